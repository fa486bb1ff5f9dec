/- Add, Sub. Compare. divide, where the divisor has one limb or is greater. DivMod, from what divide returns. Power. -/
import Derived.Laws.BitsAllLaws
import Derived.Test.YtehgeoipbgpocaaGreatDoorIn4
namespace Go.Proofs.YtehgeoipbgpocaaGreatDoor.I
set_option linter.unusedVariables false
set_option linter.unusedSimpArgs false
open Go.RowKit Go.Shelf
attribute [local go_sem low] Bel.cell Bel.frozen alloc_cell alloc_frozen

theorem add_lt10 {a b d e : Nat} (h1 : a < 10 ^ d) (h2 : b < 10 ^ e) : a + b < 10 ^ (max d e + 1) := by
  have h3 : (10 : Nat) ^ d ≤ 10 ^ max d e := Nat.pow_le_pow_right (by decide) (Nat.le_max_left _ _)
  have h4 : (10 : Nat) ^ e ≤ 10 ^ max d e := Nat.pow_le_pow_right (by decide) (Nat.le_max_right _ _)
  rw [Nat.pow_succ]
  omega
theorem lim_add (a b : Int) (ha : nd a ≤ 80000) (hb : nd b ≤ 80000) : (lim (a.natAbs + b.natAbs)).length ≤ 10000 := lim_le2 (add_lt10 (nd_lt a) (nd_lt b)) (by omega)
theorem lim_sub (a b : Int) (ha : nd a ≤ 80000) : (lim (a.natAbs - b.natAbs)).length ≤ 10000 := lim_le2 (Nat.lt_of_le_of_lt (Nat.sub_le _ _) (nd_lt a)) (by omega)
theorem sg_add {a b : Int} (h : decide (a < 0) = decide (b < 0)) : sg (decide (a < 0)) (a.natAbs + b.natAbs) = a + b := by
  unfold sg
  by_cases h1 : a < 0 <;> by_cases h2 : b < 0 <;> simp [h1, h2] at h ⊢ <;> omega
theorem sg_sub1 {a b : Int} (h : decide (a < 0) ≠ decide (b < 0)) (hc : b.natAbs ≤ a.natAbs) : sg (decide (a < 0)) (a.natAbs - b.natAbs) = a + b := by
  unfold sg
  by_cases h1 : a < 0 <;> by_cases h2 : b < 0 <;> simp [h1, h2] at h ⊢ <;> omega
theorem sg_sub2 {a b : Int} (h : decide (a < 0) ≠ decide (b < 0)) (hc : a.natAbs < b.natAbs) : sg (decide (b < 0)) (b.natAbs - a.natAbs) = a + b := by
  unfold sg
  by_cases h1 : a < 0 <;> by_cases h2 : b < 0 <;> simp [h1, h2] at h ⊢ <;> omega
theorem add_small {a b : Int} (h1 : nd a ≤ 18) (h2 : nd b ≤ 18) : -2000000000000000000 ≤ a + b ∧ a + b ≤ 2000000000000000000 := by
  have h3 := nd_lt a
  have h4 := nd_lt b
  have h5 : (10 : Nat) ^ nd a ≤ 10 ^ 18 := Nat.pow_le_pow_right (by decide) h1
  have h6 : (10 : Nat) ^ nd b ≤ 10 ^ 18 := Nat.pow_le_pow_right (by decide) h2
  have h7 : (10 : Nat) ^ 18 = 1000000000000000000 := rfl
  omega
set_option maxRecDepth 100000 in
set_option maxHeartbeats 12800000 in
theorem add_any (a b : Int) (w : World) (ha : nd a ≤ 80000) (hb : nd b ≤ 80000) (hT : Tab w) :
    Calls Tryz.prog 148 #[.string ⟨(iT a).toArray⟩, .string ⟨(iT b).toArray⟩] w (Ret (.string ⟨(iT (a + b)).toArray⟩) w) := by
  have HT := Lib.hid hT
  clear hT
  have HSa := Lib.hid (fun w' => split_any a w' (show nd a ≤ 80000 by omega))
  have HSb := Lib.hid (fun w' => split_any b w' (show nd b ≤ 80000 by omega))
  have hla := lim_nd a (by omega)
  have hlb := lim_nd b (by omega)
  have hlp := lim_add a b ha hb
  have hls := lim_sub a b ha
  have hlt := lim_sub b a hb
  have HSG := Lib.hid (@sg_add a b)
  have HS1 := Lib.hid (@sg_sub1 a b)
  have HS2 := Lib.hid (@sg_sub2 a b)
  have HQa := Lib.hid (fun w' (h : nd a ≤ 18) => quick_18 a w' h)
  have HQb := Lib.hid (fun w' (h : nd b ≤ 18) => quick_18 b w' h)
  have HNa := Lib.hid (fun w' (h : 18 < nd a) => quick_n18 a w' h (show nd a ≤ 100000 by omega))
  have HNb := Lib.hid (fun w' (h : 18 < nd b) => quick_n18 b w' h (show nd b ≤ 100000 by omega))
  have HMS := Lib.hid (@add_small a b)
  obtain ⟨p, hp⟩ : ∃ p, a + b = p := ⟨_, rfl⟩
  rw [hp] at HSG HMS HS1 HS2 ⊢
  have HP := Lib.hid hp
  clear hp
  obtain ⟨ma, hma⟩ : ∃ m, decide (a < 0) = m := ⟨_, rfl⟩
  obtain ⟨mb, hmb⟩ : ∃ m, decide (b < 0) = m := ⟨_, rfl⟩
  rw [hma] at HSa HSG HS1 HS2
  rw [hmb] at HSb HSG HS1 HS2
  clear hma hmb
  by_cases h9 : nd a ≤ 18
  · by_cases h9b : nd b ≤ 18
    · have hms := HMS.out h9 h9b
      have hw : IntKind.i64.wrap p = p := IntWalk.i64_in _ (by omega)
      have hpe : a + b = p := HP.out
      go_enter Tryz.func148, Tryz.ntmps148
      go_wp2_with fail
      (with_reducible refine (HQa.out _ h9).mono ?_)
      rintro _ _ ⟨rfl, x1, rfl⟩
      have hx1 := x1.size_le
      dsimp only
      go_wp2_with fail
      (with_reducible refine (HQb.out _ h9b).mono ?_)
      rintro _ _ ⟨rfl, x2, rfl⟩
      have hx2 := x2.size_le
      dsimp only
      go_wp2_with fail
      (with_reducible refine (of_any p _ (by omega) (by omega) (HT.out.of (by (repeat' (first | (with_reducible first | apply Zl1 | apply Zl2 | apply Zl3 | apply Zl4 | apply Zl5 | apply Zl6 | apply Zl7 | apply Zl8 | apply Zl9 | apply Zla | apply Zlb | apply Zlc) | (dsimp only; with_reducible first | apply Zl8 | apply Zl2 | apply Zld) | with_reducible assumption | omega | (dsimp only; omega)))))).mono ?_)
      rintro _ _ ⟨rfl, x3, rfl⟩
      go_wp2
      go_ret
      exact Ret.mk (by rfl) (by (repeat' (first | (with_reducible first | apply Zl1 | apply Zl2 | apply Zl3 | apply Zl4 | apply Zl5 | apply Zl6 | apply Zl7 | apply Zl8 | apply Zl9 | apply Zla | apply Zlb | apply Zlc) | (dsimp only; with_reducible first | apply Zl8 | apply Zl2 | apply Zld) | with_reducible assumption | omega | (dsimp only; omega))))
    · go_enter Tryz.func148, Tryz.ntmps148
      go_wp2_with fail
      (with_reducible refine (HQa.out _ h9).mono ?_)
      rintro _ _ ⟨rfl, x1, rfl⟩
      have hx1 := x1.size_le
      dsimp only
      go_wp2_with fail
      (with_reducible refine (HNb.out _ (by omega)).mono ?_)
      rintro _ _ ⟨rfl, x2, rfl⟩
      have hx2 := x2.size_le
      dsimp only
      go_wp2_with fail
      refine (HSa.out _).mono ?_
      rintro _ _ ⟨v1, rfl, y1, rfl, hv1⟩
      have hs1 := y1.size_le
      obtain ⟨p1, c1, rfl, hL1⟩ := limbs_own hv1
      have HV1 := Lib.hid hv1
      clear hv1 hL1
      dsimp only
      go_wp2_with fail
      refine (HSb.out _).mono ?_
      rintro _ _ ⟨v2, rfl, y2, rfl, hv2⟩
      have hs2 := y2.size_le
      obtain ⟨p2, c2, rfl, hL2⟩ := limbs_own hv2
      have hW1 := ownV_bel HV1.out y2
      obtain ⟨p1', c1', he1, hL1⟩ := limbs_own hW1
      cases he1
      have HL1 := Lib.hid hL1
      have HL2 := Lib.hid hL2
      clear hW1 hL1 hL2 hv2
      dsimp only
      by_cases hmm : ma = mb
      · subst hmm
        have HE := Lib.hid (HSG.out rfl)
        have hq : (ma == ma) = true := by simp
        go_wp2_with fail
        refine (plus_any _ _ _ _ _ _ _ HL1.out HL2.out hla hlb).mono ?_
        rintro _ _ ⟨v3, rfl, y3, rfl, hv3⟩
        have hs3 := y3.size_le
        obtain ⟨p3, c3, rfl, hL3⟩ := limbs_own hv3
        dsimp only
        go_wp2_with fail
        refine (signed_any _ _ _ _ _ hL3 hlp (HT.out.of (by (repeat' (first | (with_reducible first | apply Zl1 | apply Zl2 | apply Zl3 | apply Zl4 | apply Zl5 | apply Zl6 | apply Zl7 | apply Zl8 | apply Zl9 | apply Zla | apply Zlb | apply Zlc) | (dsimp only; with_reducible first | apply Zl8 | apply Zl2 | apply Zld) | with_reducible assumption | omega | (dsimp only; omega)))))).mono ?_
        rintro _ _ ⟨rfl, y4, rfl⟩
        dsimp only
        go_wp2
        go_ret
        exact Ret.mk (by rw [← HE.out]; rfl) (by (repeat' (first | (with_reducible first | apply Zl1 | apply Zl2 | apply Zl3 | apply Zl4 | apply Zl5 | apply Zl6 | apply Zl7 | apply Zl8 | apply Zl9 | apply Zla | apply Zlb | apply Zlc) | (dsimp only; with_reducible first | apply Zl8 | apply Zl2 | apply Zld) | with_reducible assumption | omega | (dsimp only; omega))))
      · have hq : (ma == mb) = false := beq_eq_false_iff_ne.2 hmm
        have HM := Lib.hid hmm
        clear hmm
        go_wp2_with fail
        refine (compare_any _ _ _ _ _ _ _ HL1.out HL2.out (by omega) (by omega)).mono ?_
        rintro _ _ ⟨rfl, y5, rfl⟩
        have hs5 := y5.size_le
        have HL1' := Lib.hid (limbs_of HL1.out y5.below)
        have HL2' := Lib.hid (limbs_of HL2.out y5.below)
        by_cases hc : a.natAbs < b.natAbs
        · have hcm : cmpN a.natAbs b.natAbs = -1 := if_pos hc
          have HE := Lib.hid (HS2.out HM.out hc)
          rw [hcm]
          clear hcm
          dsimp only
          go_wp2_with fail
          refine (less_any _ _ _ _ _ _ _ HL2'.out HL1'.out hlb (by omega)).mono ?_
          rintro _ _ ⟨v3, rfl, y3, rfl, hv3⟩
          have hs3 := y3.size_le
          obtain ⟨p3, c3, rfl, hL3⟩ := limbs_own hv3
          dsimp only
          go_wp2_with fail
          refine (signed_any _ _ _ _ _ hL3 hlt (HT.out.of (by (repeat' (first | (with_reducible first | apply Zl1 | apply Zl2 | apply Zl3 | apply Zl4 | apply Zl5 | apply Zl6 | apply Zl7 | apply Zl8 | apply Zl9 | apply Zla | apply Zlb | apply Zlc) | (dsimp only; with_reducible first | apply Zl8 | apply Zl2 | apply Zld) | with_reducible assumption | omega | (dsimp only; omega)))))).mono ?_
          rintro _ _ ⟨rfl, y4, rfl⟩
          dsimp only
          go_wp2
          go_ret
          exact Ret.mk (by rw [← HE.out]; rfl) (by (repeat' (first | (with_reducible first | apply Zl1 | apply Zl2 | apply Zl3 | apply Zl4 | apply Zl5 | apply Zl6 | apply Zl7 | apply Zl8 | apply Zl9 | apply Zla | apply Zlb | apply Zlc) | (dsimp only; with_reducible first | apply Zl8 | apply Zl2 | apply Zld) | with_reducible assumption | omega | (dsimp only; omega))))
        · have hcm : decide (0 ≤ cmpN a.natAbs b.natAbs) = true := by unfold cmpN; rw [if_neg hc]; split <;> decide
          have HE := Lib.hid (HS1.out HM.out (by omega))
          generalize cmpN a.natAbs b.natAbs = cm at *
          dsimp only
          go_wp2_with fail
          refine (less_any _ _ _ _ _ _ _ HL1'.out HL2'.out hla (by omega)).mono ?_
          rintro _ _ ⟨v3, rfl, y3, rfl, hv3⟩
          have hs3 := y3.size_le
          obtain ⟨p3, c3, rfl, hL3⟩ := limbs_own hv3
          dsimp only
          go_wp2_with fail
          refine (signed_any _ _ _ _ _ hL3 hls (HT.out.of (by (repeat' (first | (with_reducible first | apply Zl1 | apply Zl2 | apply Zl3 | apply Zl4 | apply Zl5 | apply Zl6 | apply Zl7 | apply Zl8 | apply Zl9 | apply Zla | apply Zlb | apply Zlc) | (dsimp only; with_reducible first | apply Zl8 | apply Zl2 | apply Zld) | with_reducible assumption | omega | (dsimp only; omega)))))).mono ?_
          rintro _ _ ⟨rfl, y4, rfl⟩
          dsimp only
          go_wp2
          go_ret
          exact Ret.mk (by rw [← HE.out]; rfl) (by (repeat' (first | (with_reducible first | apply Zl1 | apply Zl2 | apply Zl3 | apply Zl4 | apply Zl5 | apply Zl6 | apply Zl7 | apply Zl8 | apply Zl9 | apply Zla | apply Zlb | apply Zlc) | (dsimp only; with_reducible first | apply Zl8 | apply Zl2 | apply Zld) | with_reducible assumption | omega | (dsimp only; omega))))
  · go_enter Tryz.func148, Tryz.ntmps148
    go_wp2_with fail
    (with_reducible refine (HNa.out _ (by omega)).mono ?_)
    rintro _ _ ⟨rfl, x1, rfl⟩
    have hx1 := x1.size_le
    dsimp only
    go_wp2_with fail
    refine (HSa.out _).mono ?_
    rintro _ _ ⟨v1, rfl, y1, rfl, hv1⟩
    have hs1 := y1.size_le
    obtain ⟨p1, c1, rfl, hL1⟩ := limbs_own hv1
    have HV1 := Lib.hid hv1
    clear hv1 hL1
    dsimp only
    go_wp2_with fail
    refine (HSb.out _).mono ?_
    rintro _ _ ⟨v2, rfl, y2, rfl, hv2⟩
    have hs2 := y2.size_le
    obtain ⟨p2, c2, rfl, hL2⟩ := limbs_own hv2
    have hW1 := ownV_bel HV1.out y2
    obtain ⟨p1', c1', he1, hL1⟩ := limbs_own hW1
    cases he1
    have HL1 := Lib.hid hL1
    have HL2 := Lib.hid hL2
    clear hW1 hL1 hL2 hv2
    dsimp only
    by_cases hmm : ma = mb
    · subst hmm
      have HE := Lib.hid (HSG.out rfl)
      have hq : (ma == ma) = true := by simp
      go_wp2_with fail
      refine (plus_any _ _ _ _ _ _ _ HL1.out HL2.out hla hlb).mono ?_
      rintro _ _ ⟨v3, rfl, y3, rfl, hv3⟩
      have hs3 := y3.size_le
      obtain ⟨p3, c3, rfl, hL3⟩ := limbs_own hv3
      dsimp only
      go_wp2_with fail
      refine (signed_any _ _ _ _ _ hL3 hlp (HT.out.of (by (repeat' (first | (with_reducible first | apply Zl1 | apply Zl2 | apply Zl3 | apply Zl4 | apply Zl5 | apply Zl6 | apply Zl7 | apply Zl8 | apply Zl9 | apply Zla | apply Zlb | apply Zlc) | (dsimp only; with_reducible first | apply Zl8 | apply Zl2 | apply Zld) | with_reducible assumption | omega | (dsimp only; omega)))))).mono ?_
      rintro _ _ ⟨rfl, y4, rfl⟩
      dsimp only
      go_wp2
      go_ret
      exact Ret.mk (by rw [← HE.out]; rfl) (by (repeat' (first | (with_reducible first | apply Zl1 | apply Zl2 | apply Zl3 | apply Zl4 | apply Zl5 | apply Zl6 | apply Zl7 | apply Zl8 | apply Zl9 | apply Zla | apply Zlb | apply Zlc) | (dsimp only; with_reducible first | apply Zl8 | apply Zl2 | apply Zld) | with_reducible assumption | omega | (dsimp only; omega))))
    · have hq : (ma == mb) = false := beq_eq_false_iff_ne.2 hmm
      have HM := Lib.hid hmm
      clear hmm
      go_wp2_with fail
      refine (compare_any _ _ _ _ _ _ _ HL1.out HL2.out (by omega) (by omega)).mono ?_
      rintro _ _ ⟨rfl, y5, rfl⟩
      have hs5 := y5.size_le
      have HL1' := Lib.hid (limbs_of HL1.out y5.below)
      have HL2' := Lib.hid (limbs_of HL2.out y5.below)
      by_cases hc : a.natAbs < b.natAbs
      · have hcm : cmpN a.natAbs b.natAbs = -1 := if_pos hc
        have HE := Lib.hid (HS2.out HM.out hc)
        rw [hcm]
        clear hcm
        dsimp only
        go_wp2_with fail
        refine (less_any _ _ _ _ _ _ _ HL2'.out HL1'.out hlb (by omega)).mono ?_
        rintro _ _ ⟨v3, rfl, y3, rfl, hv3⟩
        have hs3 := y3.size_le
        obtain ⟨p3, c3, rfl, hL3⟩ := limbs_own hv3
        dsimp only
        go_wp2_with fail
        refine (signed_any _ _ _ _ _ hL3 hlt (HT.out.of (by (repeat' (first | (with_reducible first | apply Zl1 | apply Zl2 | apply Zl3 | apply Zl4 | apply Zl5 | apply Zl6 | apply Zl7 | apply Zl8 | apply Zl9 | apply Zla | apply Zlb | apply Zlc) | (dsimp only; with_reducible first | apply Zl8 | apply Zl2 | apply Zld) | with_reducible assumption | omega | (dsimp only; omega)))))).mono ?_
        rintro _ _ ⟨rfl, y4, rfl⟩
        dsimp only
        go_wp2
        go_ret
        exact Ret.mk (by rw [← HE.out]; rfl) (by (repeat' (first | (with_reducible first | apply Zl1 | apply Zl2 | apply Zl3 | apply Zl4 | apply Zl5 | apply Zl6 | apply Zl7 | apply Zl8 | apply Zl9 | apply Zla | apply Zlb | apply Zlc) | (dsimp only; with_reducible first | apply Zl8 | apply Zl2 | apply Zld) | with_reducible assumption | omega | (dsimp only; omega))))
      · have hcm : decide (0 ≤ cmpN a.natAbs b.natAbs) = true := by unfold cmpN; rw [if_neg hc]; split <;> decide
        have HE := Lib.hid (HS1.out HM.out (by omega))
        generalize cmpN a.natAbs b.natAbs = cm at *
        dsimp only
        go_wp2_with fail
        refine (less_any _ _ _ _ _ _ _ HL1'.out HL2'.out hla (by omega)).mono ?_
        rintro _ _ ⟨v3, rfl, y3, rfl, hv3⟩
        have hs3 := y3.size_le
        obtain ⟨p3, c3, rfl, hL3⟩ := limbs_own hv3
        dsimp only
        go_wp2_with fail
        refine (signed_any _ _ _ _ _ hL3 hls (HT.out.of (by (repeat' (first | (with_reducible first | apply Zl1 | apply Zl2 | apply Zl3 | apply Zl4 | apply Zl5 | apply Zl6 | apply Zl7 | apply Zl8 | apply Zl9 | apply Zla | apply Zlb | apply Zlc) | (dsimp only; with_reducible first | apply Zl8 | apply Zl2 | apply Zld) | with_reducible assumption | omega | (dsimp only; omega)))))).mono ?_
        rintro _ _ ⟨rfl, y4, rfl⟩
        dsimp only
        go_wp2
        go_ret
        exact Ret.mk (by rw [← HE.out]; rfl) (by (repeat' (first | (with_reducible first | apply Zl1 | apply Zl2 | apply Zl3 | apply Zl4 | apply Zl5 | apply Zl6 | apply Zl7 | apply Zl8 | apply Zl9 | apply Zla | apply Zlb | apply Zlc) | (dsimp only; with_reducible first | apply Zl8 | apply Zl2 | apply Zld) | with_reducible assumption | omega | (dsimp only; omega))))
theorem nd_neg (z : Int) : nd (-z) = nd z := by unfold nd; rw [Int.natAbs_neg]
end Go.Proofs.YtehgeoipbgpocaaGreatDoor.I

namespace Go.Proofs.YtehgeoipbgpocaaGreatDoor.I
set_option linter.unusedVariables false
set_option linter.unusedSimpArgs false
open Go.RowKit Go.Shelf
attribute [local go_sem low] Bel.cell Bel.frozen alloc_cell alloc_frozen

theorem numD_cons (c : UInt8) (l : List UInt8) : numD (c :: l) = (c.toNat - 48) * 10 ^ l.length + numD l := by
  rw [show c :: l = [c] ++ l from rfl, numD_app]
  simp [numD]
theorem cmp_step {x y p q k : Nat} (h : x < y) (hp : p < 10 ^ k) : x * 10 ^ k + p < y * 10 ^ k + q := by
  have := Nat.mul_le_mul_right (10 ^ k) (show x + 1 ≤ y by omega)
  rw [Nat.add_mul, Nat.one_mul] at this
  omega
theorem cmpN_add (k x y : Nat) : cmpN (k + x) (k + y) = cmpN x y := by unfold cmpN; simp only [Nat.add_lt_add_iff_left]
theorem cmp_digits : ∀ l m : List UInt8, l.length = m.length → Digits l → Digits m → Lib.compareBytes l m = cmpN (numD l) (numD m)
  | [], [], _, _, _ => by rw [Lib.compareBytes]; rfl
  | [], _ :: _, h, _, _ => by simp at h
  | _ :: _, [], h, _, _ => by simp at h
  | a :: l, b :: m, h, hl, hm => by
    have h' : l.length = m.length := by simpa using h
    have ha := hl a List.mem_cons_self
    have hb := hm b List.mem_cons_self
    have hl' : Digits l := fun c hc => hl c (List.mem_cons_of_mem _ hc)
    have hm' : Digits m := fun c hc => hm c (List.mem_cons_of_mem _ hc)
    have ih := cmp_digits l m h' hl' hm'
    have n1 := numD_lt hl'
    have n2 := numD_lt hm'
    rw [Lib.compareBytes, numD_cons, numD_cons, h'] 
    rw [h'] at n1
    by_cases h1 : a < b
    · rw [if_pos h1]
      have h1' : a.toNat < b.toNat := UInt8.lt_iff_toNat_lt.1 h1
      have := @cmp_step (a.toNat - 48) (b.toNat - 48) (numD l) (numD m) m.length (by omega) n1
      unfold cmpN
      rw [if_pos this]
    · rw [if_neg h1]
      by_cases h2 : b < a
      · rw [if_pos h2]
        have h2' : b.toNat < a.toNat := UInt8.lt_iff_toNat_lt.1 h2
        have := @cmp_step (b.toNat - 48) (a.toNat - 48) (numD m) (numD l) m.length (by omega) n2
        unfold cmpN
        rw [if_neg (by omega), if_pos this]
      · rw [if_neg h2, ih]
        have e : a.toNat = b.toNat := by
          have q1 := mt UInt8.lt_iff_toNat_lt.2 h1
          have q2 := mt UInt8.lt_iff_toNat_lt.2 h2
          omega
        rw [e]
        exact (cmpN_add _ _ _).symm
theorem dec_ge {u : Nat} (h0 : u ≠ 0) : 10 ^ ((Lib.decDigits u).length - 1) ≤ u := by
  obtain ⟨c, r, h, h1, h2⟩ := dec_cons u
  have h3 := dec_head u h0 c r h
  have h4 := dec_num u
  rw [h, numD_cons] at h4
  rw [h, List.length_cons, Nat.add_sub_cancel]
  have := Nat.mul_le_mul_right (10 ^ r.length) (show 1 ≤ c.toNat - 48 by omega)
  omega
theorem nd_cmp {a b : Int} (h : nd a < nd b) : a.natAbs < b.natAbs := by
  have h1 := nd_lt a
  by_cases hb : b.natAbs = 0
  · have : nd b = 1 := by unfold nd; rw [hb, dec_small (by decide)]; rfl
    have h2 := dec_pos a.natAbs
    unfold nd at *
    omega
  · have h2 := dec_ge hb
    have h3 : (10 : Nat) ^ nd a ≤ 10 ^ (nd b - 1) := Nat.pow_le_pow_right (by decide) (by omega)
    unfold nd at *
    omega
/-- What Compare returns. -/
def cmpI (a b : Int) : Int := if a < b then -1 else if b < a then 1 else 0
theorem cmpI_sign1 {a b : Int} (h : a.sign < b.sign) : cmpI a b = -1 := by
  unfold cmpI
  rw [if_pos]
  rcases Int.lt_trichotomy a 0 with h1 | h1 | h1 <;> rcases Int.lt_trichotomy b 0 with h2 | h2 | h2
  all_goals first | omega | (exfalso; simp only [Int.sign_eq_neg_one_of_neg, Int.sign_eq_one_of_pos, h1, h2, Int.sign_zero] at h; omega)
theorem cmpI_sign2 {a b : Int} (h : b.sign < a.sign) : cmpI a b = 1 := by
  have := cmpI_sign1 h
  unfold cmpI at *
  by_cases h1 : b < a
  · rw [if_neg (by omega), if_pos h1]
  · rw [if_neg h1] at this
    split at this <;> simp at this
theorem cmpI_same {a b : Int} (h : a.sign = b.sign) : cmpI a b = a.sign * cmpN a.natAbs b.natAbs := by
  unfold cmpI cmpN
  rcases Int.lt_trichotomy a 0 with h1 | h1 | h1 <;> rcases Int.lt_trichotomy b 0 with h2 | h2 | h2
  all_goals first
    | (exfalso; simp only [Int.sign_eq_neg_one_of_neg, Int.sign_eq_one_of_pos, h1, h2, Int.sign_zero] at h; omega)
    | (first | rw [Int.sign_eq_neg_one_of_neg h1] | rw [Int.sign_eq_one_of_pos h1] | (rw [h1, Int.sign_zero]))
  all_goals (repeat' split) <;> omega
theorem strCmp_any (a b : Int) (w : World) (h : nd a = nd b) : Calls Tryz.prog 156 #[.string ⟨(Lib.decDigits a.natAbs).toArray⟩, .string ⟨(Lib.decDigits b.natAbs).toArray⟩] w (Ret (.int .i64 (cmpN a.natAbs b.natAbs)) w) := by
  refine (Tryz.strings_Compare ⟨(Lib.decDigits a.natAbs).toArray⟩ ⟨(Lib.decDigits b.natAbs).toArray⟩ w).mono fun e w' ⟨he, hw⟩ => ⟨?_, ⟨w, Below.refl _ _⟩, hw⟩
  rw [he]
  show Ending.returned (.int .i64 (Lib.compareBytes (Lib.decDigits a.natAbs) (Lib.decDigits b.natAbs))) = _
  rw [cmp_digits _ _ h (dec_digits _) (dec_digits _), dec_num, dec_num]
theorem cmpN_in (m n : Nat) : cmpN m n = -1 ∨ cmpN m n = 0 ∨ cmpN m n = 1 := by unfold cmpN; split; · exact .inl rfl
                                                                                · split; · exact .inr (.inr rfl)
                                                                                  · exact .inr (.inl rfl)
theorem sign_in (a : Int) : a.sign = -1 ∨ a.sign = 0 ∨ a.sign = 1 := by
  rcases Int.lt_trichotomy a 0 with h | h | h
  · exact .inl (Int.sign_eq_neg_one_of_neg h)
  · exact .inr (.inl (by rw [h]; rfl))
  · exact .inr (.inr (Int.sign_eq_one_of_pos h))
set_option maxRecDepth 100000 in
set_option maxHeartbeats 6400000 in
theorem compareI_any (a b : Int) (w : World) (ha : nd a ≤ 80000) (hb : nd b ≤ 80000) : Calls Tryz.prog 93 #[.string ⟨(iT a).toArray⟩, .string ⟨(iT b).toArray⟩] w (Ret (.int .i64 (cmpI a b)) w) := by
  have HSa := Lib.hid (sign_any a)
  have HSb := Lib.hid (sign_any b)
  have HCa := Lib.hid (cut_any a)
  have HCb := Lib.hid (cut_any b)
  have HST := Lib.hid (fun w' (h : nd a = nd b) => strCmp_any a b w' h)
  have H1 := Lib.hid (@cmpI_sign1 a b)
  have H2 := Lib.hid (@cmpI_sign2 a b)
  have H3 := Lib.hid (@cmpI_same a b)
  have H4 := Lib.hid (@nd_cmp a b)
  have H5 := Lib.hid (@nd_cmp b a)
  have hsi := sign_in a
  have hna : nd a = (Lib.decDigits a.natAbs).length := rfl
  have hnb : nd b = (Lib.decDigits b.natAbs).length := rfl
  generalize a.sign = s at *
  generalize b.sign = u at *
  generalize decide (a < 0) = ma at *
  generalize decide (b < 0) = mb at *
  generalize iT a = ta at *
  generalize iT b = tb at *
  generalize Lib.decDigits a.natAbs = da at *
  generalize Lib.decDigits b.natAbs = db at *
  by_cases h1 : s < u
  · have HR := Lib.hid (H1.out h1)
    go_enter Tryz.func93, Tryz.ntmps93
    go_wp2_with fail
    (with_reducible refine (HSa.out _).mono ?_)
    rintro _ _ ⟨rfl, x1, rfl⟩
    go_wp2_with fail
    (with_reducible refine (HSb.out _).mono ?_)
    rintro _ _ ⟨rfl, x2, rfl⟩
    go_wp2
    go_ret
    exact Ret.mk (by rw [HR.out]; rfl) (by (repeat' (first | (with_reducible first | apply Zl1 | apply Zl2 | apply Zl3 | apply Zl4 | apply Zl5 | apply Zl6 | apply Zl7 | apply Zl8 | apply Zl9 | apply Zla | apply Zlb | apply Zlc) | (dsimp only; with_reducible first | apply Zl8 | apply Zl2 | apply Zld) | with_reducible assumption | omega | (dsimp only; omega))))
  · by_cases h2 : u < s
    · have HR := Lib.hid (H2.out h2)
      go_enter Tryz.func93, Tryz.ntmps93
      go_wp2_with fail
      (with_reducible refine (HSa.out _).mono ?_)
      rintro _ _ ⟨rfl, x1, rfl⟩
      go_wp2_with fail
      (with_reducible refine (HSb.out _).mono ?_)
      rintro _ _ ⟨rfl, x2, rfl⟩
      go_wp2
      go_ret
      exact Ret.mk (by rw [HR.out]; rfl) (by (repeat' (first | (with_reducible first | apply Zl1 | apply Zl2 | apply Zl3 | apply Zl4 | apply Zl5 | apply Zl6 | apply Zl7 | apply Zl8 | apply Zl9 | apply Zla | apply Zlb | apply Zlc) | (dsimp only; with_reducible first | apply Zl8 | apply Zl2 | apply Zld) | with_reducible assumption | omega | (dsimp only; omega))))
    · obtain rfl : s = u := by omega
      have HR := Lib.hid (H3.out rfl)
      clear h1 h2
      rcases Nat.lt_trichotomy da.length db.length with hl | hl | hl
      · have hl' : (da.length : Int) < (db.length : Int) := by omega
        have HC := Lib.hid (show cmpN a.natAbs b.natAbs = -1 from if_pos (H4.out (by omega)))
        have hw : IntKind.i64.wrap (-s) = -s := IntWalk.i64_in _ (by omega)
        go_enter Tryz.func93, Tryz.ntmps93
        go_wp2_with fail
        (with_reducible refine (HSa.out _).mono ?_)
        rintro _ _ ⟨rfl, x1, rfl⟩
        go_wp2_with fail
        (with_reducible refine (HSb.out _).mono ?_)
        rintro _ _ ⟨rfl, x2, rfl⟩
        go_wp2_with fail
        (with_reducible refine (HCa.out _).mono ?_)
        rintro _ _ ⟨rfl, x3, rfl⟩
        dsimp only
        go_wp2_with fail
        (with_reducible refine (HCb.out _).mono ?_)
        rintro _ _ ⟨rfl, x4, rfl⟩
        dsimp only
        go_wp2
        go_ret
        exact Ret.mk (by rw [HR.out, HC.out, Int.mul_neg, Int.mul_one]; rfl) (by (repeat' (first | (with_reducible first | apply Zl1 | apply Zl2 | apply Zl3 | apply Zl4 | apply Zl5 | apply Zl6 | apply Zl7 | apply Zl8 | apply Zl9 | apply Zla | apply Zlb | apply Zlc) | (dsimp only; with_reducible first | apply Zl8 | apply Zl2 | apply Zld) | with_reducible assumption | omega | (dsimp only; omega))))
      · have HC := Lib.hid (HST.out · (by omega))
        have hci := cmpN_in a.natAbs b.natAbs
        generalize cmpN a.natAbs b.natAbs = c at *
        obtain ⟨p, hp⟩ : ∃ p, s * c = p := ⟨_, rfl⟩
        have hpb : -1 ≤ p ∧ p ≤ 1 := by
          rw [← hp]
          rcases hsi with rfl | rfl | rfl <;> rcases hci with rfl | rfl | rfl <;> decide
        have hw : IntKind.i64.wrap p = p := IntWalk.i64_in _ (by omega)
        rw [hp] at HR
        have n1 : ¬ (da.length : Int) < (db.length : Int) := by omega
        have n2 : ¬ (db.length : Int) < (da.length : Int) := by omega
        clear hsi hci
        go_enter Tryz.func93, Tryz.ntmps93
        go_wp2_with fail
        (with_reducible refine (HSa.out _).mono ?_)
        rintro _ _ ⟨rfl, x1, rfl⟩
        go_wp2_with fail
        (with_reducible refine (HSb.out _).mono ?_)
        rintro _ _ ⟨rfl, x2, rfl⟩
        go_wp2_with fail
        (with_reducible refine (HCa.out _).mono ?_)
        rintro _ _ ⟨rfl, x3, rfl⟩
        dsimp only
        go_wp2_with fail
        (with_reducible refine (HCb.out _).mono ?_)
        rintro _ _ ⟨rfl, x4, rfl⟩
        dsimp only
        go_wp2_with fail
        (with_reducible refine (HC.out _).mono ?_)
        rintro _ _ ⟨rfl, x5, rfl⟩
        go_wp2
        go_ret
        exact Ret.mk (by rw [HR.out]; rfl) (by (repeat' (first | (with_reducible first | apply Zl1 | apply Zl2 | apply Zl3 | apply Zl4 | apply Zl5 | apply Zl6 | apply Zl7 | apply Zl8 | apply Zl9 | apply Zla | apply Zlb | apply Zlc) | (dsimp only; with_reducible first | apply Zl8 | apply Zl2 | apply Zld) | with_reducible assumption | omega | (dsimp only; omega))))
      · have hl' : (db.length : Int) < (da.length : Int) := by omega
        have n1 : ¬ (da.length : Int) < (db.length : Int) := by omega
        have HC := Lib.hid (show cmpN a.natAbs b.natAbs = 1 from (if_neg (by have := H5.out (by omega); omega)).trans (if_pos (H5.out (by omega))))
        go_enter Tryz.func93, Tryz.ntmps93
        go_wp2_with fail
        (with_reducible refine (HSa.out _).mono ?_)
        rintro _ _ ⟨rfl, x1, rfl⟩
        go_wp2_with fail
        (with_reducible refine (HSb.out _).mono ?_)
        rintro _ _ ⟨rfl, x2, rfl⟩
        go_wp2_with fail
        (with_reducible refine (HCa.out _).mono ?_)
        rintro _ _ ⟨rfl, x3, rfl⟩
        dsimp only
        go_wp2_with fail
        (with_reducible refine (HCb.out _).mono ?_)
        rintro _ _ ⟨rfl, x4, rfl⟩
        dsimp only
        go_wp2
        go_ret
        exact Ret.mk (by rw [HR.out, HC.out, Int.mul_one]; rfl) (by (repeat' (first | (with_reducible first | apply Zl1 | apply Zl2 | apply Zl3 | apply Zl4 | apply Zl5 | apply Zl6 | apply Zl7 | apply Zl8 | apply Zl9 | apply Zla | apply Zlb | apply Zlc) | (dsimp only; with_reducible first | apply Zl8 | apply Zl2 | apply Zld) | with_reducible assumption | omega | (dsimp only; omega))))
end Go.Proofs.YtehgeoipbgpocaaGreatDoor.I

namespace Go.Proofs.YtehgeoipbgpocaaGreatDoor.I
set_option linter.unusedVariables false
set_option linter.unusedSimpArgs false
open Go.RowKit Go.Shelf
attribute [local go_sem low] Bel.cell Bel.frozen alloc_cell alloc_frozen

theorem ownV_one (w : World) (e : TypeId) (x : Value) : OwnV (w.alloc (.cells #[x] e)) w.heap.size e (.slice (some ⟨w.heap.size, 0, none⟩) 1 1) [x] := by
  refine ⟨rfl, .inr ⟨w.heap.size, 1, #[x], rfl, Nat.le_refl _, ?_, Nat.le_refl _, by unfold maxLen; omega, rfl, rfl⟩⟩
  show (w.heap.push _)[w.heap.size]? = _
  simp
/-- A slice that shows a magnitude. -/
def LV (w : World) (v : Value) (n : Nat) : Prop := ∃ a cap, v = .slice a (lim n).length cap ∧ Limbs w a (lim n)
theorem LV.of {w w' : World} {v : Value} {n : Nat} (h : LV w v n) (hb : Below w.heap.size w w') : LV w' v n := by
  obtain ⟨a, cap, hv, hl⟩ := h
  exact ⟨a, cap, hv, limbs_of hl hb⟩
theorem LV.own {w : World} {base : Nat} {v : Value} {n : Nat} (h : OwnV w base 76 v (uVs (lim n))) : LV w v n := limbs_own h
def DivRet (w : World) (q r : Nat) (e : Ending) (w' : World) : Prop := ∃ v u, e = .returned (.tuple #[v, u]) ∧ ∃ y : Bel w, w' = y.w ∧ LV y.w v q ∧ LV y.w u r
theorem LV.zero (w : World) : LV w (.slice none 0 0) 0 := ⟨none, 0, by rw [show lim 0 = [] from limbs_zero _]; rfl, fun h => absurd h (by rw [show lim 0 = [] from limbs_zero _]; decide)⟩
theorem lim_one {n : Nat} (h0 : n ≠ 0) (h : n < 1000000000) : lim n = [n] := by
  show limbs 1000000000 n = [n]
  rw [limbs_pos (by decide) h0, Nat.mod_eq_of_lt h, Nat.div_eq_of_lt h, limbs_zero]
set_option maxRecDepth 100000 in
set_option maxHeartbeats 6400000 in
theorem divide_lt (a b : Option Addr) (cap cap' m n : Nat) (w : World) (h1 : Limbs w a (lim m)) (h2 : Limbs w b (lim n)) (hl1 : (lim m).length ≤ 10000) (hl2 : (lim n).length ≤ 10000) (h : m < n) :
    Calls Tryz.prog 286 #[.slice a (lim m).length cap, .slice b (lim n).length cap'] w (DivRet w 0 m) := by
  have HC := Lib.hid (compare_any a b cap cap' m n w h1 h2 (by omega) (by omega))
  rw [show cmpN m n = -1 from if_pos h] at HC
  have HL := Lib.hid (show ∀ y : Bel w, LV y.w (.slice a (lim m).length cap) m from fun y => ⟨a, cap, rfl, limbs_of h1 y.below⟩)
  clear h1 h2
  generalize (lim m).length = lm at *
  generalize (lim n).length = ln at *
  go_enter Tryz.func286, Tryz.ntmps286
  go_wp2_with fail
  (with_reducible refine HC.out.mono ?_)
  rintro _ _ ⟨rfl, x1, rfl⟩
  go_wp2
  go_ret2
  exact ⟨_, _, rfl, x1, rfl, LV.zero _, HL.out x1⟩
set_option maxRecDepth 100000 in
set_option maxHeartbeats 6400000 in
theorem divide_one (a b : Option Addr) (cap cap' m n : Nat) (w : World) (h1 : Limbs w a (lim m)) (h2 : Limbs w b (lim n)) (hl1 : (lim m).length ≤ 10000) (h : n ≤ m) (hn0 : n ≠ 0) (hn : n < 1000000000) :
    Calls Tryz.prog 286 #[.slice a (lim m).length cap, .slice b (lim n).length cap'] w (DivRet w (m / n) (m % n)) := by
  have HC := Lib.hid (compare_any a b cap cap' m n w h1 h2 (by omega) (by rw [lim_one hn0 hn]; simp))
  have hcm : decide (cmpN m n < 0) = false := by unfold cmpN; rw [if_neg (by omega)]; split <;> decide
  have hr : m % n < 1000000000 := Nat.lt_trans (Nat.mod_lt _ (by omega)) hn
  have HB := Lib.hid (fun (y : Bel w) => by_any a cap m n y.w (limbs_of h1 y.below) hl1 (by omega) hn)
  rw [lim_one hn0 hn] at h2 HC ⊢
  rw [List.length_singleton] at HC ⊢
  obtain ⟨bb, off, rfl, hc⟩ := h2 (by simp)
  have g0 := hc 0 n rfl
  rw [Nat.add_zero] at g0
  clear h1 h2 hc
  have HT := Lib.hid (show trimL [m % n] = lim (m % n) from trimL_val (by decide) (fun x hx => by rw [List.mem_singleton.1 hx]; exact hr) (by simp [valB]))
  generalize (lim m).length = lm at *
  generalize cmpN m n = cm at *
  generalize m / n = Q at *
  generalize m % n = R at *
  go_enter Tryz.func286, Tryz.ntmps286
  go_wp2_with fail
  (with_reducible refine HC.out.mono ?_)
  rintro _ _ ⟨rfl, x1, rfl⟩
  have hx1 := x1.size_le
  go_wp2_with fail
  refine (HB.out x1).mono ?_
  rintro _ _ ⟨v, rfl, x2, rfl, hv⟩
  have hx2 := x2.size_le
  have HV := Lib.hid (LV.own hv)
  obtain ⟨pa, pc, rfl, hpl⟩ := limbs_own hv
  clear hv hpl
  dsimp only
  have hon := ownV_one x2.w 76 (.int .u64 (R : Int))
  have HO := Lib.hid (show OwnV (x2.w.alloc (.cells #[.int .u64 (R : Int)] 76)) x2.w.heap.size 76 (.slice (some ⟨x2.w.heap.size, 0, none⟩) [R].length 1) (uVs [R]) from hon)
  clear hon
  go_wp2_with fail
  refine (trim_own HO.out (by simp)).mono ?_
  rintro _ _ ⟨rfl, x3, rfl⟩
  have HR := Lib.hid (ownV_bel (own_trim HO.out) x3)
  rw [HT.out] at HR ⊢
  dsimp only
  go_wp2
  go_ret2
  exact ⟨_, _, rfl, ⟨x3.w, by (repeat' (first | (with_reducible first | apply Zl1 | apply Zl2 | apply Zl3 | apply Zl4 | apply Zl5 | apply Zl6 | apply Zl7 | apply Zl8 | apply Zl9 | apply Zla | apply Zlb | apply Zlc) | (dsimp only; with_reducible first | apply Zl8 | apply Zl2 | apply Zld) | with_reducible assumption | omega | (dsimp only; omega)))⟩, rfl, HV.out.of (show Below x2.w.heap.size x2.w x3.w by (repeat' (first | (with_reducible first | apply Zl1 | apply Zl2 | apply Zl3 | apply Zl4 | apply Zl5 | apply Zl6 | apply Zl7 | apply Zl8 | apply Zl9 | apply Zla | apply Zlb | apply Zlc) | (dsimp only; with_reducible first | apply Zl8 | apply Zl2 | apply Zld) | with_reducible assumption | omega | (dsimp only; omega)))), LV.own HR.out⟩
end Go.Proofs.YtehgeoipbgpocaaGreatDoor.I

namespace Go.Proofs.YtehgeoipbgpocaaGreatDoor.I
set_option linter.unusedVariables false
set_option linter.unusedSimpArgs false
open Go.RowKit Go.Shelf
attribute [local go_sem low] Bel.cell Bel.frozen alloc_cell alloc_frozen

/-- The quotient's and the rest's magnitudes. -/
def dmX (a b : Int) : Nat := if decide (a < 0) ≠ decide (b < 0) ∧ 0 < a.natAbs % b.natAbs then a.natAbs / b.natAbs + 1 else a.natAbs / b.natAbs
def dmY (a b : Int) : Nat := if decide (a < 0) ≠ decide (b < 0) ∧ 0 < a.natAbs % b.natAbs then b.natAbs - a.natAbs % b.natAbs else a.natAbs % b.natAbs
def dmQ (a b : Int) : Int := sg (decide (a < 0) != decide (b < 0)) (dmX a b)
def dmR (a b : Int) : Int := sg (decide (b < 0)) (dmY a b)
theorem lim_pos {n : Nat} : 0 < (lim n).length ↔ 0 < n := by
  have h : (lim n).length = 0 ↔ n = 0 := by rw [List.length_eq_zero_iff]; exact limbs_nil (by decide)
  omega
theorem divMod_zero (a : Int) (w : World) : Calls Tryz.prog 259 #[.string ⟨(iT a).toArray⟩, .string ⟨(iT 0).toArray⟩] w (Ret (.tuple #[.string ⟨#[]⟩, .string ⟨#[]⟩, .int .i64 17]) w) := by
  have hq := iT_is0 0
  rw [decide_eq_true rfl] at hq
  generalize iT 0 = t at *
  generalize iT a = s at *
  go_enter Tryz.func259, Tryz.ntmps259
  go_wp2
  refine bodyPost_ret (v := .tuple #[.string ⟨#[]⟩, .string ⟨#[]⟩, .int .i64 17]) (by simp [results, Tryz.results259, go_sem]) rfl (Ret.mk (by rfl) (by (repeat' (first | (with_reducible first | apply Zl1 | apply Zl2 | apply Zl3 | apply Zl4 | apply Zl5 | apply Zl6 | apply Zl7 | apply Zl8 | apply Zl9 | apply Zla | apply Zlb | apply Zlc) | (dsimp only; with_reducible first | apply Zl8 | apply Zl2 | apply Zld) | with_reducible assumption | omega | (dsimp only; omega)))))
set_option maxRecDepth 100000 in
set_option maxHeartbeats 12800000 in
theorem divMod_of (a b : Int) (w : World) (ha : nd a ≤ 70000) (hb : nd b ≤ 70000) (hb0 : b ≠ 0) (hT : Tab w)
    (HD : ∀ (pa pb : Option Addr) (ca cb : Nat) (w' : World), Limbs w' pa (lim a.natAbs) → Limbs w' pb (lim b.natAbs) → Calls Tryz.prog 286 #[.slice pa (lim a.natAbs).length ca, .slice pb (lim b.natAbs).length cb] w' (DivRet w' (a.natAbs / b.natAbs) (a.natAbs % b.natAbs))) :
    Calls Tryz.prog 259 #[.string ⟨(iT a).toArray⟩, .string ⟨(iT b).toArray⟩] w (Ret (.tuple #[.string ⟨(iT (dmQ a b)).toArray⟩, .string ⟨(iT (dmR a b)).toArray⟩, .int .i64 0]) w) := by
  have HT := Lib.hid hT
  clear hT
  have HSa := Lib.hid (fun w' => split_any a w' (show nd a ≤ 80000 by omega))
  have HSb := Lib.hid (fun w' => split_any b w' (show nd b ≤ 80000 by omega))
  have HDV := Lib.hid HD
  clear HD
  have hq0 := iT_is0 b
  rw [decide_eq_false hb0] at hq0
  have hbp : 0 < b.natAbs := by omega
  have hrl : a.natAbs % b.natAbs < b.natAbs := Nat.mod_lt _ hbp
  have hql : a.natAbs / b.natAbs ≤ a.natAbs := Nat.div_le_self _ _
  have hna := nd_lt a
  have hnb := nd_lt b
  have hlb := lim_nd b (by omega)
  have hlq : (lim (a.natAbs / b.natAbs)).length ≤ 10000 := lim_le2 (Nat.lt_of_le_of_lt hql hna) (by omega)
  have hlq1 : (lim (a.natAbs / b.natAbs + 1)).length ≤ 10000 := lim_le2 (add_lt10 (Nat.lt_of_le_of_lt hql hna) (show 1 < 10 ^ 1 by decide)) (by omega)
  have hlr : (lim (a.natAbs % b.natAbs)).length ≤ 10000 := lim_le2 (Nat.lt_trans hrl hnb) (by omega)
  have hlr1 : (lim (b.natAbs - a.natAbs % b.natAbs)).length ≤ 10000 := lim_le2 (Nat.lt_of_le_of_lt (Nat.sub_le _ _) hnb) (by omega)
  have hX : dmX a b = dmX a b := rfl
  have hY : dmY a b = dmY a b := rfl
  conv at hX => rhs; unfold dmX
  conv at hY => rhs; unfold dmY
  unfold dmQ dmR
  have hl1 : lim 1 = [1] := lim_one (by decide) (by decide)
  have hrp := @lim_pos (a.natAbs % b.natAbs)
  obtain ⟨ma, hma⟩ : ∃ m, decide (a < 0) = m := ⟨_, rfl⟩
  obtain ⟨mb, hmb⟩ : ∃ m, decide (b < 0) = m := ⟨_, rfl⟩
  rw [hma] at HSa hX hY ⊢
  rw [hmb] at HSb hX hY ⊢
  clear hma hmb hna hnb hql
  obtain ⟨Q, hQ⟩ : ∃ Q, a.natAbs / b.natAbs = Q := ⟨_, rfl⟩
  obtain ⟨R, hR⟩ : ∃ R, a.natAbs % b.natAbs = R := ⟨_, rfl⟩
  rw [hQ] at HDV hX hlq hlq1
  rw [hR] at HDV hX hY hrl hlr hlr1 hrp
  clear hQ hR
  cases ma
  · cases mb
    · rw [if_neg (fun h => (absurd h.1 (by decide)))] at hX hY
      rw [hX, hY]
      have hrp0 : 0 < R ∨ (0 < (lim R).length) = False := by
        rcases Nat.eq_zero_or_pos R with h | h
        · exact .inr (eq_false (fun h2 => by have := hrp.1 h2; omega))
        · exact .inl h
      clear hrp hX hY
      skip
      go_enter Tryz.func259, Tryz.ntmps259
      go_wp2_with fail
      refine (HSa.out _).mono ?_
      rintro _ _ ⟨v1, rfl, y1, rfl, hv1⟩
      have hs1 := y1.size_le
      have hl1v := LV.own hv1
      obtain ⟨p1, c1, rfl, hL1⟩ := LV.own hv1
      dsimp only
      go_wp2_with fail
      refine (HSb.out _).mono ?_
      rintro _ _ ⟨v2, rfl, y2, rfl, hv2⟩
      have hs2 := y2.size_le
      obtain ⟨p2, c2, rfl, hL2⟩ := LV.own hv2
      have HL2 := Lib.hid hL2
      have HL1 := Lib.hid (limbs_of hL1 y2.below)
      clear hv1 hv2 hL1 hL2 hl1v
      dsimp only
      go_wp2_with fail
      refine (HDV.out _ _ _ _ _ HL1.out HL2.out).mono ?_
      rintro _ _ ⟨v3, v4, rfl, y3, rfl, hv3, hv4⟩
      have hs3 := y3.size_le
      obtain ⟨p3, c3, rfl, hL3⟩ := hv3
      obtain ⟨p4, c4, rfl, hL4⟩ := hv4
      have HL3 := Lib.hid hL3
      have HL4 := Lib.hid hL4
      have HLb := Lib.hid (limbs_of HL2.out y3.below)
      clear hL3 hL4
      dsimp only
      have HLX := HL3
      have HLY := HL4
      have hlX := hlq
      have hlY := hlr
      go_wp2_with fail
      refine (signed_any _ _ _ _ _ HLX.out hlX (HT.out.of (by (repeat' (first | (with_reducible first | apply Zl1 | apply Zl2 | apply Zl3 | apply Zl4 | apply Zl5 | apply Zl6 | apply Zl7 | apply Zl8 | apply Zl9 | apply Zla | apply Zlb | apply Zlc) | (dsimp only; with_reducible first | apply Zl8 | apply Zl2 | apply Zld) | with_reducible assumption | omega | (dsimp only; omega)))))).mono ?_
      rintro _ _ ⟨rfl, z1, rfl⟩
      have hz1 := z1.size_le
      dsimp only
      go_wp2_with fail
      refine (signed_any _ _ _ _ _ (limbs_of HLY.out z1.below) hlY (HT.out.of (by (repeat' (first | (with_reducible first | apply Zl1 | apply Zl2 | apply Zl3 | apply Zl4 | apply Zl5 | apply Zl6 | apply Zl7 | apply Zl8 | apply Zl9 | apply Zla | apply Zlb | apply Zlc) | (dsimp only; with_reducible first | apply Zl8 | apply Zl2 | apply Zld) | with_reducible assumption | omega | (dsimp only; omega)))))).mono ?_
      rintro _ _ ⟨rfl, z2, rfl⟩
      dsimp only
      go_wp2
      refine bodyPost_ret (v := .tuple #[.string ⟨(iT (sg false Q)).toArray⟩, .string ⟨(iT (sg false R)).toArray⟩, .int .i64 0]) (by simp [results, Tryz.results259, go_sem]) rfl (Ret.mk (by rfl) (by (repeat' (first | (with_reducible first | apply Zl1 | apply Zl2 | apply Zl3 | apply Zl4 | apply Zl5 | apply Zl6 | apply Zl7 | apply Zl8 | apply Zl9 | apply Zla | apply Zlb | apply Zlc) | (dsimp only; with_reducible first | apply Zl8 | apply Zl2 | apply Zld) | with_reducible assumption | omega | (dsimp only; omega)))))
    · rcases Nat.eq_zero_or_pos R with hR0 | hR0
      · rw [if_neg (fun h => (by omega))] at hX hY
        rw [hX, hY]
        have hrp0 : 0 < R ∨ (0 < (lim R).length) = False := by
          rcases Nat.eq_zero_or_pos R with h | h
          · exact .inr (eq_false (fun h2 => by have := hrp.1 h2; omega))
          · exact .inl h
        clear hrp hX hY
        (replace hrp0 := hrp0.resolve_left (by omega); clear hR0)
        go_enter Tryz.func259, Tryz.ntmps259
        go_wp2_with fail
        refine (HSa.out _).mono ?_
        rintro _ _ ⟨v1, rfl, y1, rfl, hv1⟩
        have hs1 := y1.size_le
        have hl1v := LV.own hv1
        obtain ⟨p1, c1, rfl, hL1⟩ := LV.own hv1
        dsimp only
        go_wp2_with fail
        refine (HSb.out _).mono ?_
        rintro _ _ ⟨v2, rfl, y2, rfl, hv2⟩
        have hs2 := y2.size_le
        obtain ⟨p2, c2, rfl, hL2⟩ := LV.own hv2
        have HL2 := Lib.hid hL2
        have HL1 := Lib.hid (limbs_of hL1 y2.below)
        clear hv1 hv2 hL1 hL2 hl1v
        dsimp only
        go_wp2_with fail
        refine (HDV.out _ _ _ _ _ HL1.out HL2.out).mono ?_
        rintro _ _ ⟨v3, v4, rfl, y3, rfl, hv3, hv4⟩
        have hs3 := y3.size_le
        obtain ⟨p3, c3, rfl, hL3⟩ := hv3
        obtain ⟨p4, c4, rfl, hL4⟩ := hv4
        have HL3 := Lib.hid hL3
        have HL4 := Lib.hid hL4
        have HLb := Lib.hid (limbs_of HL2.out y3.below)
        clear hL3 hL4
        dsimp only
        have HLX := HL3
        have HLY := HL4
        have hlX := hlq
        have hlY := hlr
        go_wp2_with fail
        refine (signed_any _ _ _ _ _ HLX.out hlX (HT.out.of (by (repeat' (first | (with_reducible first | apply Zl1 | apply Zl2 | apply Zl3 | apply Zl4 | apply Zl5 | apply Zl6 | apply Zl7 | apply Zl8 | apply Zl9 | apply Zla | apply Zlb | apply Zlc) | (dsimp only; with_reducible first | apply Zl8 | apply Zl2 | apply Zld) | with_reducible assumption | omega | (dsimp only; omega)))))).mono ?_
        rintro _ _ ⟨rfl, z1, rfl⟩
        have hz1 := z1.size_le
        dsimp only
        go_wp2_with fail
        refine (signed_any _ _ _ _ _ (limbs_of HLY.out z1.below) hlY (HT.out.of (by (repeat' (first | (with_reducible first | apply Zl1 | apply Zl2 | apply Zl3 | apply Zl4 | apply Zl5 | apply Zl6 | apply Zl7 | apply Zl8 | apply Zl9 | apply Zla | apply Zlb | apply Zlc) | (dsimp only; with_reducible first | apply Zl8 | apply Zl2 | apply Zld) | with_reducible assumption | omega | (dsimp only; omega)))))).mono ?_
        rintro _ _ ⟨rfl, z2, rfl⟩
        dsimp only
        go_wp2
        refine bodyPost_ret (v := .tuple #[.string ⟨(iT (sg true Q)).toArray⟩, .string ⟨(iT (sg true R)).toArray⟩, .int .i64 0]) (by simp [results, Tryz.results259, go_sem]) rfl (Ret.mk (by rfl) (by (repeat' (first | (with_reducible first | apply Zl1 | apply Zl2 | apply Zl3 | apply Zl4 | apply Zl5 | apply Zl6 | apply Zl7 | apply Zl8 | apply Zl9 | apply Zla | apply Zlb | apply Zlc) | (dsimp only; with_reducible first | apply Zl8 | apply Zl2 | apply Zld) | with_reducible assumption | omega | (dsimp only; omega)))))
      · rw [if_pos ⟨by decide, hR0⟩] at hX hY
        rw [hX, hY]
        have hrp1 : (0 < (lim R).length) = True := eq_true (hrp.2 hR0)
        clear hrp hX hY
        go_enter Tryz.func259, Tryz.ntmps259
        go_wp2_with fail
        refine (HSa.out _).mono ?_
        rintro _ _ ⟨v1, rfl, y1, rfl, hv1⟩
        have hs1 := y1.size_le
        have hl1v := LV.own hv1
        obtain ⟨p1, c1, rfl, hL1⟩ := LV.own hv1
        dsimp only
        go_wp2_with fail
        refine (HSb.out _).mono ?_
        rintro _ _ ⟨v2, rfl, y2, rfl, hv2⟩
        have hs2 := y2.size_le
        obtain ⟨p2, c2, rfl, hL2⟩ := LV.own hv2
        have HL2 := Lib.hid hL2
        have HL1 := Lib.hid (limbs_of hL1 y2.below)
        clear hv1 hv2 hL1 hL2 hl1v
        dsimp only
        go_wp2_with fail
        refine (HDV.out _ _ _ _ _ HL1.out HL2.out).mono ?_
        rintro _ _ ⟨v3, v4, rfl, y3, rfl, hv3, hv4⟩
        have hs3 := y3.size_le
        obtain ⟨p3, c3, rfl, hL3⟩ := hv3
        obtain ⟨p4, c4, rfl, hL4⟩ := hv4
        have HL3 := Lib.hid hL3
        have HL4 := Lib.hid hL4
        have HLb := Lib.hid (limbs_of HL2.out y3.below)
        clear hL3 hL4
        dsimp only
        have HO1 := Lib.hid (show Limbs (y3.w.alloc (.cells #[.int .u64 1] 76)) (some ⟨y3.w.heap.size, 0, none⟩) (lim 1) by
          rw [hl1]
          intro _
          exact ⟨_, 0, rfl, fun j x hj => by
            rcases j with _ | j
            · cases hj; simp [go_sem]
            · simp at hj⟩)
        have HP := Lib.hid (plus_any p3 (some ⟨y3.w.heap.size, 0, none⟩) c3 1 Q 1 _ (limbs_of HL3.out (by (repeat' (first | (with_reducible first | apply Zl1 | apply Zl2 | apply Zl3 | apply Zl4 | apply Zl5 | apply Zl6 | apply Zl7 | apply Zl8 | apply Zl9 | apply Zla | apply Zlb | apply Zlc) | (dsimp only; with_reducible first | apply Zl8 | apply Zl2 | apply Zld) | with_reducible assumption | omega | (dsimp only; omega))))) HO1.out hlq (by rw [hl1]; simp))
        rw [hl1, List.length_singleton] at HP
        go_wp2_with fail
        refine HP.out.mono ?_
        rintro _ _ ⟨v5, rfl, y5, rfl, hv5⟩
        have hs5 := y5.size_le
        simp at hs5
        obtain ⟨p5, c5, rfl, hL5⟩ := LV.own hv5
        have HLb5 := Lib.hid (limbs_of HLb.out (show Below y3.w.heap.size y3.w y5.w by (repeat' (first | (with_reducible first | apply Zl1 | apply Zl2 | apply Zl3 | apply Zl4 | apply Zl5 | apply Zl6 | apply Zl7 | apply Zl8 | apply Zl9 | apply Zla | apply Zlb | apply Zlc) | (dsimp only; with_reducible first | apply Zl8 | apply Zl2 | apply Zld) | with_reducible assumption | omega | (dsimp only; omega)))))
        have HL45 := Lib.hid (limbs_of HL4.out (show Below y3.w.heap.size y3.w y5.w by (repeat' (first | (with_reducible first | apply Zl1 | apply Zl2 | apply Zl3 | apply Zl4 | apply Zl5 | apply Zl6 | apply Zl7 | apply Zl8 | apply Zl9 | apply Zla | apply Zlb | apply Zlc) | (dsimp only; with_reducible first | apply Zl8 | apply Zl2 | apply Zld) | with_reducible assumption | omega | (dsimp only; omega)))))
        clear hv5
        dsimp only
        go_wp2_with fail
        refine (less_any _ _ _ _ _ _ _ HLb5.out HL45.out hlb (by omega)).mono ?_
        rintro _ _ ⟨v6, rfl, y6, rfl, hv6⟩
        have hs6 := y6.size_le
        obtain ⟨p6, c6, rfl, hL6⟩ := LV.own hv6
        have HLX := Lib.hid (limbs_of hL5 y6.below)
        have HLY := Lib.hid hL6
        have hlX := hlq1
        have hlY := hlr1
        clear hv6 hL5 hL6
        dsimp only
        go_wp2_with fail
        refine (signed_any _ _ _ _ _ HLX.out hlX (HT.out.of (by (repeat' (first | (with_reducible first | apply Zl1 | apply Zl2 | apply Zl3 | apply Zl4 | apply Zl5 | apply Zl6 | apply Zl7 | apply Zl8 | apply Zl9 | apply Zla | apply Zlb | apply Zlc) | (dsimp only; with_reducible first | apply Zl8 | apply Zl2 | apply Zld) | with_reducible assumption | omega | (dsimp only; omega)))))).mono ?_
        rintro _ _ ⟨rfl, z1, rfl⟩
        have hz1 := z1.size_le
        dsimp only
        go_wp2_with fail
        refine (signed_any _ _ _ _ _ (limbs_of HLY.out z1.below) hlY (HT.out.of (by (repeat' (first | (with_reducible first | apply Zl1 | apply Zl2 | apply Zl3 | apply Zl4 | apply Zl5 | apply Zl6 | apply Zl7 | apply Zl8 | apply Zl9 | apply Zla | apply Zlb | apply Zlc) | (dsimp only; with_reducible first | apply Zl8 | apply Zl2 | apply Zld) | with_reducible assumption | omega | (dsimp only; omega)))))).mono ?_
        rintro _ _ ⟨rfl, z2, rfl⟩
        dsimp only
        go_wp2
        refine bodyPost_ret (v := .tuple #[.string ⟨(iT (sg true (Q + 1))).toArray⟩, .string ⟨(iT (sg true (b.natAbs - R))).toArray⟩, .int .i64 0]) (by simp [results, Tryz.results259, go_sem]) rfl (Ret.mk (by rfl) (by (repeat' (first | (with_reducible first | apply Zl1 | apply Zl2 | apply Zl3 | apply Zl4 | apply Zl5 | apply Zl6 | apply Zl7 | apply Zl8 | apply Zl9 | apply Zla | apply Zlb | apply Zlc) | (dsimp only; with_reducible first | apply Zl8 | apply Zl2 | apply Zld) | with_reducible assumption | omega | (dsimp only; omega)))))
  · cases mb
    · rcases Nat.eq_zero_or_pos R with hR0 | hR0
      · rw [if_neg (fun h => (by omega))] at hX hY
        rw [hX, hY]
        have hrp0 : 0 < R ∨ (0 < (lim R).length) = False := by
          rcases Nat.eq_zero_or_pos R with h | h
          · exact .inr (eq_false (fun h2 => by have := hrp.1 h2; omega))
          · exact .inl h
        clear hrp hX hY
        (replace hrp0 := hrp0.resolve_left (by omega); clear hR0)
        go_enter Tryz.func259, Tryz.ntmps259
        go_wp2_with fail
        refine (HSa.out _).mono ?_
        rintro _ _ ⟨v1, rfl, y1, rfl, hv1⟩
        have hs1 := y1.size_le
        have hl1v := LV.own hv1
        obtain ⟨p1, c1, rfl, hL1⟩ := LV.own hv1
        dsimp only
        go_wp2_with fail
        refine (HSb.out _).mono ?_
        rintro _ _ ⟨v2, rfl, y2, rfl, hv2⟩
        have hs2 := y2.size_le
        obtain ⟨p2, c2, rfl, hL2⟩ := LV.own hv2
        have HL2 := Lib.hid hL2
        have HL1 := Lib.hid (limbs_of hL1 y2.below)
        clear hv1 hv2 hL1 hL2 hl1v
        dsimp only
        go_wp2_with fail
        refine (HDV.out _ _ _ _ _ HL1.out HL2.out).mono ?_
        rintro _ _ ⟨v3, v4, rfl, y3, rfl, hv3, hv4⟩
        have hs3 := y3.size_le
        obtain ⟨p3, c3, rfl, hL3⟩ := hv3
        obtain ⟨p4, c4, rfl, hL4⟩ := hv4
        have HL3 := Lib.hid hL3
        have HL4 := Lib.hid hL4
        have HLb := Lib.hid (limbs_of HL2.out y3.below)
        clear hL3 hL4
        dsimp only
        have HLX := HL3
        have HLY := HL4
        have hlX := hlq
        have hlY := hlr
        go_wp2_with fail
        refine (signed_any _ _ _ _ _ HLX.out hlX (HT.out.of (by (repeat' (first | (with_reducible first | apply Zl1 | apply Zl2 | apply Zl3 | apply Zl4 | apply Zl5 | apply Zl6 | apply Zl7 | apply Zl8 | apply Zl9 | apply Zla | apply Zlb | apply Zlc) | (dsimp only; with_reducible first | apply Zl8 | apply Zl2 | apply Zld) | with_reducible assumption | omega | (dsimp only; omega)))))).mono ?_
        rintro _ _ ⟨rfl, z1, rfl⟩
        have hz1 := z1.size_le
        dsimp only
        go_wp2_with fail
        refine (signed_any _ _ _ _ _ (limbs_of HLY.out z1.below) hlY (HT.out.of (by (repeat' (first | (with_reducible first | apply Zl1 | apply Zl2 | apply Zl3 | apply Zl4 | apply Zl5 | apply Zl6 | apply Zl7 | apply Zl8 | apply Zl9 | apply Zla | apply Zlb | apply Zlc) | (dsimp only; with_reducible first | apply Zl8 | apply Zl2 | apply Zld) | with_reducible assumption | omega | (dsimp only; omega)))))).mono ?_
        rintro _ _ ⟨rfl, z2, rfl⟩
        dsimp only
        go_wp2
        refine bodyPost_ret (v := .tuple #[.string ⟨(iT (sg true Q)).toArray⟩, .string ⟨(iT (sg false R)).toArray⟩, .int .i64 0]) (by simp [results, Tryz.results259, go_sem]) rfl (Ret.mk (by rfl) (by (repeat' (first | (with_reducible first | apply Zl1 | apply Zl2 | apply Zl3 | apply Zl4 | apply Zl5 | apply Zl6 | apply Zl7 | apply Zl8 | apply Zl9 | apply Zla | apply Zlb | apply Zlc) | (dsimp only; with_reducible first | apply Zl8 | apply Zl2 | apply Zld) | with_reducible assumption | omega | (dsimp only; omega)))))
      · rw [if_pos ⟨by decide, hR0⟩] at hX hY
        rw [hX, hY]
        have hrp1 : (0 < (lim R).length) = True := eq_true (hrp.2 hR0)
        clear hrp hX hY
        go_enter Tryz.func259, Tryz.ntmps259
        go_wp2_with fail
        refine (HSa.out _).mono ?_
        rintro _ _ ⟨v1, rfl, y1, rfl, hv1⟩
        have hs1 := y1.size_le
        have hl1v := LV.own hv1
        obtain ⟨p1, c1, rfl, hL1⟩ := LV.own hv1
        dsimp only
        go_wp2_with fail
        refine (HSb.out _).mono ?_
        rintro _ _ ⟨v2, rfl, y2, rfl, hv2⟩
        have hs2 := y2.size_le
        obtain ⟨p2, c2, rfl, hL2⟩ := LV.own hv2
        have HL2 := Lib.hid hL2
        have HL1 := Lib.hid (limbs_of hL1 y2.below)
        clear hv1 hv2 hL1 hL2 hl1v
        dsimp only
        go_wp2_with fail
        refine (HDV.out _ _ _ _ _ HL1.out HL2.out).mono ?_
        rintro _ _ ⟨v3, v4, rfl, y3, rfl, hv3, hv4⟩
        have hs3 := y3.size_le
        obtain ⟨p3, c3, rfl, hL3⟩ := hv3
        obtain ⟨p4, c4, rfl, hL4⟩ := hv4
        have HL3 := Lib.hid hL3
        have HL4 := Lib.hid hL4
        have HLb := Lib.hid (limbs_of HL2.out y3.below)
        clear hL3 hL4
        dsimp only
        have HO1 := Lib.hid (show Limbs (y3.w.alloc (.cells #[.int .u64 1] 76)) (some ⟨y3.w.heap.size, 0, none⟩) (lim 1) by
          rw [hl1]
          intro _
          exact ⟨_, 0, rfl, fun j x hj => by
            rcases j with _ | j
            · cases hj; simp [go_sem]
            · simp at hj⟩)
        have HP := Lib.hid (plus_any p3 (some ⟨y3.w.heap.size, 0, none⟩) c3 1 Q 1 _ (limbs_of HL3.out (by (repeat' (first | (with_reducible first | apply Zl1 | apply Zl2 | apply Zl3 | apply Zl4 | apply Zl5 | apply Zl6 | apply Zl7 | apply Zl8 | apply Zl9 | apply Zla | apply Zlb | apply Zlc) | (dsimp only; with_reducible first | apply Zl8 | apply Zl2 | apply Zld) | with_reducible assumption | omega | (dsimp only; omega))))) HO1.out hlq (by rw [hl1]; simp))
        rw [hl1, List.length_singleton] at HP
        go_wp2_with fail
        refine HP.out.mono ?_
        rintro _ _ ⟨v5, rfl, y5, rfl, hv5⟩
        have hs5 := y5.size_le
        simp at hs5
        obtain ⟨p5, c5, rfl, hL5⟩ := LV.own hv5
        have HLb5 := Lib.hid (limbs_of HLb.out (show Below y3.w.heap.size y3.w y5.w by (repeat' (first | (with_reducible first | apply Zl1 | apply Zl2 | apply Zl3 | apply Zl4 | apply Zl5 | apply Zl6 | apply Zl7 | apply Zl8 | apply Zl9 | apply Zla | apply Zlb | apply Zlc) | (dsimp only; with_reducible first | apply Zl8 | apply Zl2 | apply Zld) | with_reducible assumption | omega | (dsimp only; omega)))))
        have HL45 := Lib.hid (limbs_of HL4.out (show Below y3.w.heap.size y3.w y5.w by (repeat' (first | (with_reducible first | apply Zl1 | apply Zl2 | apply Zl3 | apply Zl4 | apply Zl5 | apply Zl6 | apply Zl7 | apply Zl8 | apply Zl9 | apply Zla | apply Zlb | apply Zlc) | (dsimp only; with_reducible first | apply Zl8 | apply Zl2 | apply Zld) | with_reducible assumption | omega | (dsimp only; omega)))))
        clear hv5
        dsimp only
        go_wp2_with fail
        refine (less_any _ _ _ _ _ _ _ HLb5.out HL45.out hlb (by omega)).mono ?_
        rintro _ _ ⟨v6, rfl, y6, rfl, hv6⟩
        have hs6 := y6.size_le
        obtain ⟨p6, c6, rfl, hL6⟩ := LV.own hv6
        have HLX := Lib.hid (limbs_of hL5 y6.below)
        have HLY := Lib.hid hL6
        have hlX := hlq1
        have hlY := hlr1
        clear hv6 hL5 hL6
        dsimp only
        go_wp2_with fail
        refine (signed_any _ _ _ _ _ HLX.out hlX (HT.out.of (by (repeat' (first | (with_reducible first | apply Zl1 | apply Zl2 | apply Zl3 | apply Zl4 | apply Zl5 | apply Zl6 | apply Zl7 | apply Zl8 | apply Zl9 | apply Zla | apply Zlb | apply Zlc) | (dsimp only; with_reducible first | apply Zl8 | apply Zl2 | apply Zld) | with_reducible assumption | omega | (dsimp only; omega)))))).mono ?_
        rintro _ _ ⟨rfl, z1, rfl⟩
        have hz1 := z1.size_le
        dsimp only
        go_wp2_with fail
        refine (signed_any _ _ _ _ _ (limbs_of HLY.out z1.below) hlY (HT.out.of (by (repeat' (first | (with_reducible first | apply Zl1 | apply Zl2 | apply Zl3 | apply Zl4 | apply Zl5 | apply Zl6 | apply Zl7 | apply Zl8 | apply Zl9 | apply Zla | apply Zlb | apply Zlc) | (dsimp only; with_reducible first | apply Zl8 | apply Zl2 | apply Zld) | with_reducible assumption | omega | (dsimp only; omega)))))).mono ?_
        rintro _ _ ⟨rfl, z2, rfl⟩
        dsimp only
        go_wp2
        refine bodyPost_ret (v := .tuple #[.string ⟨(iT (sg true (Q + 1))).toArray⟩, .string ⟨(iT (sg false (b.natAbs - R))).toArray⟩, .int .i64 0]) (by simp [results, Tryz.results259, go_sem]) rfl (Ret.mk (by rfl) (by (repeat' (first | (with_reducible first | apply Zl1 | apply Zl2 | apply Zl3 | apply Zl4 | apply Zl5 | apply Zl6 | apply Zl7 | apply Zl8 | apply Zl9 | apply Zla | apply Zlb | apply Zlc) | (dsimp only; with_reducible first | apply Zl8 | apply Zl2 | apply Zld) | with_reducible assumption | omega | (dsimp only; omega)))))
    · rw [if_neg (fun h => (absurd h.1 (by decide)))] at hX hY
      rw [hX, hY]
      have hrp0 : 0 < R ∨ (0 < (lim R).length) = False := by
        rcases Nat.eq_zero_or_pos R with h | h
        · exact .inr (eq_false (fun h2 => by have := hrp.1 h2; omega))
        · exact .inl h
      clear hrp hX hY
      skip
      go_enter Tryz.func259, Tryz.ntmps259
      go_wp2_with fail
      refine (HSa.out _).mono ?_
      rintro _ _ ⟨v1, rfl, y1, rfl, hv1⟩
      have hs1 := y1.size_le
      have hl1v := LV.own hv1
      obtain ⟨p1, c1, rfl, hL1⟩ := LV.own hv1
      dsimp only
      go_wp2_with fail
      refine (HSb.out _).mono ?_
      rintro _ _ ⟨v2, rfl, y2, rfl, hv2⟩
      have hs2 := y2.size_le
      obtain ⟨p2, c2, rfl, hL2⟩ := LV.own hv2
      have HL2 := Lib.hid hL2
      have HL1 := Lib.hid (limbs_of hL1 y2.below)
      clear hv1 hv2 hL1 hL2 hl1v
      dsimp only
      go_wp2_with fail
      refine (HDV.out _ _ _ _ _ HL1.out HL2.out).mono ?_
      rintro _ _ ⟨v3, v4, rfl, y3, rfl, hv3, hv4⟩
      have hs3 := y3.size_le
      obtain ⟨p3, c3, rfl, hL3⟩ := hv3
      obtain ⟨p4, c4, rfl, hL4⟩ := hv4
      have HL3 := Lib.hid hL3
      have HL4 := Lib.hid hL4
      have HLb := Lib.hid (limbs_of HL2.out y3.below)
      clear hL3 hL4
      dsimp only
      have HLX := HL3
      have HLY := HL4
      have hlX := hlq
      have hlY := hlr
      go_wp2_with fail
      refine (signed_any _ _ _ _ _ HLX.out hlX (HT.out.of (by (repeat' (first | (with_reducible first | apply Zl1 | apply Zl2 | apply Zl3 | apply Zl4 | apply Zl5 | apply Zl6 | apply Zl7 | apply Zl8 | apply Zl9 | apply Zla | apply Zlb | apply Zlc) | (dsimp only; with_reducible first | apply Zl8 | apply Zl2 | apply Zld) | with_reducible assumption | omega | (dsimp only; omega)))))).mono ?_
      rintro _ _ ⟨rfl, z1, rfl⟩
      have hz1 := z1.size_le
      dsimp only
      go_wp2_with fail
      refine (signed_any _ _ _ _ _ (limbs_of HLY.out z1.below) hlY (HT.out.of (by (repeat' (first | (with_reducible first | apply Zl1 | apply Zl2 | apply Zl3 | apply Zl4 | apply Zl5 | apply Zl6 | apply Zl7 | apply Zl8 | apply Zl9 | apply Zla | apply Zlb | apply Zlc) | (dsimp only; with_reducible first | apply Zl8 | apply Zl2 | apply Zld) | with_reducible assumption | omega | (dsimp only; omega)))))).mono ?_
      rintro _ _ ⟨rfl, z2, rfl⟩
      dsimp only
      go_wp2
      refine bodyPost_ret (v := .tuple #[.string ⟨(iT (sg false Q)).toArray⟩, .string ⟨(iT (sg true R)).toArray⟩, .int .i64 0]) (by simp [results, Tryz.results259, go_sem]) rfl (Ret.mk (by rfl) (by (repeat' (first | (with_reducible first | apply Zl1 | apply Zl2 | apply Zl3 | apply Zl4 | apply Zl5 | apply Zl6 | apply Zl7 | apply Zl8 | apply Zl9 | apply Zla | apply Zlb | apply Zlc) | (dsimp only; with_reducible first | apply Zl8 | apply Zl2 | apply Zld) | with_reducible assumption | omega | (dsimp only; omega)))))
end Go.Proofs.YtehgeoipbgpocaaGreatDoor.I

namespace Go.Proofs.YtehgeoipbgpocaaGreatDoor.I
set_option linter.unusedVariables false
set_option linter.unusedSimpArgs false
open Go.RowKit Go.Shelf
attribute [local go_sem low] Bel.cell Bel.frozen alloc_cell alloc_frozen

theorem i64_and_nat (a b : Nat) (ha : a < 9223372036854775808) (hb : b < 9223372036854775808) : bits .and .i64 (a : Int) (b : Int) = ((a &&& b : Nat) : Int) := by
  have hx : a &&& b < 2 ^ 63 := Nat.and_lt_two_pow _ (by omega)
  show IntKind.i64.wrap ((BitVec.ofInt 64 (a : Int) &&& BitVec.ofInt 64 (b : Int)).toNat : Int) = _
  rw [BitVec.toNat_and, ofInt_u64 a (by omega), ofInt_u64 b (by omega)]
  exact IntWalk.i64_in _ (by omega)
/-- The bit of a round. -/
def pb (t : Nat) : Nat := 2 ^ t / 2
theorem pb_succ (t : Nat) : pb (t + 1) = 2 ^ t := by unfold pb; rw [Nat.pow_succ]; omega
theorem pb_half (t : Nat) : pb (t + 1) / 2 = pb t := by rw [pb_succ]; rfl
theorem pb_le {t : Nat} (h : t ≤ 14) : pb t ≤ 8192 := by
  have : (2 : Nat) ^ t ≤ 2 ^ 14 := Nat.pow_le_pow_right (by decide) h
  unfold pb
  omega
theorem and_pow (n t : Nat) : (n &&& 2 ^ t = 0) ↔ n.testBit t = false := by
  constructor
  · intro h
    have h2 : (n &&& 2 ^ t).testBit t = false := by rw [h]; exact Nat.zero_testBit t
    rw [Nat.testBit_and, Nat.testBit_two_pow_self, Bool.and_true] at h2
    exact h2
  · intro h
    refine Nat.eq_of_testBit_eq fun i => ?_
    rw [Nat.testBit_and, Nat.zero_testBit, Nat.testBit_two_pow]
    by_cases hi : t = i
    · subst hi; rw [h]; rfl
    · rw [decide_eq_false hi, Bool.and_false]
theorem pow_bit (n t : Nat) : n / 2 ^ t = 2 * (n / 2 ^ (t + 1)) + (if n &&& pb (t + 1) = 0 then 0 else 1) := by
  rw [pb_succ]
  have h1 : n / 2 ^ (t + 1) = n / 2 ^ t / 2 := by rw [Nat.pow_succ, Nat.div_div_eq_div_mul]
  have h3 : n.testBit t = decide (n / 2 ^ t % 2 = 1) := Nat.testBit_eq_decide_div_mod_eq
  rw [h1]
  by_cases h : n / 2 ^ t % 2 = 1
  · rw [if_neg (fun e => by rw [(and_pow n t).1 e, decide_eq_true h] at h3; cases h3)]
    omega
  · rw [if_pos ((and_pow n t).2 (by rw [h3, decide_eq_false h]))]
    omega
theorem pow_double (M e : Nat) : M ^ e * M ^ e = M ^ (2 * e) := by rw [← Nat.pow_add]; congr 1; omega
theorem neg_powI (m : Int) : ∀ n : Nat, (-m) ^ n = if n % 2 = 1 then -(m ^ n) else m ^ n
  | 0 => by simp
  | n + 1 => by
    rw [Int.pow_succ, neg_powI m n, Int.pow_succ]
    by_cases h : n % 2 = 1
    · rw [if_pos h, if_neg (by omega), Int.neg_mul_neg]
    · rw [if_neg h, if_pos (by omega), Int.mul_neg]
theorem sg_pow (z : Int) (n : Nat) : sg (decide (z < 0) && decide (n % 2 = 1)) (z.natAbs ^ n) = z ^ n := by
  unfold sg
  by_cases hz : z < 0
  · have e : z = -(z.natAbs : Int) := by omega
    conv => rhs; rw [e]
    rw [neg_powI, decide_eq_true hz]
    by_cases h : n % 2 = 1
    · rw [if_pos (by simp [h]), if_pos h, Int.natCast_pow]
    · rw [if_neg (by simp [h]), if_neg h, Int.natCast_pow]
  · have e : z = (z.natAbs : Int) := by omega
    conv => rhs; rw [e]
    rw [if_neg (by simp [hz]), Int.natCast_pow]
theorem lim_pow {M d e : Nat} (h : M < 10 ^ d) (he : d * e ≤ 60000) : (lim (M ^ e)).length ≤ 10000 := by
  have h1 : M ^ e ≤ (10 ^ d) ^ e := Nat.pow_le_pow_left (Nat.le_of_lt h) e
  rw [← Nat.pow_mul] at h1
  exact lim_le2 (Nat.lt_of_le_of_lt h1 (Nat.pow_lt_pow_right (by decide) (Nat.lt_succ_self _))) (by omega)
theorem power_range (z : Int) (n : Int) (w : World) (h : n < 0 ∨ 6000 < n) : Calls Tryz.prog 91 #[.string ⟨(iT z).toArray⟩, .int .i64 n] w (Ret (.tuple #[.string ⟨#[]⟩, .int .i64 3]) w) := by
  generalize iT z = t at *
  rcases (show n < 0 ∨ (¬ n < 0 ∧ 6000 < n) by omega) with h1 | ⟨h1, h2⟩
  · have e1 : decide (n < 0) = true := decide_eq_true h1
    go_enter Tryz.func91, Tryz.ntmps91
    go_wp2
    refine bodyPost_ret (v := .tuple #[.string ⟨#[]⟩, .int .i64 3]) (by simp [results, Tryz.results91, go_sem]) rfl (Ret.mk (by rfl) (by (repeat' (first | (with_reducible first | apply Zl1 | apply Zl2 | apply Zl3 | apply Zl4 | apply Zl5 | apply Zl6 | apply Zl7 | apply Zl8 | apply Zl9 | apply Zla | apply Zlb | apply Zlc) | (dsimp only; with_reducible first | apply Zl8 | apply Zl2 | apply Zld) | with_reducible assumption | omega | (dsimp only; omega)))))
  · have e1 : decide (n < 0) = false := decide_eq_false h1
    have e2 : decide (6000 < n) = true := decide_eq_true h2
    go_enter Tryz.func91, Tryz.ntmps91
    go_wp2
    refine bodyPost_ret (v := .tuple #[.string ⟨#[]⟩, .int .i64 3]) (by simp [results, Tryz.results91, go_sem]) rfl (Ret.mk (by rfl) (by (repeat' (first | (with_reducible first | apply Zl1 | apply Zl2 | apply Zl3 | apply Zl4 | apply Zl5 | apply Zl6 | apply Zl7 | apply Zl8 | apply Zl9 | apply Zla | apply Zlb | apply Zlc) | (dsimp only; with_reducible first | apply Zl8 | apply Zl2 | apply Zld) | with_reducible assumption | omega | (dsimp only; omega)))))
set_option maxRecDepth 100000 in
set_option maxHeartbeats 12800000 in
theorem power_any (z : Int) (n : Nat) (w : World) (hz : nd z ≤ 70000) (hn : n ≤ 6000) (hnd : n * nd z ≤ 24000) (hT : Tab w) :
    Calls Tryz.prog 91 #[.string ⟨(iT z).toArray⟩, .int .i64 (n : Int)] w (Ret (.tuple #[.string ⟨(iT (z ^ n)).toArray⟩, .int .i64 0]) w) := by
  have HT := Lib.hid hT
  clear hT
  have HS := Lib.hid (fun w' => split_any z w' (show nd z ≤ 80000 by omega))
  have hlz := lim_nd z (by omega)
  have HTX := Lib.hid (fun a cap w' (h : Limbs w' a (lim z.natAbs)) (hT : Tab w') => text_any a cap z.natAbs w' h hlz hT)
  have hM := nd_lt z
  have hdn : (Lib.decDigits z.natAbs).length = nd z := rfl
  rw [← sg_pow]
  obtain ⟨mz, hmz⟩ : ∃ m, decide (z < 0) = m := ⟨_, rfl⟩
  rw [hmz] at HS ⊢
  clear hmz
  have hl1 : lim 1 = [1] := lim_one (by decide) (by decide)
  generalize iT z = tz at *
  generalize nd z = d at *
  generalize z.natAbs = M at *
  generalize Lib.decDigits M = dt at *
  obtain ⟨p, hp⟩ : ∃ p, n * d = p := ⟨_, rfl⟩
  have hpc : (n : Int) * (dt.length : Int) = (p : Int) := by rw [hdn, ← hp]; simp
  rw [hp] at hnd
  have HLP := Lib.hid (fun (e : Nat) (he : e ≤ n) => @lim_pow M d e hM (by
    have := Nat.mul_le_mul_left d he
    rw [Nat.mul_comm d n, hp] at this
    omega))
  clear hM hp hdn
  have e1 : decide ((n : Int) < 0) = false := decide_eq_false (by omega)
  have e2 : decide ((6000 : Int) < (n : Int)) = false := decide_eq_false (by omega)
  have e3 : decide ((24000 : Int) < (p : Int)) = false := decide_eq_false (by omega)
  go_enter Tryz.func91, Tryz.ntmps91
  go_wp2_with fail
  refine (HS.out _).mono ?_
  rintro _ _ ⟨v1, rfl, y1, rfl, hv1⟩
  have hs1 := y1.size_le
  obtain ⟨p1, c1, rfl, hL1⟩ := LV.own hv1
  dsimp only
  go_wp2_with fail
  refine (HTX.out _ _ _ hL1 (HT.out.of (by (repeat' (first | (with_reducible first | apply Zl1 | apply Zl2 | apply Zl3 | apply Zl4 | apply Zl5 | apply Zl6 | apply Zl7 | apply Zl8 | apply Zl9 | apply Zla | apply Zlb | apply Zlc) | (dsimp only; with_reducible first | apply Zl8 | apply Zl2 | apply Zld) | with_reducible assumption | omega | (dsimp only; omega)))))).mono ?_
  rintro _ _ ⟨rfl, y2, rfl⟩
  have hs2 := y2.size_le
  have HL1 := Lib.hid (limbs_of hL1 y2.below)
  clear hL1 hv1
  have hLV1 : LV (y2.w.alloc (.cells #[.int .u64 1] 76)) (.slice (some ⟨y2.w.heap.size, 0, none⟩) 1 1) 1 := by
    refine ⟨some ⟨y2.w.heap.size, 0, none⟩, 1, by rw [hl1]; rfl, ?_⟩
    rw [hl1]
    intro _
    exact ⟨_, 0, rfl, fun j x hj => by
      rcases j with _ | j
      · cases hj; simp [go_sem]
      · simp at hj⟩
  dsimp only
  go_wp2
  go_loopw [8, 9] (fun v b wr => ∃ t : Nat, t ≤ 14 ∧ b = .int .i64 (pb t : Int) ∧ LV wr v (M ^ (n / 2 ^ t)) ∧ Limbs wr p1 (lim M) ∧ Below w.heap.size w wr) (fun _ b _ => (intOf b).toNat)
  case atStart => exact ⟨14, by omega, rfl, by rw [show n / 2 ^ 14 = 0 from Nat.div_eq_of_lt (by omega), Nat.pow_zero]; exact hLV1, limbs_of HL1.out (by (repeat' (first | (with_reducible first | apply Zl1 | apply Zl2 | apply Zl3 | apply Zl4 | apply Zl5 | apply Zl6 | apply Zl7 | apply Zl8 | apply Zl9 | apply Zla | apply Zlb | apply Zlc) | (dsimp only; with_reducible first | apply Zl8 | apply Zl2 | apply Zld) | with_reducible assumption | omega | (dsimp only; omega)))), by (repeat' (first | (with_reducible first | apply Zl1 | apply Zl2 | apply Zl3 | apply Zl4 | apply Zl5 | apply Zl6 | apply Zl7 | apply Zl8 | apply Zl9 | apply Zla | apply Zlb | apply Zlc) | (dsimp only; with_reducible first | apply Zl8 | apply Zl2 | apply Zld) | with_reducible assumption | omega | (dsimp only; omega)))⟩
  case round =>
    clear hLV1
    obtain ⟨t, ht, rfl, hv, hm, hb⟩ := hrel
    have hbs := hb.size
    obtain ⟨p2, c2, rfl, hL2⟩ := hv
    rcases Nat.eq_zero_or_pos t with h0 | h0
    · subst h0
      rw [show ((pb 0 : Nat) : Int) = 0 from rfl]
      rw [Nat.pow_zero, Nat.div_one] at hL2 ⊢
      have hlp := HLP.out n (Nat.le_refl _)
      have HL2 := Lib.hid hL2
      clear hL2 hm
      generalize M ^ n = X at *
      cases mz
      · go_wp2_with fail
        refine (signed_any _ _ _ _ _ HL2.out hlp (HT.out.of (by (repeat' (first | (with_reducible first | apply Zl1 | apply Zl2 | apply Zl3 | apply Zl4 | apply Zl5 | apply Zl6 | apply Zl7 | apply Zl8 | apply Zl9 | apply Zla | apply Zlb | apply Zlc) | (dsimp only; with_reducible first | apply Zl8 | apply Zl2 | apply Zld) | with_reducible assumption | omega | (dsimp only; omega)))))).mono ?_
        rintro _ _ ⟨rfl, z1, rfl⟩
        dsimp only
        go_wp2
        refine bodyPost_ret (v := .tuple #[.string ⟨(iT (sg false X)).toArray⟩, .int .i64 0]) (by simp [results, Tryz.results91, go_sem]) rfl (Ret.mk (by rfl) (by (repeat' (first | (with_reducible first | apply Zl1 | apply Zl2 | apply Zl3 | apply Zl4 | apply Zl5 | apply Zl6 | apply Zl7 | apply Zl8 | apply Zl9 | apply Zla | apply Zlb | apply Zlc) | (dsimp only; with_reducible first | apply Zl8 | apply Zl2 | apply Zld) | with_reducible assumption | omega | (dsimp only; omega)))))
      · by_cases h2 : n % 2 = 1
        · have h2' : ((n : Int) % 2 == 1) = true := beq_iff_eq.2 (by omega)
          have HQ := Lib.hid (decide_eq_true h2)
          clear h2
          go_wp2_with fail
          refine (signed_any _ _ _ _ _ HL2.out hlp (HT.out.of (by (repeat' (first | (with_reducible first | apply Zl1 | apply Zl2 | apply Zl3 | apply Zl4 | apply Zl5 | apply Zl6 | apply Zl7 | apply Zl8 | apply Zl9 | apply Zla | apply Zlb | apply Zlc) | (dsimp only; with_reducible first | apply Zl8 | apply Zl2 | apply Zld) | with_reducible assumption | omega | (dsimp only; omega)))))).mono ?_
          rintro _ _ ⟨rfl, z1, rfl⟩
          dsimp only
          go_wp2
          refine bodyPost_ret (v := .tuple #[.string ⟨(iT (sg true X)).toArray⟩, .int .i64 0]) (by simp [results, Tryz.results91, go_sem]) rfl (Ret.mk (by rw [HQ.out]; rfl) (by (repeat' (first | (with_reducible first | apply Zl1 | apply Zl2 | apply Zl3 | apply Zl4 | apply Zl5 | apply Zl6 | apply Zl7 | apply Zl8 | apply Zl9 | apply Zla | apply Zlb | apply Zlc) | (dsimp only; with_reducible first | apply Zl8 | apply Zl2 | apply Zld) | with_reducible assumption | omega | (dsimp only; omega)))))
        · have h2' : ((n : Int) % 2 == 1) = false := beq_eq_false_iff_ne.2 (by omega)
          have HQ := Lib.hid (decide_eq_false h2)
          clear h2
          go_wp2_with fail
          refine (signed_any _ _ _ _ _ HL2.out hlp (HT.out.of (by (repeat' (first | (with_reducible first | apply Zl1 | apply Zl2 | apply Zl3 | apply Zl4 | apply Zl5 | apply Zl6 | apply Zl7 | apply Zl8 | apply Zl9 | apply Zla | apply Zlb | apply Zlc) | (dsimp only; with_reducible first | apply Zl8 | apply Zl2 | apply Zld) | with_reducible assumption | omega | (dsimp only; omega)))))).mono ?_
          rintro _ _ ⟨rfl, z1, rfl⟩
          dsimp only
          go_wp2
          refine bodyPost_ret (v := .tuple #[.string ⟨(iT (sg false X)).toArray⟩, .int .i64 0]) (by simp [results, Tryz.results91, go_sem]) rfl (Ret.mk (by rw [HQ.out]; rfl) (by (repeat' (first | (with_reducible first | apply Zl1 | apply Zl2 | apply Zl3 | apply Zl4 | apply Zl5 | apply Zl6 | apply Zl7 | apply Zl8 | apply Zl9 | apply Zla | apply Zlb | apply Zlc) | (dsimp only; with_reducible first | apply Zl8 | apply Zl2 | apply Zld) | with_reducible assumption | omega | (dsimp only; omega)))))
    · obtain ⟨k, rfl⟩ : ∃ k, t = k + 1 := ⟨t - 1, by omega⟩
      have hk := pow_bit n k
      have hhalf := pb_half k
      have hpl := pb_le ht
      have hpp : 0 < pb (k + 1) := by rw [pb_succ]; exact Nat.pow_pos (by decide)
      have hand := i64_and_nat n (pb (k + 1)) (by omega) (by omega)
      have hel : n / 2 ^ (k + 1) ≤ n := Nat.div_le_self _ _
      have hel2 : n / 2 ^ k ≤ n := Nat.div_le_self _ _
      generalize pb (k + 1) = b at *
      generalize n / 2 ^ (k + 1) = e at *
      obtain ⟨A, hA⟩ : ∃ A, n &&& b = A := ⟨_, rfl⟩
      rw [hA] at hand hk
      have hlX := HLP.out e hel
      have hlX2 := HLP.out (2 * e) (by split at hk <;> omega)
      have hbp : decide (0 < (b : Int)) = true := decide_eq_true (by omega)
      have HL2 := Lib.hid hL2
      have HM := Lib.hid hm
      clear hL2 hm hA
      have HHF := Lib.hid (show ((b : Nat) : Int) / 2 = (pb k : Int) by omega)
      clear hhalf
      by_cases hA0 : A = 0
      · rw [if_pos hA0, Nat.add_zero] at hk
        have HK := Lib.hid hk
        subst hA0
        clear hk hel2
        go_wp2_with fail
        refine (times_any _ _ _ _ _ _ _ HL2.out HL2.out hlX hlX).mono ?_
        rintro _ _ ⟨v3, rfl, y3, rfl, hv3⟩
        have hs3 := y3.size_le
        rw [pow_double] at hv3
        have HV3 := Lib.hid (LV.own hv3)
        obtain ⟨p3, c3, rfl, hL3⟩ := LV.own hv3
        clear hL3 hv3
        dsimp only
        go_wp2
        go_roundw
        case rel => exact ⟨k, by omega, congrArg (Value.int .i64) HHF.out, by rw [HK.out]; exact HV3.out, limbs_of HM.out y3.below, by (repeat' (first | (with_reducible first | apply Zl1 | apply Zl2 | apply Zl3 | apply Zl4 | apply Zl5 | apply Zl6 | apply Zl7 | apply Zl8 | apply Zl9 | apply Zla | apply Zlb | apply Zlc) | (dsimp only; with_reducible first | apply Zl8 | apply Zl2 | apply Zld) | with_reducible assumption | omega | (dsimp only; omega)))⟩
        case measure => simp [intOf]; omega
      · rw [if_neg hA0] at hk
        have HK := Lib.hid hk
        have hAt : ((A : Int) != 0) = true := by simp; exact hA0
        have hlX3 := HLP.out (n / 2 ^ k) hel2
        rw [hk] at hlX3
        clear hk hel2 hA0
        go_wp2_with fail
        refine (times_any _ _ _ _ _ _ _ HL2.out HL2.out hlX hlX).mono ?_
        rintro _ _ ⟨v3, rfl, y3, rfl, hv3⟩
        have hs3 := y3.size_le
        rw [pow_double] at hv3
        obtain ⟨p3, c3, rfl, hL3⟩ := LV.own hv3
        have HL3 := Lib.hid hL3
        have HM3 := Lib.hid (limbs_of HM.out y3.below)
        clear hL3 hv3
        dsimp only
        go_wp2_with fail
        refine (times_any _ _ _ _ _ _ _ HL3.out HM3.out hlX2 hlz).mono ?_
        rintro _ _ ⟨v4, rfl, y4, rfl, hv4⟩
        have hs4 := y4.size_le
        rw [← Nat.pow_succ] at hv4
        have HV4 := Lib.hid (LV.own hv4)
        obtain ⟨p4, c4, rfl, hL4⟩ := LV.own hv4
        clear hL4 hv4
        dsimp only
        go_wp2
        go_roundw
        case rel => exact ⟨k, by omega, congrArg (Value.int .i64) HHF.out, by rw [HK.out]; exact HV4.out, limbs_of HM3.out y4.below, by (repeat' (first | (with_reducible first | apply Zl1 | apply Zl2 | apply Zl3 | apply Zl4 | apply Zl5 | apply Zl6 | apply Zl7 | apply Zl8 | apply Zl9 | apply Zla | apply Zlb | apply Zlc) | (dsimp only; with_reducible first | apply Zl8 | apply Zl2 | apply Zld) | with_reducible assumption | omega | (dsimp only; omega)))⟩
        case measure => simp [intOf]; omega
end Go.Proofs.YtehgeoipbgpocaaGreatDoor.I
