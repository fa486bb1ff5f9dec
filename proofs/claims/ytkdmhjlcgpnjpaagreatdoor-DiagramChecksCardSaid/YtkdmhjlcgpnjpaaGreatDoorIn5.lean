/- Add, Sub. divide, where the divisor has one limb or is greater. Power. -/
import Derived.Laws.BitsAllLaws
import Derived.Test.YtkdmhjlcgpnjpaaGreatDoorIn4
namespace Go.Proofs.YtkdmhjlcgpnjpaaGreatDoor.I
set_option linter.unusedVariables false
set_option linter.unusedSimpArgs false
open Go.RowKit Go.Shelf
attribute [local go_sem low] Bel.cell Bel.frozen alloc_cell alloc_frozen

theorem add_lt10 {a b d e : Nat} (h1 : a < 10 ^ d) (h2 : b < 10 ^ e) : a + b < 10 ^ (max d e + 1) := by
  have h3 : (10 : Nat) ^ d ≤ 10 ^ max d e := Nat.pow_le_pow_right (by decide) (Nat.le_max_left _ _)
  have h4 : (10 : Nat) ^ e ≤ 10 ^ max d e := Nat.pow_le_pow_right (by decide) (Nat.le_max_right _ _)
  rw [Nat.pow_succ]
  omega
theorem lim_add (a b : Int) (ha : nd a ≤ 80000) (hb : nd b ≤ 80000) : (lim (a.natAbs + b.natAbs)).length ≤ 10000 := lim_le2 (add_lt10 (nd_lt a) (nd_lt b)) (by omega)
theorem lim_sub (a b : Int) (ha : nd a ≤ 80000) : (lim (a.natAbs - b.natAbs)).length ≤ 10000 := lim_le2 (Nat.lt_of_le_of_lt (Nat.sub_le _ _) (nd_lt a)) (by omega)
theorem sg_add {a b : Int} (h : decide (a < 0) = decide (b < 0)) : sg (decide (a < 0)) (a.natAbs + b.natAbs) = a + b := by
  unfold sg
  by_cases h1 : a < 0 <;> by_cases h2 : b < 0 <;> simp [h1, h2] at h ⊢ <;> omega
theorem sg_sub1 {a b : Int} (h : decide (a < 0) ≠ decide (b < 0)) (hc : b.natAbs ≤ a.natAbs) : sg (decide (a < 0)) (a.natAbs - b.natAbs) = a + b := by
  unfold sg
  by_cases h1 : a < 0 <;> by_cases h2 : b < 0 <;> simp [h1, h2] at h ⊢ <;> omega
theorem sg_sub2 {a b : Int} (h : decide (a < 0) ≠ decide (b < 0)) (hc : a.natAbs < b.natAbs) : sg (decide (b < 0)) (b.natAbs - a.natAbs) = a + b := by
  unfold sg
  by_cases h1 : a < 0 <;> by_cases h2 : b < 0 <;> simp [h1, h2] at h ⊢ <;> omega
theorem add_small {a b : Int} (h1 : nd a ≤ 18) (h2 : nd b ≤ 18) : -2000000000000000000 ≤ a + b ∧ a + b ≤ 2000000000000000000 := by
  have h3 := nd_lt a
  have h4 := nd_lt b
  have h5 : (10 : Nat) ^ nd a ≤ 10 ^ 18 := Nat.pow_le_pow_right (by decide) h1
  have h6 : (10 : Nat) ^ nd b ≤ 10 ^ 18 := Nat.pow_le_pow_right (by decide) h2
  have h7 : (10 : Nat) ^ 18 = 1000000000000000000 := rfl
  omega
set_option maxRecDepth 100000 in
set_option maxHeartbeats 12800000 in
theorem add_any (a b : Int) (w : World) (ha : nd a ≤ 80000) (hb : nd b ≤ 80000) (hT : Tab w) :
    Calls Tryz.prog 35 #[.string ⟨(iT a).toArray⟩, .string ⟨(iT b).toArray⟩] w (Ret (.string ⟨(iT (a + b)).toArray⟩) w) := by
  have HT := Lib.hid hT
  clear hT
  have HSa := Lib.hid (fun w' => split_any a w' (show nd a ≤ 80000 by omega))
  have HSb := Lib.hid (fun w' => split_any b w' (show nd b ≤ 80000 by omega))
  have hla := lim_nd a (by omega)
  have hlb := lim_nd b (by omega)
  have hlp := lim_add a b ha hb
  have hls := lim_sub a b ha
  have hlt := lim_sub b a hb
  have HSG := Lib.hid (@sg_add a b)
  have HS1 := Lib.hid (@sg_sub1 a b)
  have HS2 := Lib.hid (@sg_sub2 a b)
  have HQa := Lib.hid (fun w' (h : nd a ≤ 18) => quick_18 a w' h)
  have HQb := Lib.hid (fun w' (h : nd b ≤ 18) => quick_18 b w' h)
  have HNa := Lib.hid (fun w' (h : 18 < nd a) => quick_n18 a w' h (show nd a ≤ 100000 by omega))
  have HNb := Lib.hid (fun w' (h : 18 < nd b) => quick_n18 b w' h (show nd b ≤ 100000 by omega))
  have HMS := Lib.hid (@add_small a b)
  obtain ⟨p, hp⟩ : ∃ p, a + b = p := ⟨_, rfl⟩
  rw [hp] at HSG HMS HS1 HS2 ⊢
  have HP := Lib.hid hp
  clear hp
  obtain ⟨ma, hma⟩ : ∃ m, decide (a < 0) = m := ⟨_, rfl⟩
  obtain ⟨mb, hmb⟩ : ∃ m, decide (b < 0) = m := ⟨_, rfl⟩
  rw [hma] at HSa HSG HS1 HS2
  rw [hmb] at HSb HSG HS1 HS2
  clear hma hmb
  by_cases h9 : nd a ≤ 18
  · by_cases h9b : nd b ≤ 18
    · have hms := HMS.out h9 h9b
      have hw : IntKind.i64.wrap p = p := IntWalk.i64_in _ (by omega)
      have hpe : a + b = p := HP.out
      go_enter Tryz.func35, Tryz.ntmps35
      go_wp2_with fail
      (with_reducible refine (HQa.out _ h9).mono ?_)
      rintro _ _ ⟨rfl, x1, rfl⟩
      have hx1 := x1.size_le
      dsimp only
      go_wp2_with fail
      (with_reducible refine (HQb.out _ h9b).mono ?_)
      rintro _ _ ⟨rfl, x2, rfl⟩
      have hx2 := x2.size_le
      dsimp only
      go_wp2_with fail
      (with_reducible refine (of_any p _ (by omega) (by omega) (HT.out.of (by (repeat' (first | (with_reducible first | exact Below.refl _ _ | exact Nat.le_refl _ | refine Below.bel ?_ ?_ | refine Below.alloc ?_ ?_ _ | refine Below.drew ?_ | refine Below.drawsN ?_ _ | refine Below.setCell ?_ ?_ _ | refine le_bel ?_ | refine le_alloc ?_ | refine le_setCell ?_ | refine le_drew ?_ | refine le_drawsN ?_) | (dsimp only; with_reducible first | refine le_bel ?_ | refine Nat.le_refl _ | refine le_bel_add ?_) | (with_reducible assumption) | omega | (dsimp only; omega)))))).mono ?_)
      rintro _ _ ⟨rfl, x3, rfl⟩
      go_wp2
      go_ret
      exact Ret.mk (by rfl) (by (repeat' (first | (with_reducible first | exact Below.refl _ _ | exact Nat.le_refl _ | refine Below.bel ?_ ?_ | refine Below.alloc ?_ ?_ _ | refine Below.drew ?_ | refine Below.drawsN ?_ _ | refine Below.setCell ?_ ?_ _ | refine le_bel ?_ | refine le_alloc ?_ | refine le_setCell ?_ | refine le_drew ?_ | refine le_drawsN ?_) | (dsimp only; with_reducible first | refine le_bel ?_ | refine Nat.le_refl _ | refine le_bel_add ?_) | (with_reducible assumption) | omega | (dsimp only; omega))))
    · go_enter Tryz.func35, Tryz.ntmps35
      go_wp2_with fail
      (with_reducible refine (HQa.out _ h9).mono ?_)
      rintro _ _ ⟨rfl, x1, rfl⟩
      have hx1 := x1.size_le
      dsimp only
      go_wp2_with fail
      (with_reducible refine (HNb.out _ (by omega)).mono ?_)
      rintro _ _ ⟨rfl, x2, rfl⟩
      have hx2 := x2.size_le
      dsimp only
      go_wp2_with fail
      refine (HSa.out _).mono ?_
      rintro _ _ ⟨v1, rfl, y1, rfl, hv1⟩
      have hs1 := y1.size_le
      obtain ⟨p1, c1, rfl, hL1⟩ := limbs_own hv1
      have HV1 := Lib.hid hv1
      clear hv1 hL1
      dsimp only
      go_wp2_with fail
      refine (HSb.out _).mono ?_
      rintro _ _ ⟨v2, rfl, y2, rfl, hv2⟩
      have hs2 := y2.size_le
      obtain ⟨p2, c2, rfl, hL2⟩ := limbs_own hv2
      have hW1 := ownV_bel HV1.out y2
      obtain ⟨p1', c1', he1, hL1⟩ := limbs_own hW1
      cases he1
      have HL1 := Lib.hid hL1
      have HL2 := Lib.hid hL2
      clear hW1 hL1 hL2 hv2
      dsimp only
      by_cases hmm : ma = mb
      · subst hmm
        have HE := Lib.hid (HSG.out rfl)
        have hq : (ma == ma) = true := by simp
        go_wp2_with fail
        refine (plus_any _ _ _ _ _ _ _ HL1.out HL2.out hla hlb).mono ?_
        rintro _ _ ⟨v3, rfl, y3, rfl, hv3⟩
        have hs3 := y3.size_le
        obtain ⟨p3, c3, rfl, hL3⟩ := limbs_own hv3
        dsimp only
        go_wp2_with fail
        refine (signed_any _ _ _ _ _ hL3 hlp (HT.out.of (by (repeat' (first | (with_reducible first | exact Below.refl _ _ | exact Nat.le_refl _ | refine Below.bel ?_ ?_ | refine Below.alloc ?_ ?_ _ | refine Below.drew ?_ | refine Below.drawsN ?_ _ | refine Below.setCell ?_ ?_ _ | refine le_bel ?_ | refine le_alloc ?_ | refine le_setCell ?_ | refine le_drew ?_ | refine le_drawsN ?_) | (dsimp only; with_reducible first | refine le_bel ?_ | refine Nat.le_refl _ | refine le_bel_add ?_) | (with_reducible assumption) | omega | (dsimp only; omega)))))).mono ?_
        rintro _ _ ⟨rfl, y4, rfl⟩
        dsimp only
        go_wp2
        go_ret
        exact Ret.mk (by rw [← HE.out]; rfl) (by (repeat' (first | (with_reducible first | exact Below.refl _ _ | exact Nat.le_refl _ | refine Below.bel ?_ ?_ | refine Below.alloc ?_ ?_ _ | refine Below.drew ?_ | refine Below.drawsN ?_ _ | refine Below.setCell ?_ ?_ _ | refine le_bel ?_ | refine le_alloc ?_ | refine le_setCell ?_ | refine le_drew ?_ | refine le_drawsN ?_) | (dsimp only; with_reducible first | refine le_bel ?_ | refine Nat.le_refl _ | refine le_bel_add ?_) | (with_reducible assumption) | omega | (dsimp only; omega))))
      · have hq : (ma == mb) = false := beq_eq_false_iff_ne.2 hmm
        have HM := Lib.hid hmm
        clear hmm
        go_wp2_with fail
        refine (compare_any _ _ _ _ _ _ _ HL1.out HL2.out (by omega) (by omega)).mono ?_
        rintro _ _ ⟨rfl, y5, rfl⟩
        have hs5 := y5.size_le
        have HL1' := Lib.hid (limbs_of HL1.out y5.below)
        have HL2' := Lib.hid (limbs_of HL2.out y5.below)
        by_cases hc : a.natAbs < b.natAbs
        · have hcm : cmpN a.natAbs b.natAbs = -1 := if_pos hc
          have HE := Lib.hid (HS2.out HM.out hc)
          rw [hcm]
          clear hcm
          dsimp only
          go_wp2_with fail
          refine (less_any _ _ _ _ _ _ _ HL2'.out HL1'.out hlb (by omega)).mono ?_
          rintro _ _ ⟨v3, rfl, y3, rfl, hv3⟩
          have hs3 := y3.size_le
          obtain ⟨p3, c3, rfl, hL3⟩ := limbs_own hv3
          dsimp only
          go_wp2_with fail
          refine (signed_any _ _ _ _ _ hL3 hlt (HT.out.of (by (repeat' (first | (with_reducible first | exact Below.refl _ _ | exact Nat.le_refl _ | refine Below.bel ?_ ?_ | refine Below.alloc ?_ ?_ _ | refine Below.drew ?_ | refine Below.drawsN ?_ _ | refine Below.setCell ?_ ?_ _ | refine le_bel ?_ | refine le_alloc ?_ | refine le_setCell ?_ | refine le_drew ?_ | refine le_drawsN ?_) | (dsimp only; with_reducible first | refine le_bel ?_ | refine Nat.le_refl _ | refine le_bel_add ?_) | (with_reducible assumption) | omega | (dsimp only; omega)))))).mono ?_
          rintro _ _ ⟨rfl, y4, rfl⟩
          dsimp only
          go_wp2
          go_ret
          exact Ret.mk (by rw [← HE.out]; rfl) (by (repeat' (first | (with_reducible first | exact Below.refl _ _ | exact Nat.le_refl _ | refine Below.bel ?_ ?_ | refine Below.alloc ?_ ?_ _ | refine Below.drew ?_ | refine Below.drawsN ?_ _ | refine Below.setCell ?_ ?_ _ | refine le_bel ?_ | refine le_alloc ?_ | refine le_setCell ?_ | refine le_drew ?_ | refine le_drawsN ?_) | (dsimp only; with_reducible first | refine le_bel ?_ | refine Nat.le_refl _ | refine le_bel_add ?_) | (with_reducible assumption) | omega | (dsimp only; omega))))
        · have hcm : decide (0 ≤ cmpN a.natAbs b.natAbs) = true := by unfold cmpN; rw [if_neg hc]; split <;> decide
          have HE := Lib.hid (HS1.out HM.out (by omega))
          generalize cmpN a.natAbs b.natAbs = cm at *
          dsimp only
          go_wp2_with fail
          refine (less_any _ _ _ _ _ _ _ HL1'.out HL2'.out hla (by omega)).mono ?_
          rintro _ _ ⟨v3, rfl, y3, rfl, hv3⟩
          have hs3 := y3.size_le
          obtain ⟨p3, c3, rfl, hL3⟩ := limbs_own hv3
          dsimp only
          go_wp2_with fail
          refine (signed_any _ _ _ _ _ hL3 hls (HT.out.of (by (repeat' (first | (with_reducible first | exact Below.refl _ _ | exact Nat.le_refl _ | refine Below.bel ?_ ?_ | refine Below.alloc ?_ ?_ _ | refine Below.drew ?_ | refine Below.drawsN ?_ _ | refine Below.setCell ?_ ?_ _ | refine le_bel ?_ | refine le_alloc ?_ | refine le_setCell ?_ | refine le_drew ?_ | refine le_drawsN ?_) | (dsimp only; with_reducible first | refine le_bel ?_ | refine Nat.le_refl _ | refine le_bel_add ?_) | (with_reducible assumption) | omega | (dsimp only; omega)))))).mono ?_
          rintro _ _ ⟨rfl, y4, rfl⟩
          dsimp only
          go_wp2
          go_ret
          exact Ret.mk (by rw [← HE.out]; rfl) (by (repeat' (first | (with_reducible first | exact Below.refl _ _ | exact Nat.le_refl _ | refine Below.bel ?_ ?_ | refine Below.alloc ?_ ?_ _ | refine Below.drew ?_ | refine Below.drawsN ?_ _ | refine Below.setCell ?_ ?_ _ | refine le_bel ?_ | refine le_alloc ?_ | refine le_setCell ?_ | refine le_drew ?_ | refine le_drawsN ?_) | (dsimp only; with_reducible first | refine le_bel ?_ | refine Nat.le_refl _ | refine le_bel_add ?_) | (with_reducible assumption) | omega | (dsimp only; omega))))
  · go_enter Tryz.func35, Tryz.ntmps35
    go_wp2_with fail
    (with_reducible refine (HNa.out _ (by omega)).mono ?_)
    rintro _ _ ⟨rfl, x1, rfl⟩
    have hx1 := x1.size_le
    dsimp only
    go_wp2_with fail
    refine (HSa.out _).mono ?_
    rintro _ _ ⟨v1, rfl, y1, rfl, hv1⟩
    have hs1 := y1.size_le
    obtain ⟨p1, c1, rfl, hL1⟩ := limbs_own hv1
    have HV1 := Lib.hid hv1
    clear hv1 hL1
    dsimp only
    go_wp2_with fail
    refine (HSb.out _).mono ?_
    rintro _ _ ⟨v2, rfl, y2, rfl, hv2⟩
    have hs2 := y2.size_le
    obtain ⟨p2, c2, rfl, hL2⟩ := limbs_own hv2
    have hW1 := ownV_bel HV1.out y2
    obtain ⟨p1', c1', he1, hL1⟩ := limbs_own hW1
    cases he1
    have HL1 := Lib.hid hL1
    have HL2 := Lib.hid hL2
    clear hW1 hL1 hL2 hv2
    dsimp only
    by_cases hmm : ma = mb
    · subst hmm
      have HE := Lib.hid (HSG.out rfl)
      have hq : (ma == ma) = true := by simp
      go_wp2_with fail
      refine (plus_any _ _ _ _ _ _ _ HL1.out HL2.out hla hlb).mono ?_
      rintro _ _ ⟨v3, rfl, y3, rfl, hv3⟩
      have hs3 := y3.size_le
      obtain ⟨p3, c3, rfl, hL3⟩ := limbs_own hv3
      dsimp only
      go_wp2_with fail
      refine (signed_any _ _ _ _ _ hL3 hlp (HT.out.of (by (repeat' (first | (with_reducible first | exact Below.refl _ _ | exact Nat.le_refl _ | refine Below.bel ?_ ?_ | refine Below.alloc ?_ ?_ _ | refine Below.drew ?_ | refine Below.drawsN ?_ _ | refine Below.setCell ?_ ?_ _ | refine le_bel ?_ | refine le_alloc ?_ | refine le_setCell ?_ | refine le_drew ?_ | refine le_drawsN ?_) | (dsimp only; with_reducible first | refine le_bel ?_ | refine Nat.le_refl _ | refine le_bel_add ?_) | (with_reducible assumption) | omega | (dsimp only; omega)))))).mono ?_
      rintro _ _ ⟨rfl, y4, rfl⟩
      dsimp only
      go_wp2
      go_ret
      exact Ret.mk (by rw [← HE.out]; rfl) (by (repeat' (first | (with_reducible first | exact Below.refl _ _ | exact Nat.le_refl _ | refine Below.bel ?_ ?_ | refine Below.alloc ?_ ?_ _ | refine Below.drew ?_ | refine Below.drawsN ?_ _ | refine Below.setCell ?_ ?_ _ | refine le_bel ?_ | refine le_alloc ?_ | refine le_setCell ?_ | refine le_drew ?_ | refine le_drawsN ?_) | (dsimp only; with_reducible first | refine le_bel ?_ | refine Nat.le_refl _ | refine le_bel_add ?_) | (with_reducible assumption) | omega | (dsimp only; omega))))
    · have hq : (ma == mb) = false := beq_eq_false_iff_ne.2 hmm
      have HM := Lib.hid hmm
      clear hmm
      go_wp2_with fail
      refine (compare_any _ _ _ _ _ _ _ HL1.out HL2.out (by omega) (by omega)).mono ?_
      rintro _ _ ⟨rfl, y5, rfl⟩
      have hs5 := y5.size_le
      have HL1' := Lib.hid (limbs_of HL1.out y5.below)
      have HL2' := Lib.hid (limbs_of HL2.out y5.below)
      by_cases hc : a.natAbs < b.natAbs
      · have hcm : cmpN a.natAbs b.natAbs = -1 := if_pos hc
        have HE := Lib.hid (HS2.out HM.out hc)
        rw [hcm]
        clear hcm
        dsimp only
        go_wp2_with fail
        refine (less_any _ _ _ _ _ _ _ HL2'.out HL1'.out hlb (by omega)).mono ?_
        rintro _ _ ⟨v3, rfl, y3, rfl, hv3⟩
        have hs3 := y3.size_le
        obtain ⟨p3, c3, rfl, hL3⟩ := limbs_own hv3
        dsimp only
        go_wp2_with fail
        refine (signed_any _ _ _ _ _ hL3 hlt (HT.out.of (by (repeat' (first | (with_reducible first | exact Below.refl _ _ | exact Nat.le_refl _ | refine Below.bel ?_ ?_ | refine Below.alloc ?_ ?_ _ | refine Below.drew ?_ | refine Below.drawsN ?_ _ | refine Below.setCell ?_ ?_ _ | refine le_bel ?_ | refine le_alloc ?_ | refine le_setCell ?_ | refine le_drew ?_ | refine le_drawsN ?_) | (dsimp only; with_reducible first | refine le_bel ?_ | refine Nat.le_refl _ | refine le_bel_add ?_) | (with_reducible assumption) | omega | (dsimp only; omega)))))).mono ?_
        rintro _ _ ⟨rfl, y4, rfl⟩
        dsimp only
        go_wp2
        go_ret
        exact Ret.mk (by rw [← HE.out]; rfl) (by (repeat' (first | (with_reducible first | exact Below.refl _ _ | exact Nat.le_refl _ | refine Below.bel ?_ ?_ | refine Below.alloc ?_ ?_ _ | refine Below.drew ?_ | refine Below.drawsN ?_ _ | refine Below.setCell ?_ ?_ _ | refine le_bel ?_ | refine le_alloc ?_ | refine le_setCell ?_ | refine le_drew ?_ | refine le_drawsN ?_) | (dsimp only; with_reducible first | refine le_bel ?_ | refine Nat.le_refl _ | refine le_bel_add ?_) | (with_reducible assumption) | omega | (dsimp only; omega))))
      · have hcm : decide (0 ≤ cmpN a.natAbs b.natAbs) = true := by unfold cmpN; rw [if_neg hc]; split <;> decide
        have HE := Lib.hid (HS1.out HM.out (by omega))
        generalize cmpN a.natAbs b.natAbs = cm at *
        dsimp only
        go_wp2_with fail
        refine (less_any _ _ _ _ _ _ _ HL1'.out HL2'.out hla (by omega)).mono ?_
        rintro _ _ ⟨v3, rfl, y3, rfl, hv3⟩
        have hs3 := y3.size_le
        obtain ⟨p3, c3, rfl, hL3⟩ := limbs_own hv3
        dsimp only
        go_wp2_with fail
        refine (signed_any _ _ _ _ _ hL3 hls (HT.out.of (by (repeat' (first | (with_reducible first | exact Below.refl _ _ | exact Nat.le_refl _ | refine Below.bel ?_ ?_ | refine Below.alloc ?_ ?_ _ | refine Below.drew ?_ | refine Below.drawsN ?_ _ | refine Below.setCell ?_ ?_ _ | refine le_bel ?_ | refine le_alloc ?_ | refine le_setCell ?_ | refine le_drew ?_ | refine le_drawsN ?_) | (dsimp only; with_reducible first | refine le_bel ?_ | refine Nat.le_refl _ | refine le_bel_add ?_) | (with_reducible assumption) | omega | (dsimp only; omega)))))).mono ?_
        rintro _ _ ⟨rfl, y4, rfl⟩
        dsimp only
        go_wp2
        go_ret
        exact Ret.mk (by rw [← HE.out]; rfl) (by (repeat' (first | (with_reducible first | exact Below.refl _ _ | exact Nat.le_refl _ | refine Below.bel ?_ ?_ | refine Below.alloc ?_ ?_ _ | refine Below.drew ?_ | refine Below.drawsN ?_ _ | refine Below.setCell ?_ ?_ _ | refine le_bel ?_ | refine le_alloc ?_ | refine le_setCell ?_ | refine le_drew ?_ | refine le_drawsN ?_) | (dsimp only; with_reducible first | refine le_bel ?_ | refine Nat.le_refl _ | refine le_bel_add ?_) | (with_reducible assumption) | omega | (dsimp only; omega))))
end Go.Proofs.YtkdmhjlcgpnjpaaGreatDoor.I

namespace Go.Proofs.YtkdmhjlcgpnjpaaGreatDoor.I
set_option linter.unusedVariables false
set_option linter.unusedSimpArgs false
open Go.RowKit Go.Shelf
attribute [local go_sem low] Bel.cell Bel.frozen alloc_cell alloc_frozen

/-- A slice that shows a magnitude. -/
def LV (w : World) (v : Value) (n : Nat) : Prop := ∃ a cap, v = .slice a (lim n).length cap ∧ Limbs w a (lim n)
theorem LV.of {w w' : World} {v : Value} {n : Nat} (h : LV w v n) (hb : Below w.heap.size w w') : LV w' v n := by
  obtain ⟨a, cap, hv, hl⟩ := h
  exact ⟨a, cap, hv, limbs_of hl hb⟩
theorem LV.own {w : World} {base : Nat} {v : Value} {n : Nat} (h : OwnV w base 36 v (uVs (lim n))) : LV w v n := limbs_own h
theorem LV.zero (w : World) : LV w (.slice none 0 0) 0 := ⟨none, 0, by rw [show lim 0 = [] from limbs_zero _]; rfl, fun h => absurd h (by rw [show lim 0 = [] from limbs_zero _]; decide)⟩
theorem lim_one {n : Nat} (h0 : n ≠ 0) (h : n < 1000000000) : lim n = [n] := by
  show limbs 1000000000 n = [n]
  rw [limbs_pos (by decide) h0, Nat.mod_eq_of_lt h, Nat.div_eq_of_lt h, limbs_zero]
end Go.Proofs.YtkdmhjlcgpnjpaaGreatDoor.I

namespace Go.Proofs.YtkdmhjlcgpnjpaaGreatDoor.I
set_option linter.unusedVariables false
set_option linter.unusedSimpArgs false
open Go.RowKit Go.Shelf
attribute [local go_sem low] Bel.cell Bel.frozen alloc_cell alloc_frozen

theorem i64_and_nat (a b : Nat) (ha : a < 9223372036854775808) (hb : b < 9223372036854775808) : bits .and .i64 (a : Int) (b : Int) = ((a &&& b : Nat) : Int) := by
  have hx : a &&& b < 2 ^ 63 := Nat.and_lt_two_pow _ (by omega)
  show IntKind.i64.wrap ((BitVec.ofInt 64 (a : Int) &&& BitVec.ofInt 64 (b : Int)).toNat : Int) = _
  rw [BitVec.toNat_and, ofInt_u64 a (by omega), ofInt_u64 b (by omega)]
  exact IntWalk.i64_in _ (by omega)
/-- The bit of a round. -/
def pb (t : Nat) : Nat := 2 ^ t / 2
theorem pb_succ (t : Nat) : pb (t + 1) = 2 ^ t := by unfold pb; rw [Nat.pow_succ]; omega
theorem pb_half (t : Nat) : pb (t + 1) / 2 = pb t := by rw [pb_succ]; rfl
theorem pb_le {t : Nat} (h : t ≤ 14) : pb t ≤ 8192 := by
  have : (2 : Nat) ^ t ≤ 2 ^ 14 := Nat.pow_le_pow_right (by decide) h
  unfold pb
  omega
theorem and_pow (n t : Nat) : (n &&& 2 ^ t = 0) ↔ n.testBit t = false := by
  constructor
  · intro h
    have h2 : (n &&& 2 ^ t).testBit t = false := by rw [h]; exact Nat.zero_testBit t
    rw [Nat.testBit_and, Nat.testBit_two_pow_self, Bool.and_true] at h2
    exact h2
  · intro h
    refine Nat.eq_of_testBit_eq fun i => ?_
    rw [Nat.testBit_and, Nat.zero_testBit, Nat.testBit_two_pow]
    by_cases hi : t = i
    · subst hi; rw [h]; rfl
    · rw [decide_eq_false hi, Bool.and_false]
theorem pow_bit (n t : Nat) : n / 2 ^ t = 2 * (n / 2 ^ (t + 1)) + (if n &&& pb (t + 1) = 0 then 0 else 1) := by
  rw [pb_succ]
  have h1 : n / 2 ^ (t + 1) = n / 2 ^ t / 2 := by rw [Nat.pow_succ, Nat.div_div_eq_div_mul]
  have h3 : n.testBit t = decide (n / 2 ^ t % 2 = 1) := Nat.testBit_eq_decide_div_mod_eq
  rw [h1]
  by_cases h : n / 2 ^ t % 2 = 1
  · rw [if_neg (fun e => by rw [(and_pow n t).1 e, decide_eq_true h] at h3; cases h3)]
    omega
  · rw [if_pos ((and_pow n t).2 (by rw [h3, decide_eq_false h]))]
    omega
theorem pow_double (M e : Nat) : M ^ e * M ^ e = M ^ (2 * e) := by rw [← Nat.pow_add]; congr 1; omega
theorem neg_powI (m : Int) : ∀ n : Nat, (-m) ^ n = if n % 2 = 1 then -(m ^ n) else m ^ n
  | 0 => by simp
  | n + 1 => by
    rw [Int.pow_succ, neg_powI m n, Int.pow_succ]
    by_cases h : n % 2 = 1
    · rw [if_pos h, if_neg (by omega), Int.neg_mul_neg]
    · rw [if_neg h, if_pos (by omega), Int.mul_neg]
theorem sg_pow (z : Int) (n : Nat) : sg (decide (z < 0) && decide (n % 2 = 1)) (z.natAbs ^ n) = z ^ n := by
  unfold sg
  by_cases hz : z < 0
  · have e : z = -(z.natAbs : Int) := by omega
    conv => rhs; rw [e]
    rw [neg_powI, decide_eq_true hz]
    by_cases h : n % 2 = 1
    · rw [if_pos (by simp [h]), if_pos h, Int.natCast_pow]
    · rw [if_neg (by simp [h]), if_neg h, Int.natCast_pow]
  · have e : z = (z.natAbs : Int) := by omega
    conv => rhs; rw [e]
    rw [if_neg (by simp [hz]), Int.natCast_pow]
theorem lim_pow {M d e : Nat} (h : M < 10 ^ d) (he : d * e ≤ 60000) : (lim (M ^ e)).length ≤ 10000 := by
  have h1 : M ^ e ≤ (10 ^ d) ^ e := Nat.pow_le_pow_left (Nat.le_of_lt h) e
  rw [← Nat.pow_mul] at h1
  exact lim_le2 (Nat.lt_of_le_of_lt h1 (Nat.pow_lt_pow_right (by decide) (Nat.lt_succ_self _))) (by omega)
set_option maxRecDepth 100000 in
set_option maxHeartbeats 12800000 in
theorem power_any (z : Int) (n : Nat) (w : World) (hz : nd z ≤ 70000) (hn : n ≤ 6000) (hnd : n * nd z ≤ 24000) (hT : Tab w) :
    Calls Tryz.prog 54 #[.string ⟨(iT z).toArray⟩, .int .i64 (n : Int)] w (Ret (.tuple #[.string ⟨(iT (z ^ n)).toArray⟩, .int .i64 0]) w) := by
  have HT := Lib.hid hT
  clear hT
  have HS := Lib.hid (fun w' => split_any z w' (show nd z ≤ 80000 by omega))
  have hlz := lim_nd z (by omega)
  have HTX := Lib.hid (fun a cap w' (h : Limbs w' a (lim z.natAbs)) (hT : Tab w') => text_any a cap z.natAbs w' h hlz hT)
  have hM := nd_lt z
  have hdn : (Lib.decDigits z.natAbs).length = nd z := rfl
  rw [← sg_pow]
  obtain ⟨mz, hmz⟩ : ∃ m, decide (z < 0) = m := ⟨_, rfl⟩
  rw [hmz] at HS ⊢
  clear hmz
  have hl1 : lim 1 = [1] := lim_one (by decide) (by decide)
  generalize iT z = tz at *
  generalize nd z = d at *
  generalize z.natAbs = M at *
  generalize Lib.decDigits M = dt at *
  obtain ⟨p, hp⟩ : ∃ p, n * d = p := ⟨_, rfl⟩
  have hpc : (n : Int) * (dt.length : Int) = (p : Int) := by rw [hdn, ← hp]; simp
  rw [hp] at hnd
  have HLP := Lib.hid (fun (e : Nat) (he : e ≤ n) => @lim_pow M d e hM (by
    have := Nat.mul_le_mul_left d he
    rw [Nat.mul_comm d n, hp] at this
    omega))
  clear hM hp hdn
  have e1 : decide ((n : Int) < 0) = false := decide_eq_false (by omega)
  have e2 : decide ((6000 : Int) < (n : Int)) = false := decide_eq_false (by omega)
  have e3 : decide ((24000 : Int) < (p : Int)) = false := decide_eq_false (by omega)
  go_enter Tryz.func54, Tryz.ntmps54
  go_wp2_with fail
  refine (HS.out _).mono ?_
  rintro _ _ ⟨v1, rfl, y1, rfl, hv1⟩
  have hs1 := y1.size_le
  obtain ⟨p1, c1, rfl, hL1⟩ := LV.own hv1
  dsimp only
  go_wp2_with fail
  refine (HTX.out _ _ _ hL1 (HT.out.of (by (repeat' (first | (with_reducible first | exact Below.refl _ _ | exact Nat.le_refl _ | refine Below.bel ?_ ?_ | refine Below.alloc ?_ ?_ _ | refine Below.drew ?_ | refine Below.drawsN ?_ _ | refine Below.setCell ?_ ?_ _ | refine le_bel ?_ | refine le_alloc ?_ | refine le_setCell ?_ | refine le_drew ?_ | refine le_drawsN ?_) | (dsimp only; with_reducible first | refine le_bel ?_ | refine Nat.le_refl _ | refine le_bel_add ?_) | (with_reducible assumption) | omega | (dsimp only; omega)))))).mono ?_
  rintro _ _ ⟨rfl, y2, rfl⟩
  have hs2 := y2.size_le
  have HL1 := Lib.hid (limbs_of hL1 y2.below)
  clear hL1 hv1
  have hLV1 : LV (y2.w.alloc (.cells #[.int .u64 1] 36)) (.slice (some ⟨y2.w.heap.size, 0, none⟩) 1 1) 1 := by
    refine ⟨some ⟨y2.w.heap.size, 0, none⟩, 1, by rw [hl1]; rfl, ?_⟩
    rw [hl1]
    intro _
    exact ⟨_, 0, rfl, fun j x hj => by
      rcases j with _ | j
      · cases hj; simp [go_sem]
      · simp at hj⟩
  dsimp only
  go_wp2
  go_loopw [8, 9] (fun v b wr => ∃ t : Nat, t ≤ 14 ∧ b = .int .i64 (pb t : Int) ∧ LV wr v (M ^ (n / 2 ^ t)) ∧ Limbs wr p1 (lim M) ∧ Below w.heap.size w wr) (fun _ b _ => (intOf b).toNat)
  case atStart => exact ⟨14, by omega, rfl, by rw [show n / 2 ^ 14 = 0 from Nat.div_eq_of_lt (by omega), Nat.pow_zero]; exact hLV1, limbs_of HL1.out (by (repeat' (first | (with_reducible first | exact Below.refl _ _ | exact Nat.le_refl _ | refine Below.bel ?_ ?_ | refine Below.alloc ?_ ?_ _ | refine Below.drew ?_ | refine Below.drawsN ?_ _ | refine Below.setCell ?_ ?_ _ | refine le_bel ?_ | refine le_alloc ?_ | refine le_setCell ?_ | refine le_drew ?_ | refine le_drawsN ?_) | (dsimp only; with_reducible first | refine le_bel ?_ | refine Nat.le_refl _ | refine le_bel_add ?_) | (with_reducible assumption) | omega | (dsimp only; omega)))), by (repeat' (first | (with_reducible first | exact Below.refl _ _ | exact Nat.le_refl _ | refine Below.bel ?_ ?_ | refine Below.alloc ?_ ?_ _ | refine Below.drew ?_ | refine Below.drawsN ?_ _ | refine Below.setCell ?_ ?_ _ | refine le_bel ?_ | refine le_alloc ?_ | refine le_setCell ?_ | refine le_drew ?_ | refine le_drawsN ?_) | (dsimp only; with_reducible first | refine le_bel ?_ | refine Nat.le_refl _ | refine le_bel_add ?_) | (with_reducible assumption) | omega | (dsimp only; omega)))⟩
  case round =>
    clear hLV1
    obtain ⟨t, ht, rfl, hv, hm, hb⟩ := hrel
    have hbs := hb.size
    obtain ⟨p2, c2, rfl, hL2⟩ := hv
    rcases Nat.eq_zero_or_pos t with h0 | h0
    · subst h0
      rw [show ((pb 0 : Nat) : Int) = 0 from rfl]
      rw [Nat.pow_zero, Nat.div_one] at hL2 ⊢
      have hlp := HLP.out n (Nat.le_refl _)
      have HL2 := Lib.hid hL2
      clear hL2 hm
      generalize M ^ n = X at *
      cases mz
      · go_wp2_with fail
        refine (signed_any _ _ _ _ _ HL2.out hlp (HT.out.of (by (repeat' (first | (with_reducible first | exact Below.refl _ _ | exact Nat.le_refl _ | refine Below.bel ?_ ?_ | refine Below.alloc ?_ ?_ _ | refine Below.drew ?_ | refine Below.drawsN ?_ _ | refine Below.setCell ?_ ?_ _ | refine le_bel ?_ | refine le_alloc ?_ | refine le_setCell ?_ | refine le_drew ?_ | refine le_drawsN ?_) | (dsimp only; with_reducible first | refine le_bel ?_ | refine Nat.le_refl _ | refine le_bel_add ?_) | (with_reducible assumption) | omega | (dsimp only; omega)))))).mono ?_
        rintro _ _ ⟨rfl, z1, rfl⟩
        dsimp only
        go_wp2
        refine bodyPost_ret (v := .tuple #[.string ⟨(iT (sg false X)).toArray⟩, .int .i64 0]) (by simp [results, Tryz.results54, go_sem]) rfl (Ret.mk (by rfl) (by (repeat' (first | (with_reducible first | exact Below.refl _ _ | exact Nat.le_refl _ | refine Below.bel ?_ ?_ | refine Below.alloc ?_ ?_ _ | refine Below.drew ?_ | refine Below.drawsN ?_ _ | refine Below.setCell ?_ ?_ _ | refine le_bel ?_ | refine le_alloc ?_ | refine le_setCell ?_ | refine le_drew ?_ | refine le_drawsN ?_) | (dsimp only; with_reducible first | refine le_bel ?_ | refine Nat.le_refl _ | refine le_bel_add ?_) | (with_reducible assumption) | omega | (dsimp only; omega)))))
      · by_cases h2 : n % 2 = 1
        · have h2' : ((n : Int) % 2 == 1) = true := beq_iff_eq.2 (by omega)
          have HQ := Lib.hid (decide_eq_true h2)
          clear h2
          go_wp2_with fail
          refine (signed_any _ _ _ _ _ HL2.out hlp (HT.out.of (by (repeat' (first | (with_reducible first | exact Below.refl _ _ | exact Nat.le_refl _ | refine Below.bel ?_ ?_ | refine Below.alloc ?_ ?_ _ | refine Below.drew ?_ | refine Below.drawsN ?_ _ | refine Below.setCell ?_ ?_ _ | refine le_bel ?_ | refine le_alloc ?_ | refine le_setCell ?_ | refine le_drew ?_ | refine le_drawsN ?_) | (dsimp only; with_reducible first | refine le_bel ?_ | refine Nat.le_refl _ | refine le_bel_add ?_) | (with_reducible assumption) | omega | (dsimp only; omega)))))).mono ?_
          rintro _ _ ⟨rfl, z1, rfl⟩
          dsimp only
          go_wp2
          refine bodyPost_ret (v := .tuple #[.string ⟨(iT (sg true X)).toArray⟩, .int .i64 0]) (by simp [results, Tryz.results54, go_sem]) rfl (Ret.mk (by rw [HQ.out]; rfl) (by (repeat' (first | (with_reducible first | exact Below.refl _ _ | exact Nat.le_refl _ | refine Below.bel ?_ ?_ | refine Below.alloc ?_ ?_ _ | refine Below.drew ?_ | refine Below.drawsN ?_ _ | refine Below.setCell ?_ ?_ _ | refine le_bel ?_ | refine le_alloc ?_ | refine le_setCell ?_ | refine le_drew ?_ | refine le_drawsN ?_) | (dsimp only; with_reducible first | refine le_bel ?_ | refine Nat.le_refl _ | refine le_bel_add ?_) | (with_reducible assumption) | omega | (dsimp only; omega)))))
        · have h2' : ((n : Int) % 2 == 1) = false := beq_eq_false_iff_ne.2 (by omega)
          have HQ := Lib.hid (decide_eq_false h2)
          clear h2
          go_wp2_with fail
          refine (signed_any _ _ _ _ _ HL2.out hlp (HT.out.of (by (repeat' (first | (with_reducible first | exact Below.refl _ _ | exact Nat.le_refl _ | refine Below.bel ?_ ?_ | refine Below.alloc ?_ ?_ _ | refine Below.drew ?_ | refine Below.drawsN ?_ _ | refine Below.setCell ?_ ?_ _ | refine le_bel ?_ | refine le_alloc ?_ | refine le_setCell ?_ | refine le_drew ?_ | refine le_drawsN ?_) | (dsimp only; with_reducible first | refine le_bel ?_ | refine Nat.le_refl _ | refine le_bel_add ?_) | (with_reducible assumption) | omega | (dsimp only; omega)))))).mono ?_
          rintro _ _ ⟨rfl, z1, rfl⟩
          dsimp only
          go_wp2
          refine bodyPost_ret (v := .tuple #[.string ⟨(iT (sg false X)).toArray⟩, .int .i64 0]) (by simp [results, Tryz.results54, go_sem]) rfl (Ret.mk (by rw [HQ.out]; rfl) (by (repeat' (first | (with_reducible first | exact Below.refl _ _ | exact Nat.le_refl _ | refine Below.bel ?_ ?_ | refine Below.alloc ?_ ?_ _ | refine Below.drew ?_ | refine Below.drawsN ?_ _ | refine Below.setCell ?_ ?_ _ | refine le_bel ?_ | refine le_alloc ?_ | refine le_setCell ?_ | refine le_drew ?_ | refine le_drawsN ?_) | (dsimp only; with_reducible first | refine le_bel ?_ | refine Nat.le_refl _ | refine le_bel_add ?_) | (with_reducible assumption) | omega | (dsimp only; omega)))))
    · obtain ⟨k, rfl⟩ : ∃ k, t = k + 1 := ⟨t - 1, by omega⟩
      have hk := pow_bit n k
      have hhalf := pb_half k
      have hpl := pb_le ht
      have hpp : 0 < pb (k + 1) := by rw [pb_succ]; exact Nat.pow_pos (by decide)
      have hand := i64_and_nat n (pb (k + 1)) (by omega) (by omega)
      have hel : n / 2 ^ (k + 1) ≤ n := Nat.div_le_self _ _
      have hel2 : n / 2 ^ k ≤ n := Nat.div_le_self _ _
      generalize pb (k + 1) = b at *
      generalize n / 2 ^ (k + 1) = e at *
      obtain ⟨A, hA⟩ : ∃ A, n &&& b = A := ⟨_, rfl⟩
      rw [hA] at hand hk
      have hlX := HLP.out e hel
      have hlX2 := HLP.out (2 * e) (by split at hk <;> omega)
      have hbp : decide (0 < (b : Int)) = true := decide_eq_true (by omega)
      have HL2 := Lib.hid hL2
      have HM := Lib.hid hm
      clear hL2 hm hA
      have HHF := Lib.hid (show ((b : Nat) : Int) / 2 = (pb k : Int) by omega)
      clear hhalf
      by_cases hA0 : A = 0
      · rw [if_pos hA0, Nat.add_zero] at hk
        have HK := Lib.hid hk
        subst hA0
        clear hk hel2
        go_wp2_with fail
        refine (times_any _ _ _ _ _ _ _ HL2.out HL2.out hlX hlX).mono ?_
        rintro _ _ ⟨v3, rfl, y3, rfl, hv3⟩
        have hs3 := y3.size_le
        rw [pow_double] at hv3
        have HV3 := Lib.hid (LV.own hv3)
        obtain ⟨p3, c3, rfl, hL3⟩ := LV.own hv3
        clear hL3 hv3
        dsimp only
        go_wp2
        go_roundw
        case rel => exact ⟨k, by omega, congrArg (Value.int .i64) HHF.out, by rw [HK.out]; exact HV3.out, limbs_of HM.out y3.below, by (repeat' (first | (with_reducible first | exact Below.refl _ _ | exact Nat.le_refl _ | refine Below.bel ?_ ?_ | refine Below.alloc ?_ ?_ _ | refine Below.drew ?_ | refine Below.drawsN ?_ _ | refine Below.setCell ?_ ?_ _ | refine le_bel ?_ | refine le_alloc ?_ | refine le_setCell ?_ | refine le_drew ?_ | refine le_drawsN ?_) | (dsimp only; with_reducible first | refine le_bel ?_ | refine Nat.le_refl _ | refine le_bel_add ?_) | (with_reducible assumption) | omega | (dsimp only; omega)))⟩
        case measure => simp [intOf]; omega
      · rw [if_neg hA0] at hk
        have HK := Lib.hid hk
        have hAt : ((A : Int) != 0) = true := by simp; exact hA0
        have hlX3 := HLP.out (n / 2 ^ k) hel2
        rw [hk] at hlX3
        clear hk hel2 hA0
        go_wp2_with fail
        refine (times_any _ _ _ _ _ _ _ HL2.out HL2.out hlX hlX).mono ?_
        rintro _ _ ⟨v3, rfl, y3, rfl, hv3⟩
        have hs3 := y3.size_le
        rw [pow_double] at hv3
        obtain ⟨p3, c3, rfl, hL3⟩ := LV.own hv3
        have HL3 := Lib.hid hL3
        have HM3 := Lib.hid (limbs_of HM.out y3.below)
        clear hL3 hv3
        dsimp only
        go_wp2_with fail
        refine (times_any _ _ _ _ _ _ _ HL3.out HM3.out hlX2 hlz).mono ?_
        rintro _ _ ⟨v4, rfl, y4, rfl, hv4⟩
        have hs4 := y4.size_le
        rw [← Nat.pow_succ] at hv4
        have HV4 := Lib.hid (LV.own hv4)
        obtain ⟨p4, c4, rfl, hL4⟩ := LV.own hv4
        clear hL4 hv4
        dsimp only
        go_wp2
        go_roundw
        case rel => exact ⟨k, by omega, congrArg (Value.int .i64) HHF.out, by rw [HK.out]; exact HV4.out, limbs_of HM3.out y4.below, by (repeat' (first | (with_reducible first | exact Below.refl _ _ | exact Nat.le_refl _ | refine Below.bel ?_ ?_ | refine Below.alloc ?_ ?_ _ | refine Below.drew ?_ | refine Below.drawsN ?_ _ | refine Below.setCell ?_ ?_ _ | refine le_bel ?_ | refine le_alloc ?_ | refine le_setCell ?_ | refine le_drew ?_ | refine le_drawsN ?_) | (dsimp only; with_reducible first | refine le_bel ?_ | refine Nat.le_refl _ | refine le_bel_add ?_) | (with_reducible assumption) | omega | (dsimp only; omega)))⟩
        case measure => simp [intOf]; omega
end Go.Proofs.YtkdmhjlcgpnjpaaGreatDoor.I
