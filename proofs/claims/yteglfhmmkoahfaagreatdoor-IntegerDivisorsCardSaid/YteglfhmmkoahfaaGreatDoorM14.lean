/- Add, Sub. -/
import Derived.Test.YteglfhmmkoahfaaGreatDoorM13
import Derived.Test.YteglfhmmkoahfaaGreatDoorM3
namespace Go.Proofs.YteglfhmmkoahfaaGreatDoor
open Go.RowKit Go.Shelf
attribute [local go_sem low] Bel.cell Bel.frozen alloc_cell alloc_frozen

theorem add_lt10 {a b d e : Nat} (h1 : a < 10 ^ d) (h2 : b < 10 ^ e) : a + b < 10 ^ (max d e + 1) := by
  have h3 : (10 : Nat) ^ d ≤ 10 ^ max d e := Nat.pow_le_pow_right (by decide) (Nat.le_max_left _ _)
  have h4 : (10 : Nat) ^ e ≤ 10 ^ max d e := Nat.pow_le_pow_right (by decide) (Nat.le_max_right _ _)
  rw [Nat.pow_succ]
  omega
theorem lim_add (a b : Int) (ha : nd a ≤ 80000) (hb : nd b ≤ 80000) : (lim (a.natAbs + b.natAbs)).length ≤ 10000 := lim_le2 (add_lt10 (nd_lt a) (nd_lt b)) (by omega)
theorem lim_sub (a b : Int) (ha : nd a ≤ 80000) : (lim (a.natAbs - b.natAbs)).length ≤ 10000 := lim_le2 (Nat.lt_of_le_of_lt (Nat.sub_le _ _) (nd_lt a)) (by omega)
theorem sg_add {a b : Int} (h : decide (a < 0) = decide (b < 0)) : sg (decide (a < 0)) (a.natAbs + b.natAbs) = a + b := by
  unfold sg
  by_cases h1 : a < 0 <;> by_cases h2 : b < 0 <;> simp [h1, h2] at h ⊢ <;> omega
theorem sg_sub1 {a b : Int} (h : decide (a < 0) ≠ decide (b < 0)) (hc : b.natAbs ≤ a.natAbs) : sg (decide (a < 0)) (a.natAbs - b.natAbs) = a + b := by
  unfold sg
  by_cases h1 : a < 0 <;> by_cases h2 : b < 0 <;> simp [h1, h2] at h ⊢ <;> omega
theorem sg_sub2 {a b : Int} (h : decide (a < 0) ≠ decide (b < 0)) (hc : a.natAbs < b.natAbs) : sg (decide (b < 0)) (b.natAbs - a.natAbs) = a + b := by
  unfold sg
  by_cases h1 : a < 0 <;> by_cases h2 : b < 0 <;> simp [h1, h2] at h ⊢ <;> omega
theorem add_small {a b : Int} (h1 : nd a ≤ 18) (h2 : nd b ≤ 18) : -2000000000000000000 ≤ a + b ∧ a + b ≤ 2000000000000000000 := by
  have h3 := nd_lt a
  have h4 := nd_lt b
  have h5 : (10 : Nat) ^ nd a ≤ 10 ^ 18 := Nat.pow_le_pow_right (by decide) h1
  have h6 : (10 : Nat) ^ nd b ≤ 10 ^ 18 := Nat.pow_le_pow_right (by decide) h2
  have h7 : (10 : Nat) ^ 18 = 1000000000000000000 := rfl
  omega
set_option maxRecDepth 100000 in
set_option maxHeartbeats 12800000 in
theorem add_any (a b : Int) (w : World) (ha : nd a ≤ 80000) (hb : nd b ≤ 80000) (hT : Tab w) :
    Calls Tryz.prog 26 #[.string ⟨(iT a).toArray⟩, .string ⟨(iT b).toArray⟩] w (Ret (.string ⟨(iT (a + b)).toArray⟩) w) := by
  have HT := Lib.hid hT
  clear hT
  have HSa := Lib.hid (fun w' => split_any a w' (show nd a ≤ 80000 by omega))
  have HSb := Lib.hid (fun w' => split_any b w' (show nd b ≤ 80000 by omega))
  have hla := lim_nd a (by omega)
  have hlb := lim_nd b (by omega)
  have hlp := lim_add a b ha hb
  have hls := lim_sub a b ha
  have hlt := lim_sub b a hb
  have HSG := Lib.hid (@sg_add a b)
  have HS1 := Lib.hid (@sg_sub1 a b)
  have HS2 := Lib.hid (@sg_sub2 a b)
  have HQa := Lib.hid (fun w' (h : nd a ≤ 18) => quick_18 a w' h)
  have HQb := Lib.hid (fun w' (h : nd b ≤ 18) => quick_18 b w' h)
  have HNa := Lib.hid (fun w' (h : 18 < nd a) => quick_n18 a w' h (show nd a ≤ 100000 by omega))
  have HNb := Lib.hid (fun w' (h : 18 < nd b) => quick_n18 b w' h (show nd b ≤ 100000 by omega))
  have HMS := Lib.hid (@add_small a b)
  obtain ⟨p, hp⟩ : ∃ p, a + b = p := ⟨_, rfl⟩
  rw [hp] at HSG HMS HS1 HS2 ⊢
  have HP := Lib.hid hp
  clear hp
  obtain ⟨ma, hma⟩ : ∃ m, decide (a < 0) = m := ⟨_, rfl⟩
  obtain ⟨mb, hmb⟩ : ∃ m, decide (b < 0) = m := ⟨_, rfl⟩
  rw [hma] at HSa HSG HS1 HS2
  rw [hmb] at HSb HSG HS1 HS2
  clear hma hmb
  by_cases h9 : nd a ≤ 18
  · by_cases h9b : nd b ≤ 18
    · have hms := HMS.out h9 h9b
      have hw : IntKind.i64.wrap p = p := IntWalk.i64_in _ (by omega)
      have hpe : a + b = p := HP.out
      go_enter Tryz.func26, Tryz.ntmps26
      go_wp2_with fail
      (with_reducible refine (HQa.out _ h9).mono ?_)
      rintro _ _ ⟨rfl, x1, rfl⟩
      have hx1 := x1.size_le
      dsimp only
      go_wp2_with fail
      (with_reducible refine (HQb.out _ h9b).mono ?_)
      rintro _ _ ⟨rfl, x2, rfl⟩
      have hx2 := x2.size_le
      dsimp only
      go_wp2_with fail
      (with_reducible refine (of_any p _ (by omega) (by omega) (HT.out.of (by (repeat' (first | (with_reducible exact Below.refl _ _) | (with_reducible exact Nat.le_refl _) | (with_reducible refine Below.bel ?_ ?_) | (with_reducible refine Below.alloc ?_ ?_ _) | (with_reducible refine Below.drew ?_) | (with_reducible refine Below.drawsN ?_ _) | (with_reducible refine Below.setCell ?_ ?_ _) | (with_reducible refine le_bel ?_) | (with_reducible refine le_alloc ?_) | (with_reducible refine le_setCell ?_) | (with_reducible refine le_drew ?_) | (with_reducible refine le_drawsN ?_) | (dsimp only; with_reducible refine le_bel ?_) | (dsimp only; with_reducible refine Nat.le_refl _) | (dsimp only; with_reducible refine le_bel_add ?_) | (with_reducible assumption) | omega | (dsimp only; omega)))))).mono ?_)
      rintro _ _ ⟨rfl, x3, rfl⟩
      go_wp2
      go_ret
      exact Ret.mk (by rfl) (by (repeat' (first | (with_reducible exact Below.refl _ _) | (with_reducible exact Nat.le_refl _) | (with_reducible refine Below.bel ?_ ?_) | (with_reducible refine Below.alloc ?_ ?_ _) | (with_reducible refine Below.drew ?_) | (with_reducible refine Below.drawsN ?_ _) | (with_reducible refine Below.setCell ?_ ?_ _) | (with_reducible refine le_bel ?_) | (with_reducible refine le_alloc ?_) | (with_reducible refine le_setCell ?_) | (with_reducible refine le_drew ?_) | (with_reducible refine le_drawsN ?_) | (dsimp only; with_reducible refine le_bel ?_) | (dsimp only; with_reducible refine Nat.le_refl _) | (dsimp only; with_reducible refine le_bel_add ?_) | (with_reducible assumption) | omega | (dsimp only; omega))))
    · go_enter Tryz.func26, Tryz.ntmps26
      go_wp2_with fail
      (with_reducible refine (HQa.out _ h9).mono ?_)
      rintro _ _ ⟨rfl, x1, rfl⟩
      have hx1 := x1.size_le
      dsimp only
      go_wp2_with fail
      (with_reducible refine (HNb.out _ (by omega)).mono ?_)
      rintro _ _ ⟨rfl, x2, rfl⟩
      have hx2 := x2.size_le
      dsimp only
      go_wp2_with fail
      refine (HSa.out _).mono ?_
      rintro _ _ ⟨v1, rfl, y1, rfl, hv1⟩
      have hs1 := y1.size_le
      obtain ⟨p1, c1, rfl, hL1⟩ := limbs_own hv1
      have HV1 := Lib.hid hv1
      clear hv1 hL1
      dsimp only
      go_wp2_with fail
      refine (HSb.out _).mono ?_
      rintro _ _ ⟨v2, rfl, y2, rfl, hv2⟩
      have hs2 := y2.size_le
      obtain ⟨p2, c2, rfl, hL2⟩ := limbs_own hv2
      have hW1 := ownV_bel HV1.out y2
      obtain ⟨p1', c1', he1, hL1⟩ := limbs_own hW1
      cases he1
      have HL1 := Lib.hid hL1
      have HL2 := Lib.hid hL2
      clear hW1 hL1 hL2 hv2
      dsimp only
      by_cases hmm : ma = mb
      · subst hmm
        have HE := Lib.hid (HSG.out rfl)
        have hq : (ma == ma) = true := by simp
        go_wp2_with fail
        refine (plus_any _ _ _ _ _ _ _ HL1.out HL2.out hla hlb).mono ?_
        rintro _ _ ⟨v3, rfl, y3, rfl, hv3⟩
        have hs3 := y3.size_le
        obtain ⟨p3, c3, rfl, hL3⟩ := limbs_own hv3
        dsimp only
        go_wp2_with fail
        refine (signed_any _ _ _ _ _ hL3 hlp (HT.out.of (by (repeat' (first | (with_reducible exact Below.refl _ _) | (with_reducible exact Nat.le_refl _) | (with_reducible refine Below.bel ?_ ?_) | (with_reducible refine Below.alloc ?_ ?_ _) | (with_reducible refine Below.drew ?_) | (with_reducible refine Below.drawsN ?_ _) | (with_reducible refine Below.setCell ?_ ?_ _) | (with_reducible refine le_bel ?_) | (with_reducible refine le_alloc ?_) | (with_reducible refine le_setCell ?_) | (with_reducible refine le_drew ?_) | (with_reducible refine le_drawsN ?_) | (dsimp only; with_reducible refine le_bel ?_) | (dsimp only; with_reducible refine Nat.le_refl _) | (dsimp only; with_reducible refine le_bel_add ?_) | (with_reducible assumption) | omega | (dsimp only; omega)))))).mono ?_
        rintro _ _ ⟨rfl, y4, rfl⟩
        dsimp only
        go_wp2
        go_ret
        exact Ret.mk (by rw [← HE.out]; rfl) (by (repeat' (first | (with_reducible exact Below.refl _ _) | (with_reducible exact Nat.le_refl _) | (with_reducible refine Below.bel ?_ ?_) | (with_reducible refine Below.alloc ?_ ?_ _) | (with_reducible refine Below.drew ?_) | (with_reducible refine Below.drawsN ?_ _) | (with_reducible refine Below.setCell ?_ ?_ _) | (with_reducible refine le_bel ?_) | (with_reducible refine le_alloc ?_) | (with_reducible refine le_setCell ?_) | (with_reducible refine le_drew ?_) | (with_reducible refine le_drawsN ?_) | (dsimp only; with_reducible refine le_bel ?_) | (dsimp only; with_reducible refine Nat.le_refl _) | (dsimp only; with_reducible refine le_bel_add ?_) | (with_reducible assumption) | omega | (dsimp only; omega))))
      · have hq : (ma == mb) = false := beq_eq_false_iff_ne.2 hmm
        have HM := Lib.hid hmm
        clear hmm
        go_wp2_with fail
        refine (compare_any _ _ _ _ _ _ _ HL1.out HL2.out (by omega) (by omega)).mono ?_
        rintro _ _ ⟨rfl, y5, rfl⟩
        have hs5 := y5.size_le
        have HL1' := Lib.hid (limbs_of HL1.out y5.below)
        have HL2' := Lib.hid (limbs_of HL2.out y5.below)
        by_cases hc : a.natAbs < b.natAbs
        · have hcm : cmpN a.natAbs b.natAbs = -1 := if_pos hc
          have HE := Lib.hid (HS2.out HM.out hc)
          rw [hcm]
          clear hcm
          dsimp only
          go_wp2_with fail
          refine (less_any _ _ _ _ _ _ _ HL2'.out HL1'.out hlb (by omega)).mono ?_
          rintro _ _ ⟨v3, rfl, y3, rfl, hv3⟩
          have hs3 := y3.size_le
          obtain ⟨p3, c3, rfl, hL3⟩ := limbs_own hv3
          dsimp only
          go_wp2_with fail
          refine (signed_any _ _ _ _ _ hL3 hlt (HT.out.of (by (repeat' (first | (with_reducible exact Below.refl _ _) | (with_reducible exact Nat.le_refl _) | (with_reducible refine Below.bel ?_ ?_) | (with_reducible refine Below.alloc ?_ ?_ _) | (with_reducible refine Below.drew ?_) | (with_reducible refine Below.drawsN ?_ _) | (with_reducible refine Below.setCell ?_ ?_ _) | (with_reducible refine le_bel ?_) | (with_reducible refine le_alloc ?_) | (with_reducible refine le_setCell ?_) | (with_reducible refine le_drew ?_) | (with_reducible refine le_drawsN ?_) | (dsimp only; with_reducible refine le_bel ?_) | (dsimp only; with_reducible refine Nat.le_refl _) | (dsimp only; with_reducible refine le_bel_add ?_) | (with_reducible assumption) | omega | (dsimp only; omega)))))).mono ?_
          rintro _ _ ⟨rfl, y4, rfl⟩
          dsimp only
          go_wp2
          go_ret
          exact Ret.mk (by rw [← HE.out]; rfl) (by (repeat' (first | (with_reducible exact Below.refl _ _) | (with_reducible exact Nat.le_refl _) | (with_reducible refine Below.bel ?_ ?_) | (with_reducible refine Below.alloc ?_ ?_ _) | (with_reducible refine Below.drew ?_) | (with_reducible refine Below.drawsN ?_ _) | (with_reducible refine Below.setCell ?_ ?_ _) | (with_reducible refine le_bel ?_) | (with_reducible refine le_alloc ?_) | (with_reducible refine le_setCell ?_) | (with_reducible refine le_drew ?_) | (with_reducible refine le_drawsN ?_) | (dsimp only; with_reducible refine le_bel ?_) | (dsimp only; with_reducible refine Nat.le_refl _) | (dsimp only; with_reducible refine le_bel_add ?_) | (with_reducible assumption) | omega | (dsimp only; omega))))
        · have hcm : decide (0 ≤ cmpN a.natAbs b.natAbs) = true := by unfold cmpN; rw [if_neg hc]; split <;> decide
          have HE := Lib.hid (HS1.out HM.out (by omega))
          generalize cmpN a.natAbs b.natAbs = cm at *
          dsimp only
          go_wp2_with fail
          refine (less_any _ _ _ _ _ _ _ HL1'.out HL2'.out hla (by omega)).mono ?_
          rintro _ _ ⟨v3, rfl, y3, rfl, hv3⟩
          have hs3 := y3.size_le
          obtain ⟨p3, c3, rfl, hL3⟩ := limbs_own hv3
          dsimp only
          go_wp2_with fail
          refine (signed_any _ _ _ _ _ hL3 hls (HT.out.of (by (repeat' (first | (with_reducible exact Below.refl _ _) | (with_reducible exact Nat.le_refl _) | (with_reducible refine Below.bel ?_ ?_) | (with_reducible refine Below.alloc ?_ ?_ _) | (with_reducible refine Below.drew ?_) | (with_reducible refine Below.drawsN ?_ _) | (with_reducible refine Below.setCell ?_ ?_ _) | (with_reducible refine le_bel ?_) | (with_reducible refine le_alloc ?_) | (with_reducible refine le_setCell ?_) | (with_reducible refine le_drew ?_) | (with_reducible refine le_drawsN ?_) | (dsimp only; with_reducible refine le_bel ?_) | (dsimp only; with_reducible refine Nat.le_refl _) | (dsimp only; with_reducible refine le_bel_add ?_) | (with_reducible assumption) | omega | (dsimp only; omega)))))).mono ?_
          rintro _ _ ⟨rfl, y4, rfl⟩
          dsimp only
          go_wp2
          go_ret
          exact Ret.mk (by rw [← HE.out]; rfl) (by (repeat' (first | (with_reducible exact Below.refl _ _) | (with_reducible exact Nat.le_refl _) | (with_reducible refine Below.bel ?_ ?_) | (with_reducible refine Below.alloc ?_ ?_ _) | (with_reducible refine Below.drew ?_) | (with_reducible refine Below.drawsN ?_ _) | (with_reducible refine Below.setCell ?_ ?_ _) | (with_reducible refine le_bel ?_) | (with_reducible refine le_alloc ?_) | (with_reducible refine le_setCell ?_) | (with_reducible refine le_drew ?_) | (with_reducible refine le_drawsN ?_) | (dsimp only; with_reducible refine le_bel ?_) | (dsimp only; with_reducible refine Nat.le_refl _) | (dsimp only; with_reducible refine le_bel_add ?_) | (with_reducible assumption) | omega | (dsimp only; omega))))
  · go_enter Tryz.func26, Tryz.ntmps26
    go_wp2_with fail
    (with_reducible refine (HNa.out _ (by omega)).mono ?_)
    rintro _ _ ⟨rfl, x1, rfl⟩
    have hx1 := x1.size_le
    dsimp only
    go_wp2_with fail
    refine (HSa.out _).mono ?_
    rintro _ _ ⟨v1, rfl, y1, rfl, hv1⟩
    have hs1 := y1.size_le
    obtain ⟨p1, c1, rfl, hL1⟩ := limbs_own hv1
    have HV1 := Lib.hid hv1
    clear hv1 hL1
    dsimp only
    go_wp2_with fail
    refine (HSb.out _).mono ?_
    rintro _ _ ⟨v2, rfl, y2, rfl, hv2⟩
    have hs2 := y2.size_le
    obtain ⟨p2, c2, rfl, hL2⟩ := limbs_own hv2
    have hW1 := ownV_bel HV1.out y2
    obtain ⟨p1', c1', he1, hL1⟩ := limbs_own hW1
    cases he1
    have HL1 := Lib.hid hL1
    have HL2 := Lib.hid hL2
    clear hW1 hL1 hL2 hv2
    dsimp only
    by_cases hmm : ma = mb
    · subst hmm
      have HE := Lib.hid (HSG.out rfl)
      have hq : (ma == ma) = true := by simp
      go_wp2_with fail
      refine (plus_any _ _ _ _ _ _ _ HL1.out HL2.out hla hlb).mono ?_
      rintro _ _ ⟨v3, rfl, y3, rfl, hv3⟩
      have hs3 := y3.size_le
      obtain ⟨p3, c3, rfl, hL3⟩ := limbs_own hv3
      dsimp only
      go_wp2_with fail
      refine (signed_any _ _ _ _ _ hL3 hlp (HT.out.of (by (repeat' (first | (with_reducible exact Below.refl _ _) | (with_reducible exact Nat.le_refl _) | (with_reducible refine Below.bel ?_ ?_) | (with_reducible refine Below.alloc ?_ ?_ _) | (with_reducible refine Below.drew ?_) | (with_reducible refine Below.drawsN ?_ _) | (with_reducible refine Below.setCell ?_ ?_ _) | (with_reducible refine le_bel ?_) | (with_reducible refine le_alloc ?_) | (with_reducible refine le_setCell ?_) | (with_reducible refine le_drew ?_) | (with_reducible refine le_drawsN ?_) | (dsimp only; with_reducible refine le_bel ?_) | (dsimp only; with_reducible refine Nat.le_refl _) | (dsimp only; with_reducible refine le_bel_add ?_) | (with_reducible assumption) | omega | (dsimp only; omega)))))).mono ?_
      rintro _ _ ⟨rfl, y4, rfl⟩
      dsimp only
      go_wp2
      go_ret
      exact Ret.mk (by rw [← HE.out]; rfl) (by (repeat' (first | (with_reducible exact Below.refl _ _) | (with_reducible exact Nat.le_refl _) | (with_reducible refine Below.bel ?_ ?_) | (with_reducible refine Below.alloc ?_ ?_ _) | (with_reducible refine Below.drew ?_) | (with_reducible refine Below.drawsN ?_ _) | (with_reducible refine Below.setCell ?_ ?_ _) | (with_reducible refine le_bel ?_) | (with_reducible refine le_alloc ?_) | (with_reducible refine le_setCell ?_) | (with_reducible refine le_drew ?_) | (with_reducible refine le_drawsN ?_) | (dsimp only; with_reducible refine le_bel ?_) | (dsimp only; with_reducible refine Nat.le_refl _) | (dsimp only; with_reducible refine le_bel_add ?_) | (with_reducible assumption) | omega | (dsimp only; omega))))
    · have hq : (ma == mb) = false := beq_eq_false_iff_ne.2 hmm
      have HM := Lib.hid hmm
      clear hmm
      go_wp2_with fail
      refine (compare_any _ _ _ _ _ _ _ HL1.out HL2.out (by omega) (by omega)).mono ?_
      rintro _ _ ⟨rfl, y5, rfl⟩
      have hs5 := y5.size_le
      have HL1' := Lib.hid (limbs_of HL1.out y5.below)
      have HL2' := Lib.hid (limbs_of HL2.out y5.below)
      by_cases hc : a.natAbs < b.natAbs
      · have hcm : cmpN a.natAbs b.natAbs = -1 := if_pos hc
        have HE := Lib.hid (HS2.out HM.out hc)
        rw [hcm]
        clear hcm
        dsimp only
        go_wp2_with fail
        refine (less_any _ _ _ _ _ _ _ HL2'.out HL1'.out hlb (by omega)).mono ?_
        rintro _ _ ⟨v3, rfl, y3, rfl, hv3⟩
        have hs3 := y3.size_le
        obtain ⟨p3, c3, rfl, hL3⟩ := limbs_own hv3
        dsimp only
        go_wp2_with fail
        refine (signed_any _ _ _ _ _ hL3 hlt (HT.out.of (by (repeat' (first | (with_reducible exact Below.refl _ _) | (with_reducible exact Nat.le_refl _) | (with_reducible refine Below.bel ?_ ?_) | (with_reducible refine Below.alloc ?_ ?_ _) | (with_reducible refine Below.drew ?_) | (with_reducible refine Below.drawsN ?_ _) | (with_reducible refine Below.setCell ?_ ?_ _) | (with_reducible refine le_bel ?_) | (with_reducible refine le_alloc ?_) | (with_reducible refine le_setCell ?_) | (with_reducible refine le_drew ?_) | (with_reducible refine le_drawsN ?_) | (dsimp only; with_reducible refine le_bel ?_) | (dsimp only; with_reducible refine Nat.le_refl _) | (dsimp only; with_reducible refine le_bel_add ?_) | (with_reducible assumption) | omega | (dsimp only; omega)))))).mono ?_
        rintro _ _ ⟨rfl, y4, rfl⟩
        dsimp only
        go_wp2
        go_ret
        exact Ret.mk (by rw [← HE.out]; rfl) (by (repeat' (first | (with_reducible exact Below.refl _ _) | (with_reducible exact Nat.le_refl _) | (with_reducible refine Below.bel ?_ ?_) | (with_reducible refine Below.alloc ?_ ?_ _) | (with_reducible refine Below.drew ?_) | (with_reducible refine Below.drawsN ?_ _) | (with_reducible refine Below.setCell ?_ ?_ _) | (with_reducible refine le_bel ?_) | (with_reducible refine le_alloc ?_) | (with_reducible refine le_setCell ?_) | (with_reducible refine le_drew ?_) | (with_reducible refine le_drawsN ?_) | (dsimp only; with_reducible refine le_bel ?_) | (dsimp only; with_reducible refine Nat.le_refl _) | (dsimp only; with_reducible refine le_bel_add ?_) | (with_reducible assumption) | omega | (dsimp only; omega))))
      · have hcm : decide (0 ≤ cmpN a.natAbs b.natAbs) = true := by unfold cmpN; rw [if_neg hc]; split <;> decide
        have HE := Lib.hid (HS1.out HM.out (by omega))
        generalize cmpN a.natAbs b.natAbs = cm at *
        dsimp only
        go_wp2_with fail
        refine (less_any _ _ _ _ _ _ _ HL1'.out HL2'.out hla (by omega)).mono ?_
        rintro _ _ ⟨v3, rfl, y3, rfl, hv3⟩
        have hs3 := y3.size_le
        obtain ⟨p3, c3, rfl, hL3⟩ := limbs_own hv3
        dsimp only
        go_wp2_with fail
        refine (signed_any _ _ _ _ _ hL3 hls (HT.out.of (by (repeat' (first | (with_reducible exact Below.refl _ _) | (with_reducible exact Nat.le_refl _) | (with_reducible refine Below.bel ?_ ?_) | (with_reducible refine Below.alloc ?_ ?_ _) | (with_reducible refine Below.drew ?_) | (with_reducible refine Below.drawsN ?_ _) | (with_reducible refine Below.setCell ?_ ?_ _) | (with_reducible refine le_bel ?_) | (with_reducible refine le_alloc ?_) | (with_reducible refine le_setCell ?_) | (with_reducible refine le_drew ?_) | (with_reducible refine le_drawsN ?_) | (dsimp only; with_reducible refine le_bel ?_) | (dsimp only; with_reducible refine Nat.le_refl _) | (dsimp only; with_reducible refine le_bel_add ?_) | (with_reducible assumption) | omega | (dsimp only; omega)))))).mono ?_
        rintro _ _ ⟨rfl, y4, rfl⟩
        dsimp only
        go_wp2
        go_ret
        exact Ret.mk (by rw [← HE.out]; rfl) (by (repeat' (first | (with_reducible exact Below.refl _ _) | (with_reducible exact Nat.le_refl _) | (with_reducible refine Below.bel ?_ ?_) | (with_reducible refine Below.alloc ?_ ?_ _) | (with_reducible refine Below.drew ?_) | (with_reducible refine Below.drawsN ?_ _) | (with_reducible refine Below.setCell ?_ ?_ _) | (with_reducible refine le_bel ?_) | (with_reducible refine le_alloc ?_) | (with_reducible refine le_setCell ?_) | (with_reducible refine le_drew ?_) | (with_reducible refine le_drawsN ?_) | (dsimp only; with_reducible refine le_bel ?_) | (dsimp only; with_reducible refine Nat.le_refl _) | (dsimp only; with_reducible refine le_bel_add ?_) | (with_reducible assumption) | omega | (dsimp only; omega))))
theorem nd_neg (z : Int) : nd (-z) = nd z := by unfold nd; rw [Int.natAbs_neg]
theorem sub_any (a b : Int) (w : World) (ha : nd a ≤ 80000) (hb : nd b ≤ 80000) (hT : Tab w) :
    Calls Tryz.prog 28 #[.string ⟨(iT a).toArray⟩, .string ⟨(iT b).toArray⟩] w (Ret (.string ⟨(iT (a - b)).toArray⟩) w) := by
  have HT := Lib.hid hT
  have HN := Lib.hid (fun w' => neg_any b w' (show nd b ≤ 100000 by omega))
  have HA := Lib.hid (fun w' (hT : Tab w') => add_any a (-b) w' ha (by rw [nd_neg]; exact hb) hT)
  rw [show a + -b = a - b by omega] at HA
  clear hT
  generalize iT b = t at *
  generalize iT (-b) = u at *
  generalize iT (a - b) = d at *
  generalize iT a = s at *
  go_enter Tryz.func28, Tryz.ntmps28
  go_wp2_with fail
  (with_reducible refine (HN.out _).mono ?_)
  rintro _ _ ⟨rfl, x1, rfl⟩
  have hx1 := x1.size_le
  dsimp only
  go_wp2_with fail
  (with_reducible refine (HA.out _ (HT.out.of (by (repeat' (first | (with_reducible exact Below.refl _ _) | (with_reducible exact Nat.le_refl _) | (with_reducible refine Below.bel ?_ ?_) | (with_reducible refine Below.alloc ?_ ?_ _) | (with_reducible refine Below.drew ?_) | (with_reducible refine Below.drawsN ?_ _) | (with_reducible refine Below.setCell ?_ ?_ _) | (with_reducible refine le_bel ?_) | (with_reducible refine le_alloc ?_) | (with_reducible refine le_setCell ?_) | (with_reducible refine le_drew ?_) | (with_reducible refine le_drawsN ?_) | (dsimp only; with_reducible refine le_bel ?_) | (dsimp only; with_reducible refine Nat.le_refl _) | (dsimp only; with_reducible refine le_bel_add ?_) | (with_reducible assumption) | omega | (dsimp only; omega)))))).mono ?_)
  rintro _ _ ⟨rfl, x2, rfl⟩
  dsimp only
  go_wp2
  go_ret
  exact Ret.mk (by rfl) (by (repeat' (first | (with_reducible exact Below.refl _ _) | (with_reducible exact Nat.le_refl _) | (with_reducible refine Below.bel ?_ ?_) | (with_reducible refine Below.alloc ?_ ?_ _) | (with_reducible refine Below.drew ?_) | (with_reducible refine Below.drawsN ?_ _) | (with_reducible refine Below.setCell ?_ ?_ _) | (with_reducible refine le_bel ?_) | (with_reducible refine le_alloc ?_) | (with_reducible refine le_setCell ?_) | (with_reducible refine le_drew ?_) | (with_reducible refine le_drawsN ?_) | (dsimp only; with_reducible refine le_bel ?_) | (dsimp only; with_reducible refine Nat.le_refl _) | (dsimp only; with_reducible refine le_bel_add ?_) | (with_reducible assumption) | omega | (dsimp only; omega))))
end Go.Proofs.YteglfhmmkoahfaaGreatDoor
