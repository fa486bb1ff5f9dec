/- The reference's Sub, Mul, Compare. -/
import Derived.Test.YteglfhmmkoahfaaGreatDoorR7
namespace Go.Proofs.YteglfhmmkoahfaaGreatDoor
open Go.RowKit Go.Shelf
attribute [local go_sem low] Bel.cell Bel.frozen alloc_cell alloc_frozen

theorem refSub_any (a b : Int) (w : World) (ha : nd a ≤ 20000) (hb : nd b ≤ 20000) (hT : Tab w) :
    Calls Tryz.prog 29 #[.string ⟨(iT a).toArray⟩, .string ⟨(iT b).toArray⟩] w (Ret (.string ⟨(iT (a - b)).toArray⟩) w) := by
  have HT := Lib.hid hT
  have HN := Lib.hid (fun w' => refNeg_any b w' (show nd b ≤ 100000 by omega))
  have HA := Lib.hid (fun w' (hT : Tab w') => refAdd_any a (-b) w' ha (by rw [nd_neg]; exact hb) hT)
  rw [show a + -b = a - b by omega] at HA
  clear hT
  generalize iT b = t at *
  generalize iT (-b) = u at *
  generalize iT (a - b) = d at *
  generalize iT a = s at *
  go_enter Tryz.func29, Tryz.ntmps29
  go_wp2_with fail
  (with_reducible refine (HN.out _).mono ?_)
  rintro _ _ ⟨rfl, x1, rfl⟩
  have hx1 := x1.size_le
  dsimp only
  go_wp2_with fail
  (with_reducible refine (HA.out _ (HT.out.of (by (repeat' (first | (with_reducible exact Below.refl _ _) | (with_reducible exact Nat.le_refl _) | (with_reducible refine Below.bel ?_ ?_) | (with_reducible refine Below.alloc ?_ ?_ _) | (with_reducible refine Below.drew ?_) | (with_reducible refine Below.drawsN ?_ _) | (with_reducible refine Below.setCell ?_ ?_ _) | (with_reducible refine le_bel ?_) | (with_reducible refine le_alloc ?_) | (with_reducible refine le_setCell ?_) | (with_reducible refine le_drew ?_) | (with_reducible refine le_drawsN ?_) | (dsimp only; with_reducible refine le_bel ?_) | (dsimp only; with_reducible refine Nat.le_refl _) | (dsimp only; with_reducible refine le_bel_add ?_) | (with_reducible assumption) | omega | (dsimp only; omega)))))).mono ?_)
  rintro _ _ ⟨rfl, x2, rfl⟩
  dsimp only
  go_wp2
  go_ret
  exact Ret.mk (by rfl) (by (repeat' (first | (with_reducible exact Below.refl _ _) | (with_reducible exact Nat.le_refl _) | (with_reducible refine Below.bel ?_ ?_) | (with_reducible refine Below.alloc ?_ ?_ _) | (with_reducible refine Below.drew ?_) | (with_reducible refine Below.drawsN ?_ _) | (with_reducible refine Below.setCell ?_ ?_ _) | (with_reducible refine le_bel ?_) | (with_reducible refine le_alloc ?_) | (with_reducible refine le_setCell ?_) | (with_reducible refine le_drew ?_) | (with_reducible refine le_drawsN ?_) | (dsimp only; with_reducible refine le_bel ?_) | (dsimp only; with_reducible refine Nat.le_refl _) | (dsimp only; with_reducible refine le_bel_add ?_) | (with_reducible assumption) | omega | (dsimp only; omega))))
theorem cmpI_sign (a b : Int) : (a - b).sign = cmpI a b := by
  unfold cmpI
  rcases Int.lt_trichotomy a b with h | h | h
  · rw [if_pos h, Int.sign_eq_neg_one_of_neg (by omega)]
  · subst h; rw [if_neg (by omega), if_neg (by omega), Int.sub_self]; rfl
  · rw [if_neg (by omega), if_pos h, Int.sign_eq_one_of_pos (by omega)]
theorem nd_le10 {z : Int} {k : Nat} (hk : 0 < k) (h : z.natAbs < 10 ^ k) : nd z ≤ k := dec_lenle h hk
theorem nd_subl (a b : Int) : nd (a - b) ≤ max (nd a) (nd b) + 1 := by
  refine nd_le10 (by omega) ?_
  have h1 := nd_lt a
  have h2 := nd_lt b
  have := add_lt10 h1 h2
  omega
theorem refCompare_any (a b : Int) (w : World) (ha : nd a ≤ 19000) (hb : nd b ≤ 19000) (hT : Tab w) :
    Calls Tryz.prog 14 #[.string ⟨(iT a).toArray⟩, .string ⟨(iT b).toArray⟩] w (Ret (.int .i64 (cmpI a b)) w) := by
  have hs := nd_subl a b
  have HA := Lib.hid (refSub_any a b w (by omega) (by omega) hT)
  have HS := Lib.hid (fun w' => refSign_any (a - b) w' (by omega))
  rw [cmpI_sign] at HS
  clear hT hs
  generalize iT b = t at *
  generalize iT (a - b) = d at *
  generalize iT a = s at *
  generalize cmpI a b = v at *
  go_enter Tryz.func14, Tryz.ntmps14
  go_wp2_with fail
  (with_reducible refine HA.out.mono ?_)
  rintro _ _ ⟨rfl, x1, rfl⟩
  dsimp only
  go_wp2_with fail
  (with_reducible refine (HS.out _).mono ?_)
  rintro _ _ ⟨rfl, x2, rfl⟩
  dsimp only
  go_wp2
  go_ret
  exact Ret.mk (by rfl) (by (repeat' (first | (with_reducible exact Below.refl _ _) | (with_reducible exact Nat.le_refl _) | (with_reducible refine Below.bel ?_ ?_) | (with_reducible refine Below.alloc ?_ ?_ _) | (with_reducible refine Below.drew ?_) | (with_reducible refine Below.drawsN ?_ _) | (with_reducible refine Below.setCell ?_ ?_ _) | (with_reducible refine le_bel ?_) | (with_reducible refine le_alloc ?_) | (with_reducible refine le_setCell ?_) | (with_reducible refine le_drew ?_) | (with_reducible refine le_drawsN ?_) | (dsimp only; with_reducible refine le_bel ?_) | (dsimp only; with_reducible refine Nat.le_refl _) | (dsimp only; with_reducible refine le_bel_add ?_) | (with_reducible assumption) | omega | (dsimp only; omega))))
set_option maxRecDepth 100000 in
set_option maxHeartbeats 6400000 in
theorem refMul_any (a b : Int) (w : World) (ha : nd a ≤ 20000) (hb : nd b ≤ 20000) (hT : Tab w) :
    Calls Tryz.prog 23 #[.string ⟨(iT a).toArray⟩, .string ⟨(iT b).toArray⟩] w (Ret (.string ⟨(iT (a * b)).toArray⟩) w) := by
  have HT := Lib.hid hT
  clear hT
  have HCa := Lib.hid (fun w' => cutZ_any a w' (by omega))
  have HCb := Lib.hid (fun w' => cutZ_any b w' (by omega))
  have HGa := Lib.hid (fun w' => groupZ_any a w' ha)
  have HGb := Lib.hid (fun w' => groupZ_any b w' hb)
  have hla := grp_nd a ha
  have hlb := grp_nd b hb
  have hlp : (grp (a.natAbs * b.natAbs)).length ≤ 10000 := grp_le10 (mul_lt10 (nd_lt a) (nd_lt b)) (by omega)
  have HSG := Lib.hid (sg_mul a b)
  have HQa := Lib.hid (fun w' => refSmall_any a w' (by omega))
  have HQb := Lib.hid (fun w' => refSmall_any b w' (by omega))
  have HMS := Lib.hid (@mul_small a b)
  obtain ⟨p, hp⟩ : ∃ p, a * b = p := ⟨_, rfl⟩
  rw [hp] at HSG HMS ⊢
  have HP := Lib.hid hp
  clear hp
  obtain ⟨ma, hma⟩ : ∃ m, decide (a < 0) = m := ⟨_, rfl⟩
  obtain ⟨mb, hmb⟩ : ∃ m, decide (b < 0) = m := ⟨_, rfl⟩
  rw [hma] at HCa HSG
  rw [hmb] at HCb HSG
  clear hma hmb
  have hda : (Lib.decDigits a.natAbs).length = nd a := rfl
  have hdb : (Lib.decDigits b.natAbs).length = nd b := rfl
  obtain ⟨da, hdae⟩ : ∃ d, Lib.decDigits a.natAbs = d := ⟨_, rfl⟩
  obtain ⟨db, hdbe⟩ : ∃ d, Lib.decDigits b.natAbs = d := ⟨_, rfl⟩
  rw [hdae] at HCa HGa hda
  rw [hdbe] at HCb HGb hdb
  clear hdae hdbe
  by_cases h9 : nd a < 9
  · have e1 : decide ((nd a : Int) < 9) = true := decide_eq_true (by omega)
    by_cases h9b : nd b < 9
    · have e2 : decide ((nd b : Int) < 9) = true := decide_eq_true (by omega)
      have hms := HMS.out (by omega) (by omega)
      have hw : IntKind.i64.wrap p = p := IntWalk.i64_in _ (by omega)
      have hpe : a * b = p := HP.out
      rw [if_pos (show nd a ≤ 18 by omega), decide_eq_true (show nd a ≤ 18 by omega)] at HQa
      rw [if_pos (show nd b ≤ 18 by omega), decide_eq_true (show nd b ≤ 18 by omega)] at HQb
      go_enter Tryz.func23, Tryz.ntmps23
      go_wp2_with fail
      (with_reducible refine (HCa.out _).mono ?_)
      rintro _ _ ⟨rfl, x1, rfl⟩
      have hx1 := x1.size_le
      dsimp only
      go_wp2_with fail
      (with_reducible refine (HCb.out _).mono ?_)
      rintro _ _ ⟨rfl, x2, rfl⟩
      have hx2 := x2.size_le
      dsimp only
      go_wp2_with fail
      (with_reducible refine (HQa.out _).mono ?_)
      rintro _ _ ⟨rfl, x3, rfl⟩
      have hx3 := x3.size_le
      dsimp only
      go_wp2_with fail
      (with_reducible refine (HQb.out _).mono ?_)
      rintro _ _ ⟨rfl, x4, rfl⟩
      have hx4 := x4.size_le
      dsimp only
      go_wp2_with fail
      (with_reducible refine (refOf_any p _ (by omega) (by omega) (HT.out.of (by (repeat' (first | (with_reducible exact Below.refl _ _) | (with_reducible exact Nat.le_refl _) | (with_reducible refine Below.bel ?_ ?_) | (with_reducible refine Below.alloc ?_ ?_ _) | (with_reducible refine Below.drew ?_) | (with_reducible refine Below.drawsN ?_ _) | (with_reducible refine Below.setCell ?_ ?_ _) | (with_reducible refine le_bel ?_) | (with_reducible refine le_alloc ?_) | (with_reducible refine le_setCell ?_) | (with_reducible refine le_drew ?_) | (with_reducible refine le_drawsN ?_) | (dsimp only; with_reducible refine le_bel ?_) | (dsimp only; with_reducible refine Nat.le_refl _) | (dsimp only; with_reducible refine le_bel_add ?_) | (with_reducible assumption) | omega | (dsimp only; omega)))))).mono ?_)
      rintro _ _ ⟨rfl, x5, rfl⟩
      go_wp2
      go_ret
      exact Ret.mk (by rfl) (by (repeat' (first | (with_reducible exact Below.refl _ _) | (with_reducible exact Nat.le_refl _) | (with_reducible refine Below.bel ?_ ?_) | (with_reducible refine Below.alloc ?_ ?_ _) | (with_reducible refine Below.drew ?_) | (with_reducible refine Below.drawsN ?_ _) | (with_reducible refine Below.setCell ?_ ?_ _) | (with_reducible refine le_bel ?_) | (with_reducible refine le_alloc ?_) | (with_reducible refine le_setCell ?_) | (with_reducible refine le_drew ?_) | (with_reducible refine le_drawsN ?_) | (dsimp only; with_reducible refine le_bel ?_) | (dsimp only; with_reducible refine Nat.le_refl _) | (dsimp only; with_reducible refine le_bel_add ?_) | (with_reducible assumption) | omega | (dsimp only; omega))))
    · have e2 : decide ((nd b : Int) < 9) = false := decide_eq_false (by omega)
      go_enter Tryz.func23, Tryz.ntmps23
      go_wp2_with fail
      (with_reducible refine (HCa.out _).mono ?_)
      rintro _ _ ⟨rfl, x1, rfl⟩
      have hx1 := x1.size_le
      dsimp only
      go_wp2_with fail
      (with_reducible refine (HCb.out _).mono ?_)
      rintro _ _ ⟨rfl, x2, rfl⟩
      have hx2 := x2.size_le
      dsimp only
      go_wp2_with fail
      refine (HGa.out _).mono ?_
      rintro _ _ ⟨v1, rfl, y1, rfl, hv1⟩
      have hs1 := y1.size_le
      obtain ⟨p1, c1, rfl, hL1⟩ := grps_own hv1
      have HV1 := Lib.hid hv1
      clear hv1 hL1
      dsimp only
      go_wp2_with fail
      refine (HGb.out _).mono ?_
      rintro _ _ ⟨v2, rfl, y2, rfl, hv2⟩
      have hs2 := y2.size_le
      obtain ⟨p2, c2, rfl, hL2⟩ := grps_own hv2
      have hW1 := ownV_bel HV1.out y2
      obtain ⟨p1', c1', he1, hL1⟩ := grps_own hW1
      cases he1
      have HB := Lib.hid (rtimes_any p1 p2 c1 c2 _ _ _ hL1 hL2 (grp_lt _) (grp_lt _) (by omega) (by omega))
      rw [vG_grp, vG_grp] at HB
      clear hW1 hL1 hL2 hv2
      dsimp only
      go_wp2_with fail
      refine HB.out.mono ?_
      rintro _ _ ⟨v3, rfl, y3, rfl, hv3⟩
      have hs3 := y3.size_le
      obtain ⟨p3, c3, rfl, hL3⟩ := grps_own hv3
      dsimp only
      go_wp2_with fail
      refine (whole_any _ _ _ _ _ hL3 hlp (HT.out.of (by (repeat' (first | (with_reducible exact Below.refl _ _) | (with_reducible exact Nat.le_refl _) | (with_reducible refine Below.bel ?_ ?_) | (with_reducible refine Below.alloc ?_ ?_ _) | (with_reducible refine Below.drew ?_) | (with_reducible refine Below.drawsN ?_ _) | (with_reducible refine Below.setCell ?_ ?_ _) | (with_reducible refine le_bel ?_) | (with_reducible refine le_alloc ?_) | (with_reducible refine le_setCell ?_) | (with_reducible refine le_drew ?_) | (with_reducible refine le_drawsN ?_) | (dsimp only; with_reducible refine le_bel ?_) | (dsimp only; with_reducible refine Nat.le_refl _) | (dsimp only; with_reducible refine le_bel_add ?_) | (with_reducible assumption) | omega | (dsimp only; omega)))))).mono ?_
      rintro _ _ ⟨rfl, y4, rfl⟩
      dsimp only
      go_wp2
      go_ret
      exact Ret.mk (by rw [← HSG.out]; rfl) (by (repeat' (first | (with_reducible exact Below.refl _ _) | (with_reducible exact Nat.le_refl _) | (with_reducible refine Below.bel ?_ ?_) | (with_reducible refine Below.alloc ?_ ?_ _) | (with_reducible refine Below.drew ?_) | (with_reducible refine Below.drawsN ?_ _) | (with_reducible refine Below.setCell ?_ ?_ _) | (with_reducible refine le_bel ?_) | (with_reducible refine le_alloc ?_) | (with_reducible refine le_setCell ?_) | (with_reducible refine le_drew ?_) | (with_reducible refine le_drawsN ?_) | (dsimp only; with_reducible refine le_bel ?_) | (dsimp only; with_reducible refine Nat.le_refl _) | (dsimp only; with_reducible refine le_bel_add ?_) | (with_reducible assumption) | omega | (dsimp only; omega))))
  · have e1 : decide ((nd a : Int) < 9) = false := decide_eq_false (by omega)
    go_enter Tryz.func23, Tryz.ntmps23
    go_wp2_with fail
    (with_reducible refine (HCa.out _).mono ?_)
    rintro _ _ ⟨rfl, x1, rfl⟩
    have hx1 := x1.size_le
    dsimp only
    go_wp2_with fail
    (with_reducible refine (HCb.out _).mono ?_)
    rintro _ _ ⟨rfl, x2, rfl⟩
    have hx2 := x2.size_le
    dsimp only
    go_wp2_with fail
    refine (HGa.out _).mono ?_
    rintro _ _ ⟨v1, rfl, y1, rfl, hv1⟩
    have hs1 := y1.size_le
    obtain ⟨p1, c1, rfl, hL1⟩ := grps_own hv1
    have HV1 := Lib.hid hv1
    clear hv1 hL1
    dsimp only
    go_wp2_with fail
    refine (HGb.out _).mono ?_
    rintro _ _ ⟨v2, rfl, y2, rfl, hv2⟩
    have hs2 := y2.size_le
    obtain ⟨p2, c2, rfl, hL2⟩ := grps_own hv2
    have hW1 := ownV_bel HV1.out y2
    obtain ⟨p1', c1', he1, hL1⟩ := grps_own hW1
    cases he1
    have HB := Lib.hid (rtimes_any p1 p2 c1 c2 _ _ _ hL1 hL2 (grp_lt _) (grp_lt _) (by omega) (by omega))
    rw [vG_grp, vG_grp] at HB
    clear hW1 hL1 hL2 hv2
    dsimp only
    go_wp2_with fail
    refine HB.out.mono ?_
    rintro _ _ ⟨v3, rfl, y3, rfl, hv3⟩
    have hs3 := y3.size_le
    obtain ⟨p3, c3, rfl, hL3⟩ := grps_own hv3
    dsimp only
    go_wp2_with fail
    refine (whole_any _ _ _ _ _ hL3 hlp (HT.out.of (by (repeat' (first | (with_reducible exact Below.refl _ _) | (with_reducible exact Nat.le_refl _) | (with_reducible refine Below.bel ?_ ?_) | (with_reducible refine Below.alloc ?_ ?_ _) | (with_reducible refine Below.drew ?_) | (with_reducible refine Below.drawsN ?_ _) | (with_reducible refine Below.setCell ?_ ?_ _) | (with_reducible refine le_bel ?_) | (with_reducible refine le_alloc ?_) | (with_reducible refine le_setCell ?_) | (with_reducible refine le_drew ?_) | (with_reducible refine le_drawsN ?_) | (dsimp only; with_reducible refine le_bel ?_) | (dsimp only; with_reducible refine Nat.le_refl _) | (dsimp only; with_reducible refine le_bel_add ?_) | (with_reducible assumption) | omega | (dsimp only; omega)))))).mono ?_
    rintro _ _ ⟨rfl, y4, rfl⟩
    dsimp only
    go_wp2
    go_ret
    exact Ret.mk (by rw [← HSG.out]; rfl) (by (repeat' (first | (with_reducible exact Below.refl _ _) | (with_reducible exact Nat.le_refl _) | (with_reducible refine Below.bel ?_ ?_) | (with_reducible refine Below.alloc ?_ ?_ _) | (with_reducible refine Below.drew ?_) | (with_reducible refine Below.drawsN ?_ _) | (with_reducible refine Below.setCell ?_ ?_ _) | (with_reducible refine le_bel ?_) | (with_reducible refine le_alloc ?_) | (with_reducible refine le_setCell ?_) | (with_reducible refine le_drew ?_) | (with_reducible refine le_drawsN ?_) | (dsimp only; with_reducible refine le_bel ?_) | (dsimp only; with_reducible refine Nat.le_refl _) | (dsimp only; with_reducible refine le_bel_add ?_) | (with_reducible assumption) | omega | (dsimp only; omega))))
end Go.Proofs.YteglfhmmkoahfaaGreatDoor
