/- The reference's Neg, Sign, Add, Sub, Mul, Compare. -/
import Derived.Test.YteglfhmmkoahfaaGreatDoorR6
import Derived.Test.YteglfhmmkoahfaaGreatDoorR3
import Derived.Test.YteglfhmmkoahfaaGreatDoorM14
namespace Go.Proofs.YteglfhmmkoahfaaGreatDoor
open Go.RowKit Go.Shelf
attribute [local go_sem low] Bel.cell Bel.frozen alloc_cell alloc_frozen

theorem refNeg_any (z : Int) (w : World) (hl : nd z ≤ 100000) : Calls Tryz.prog 16 #[.string ⟨(iT z).toArray⟩] w (Ret (.string ⟨(iT (-z)).toArray⟩) w) := by
  have hq := iT_is0 z
  have HC := Lib.hid (fun w' => cutZ_any z w' hl)
  by_cases h0 : z = 0
  · subst h0
    rw [decide_eq_true rfl] at hq
    rw [show (-0 : Int) = 0 from rfl]
    have HS := Lib.hid (show Lib.decDigits (Int.natAbs 0) = iT 0 by rw [iT_pos (by decide)])
    rw [HS.out] at HC
    clear HS
    generalize iT 0 = t at *
    go_enter Tryz.func16, Tryz.ntmps16
    go_wp2_with fail
    (with_reducible refine (HC.out _).mono ?_)
    rintro _ _ ⟨rfl, x, rfl⟩
    dsimp only
    go_wp2
    go_ret
    exact Ret.mk (by rfl) (by (repeat' (first | (with_reducible exact Below.refl _ _) | (with_reducible exact Nat.le_refl _) | (with_reducible refine Below.bel ?_ ?_) | (with_reducible refine Below.alloc ?_ ?_ _) | (with_reducible refine Below.drew ?_) | (with_reducible refine Below.drawsN ?_ _) | (with_reducible refine Below.setCell ?_ ?_ _) | (with_reducible refine le_bel ?_) | (with_reducible refine le_alloc ?_) | (with_reducible refine le_setCell ?_) | (with_reducible refine le_drew ?_) | (with_reducible refine le_drawsN ?_) | (dsimp only; with_reducible refine le_bel ?_) | (dsimp only; with_reducible refine Nat.le_refl _) | (dsimp only; with_reducible refine le_bel_add ?_) | (with_reducible assumption) | omega | (dsimp only; omega))))
  · rw [decide_eq_false h0] at hq
    by_cases hz : z < 0
    · rw [decide_eq_true hz] at HC
      have HS := Lib.hid (show iT (-z) = Lib.decDigits z.natAbs by rw [iT_pos (by omega), Int.natAbs_neg])
      clear hl
      generalize Lib.decDigits z.natAbs = d at *
      generalize iT z = t at *
      generalize iT (-z) = u at *
      go_enter Tryz.func16, Tryz.ntmps16
      go_wp2_with fail
      (with_reducible refine (HC.out _).mono ?_)
      rintro _ _ ⟨rfl, x, rfl⟩
      dsimp only
      go_wp2
      go_ret
      exact Ret.mk (by rw [HS.out]; rfl) (by (repeat' (first | (with_reducible exact Below.refl _ _) | (with_reducible exact Nat.le_refl _) | (with_reducible refine Below.bel ?_ ?_) | (with_reducible refine Below.alloc ?_ ?_ _) | (with_reducible refine Below.drew ?_) | (with_reducible refine Below.drawsN ?_ _) | (with_reducible refine Below.setCell ?_ ?_ _) | (with_reducible refine le_bel ?_) | (with_reducible refine le_alloc ?_) | (with_reducible refine le_setCell ?_) | (with_reducible refine le_drew ?_) | (with_reducible refine le_drawsN ?_) | (dsimp only; with_reducible refine le_bel ?_) | (dsimp only; with_reducible refine Nat.le_refl _) | (dsimp only; with_reducible refine le_bel_add ?_) | (with_reducible assumption) | omega | (dsimp only; omega))))
    · rw [decide_eq_false hz] at HC
      have hd := iT_pos hz
      have HS := Lib.hid (show iT (-z) = 45 :: iT z by rw [iT_neg (by omega), Int.natAbs_neg, hd])
      have hll : (iT z).length ≤ 100000 := by rw [hd]; exact hl
      clear hl
      generalize Lib.decDigits z.natAbs = d at *
      generalize iT z = t at *
      generalize iT (-z) = u at *
      have l1 : (9223372036854775807 < 1 + t.length) = False := eq_false (by omega)
      have b1 : (ByteArray.mk #[45]) ++ ⟨t.toArray⟩ = ⟨([45] ++ t).toArray⟩ := bytes_app [45] t
      clear hd
      go_enter Tryz.func16, Tryz.ntmps16
      go_wp2_with fail
      (with_reducible refine (HC.out _).mono ?_)
      rintro _ _ ⟨rfl, x, rfl⟩
      dsimp only
      go_wp2
      go_ret
      exact Ret.mk (by rw [HS.out]; rfl) (by (repeat' (first | (with_reducible exact Below.refl _ _) | (with_reducible exact Nat.le_refl _) | (with_reducible refine Below.bel ?_ ?_) | (with_reducible refine Below.alloc ?_ ?_ _) | (with_reducible refine Below.drew ?_) | (with_reducible refine Below.drawsN ?_ _) | (with_reducible refine Below.setCell ?_ ?_ _) | (with_reducible refine le_bel ?_) | (with_reducible refine le_alloc ?_) | (with_reducible refine le_setCell ?_) | (with_reducible refine le_drew ?_) | (with_reducible refine le_drawsN ?_) | (dsimp only; with_reducible refine le_bel ?_) | (dsimp only; with_reducible refine Nat.le_refl _) | (dsimp only; with_reducible refine le_bel_add ?_) | (with_reducible assumption) | omega | (dsimp only; omega))))
theorem refSign_any (z : Int) (w : World) (hl : nd z ≤ 100000) : Calls Tryz.prog 12 #[.string ⟨(iT z).toArray⟩] w (Ret (.int .i64 z.sign) w) := by
  have hq := iT_is0 z
  have HC := Lib.hid (fun w' => cutZ_any z w' hl)
  have HT1 := Lib.hid toInt_true
  have HT0 := Lib.hid toInt_false
  clear hl
  by_cases h0 : z = 0
  · subst h0
    rw [decide_eq_true rfl] at hq
    rw [decide_eq_false (by decide)] at HC
    generalize Lib.decDigits (Int.natAbs 0) = d at *
    generalize iT 0 = t at *
    go_enter Tryz.func12, Tryz.ntmps12
    go_wp2_with fail
    (with_reducible refine (HC.out _).mono ?_)
    rintro _ _ ⟨rfl, x, rfl⟩
    dsimp only
    go_wp2
    go_ret
    exact Ret.mk (by rfl) (by (repeat' (first | (with_reducible exact Below.refl _ _) | (with_reducible exact Nat.le_refl _) | (with_reducible refine Below.bel ?_ ?_) | (with_reducible refine Below.alloc ?_ ?_ _) | (with_reducible refine Below.drew ?_) | (with_reducible refine Below.drawsN ?_ _) | (with_reducible refine Below.setCell ?_ ?_ _) | (with_reducible refine le_bel ?_) | (with_reducible refine le_alloc ?_) | (with_reducible refine le_setCell ?_) | (with_reducible refine le_drew ?_) | (with_reducible refine le_drawsN ?_) | (dsimp only; with_reducible refine le_bel ?_) | (dsimp only; with_reducible refine Nat.le_refl _) | (dsimp only; with_reducible refine le_bel_add ?_) | (with_reducible assumption) | omega | (dsimp only; omega))))
  · rw [decide_eq_false h0] at hq
    by_cases hz : z < 0
    · rw [decide_eq_true hz] at HC
      have HS := Lib.hid (Int.sign_eq_neg_one_of_neg hz)
      generalize Lib.decDigits z.natAbs = d at *
      generalize iT z = t at *
      go_enter Tryz.func12, Tryz.ntmps12
      go_wp2_with fail
      (with_reducible refine (HC.out _).mono ?_)
      rintro _ _ ⟨rfl, x, rfl⟩
      dsimp only
      go_wp2_with fail
      (with_reducible refine (HT1.out _).mono ?_)
      rintro _ _ ⟨rfl, x2, rfl⟩
      dsimp only
      go_wp2
      go_ret
      exact Ret.mk (by rw [HS.out]; rfl) (by (repeat' (first | (with_reducible exact Below.refl _ _) | (with_reducible exact Nat.le_refl _) | (with_reducible refine Below.bel ?_ ?_) | (with_reducible refine Below.alloc ?_ ?_ _) | (with_reducible refine Below.drew ?_) | (with_reducible refine Below.drawsN ?_ _) | (with_reducible refine Below.setCell ?_ ?_ _) | (with_reducible refine le_bel ?_) | (with_reducible refine le_alloc ?_) | (with_reducible refine le_setCell ?_) | (with_reducible refine le_drew ?_) | (with_reducible refine le_drawsN ?_) | (dsimp only; with_reducible refine le_bel ?_) | (dsimp only; with_reducible refine Nat.le_refl _) | (dsimp only; with_reducible refine le_bel_add ?_) | (with_reducible assumption) | omega | (dsimp only; omega))))
    · rw [decide_eq_false hz] at HC
      have HS := Lib.hid (Int.sign_eq_one_of_pos (show 0 < z by omega))
      generalize Lib.decDigits z.natAbs = d at *
      generalize iT z = t at *
      go_enter Tryz.func12, Tryz.ntmps12
      go_wp2_with fail
      (with_reducible refine (HC.out _).mono ?_)
      rintro _ _ ⟨rfl, x, rfl⟩
      dsimp only
      go_wp2_with fail
      (with_reducible refine (HT0.out _).mono ?_)
      rintro _ _ ⟨rfl, x2, rfl⟩
      dsimp only
      go_wp2
      go_ret
      exact Ret.mk (by rw [HS.out]; rfl) (by (repeat' (first | (with_reducible exact Below.refl _ _) | (with_reducible exact Nat.le_refl _) | (with_reducible refine Below.bel ?_ ?_) | (with_reducible refine Below.alloc ?_ ?_ _) | (with_reducible refine Below.drew ?_) | (with_reducible refine Below.drawsN ?_ _) | (with_reducible refine Below.setCell ?_ ?_ _) | (with_reducible refine le_bel ?_) | (with_reducible refine le_alloc ?_) | (with_reducible refine le_setCell ?_) | (with_reducible refine le_drew ?_) | (with_reducible refine le_drawsN ?_) | (dsimp only; with_reducible refine le_bel ?_) | (dsimp only; with_reducible refine Nat.le_refl _) | (dsimp only; with_reducible refine le_bel_add ?_) | (with_reducible assumption) | omega | (dsimp only; omega))))
theorem grp_le10 {n d : Nat} (h : n < 10 ^ d) {k : Nat} (hd : d ≤ 4 * k) : (grp n).length ≤ k := grp_lenle (Nat.lt_of_lt_of_le h (Nat.pow_le_pow_right (by decide) hd))
theorem grp_nd (z : Int) (h : nd z ≤ 20000) : (grp z.natAbs).length ≤ 5000 := grp_le10 (nd_lt z) (by omega)
theorem groupZ_any (z : Int) (w : World) (h : nd z ≤ 20000) : Calls Tryz.prog 51 #[.string ⟨(Lib.decDigits z.natAbs).toArray⟩] w (GrpRet w z.natAbs) := by
  have := group_any (Lib.decDigits z.natAbs) w (dec_digits _) (fun h => by have := dec_pos z.natAbs; rw [h] at this; simp at this) (by unfold nd at h; omega)
  rwa [dec_num] at this
set_option maxRecDepth 100000 in
set_option maxHeartbeats 12800000 in
theorem refAdd_any (a b : Int) (w : World) (ha : nd a ≤ 20000) (hb : nd b ≤ 20000) (hT : Tab w) :
    Calls Tryz.prog 27 #[.string ⟨(iT a).toArray⟩, .string ⟨(iT b).toArray⟩] w (Ret (.string ⟨(iT (a + b)).toArray⟩) w) := by
  have HT := Lib.hid hT
  clear hT
  have HCa := Lib.hid (fun w' => cutZ_any a w' (by omega))
  have HCb := Lib.hid (fun w' => cutZ_any b w' (by omega))
  have HGa := Lib.hid (fun w' => groupZ_any a w' ha)
  have HGb := Lib.hid (fun w' => groupZ_any b w' hb)
  have hla := grp_nd a ha
  have hlb := grp_nd b hb
  have hlp : (grp (a.natAbs + b.natAbs)).length ≤ 10000 := grp_le10 (add_lt10 (nd_lt a) (nd_lt b)) (by omega)
  have hls : (grp (a.natAbs - b.natAbs)).length ≤ 10000 := grp_le10 (Nat.lt_of_le_of_lt (Nat.sub_le _ _) (nd_lt a)) (by omega)
  have hlt : (grp (b.natAbs - a.natAbs)).length ≤ 10000 := grp_le10 (Nat.lt_of_le_of_lt (Nat.sub_le _ _) (nd_lt b)) (by omega)
  have HSG := Lib.hid (@sg_add a b)
  have HS1 := Lib.hid (@sg_sub1 a b)
  have HS2 := Lib.hid (@sg_sub2 a b)
  have HQa := Lib.hid (fun w' => refSmall_any a w' (by omega))
  have HQb := Lib.hid (fun w' => refSmall_any b w' (by omega))
  have HMS := Lib.hid (@add_small a b)
  obtain ⟨p, hp⟩ : ∃ p, a + b = p := ⟨_, rfl⟩
  rw [hp] at HSG HMS HS1 HS2 ⊢
  have HP := Lib.hid hp
  clear hp
  obtain ⟨ma, hma⟩ : ∃ m, decide (a < 0) = m := ⟨_, rfl⟩
  obtain ⟨mb, hmb⟩ : ∃ m, decide (b < 0) = m := ⟨_, rfl⟩
  rw [hma] at HCa HSG HS1 HS2
  rw [hmb] at HCb HSG HS1 HS2
  clear hma hmb
  have hda : (Lib.decDigits a.natAbs).length = nd a := rfl
  have hdb : (Lib.decDigits b.natAbs).length = nd b := rfl
  obtain ⟨da, hdae⟩ : ∃ d, Lib.decDigits a.natAbs = d := ⟨_, rfl⟩
  obtain ⟨db, hdbe⟩ : ∃ d, Lib.decDigits b.natAbs = d := ⟨_, rfl⟩
  rw [hdae] at HCa HGa hda
  rw [hdbe] at HCb HGb hdb
  clear hdae hdbe
  by_cases h9 : nd a < 18
  · have e1 : decide ((nd a : Int) < 18) = true := decide_eq_true (by omega)
    by_cases h9b : nd b < 18
    · have e2 : decide ((nd b : Int) < 18) = true := decide_eq_true (by omega)
      have hms := HMS.out (by omega) (by omega)
      have hw : IntKind.i64.wrap p = p := IntWalk.i64_in _ (by omega)
      have hpe : a + b = p := HP.out
      rw [if_pos (show nd a ≤ 18 by omega), decide_eq_true (show nd a ≤ 18 by omega)] at HQa
      rw [if_pos (show nd b ≤ 18 by omega), decide_eq_true (show nd b ≤ 18 by omega)] at HQb
      go_enter Tryz.func27, Tryz.ntmps27
      go_wp2_with fail
      (with_reducible refine (HCa.out _).mono ?_)
      rintro _ _ ⟨rfl, x1, rfl⟩
      have hx1 := x1.size_le
      dsimp only
      go_wp2_with fail
      (with_reducible refine (HCb.out _).mono ?_)
      rintro _ _ ⟨rfl, x2, rfl⟩
      have hx2 := x2.size_le
      dsimp only
      go_wp2_with fail
      (with_reducible refine (HQa.out _).mono ?_)
      rintro _ _ ⟨rfl, x3, rfl⟩
      have hx3 := x3.size_le
      dsimp only
      go_wp2_with fail
      (with_reducible refine (HQb.out _).mono ?_)
      rintro _ _ ⟨rfl, x4, rfl⟩
      have hx4 := x4.size_le
      dsimp only
      go_wp2_with fail
      (with_reducible refine (refOf_any p _ (by omega) (by omega) (HT.out.of (by (repeat' (first | (with_reducible exact Below.refl _ _) | (with_reducible exact Nat.le_refl _) | (with_reducible refine Below.bel ?_ ?_) | (with_reducible refine Below.alloc ?_ ?_ _) | (with_reducible refine Below.drew ?_) | (with_reducible refine Below.drawsN ?_ _) | (with_reducible refine Below.setCell ?_ ?_ _) | (with_reducible refine le_bel ?_) | (with_reducible refine le_alloc ?_) | (with_reducible refine le_setCell ?_) | (with_reducible refine le_drew ?_) | (with_reducible refine le_drawsN ?_) | (dsimp only; with_reducible refine le_bel ?_) | (dsimp only; with_reducible refine Nat.le_refl _) | (dsimp only; with_reducible refine le_bel_add ?_) | (with_reducible assumption) | omega | (dsimp only; omega)))))).mono ?_)
      rintro _ _ ⟨rfl, x5, rfl⟩
      go_wp2
      go_ret
      exact Ret.mk (by rfl) (by (repeat' (first | (with_reducible exact Below.refl _ _) | (with_reducible exact Nat.le_refl _) | (with_reducible refine Below.bel ?_ ?_) | (with_reducible refine Below.alloc ?_ ?_ _) | (with_reducible refine Below.drew ?_) | (with_reducible refine Below.drawsN ?_ _) | (with_reducible refine Below.setCell ?_ ?_ _) | (with_reducible refine le_bel ?_) | (with_reducible refine le_alloc ?_) | (with_reducible refine le_setCell ?_) | (with_reducible refine le_drew ?_) | (with_reducible refine le_drawsN ?_) | (dsimp only; with_reducible refine le_bel ?_) | (dsimp only; with_reducible refine Nat.le_refl _) | (dsimp only; with_reducible refine le_bel_add ?_) | (with_reducible assumption) | omega | (dsimp only; omega))))
    · have e2 : decide ((nd b : Int) < 18) = false := decide_eq_false (by omega)
      go_enter Tryz.func27, Tryz.ntmps27
      go_wp2_with fail
      (with_reducible refine (HCa.out _).mono ?_)
      rintro _ _ ⟨rfl, x1, rfl⟩
      have hx1 := x1.size_le
      dsimp only
      go_wp2_with fail
      (with_reducible refine (HCb.out _).mono ?_)
      rintro _ _ ⟨rfl, x2, rfl⟩
      have hx2 := x2.size_le
      dsimp only
      go_wp2_with fail
      refine (HGa.out _).mono ?_
      rintro _ _ ⟨v1, rfl, y1, rfl, hv1⟩
      have hs1 := y1.size_le
      obtain ⟨p1, c1, rfl, hL1⟩ := grps_own hv1
      have HV1 := Lib.hid hv1
      clear hv1 hL1
      dsimp only
      go_wp2_with fail
      refine (HGb.out _).mono ?_
      rintro _ _ ⟨v2, rfl, y2, rfl, hv2⟩
      have hs2 := y2.size_le
      obtain ⟨p2, c2, rfl, hL2⟩ := grps_own hv2
      have hW1 := ownV_bel HV1.out y2
      obtain ⟨p1', c1', he1, hL1⟩ := grps_own hW1
      cases he1
      have HL1 := Lib.hid hL1
      have HL2 := Lib.hid hL2
      clear hW1 hL1 hL2 hv2
      dsimp only
      by_cases hmm : ma = mb
      · subst hmm
        have HE := Lib.hid (HSG.out rfl)
        have hq : (ma == ma) = true := by simp
        have HB := Lib.hid (both_add _ _ c1 c2 _ _ _ HL1.out HL2.out (grp_lt _) (grp_lt _) (by omega) (by omega))
        rw [vG_grp, vG_grp] at HB
        go_wp2_with fail
        refine HB.out.mono ?_
        rintro _ _ ⟨v3, rfl, y3, rfl, hv3⟩
        have hs3 := y3.size_le
        obtain ⟨p3, c3, rfl, hL3⟩ := grps_own hv3
        dsimp only
        go_wp2_with fail
        refine (whole_any _ _ _ _ _ hL3 hlp (HT.out.of (by (repeat' (first | (with_reducible exact Below.refl _ _) | (with_reducible exact Nat.le_refl _) | (with_reducible refine Below.bel ?_ ?_) | (with_reducible refine Below.alloc ?_ ?_ _) | (with_reducible refine Below.drew ?_) | (with_reducible refine Below.drawsN ?_ _) | (with_reducible refine Below.setCell ?_ ?_ _) | (with_reducible refine le_bel ?_) | (with_reducible refine le_alloc ?_) | (with_reducible refine le_setCell ?_) | (with_reducible refine le_drew ?_) | (with_reducible refine le_drawsN ?_) | (dsimp only; with_reducible refine le_bel ?_) | (dsimp only; with_reducible refine Nat.le_refl _) | (dsimp only; with_reducible refine le_bel_add ?_) | (with_reducible assumption) | omega | (dsimp only; omega)))))).mono ?_
        rintro _ _ ⟨rfl, y4, rfl⟩
        dsimp only
        go_wp2
        go_ret
        exact Ret.mk (by rw [← HE.out]; rfl) (by (repeat' (first | (with_reducible exact Below.refl _ _) | (with_reducible exact Nat.le_refl _) | (with_reducible refine Below.bel ?_ ?_) | (with_reducible refine Below.alloc ?_ ?_ _) | (with_reducible refine Below.drew ?_) | (with_reducible refine Below.drawsN ?_ _) | (with_reducible refine Below.setCell ?_ ?_ _) | (with_reducible refine le_bel ?_) | (with_reducible refine le_alloc ?_) | (with_reducible refine le_setCell ?_) | (with_reducible refine le_drew ?_) | (with_reducible refine le_drawsN ?_) | (dsimp only; with_reducible refine le_bel ?_) | (dsimp only; with_reducible refine Nat.le_refl _) | (dsimp only; with_reducible refine le_bel_add ?_) | (with_reducible assumption) | omega | (dsimp only; omega))))
      · have hq : (ma == mb) = false := beq_eq_false_iff_ne.2 hmm
        have HM := Lib.hid hmm
        clear hmm
        go_wp2_with fail
        refine (order_any _ _ _ _ _ _ _ HL1.out HL2.out (by omega) (by omega)).mono ?_
        rintro _ _ ⟨rfl, y5, rfl⟩
        have hs5 := y5.size_le
        have HL1' := Lib.hid (grps_of HL1.out y5.below)
        have HL2' := Lib.hid (grps_of HL2.out y5.below)
        by_cases hc : a.natAbs < b.natAbs
        · have hcm : cmpN a.natAbs b.natAbs = -1 := if_pos hc
          have HE := Lib.hid (HS2.out HM.out hc)
          have HB := Lib.hid (both_sub _ _ c2 c1 _ _ _ HL2'.out HL1'.out (grp_lt _) (grp_lt _) (by omega) (by omega) (by rw [vG_grp, vG_grp]; omega))
          rw [vG_grp, vG_grp] at HB
          rw [hcm]
          clear hcm
          dsimp only
          go_wp2_with fail
          refine HB.out.mono ?_
          rintro _ _ ⟨v3, rfl, y3, rfl, hv3⟩
          have hs3 := y3.size_le
          obtain ⟨p3, c3, rfl, hL3⟩ := grps_own hv3
          dsimp only
          go_wp2_with fail
          refine (whole_any _ _ _ _ _ hL3 hlt (HT.out.of (by (repeat' (first | (with_reducible exact Below.refl _ _) | (with_reducible exact Nat.le_refl _) | (with_reducible refine Below.bel ?_ ?_) | (with_reducible refine Below.alloc ?_ ?_ _) | (with_reducible refine Below.drew ?_) | (with_reducible refine Below.drawsN ?_ _) | (with_reducible refine Below.setCell ?_ ?_ _) | (with_reducible refine le_bel ?_) | (with_reducible refine le_alloc ?_) | (with_reducible refine le_setCell ?_) | (with_reducible refine le_drew ?_) | (with_reducible refine le_drawsN ?_) | (dsimp only; with_reducible refine le_bel ?_) | (dsimp only; with_reducible refine Nat.le_refl _) | (dsimp only; with_reducible refine le_bel_add ?_) | (with_reducible assumption) | omega | (dsimp only; omega)))))).mono ?_
          rintro _ _ ⟨rfl, y4, rfl⟩
          dsimp only
          go_wp2
          go_ret
          exact Ret.mk (by rw [← HE.out]; rfl) (by (repeat' (first | (with_reducible exact Below.refl _ _) | (with_reducible exact Nat.le_refl _) | (with_reducible refine Below.bel ?_ ?_) | (with_reducible refine Below.alloc ?_ ?_ _) | (with_reducible refine Below.drew ?_) | (with_reducible refine Below.drawsN ?_ _) | (with_reducible refine Below.setCell ?_ ?_ _) | (with_reducible refine le_bel ?_) | (with_reducible refine le_alloc ?_) | (with_reducible refine le_setCell ?_) | (with_reducible refine le_drew ?_) | (with_reducible refine le_drawsN ?_) | (dsimp only; with_reducible refine le_bel ?_) | (dsimp only; with_reducible refine Nat.le_refl _) | (dsimp only; with_reducible refine le_bel_add ?_) | (with_reducible assumption) | omega | (dsimp only; omega))))
        · have hcm : decide (cmpN a.natAbs b.natAbs < 0) = false := by unfold cmpN; rw [if_neg hc]; split <;> decide
          have HE := Lib.hid (HS1.out HM.out (by omega))
          have HB := Lib.hid (both_sub _ _ c1 c2 _ _ _ HL1'.out HL2'.out (grp_lt _) (grp_lt _) (by omega) (by omega) (by rw [vG_grp, vG_grp]; omega))
          rw [vG_grp, vG_grp] at HB
          generalize cmpN a.natAbs b.natAbs = cm at *
          dsimp only
          go_wp2_with fail
          refine HB.out.mono ?_
          rintro _ _ ⟨v3, rfl, y3, rfl, hv3⟩
          have hs3 := y3.size_le
          obtain ⟨p3, c3, rfl, hL3⟩ := grps_own hv3
          dsimp only
          go_wp2_with fail
          refine (whole_any _ _ _ _ _ hL3 hls (HT.out.of (by (repeat' (first | (with_reducible exact Below.refl _ _) | (with_reducible exact Nat.le_refl _) | (with_reducible refine Below.bel ?_ ?_) | (with_reducible refine Below.alloc ?_ ?_ _) | (with_reducible refine Below.drew ?_) | (with_reducible refine Below.drawsN ?_ _) | (with_reducible refine Below.setCell ?_ ?_ _) | (with_reducible refine le_bel ?_) | (with_reducible refine le_alloc ?_) | (with_reducible refine le_setCell ?_) | (with_reducible refine le_drew ?_) | (with_reducible refine le_drawsN ?_) | (dsimp only; with_reducible refine le_bel ?_) | (dsimp only; with_reducible refine Nat.le_refl _) | (dsimp only; with_reducible refine le_bel_add ?_) | (with_reducible assumption) | omega | (dsimp only; omega)))))).mono ?_
          rintro _ _ ⟨rfl, y4, rfl⟩
          dsimp only
          go_wp2
          go_ret
          exact Ret.mk (by rw [← HE.out]; rfl) (by (repeat' (first | (with_reducible exact Below.refl _ _) | (with_reducible exact Nat.le_refl _) | (with_reducible refine Below.bel ?_ ?_) | (with_reducible refine Below.alloc ?_ ?_ _) | (with_reducible refine Below.drew ?_) | (with_reducible refine Below.drawsN ?_ _) | (with_reducible refine Below.setCell ?_ ?_ _) | (with_reducible refine le_bel ?_) | (with_reducible refine le_alloc ?_) | (with_reducible refine le_setCell ?_) | (with_reducible refine le_drew ?_) | (with_reducible refine le_drawsN ?_) | (dsimp only; with_reducible refine le_bel ?_) | (dsimp only; with_reducible refine Nat.le_refl _) | (dsimp only; with_reducible refine le_bel_add ?_) | (with_reducible assumption) | omega | (dsimp only; omega))))
  · have e1 : decide ((nd a : Int) < 18) = false := decide_eq_false (by omega)
    go_enter Tryz.func27, Tryz.ntmps27
    go_wp2_with fail
    (with_reducible refine (HCa.out _).mono ?_)
    rintro _ _ ⟨rfl, x1, rfl⟩
    have hx1 := x1.size_le
    dsimp only
    go_wp2_with fail
    (with_reducible refine (HCb.out _).mono ?_)
    rintro _ _ ⟨rfl, x2, rfl⟩
    have hx2 := x2.size_le
    dsimp only
    go_wp2_with fail
    refine (HGa.out _).mono ?_
    rintro _ _ ⟨v1, rfl, y1, rfl, hv1⟩
    have hs1 := y1.size_le
    obtain ⟨p1, c1, rfl, hL1⟩ := grps_own hv1
    have HV1 := Lib.hid hv1
    clear hv1 hL1
    dsimp only
    go_wp2_with fail
    refine (HGb.out _).mono ?_
    rintro _ _ ⟨v2, rfl, y2, rfl, hv2⟩
    have hs2 := y2.size_le
    obtain ⟨p2, c2, rfl, hL2⟩ := grps_own hv2
    have hW1 := ownV_bel HV1.out y2
    obtain ⟨p1', c1', he1, hL1⟩ := grps_own hW1
    cases he1
    have HL1 := Lib.hid hL1
    have HL2 := Lib.hid hL2
    clear hW1 hL1 hL2 hv2
    dsimp only
    by_cases hmm : ma = mb
    · subst hmm
      have HE := Lib.hid (HSG.out rfl)
      have hq : (ma == ma) = true := by simp
      have HB := Lib.hid (both_add _ _ c1 c2 _ _ _ HL1.out HL2.out (grp_lt _) (grp_lt _) (by omega) (by omega))
      rw [vG_grp, vG_grp] at HB
      go_wp2_with fail
      refine HB.out.mono ?_
      rintro _ _ ⟨v3, rfl, y3, rfl, hv3⟩
      have hs3 := y3.size_le
      obtain ⟨p3, c3, rfl, hL3⟩ := grps_own hv3
      dsimp only
      go_wp2_with fail
      refine (whole_any _ _ _ _ _ hL3 hlp (HT.out.of (by (repeat' (first | (with_reducible exact Below.refl _ _) | (with_reducible exact Nat.le_refl _) | (with_reducible refine Below.bel ?_ ?_) | (with_reducible refine Below.alloc ?_ ?_ _) | (with_reducible refine Below.drew ?_) | (with_reducible refine Below.drawsN ?_ _) | (with_reducible refine Below.setCell ?_ ?_ _) | (with_reducible refine le_bel ?_) | (with_reducible refine le_alloc ?_) | (with_reducible refine le_setCell ?_) | (with_reducible refine le_drew ?_) | (with_reducible refine le_drawsN ?_) | (dsimp only; with_reducible refine le_bel ?_) | (dsimp only; with_reducible refine Nat.le_refl _) | (dsimp only; with_reducible refine le_bel_add ?_) | (with_reducible assumption) | omega | (dsimp only; omega)))))).mono ?_
      rintro _ _ ⟨rfl, y4, rfl⟩
      dsimp only
      go_wp2
      go_ret
      exact Ret.mk (by rw [← HE.out]; rfl) (by (repeat' (first | (with_reducible exact Below.refl _ _) | (with_reducible exact Nat.le_refl _) | (with_reducible refine Below.bel ?_ ?_) | (with_reducible refine Below.alloc ?_ ?_ _) | (with_reducible refine Below.drew ?_) | (with_reducible refine Below.drawsN ?_ _) | (with_reducible refine Below.setCell ?_ ?_ _) | (with_reducible refine le_bel ?_) | (with_reducible refine le_alloc ?_) | (with_reducible refine le_setCell ?_) | (with_reducible refine le_drew ?_) | (with_reducible refine le_drawsN ?_) | (dsimp only; with_reducible refine le_bel ?_) | (dsimp only; with_reducible refine Nat.le_refl _) | (dsimp only; with_reducible refine le_bel_add ?_) | (with_reducible assumption) | omega | (dsimp only; omega))))
    · have hq : (ma == mb) = false := beq_eq_false_iff_ne.2 hmm
      have HM := Lib.hid hmm
      clear hmm
      go_wp2_with fail
      refine (order_any _ _ _ _ _ _ _ HL1.out HL2.out (by omega) (by omega)).mono ?_
      rintro _ _ ⟨rfl, y5, rfl⟩
      have hs5 := y5.size_le
      have HL1' := Lib.hid (grps_of HL1.out y5.below)
      have HL2' := Lib.hid (grps_of HL2.out y5.below)
      by_cases hc : a.natAbs < b.natAbs
      · have hcm : cmpN a.natAbs b.natAbs = -1 := if_pos hc
        have HE := Lib.hid (HS2.out HM.out hc)
        have HB := Lib.hid (both_sub _ _ c2 c1 _ _ _ HL2'.out HL1'.out (grp_lt _) (grp_lt _) (by omega) (by omega) (by rw [vG_grp, vG_grp]; omega))
        rw [vG_grp, vG_grp] at HB
        rw [hcm]
        clear hcm
        dsimp only
        go_wp2_with fail
        refine HB.out.mono ?_
        rintro _ _ ⟨v3, rfl, y3, rfl, hv3⟩
        have hs3 := y3.size_le
        obtain ⟨p3, c3, rfl, hL3⟩ := grps_own hv3
        dsimp only
        go_wp2_with fail
        refine (whole_any _ _ _ _ _ hL3 hlt (HT.out.of (by (repeat' (first | (with_reducible exact Below.refl _ _) | (with_reducible exact Nat.le_refl _) | (with_reducible refine Below.bel ?_ ?_) | (with_reducible refine Below.alloc ?_ ?_ _) | (with_reducible refine Below.drew ?_) | (with_reducible refine Below.drawsN ?_ _) | (with_reducible refine Below.setCell ?_ ?_ _) | (with_reducible refine le_bel ?_) | (with_reducible refine le_alloc ?_) | (with_reducible refine le_setCell ?_) | (with_reducible refine le_drew ?_) | (with_reducible refine le_drawsN ?_) | (dsimp only; with_reducible refine le_bel ?_) | (dsimp only; with_reducible refine Nat.le_refl _) | (dsimp only; with_reducible refine le_bel_add ?_) | (with_reducible assumption) | omega | (dsimp only; omega)))))).mono ?_
        rintro _ _ ⟨rfl, y4, rfl⟩
        dsimp only
        go_wp2
        go_ret
        exact Ret.mk (by rw [← HE.out]; rfl) (by (repeat' (first | (with_reducible exact Below.refl _ _) | (with_reducible exact Nat.le_refl _) | (with_reducible refine Below.bel ?_ ?_) | (with_reducible refine Below.alloc ?_ ?_ _) | (with_reducible refine Below.drew ?_) | (with_reducible refine Below.drawsN ?_ _) | (with_reducible refine Below.setCell ?_ ?_ _) | (with_reducible refine le_bel ?_) | (with_reducible refine le_alloc ?_) | (with_reducible refine le_setCell ?_) | (with_reducible refine le_drew ?_) | (with_reducible refine le_drawsN ?_) | (dsimp only; with_reducible refine le_bel ?_) | (dsimp only; with_reducible refine Nat.le_refl _) | (dsimp only; with_reducible refine le_bel_add ?_) | (with_reducible assumption) | omega | (dsimp only; omega))))
      · have hcm : decide (cmpN a.natAbs b.natAbs < 0) = false := by unfold cmpN; rw [if_neg hc]; split <;> decide
        have HE := Lib.hid (HS1.out HM.out (by omega))
        have HB := Lib.hid (both_sub _ _ c1 c2 _ _ _ HL1'.out HL2'.out (grp_lt _) (grp_lt _) (by omega) (by omega) (by rw [vG_grp, vG_grp]; omega))
        rw [vG_grp, vG_grp] at HB
        generalize cmpN a.natAbs b.natAbs = cm at *
        dsimp only
        go_wp2_with fail
        refine HB.out.mono ?_
        rintro _ _ ⟨v3, rfl, y3, rfl, hv3⟩
        have hs3 := y3.size_le
        obtain ⟨p3, c3, rfl, hL3⟩ := grps_own hv3
        dsimp only
        go_wp2_with fail
        refine (whole_any _ _ _ _ _ hL3 hls (HT.out.of (by (repeat' (first | (with_reducible exact Below.refl _ _) | (with_reducible exact Nat.le_refl _) | (with_reducible refine Below.bel ?_ ?_) | (with_reducible refine Below.alloc ?_ ?_ _) | (with_reducible refine Below.drew ?_) | (with_reducible refine Below.drawsN ?_ _) | (with_reducible refine Below.setCell ?_ ?_ _) | (with_reducible refine le_bel ?_) | (with_reducible refine le_alloc ?_) | (with_reducible refine le_setCell ?_) | (with_reducible refine le_drew ?_) | (with_reducible refine le_drawsN ?_) | (dsimp only; with_reducible refine le_bel ?_) | (dsimp only; with_reducible refine Nat.le_refl _) | (dsimp only; with_reducible refine le_bel_add ?_) | (with_reducible assumption) | omega | (dsimp only; omega)))))).mono ?_
        rintro _ _ ⟨rfl, y4, rfl⟩
        dsimp only
        go_wp2
        go_ret
        exact Ret.mk (by rw [← HE.out]; rfl) (by (repeat' (first | (with_reducible exact Below.refl _ _) | (with_reducible exact Nat.le_refl _) | (with_reducible refine Below.bel ?_ ?_) | (with_reducible refine Below.alloc ?_ ?_ _) | (with_reducible refine Below.drew ?_) | (with_reducible refine Below.drawsN ?_ _) | (with_reducible refine Below.setCell ?_ ?_ _) | (with_reducible refine le_bel ?_) | (with_reducible refine le_alloc ?_) | (with_reducible refine le_setCell ?_) | (with_reducible refine le_drew ?_) | (with_reducible refine le_drawsN ?_) | (dsimp only; with_reducible refine le_bel ?_) | (dsimp only; with_reducible refine Nat.le_refl _) | (dsimp only; with_reducible refine le_bel_add ?_) | (with_reducible assumption) | omega | (dsimp only; omega))))
end Go.Proofs.YteglfhmmkoahfaaGreatDoor
