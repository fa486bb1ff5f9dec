/- The reference's DivMod. -/
import Derived.Test.YteglfhmmkoahfaaGreatDoorR9
import Derived.Test.YteglfhmmkoahfaaGreatDoorD1
namespace Go.Proofs.YteglfhmmkoahfaaGreatDoor
open Go.RowKit Go.Shelf
attribute [local go_sem low] Bel.cell Bel.frozen alloc_cell alloc_frozen

/-- The quotient of the magnitudes, with its sign. -/
def q0 (a b : Int) : Int := sg (decide (a < 0) != decide (b < 0)) (a.natAbs / b.natAbs)
def r0 (a b : Int) : Int := a - q0 a b * b
theorem rd_calc {A B q r : Int} (h : B * q + r = A) : A - q * B = r ∧ -A - -q * B = -r ∧ -A - q * -B = -r ∧ A - -q * -B = r := by
  have e : q * B = B * q := Int.mul_comm _ _
  refine ⟨?_, ?_, ?_, ?_⟩ <;> simp only [Int.neg_mul, Int.mul_neg, Int.neg_neg, e] <;> omega
set_option maxHeartbeats 3200000 in
theorem rd_law (a b : Int) (hb : b ≠ 0) :
    (dmQ a b = q0 a b ∧ dmR a b = r0 a b ∧ (r0 a b = 0 ∨ (r0 a b ≠ 0 ∧ (r0 a b).sign = b.sign))) ∨ (dmQ a b = q0 a b - 1 ∧ dmR a b = r0 a b + b ∧ r0 a b ≠ 0 ∧ (r0 a b).sign ≠ b.sign) := by
  have h1 := Nat.div_add_mod a.natAbs b.natAbs
  have h2 := Nat.mod_lt a.natAbs (show 0 < b.natAbs by omega)
  unfold r0 dmQ dmR dmX dmY q0 sg
  obtain ⟨q, hq⟩ : ∃ q, a.natAbs / b.natAbs = q := ⟨_, rfl⟩
  obtain ⟨r, hr⟩ : ∃ r, a.natAbs % b.natAbs = r := ⟨_, rfl⟩
  rw [hq, hr] at h1 ⊢
  rw [hr] at h2
  clear hq hr
  obtain ⟨B, hB⟩ : ∃ B, b.natAbs = B := ⟨_, rfl⟩
  obtain ⟨A, hA⟩ : ∃ A, a.natAbs = A := ⟨_, rfl⟩
  rw [hB, hA] at h1
  rw [hB] at h2 ⊢
  obtain ⟨c1, c2, c3, c4⟩ := @rd_calc (A : Int) (B : Int) (q : Int) (r : Int) (by rw [← h1]; simp)
  have eBr : ((B - r : Nat) : Int) = (B : Int) - (r : Int) := by omega
  have eq1 : ((q + 1 : Nat) : Int) = (q : Int) + 1 := by omega
  by_cases ha : a < 0 <;> by_cases hbn : b < 0
  · have ea : a = -(A : Int) := by omega
    have eb : b = -(B : Int) := by omega
    simp only [decide_eq_true ha, decide_eq_true hbn, ne_eq, not_true, false_and, if_false, bne_self_eq_false, Bool.false_eq_true, if_true]
    have e : a - (q : Int) * b = -(r : Int) := by rw [ea, eb]; exact c3
    rw [e, Int.sign_eq_neg_one_of_neg hbn]
    refine .inl ⟨trivial, rfl, ?_⟩
    by_cases h0 : r = 0
    · left; omega
    · right; exact ⟨by omega, Int.sign_eq_neg_one_of_neg (by omega)⟩
  · have ea : a = -(A : Int) := by omega
    have eb : b = (B : Int) := by omega
    simp only [decide_eq_true ha, decide_eq_false hbn, ne_eq, reduceCtorEq, not_false_iff, true_and, bne_iff_ne, if_true, Bool.false_eq_true, if_false]
    have e : a - -(q : Int) * b = -(r : Int) := by rw [ea, eb]; exact c2
    rw [e, Int.sign_eq_one_of_pos (show 0 < b by omega)]
    by_cases h0 : 0 < r
    · simp only [if_pos h0, eBr, eq1]
      exact .inr ⟨by omega, by omega, by omega, by rw [Int.sign_eq_neg_one_of_neg (by omega)]; decide⟩
    · simp only [if_neg h0]
      exact .inl ⟨trivial, by omega, .inl (by omega)⟩
  · have ea : a = (A : Int) := by omega
    have eb : b = -(B : Int) := by omega
    simp only [decide_eq_false ha, decide_eq_true hbn, ne_eq, reduceCtorEq, not_false_iff, true_and, bne_iff_ne, if_true, Bool.false_eq_true, if_false]
    have e : a - -(q : Int) * b = (r : Int) := by rw [ea, eb]; exact c4
    rw [e, Int.sign_eq_neg_one_of_neg hbn]
    by_cases h0 : 0 < r
    · simp only [if_pos h0, eBr, eq1]
      exact .inr ⟨by omega, by omega, by omega, by rw [Int.sign_eq_one_of_pos (by omega)]; decide⟩
    · simp only [if_neg h0]
      exact .inl ⟨trivial, by omega, .inl (by omega)⟩
  · have ea : a = (A : Int) := by omega
    have eb : b = (B : Int) := by omega
    simp only [decide_eq_false ha, decide_eq_false hbn, ne_eq, not_true, false_and, if_false, bne_self_eq_false, Bool.false_eq_true, if_true]
    have e : a - (q : Int) * b = (r : Int) := by rw [ea, eb]; exact c1
    rw [e, Int.sign_eq_one_of_pos (show 0 < b by omega)]
    refine .inl ⟨trivial, rfl, ?_⟩
    by_cases h0 : r = 0
    · left; omega
    · right; exact ⟨by omega, Int.sign_eq_one_of_pos (by omega)⟩
theorem nd_mono {a b : Int} (h : a.natAbs ≤ b.natAbs) : nd a ≤ nd b := Nat.le_of_not_lt fun k => by
  have := nd_cmp k
  omega
theorem nd_q0 (a b : Int) : nd (q0 a b) ≤ nd a := nd_mono (by
  unfold q0
  rw [sg_abs]
  exact Nat.div_le_self _ _)
theorem nd_dmR (a b : Int) (hb : b ≠ 0) : nd (dmR a b) ≤ nd b := nd_mono (by have := (dm_law a b hb).2.1; omega)
theorem nd_dmQ (a b : Int) : nd (dmQ a b) ≤ nd a + 1 := by
  refine nd_le10 (by omega) ?_
  have h1 := nd_lt a
  have h2 := Nat.div_le_self a.natAbs b.natAbs
  unfold dmQ dmX
  rw [sg_abs, Nat.pow_succ]
  split <;> omega
set_option maxRecDepth 100000 in
set_option maxHeartbeats 12800000 in
theorem refDivMod_any (a b : Int) (w : World) (ha : nd a ≤ 5000) (hb : nd b ≤ 5000) (hb0 : b ≠ 0) (hT : Tab w) :
    Calls Tryz.prog 25 #[.string ⟨(iT a).toArray⟩, .string ⟨(iT b).toArray⟩] w (Ret (.tuple #[.string ⟨(iT (dmQ a b)).toArray⟩, .string ⟨(iT (dmR a b)).toArray⟩]) w) := by
  have HT := Lib.hid hT
  clear hT
  have hnq := nd_q0 a b
  have hnm := nd_mul (q0 a b) b
  have hnr := nd_subl a (q0 a b * b)
  have HCa := Lib.hid (fun w' => cutZ_any a w' (by omega))
  have HCb := Lib.hid (fun w' => cutZ_any b w' (by omega))
  have HGa := Lib.hid (fun w' => groupZ_any a w' (by omega))
  have HGb := Lib.hid (fun w' => groupZ_any b w' (by omega))
  have hla := grp_nd a (by omega)
  have hlb := grp_nd b (by omega)
  have hlq : (grp (a.natAbs / b.natAbs)).length ≤ 10000 := grp_le10 (Nat.lt_of_le_of_lt (Nat.div_le_self _ _) (nd_lt a)) (by omega)
  have HM := Lib.hid (fun w' hT => refMul_any (q0 a b) b w' (by omega) (by omega) hT)
  have HS := Lib.hid (fun w' hT => refSub_any a (q0 a b * b) w' (by omega) (by omega) hT)
  have HS1 := Lib.hid (fun w' hT => refSub_any (q0 a b) 1 w' (by omega) (by rw [nd_1]; decide) hT)
  have HA1 := Lib.hid (fun w' hT => refAdd_any (r0 a b) b w' (by unfold r0; omega) (by omega) hT)
  have HGr := Lib.hid (fun w' => refSign_any (r0 a b) w' (by unfold r0; omega))
  have HGb2 := Lib.hid (fun w' => refSign_any b w' (by omega))
  have hq := iT_is0 (r0 a b)
  have hlaw := rd_law a b hb0
  have hbp : 0 < b.natAbs := by omega
  have HQ := Lib.hid (show iT (sg (!(decide (a < 0) == decide (b < 0))) (a.natAbs / b.natAbs)) = iT (q0 a b) from rfl)
  rw [show a - q0 a b * b = r0 a b from rfl] at HS
  rw [iT_1] at HS1
  clear hnq hnm hnr ha hb hb0
  generalize r0 a b = r at *
  generalize q0 a b = q at *
  obtain ⟨ma, hma⟩ : ∃ m, decide (a < 0) = m := ⟨_, rfl⟩
  obtain ⟨mb, hmb⟩ : ∃ m, decide (b < 0) = m := ⟨_, rfl⟩
  rw [hma] at HCa HQ
  rw [hmb] at HCb HQ
  clear hma hmb
  generalize dmQ a b = Q at *
  generalize dmR a b = R at *
  generalize iT (q * b) = tm at *
  rcases hlaw with ⟨e1, e2, h0 | ⟨h0, h1⟩⟩ | ⟨e1, e2, h0, h1⟩ <;> obtain rfl := e1.symm <;> obtain rfl := e2.symm
  · rw [decide_eq_true h0] at hq
    clear h0
    generalize iT a = ta at *
    generalize iT b = tb at *
    generalize iT q = tq at *
    generalize iT r = tr at *
    generalize Lib.decDigits a.natAbs = da at *
    generalize Lib.decDigits b.natAbs = db at *
    generalize a.natAbs = A at *
    generalize b.natAbs = B at *
    go_enter Tryz.func25, Tryz.ntmps25
    go_wp2_with fail
    (with_reducible refine (HCa.out _).mono ?_)
    rintro _ _ ⟨rfl, x1, rfl⟩
    have hx1 := x1.size_le
    dsimp only
    go_wp2_with fail
    (with_reducible refine (HCb.out _).mono ?_)
    rintro _ _ ⟨rfl, x2, rfl⟩
    have hx2 := x2.size_le
    dsimp only
    go_wp2_with fail
    refine (HGa.out _).mono ?_
    rintro _ _ ⟨v1, rfl, y1, rfl, hv1⟩
    have hs1 := y1.size_le
    obtain ⟨p1, c1, rfl, hL1⟩ := grps_own hv1
    have HV1 := Lib.hid hv1
    clear hv1 hL1
    dsimp only
    go_wp2_with fail
    refine (HGb.out _).mono ?_
    rintro _ _ ⟨v2, rfl, y2, rfl, hv2⟩
    have hs2 := y2.size_le
    obtain ⟨p2, c2, rfl, hL2⟩ := grps_own hv2
    have hW1 := ownV_bel HV1.out y2
    obtain ⟨p1', c1', he1, hL1⟩ := grps_own hW1
    cases he1
    have HB := Lib.hid (quotient_any p1 p2 c1 c2 _ _ _ hL1 hL2 hla hlb hbp)
    clear hW1 hL1 hL2 hv2
    dsimp only
    go_wp2_with fail
    refine HB.out.mono ?_
    rintro _ _ ⟨v3, v4, rfl, y3, rfl, hv3, hv4⟩
    have hs3 := y3.size_le
    obtain ⟨p3, c3, rfl, hL3⟩ := grps_own hv3
    obtain ⟨p4, c4, rfl, hL4⟩ := grps_own hv4
    have HL3 := Lib.hid hL3
    clear hv3 hv4 hL3 hL4
    dsimp only
    go_wp2_with fail
    refine (whole_any _ _ _ _ _ HL3.out hlq (HT.out.of (by (repeat' (first | (with_reducible exact Below.refl _ _) | (with_reducible exact Nat.le_refl _) | (with_reducible refine Below.bel ?_ ?_) | (with_reducible refine Below.alloc ?_ ?_ _) | (with_reducible refine Below.drew ?_) | (with_reducible refine Below.drawsN ?_ _) | (with_reducible refine Below.setCell ?_ ?_ _) | (with_reducible refine le_bel ?_) | (with_reducible refine le_alloc ?_) | (with_reducible refine le_setCell ?_) | (with_reducible refine le_drew ?_) | (with_reducible refine le_drawsN ?_) | (dsimp only; with_reducible refine le_bel ?_) | (dsimp only; with_reducible refine Nat.le_refl _) | (dsimp only; with_reducible refine le_bel_add ?_) | (with_reducible assumption) | omega | (dsimp only; omega)))))).mono ?_
    rintro _ _ ⟨rfl, y4, rfl⟩
    have hs4 := y4.size_le
    rw [HQ.out]
    dsimp only
    go_wp2_with fail
    (with_reducible refine (HM.out _ (HT.out.of (by (repeat' (first | (with_reducible exact Below.refl _ _) | (with_reducible exact Nat.le_refl _) | (with_reducible refine Below.bel ?_ ?_) | (with_reducible refine Below.alloc ?_ ?_ _) | (with_reducible refine Below.drew ?_) | (with_reducible refine Below.drawsN ?_ _) | (with_reducible refine Below.setCell ?_ ?_ _) | (with_reducible refine le_bel ?_) | (with_reducible refine le_alloc ?_) | (with_reducible refine le_setCell ?_) | (with_reducible refine le_drew ?_) | (with_reducible refine le_drawsN ?_) | (dsimp only; with_reducible refine le_bel ?_) | (dsimp only; with_reducible refine Nat.le_refl _) | (dsimp only; with_reducible refine le_bel_add ?_) | (with_reducible assumption) | omega | (dsimp only; omega)))))).mono ?_)
    rintro _ _ ⟨rfl, y5, rfl⟩
    have hs5 := y5.size_le
    dsimp only
    go_wp2_with fail
    (with_reducible refine (HS.out _ (HT.out.of (by (repeat' (first | (with_reducible exact Below.refl _ _) | (with_reducible exact Nat.le_refl _) | (with_reducible refine Below.bel ?_ ?_) | (with_reducible refine Below.alloc ?_ ?_ _) | (with_reducible refine Below.drew ?_) | (with_reducible refine Below.drawsN ?_ _) | (with_reducible refine Below.setCell ?_ ?_ _) | (with_reducible refine le_bel ?_) | (with_reducible refine le_alloc ?_) | (with_reducible refine le_setCell ?_) | (with_reducible refine le_drew ?_) | (with_reducible refine le_drawsN ?_) | (dsimp only; with_reducible refine le_bel ?_) | (dsimp only; with_reducible refine Nat.le_refl _) | (dsimp only; with_reducible refine le_bel_add ?_) | (with_reducible assumption) | omega | (dsimp only; omega)))))).mono ?_)
    rintro _ _ ⟨rfl, y6, rfl⟩
    have hs6 := y6.size_le
    dsimp only
    go_wp2
    refine bodyPost_ret (v := .tuple #[.string ⟨tq.toArray⟩, .string ⟨tr.toArray⟩]) (by simp [results, Tryz.results25, go_sem]) rfl (Ret.mk (by rfl) (by (repeat' (first | (with_reducible exact Below.refl _ _) | (with_reducible exact Nat.le_refl _) | (with_reducible refine Below.bel ?_ ?_) | (with_reducible refine Below.alloc ?_ ?_ _) | (with_reducible refine Below.drew ?_) | (with_reducible refine Below.drawsN ?_ _) | (with_reducible refine Below.setCell ?_ ?_ _) | (with_reducible refine le_bel ?_) | (with_reducible refine le_alloc ?_) | (with_reducible refine le_setCell ?_) | (with_reducible refine le_drew ?_) | (with_reducible refine le_drawsN ?_) | (dsimp only; with_reducible refine le_bel ?_) | (dsimp only; with_reducible refine Nat.le_refl _) | (dsimp only; with_reducible refine le_bel_add ?_) | (with_reducible assumption) | omega | (dsimp only; omega)))))
  · rw [decide_eq_false h0] at hq
    have hsg : (r.sign == b.sign) = true := beq_iff_eq.2 h1
    clear h0 h1
    generalize r.sign = sr at *
    generalize b.sign = sb at *
    generalize iT a = ta at *
    generalize iT b = tb at *
    generalize iT q = tq at *
    generalize iT r = tr at *
    generalize Lib.decDigits a.natAbs = da at *
    generalize Lib.decDigits b.natAbs = db at *
    generalize a.natAbs = A at *
    generalize b.natAbs = B at *
    go_enter Tryz.func25, Tryz.ntmps25
    go_wp2_with fail
    (with_reducible refine (HCa.out _).mono ?_)
    rintro _ _ ⟨rfl, x1, rfl⟩
    have hx1 := x1.size_le
    dsimp only
    go_wp2_with fail
    (with_reducible refine (HCb.out _).mono ?_)
    rintro _ _ ⟨rfl, x2, rfl⟩
    have hx2 := x2.size_le
    dsimp only
    go_wp2_with fail
    refine (HGa.out _).mono ?_
    rintro _ _ ⟨v1, rfl, y1, rfl, hv1⟩
    have hs1 := y1.size_le
    obtain ⟨p1, c1, rfl, hL1⟩ := grps_own hv1
    have HV1 := Lib.hid hv1
    clear hv1 hL1
    dsimp only
    go_wp2_with fail
    refine (HGb.out _).mono ?_
    rintro _ _ ⟨v2, rfl, y2, rfl, hv2⟩
    have hs2 := y2.size_le
    obtain ⟨p2, c2, rfl, hL2⟩ := grps_own hv2
    have hW1 := ownV_bel HV1.out y2
    obtain ⟨p1', c1', he1, hL1⟩ := grps_own hW1
    cases he1
    have HB := Lib.hid (quotient_any p1 p2 c1 c2 _ _ _ hL1 hL2 hla hlb hbp)
    clear hW1 hL1 hL2 hv2
    dsimp only
    go_wp2_with fail
    refine HB.out.mono ?_
    rintro _ _ ⟨v3, v4, rfl, y3, rfl, hv3, hv4⟩
    have hs3 := y3.size_le
    obtain ⟨p3, c3, rfl, hL3⟩ := grps_own hv3
    obtain ⟨p4, c4, rfl, hL4⟩ := grps_own hv4
    have HL3 := Lib.hid hL3
    clear hv3 hv4 hL3 hL4
    dsimp only
    go_wp2_with fail
    refine (whole_any _ _ _ _ _ HL3.out hlq (HT.out.of (by (repeat' (first | (with_reducible exact Below.refl _ _) | (with_reducible exact Nat.le_refl _) | (with_reducible refine Below.bel ?_ ?_) | (with_reducible refine Below.alloc ?_ ?_ _) | (with_reducible refine Below.drew ?_) | (with_reducible refine Below.drawsN ?_ _) | (with_reducible refine Below.setCell ?_ ?_ _) | (with_reducible refine le_bel ?_) | (with_reducible refine le_alloc ?_) | (with_reducible refine le_setCell ?_) | (with_reducible refine le_drew ?_) | (with_reducible refine le_drawsN ?_) | (dsimp only; with_reducible refine le_bel ?_) | (dsimp only; with_reducible refine Nat.le_refl _) | (dsimp only; with_reducible refine le_bel_add ?_) | (with_reducible assumption) | omega | (dsimp only; omega)))))).mono ?_
    rintro _ _ ⟨rfl, y4, rfl⟩
    have hs4 := y4.size_le
    rw [HQ.out]
    dsimp only
    go_wp2_with fail
    (with_reducible refine (HM.out _ (HT.out.of (by (repeat' (first | (with_reducible exact Below.refl _ _) | (with_reducible exact Nat.le_refl _) | (with_reducible refine Below.bel ?_ ?_) | (with_reducible refine Below.alloc ?_ ?_ _) | (with_reducible refine Below.drew ?_) | (with_reducible refine Below.drawsN ?_ _) | (with_reducible refine Below.setCell ?_ ?_ _) | (with_reducible refine le_bel ?_) | (with_reducible refine le_alloc ?_) | (with_reducible refine le_setCell ?_) | (with_reducible refine le_drew ?_) | (with_reducible refine le_drawsN ?_) | (dsimp only; with_reducible refine le_bel ?_) | (dsimp only; with_reducible refine Nat.le_refl _) | (dsimp only; with_reducible refine le_bel_add ?_) | (with_reducible assumption) | omega | (dsimp only; omega)))))).mono ?_)
    rintro _ _ ⟨rfl, y5, rfl⟩
    have hs5 := y5.size_le
    dsimp only
    go_wp2_with fail
    (with_reducible refine (HS.out _ (HT.out.of (by (repeat' (first | (with_reducible exact Below.refl _ _) | (with_reducible exact Nat.le_refl _) | (with_reducible refine Below.bel ?_ ?_) | (with_reducible refine Below.alloc ?_ ?_ _) | (with_reducible refine Below.drew ?_) | (with_reducible refine Below.drawsN ?_ _) | (with_reducible refine Below.setCell ?_ ?_ _) | (with_reducible refine le_bel ?_) | (with_reducible refine le_alloc ?_) | (with_reducible refine le_setCell ?_) | (with_reducible refine le_drew ?_) | (with_reducible refine le_drawsN ?_) | (dsimp only; with_reducible refine le_bel ?_) | (dsimp only; with_reducible refine Nat.le_refl _) | (dsimp only; with_reducible refine le_bel_add ?_) | (with_reducible assumption) | omega | (dsimp only; omega)))))).mono ?_)
    rintro _ _ ⟨rfl, y6, rfl⟩
    have hs6 := y6.size_le
    dsimp only
    go_wp2_with fail
    (with_reducible refine (HGr.out _).mono ?_)
    rintro _ _ ⟨rfl, z1, rfl⟩
    have hz1 := z1.size_le
    dsimp only
    go_wp2_with fail
    (with_reducible refine (HGb2.out _).mono ?_)
    rintro _ _ ⟨rfl, z2, rfl⟩
    have hz2 := z2.size_le
    dsimp only
    go_wp2
    refine bodyPost_ret (v := .tuple #[.string ⟨tq.toArray⟩, .string ⟨tr.toArray⟩]) (by simp [results, Tryz.results25, go_sem]) rfl (Ret.mk (by rfl) (by (repeat' (first | (with_reducible exact Below.refl _ _) | (with_reducible exact Nat.le_refl _) | (with_reducible refine Below.bel ?_ ?_) | (with_reducible refine Below.alloc ?_ ?_ _) | (with_reducible refine Below.drew ?_) | (with_reducible refine Below.drawsN ?_ _) | (with_reducible refine Below.setCell ?_ ?_ _) | (with_reducible refine le_bel ?_) | (with_reducible refine le_alloc ?_) | (with_reducible refine le_setCell ?_) | (with_reducible refine le_drew ?_) | (with_reducible refine le_drawsN ?_) | (dsimp only; with_reducible refine le_bel ?_) | (dsimp only; with_reducible refine Nat.le_refl _) | (dsimp only; with_reducible refine le_bel_add ?_) | (with_reducible assumption) | omega | (dsimp only; omega)))))
  · rw [decide_eq_false h0] at hq
    have hsg : (r.sign == b.sign) = false := beq_eq_false_iff_ne.2 h1
    clear h0 h1
    generalize r.sign = sr at *
    generalize b.sign = sb at *
    generalize iT (r + b) = tr2 at *
    generalize iT (q - 1) = tq2 at *
    generalize iT a = ta at *
    generalize iT b = tb at *
    generalize iT q = tq at *
    generalize iT r = tr at *
    generalize Lib.decDigits a.natAbs = da at *
    generalize Lib.decDigits b.natAbs = db at *
    generalize a.natAbs = A at *
    generalize b.natAbs = B at *
    go_enter Tryz.func25, Tryz.ntmps25
    go_wp2_with fail
    (with_reducible refine (HCa.out _).mono ?_)
    rintro _ _ ⟨rfl, x1, rfl⟩
    have hx1 := x1.size_le
    dsimp only
    go_wp2_with fail
    (with_reducible refine (HCb.out _).mono ?_)
    rintro _ _ ⟨rfl, x2, rfl⟩
    have hx2 := x2.size_le
    dsimp only
    go_wp2_with fail
    refine (HGa.out _).mono ?_
    rintro _ _ ⟨v1, rfl, y1, rfl, hv1⟩
    have hs1 := y1.size_le
    obtain ⟨p1, c1, rfl, hL1⟩ := grps_own hv1
    have HV1 := Lib.hid hv1
    clear hv1 hL1
    dsimp only
    go_wp2_with fail
    refine (HGb.out _).mono ?_
    rintro _ _ ⟨v2, rfl, y2, rfl, hv2⟩
    have hs2 := y2.size_le
    obtain ⟨p2, c2, rfl, hL2⟩ := grps_own hv2
    have hW1 := ownV_bel HV1.out y2
    obtain ⟨p1', c1', he1, hL1⟩ := grps_own hW1
    cases he1
    have HB := Lib.hid (quotient_any p1 p2 c1 c2 _ _ _ hL1 hL2 hla hlb hbp)
    clear hW1 hL1 hL2 hv2
    dsimp only
    go_wp2_with fail
    refine HB.out.mono ?_
    rintro _ _ ⟨v3, v4, rfl, y3, rfl, hv3, hv4⟩
    have hs3 := y3.size_le
    obtain ⟨p3, c3, rfl, hL3⟩ := grps_own hv3
    obtain ⟨p4, c4, rfl, hL4⟩ := grps_own hv4
    have HL3 := Lib.hid hL3
    clear hv3 hv4 hL3 hL4
    dsimp only
    go_wp2_with fail
    refine (whole_any _ _ _ _ _ HL3.out hlq (HT.out.of (by (repeat' (first | (with_reducible exact Below.refl _ _) | (with_reducible exact Nat.le_refl _) | (with_reducible refine Below.bel ?_ ?_) | (with_reducible refine Below.alloc ?_ ?_ _) | (with_reducible refine Below.drew ?_) | (with_reducible refine Below.drawsN ?_ _) | (with_reducible refine Below.setCell ?_ ?_ _) | (with_reducible refine le_bel ?_) | (with_reducible refine le_alloc ?_) | (with_reducible refine le_setCell ?_) | (with_reducible refine le_drew ?_) | (with_reducible refine le_drawsN ?_) | (dsimp only; with_reducible refine le_bel ?_) | (dsimp only; with_reducible refine Nat.le_refl _) | (dsimp only; with_reducible refine le_bel_add ?_) | (with_reducible assumption) | omega | (dsimp only; omega)))))).mono ?_
    rintro _ _ ⟨rfl, y4, rfl⟩
    have hs4 := y4.size_le
    rw [HQ.out]
    dsimp only
    go_wp2_with fail
    (with_reducible refine (HM.out _ (HT.out.of (by (repeat' (first | (with_reducible exact Below.refl _ _) | (with_reducible exact Nat.le_refl _) | (with_reducible refine Below.bel ?_ ?_) | (with_reducible refine Below.alloc ?_ ?_ _) | (with_reducible refine Below.drew ?_) | (with_reducible refine Below.drawsN ?_ _) | (with_reducible refine Below.setCell ?_ ?_ _) | (with_reducible refine le_bel ?_) | (with_reducible refine le_alloc ?_) | (with_reducible refine le_setCell ?_) | (with_reducible refine le_drew ?_) | (with_reducible refine le_drawsN ?_) | (dsimp only; with_reducible refine le_bel ?_) | (dsimp only; with_reducible refine Nat.le_refl _) | (dsimp only; with_reducible refine le_bel_add ?_) | (with_reducible assumption) | omega | (dsimp only; omega)))))).mono ?_)
    rintro _ _ ⟨rfl, y5, rfl⟩
    have hs5 := y5.size_le
    dsimp only
    go_wp2_with fail
    (with_reducible refine (HS.out _ (HT.out.of (by (repeat' (first | (with_reducible exact Below.refl _ _) | (with_reducible exact Nat.le_refl _) | (with_reducible refine Below.bel ?_ ?_) | (with_reducible refine Below.alloc ?_ ?_ _) | (with_reducible refine Below.drew ?_) | (with_reducible refine Below.drawsN ?_ _) | (with_reducible refine Below.setCell ?_ ?_ _) | (with_reducible refine le_bel ?_) | (with_reducible refine le_alloc ?_) | (with_reducible refine le_setCell ?_) | (with_reducible refine le_drew ?_) | (with_reducible refine le_drawsN ?_) | (dsimp only; with_reducible refine le_bel ?_) | (dsimp only; with_reducible refine Nat.le_refl _) | (dsimp only; with_reducible refine le_bel_add ?_) | (with_reducible assumption) | omega | (dsimp only; omega)))))).mono ?_)
    rintro _ _ ⟨rfl, y6, rfl⟩
    have hs6 := y6.size_le
    dsimp only
    go_wp2_with fail
    (with_reducible refine (HGr.out _).mono ?_)
    rintro _ _ ⟨rfl, z1, rfl⟩
    have hz1 := z1.size_le
    dsimp only
    go_wp2_with fail
    (with_reducible refine (HGb2.out _).mono ?_)
    rintro _ _ ⟨rfl, z2, rfl⟩
    have hz2 := z2.size_le
    dsimp only
    go_wp2_with fail
    (with_reducible refine (HS1.out _ (HT.out.of (by (repeat' (first | (with_reducible exact Below.refl _ _) | (with_reducible exact Nat.le_refl _) | (with_reducible refine Below.bel ?_ ?_) | (with_reducible refine Below.alloc ?_ ?_ _) | (with_reducible refine Below.drew ?_) | (with_reducible refine Below.drawsN ?_ _) | (with_reducible refine Below.setCell ?_ ?_ _) | (with_reducible refine le_bel ?_) | (with_reducible refine le_alloc ?_) | (with_reducible refine le_setCell ?_) | (with_reducible refine le_drew ?_) | (with_reducible refine le_drawsN ?_) | (dsimp only; with_reducible refine le_bel ?_) | (dsimp only; with_reducible refine Nat.le_refl _) | (dsimp only; with_reducible refine le_bel_add ?_) | (with_reducible assumption) | omega | (dsimp only; omega)))))).mono ?_)
    rintro _ _ ⟨rfl, z3, rfl⟩
    have hz3 := z3.size_le
    dsimp only
    go_wp2_with fail
    (with_reducible refine (HA1.out _ (HT.out.of (by (repeat' (first | (with_reducible exact Below.refl _ _) | (with_reducible exact Nat.le_refl _) | (with_reducible refine Below.bel ?_ ?_) | (with_reducible refine Below.alloc ?_ ?_ _) | (with_reducible refine Below.drew ?_) | (with_reducible refine Below.drawsN ?_ _) | (with_reducible refine Below.setCell ?_ ?_ _) | (with_reducible refine le_bel ?_) | (with_reducible refine le_alloc ?_) | (with_reducible refine le_setCell ?_) | (with_reducible refine le_drew ?_) | (with_reducible refine le_drawsN ?_) | (dsimp only; with_reducible refine le_bel ?_) | (dsimp only; with_reducible refine Nat.le_refl _) | (dsimp only; with_reducible refine le_bel_add ?_) | (with_reducible assumption) | omega | (dsimp only; omega)))))).mono ?_)
    rintro _ _ ⟨rfl, z4, rfl⟩
    dsimp only
    go_wp2
    refine bodyPost_ret (v := .tuple #[.string ⟨tq2.toArray⟩, .string ⟨tr2.toArray⟩]) (by simp [results, Tryz.results25, go_sem]) rfl (Ret.mk (by rfl) (by (repeat' (first | (with_reducible exact Below.refl _ _) | (with_reducible exact Nat.le_refl _) | (with_reducible refine Below.bel ?_ ?_) | (with_reducible refine Below.alloc ?_ ?_ _) | (with_reducible refine Below.drew ?_) | (with_reducible refine Below.drawsN ?_ _) | (with_reducible refine Below.setCell ?_ ?_ _) | (with_reducible refine le_bel ?_) | (with_reducible refine le_alloc ?_) | (with_reducible refine le_setCell ?_) | (with_reducible refine le_drew ?_) | (with_reducible refine le_drawsN ?_) | (dsimp only; with_reducible refine le_bel ?_) | (dsimp only; with_reducible refine Nat.le_refl _) | (dsimp only; with_reducible refine le_bel_add ?_) | (with_reducible assumption) | omega | (dsimp only; omega)))))
end Go.Proofs.YteglfhmmkoahfaaGreatDoor
