/- Sizes of intervals: Cents. -/
import Derived.Test.YtehgeoipbgpocaaGreatDoorIm
namespace Go.Proofs.YtehgeoipbgpocaaGreatDoor
set_option linter.unusedVariables false
set_option linter.unusedSimpArgs false
open Go.RowKit
attribute [local go_sem low] Bel.cell Bel.frozen alloc_cell alloc_frozen
attribute [local go_sem] calmOp chainOp yieldsC grows

theorem iT_240 : I.iT 240000 = [50, 52, 48, 48, 48, 48] := by decide +kernel
theorem iT_2 : I.iT 2 = [50] := by decide +kernel
theorem nd_240 : I.nd 240000 = 6 := by decide +kernel
theorem nd_2 : I.nd 2 = 1 := by decide +kernel
def cenV (s : Sz) : Int := (bdL (s.e 0) (s.e 1) (s.e 2) * 240000 + s.den * cU) / (s.den * cU * 2)
theorem cenV_bd {s : Sz} (h : s.ok = true) : -10000000000 ≤ cenV s ∧ cenV s ≤ 10000000000 := by
  have hd : 1 ≤ s.den := s.dn_pos (Sz.ok_rt h) 3
  have b0 := Sz.e_ok h 0 (by decide)
  have b1 := Sz.e_ok h 1 (by decide)
  have b2 := Sz.e_ok h 2 (by decide)
  obtain ⟨l1, l2⟩ := bdL_bd b0.1 b0.2 b1.1 b1.2 b2.1 b2.2
  have hU : (0 : Int) < cU := by decide
  have hge : cU ≤ s.den * cU := by
    have := Int.mul_le_mul_of_nonneg_right hd (show 0 ≤ cU by omega)
    omega
  unfold cenV
  generalize bdL (s.e 0) (s.e 1) (s.e 2) = b at *
  generalize s.den * cU = m at *
  generalize cU = u at *
  constructor
  · rw [Int.le_ediv_iff_mul_le (by omega)]
    omega
  · exact Int.ediv_le_of_le_mul (by omega) (by omega)
set_option maxRecDepth 100000 in
set_option maxHeartbeats 6400000 in
theorem cents_ok (s : Sz) (w : World) (hok : s.ok = true) (hT : I.Tab w) : Calls Tryz.prog 199 #[s.V] w (Ret (.tuple #[.int .i64 (cenV s), .int .i64 0]) w) := by
  have HT := Lib.hid hT
  clear hT
  have HC := Lib.hid (fun w' => icheck_any s w')
  have hV : ∀ s : Sz, s.V = .agg #[.int .i64 s.a.n, .int .i64 s.a.d, .int .i64 s.b.n, .int .i64 s.b.d, .int .i64 s.c.n, .int .i64 s.c.d] := fun _ => rfl
  have HP := Lib.hid (fun w' => parts_ok s w' (Sz.ok_rt hok) (Sz.ok_fit hok))
  have c0 := Sz.e_ok hok 0 (by decide)
  have c1 := Sz.e_ok hok 1 (by decide)
  have c2 := Sz.e_ok hok 2 (by decide)
  have hd0 : 1 ≤ s.den := s.dn_pos (Sz.ok_rt hok) 3
  have hd1 : s.den ≤ 240 := (s.fit_spec (Sz.ok_fit hok)).1
  have HBD := Lib.hid (fun w' hT => bounds_any (s.e 0) (s.e 1) (s.e 2) w' (by omega) (by omega) (by omega) (by omega) (by omega) (by omega) hT)
  have HOF := Lib.hid (fun w' hT => I.of_any s.den w' (by omega) (by omega) hT)
  have hdn := nd_small (show -1000000000000 ≤ s.den by omega) (by omega)
  have HMU := Lib.hid (fun w' hT => I.mul_any s.den cU w' (by omega) (by rw [nd_U]; decide) hT)
  rw [iT_U] at HMU
  have hU : (0 : Int) < cU := by decide
  have hm : 0 < s.den * cU * 2 := Int.mul_pos (Int.mul_pos (by omega) hU) (by decide)
  obtain ⟨l1, l2⟩ := bdL_bd c0.1 c0.2 c1.1 c1.2 c2.1 c2.2
  have hnl : I.nd (bdL (s.e 0) (s.e 1) (s.e 2)) ≤ 40 := I.nd_le10 (by decide) (by
    have : (10 : Nat) ^ 40 = 10000000000000000000000000000000000000000 := by decide
    unfold cU at l1 l2
    omega)
  have hnm := I.nd_mul s.den cU
  rw [nd_U] at hnm
  have hn1 := I.nd_mul (bdL (s.e 0) (s.e 1) (s.e 2)) 240000
  rw [nd_240] at hn1
  have hn2 := I.nd_add (bdL (s.e 0) (s.e 1) (s.e 2) * 240000) (s.den * cU)
  have hn3 := I.nd_mul (s.den * cU) 2
  rw [nd_2] at hn3
  have HM1 := Lib.hid (fun w' hT => I.mul_any (bdL (s.e 0) (s.e 1) (s.e 2)) 240000 w' (by omega) (by rw [nd_240]; decide) hT)
  rw [iT_240] at HM1
  have HAD := Lib.hid (fun w' hT => I.add_any (bdL (s.e 0) (s.e 1) (s.e 2) * 240000) (s.den * cU) w' (by omega) (by omega) hT)
  have HM2 := Lib.hid (fun w' hT => I.mul_any (s.den * cU) 2 w' (by omega) (by rw [nd_2]; decide) hT)
  rw [iT_2] at HM2
  have HDM := Lib.hid (fun w' hT => I.divMod_any (bdL (s.e 0) (s.e 1) (s.e 2) * 240000 + s.den * cU) (s.den * cU * 2) w' (by omega) (by omega) (by omega) hT)
  rw [dmQ_div _ _ hm, show (bdL (s.e 0) (s.e 1) (s.e 2) * 240000 + s.den * cU) / (s.den * cU * 2) = cenV s from rfl] at HDM
  obtain ⟨q1, q2⟩ := cenV_bd hok
  have hnq := nd_small (show -1000000000000 ≤ cenV s by omega) (by omega)
  have HSM := Lib.hid (fun w' => I.smallI_any (cenV s) w' (by rw [dec_nd]; omega))
  rw [dec_nd, if_pos (by omega), decide_eq_true (by omega)] at HSM
  rw [s.chk_ok hok, hV s] at HC
  rw [hV s] at HP ⊢
  clear l1 l2 hnl hnm hm hU hdn hn1 hn2 hn3 hnq hok hV
  generalize I.iT (s.den * cU * 2) = tm2 at *
  generalize I.iT (bdL (s.e 0) (s.e 1) (s.e 2) * 240000 + s.den * cU) = ta at *
  generalize I.iT (bdL (s.e 0) (s.e 1) (s.e 2) * 240000) = tm1 at *
  generalize I.iT (s.den * cU) = tm at *
  generalize I.dmR _ _ = rr at *
  generalize I.iT rr = tr at *
  generalize I.iT (bdL (s.e 0) (s.e 1) (s.e 2)) = tl at *
  generalize I.iT (bdH (s.e 0) (s.e 1) (s.e 2)) = th at *
  generalize cenV s = q at *
  generalize I.iT q = tq at *
  generalize I.iT s.den = td at *
  generalize s.e 0 = e0 at *
  generalize s.e 1 = e1 at *
  generalize s.e 2 = e2 at *
  generalize s.den = d at *
  go_enter Tryz.func199, Tryz.ntmps199
  go_wp2_with fail
  (with_reducible refine (HC.out _).mono ?_)
  rintro _ _ ⟨rfl, x, rfl⟩
  go_wp2_with fail
  (with_reducible refine (HP.out _).mono ?_)
  rintro _ _ ⟨rfl, y, rfl⟩
  go_wp2_with fail
  (with_reducible refine (HBD.out _ (HT.out.of (by (repeat' (first | (with_reducible first | apply Zl1 | apply Zl2 | apply Zl3 | apply Zl4 | apply Zl5 | apply Zl6 | apply Zl7 | apply Zl8 | apply Zl9 | apply Zla | apply Zlb | apply Zlc) | (dsimp only; with_reducible first | apply Zl8 | apply Zl2 | apply Zld) | with_reducible assumption | omega | (dsimp only; omega)))))).mono ?_)
  rintro _ _ ⟨rfl, b, rfl⟩
  dsimp only
  go_wp2_with fail
  (with_reducible refine (HOF.out _ (HT.out.of (by (repeat' (first | (with_reducible first | apply Zl1 | apply Zl2 | apply Zl3 | apply Zl4 | apply Zl5 | apply Zl6 | apply Zl7 | apply Zl8 | apply Zl9 | apply Zla | apply Zlb | apply Zlc) | (dsimp only; with_reducible first | apply Zl8 | apply Zl2 | apply Zld) | with_reducible assumption | omega | (dsimp only; omega)))))).mono ?_)
  rintro _ _ ⟨rfl, o, rfl⟩
  dsimp only
  go_wp2_with fail
  (with_reducible refine (HMU.out _ (HT.out.of (by (repeat' (first | (with_reducible first | apply Zl1 | apply Zl2 | apply Zl3 | apply Zl4 | apply Zl5 | apply Zl6 | apply Zl7 | apply Zl8 | apply Zl9 | apply Zla | apply Zlb | apply Zlc) | (dsimp only; with_reducible first | apply Zl8 | apply Zl2 | apply Zld) | with_reducible assumption | omega | (dsimp only; omega)))))).mono ?_)
  rintro _ _ ⟨rfl, m, rfl⟩
  dsimp only
  go_wp2_with fail
  (with_reducible refine (HM1.out _ (HT.out.of (by (repeat' (first | (with_reducible first | apply Zl1 | apply Zl2 | apply Zl3 | apply Zl4 | apply Zl5 | apply Zl6 | apply Zl7 | apply Zl8 | apply Zl9 | apply Zla | apply Zlb | apply Zlc) | (dsimp only; with_reducible first | apply Zl8 | apply Zl2 | apply Zld) | with_reducible assumption | omega | (dsimp only; omega)))))).mono ?_)
  rintro _ _ ⟨rfl, m1, rfl⟩
  dsimp only
  go_wp2_with fail
  (with_reducible refine (HAD.out _ (HT.out.of (by (repeat' (first | (with_reducible first | apply Zl1 | apply Zl2 | apply Zl3 | apply Zl4 | apply Zl5 | apply Zl6 | apply Zl7 | apply Zl8 | apply Zl9 | apply Zla | apply Zlb | apply Zlc) | (dsimp only; with_reducible first | apply Zl8 | apply Zl2 | apply Zld) | with_reducible assumption | omega | (dsimp only; omega)))))).mono ?_)
  rintro _ _ ⟨rfl, ad, rfl⟩
  dsimp only
  go_wp2_with fail
  (with_reducible refine (HM2.out _ (HT.out.of (by (repeat' (first | (with_reducible first | apply Zl1 | apply Zl2 | apply Zl3 | apply Zl4 | apply Zl5 | apply Zl6 | apply Zl7 | apply Zl8 | apply Zl9 | apply Zla | apply Zlb | apply Zlc) | (dsimp only; with_reducible first | apply Zl8 | apply Zl2 | apply Zld) | with_reducible assumption | omega | (dsimp only; omega)))))).mono ?_)
  rintro _ _ ⟨rfl, m2, rfl⟩
  dsimp only
  go_wp2_with fail
  (with_reducible refine (HDM.out _ (HT.out.of (by (repeat' (first | (with_reducible first | apply Zl1 | apply Zl2 | apply Zl3 | apply Zl4 | apply Zl5 | apply Zl6 | apply Zl7 | apply Zl8 | apply Zl9 | apply Zla | apply Zlb | apply Zlc) | (dsimp only; with_reducible first | apply Zl8 | apply Zl2 | apply Zld) | with_reducible assumption | omega | (dsimp only; omega)))))).mono ?_)
  rintro _ _ ⟨rfl, v, rfl⟩
  dsimp only
  go_wp2_with fail
  (with_reducible refine (HSM.out _).mono ?_)
  rintro _ _ ⟨rfl, sm, rfl⟩
  dsimp only
  go_wp2
  go_ret2
  exact Ret.mk rfl (by (repeat' (first | (with_reducible first | apply Zl1 | apply Zl2 | apply Zl3 | apply Zl4 | apply Zl5 | apply Zl6 | apply Zl7 | apply Zl8 | apply Zl9 | apply Zla | apply Zlb | apply Zlc) | (dsimp only; with_reducible first | apply Zl8 | apply Zl2 | apply Zld) | with_reducible assumption | omega | (dsimp only; omega))))
end Go.Proofs.YtehgeoipbgpocaaGreatDoor
