/- Right and Make of the reference. -/
import Derived.Test.YtoncbkkhfblpdaaDoorM
namespace Go.Proofs.YtoncbkkhfblpdaaDoor
open Go.RowKit
attribute [local go_sem] Bel.cell Bel.frozen
attribute [local go_sem low] alloc_cell alloc_frozen

theorem dvs_one (n d : Int) (h1 : 1 ≤ d) (h2 : d ≤ 1000000) : (dvs n d = 1) ↔ (Int.gcd n d = 1) := by
  have hle : Int.gcd n d ≤ d.natAbs := Nat.le_of_dvd (by omega) (Int.gcd_dvd_natAbs_right _ _)
  unfold dvs
  rw [IntWalk.wrap64_in _ (by omega)]
  omega
theorem right_no {n d : Int} (h : ¬ (1 ≤ d ∧ d ≤ 1000000 ∧ -1000000 ≤ n ∧ n ≤ 1000000)) : Value.bool false = Value.bool (right n d) := by
  rw [right, decide_eq_false (fun k => h ⟨k.1, k.2.1, k.2.2.1, k.2.2.2.1⟩)]
theorem right_gcd {n d : Int} (h : 1 ≤ d ∧ d ≤ 1000000 ∧ -1000000 ≤ n ∧ n ≤ 1000000) : (dvs n d == 1) = right n d := by
  rw [right, Bool.eq_iff_iff, beq_iff_eq, decide_eq_true_iff, dvs_one n d h.1 h.2.1]
  exact ⟨fun k => ⟨h.1, h.2.1, h.2.2.1, h.2.2.2, k⟩, fun k => k.2.2.2.2⟩

set_option maxHeartbeats 800000 in
theorem right_any (n d : Int) (w : World) :
    Calls Tryd.prog 24 #[.agg #[.int .i64 n, .int .i64 d]] w (Ret (.bool (right n d)) w) := by
  by_cases h1 : d < 1
  · have e1 : decide (d < 1) = true := by simpa using h1
    go_enter Tryd.func24, Tryd.ntmps24
    go_wp2
    go_ret
    exact Ret.mk (by exact right_no (by omega)) (by (repeat' (first | (with_reducible exact Below.refl _ _) | (with_reducible exact Nat.le_refl _) | (with_reducible refine Below.bel ?_ ?_) | (with_reducible refine Below.alloc ?_ ?_ _) | (with_reducible refine Below.drew ?_) | (with_reducible refine Below.drawsN ?_ _) | (with_reducible refine Below.setCell ?_ ?_ _) | (with_reducible refine le_bel ?_) | (with_reducible refine le_alloc ?_) | (with_reducible refine le_setCell ?_) | (with_reducible refine le_drew ?_) | (with_reducible refine le_drawsN ?_) | (dsimp only; with_reducible refine le_bel ?_) | (dsimp only; with_reducible refine Nat.le_refl _) | (dsimp only; with_reducible refine le_bel_add ?_) | (with_reducible assumption) | omega | (dsimp only; omega))))
  have e1 : decide (d < 1) = false := by simpa using h1
  by_cases h2 : 1000000 < d
  · have e2 : decide (1000000 < d) = true := by simpa using h2
    go_enter Tryd.func24, Tryd.ntmps24
    go_wp2
    go_ret
    exact Ret.mk (by exact right_no (by omega)) (by (repeat' (first | (with_reducible exact Below.refl _ _) | (with_reducible exact Nat.le_refl _) | (with_reducible refine Below.bel ?_ ?_) | (with_reducible refine Below.alloc ?_ ?_ _) | (with_reducible refine Below.drew ?_) | (with_reducible refine Below.drawsN ?_ _) | (with_reducible refine Below.setCell ?_ ?_ _) | (with_reducible refine le_bel ?_) | (with_reducible refine le_alloc ?_) | (with_reducible refine le_setCell ?_) | (with_reducible refine le_drew ?_) | (with_reducible refine le_drawsN ?_) | (dsimp only; with_reducible refine le_bel ?_) | (dsimp only; with_reducible refine Nat.le_refl _) | (dsimp only; with_reducible refine le_bel_add ?_) | (with_reducible assumption) | omega | (dsimp only; omega))))
  have e2 : decide (1000000 < d) = false := by simpa using h2
  by_cases h3 : 1000000 < n
  · have e3 : decide (1000000 < n) = true := by simpa using h3
    go_enter Tryd.func24, Tryd.ntmps24
    go_wp2
    go_ret
    exact Ret.mk (by exact right_no (by omega)) (by (repeat' (first | (with_reducible exact Below.refl _ _) | (with_reducible exact Nat.le_refl _) | (with_reducible refine Below.bel ?_ ?_) | (with_reducible refine Below.alloc ?_ ?_ _) | (with_reducible refine Below.drew ?_) | (with_reducible refine Below.drawsN ?_ _) | (with_reducible refine Below.setCell ?_ ?_ _) | (with_reducible refine le_bel ?_) | (with_reducible refine le_alloc ?_) | (with_reducible refine le_setCell ?_) | (with_reducible refine le_drew ?_) | (with_reducible refine le_drawsN ?_) | (dsimp only; with_reducible refine le_bel ?_) | (dsimp only; with_reducible refine Nat.le_refl _) | (dsimp only; with_reducible refine le_bel_add ?_) | (with_reducible assumption) | omega | (dsimp only; omega))))
  have e3 : decide (1000000 < n) = false := by simpa using h3
  by_cases h4 : n < -1000000
  · have e4 : decide (n < -1000000) = true := by simpa using h4
    go_enter Tryd.func24, Tryd.ntmps24
    go_wp2
    go_ret
    exact Ret.mk (by exact right_no (by omega)) (by (repeat' (first | (with_reducible exact Below.refl _ _) | (with_reducible exact Nat.le_refl _) | (with_reducible refine Below.bel ?_ ?_) | (with_reducible refine Below.alloc ?_ ?_ _) | (with_reducible refine Below.drew ?_) | (with_reducible refine Below.drawsN ?_ _) | (with_reducible refine Below.setCell ?_ ?_ _) | (with_reducible refine le_bel ?_) | (with_reducible refine le_alloc ?_) | (with_reducible refine le_setCell ?_) | (with_reducible refine le_drew ?_) | (with_reducible refine le_drawsN ?_) | (dsimp only; with_reducible refine le_bel ?_) | (dsimp only; with_reducible refine Nat.le_refl _) | (dsimp only; with_reducible refine le_bel_add ?_) | (with_reducible assumption) | omega | (dsimp only; omega))))
  have e4 : decide (n < -1000000) = false := by simpa using h4
  have hr := Lib.hid (right_gcd (n := n) (d := d) ⟨by omega, by omega, by omega, by omega⟩)
  go_enter Tryd.func24, Tryd.ntmps24
  go_wp2_with fail
  (with_reducible refine (divisor_any _ _ _ (by omega) (by omega) (by omega) (by omega)).mono ?_)
  rintro _ _ ⟨rfl, k, rfl⟩
  go_wp2
  go_ret
  exact Ret.mk (by show Value.bool (dvs n d == 1) = _; rw [hr.out]) (by (repeat' (first | (with_reducible exact Below.refl _ _) | (with_reducible exact Nat.le_refl _) | (with_reducible refine Below.bel ?_ ?_) | (with_reducible refine Below.alloc ?_ ?_ _) | (with_reducible refine Below.drew ?_) | (with_reducible refine Below.drawsN ?_ _) | (with_reducible refine Below.setCell ?_ ?_ _) | (with_reducible refine le_bel ?_) | (with_reducible refine le_alloc ?_) | (with_reducible refine le_setCell ?_) | (with_reducible refine le_drew ?_) | (with_reducible refine le_drawsN ?_) | (dsimp only; with_reducible refine le_bel ?_) | (dsimp only; with_reducible refine Nat.le_refl _) | (dsimp only; with_reducible refine le_bel_add ?_) | (with_reducible assumption) | omega | (dsimp only; omega))))


theorem mk_fit {n d : Int} (h : d ≠ 0) (hf : fits n d = true) : mk1 n d = mkN n d ∧ mk2 n d = mkD n d ∧ mk3 n d = 0 := by
  unfold mk1 mk2 mk3; rw [if_neg h, if_neg h, if_neg h, if_pos hf, if_pos hf, if_pos hf]; exact ⟨rfl, rfl, rfl⟩
theorem mk_lim {n d : Int} (h : d ≠ 0) (hf : fits n d = false) : mk1 n d = 0 ∧ mk2 n d = 0 ∧ mk3 n d = 4 := by
  have hf' : ¬ fits n d = true := by rw [hf]; exact Bool.false_ne_true
  unfold mk1 mk2 mk3; rw [if_neg h, if_neg h, if_neg h, if_neg hf', if_neg hf', if_neg hf']; exact ⟨rfl, rfl, rfl⟩
theorem triple {a b c a' b' c' : Int} (h1 : a = a') (h2 : b = b') (h3 : c = c') : Value.tuple #[.agg #[.int .i64 a, .int .i64 b], .int .i64 c] = .tuple #[.agg #[.int .i64 a', .int .i64 b'], .int .i64 c'] := by
  rw [h1, h2, h3]

set_option maxHeartbeats 1600000 in
theorem refmake_any (n d : Int) (w : World) (h1 : -9223372036854775808 ≤ n) (h2 : n ≤ 9223372036854775807) (h3 : -9223372036854775808 ≤ d) (h4 : d ≤ 9223372036854775807) :
    Calls Tryd.prog 17 #[.int .i64 n, .int .i64 d] w (Ret (.tuple #[.agg #[.int .i64 (mk1 n d), .int .i64 (mk2 n d)], .int .i64 (mk3 n d)]) w) := by
  by_cases h0 : d = 0
  · have e0 : (d == 0) = true := by simpa using h0
    have H0 := Lib.hid h0
    clear h0
    go_enter Tryd.func17, Tryd.ntmps17
    go_wp2
    refine bodyPost_ret (v := .tuple #[.agg #[.int .i64 0, .int .i64 0], .int .i64 17]) (by simp [results, Tryd.results17, go_sem]) rfl (Ret.mk (by exact mkV_zero n d H0.out) (by (repeat' (first | (with_reducible exact Below.refl _ _) | (with_reducible exact Nat.le_refl _) | (with_reducible refine Below.bel ?_ ?_) | (with_reducible refine Below.alloc ?_ ?_ _) | (with_reducible refine Below.drew ?_) | (with_reducible refine Below.drawsN ?_ _) | (with_reducible refine Below.setCell ?_ ?_ _) | (with_reducible refine le_bel ?_) | (with_reducible refine le_alloc ?_) | (with_reducible refine le_setCell ?_) | (with_reducible refine le_drew ?_) | (with_reducible refine le_drawsN ?_) | (dsimp only; with_reducible refine le_bel ?_) | (dsimp only; with_reducible refine Nat.le_refl _) | (dsimp only; with_reducible refine le_bel_add ?_) | (with_reducible assumption) | omega | (dsimp only; omega)))))
  have e0 : (d == 0) = false := by simpa using h0
  obtain ⟨hs, hs0, hb1, hb2⟩ := dvs_sg n d h0 h3 h4
  obtain ⟨q1, q2⟩ := tdiv_sg n d h0
  have hw := right_wrap n d h0 h1 h2 h3 h4
  have hwf := fun hf => wrap_fits n d h0 hf
  have hmf := fun hf => mk_fit (n := n) h0 hf
  have hml := fun hf => mk_lim (n := n) h0 hf
  rw [← q1, ← q2] at hw hwf
  by_cases hd : d < 0
  · rw [if_pos hd] at hs
    have HS := Lib.hid hs
    have HW := Lib.hid hw
    have HWF := Lib.hid hwf
    have HQ := Lib.hid (And.intro q1 q2)
    have HMF := Lib.hid hmf
    have HML := Lib.hid hml
    clear hs hw hwf q1 q2 hmf hml
    go_enter Tryd.func17, Tryd.ntmps17
    go_wp2_with fail
    (with_reducible refine (divisor_any _ _ _ (by omega) (by omega) (by omega) (by omega)).mono ?_)
    rintro _ _ ⟨rfl, k, rfl⟩
    generalize dvs n d = g at *
    go_wp2_with fail
    rw [HS.out]
    generalize sg n d = G at *
    go_region
    go_wp2_with fail
    (with_reducible refine (right_any _ _ _).mono ?_)
    rintro _ _ ⟨rfl, x1, rfl⟩
    rw [HW.out]
    cases hf : fits n d
    · have H := Lib.hid (HML.out hf)
      clear hf
      go_wp2
      refine bodyPost_ret (v := .tuple #[.agg #[.int .i64 0, .int .i64 0], .int .i64 4]) (by simp [results, Tryd.results17, go_sem]) rfl (Ret.mk (by exact triple H.out.1.symm H.out.2.1.symm H.out.2.2.symm) (by (repeat' (first | (with_reducible exact Below.refl _ _) | (with_reducible exact Nat.le_refl _) | (with_reducible refine Below.bel ?_ ?_) | (with_reducible refine Below.alloc ?_ ?_ _) | (with_reducible refine Below.drew ?_) | (with_reducible refine Below.drawsN ?_ _) | (with_reducible refine Below.setCell ?_ ?_ _) | (with_reducible refine le_bel ?_) | (with_reducible refine le_alloc ?_) | (with_reducible refine le_setCell ?_) | (with_reducible refine le_drew ?_) | (with_reducible refine le_drawsN ?_) | (dsimp only; with_reducible refine le_bel ?_) | (dsimp only; with_reducible refine Nat.le_refl _) | (dsimp only; with_reducible refine le_bel_add ?_) | (with_reducible assumption) | omega | (dsimp only; omega)))))
    · have H := Lib.hid (HMF.out hf)
      have H2 := Lib.hid (HWF.out hf)
      clear hf
      go_wp2
      refine bodyPost_ret (v := .tuple #[.agg #[.int .i64 (wrap64 (n.tdiv G)), .int .i64 (wrap64 (d.tdiv G))], .int .i64 0]) (by simp [results, Tryd.results17, go_sem]) rfl (Ret.mk (by exact triple (H2.out.1.trans (HQ.out.1.trans H.out.1.symm)) (H2.out.2.trans (HQ.out.2.trans H.out.2.1.symm)) H.out.2.2.symm) (by (repeat' (first | (with_reducible exact Below.refl _ _) | (with_reducible exact Nat.le_refl _) | (with_reducible refine Below.bel ?_ ?_) | (with_reducible refine Below.alloc ?_ ?_ _) | (with_reducible refine Below.drew ?_) | (with_reducible refine Below.drawsN ?_ _) | (with_reducible refine Below.setCell ?_ ?_ _) | (with_reducible refine le_bel ?_) | (with_reducible refine le_alloc ?_) | (with_reducible refine le_setCell ?_) | (with_reducible refine le_drew ?_) | (with_reducible refine le_drawsN ?_) | (dsimp only; with_reducible refine le_bel ?_) | (dsimp only; with_reducible refine Nat.le_refl _) | (dsimp only; with_reducible refine le_bel_add ?_) | (with_reducible assumption) | omega | (dsimp only; omega)))))
  · rw [if_neg hd] at hs
    have HS := Lib.hid hs
    have HW := Lib.hid hw
    have HWF := Lib.hid hwf
    have HQ := Lib.hid (And.intro q1 q2)
    have HMF := Lib.hid hmf
    have HML := Lib.hid hml
    clear hs hw hwf q1 q2 hmf hml
    go_enter Tryd.func17, Tryd.ntmps17
    go_wp2_with fail
    (with_reducible refine (divisor_any _ _ _ (by omega) (by omega) (by omega) (by omega)).mono ?_)
    rintro _ _ ⟨rfl, k, rfl⟩
    generalize dvs n d = g at *
    go_wp2_with fail
    rw [HS.out]
    generalize sg n d = G at *
    go_region
    go_wp2_with fail
    (with_reducible refine (right_any _ _ _).mono ?_)
    rintro _ _ ⟨rfl, x1, rfl⟩
    rw [HW.out]
    cases hf : fits n d
    · have H := Lib.hid (HML.out hf)
      clear hf
      go_wp2
      refine bodyPost_ret (v := .tuple #[.agg #[.int .i64 0, .int .i64 0], .int .i64 4]) (by simp [results, Tryd.results17, go_sem]) rfl (Ret.mk (by exact triple H.out.1.symm H.out.2.1.symm H.out.2.2.symm) (by (repeat' (first | (with_reducible exact Below.refl _ _) | (with_reducible exact Nat.le_refl _) | (with_reducible refine Below.bel ?_ ?_) | (with_reducible refine Below.alloc ?_ ?_ _) | (with_reducible refine Below.drew ?_) | (with_reducible refine Below.drawsN ?_ _) | (with_reducible refine Below.setCell ?_ ?_ _) | (with_reducible refine le_bel ?_) | (with_reducible refine le_alloc ?_) | (with_reducible refine le_setCell ?_) | (with_reducible refine le_drew ?_) | (with_reducible refine le_drawsN ?_) | (dsimp only; with_reducible refine le_bel ?_) | (dsimp only; with_reducible refine Nat.le_refl _) | (dsimp only; with_reducible refine le_bel_add ?_) | (with_reducible assumption) | omega | (dsimp only; omega)))))
    · have H := Lib.hid (HMF.out hf)
      have H2 := Lib.hid (HWF.out hf)
      clear hf
      go_wp2
      refine bodyPost_ret (v := .tuple #[.agg #[.int .i64 (wrap64 (n.tdiv G)), .int .i64 (wrap64 (d.tdiv G))], .int .i64 0]) (by simp [results, Tryd.results17, go_sem]) rfl (Ret.mk (by exact triple (H2.out.1.trans (HQ.out.1.trans H.out.1.symm)) (H2.out.2.trans (HQ.out.2.trans H.out.2.1.symm)) H.out.2.2.symm) (by (repeat' (first | (with_reducible exact Below.refl _ _) | (with_reducible exact Nat.le_refl _) | (with_reducible refine Below.bel ?_ ?_) | (with_reducible refine Below.alloc ?_ ?_ _) | (with_reducible refine Below.drew ?_) | (with_reducible refine Below.drawsN ?_ _) | (with_reducible refine Below.setCell ?_ ?_ _) | (with_reducible refine le_bel ?_) | (with_reducible refine le_alloc ?_) | (with_reducible refine le_setCell ?_) | (with_reducible refine le_drew ?_) | (with_reducible refine le_drawsN ?_) | (dsimp only; with_reducible refine le_bel ?_) | (dsimp only; with_reducible refine Nat.le_refl _) | (dsimp only; with_reducible refine le_bel_add ?_) | (with_reducible assumption) | omega | (dsimp only; omega)))))
end Go.Proofs.YtoncbkkhfblpdaaDoor
