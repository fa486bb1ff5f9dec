/- Floors, the nearest integer, the order. -/
import Derived.Test.YtoncbkkhfblpdaaDoorG
namespace Go.Proofs.YtoncbkkhfblpdaaDoor
open Go.RowKit
attribute [local go_sem] Bel.cell Bel.frozen
attribute [local go_sem low] alloc_cell alloc_frozen

theorem floor_dn (n d : Int) (h : 1 ≤ d) : (n.tmod d < 0 → n.tdiv d - 1 = n / d) ∧ (¬ n.tmod d < 0 → n.tdiv d = n / d) := by
  have e1 := Int.mul_tdiv_add_tmod n d
  have e2 := Int.mul_ediv_add_emod n d
  have e3 := Int.emod_nonneg n (show d ≠ 0 by omega)
  have e4 := Int.emod_lt_of_pos n (show 0 < d by omega)
  have e5 := Int.tmod_lt_of_pos n (show 0 < d by omega)
  have e6 : -d < n.tmod d := by
    have := Int.lt_tmod_of_pos n (show 0 < d by omega)
    omega
  generalize n.tmod d = r at *
  generalize n.tdiv d = q at *
  generalize n % d = s at *
  generalize n / d = p at *
  have key : d * (q - p) = s - r := by rw [Int.mul_sub]; omega
  constructor
  · intro hr
    have h1 : 0 < d * (q - p) := by omega
    have h2 : 0 < q - p := by
      refine Int.lt_of_not_ge fun h0 => ?_
      have := Int.mul_nonpos_of_nonneg_of_nonpos (show 0 ≤ d by omega) (show q - p ≤ 0 by omega)
      omega
    have h3 : ¬ 2 ≤ q - p := fun h0 => by
      have := Int.mul_le_mul_of_nonneg_left h0 (show 0 ≤ d by omega)
      omega
    omega
  · intro hr
    have h2 : ¬ 1 ≤ q - p := fun h0 => by
      have := Int.mul_le_mul_of_nonneg_left h0 (show 0 ≤ d by omega)
      omega
    have h3 : ¬ q - p ≤ -1 := fun h0 => by
      have := Int.mul_le_mul_of_nonneg_left h0 (show 0 ≤ d by omega)
      omega
    omega
theorem floor_rf (n d : Int) : (n.tmod d < 0) ↔ (n < n.tdiv d * d) := by
  have e1 := Int.mul_tdiv_add_tmod n d
  rw [Int.mul_comm] at e1
  omega
theorem tdiv_bd (n d B : Int) (h1 : -B ≤ n) (h2 : n ≤ B) : -B ≤ n.tdiv d ∧ n.tdiv d ≤ B := by
  have := Int.natAbs_tdiv_le_natAbs n d
  omega

theorem floor_any (n d : Int) (w : World) (h : 1 ≤ d) (h0 : d ≤ 1000000000000) (h1 : -1000000000000 ≤ n) (h2 : n ≤ 1000000000000) :
    Calls Tryd.prog 59 #[.int .i64 n, .int .i64 d] w fun e w' => e = .returned (.int .i64 (n / d)) ∧ w = w' := by
  obtain ⟨f1, f2⟩ := floor_dn n d h
  obtain ⟨b1, b2⟩ := tdiv_bd n d _ h1 h2
  have hd0 : ¬ d = 0 := by omega
  have F1 := Lib.hid f1
  have F2 := Lib.hid f2
  clear f1 f2
  by_cases hr : n.tmod d < 0
  · have e1 : decide (n.tmod d < 0) = true := by simpa using hr
    go_enter Tryd.func59, Tryd.ntmps59
    go_wp2
    go_ret
    exact ⟨ret_int (F1.out hr), rfl⟩
  · have e1 : decide (n.tmod d < 0) = false := by simpa using hr
    go_enter Tryd.func59, Tryd.ntmps59
    go_wp2
    go_ret
    exact ⟨ret_int (F2.out (by omega)), rfl⟩
theorem reffloor_any (n d : Int) (w : World) (h : 1 ≤ d) (h0 : d ≤ 1000000000000) (h1 : -1000000000000 ≤ n) (h2 : n ≤ 1000000000000) :
    Calls Tryd.prog 57 #[.int .i64 n, .int .i64 d] w fun e w' => e = .returned (.int .i64 (n / d)) ∧ w = w' := by
  obtain ⟨f1, f2⟩ := floor_dn n d h
  have f3 := floor_rf n d
  obtain ⟨b1, b2⟩ := tdiv_bd n d _ h1 h2
  have hd0 : ¬ d = 0 := by omega
  have F1 := Lib.hid f1
  have F2 := Lib.hid f2
  have F3 := Lib.hid f3
  have e1 := Int.mul_tdiv_add_tmod n d
  have e2 := Int.tmod_lt_of_pos n (show 0 < d by omega)
  have e3 := Int.lt_tmod_of_pos n (show 0 < d by omega)
  rw [Int.mul_comm] at e1
  have p1 : -9223372036854775808 ≤ n.tdiv d * d := by omega
  have p2 : n.tdiv d * d ≤ 9223372036854775807 := by omega
  clear f1 f2 f3 e1 e2 e3
  by_cases hr : n < n.tdiv d * d
  · have e1 : decide (n < n.tdiv d * d) = true := by simpa using hr
    go_enter Tryd.func57, Tryd.ntmps57
    go_wp2
    go_ret
    exact ⟨ret_int (F1.out (F3.out.2 hr)), rfl⟩
  · have e1 : decide (n < n.tdiv d * d) = false := by simpa using hr
    go_enter Tryd.func57, Tryd.ntmps57
    go_wp2
    go_ret
    exact ⟨ret_int (F2.out (Int.not_lt.1 fun h => absurd (F3.out.1 h) (by omega))), rfl⟩

/-- The sign of a difference. -/
def cmp (n d m e : Int) : Int := if n * e < m * d then -1 else if m * d < n * e then 1 else 0
theorem int0 {a b : Int} (h : a = b) : Value.tuple #[.int .i64 a, .int .i64 0] = .tuple #[.int .i64 b, .int .i64 0] := by rw [h]

set_option maxHeartbeats 800000 in
theorem compare_any (n d m e : Int) (w : World) (h1 : right n d = true) (h2 : right m e = true) :
    Calls Tryd.prog 32 #[.agg #[.int .i64 n, .int .i64 d], .agg #[.int .i64 m, .int .i64 e]] w (Ret (.tuple #[.int .i64 (cmp n d m e), .int .i64 0]) w) := by
  have H := Lib.hid (max_ok h1 h2)
  obtain ⟨r1, r2, r3, r4, _⟩ := right_spec h1
  obtain ⟨s1, s2, s3, s4, _⟩ := right_spec h2
  clear h1 h2
  have p1 := prod_bd r3 r4 (by omega : -1000000 ≤ e) s2
  have p2 := prod_bd s3 s4 (by omega : -1000000 ≤ d) r2
  have hc := Lib.hid (show cmp n d m e = if n * e < m * d then -1 else if m * d < n * e then 1 else 0 from rfl)
  by_cases c1 : n * e < m * d
  · have d1 : decide (n * e < m * d) = true := by simpa using c1
    go_enter Tryd.func32, Tryd.ntmps32
    go_wp2_with fail
    (with_reducible refine (both_any _ _ _ _ _).mono ?_)
    rintro _ _ ⟨rfl, x1, rfl⟩
    rw [H.out]
    go_wp2_with fail
    refine wp_region_bel (by kernel_rfl) (by kernel_rfl) ?_
    repeat (go_big_quiet_step (fail))
    refine wpQuiet_nil ?_
    rintro _ ⟨x2, rfl⟩
    go_wp2
    go_ret2
    exact Ret.mk (int0 (by rw [hc.out, if_pos (by assumption)])) (by (repeat' (first | (with_reducible exact Below.refl _ _) | (with_reducible exact Nat.le_refl _) | (with_reducible refine Below.bel ?_ ?_) | (with_reducible refine Below.alloc ?_ ?_ _) | (with_reducible refine Below.drew ?_) | (with_reducible refine Below.drawsN ?_ _) | (with_reducible refine Below.setCell ?_ ?_ _) | (with_reducible refine le_bel ?_) | (with_reducible refine le_alloc ?_) | (with_reducible refine le_setCell ?_) | (with_reducible refine le_drew ?_) | (with_reducible refine le_drawsN ?_) | (dsimp only; with_reducible refine le_bel ?_) | (dsimp only; with_reducible refine Nat.le_refl _) | (dsimp only; with_reducible refine le_bel_add ?_) | (with_reducible assumption) | omega | (dsimp only; omega))))
  · have d1 : decide (n * e < m * d) = false := by simpa using c1
    by_cases c2 : m * d < n * e
    · have d2 : decide (m * d < n * e) = true := by simpa using c2
      go_enter Tryd.func32, Tryd.ntmps32
      go_wp2_with fail
      (with_reducible refine (both_any _ _ _ _ _).mono ?_)
      rintro _ _ ⟨rfl, x1, rfl⟩
      rw [H.out]
      go_wp2_with fail
      refine wp_region_bel (by kernel_rfl) (by kernel_rfl) ?_
      repeat (go_big_quiet_step (fail))
      refine wpQuiet_nil ?_
      rintro _ ⟨x2, rfl⟩
      go_wp2
      go_ret2
      exact Ret.mk (int0 (by rw [hc.out, if_neg (by omega), if_pos (by omega)])) (by (repeat' (first | (with_reducible exact Below.refl _ _) | (with_reducible exact Nat.le_refl _) | (with_reducible refine Below.bel ?_ ?_) | (with_reducible refine Below.alloc ?_ ?_ _) | (with_reducible refine Below.drew ?_) | (with_reducible refine Below.drawsN ?_ _) | (with_reducible refine Below.setCell ?_ ?_ _) | (with_reducible refine le_bel ?_) | (with_reducible refine le_alloc ?_) | (with_reducible refine le_setCell ?_) | (with_reducible refine le_drew ?_) | (with_reducible refine le_drawsN ?_) | (dsimp only; with_reducible refine le_bel ?_) | (dsimp only; with_reducible refine Nat.le_refl _) | (dsimp only; with_reducible refine le_bel_add ?_) | (with_reducible assumption) | omega | (dsimp only; omega))))
    · have d2 : decide (m * d < n * e) = false := by simpa using c2
      go_enter Tryd.func32, Tryd.ntmps32
      go_wp2_with fail
      (with_reducible refine (both_any _ _ _ _ _).mono ?_)
      rintro _ _ ⟨rfl, x1, rfl⟩
      rw [H.out]
      go_wp2_with fail
      refine wp_region_bel (by kernel_rfl) (by kernel_rfl) ?_
      repeat (go_big_quiet_step (fail))
      refine wpQuiet_nil ?_
      rintro _ ⟨x2, rfl⟩
      go_wp2
      go_ret2
      exact Ret.mk (int0 (by rw [hc.out, if_neg (by omega), if_neg (by omega)])) (by (repeat' (first | (with_reducible exact Below.refl _ _) | (with_reducible exact Nat.le_refl _) | (with_reducible refine Below.bel ?_ ?_) | (with_reducible refine Below.alloc ?_ ?_ _) | (with_reducible refine Below.drew ?_) | (with_reducible refine Below.drawsN ?_ _) | (with_reducible refine Below.setCell ?_ ?_ _) | (with_reducible refine le_bel ?_) | (with_reducible refine le_alloc ?_) | (with_reducible refine le_setCell ?_) | (with_reducible refine le_drew ?_) | (with_reducible refine le_drawsN ?_) | (dsimp only; with_reducible refine le_bel ?_) | (dsimp only; with_reducible refine Nat.le_refl _) | (dsimp only; with_reducible refine le_bel_add ?_) | (with_reducible assumption) | omega | (dsimp only; omega))))
theorem compare_no (n d m e : Int) (w : World) (h : right n d = false ∨ right m e = false) :
    Calls Tryd.prog 32 #[.agg #[.int .i64 n, .int .i64 d], .agg #[.int .i64 m, .int .i64 e]] w (Ret (.tuple #[.int .i64 0, .int .i64 2]) w) := by
  have H := Lib.hid (max_no h)
  clear h
  go_enter Tryd.func32, Tryd.ntmps32
  go_wp2_with fail
  (with_reducible refine (both_any _ _ _ _ _).mono ?_)
  rintro _ _ ⟨rfl, x1, rfl⟩
  rw [H.out]
  go_wp2
  go_ret2
  exact Ret.mk rfl (by (repeat' (first | (with_reducible exact Below.refl _ _) | (with_reducible exact Nat.le_refl _) | (with_reducible refine Below.bel ?_ ?_) | (with_reducible refine Below.alloc ?_ ?_ _) | (with_reducible refine Below.drew ?_) | (with_reducible refine Below.drawsN ?_ _) | (with_reducible refine Below.setCell ?_ ?_ _) | (with_reducible refine le_bel ?_) | (with_reducible refine le_alloc ?_) | (with_reducible refine le_setCell ?_) | (with_reducible refine le_drew ?_) | (with_reducible refine le_drawsN ?_) | (dsimp only; with_reducible refine le_bel ?_) | (dsimp only; with_reducible refine Nat.le_refl _) | (dsimp only; with_reducible refine le_bel_add ?_) | (with_reducible assumption) | omega | (dsimp only; omega))))
set_option maxHeartbeats 800000 in
theorem refcompare_any (n d m e : Int) (w : World) (h1 : right n d = true) (h2 : right m e = true) :
    Calls Tryd.prog 30 #[.agg #[.int .i64 n, .int .i64 d], .agg #[.int .i64 m, .int .i64 e]] w (Ret (.int .i64 (cmp n d m e)) w) := by
  obtain ⟨r1, r2, r3, r4, _⟩ := right_spec h1
  obtain ⟨s1, s2, s3, s4, _⟩ := right_spec h2
  clear h1 h2
  have p1 := prod_bd r3 r4 (by omega : -1000000 ≤ e) s2
  have p2 := prod_bd s3 s4 (by omega : -1000000 ≤ d) r2
  have hc := Lib.hid (show cmp n d m e = if n * e < m * d then -1 else if m * d < n * e then 1 else 0 from rfl)
  by_cases c1 : n * e < m * d
  · have d1 : decide (n * e < m * d) = true := by simpa using c1
    have d2 : decide (m * d < n * e) = false := by simp; omega
    go_enter Tryd.func30, Tryd.ntmps30
    go_wp2_with fail
    refine wp_region_bel (by kernel_rfl) (by kernel_rfl) ?_
    repeat (go_big_quiet_step (fail))
    refine wpQuiet_nil ?_
    rintro _ ⟨x2, rfl⟩
    go_wp2
    go_ret
    exact Ret.mk (by exact val_i64 (by rw [hc.out, if_pos (by assumption)])) (by (repeat' (first | (with_reducible exact Below.refl _ _) | (with_reducible exact Nat.le_refl _) | (with_reducible refine Below.bel ?_ ?_) | (with_reducible refine Below.alloc ?_ ?_ _) | (with_reducible refine Below.drew ?_) | (with_reducible refine Below.drawsN ?_ _) | (with_reducible refine Below.setCell ?_ ?_ _) | (with_reducible refine le_bel ?_) | (with_reducible refine le_alloc ?_) | (with_reducible refine le_setCell ?_) | (with_reducible refine le_drew ?_) | (with_reducible refine le_drawsN ?_) | (dsimp only; with_reducible refine le_bel ?_) | (dsimp only; with_reducible refine Nat.le_refl _) | (dsimp only; with_reducible refine le_bel_add ?_) | (with_reducible assumption) | omega | (dsimp only; omega))))
  · have d1 : decide (n * e < m * d) = false := by simpa using c1
    by_cases c2 : m * d < n * e
    · have d2 : decide (m * d < n * e) = true := by simpa using c2
      go_enter Tryd.func30, Tryd.ntmps30
      go_wp2_with fail
      refine wp_region_bel (by kernel_rfl) (by kernel_rfl) ?_
      repeat (go_big_quiet_step (fail))
      refine wpQuiet_nil ?_
      rintro _ ⟨x2, rfl⟩
      go_wp2
      go_ret
      exact Ret.mk (by exact val_i64 (by rw [hc.out, if_neg (by omega), if_pos (by omega)])) (by (repeat' (first | (with_reducible exact Below.refl _ _) | (with_reducible exact Nat.le_refl _) | (with_reducible refine Below.bel ?_ ?_) | (with_reducible refine Below.alloc ?_ ?_ _) | (with_reducible refine Below.drew ?_) | (with_reducible refine Below.drawsN ?_ _) | (with_reducible refine Below.setCell ?_ ?_ _) | (with_reducible refine le_bel ?_) | (with_reducible refine le_alloc ?_) | (with_reducible refine le_setCell ?_) | (with_reducible refine le_drew ?_) | (with_reducible refine le_drawsN ?_) | (dsimp only; with_reducible refine le_bel ?_) | (dsimp only; with_reducible refine Nat.le_refl _) | (dsimp only; with_reducible refine le_bel_add ?_) | (with_reducible assumption) | omega | (dsimp only; omega))))
    · have d2 : decide (m * d < n * e) = false := by simpa using c2
      go_enter Tryd.func30, Tryd.ntmps30
      go_wp2_with fail
      refine wp_region_bel (by kernel_rfl) (by kernel_rfl) ?_
      repeat (go_big_quiet_step (fail))
      refine wpQuiet_nil ?_
      rintro _ ⟨x2, rfl⟩
      go_wp2
      go_ret
      exact Ret.mk (by exact val_i64 (by rw [hc.out, if_neg (by omega), if_neg (by omega)])) (by (repeat' (first | (with_reducible exact Below.refl _ _) | (with_reducible exact Nat.le_refl _) | (with_reducible refine Below.bel ?_ ?_) | (with_reducible refine Below.alloc ?_ ?_ _) | (with_reducible refine Below.drew ?_) | (with_reducible refine Below.drawsN ?_ _) | (with_reducible refine Below.setCell ?_ ?_ _) | (with_reducible refine le_bel ?_) | (with_reducible refine le_alloc ?_) | (with_reducible refine le_setCell ?_) | (with_reducible refine le_drew ?_) | (with_reducible refine le_drawsN ?_) | (dsimp only; with_reducible refine le_bel ?_) | (dsimp only; with_reducible refine Nat.le_refl _) | (dsimp only; with_reducible refine le_bel_add ?_) | (with_reducible assumption) | omega | (dsimp only; omega))))

theorem floorF_any (n d : Int) (w : World) (h : right n d = true) :
    Calls Tryd.prog 33 #[.agg #[.int .i64 n, .int .i64 d]] w (Ret (.tuple #[.int .i64 (n / d), .int .i64 0]) w) := by
  obtain ⟨r1, r2, r3, r4, _⟩ := right_spec h
  have H := Lib.hid (chk_ok h)
  clear h
  go_enter Tryd.func33, Tryd.ntmps33
  go_wp2_with fail
  (with_reducible refine (check_any _ _ _).mono ?_)
  rintro _ _ ⟨rfl, x1, rfl⟩
  rw [H.out]
  go_wp2_with fail
  (with_reducible refine (floor_any _ _ _ (by omega) (by omega) (by omega) (by omega)).mono ?_)
  rintro _ _ ⟨rfl, rfl⟩
  go_wp2
  go_ret2
  exact Ret.mk rfl (by (repeat' (first | (with_reducible exact Below.refl _ _) | (with_reducible exact Nat.le_refl _) | (with_reducible refine Below.bel ?_ ?_) | (with_reducible refine Below.alloc ?_ ?_ _) | (with_reducible refine Below.drew ?_) | (with_reducible refine Below.drawsN ?_ _) | (with_reducible refine Below.setCell ?_ ?_ _) | (with_reducible refine le_bel ?_) | (with_reducible refine le_alloc ?_) | (with_reducible refine le_setCell ?_) | (with_reducible refine le_drew ?_) | (with_reducible refine le_drawsN ?_) | (dsimp only; with_reducible refine le_bel ?_) | (dsimp only; with_reducible refine Nat.le_refl _) | (dsimp only; with_reducible refine le_bel_add ?_) | (with_reducible assumption) | omega | (dsimp only; omega))))
theorem floorF_no (n d : Int) (w : World) (h : right n d = false) :
    Calls Tryd.prog 33 #[.agg #[.int .i64 n, .int .i64 d]] w (Ret (.tuple #[.int .i64 0, .int .i64 2]) w) := by
  have H := Lib.hid (chk_no h)
  clear h
  go_enter Tryd.func33, Tryd.ntmps33
  go_wp2_with fail
  (with_reducible refine (check_any _ _ _).mono ?_)
  rintro _ _ ⟨rfl, x1, rfl⟩
  rw [H.out]
  go_wp2
  go_ret2
  exact Ret.mk rfl (by (repeat' (first | (with_reducible exact Below.refl _ _) | (with_reducible exact Nat.le_refl _) | (with_reducible refine Below.bel ?_ ?_) | (with_reducible refine Below.alloc ?_ ?_ _) | (with_reducible refine Below.drew ?_) | (with_reducible refine Below.drawsN ?_ _) | (with_reducible refine Below.setCell ?_ ?_ _) | (with_reducible refine le_bel ?_) | (with_reducible refine le_alloc ?_) | (with_reducible refine le_setCell ?_) | (with_reducible refine le_drew ?_) | (with_reducible refine le_drawsN ?_) | (dsimp only; with_reducible refine le_bel ?_) | (dsimp only; with_reducible refine Nat.le_refl _) | (dsimp only; with_reducible refine le_bel_add ?_) | (with_reducible assumption) | omega | (dsimp only; omega))))
theorem nearest_any (n d : Int) (w : World) (h : right n d = true) :
    Calls Tryd.prog 34 #[.agg #[.int .i64 n, .int .i64 d]] w (Ret (.tuple #[.int .i64 ((2 * n + d) / (2 * d)), .int .i64 0]) w) := by
  obtain ⟨r1, r2, r3, r4, _⟩ := right_spec h
  have H := Lib.hid (chk_ok h)
  clear h
  go_enter Tryd.func34, Tryd.ntmps34
  go_wp2_with fail
  (with_reducible refine (check_any _ _ _).mono ?_)
  rintro _ _ ⟨rfl, x1, rfl⟩
  rw [H.out]
  go_wp2_with fail
  (with_reducible refine (floor_any _ _ _ (by omega) (by omega) (by omega) (by omega)).mono ?_)
  rintro _ _ ⟨rfl, rfl⟩
  go_wp2
  go_ret2
  exact Ret.mk rfl (by (repeat' (first | (with_reducible exact Below.refl _ _) | (with_reducible exact Nat.le_refl _) | (with_reducible refine Below.bel ?_ ?_) | (with_reducible refine Below.alloc ?_ ?_ _) | (with_reducible refine Below.drew ?_) | (with_reducible refine Below.drawsN ?_ _) | (with_reducible refine Below.setCell ?_ ?_ _) | (with_reducible refine le_bel ?_) | (with_reducible refine le_alloc ?_) | (with_reducible refine le_setCell ?_) | (with_reducible refine le_drew ?_) | (with_reducible refine le_drawsN ?_) | (dsimp only; with_reducible refine le_bel ?_) | (dsimp only; with_reducible refine Nat.le_refl _) | (dsimp only; with_reducible refine le_bel_add ?_) | (with_reducible assumption) | omega | (dsimp only; omega))))
theorem nearest_no (n d : Int) (w : World) (h : right n d = false) :
    Calls Tryd.prog 34 #[.agg #[.int .i64 n, .int .i64 d]] w (Ret (.tuple #[.int .i64 0, .int .i64 2]) w) := by
  have H := Lib.hid (chk_no h)
  clear h
  go_enter Tryd.func34, Tryd.ntmps34
  go_wp2_with fail
  (with_reducible refine (check_any _ _ _).mono ?_)
  rintro _ _ ⟨rfl, x1, rfl⟩
  rw [H.out]
  go_wp2
  go_ret2
  exact Ret.mk rfl (by (repeat' (first | (with_reducible exact Below.refl _ _) | (with_reducible exact Nat.le_refl _) | (with_reducible refine Below.bel ?_ ?_) | (with_reducible refine Below.alloc ?_ ?_ _) | (with_reducible refine Below.drew ?_) | (with_reducible refine Below.drawsN ?_ _) | (with_reducible refine Below.setCell ?_ ?_ _) | (with_reducible refine le_bel ?_) | (with_reducible refine le_alloc ?_) | (with_reducible refine le_setCell ?_) | (with_reducible refine le_drew ?_) | (with_reducible refine le_drawsN ?_) | (dsimp only; with_reducible refine le_bel ?_) | (dsimp only; with_reducible refine Nat.le_refl _) | (dsimp only; with_reducible refine le_bel_add ?_) | (with_reducible assumption) | omega | (dsimp only; omega))))
theorem refFloor_any (n d : Int) (w : World) (h : right n d = true) :
    Calls Tryd.prog 35 #[.agg #[.int .i64 n, .int .i64 d]] w (Ret (.int .i64 (n / d)) w) := by
  obtain ⟨r1, r2, r3, r4, _⟩ := right_spec h
  clear h
  go_enter Tryd.func35, Tryd.ntmps35
  go_wp2_with fail
  (with_reducible refine (reffloor_any _ _ _ (by omega) (by omega) (by omega) (by omega)).mono ?_)
  rintro _ _ ⟨rfl, rfl⟩
  go_wp2
  go_ret
  exact Ret.mk (by rfl) (by (repeat' (first | (with_reducible exact Below.refl _ _) | (with_reducible exact Nat.le_refl _) | (with_reducible refine Below.bel ?_ ?_) | (with_reducible refine Below.alloc ?_ ?_ _) | (with_reducible refine Below.drew ?_) | (with_reducible refine Below.drawsN ?_ _) | (with_reducible refine Below.setCell ?_ ?_ _) | (with_reducible refine le_bel ?_) | (with_reducible refine le_alloc ?_) | (with_reducible refine le_setCell ?_) | (with_reducible refine le_drew ?_) | (with_reducible refine le_drawsN ?_) | (dsimp only; with_reducible refine le_bel ?_) | (dsimp only; with_reducible refine Nat.le_refl _) | (dsimp only; with_reducible refine le_bel_add ?_) | (with_reducible assumption) | omega | (dsimp only; omega))))
theorem refNearest_any (n d : Int) (w : World) (h : right n d = true) :
    Calls Tryd.prog 36 #[.agg #[.int .i64 n, .int .i64 d]] w (Ret (.int .i64 ((2 * n + d) / (2 * d))) w) := by
  obtain ⟨r1, r2, r3, r4, _⟩ := right_spec h
  clear h
  go_enter Tryd.func36, Tryd.ntmps36
  go_wp2_with fail
  (with_reducible refine (reffloor_any _ _ _ (by omega) (by omega) (by omega) (by omega)).mono ?_)
  rintro _ _ ⟨rfl, rfl⟩
  go_wp2
  go_ret
  exact Ret.mk (by rfl) (by (repeat' (first | (with_reducible exact Below.refl _ _) | (with_reducible exact Nat.le_refl _) | (with_reducible refine Below.bel ?_ ?_) | (with_reducible refine Below.alloc ?_ ?_ _) | (with_reducible refine Below.drew ?_) | (with_reducible refine Below.drawsN ?_ _) | (with_reducible refine Below.setCell ?_ ?_ _) | (with_reducible refine le_bel ?_) | (with_reducible refine le_alloc ?_) | (with_reducible refine le_setCell ?_) | (with_reducible refine le_drew ?_) | (with_reducible refine le_drawsN ?_) | (dsimp only; with_reducible refine le_bel ?_) | (dsimp only; with_reducible refine Nat.le_refl _) | (dsimp only; with_reducible refine le_bel_add ?_) | (with_reducible assumption) | omega | (dsimp only; omega))))
end Go.Proofs.YtoncbkkhfblpdaaDoor
