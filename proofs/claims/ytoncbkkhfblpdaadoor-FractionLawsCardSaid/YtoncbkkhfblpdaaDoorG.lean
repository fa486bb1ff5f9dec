/- Make of the statements' own package; calculates; FractionSums. -/
import Derived.Test.YtoncbkkhfblpdaaDoorF
import Derived.Test.YtoncbkkhfblpdaaDoorE
namespace Go.Proofs.YtoncbkkhfblpdaaDoor
open Go.RowKit
attribute [local go_sem] Bel.cell Bel.frozen
attribute [local go_sem low] alloc_cell alloc_frozen

/-- A described fraction. -/
def smN (n d : Int) : Int := mk1 n (d + 1)
def smD (n d : Int) : Int := mk2 n (d + 1)
theorem small_right (n d : Int) (h1 : -32768 ≤ n) (h2 : n ≤ 32767) (h3 : 0 ≤ d) (h4 : d ≤ 255) : right (smN n d) (smD n d) = true := by
  have h0 : d + 1 ≠ 0 := by omega
  have hf : fits n (d + 1) = true := by
    have e1 := mkM_le n (d + 1)
    have e2 := mkD_le n (d + 1)
    unfold fits
    rw [decide_eq_true_iff]
    omega
  obtain ⟨e1, e2, _⟩ := mk_fit h0 hf
  unfold smN smD
  rw [e1, e2]
  exact fits_right n (d + 1) h0 hf

theorem small_any (n d : Int) (w : World) (h1 : -32768 ≤ n) (h2 : n ≤ 32767) (h3 : 0 ≤ d) (h4 : d ≤ 255) :
    Calls Tryd.prog 19 #[.agg #[.int .i16 n, .int .u8 d]] w (Ret (.agg #[.int .i64 (smN n d), .int .i64 (smD n d)]) w) := by
  have e1 : mk1 n (d + 1) = smN n d := rfl
  have e2 : mk2 n (d + 1) = smD n d := rfl
  have E1 := Lib.hid e1
  have E2 := Lib.hid e2
  clear e1 e2
  go_enter Tryd.func19, Tryd.ntmps19
  go_wp2_with fail
  (with_reducible refine (refmake_any _ _ _ (by omega) (by omega) (by omega) (by omega)).mono ?_)
  rintro _ _ ⟨rfl, x1, rfl⟩
  rw [E1.out, E2.out]
  generalize mk3 n (d + 1) = a3 at *
  generalize smN n d = a1 at *
  generalize smD n d = a2 at *
  go_wp2
  refine bodyPost_ret (v := .agg #[.int .i64 a1, .int .i64 a2]) (by simp [results, Tryd.results19, go_sem]) rfl (Ret.mk (by rfl) (by (repeat' (first | (with_reducible exact Below.refl _ _) | (with_reducible exact Nat.le_refl _) | (with_reducible refine Below.bel ?_ ?_) | (with_reducible refine Below.alloc ?_ ?_ _) | (with_reducible refine Below.drew ?_) | (with_reducible refine Below.drawsN ?_ _) | (with_reducible refine Below.setCell ?_ ?_ _) | (with_reducible refine le_bel ?_) | (with_reducible refine le_alloc ?_) | (with_reducible refine le_setCell ?_) | (with_reducible refine le_drew ?_) | (with_reducible refine le_drawsN ?_) | (dsimp only; with_reducible refine le_bel ?_) | (dsimp only; with_reducible refine Nat.le_refl _) | (dsimp only; with_reducible refine le_bel_add ?_) | (with_reducible assumption) | omega | (dsimp only; omega)))))

set_option maxHeartbeats 3200000 in
theorem calculates_any (n d m e : Int) (w : World) (h1 : right n d = true) (h2 : right m e = true) :
    Calls Tryd.prog 18 #[.agg #[.int .i64 n, .int .i64 d], .agg #[.int .i64 m, .int .i64 e]] w (Ret (.bool true) w) := by
  have H1 := Lib.hid h1
  have H2 := Lib.hid h2
  clear h1 h2
  go_enter Tryd.func18, Tryd.ntmps18
  go_wp2_with fail
  (with_reducible refine (add_any _ _ _ _ _ H1.out H2.out).mono ?_)
  rintro _ _ ⟨rfl, x1, rfl⟩
  go_wp2_with fail
  (with_reducible refine (sub_any _ _ _ _ _ H1.out H2.out).mono ?_)
  rintro _ _ ⟨rfl, x2, rfl⟩
  go_wp2_with fail
  (with_reducible refine (mul_any _ _ _ _ _ H1.out H2.out).mono ?_)
  rintro _ _ ⟨rfl, x3, rfl⟩
  go_wp2_with fail
  (with_reducible refine (div_any _ _ _ _ _ H1.out H2.out).mono ?_)
  rintro _ _ ⟨rfl, x4, rfl⟩
  go_wp2_with fail
  (with_reducible refine (refadd_any _ _ _ _ _ H1.out H2.out).mono ?_)
  rintro _ _ ⟨rfl, x5, rfl⟩
  generalize mk1 (n * e + m * d) (d * e) = a1 at *
  generalize mk2 (n * e + m * d) (d * e) = a2 at *
  generalize mk3 (n * e + m * d) (d * e) = a3 at *
  go_wp2_with fail
  (with_reducible refine (refsub_any _ _ _ _ _ H1.out H2.out).mono ?_)
  rintro _ _ ⟨rfl, x6, rfl⟩
  generalize mk1 (n * e - m * d) (d * e) = b1 at *
  generalize mk2 (n * e - m * d) (d * e) = b2 at *
  generalize mk3 (n * e - m * d) (d * e) = b3 at *
  go_wp2_with fail
  (with_reducible refine (refmul_any _ _ _ _ _ H1.out H2.out).mono ?_)
  rintro _ _ ⟨rfl, x7, rfl⟩
  generalize mk1 (n * m) (d * e) = c1 at *
  generalize mk2 (n * m) (d * e) = c2 at *
  generalize mk3 (n * m) (d * e) = c3 at *
  go_wp2_with fail
  (with_reducible refine (refdiv_any _ _ _ _ _ H1.out H2.out).mono ?_)
  rintro _ _ ⟨rfl, x8, rfl⟩
  generalize mk1 (n * e) (d * m) = d1 at *
  generalize mk2 (n * e) (d * m) = d2 at *
  generalize mk3 (n * e) (d * m) = d3 at *
  go_wp2
  go_ret
  exact Ret.mk (by simp) (by (repeat' (first | (with_reducible exact Below.refl _ _) | (with_reducible exact Nat.le_refl _) | (with_reducible refine Below.bel ?_ ?_) | (with_reducible refine Below.alloc ?_ ?_ _) | (with_reducible refine Below.drew ?_) | (with_reducible refine Below.drawsN ?_ _) | (with_reducible refine Below.setCell ?_ ?_ _) | (with_reducible refine le_bel ?_) | (with_reducible refine le_alloc ?_) | (with_reducible refine le_setCell ?_) | (with_reducible refine le_drew ?_) | (with_reducible refine le_drawsN ?_) | (dsimp only; with_reducible refine le_bel ?_) | (dsimp only; with_reducible refine Nat.le_refl _) | (dsimp only; with_reducible refine le_bel_add ?_) | (with_reducible assumption) | omega | (dsimp only; omega))))

set_option maxHeartbeats 1600000 in
theorem fractionSums_any (n d m e : Int) (w : World) (hT : Tab w) (h1 : -32768 ≤ n) (h2 : n ≤ 32767) (h3 : 0 ≤ d) (h4 : d ≤ 255) (k1 : -32768 ≤ m) (k2 : m ≤ 32767) (k3 : 0 ≤ e) (k4 : e ≤ 255) :
    Calls Tryd.prog 4 #[.agg #[.int .i16 n, .int .u8 d], .agg #[.int .i16 m, .int .u8 e]] w (Ret (.bool true) w) := by
  have HT := Lib.hid hT
  have H1 := Lib.hid (small_right n d h1 h2 h3 h4)
  have H2 := Lib.hid (small_right m e k1 k2 k3 k4)
  clear hT
  go_enter Tryd.func4, Tryd.ntmps4
  go_wp2_with fail
  (with_reducible refine (known_any _ (HT.out.of (by (repeat' (first | (with_reducible exact Below.refl _ _) | (with_reducible exact Nat.le_refl _) | (with_reducible refine Below.bel ?_ ?_) | (with_reducible refine Below.alloc ?_ ?_ _) | (with_reducible refine Below.drew ?_) | (with_reducible refine Below.drawsN ?_ _) | (with_reducible refine Below.setCell ?_ ?_ _) | (with_reducible refine le_bel ?_) | (with_reducible refine le_alloc ?_) | (with_reducible refine le_setCell ?_) | (with_reducible refine le_drew ?_) | (with_reducible refine le_drawsN ?_) | (dsimp only; with_reducible refine le_bel ?_) | (dsimp only; with_reducible refine Nat.le_refl _) | (dsimp only; with_reducible refine le_bel_add ?_) | (with_reducible assumption) | omega | (dsimp only; omega)))))).mono ?_)
  rintro _ _ ⟨rfl, x1, rfl⟩
  go_wp2_with fail
  refine wp_region_bel (by kernel_rfl) (by kernel_rfl) ?_
  repeat (go_big_quiet_step ((first | (go_at_call 19; exact bel_of (small_any _ _ _ (by omega) (by omega) (by omega) (by omega))) | (go_at_call 18; exact bel_of (calculates_any _ _ _ _ _ H1.out H2.out)))))
  refine wpQuiet_nil ?_
  rintro _ ⟨x2, rfl⟩
  go_wp2
  go_ret
  exact Ret.mk (by rfl) (by (repeat' (first | (with_reducible exact Below.refl _ _) | (with_reducible exact Nat.le_refl _) | (with_reducible refine Below.bel ?_ ?_) | (with_reducible refine Below.alloc ?_ ?_ _) | (with_reducible refine Below.drew ?_) | (with_reducible refine Below.drawsN ?_ _) | (with_reducible refine Below.setCell ?_ ?_ _) | (with_reducible refine le_bel ?_) | (with_reducible refine le_alloc ?_) | (with_reducible refine le_setCell ?_) | (with_reducible refine le_drew ?_) | (with_reducible refine le_drawsN ?_) | (dsimp only; with_reducible refine le_bel ?_) | (dsimp only; with_reducible refine Nat.le_refl _) | (dsimp only; with_reducible refine le_bel_add ?_) | (with_reducible assumption) | omega | (dsimp only; omega))))
end Go.Proofs.YtoncbkkhfblpdaaDoor
