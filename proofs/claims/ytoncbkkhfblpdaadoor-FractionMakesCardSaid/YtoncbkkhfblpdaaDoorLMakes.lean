/- The statement FractionMakes: for any two ints, Make returns their quotient, and Whole the first one, or the first error. The condition: the library's table of powers lies in the world. -/
import Derived.Test.YtoncbkkhfblpdaaDoorE
namespace Go.Proofs.YtoncbkkhfblpdaaDoor
open Go.RowKit
attribute [local go_sem] Bel.cell Bel.frozen
attribute [local go_sem low] alloc_cell alloc_frozen

set_option maxHeartbeats 3200000 in
theorem fractionMakes_any (n d : Int) (w : World) (hT : Tab w) (h1 : -9223372036854775808 ≤ n) (h2 : n ≤ 9223372036854775807) (h3 : -9223372036854775808 ≤ d) (h4 : d ≤ 9223372036854775807) :
    Calls Tryd.prog 3 #[.int .i64 n, .int .i64 d] w (Ret (.bool true) w) := by
  have HT := Lib.hid hT
  clear hT
  have he := whole_err n
  by_cases ha : n ≤ 1000000
  · have ea : decide (n ≤ 1000000) = true := by simpa using ha
    by_cases hb : -1000000 ≤ n
    · have eb : decide (-1000000 ≤ n) = true := by simpa using hb
      have HE := Lib.hid (he.1 ⟨ha, hb⟩)
      clear he
      go_enter Tryd.func3, Tryd.ntmps3
      go_wp2_with fail
      (with_reducible refine (known_any _ (HT.out.of (by (repeat' (first | (with_reducible exact Below.refl _ _) | (with_reducible exact Nat.le_refl _) | (with_reducible refine Below.bel ?_ ?_) | (with_reducible refine Below.alloc ?_ ?_ _) | (with_reducible refine Below.drew ?_) | (with_reducible refine Below.drawsN ?_ _) | (with_reducible refine Below.setCell ?_ ?_ _) | (with_reducible refine le_bel ?_) | (with_reducible refine le_alloc ?_) | (with_reducible refine le_setCell ?_) | (with_reducible refine le_drew ?_) | (with_reducible refine le_drawsN ?_) | (dsimp only; with_reducible refine le_bel ?_) | (dsimp only; with_reducible refine Nat.le_refl _) | (dsimp only; with_reducible refine le_bel_add ?_) | (with_reducible assumption) | omega))))).mono ?_)
      rintro _ _ ⟨rfl, x1, rfl⟩
      go_wp2_with fail
      (with_reducible refine (make_val _ _ _ (by omega) (by omega) (by omega) (by omega)).mono ?_)
      rintro _ _ ⟨rfl, x2, rfl⟩
      go_wp2_with fail
      (with_reducible refine (make_val _ _ _ (by omega) (by omega) (by omega) (by omega)).mono ?_)
      rintro _ _ ⟨rfl, x3, rfl⟩
      rw [HE.out]
      go_wp2_with fail
      (with_reducible refine (whole_any _ _ (by omega) (by omega)).mono ?_)
      rintro _ _ ⟨rfl, x4, rfl⟩
      rw [HE.out]
      go_wp2_with fail
      (with_reducible refine (refmake_any _ _ _ (by omega) (by omega) (by omega) (by omega)).mono ?_)
      rintro _ _ ⟨rfl, x5, rfl⟩
      generalize mk1 n d = a1 at *
      generalize mk2 n d = a2 at *
      generalize mk3 n d = a3 at *
      generalize mk1 n 1 = b1 at *
      generalize mk2 n 1 = b2 at *
      go_wp2
      go_ret
      exact Ret.mk (by simp) (by (repeat' (first | (with_reducible exact Below.refl _ _) | (with_reducible exact Nat.le_refl _) | (with_reducible refine Below.bel ?_ ?_) | (with_reducible refine Below.alloc ?_ ?_ _) | (with_reducible refine Below.drew ?_) | (with_reducible refine Below.drawsN ?_ _) | (with_reducible refine Below.setCell ?_ ?_ _) | (with_reducible refine le_bel ?_) | (with_reducible refine le_alloc ?_) | (with_reducible refine le_setCell ?_) | (with_reducible refine le_drew ?_) | (with_reducible refine le_drawsN ?_) | (dsimp only; with_reducible refine le_bel ?_) | (dsimp only; with_reducible refine Nat.le_refl _) | (dsimp only; with_reducible refine le_bel_add ?_) | (with_reducible assumption) | omega)))
    · have eb : decide (-1000000 ≤ n) = false := by simpa using hb
      have HE := Lib.hid (he.2 (fun h => hb h.2))
      clear he
      go_enter Tryd.func3, Tryd.ntmps3
      go_wp2_with fail
      (with_reducible refine (known_any _ (HT.out.of (by (repeat' (first | (with_reducible exact Below.refl _ _) | (with_reducible exact Nat.le_refl _) | (with_reducible refine Below.bel ?_ ?_) | (with_reducible refine Below.alloc ?_ ?_ _) | (with_reducible refine Below.drew ?_) | (with_reducible refine Below.drawsN ?_ _) | (with_reducible refine Below.setCell ?_ ?_ _) | (with_reducible refine le_bel ?_) | (with_reducible refine le_alloc ?_) | (with_reducible refine le_setCell ?_) | (with_reducible refine le_drew ?_) | (with_reducible refine le_drawsN ?_) | (dsimp only; with_reducible refine le_bel ?_) | (dsimp only; with_reducible refine Nat.le_refl _) | (dsimp only; with_reducible refine le_bel_add ?_) | (with_reducible assumption) | omega))))).mono ?_)
      rintro _ _ ⟨rfl, x1, rfl⟩
      go_wp2_with fail
      (with_reducible refine (make_val _ _ _ (by omega) (by omega) (by omega) (by omega)).mono ?_)
      rintro _ _ ⟨rfl, x2, rfl⟩
      go_wp2_with fail
      (with_reducible refine (make_val _ _ _ (by omega) (by omega) (by omega) (by omega)).mono ?_)
      rintro _ _ ⟨rfl, x3, rfl⟩
      rw [HE.out]
      go_wp2_with fail
      (with_reducible refine (whole_any _ _ (by omega) (by omega)).mono ?_)
      rintro _ _ ⟨rfl, x4, rfl⟩
      rw [HE.out]
      go_wp2_with fail
      (with_reducible refine (refmake_any _ _ _ (by omega) (by omega) (by omega) (by omega)).mono ?_)
      rintro _ _ ⟨rfl, x5, rfl⟩
      generalize mk1 n d = a1 at *
      generalize mk2 n d = a2 at *
      generalize mk3 n d = a3 at *
      generalize mk1 n 1 = b1 at *
      generalize mk2 n 1 = b2 at *
      go_wp2
      go_ret
      exact Ret.mk (by simp) (by (repeat' (first | (with_reducible exact Below.refl _ _) | (with_reducible exact Nat.le_refl _) | (with_reducible refine Below.bel ?_ ?_) | (with_reducible refine Below.alloc ?_ ?_ _) | (with_reducible refine Below.drew ?_) | (with_reducible refine Below.drawsN ?_ _) | (with_reducible refine Below.setCell ?_ ?_ _) | (with_reducible refine le_bel ?_) | (with_reducible refine le_alloc ?_) | (with_reducible refine le_setCell ?_) | (with_reducible refine le_drew ?_) | (with_reducible refine le_drawsN ?_) | (dsimp only; with_reducible refine le_bel ?_) | (dsimp only; with_reducible refine Nat.le_refl _) | (dsimp only; with_reducible refine le_bel_add ?_) | (with_reducible assumption) | omega)))
  · have ea : decide (n ≤ 1000000) = false := by simpa using ha
    have HE := Lib.hid (he.2 (fun h => ha h.1))
    clear he
    go_enter Tryd.func3, Tryd.ntmps3
    go_wp2_with fail
    (with_reducible refine (known_any _ (HT.out.of (by (repeat' (first | (with_reducible exact Below.refl _ _) | (with_reducible exact Nat.le_refl _) | (with_reducible refine Below.bel ?_ ?_) | (with_reducible refine Below.alloc ?_ ?_ _) | (with_reducible refine Below.drew ?_) | (with_reducible refine Below.drawsN ?_ _) | (with_reducible refine Below.setCell ?_ ?_ _) | (with_reducible refine le_bel ?_) | (with_reducible refine le_alloc ?_) | (with_reducible refine le_setCell ?_) | (with_reducible refine le_drew ?_) | (with_reducible refine le_drawsN ?_) | (dsimp only; with_reducible refine le_bel ?_) | (dsimp only; with_reducible refine Nat.le_refl _) | (dsimp only; with_reducible refine le_bel_add ?_) | (with_reducible assumption) | omega))))).mono ?_)
    rintro _ _ ⟨rfl, x1, rfl⟩
    go_wp2_with fail
    (with_reducible refine (make_val _ _ _ (by omega) (by omega) (by omega) (by omega)).mono ?_)
    rintro _ _ ⟨rfl, x2, rfl⟩
    go_wp2_with fail
    (with_reducible refine (make_val _ _ _ (by omega) (by omega) (by omega) (by omega)).mono ?_)
    rintro _ _ ⟨rfl, x3, rfl⟩
    rw [HE.out]
    go_wp2_with fail
    (with_reducible refine (whole_any _ _ (by omega) (by omega)).mono ?_)
    rintro _ _ ⟨rfl, x4, rfl⟩
    rw [HE.out]
    go_wp2_with fail
    (with_reducible refine (refmake_any _ _ _ (by omega) (by omega) (by omega) (by omega)).mono ?_)
    rintro _ _ ⟨rfl, x5, rfl⟩
    generalize mk1 n d = a1 at *
    generalize mk2 n d = a2 at *
    generalize mk3 n d = a3 at *
    generalize mk1 n 1 = b1 at *
    generalize mk2 n 1 = b2 at *
    go_wp2
    go_ret
    exact Ret.mk (by simp) (by (repeat' (first | (with_reducible exact Below.refl _ _) | (with_reducible exact Nat.le_refl _) | (with_reducible refine Below.bel ?_ ?_) | (with_reducible refine Below.alloc ?_ ?_ _) | (with_reducible refine Below.drew ?_) | (with_reducible refine Below.drawsN ?_ _) | (with_reducible refine Below.setCell ?_ ?_ _) | (with_reducible refine le_bel ?_) | (with_reducible refine le_alloc ?_) | (with_reducible refine le_setCell ?_) | (with_reducible refine le_drew ?_) | (with_reducible refine le_drawsN ?_) | (dsimp only; with_reducible refine le_bel ?_) | (dsimp only; with_reducible refine Nat.le_refl _) | (dsimp only; with_reducible refine le_bel_add ?_) | (with_reducible assumption) | omega)))
end Go.Proofs.YtoncbkkhfblpdaaDoor
