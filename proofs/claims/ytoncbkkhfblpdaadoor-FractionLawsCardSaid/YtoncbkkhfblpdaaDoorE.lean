/- The worked example that each statement asks first. -/
import Derived.Test.YtoncbkkhfblpdaaDoorD
namespace Go.Proofs.YtoncbkkhfblpdaaDoor
open Go.RowKit
attribute [local go_sem] Bel.cell Bel.frozen
attribute [local go_sem low] alloc_cell alloc_frozen

theorem mk_16_6 : mk1 16 6 = 8 ∧ mk2 16 6 = 3 ∧ mk3 16 6 = 0 := by decide +kernel
theorem right_8_3 : right 8 3 = true := by decide +kernel
theorem text_8_3 : textL 8 3 = [50, 32, 50, 47, 51] := by decide +kernel

set_option maxHeartbeats 1600000 in
theorem known_any (w : World) (hT : Tab w) : Calls Tryd.prog 14 #[] w (Ret (.bool true) w) := by
  have HT := Lib.hid hT
  clear hT
  go_enter Tryd.func14, Tryd.ntmps14
  go_wp2_with fail
  (with_reducible refine (make_val _ _ _ (by omega) (by omega) (by omega) (by omega)).mono ?_)
  rintro _ _ ⟨rfl, x1, rfl⟩
  rw [mk_16_6.1, mk_16_6.2.1, mk_16_6.2.2]
  go_wp2_with fail
  (with_reducible refine (text_any _ _ _ right_8_3 (HT.out.of (by (repeat' (first | (with_reducible exact Below.refl _ _) | (with_reducible exact Nat.le_refl _) | (with_reducible refine Below.bel ?_ ?_) | (with_reducible refine Below.alloc ?_ ?_ _) | (with_reducible refine Below.drew ?_) | (with_reducible refine Below.drawsN ?_ _) | (with_reducible refine Below.setCell ?_ ?_ _) | (with_reducible refine le_bel ?_) | (with_reducible refine le_alloc ?_) | (with_reducible refine le_setCell ?_) | (with_reducible refine le_drew ?_) | (with_reducible refine le_drawsN ?_) | (dsimp only; with_reducible refine le_bel ?_) | (dsimp only; with_reducible refine Nat.le_refl _) | (dsimp only; with_reducible refine le_bel_add ?_) | (with_reducible assumption) | omega | (dsimp only; omega)))))).mono ?_)
  rintro _ _ ⟨rfl, x2, rfl⟩
  rw [text_8_3]
  go_wp2
  go_ret
  exact Ret.mk (by rfl) (by (repeat' (first | (with_reducible exact Below.refl _ _) | (with_reducible exact Nat.le_refl _) | (with_reducible refine Below.bel ?_ ?_) | (with_reducible refine Below.alloc ?_ ?_ _) | (with_reducible refine Below.drew ?_) | (with_reducible refine Below.drawsN ?_ _) | (with_reducible refine Below.setCell ?_ ?_ _) | (with_reducible refine le_bel ?_) | (with_reducible refine le_alloc ?_) | (with_reducible refine le_setCell ?_) | (with_reducible refine le_drew ?_) | (with_reducible refine le_drawsN ?_) | (dsimp only; with_reducible refine le_bel ?_) | (dsimp only; with_reducible refine Nat.le_refl _) | (dsimp only; with_reducible refine le_bel_add ?_) | (with_reducible assumption) | omega | (dsimp only; omega))))

theorem whole_err (n : Int) : (n ≤ 1000000 ∧ -1000000 ≤ n → mk3 n 1 = 0) ∧ (¬ (n ≤ 1000000 ∧ -1000000 ≤ n) → mk3 n 1 = 4) := by
  have h1 : mkM n 1 = (n.natAbs : Int) := by unfold mkM; rw [Int.gcd_one]; simp
  have h2 : mkD n 1 = 1 := by unfold mkD; rw [Int.gcd_one]; rfl
  have hf : fits n 1 = decide (n ≤ 1000000 ∧ -1000000 ≤ n) := by
    unfold fits
    rw [Bool.eq_iff_iff, decide_eq_true_iff, decide_eq_true_iff, h1, h2]
    omega
  constructor
  · intro h
    exact (mk_fit (by decide) (by rw [hf]; exact decide_eq_true h)).2.2
  · intro h
    exact (mk_lim (by decide) (by rw [hf]; exact decide_eq_false h)).2.2
end Go.Proofs.YtoncbkkhfblpdaaDoor
