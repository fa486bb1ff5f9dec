/- The law FractionChecks, walked. -/
import Derived.Test.YtoncbkkhfblpdaaDoorS3
import Derived.Test.YtoncbkkhfblpdaaDoorE
import Derived.Test.YtoncbkkhfblpdaaDoorH
import Derived.Test.YtoncbkkhfblpdaaDoorI
import Derived.Test.YtoncbkkhfblpdaaDoorK3
namespace Go.Proofs.YtoncbkkhfblpdaaDoor
open Go.RowKit
attribute [local go_sem low] Bel.cell Bel.frozen alloc_cell alloc_frozen

theorem text_no (n d : Int) (w : World) (hr : right n d = false) : Calls Tryd.prog 25 #[.agg #[.int .i64 n, .int .i64 d]] w (Ret (.tuple #[.string ⟨#[]⟩, .int .i64 2]) w) := by
  have hk := Lib.hid (chk_no hr)
  go_enter Tryd.func25, Tryd.ntmps25
  go_wp2_with fail
  (with_reducible refine (check_any _ _ _).mono ?_)
  rintro _ _ ⟨rfl, x1, rfl⟩
  rw [hk.out]
  go_wp2
  go_ret2
  exact Ret.mk (by rfl) (by (repeat' (first | (with_reducible exact Below.refl _ _) | (with_reducible exact Nat.le_refl _) | (with_reducible refine Below.bel ?_ ?_) | (with_reducible refine Below.alloc ?_ ?_ _) | (with_reducible refine Below.drew ?_) | (with_reducible refine Below.drawsN ?_ _) | (with_reducible refine Below.setCell ?_ ?_ _) | (with_reducible refine le_bel ?_) | (with_reducible refine le_alloc ?_) | (with_reducible refine le_setCell ?_) | (with_reducible refine le_drew ?_) | (with_reducible refine le_drawsN ?_) | (dsimp only; with_reducible refine le_bel ?_) | (dsimp only; with_reducible refine Nat.le_refl _) | (dsimp only; with_reducible refine le_bel_add ?_) | (with_reducible assumption) | omega | (dsimp only; omega))))

set_option maxHeartbeats 1600000 in
/-- The sum of a half and what is no right fraction. -/
theorem sum_bad (b cap : Nat) (n d : Int) (w : World) (hr : right n d = false) (h0 : w.cell? ⟨b, 0, none⟩ = some (.int .i64 1)) (h1 : w.cell? ⟨b, 1, none⟩ = some (.int .i64 2))
    (h2 : w.cell? ⟨b, 2, none⟩ = some (.int .i64 n)) (h3 : w.cell? ⟨b, 3, none⟩ = some (.int .i64 d)) :
    Calls Tryd.prog 22 #[.slice (some ⟨b, 0, none⟩) 2 cap] w (Ret (.tuple #[.agg #[.int .i64 0, .int .i64 0], .int .i64 2]) w) := by
  have hk := Lib.hid (chk_no hr)
  have hk1 := Lib.hid (show chk 1 2 = 0 by decide +kernel)
  go_enter Tryd.func22, Tryd.ntmps22
  go_wp2
  go_loopw [14] (fun i wr => ∃ k : Nat, k ≤ 1 ∧ i = .int .i64 (k : Int) ∧ ∃ x : Bel (w.alloc (.cells #[.int .i64 0, .int .i64 0] 24)), wr = x.w) (fun i _ => 2 - (intOf i).toNat)
  case atStart => exact ⟨0, by omega, rfl, ⟨_, Below.refl _ _⟩, rfl⟩
  case round =>
    obtain ⟨k, hk', rfl, x, rfl⟩ := hrel
    have hxs := x.size_le
    rcases (show k = 0 ∨ k = 1 by omega) with rfl | rfl
    · go_wp2_with fail
      (with_reducible refine (check_any _ _ _).mono ?_)
      rintro _ _ ⟨rfl, y, rfl⟩
      rw [hk1.out]
      go_wp2
      go_roundw
      case rel => exact ⟨1, by omega, by go_num, ⟨y.w, by (repeat' (first | (with_reducible exact Below.refl _ _) | (with_reducible exact Nat.le_refl _) | (with_reducible refine Below.bel ?_ ?_) | (with_reducible refine Below.alloc ?_ ?_ _) | (with_reducible refine Below.drew ?_) | (with_reducible refine Below.drawsN ?_ _) | (with_reducible refine Below.setCell ?_ ?_ _) | (with_reducible refine le_bel ?_) | (with_reducible refine le_alloc ?_) | (with_reducible refine le_setCell ?_) | (with_reducible refine le_drew ?_) | (with_reducible refine le_drawsN ?_) | (dsimp only; with_reducible refine le_bel ?_) | (dsimp only; with_reducible refine Nat.le_refl _) | (dsimp only; with_reducible refine le_bel_add ?_) | (with_reducible assumption) | omega | (dsimp only; omega)))⟩, by first | rfl | trivial⟩
      case measure => simp [intOf]
    · go_wp2_with fail
      (with_reducible refine (check_any _ _ _).mono ?_)
      rintro _ _ ⟨rfl, y, rfl⟩
      rw [hk.out]
      go_wp2
      refine bodyPost_ret (v := .tuple #[.agg #[.int .i64 0, .int .i64 0], .int .i64 2]) (by simp [results, Tryd.results22, go_sem]) rfl (Ret.mk (by rfl) (by (repeat' (first | (with_reducible exact Below.refl _ _) | (with_reducible exact Nat.le_refl _) | (with_reducible refine Below.bel ?_ ?_) | (with_reducible refine Below.alloc ?_ ?_ _) | (with_reducible refine Below.drew ?_) | (with_reducible refine Below.drawsN ?_ _) | (with_reducible refine Below.setCell ?_ ?_ _) | (with_reducible refine le_bel ?_) | (with_reducible refine le_alloc ?_) | (with_reducible refine le_setCell ?_) | (with_reducible refine le_drew ?_) | (with_reducible refine le_drawsN ?_) | (dsimp only; with_reducible refine le_bel ?_) | (dsimp only; with_reducible refine Nat.le_refl _) | (dsimp only; with_reducible refine le_bel_add ?_) | (with_reducible assumption) | omega | (dsimp only; omega)))))
set_option maxRecDepth 20000 in
set_option maxHeartbeats 6400000 in
theorem fractionChecks_any (n d m e : Int) (w : World) (hT : Tab w) : Calls Tryd.prog 13 #[.agg #[.int .i64 n, .int .i64 d], .agg #[.int .i64 m, .int .i64 e]] w (Ret (.bool true) w) := by
  have HT := Lib.hid hT
  clear hT
  by_cases h1 : right n d = true
  · have R1 := Lib.hid h1
    have hk := Lib.hid (chk_ok h1)
    clear h1
    by_cases h2 : right m e = true
    · have R2 := Lib.hid h2
      clear h2
      go_enter Tryd.func13, Tryd.ntmps13
      go_wp2_with fail
      (with_reducible refine (known_any _ (HT.out.of (by (repeat' (first | (with_reducible exact Below.refl _ _) | (with_reducible exact Nat.le_refl _) | (with_reducible refine Below.bel ?_ ?_) | (with_reducible refine Below.alloc ?_ ?_ _) | (with_reducible refine Below.drew ?_) | (with_reducible refine Below.drawsN ?_ _) | (with_reducible refine Below.setCell ?_ ?_ _) | (with_reducible refine le_bel ?_) | (with_reducible refine le_alloc ?_) | (with_reducible refine le_setCell ?_) | (with_reducible refine le_drew ?_) | (with_reducible refine le_drawsN ?_) | (dsimp only; with_reducible refine le_bel ?_) | (dsimp only; with_reducible refine Nat.le_refl _) | (dsimp only; with_reducible refine le_bel_add ?_) | (with_reducible assumption) | omega | (dsimp only; omega)))))).mono ?_)
      rintro _ _ ⟨rfl, x1, rfl⟩
      go_wp2_with fail
      (with_reducible refine (right_any _ _ _).mono ?_)
      rintro _ _ ⟨rfl, x2, rfl⟩
      rw [R1.out]
      go_wp2_with fail
      (with_reducible refine (check_any _ _ _).mono ?_)
      rintro _ _ ⟨rfl, x3, rfl⟩
      rw [hk.out]
      go_wp2_with fail
      (with_reducible refine (right_any _ _ _).mono ?_)
      rintro _ _ ⟨rfl, x4, rfl⟩
      rw [R1.out]
      go_wp2_with fail
      (with_reducible refine (right_any _ _ _).mono ?_)
      rintro _ _ ⟨rfl, x5, rfl⟩
      rw [R2.out]
      go_wp2
      go_ret
      exact Ret.mk (by rfl) (by (repeat' (first | (with_reducible exact Below.refl _ _) | (with_reducible exact Nat.le_refl _) | (with_reducible refine Below.bel ?_ ?_) | (with_reducible refine Below.alloc ?_ ?_ _) | (with_reducible refine Below.drew ?_) | (with_reducible refine Below.drawsN ?_ _) | (with_reducible refine Below.setCell ?_ ?_ _) | (with_reducible refine le_bel ?_) | (with_reducible refine le_alloc ?_) | (with_reducible refine le_setCell ?_) | (with_reducible refine le_drew ?_) | (with_reducible refine le_drawsN ?_) | (dsimp only; with_reducible refine le_bel ?_) | (dsimp only; with_reducible refine Nat.le_refl _) | (dsimp only; with_reducible refine le_bel_add ?_) | (with_reducible assumption) | omega | (dsimp only; omega))))
    · have R2 := Lib.hid (Bool.eq_false_iff.2 h2)
      clear h2
      go_enter Tryd.func13, Tryd.ntmps13
      go_wp2_with fail
      (with_reducible refine (known_any _ (HT.out.of (by (repeat' (first | (with_reducible exact Below.refl _ _) | (with_reducible exact Nat.le_refl _) | (with_reducible refine Below.bel ?_ ?_) | (with_reducible refine Below.alloc ?_ ?_ _) | (with_reducible refine Below.drew ?_) | (with_reducible refine Below.drawsN ?_ _) | (with_reducible refine Below.setCell ?_ ?_ _) | (with_reducible refine le_bel ?_) | (with_reducible refine le_alloc ?_) | (with_reducible refine le_setCell ?_) | (with_reducible refine le_drew ?_) | (with_reducible refine le_drawsN ?_) | (dsimp only; with_reducible refine le_bel ?_) | (dsimp only; with_reducible refine Nat.le_refl _) | (dsimp only; with_reducible refine le_bel_add ?_) | (with_reducible assumption) | omega | (dsimp only; omega)))))).mono ?_)
      rintro _ _ ⟨rfl, x1, rfl⟩
      go_wp2_with fail
      (with_reducible refine (right_any _ _ _).mono ?_)
      rintro _ _ ⟨rfl, x2, rfl⟩
      rw [R1.out]
      go_wp2_with fail
      (with_reducible refine (check_any _ _ _).mono ?_)
      rintro _ _ ⟨rfl, x3, rfl⟩
      rw [hk.out]
      go_wp2_with fail
      (with_reducible refine (right_any _ _ _).mono ?_)
      rintro _ _ ⟨rfl, x4, rfl⟩
      rw [R1.out]
      go_wp2_with fail
      (with_reducible refine (right_any _ _ _).mono ?_)
      rintro _ _ ⟨rfl, x5, rfl⟩
      rw [R2.out]
      go_wp2_with fail
      (with_reducible refine (add_no _ _ _ _ _ (.inr R2.out)).mono ?_)
      rintro _ _ ⟨rfl, y1, rfl⟩
      go_wp2_with fail
      (with_reducible refine (sub_no _ _ _ _ _ (.inr R2.out)).mono ?_)
      rintro _ _ ⟨rfl, y2, rfl⟩
      go_wp2_with fail
      (with_reducible refine (mul_no _ _ _ _ _ (.inr R2.out)).mono ?_)
      rintro _ _ ⟨rfl, y3, rfl⟩
      go_wp2_with fail
      (with_reducible refine (div_no _ _ _ _ _ (.inr R2.out)).mono ?_)
      rintro _ _ ⟨rfl, y4, rfl⟩
      go_wp2_with fail
      (with_reducible refine (compare_no _ _ _ _ _ (.inr R2.out)).mono ?_)
      rintro _ _ ⟨rfl, y5, rfl⟩
      go_wp2_with fail
      (with_reducible refine (simplestF_no _ _ _ _ _ (.inr R2.out)).mono ?_)
      rintro _ _ ⟨rfl, y6, rfl⟩
      go_wp2
      go_ret
      exact Ret.mk (by rfl) (by (repeat' (first | (with_reducible exact Below.refl _ _) | (with_reducible exact Nat.le_refl _) | (with_reducible refine Below.bel ?_ ?_) | (with_reducible refine Below.alloc ?_ ?_ _) | (with_reducible refine Below.drew ?_) | (with_reducible refine Below.drawsN ?_ _) | (with_reducible refine Below.setCell ?_ ?_ _) | (with_reducible refine le_bel ?_) | (with_reducible refine le_alloc ?_) | (with_reducible refine le_setCell ?_) | (with_reducible refine le_drew ?_) | (with_reducible refine le_drawsN ?_) | (dsimp only; with_reducible refine le_bel ?_) | (dsimp only; with_reducible refine Nat.le_refl _) | (dsimp only; with_reducible refine le_bel_add ?_) | (with_reducible assumption) | omega | (dsimp only; omega))))
  · have R1 := Lib.hid (Bool.eq_false_iff.2 h1)
    have hk := Lib.hid (chk_no R1.out)
    clear h1
    go_enter Tryd.func13, Tryd.ntmps13
    go_wp2_with fail
    (with_reducible refine (known_any _ (HT.out.of (by (repeat' (first | (with_reducible exact Below.refl _ _) | (with_reducible exact Nat.le_refl _) | (with_reducible refine Below.bel ?_ ?_) | (with_reducible refine Below.alloc ?_ ?_ _) | (with_reducible refine Below.drew ?_) | (with_reducible refine Below.drawsN ?_ _) | (with_reducible refine Below.setCell ?_ ?_ _) | (with_reducible refine le_bel ?_) | (with_reducible refine le_alloc ?_) | (with_reducible refine le_setCell ?_) | (with_reducible refine le_drew ?_) | (with_reducible refine le_drawsN ?_) | (dsimp only; with_reducible refine le_bel ?_) | (dsimp only; with_reducible refine Nat.le_refl _) | (dsimp only; with_reducible refine le_bel_add ?_) | (with_reducible assumption) | omega | (dsimp only; omega)))))).mono ?_)
    rintro _ _ ⟨rfl, x1, rfl⟩
    go_wp2_with fail
    (with_reducible refine (right_any _ _ _).mono ?_)
    rintro _ _ ⟨rfl, x2, rfl⟩
    rw [R1.out]
    go_wp2_with fail
    (with_reducible refine (check_any _ _ _).mono ?_)
    rintro _ _ ⟨rfl, x3, rfl⟩
    rw [hk.out]
    go_wp2_with fail
    (with_reducible refine (floorF_no _ _ _ R1.out).mono ?_)
    rintro _ _ ⟨rfl, z1, rfl⟩
    go_wp2_with fail
    (with_reducible refine (nearest_no _ _ _ R1.out).mono ?_)
    rintro _ _ ⟨rfl, z2, rfl⟩
    go_wp2_with fail
    (with_reducible refine (terms_no _ _ _ R1.out).mono ?_)
    rintro _ _ ⟨rfl, z3, rfl⟩
    go_wp2_with fail
    (with_reducible refine (text_no _ _ _ R1.out).mono ?_)
    rintro _ _ ⟨rfl, z4, rfl⟩
    go_wp2_with fail
    (with_reducible refine (sum_bad _ _ n d _ R1.out (by simp [go_sem]) (by simp [go_sem]) (by simp [go_sem]) (by simp [go_sem])).mono ?_)
    rintro _ _ ⟨rfl, z5, rfl⟩
    go_wp2_with fail
    (with_reducible refine (right_any _ _ _).mono ?_)
    rintro _ _ ⟨rfl, x4, rfl⟩
    rw [R1.out]
    go_wp2_with fail
    (with_reducible refine (add_no _ _ _ _ _ (.inl R1.out)).mono ?_)
    rintro _ _ ⟨rfl, y1, rfl⟩
    go_wp2_with fail
    (with_reducible refine (sub_no _ _ _ _ _ (.inl R1.out)).mono ?_)
    rintro _ _ ⟨rfl, y2, rfl⟩
    go_wp2_with fail
    (with_reducible refine (mul_no _ _ _ _ _ (.inl R1.out)).mono ?_)
    rintro _ _ ⟨rfl, y3, rfl⟩
    go_wp2_with fail
    (with_reducible refine (div_no _ _ _ _ _ (.inl R1.out)).mono ?_)
    rintro _ _ ⟨rfl, y4, rfl⟩
    go_wp2_with fail
    (with_reducible refine (compare_no _ _ _ _ _ (.inl R1.out)).mono ?_)
    rintro _ _ ⟨rfl, y5, rfl⟩
    go_wp2_with fail
    (with_reducible refine (simplestF_no _ _ _ _ _ (.inl R1.out)).mono ?_)
    rintro _ _ ⟨rfl, y6, rfl⟩
    go_wp2
    go_ret
    exact Ret.mk (by rfl) (by (repeat' (first | (with_reducible exact Below.refl _ _) | (with_reducible exact Nat.le_refl _) | (with_reducible refine Below.bel ?_ ?_) | (with_reducible refine Below.alloc ?_ ?_ _) | (with_reducible refine Below.drew ?_) | (with_reducible refine Below.drawsN ?_ _) | (with_reducible refine Below.setCell ?_ ?_ _) | (with_reducible refine le_bel ?_) | (with_reducible refine le_alloc ?_) | (with_reducible refine le_setCell ?_) | (with_reducible refine le_drew ?_) | (with_reducible refine le_drawsN ?_) | (dsimp only; with_reducible refine le_bel ?_) | (dsimp only; with_reducible refine Nat.le_refl _) | (dsimp only; with_reducible refine le_bel_add ?_) | (with_reducible assumption) | omega | (dsimp only; omega))))
end Go.Proofs.YtoncbkkhfblpdaaDoor
