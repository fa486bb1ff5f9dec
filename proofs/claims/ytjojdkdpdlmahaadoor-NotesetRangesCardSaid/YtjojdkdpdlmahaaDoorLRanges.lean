/- The walk of NotesetRanges. -/
import Derived.Test.YtjojdkdpdlmahaaDoorK
namespace Go.Proofs.YtjojdkdpdlmahaaDoor
open Go.RowKit
attribute [local go_sem low] Bel.cell Bel.frozen alloc_cell alloc_frozen
attribute [local go_sem] setV

theorem cmpE_zero {l h : Int} (e : cmpE l h = 0) : 0 ≤ l ∧ l ≤ h ∧ h ≤ 127 := by
  unfold cmpE at e
  split at e
  · cases e
  · split at e
    · cases e
    · omega
set_option maxHeartbeats 1600000 in
theorem lawRanges_any (l h : Int) (w : World) (hL : Lib3 w) : Calls Tryd.prog 8 #[.agg #[.int .i64 l, .int .i64 h]] w (Ret (.bool true) w) := by
  have HL := Lib.hid hL
  clear hL
  by_cases h0 : cmpE l h = 0
  · obtain ⟨b1, b2, b3⟩ := cmpE_zero h0
    obtain ⟨l, rfl⟩ := Int.eq_ofNat_of_zero_le b1
    obtain ⟨h, rfl⟩ := Int.eq_ofNat_of_zero_le (show 0 ≤ h by omega)
    have H0 := Lib.hid h0
    have c1 : l ≤ h := by omega
    have c2 : h ≤ 127 := by omega
    clear h0 b1 b2 b3
    go_enter Tryd.func8, Tryd.ntmps8
    go_wp2_with fail
    (with_reducible refine (known_any _ (HL.out.of (by (repeat' (first | (with_reducible exact Below.refl _ _) | (with_reducible exact Nat.le_refl _) | (with_reducible refine Below.bel ?_ ?_) | (with_reducible refine Below.alloc ?_ ?_ _) | (with_reducible refine Below.drew ?_) | (with_reducible refine Below.drawsN ?_ _) | (with_reducible refine Below.setCell ?_ ?_ _) | (with_reducible refine le_bel ?_) | (with_reducible refine le_alloc ?_) | (with_reducible refine le_setCell ?_) | (with_reducible refine le_drew ?_) | (with_reducible refine le_drawsN ?_) | (dsimp only; with_reducible refine le_bel ?_) | (dsimp only; with_reducible refine Nat.le_refl _) | (dsimp only; with_reducible refine le_bel_add ?_) | (with_reducible assumption) | omega | (dsimp only; omega)))))).mono ?_)
    rintro _ _ ⟨rfl, x, rfl⟩
    go_wp2_with fail
    (with_reducible refine (refright_any _ _ _).mono ?_)
    rintro _ _ ⟨rfl, y, rfl⟩
    rw [H0.out]
    go_wp2_with fail
    (with_reducible refine (range_ok _ _ _ c1 c2).mono ?_)
    rintro _ _ ⟨rfl, z, rfl⟩
    go_wp2_with fail
    (with_reducible refine (check_any _ _ _).mono ?_)
    rintro _ _ ⟨rfl, v, rfl⟩
    rw [H0.out]
    go_wp2_with fail
    refine wp_region_bel (by kernel_rfl) (by kernel_rfl) ?_
    repeat (go_big_quiet_step ((go_at_call 32; exact bel_of (refrange_any _ _ _ c1 c2))))
    refine wpQuiet_nil ?_
    rintro _ ⟨u, rfl⟩
    go_wp2
    go_ret
    exact Ret.mk (by simp) (by (repeat' (first | (with_reducible exact Below.refl _ _) | (with_reducible exact Nat.le_refl _) | (with_reducible refine Below.bel ?_ ?_) | (with_reducible refine Below.alloc ?_ ?_ _) | (with_reducible refine Below.drew ?_) | (with_reducible refine Below.drawsN ?_ _) | (with_reducible refine Below.setCell ?_ ?_ _) | (with_reducible refine le_bel ?_) | (with_reducible refine le_alloc ?_) | (with_reducible refine le_setCell ?_) | (with_reducible refine le_drew ?_) | (with_reducible refine le_drawsN ?_) | (dsimp only; with_reducible refine le_bel ?_) | (dsimp only; with_reducible refine Nat.le_refl _) | (dsimp only; with_reducible refine le_bel_add ?_) | (with_reducible assumption) | omega | (dsimp only; omega))))
  · have he : (cmpE l h != 0) = true := by simpa using h0
    have H0 := Lib.hid h0
    clear h0
    go_enter Tryd.func8, Tryd.ntmps8
    go_wp2_with fail
    (with_reducible refine (known_any _ (HL.out.of (by (repeat' (first | (with_reducible exact Below.refl _ _) | (with_reducible exact Nat.le_refl _) | (with_reducible refine Below.bel ?_ ?_) | (with_reducible refine Below.alloc ?_ ?_ _) | (with_reducible refine Below.drew ?_) | (with_reducible refine Below.drawsN ?_ _) | (with_reducible refine Below.setCell ?_ ?_ _) | (with_reducible refine le_bel ?_) | (with_reducible refine le_alloc ?_) | (with_reducible refine le_setCell ?_) | (with_reducible refine le_drew ?_) | (with_reducible refine le_drawsN ?_) | (dsimp only; with_reducible refine le_bel ?_) | (dsimp only; with_reducible refine Nat.le_refl _) | (dsimp only; with_reducible refine le_bel_add ?_) | (with_reducible assumption) | omega | (dsimp only; omega)))))).mono ?_)
    rintro _ _ ⟨rfl, x, rfl⟩
    go_wp2_with fail
    (with_reducible refine (refright_any _ _ _).mono ?_)
    rintro _ _ ⟨rfl, y, rfl⟩
    go_wp2_with fail
    (with_reducible refine (range_no _ _ _ H0.out).mono ?_)
    rintro _ _ ⟨rfl, z, rfl⟩
    go_wp2_with fail
    (with_reducible refine (check_any _ _ _).mono ?_)
    rintro _ _ ⟨rfl, v, rfl⟩
    generalize cmpE l h = c at *
    go_wp2
    go_ret
    exact Ret.mk (by rfl) (by (repeat' (first | (with_reducible exact Below.refl _ _) | (with_reducible exact Nat.le_refl _) | (with_reducible refine Below.bel ?_ ?_) | (with_reducible refine Below.alloc ?_ ?_ _) | (with_reducible refine Below.drew ?_) | (with_reducible refine Below.drawsN ?_ _) | (with_reducible refine Below.setCell ?_ ?_ _) | (with_reducible refine le_bel ?_) | (with_reducible refine le_alloc ?_) | (with_reducible refine le_setCell ?_) | (with_reducible refine le_drew ?_) | (with_reducible refine le_drawsN ?_) | (dsimp only; with_reducible refine le_bel ?_) | (dsimp only; with_reducible refine Nat.le_refl _) | (dsimp only; with_reducible refine le_bel_add ?_) | (with_reducible assumption) | omega | (dsimp only; omega))))
end Go.Proofs.YtjojdkdpdlmahaaDoor
