/- The worked example that each statement asks first. -/
import Derived.Test.YtjojdkdpdlmahaaDoorE2
namespace Go.Proofs.YtjojdkdpdlmahaaDoor
open Go.RowKit
attribute [local go_sem low] Bel.cell Bel.frozen alloc_cell alloc_frozen

/-- What the library's variables hold. -/
structure Lib3 (w : World) : Prop where
  tab : Tab w
  tz : Tz w
  errs : Errs w
theorem Lib3.of {w w' : World} (h : Lib3 w) (hb : Below w.heap.size w w') : Lib3 w' := ⟨h.tab.of hb, h.tz.of h.tz.lt hb, h.errs.of hb⟩
theorem known_of : ofV [60, 64, 67] = .tuple #[.agg #[.int .u64 ((1152921504606846976 : Nat) : Int), .int .u64 ((9 : Nat) : Int)], .int .i64 0] := by kernel_rfl
theorem known_note : noteV [71, 57] = .tuple #[.int .i64 127, .int .i64 0] := by kernel_rfl
theorem known_text : textF 1152921504606846976 9 = [67, 52, 32, 69, 52, 32, 71, 52] := by decide +kernel
theorem known_count : ((popc 1152921504606846976 : Nat) : Int) + ((popc 9 : Nat) : Int) = 3 := by decide +kernel

theorem three_new (w : World) : IntsAt (w.alloc (.cells #[.int .i64 60, .int .i64 64, .int .i64 67] 3)) w.heap.size 0 [60, 64, 67] := fun i z h => by
  rcases i with _ | _ | _ | i <;> simp at h <;> subst h <;> simp [go_sem]
theorem of_three (w : World) (b : Nat) (h : IntsAt w b 0 [60, 64, 67]) : Calls Tryd.prog 18 #[.slice (some ⟨b, 0, none⟩) 3 3] w (Ret (.tuple #[.agg #[.int .u64 1152921504606846976, .int .u64 9], .int .i64 0]) w) := by
  have := of_any b 0 3 [60, 64, 67] w h (by decide)
  rw [known_of] at this
  exact this
theorem note_g9 (w : World) (hL : Lib3 w) : Calls Tryd.prog 15 #[.string ⟨#[71, 57]⟩] w (Ret (.tuple #[.int .i64 127, .int .i64 0]) w) := by
  have := note_any [71, 57] w (ix_ascii _ (by decide) (by decide)) (by decide) hL.tab hL.errs
  rw [known_note] at this
  exact this
theorem text_known (w : World) (hL : Lib3 w) : Calls Tryd.prog 38 #[.agg #[.int .u64 1152921504606846976, .int .u64 9]] w (Ret (.string ⟨#[67, 52, 32, 69, 52, 32, 71, 52]⟩) w) := by
  have := text_any 1152921504606846976 9 w (by decide) (by decide) hL.tz hL.tab
  rw [known_text] at this
  exact this
theorem count_known (w : World) : Calls Tryd.prog 24 #[.agg #[.int .u64 1152921504606846976, .int .u64 9]] w (Ret (.int .i64 3) w) := by
  have := count_any 1152921504606846976 9 w (by decide) (by decide)
  rw [known_count] at this
  exact this
set_option maxRecDepth 100000 in
set_option maxHeartbeats 1600000 in
theorem known_any (w : World) (hL : Lib3 w) : Calls Tryd.prog 13 #[] w (Ret (.bool true) w) := by
  have HL := Lib.hid hL
  clear hL
  go_enter Tryd.func13, Tryd.ntmps13
  go_wp2_with fail
  (with_reducible refine (of_three _ _ (three_new w)).mono ?_)
  rintro _ _ ⟨rfl, x, rfl⟩
  have hxs := x.size_le
  simp at hxs
  go_wp2_with fail
  (with_reducible refine (note_g9 _ (HL.out.of (by (repeat' (first | (with_reducible exact Below.refl _ _) | (with_reducible exact Nat.le_refl _) | (with_reducible refine Below.bel ?_ ?_) | (with_reducible refine Below.alloc ?_ ?_ _) | (with_reducible refine Below.drew ?_) | (with_reducible refine Below.drawsN ?_ _) | (with_reducible refine Below.setCell ?_ ?_ _) | (with_reducible refine le_bel ?_) | (with_reducible refine le_alloc ?_) | (with_reducible refine le_setCell ?_) | (with_reducible refine le_drew ?_) | (with_reducible refine le_drawsN ?_) | (dsimp only; with_reducible refine le_bel ?_) | (dsimp only; with_reducible refine Nat.le_refl _) | (dsimp only; with_reducible refine le_bel_add ?_) | (with_reducible assumption) | omega | (dsimp only; omega)))))).mono ?_)
  rintro _ _ ⟨rfl, y, rfl⟩
  go_wp2_with fail
  (with_reducible refine (text_known _ (HL.out.of (by (repeat' (first | (with_reducible exact Below.refl _ _) | (with_reducible exact Nat.le_refl _) | (with_reducible refine Below.bel ?_ ?_) | (with_reducible refine Below.alloc ?_ ?_ _) | (with_reducible refine Below.drew ?_) | (with_reducible refine Below.drawsN ?_ _) | (with_reducible refine Below.setCell ?_ ?_ _) | (with_reducible refine le_bel ?_) | (with_reducible refine le_alloc ?_) | (with_reducible refine le_setCell ?_) | (with_reducible refine le_drew ?_) | (with_reducible refine le_drawsN ?_) | (dsimp only; with_reducible refine le_bel ?_) | (dsimp only; with_reducible refine Nat.le_refl _) | (dsimp only; with_reducible refine le_bel_add ?_) | (with_reducible assumption) | omega | (dsimp only; omega)))))).mono ?_)
  rintro _ _ ⟨rfl, z, rfl⟩
  go_wp2_with fail
  (with_reducible refine (count_known _).mono ?_)
  rintro _ _ ⟨rfl, v, rfl⟩
  go_wp2
  go_ret
  exact Ret.mk (by rfl) (by (repeat' (first | (with_reducible exact Below.refl _ _) | (with_reducible exact Nat.le_refl _) | (with_reducible refine Below.bel ?_ ?_) | (with_reducible refine Below.alloc ?_ ?_ _) | (with_reducible refine Below.drew ?_) | (with_reducible refine Below.drawsN ?_ _) | (with_reducible refine Below.setCell ?_ ?_ _) | (with_reducible refine le_bel ?_) | (with_reducible refine le_alloc ?_) | (with_reducible refine le_setCell ?_) | (with_reducible refine le_drew ?_) | (with_reducible refine le_drawsN ?_) | (dsimp only; with_reducible refine le_bel ?_) | (dsimp only; with_reducible refine Nat.le_refl _) | (dsimp only; with_reducible refine le_bel_add ?_) | (with_reducible assumption) | omega | (dsimp only; omega))))
end Go.Proofs.YtjojdkdpdlmahaaDoor
