/- The law's reduce. -/
import Derived.Test.YtlnedapimmabdaaGreatDoorWw
namespace Go.Proofs.YtlnedapimmabdaaGreatDoor
set_option linter.unusedVariables false
set_option linter.unusedSimpArgs false
open Go.RowKit
attribute [local go_sem low] Bel.cell Bel.frozen alloc_cell alloc_frozen
attribute [local go_sem] calmOp chainOp yieldsC grows

theorem pad_last {num : List Nat} {n x : Nat} (y : Nat) (hn : num.length < n) : ((num ++ [x]) ++ List.replicate (n - (num ++ [x]).length) 0).set num.length y = (num ++ [y]) ++ List.replicate (n - (num ++ [y]).length) 0 := by
  rw [List.append_assoc, List.set_append_right _ _ (Nat.le_refl _), Nat.sub_self, List.append_assoc]
  simp
theorem ToS.last {W : World} {lo T c n x : Nat} {num : List Nat} (h : ToS W lo T c n (num ++ [x])) (y : Nat) : ToS (W.setCell ⟨T, num.length, none⟩ (.int .i64 (y : Int))) lo T c n (num ++ [y]) := by
  have hn : num.length < n := by have := h.2; rw [List.length_append, List.length_singleton] at this; omega
  refine ⟨?_, by rw [List.length_append, List.length_singleton]; omega⟩
  have hl : ((num ++ [x]) ++ List.replicate (n - (num ++ [x]).length) 0).length = n := by
    rw [List.length_append, List.length_replicate]
    have := h.2
    omega
  have h1 : W.ownsRow lo 3 1 (.slice (some ⟨T, 0, none⟩) n c) n (natsV ((num ++ [x]) ++ List.replicate (n - (num ++ [x]).length) 0)) := by have := h.1; unfold OwnN at this; rwa [hl] at this
  have h2 := (World.ownsRow.stored h1 num.length (.int .i64 (y : Int))).1
  unfold OwnN
  rw [← pad_last y hn, List.length_set, hl]
  unfold natsV at h2 ⊢
  rw [List.map_set]
  exact h2
theorem fst1_snoc (t : List Nat) (i : Nat) : (List.range (i + 1)).map (fst1 t) = (List.range i).map (fst1 t) ++ [fst1 t i] := by rw [List.range_succ, List.map_append]; rfl
end Go.Proofs.YtlnedapimmabdaaGreatDoor
