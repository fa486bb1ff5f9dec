/- The law's needed. -/
import Derived.Test.YtlnedapimmabdaaGreatDoorW5
namespace Go.Proofs.YtlnedapimmabdaaGreatDoor
set_option linter.unusedVariables false
set_option linter.unusedSimpArgs false
open Go.RowKit
attribute [local go_sem low] Bel.cell Bel.frozen alloc_cell alloc_frozen
attribute [local go_sem] calmOp chainOp yieldsC grows

theorem packF_le (on : Nat → Bool) : ∀ (G : List Gt) (s : List Gt × List Nat), (packF on G s).1.length ≤ s.1.length + G.length
  | [], s => Nat.le_refl _
  | g :: r, s => by
    rw [packF, List.length_cons]
    refine Nat.le_trans (packF_le on r _) ?_
    split <;> simp <;> omega
end Go.Proofs.YtlnedapimmabdaaGreatDoor
