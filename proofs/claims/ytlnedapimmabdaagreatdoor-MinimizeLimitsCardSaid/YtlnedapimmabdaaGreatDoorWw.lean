/- The law's tables. -/
import Derived.Test.YtlnedapimmabdaaGreatDoorWv
namespace Go.Proofs.YtlnedapimmabdaaGreatDoor
set_option linter.unusedVariables false
set_option linter.unusedSimpArgs false
open Go.RowKit
attribute [local go_sem low] Bel.cell Bel.frozen alloc_cell alloc_frozen
attribute [local go_sem] calmOp chainOp yieldsC grows

end Go.Proofs.YtlnedapimmabdaaGreatDoor
