/- Mask, Cofactor, Depends of the reference. Count of the reference; least. grow of the reference. Build of the reference. Make: the diagram of a table. -/
import Derived.Laws.BitsAllLaws
import Derived.Test.YtkdmhjlcgpnjpaaGreatDoorXB
import Derived.Test.YtkdmhjlcgpnjpaaGreatDoorPl
import Derived.Test.YtkdmhjlcgpnjpaaGreatDoorXA
import Derived.Test.YtkdmhjlcgpnjpaaGreatDoorXF
import Derived.Lib.BufferWrite
namespace Go.Proofs.YtkdmhjlcgpnjpaaGreatDoor
set_option linter.unusedVariables false
set_option linter.unusedSimpArgs false
open Go.RowKit Go.Maps
attribute [local go_sem low] Bel.cell Bel.frozen alloc_cell alloc_frozen

end Go.Proofs.YtkdmhjlcgpnjpaaGreatDoor

namespace Go.Proofs.YtkdmhjlcgpnjpaaGreatDoor
set_option linter.unusedVariables false
set_option linter.unusedSimpArgs false
open Go.RowKit Go.Maps
attribute [local go_sem low] Bel.cell Bel.frozen alloc_cell alloc_frozen

end Go.Proofs.YtkdmhjlcgpnjpaaGreatDoor

namespace Go.Proofs.YtkdmhjlcgpnjpaaGreatDoor
set_option linter.unusedVariables false
set_option linter.unusedSimpArgs false
open Go.RowKit Go.Maps
attribute [local go_sem low] Bel.cell Bel.frozen alloc_cell alloc_frozen

theorem Tryz.infoU : (Tryz.prog.info? 36).map (fun i => (i.zero, i.size, i.bytes)) = some (some (.int .u64 0), 1, 8) := by kernel_rfl
end Go.Proofs.YtkdmhjlcgpnjpaaGreatDoor

namespace Go.Proofs.YtkdmhjlcgpnjpaaGreatDoor
set_option linter.unusedVariables false
set_option linter.unusedSimpArgs false
open Go.RowKit Go.Maps
attribute [local go_sem low] Bel.cell Bel.frozen alloc_cell alloc_frozen

end Go.Proofs.YtkdmhjlcgpnjpaaGreatDoor

namespace Go.Proofs.YtkdmhjlcgpnjpaaGreatDoor
set_option linter.unusedVariables false
set_option linter.unusedSimpArgs false
open Go.RowKit Go.Maps
attribute [local go_sem low] Bel.cell Bel.frozen alloc_cell alloc_frozen
attribute [local go_sem] calmOp chainOp yieldsC grows

end Go.Proofs.YtkdmhjlcgpnjpaaGreatDoor
