/- The reference: Occurs and Value; Support (Support_ok); bits of a list of booleans. -/
import Derived.Test.YtkdmhjlcgpnjpaaGreatDoorFz
import Derived.Test.YtkdmhjlcgpnjpaaGreatDoorFt
import Derived.Test.YtkdmhjlcgpnjpaaGreatDoorG10
import Derived.Test.YtkdmhjlcgpnjpaaGreatDoorS2
import Derived.Test.YtkdmhjlcgpnjpaaGreatDoorFm
namespace Go.Proofs.YtkdmhjlcgpnjpaaGreatDoor
set_option linter.unusedVariables false
set_option linter.unusedSimpArgs false
open Go.RowKit F
attribute [local go_sem low] Bel.cell Bel.frozen alloc_cell alloc_frozen

/-- The values of variables that a word's bits give. -/
def envB (bits : Nat) (a : Int) : Bool := decide (a < 64) && bits.testBit a.toNat
end Go.Proofs.YtkdmhjlcgpnjpaaGreatDoor

namespace Go.Proofs.YtkdmhjlcgpnjpaaGreatDoor
set_option linter.unusedVariables false
set_option linter.unusedSimpArgs false
open Go.RowKit F
attribute [local go_sem low] Bel.cell Bel.frozen alloc_cell alloc_frozen

end Go.Proofs.YtkdmhjlcgpnjpaaGreatDoor
