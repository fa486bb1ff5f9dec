/- Nothing of G10 is needed at this seat. -/
import Derived.Test.YtkdmhjlcgpnjpaaGreatDoorG8
namespace Go.Proofs.YtkdmhjlcgpnjpaaGreatDoor
set_option linter.unusedVariables false
set_option linter.unusedSimpArgs false
end Go.Proofs.YtkdmhjlcgpnjpaaGreatDoor
