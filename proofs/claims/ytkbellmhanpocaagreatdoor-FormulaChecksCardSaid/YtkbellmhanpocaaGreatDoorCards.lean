/-
  DERIVED. GIVEN WITH THE SEED: THE CARDS: each row of YtkbellmhanpocaaGreatDoorRows.lean that lists a variable, with what it lists TIED to the program's text (the seventh form; the later family's looks); each row that meets fmt, with fmt's text TOLD by the authors' own Lean function (tested against real Go, not proved from fmt's source: count such statements apart). THE CARD IS WHAT COUNTS. Prove the row's statement (the work); the ties are given (YtkbellmhanpocaaGreatDoorTie.lean); close each card by the builder's one call (the guide's Derived/Test/ToyasCard.lean, 'card_holds'). Laid BY PROGRAM, IN A SANDBOX (cutbox-door.mjs). By AI agents, Wed Nov 11 2026. No macro, syntax, notation, axiom, sorry.
-/
import Derived.Test.YtkbellmhanpocaaGreatDoorRows
import GoSem.ClaimSeven
namespace Go.Proofs.YtkbellmhanpocaaGreatDoor
namespace Rows

/-- THE TIED CARD OF 'bombardelaw04.FormulaPuts'. -/
def formulaPutsCard : Claim7 := { stood := { row := formulaPutsRow, standIns := [], harness := (true, "6b8d6e2d5a09d1b70caa198202e95f9d07e702fcf4a6d3e695244a46d300dc39"), looks := true }, kinds := [], alts := [], laidByText := true, laidKinds := [.data, .data, .data, .sentinel, .sentinel], laidTests := true, laidLooks := .later }
def FormulaPutsCardSaid : Prop := Claim7.holds Tryz.pinned (.plain (OpenSpec.ofChange formulaPutsSpec)) formulaPutsCard

/-- THE TIED CARD OF 'bombardelaw04.FormulaChecks'. -/
def formulaChecksCard : Claim7 := { stood := { row := formulaChecksRow, standIns := [], harness := (true, "6b8d6e2d5a09d1b70caa198202e95f9d07e702fcf4a6d3e695244a46d300dc39"), looks := true }, kinds := [], alts := [], laidByText := true, laidKinds := [.data, .data, .data, .sentinel, .sentinel], laidTests := true, laidLooks := .later }
def FormulaChecksCardSaid : Prop := Claim7.holds Tryz.pinned (.plain (OpenSpec.ofChange formulaChecksSpec)) formulaChecksCard

/-- THE SECOND FORM's CARD OF 'bombardelaw04.FormulaPuts'. -/
def formulaPutsUptoCard : Claim7 := { stood := { row := formulaPutsUptoRow, standIns := [], harness := (true, "6b8d6e2d5a09d1b70caa198202e95f9d07e702fcf4a6d3e695244a46d300dc39"), looks := true }, kinds := [], alts := [], laidByText := true, laidKinds := [.data, .data, .data, .sentinel, .sentinel], laidTests := true, laidLooks := .later }
def FormulaPutsUptoCardSaid : Prop := Claim7.holds Tryz.pinned (.plain (OpenSpec.upto formulaPutsSpec)) formulaPutsUptoCard

/-- THE SECOND FORM's CARD OF 'bombardelaw04.FormulaChecks'. -/
def formulaChecksUptoCard : Claim7 := { stood := { row := formulaChecksUptoRow, standIns := [], harness := (true, "6b8d6e2d5a09d1b70caa198202e95f9d07e702fcf4a6d3e695244a46d300dc39"), looks := true }, kinds := [], alts := [], laidByText := true, laidKinds := [.data, .data, .data, .sentinel, .sentinel], laidTests := true, laidLooks := .later }
def FormulaChecksUptoCardSaid : Prop := Claim7.holds Tryz.pinned (.plain (OpenSpec.upto formulaChecksSpec)) formulaChecksUptoCard
end Rows
end Go.Proofs.YtkbellmhanpocaaGreatDoor
