/-
  DERIVED. GIVEN WITH THE SEED: THE CARDS: each row of YtkbellmhanpocaaDoorRows.lean that lists a variable, with what it lists TIED to the program's text (the seventh form; the later family's looks); each row that meets fmt, with fmt's text TOLD by the authors' own Lean function (tested against real Go, not proved from fmt's source: count such statements apart). THE CARD IS WHAT COUNTS. Prove the row's statement (the work); the ties are given (YtkbellmhanpocaaDoorTie.lean); close each card by the builder's one call (the guide's Derived/Test/ToyasCard.lean, 'card_holds'). Laid BY PROGRAM, IN A SANDBOX (cutbox-door.mjs). By AI agents, Wed Nov 11 2026. No macro, syntax, notation, axiom, sorry.
-/
import Derived.Test.YtkbellmhanpocaaDoorRows
import GoSem.ClaimSeven
namespace Go.Proofs.YtkbellmhanpocaaDoor
namespace Rows

/-- THE TIED CARD OF 'bombardelaw04.FormulaLimits'. -/
def formulaLimitsCard : Claim7 := { stood := { row := formulaLimitsRow, standIns := [], harness := (true, "ec2435d6e193cb2fb532311dfb5514e3c2477a620c5a436827078f9dfdb85c35"), looks := true }, kinds := [], alts := [], laidByText := true, laidKinds := [.data, .data, .data, .sentinel, .sentinel], laidTests := true, laidLooks := .later }
def FormulaLimitsCardSaid : Prop := Claim7.holds Tryd.pinned (.plain (OpenSpec.ofChange formulaLimitsSpec)) formulaLimitsCard

/-- THE TIED CARD OF 'bombardelaw04.FormulaNormals'. -/
def formulaNormalsCard : Claim7 := { stood := { row := formulaNormalsRow, standIns := [], harness := (true, "ec2435d6e193cb2fb532311dfb5514e3c2477a620c5a436827078f9dfdb85c35"), looks := true }, kinds := [], alts := [], laidByText := true, laidKinds := [.data, .data, .data, .sentinel, .sentinel], laidTests := true, laidLooks := .later }
def FormulaNormalsCardSaid : Prop := Claim7.holds Tryd.pinned (.plain (OpenSpec.ofChange formulaNormalsSpec)) formulaNormalsCard

/-- THE TIED CARD OF 'bombardelaw04.FormulaSimplifies'. -/
def formulaSimplifiesCard : Claim7 := { stood := { row := formulaSimplifiesRow, standIns := [], harness := (true, "ec2435d6e193cb2fb532311dfb5514e3c2477a620c5a436827078f9dfdb85c35"), looks := true }, kinds := [], alts := [], laidByText := true, laidKinds := [.data, .data, .data, .sentinel, .sentinel], laidTests := true, laidLooks := .later }
def FormulaSimplifiesCardSaid : Prop := Claim7.holds Tryd.pinned (.plain (OpenSpec.ofChange formulaSimplifiesSpec)) formulaSimplifiesCard

/-- THE TIED CARD OF 'bombardelaw04.FormulaTexts'. -/
def formulaTextsCard : Claim7 := { stood := { row := formulaTextsRow, standIns := [], harness := (true, "ec2435d6e193cb2fb532311dfb5514e3c2477a620c5a436827078f9dfdb85c35"), looks := true }, kinds := [], alts := [], laidByText := true, laidKinds := [.data, .data, .data, .sentinel, .sentinel], laidTests := true, laidLooks := .later }
def FormulaTextsCardSaid : Prop := Claim7.holds Tryd.pinned (.plain (OpenSpec.ofChange formulaTextsSpec)) formulaTextsCard

/-- THE TIED CARD OF 'bombardelaw04.FormulaValues'. -/
def formulaValuesCard : Claim7 := { stood := { row := formulaValuesRow, standIns := [], harness := (true, "ec2435d6e193cb2fb532311dfb5514e3c2477a620c5a436827078f9dfdb85c35"), looks := true }, kinds := [], alts := [], laidByText := true, laidKinds := [.data, .data, .data, .sentinel, .sentinel], laidTests := true, laidLooks := .later }
def FormulaValuesCardSaid : Prop := Claim7.holds Tryd.pinned (.plain (OpenSpec.ofChange formulaValuesSpec)) formulaValuesCard

/-- THE TIED CARD OF 'bombardelaw04.FormulaEquivalent'. -/
def formulaEquivalentCard : Claim7 := { stood := { row := formulaEquivalentRow, standIns := [], harness := (true, "ec2435d6e193cb2fb532311dfb5514e3c2477a620c5a436827078f9dfdb85c35"), looks := true }, kinds := [], alts := [], laidByText := true, laidKinds := [.data, .data, .data, .sentinel, .sentinel], laidTests := true, laidLooks := .later }
def FormulaEquivalentCardSaid : Prop := Claim7.holds Tryd.pinned (.plain (OpenSpec.ofChange formulaEquivalentSpec)) formulaEquivalentCard

/-- THE TIED CARD OF 'bombardelaw04.FormulaForms'. -/
def formulaFormsCard : Claim7 := { stood := { row := formulaFormsRow, standIns := [], harness := (true, "ec2435d6e193cb2fb532311dfb5514e3c2477a620c5a436827078f9dfdb85c35"), looks := true }, kinds := [], alts := [], laidByText := true, laidKinds := [.data, .data, .data, .sentinel, .sentinel], laidTests := true, laidLooks := .later }
def FormulaFormsCardSaid : Prop := Claim7.holds Tryd.pinned (.plain (OpenSpec.ofChange formulaFormsSpec)) formulaFormsCard

/-- THE TIED CARD OF 'bombardelaw04.FormulaSplits'. -/
def formulaSplitsCard : Claim7 := { stood := { row := formulaSplitsRow, standIns := [], harness := (true, "ec2435d6e193cb2fb532311dfb5514e3c2477a620c5a436827078f9dfdb85c35"), looks := true }, kinds := [], alts := [], laidByText := true, laidKinds := [.data, .data, .data, .sentinel, .sentinel], laidTests := true, laidLooks := .later }
def FormulaSplitsCardSaid : Prop := Claim7.holds Tryd.pinned (.plain (OpenSpec.ofChange formulaSplitsSpec)) formulaSplitsCard

/-- THE SECOND FORM's CARD OF 'bombardelaw04.FormulaLimits'. -/
def formulaLimitsUptoCard : Claim7 := { stood := { row := formulaLimitsUptoRow, standIns := [], harness := (true, "ec2435d6e193cb2fb532311dfb5514e3c2477a620c5a436827078f9dfdb85c35"), looks := true }, kinds := [], alts := [], laidByText := true, laidKinds := [.data, .data, .data, .sentinel, .sentinel], laidTests := true, laidLooks := .later }
def FormulaLimitsUptoCardSaid : Prop := Claim7.holds Tryd.pinned (.plain (OpenSpec.upto formulaLimitsSpec)) formulaLimitsUptoCard

/-- THE SECOND FORM's CARD OF 'bombardelaw04.FormulaNormals'. -/
def formulaNormalsUptoCard : Claim7 := { stood := { row := formulaNormalsUptoRow, standIns := [], harness := (true, "ec2435d6e193cb2fb532311dfb5514e3c2477a620c5a436827078f9dfdb85c35"), looks := true }, kinds := [], alts := [], laidByText := true, laidKinds := [.data, .data, .data, .sentinel, .sentinel], laidTests := true, laidLooks := .later }
def FormulaNormalsUptoCardSaid : Prop := Claim7.holds Tryd.pinned (.plain (OpenSpec.upto formulaNormalsSpec)) formulaNormalsUptoCard

/-- THE SECOND FORM's CARD OF 'bombardelaw04.FormulaSimplifies'. -/
def formulaSimplifiesUptoCard : Claim7 := { stood := { row := formulaSimplifiesUptoRow, standIns := [], harness := (true, "ec2435d6e193cb2fb532311dfb5514e3c2477a620c5a436827078f9dfdb85c35"), looks := true }, kinds := [], alts := [], laidByText := true, laidKinds := [.data, .data, .data, .sentinel, .sentinel], laidTests := true, laidLooks := .later }
def FormulaSimplifiesUptoCardSaid : Prop := Claim7.holds Tryd.pinned (.plain (OpenSpec.upto formulaSimplifiesSpec)) formulaSimplifiesUptoCard

/-- THE SECOND FORM's CARD OF 'bombardelaw04.FormulaTexts'. -/
def formulaTextsUptoCard : Claim7 := { stood := { row := formulaTextsUptoRow, standIns := [], harness := (true, "ec2435d6e193cb2fb532311dfb5514e3c2477a620c5a436827078f9dfdb85c35"), looks := true }, kinds := [], alts := [], laidByText := true, laidKinds := [.data, .data, .data, .sentinel, .sentinel], laidTests := true, laidLooks := .later }
def FormulaTextsUptoCardSaid : Prop := Claim7.holds Tryd.pinned (.plain (OpenSpec.upto formulaTextsSpec)) formulaTextsUptoCard

/-- THE SECOND FORM's CARD OF 'bombardelaw04.FormulaValues'. -/
def formulaValuesUptoCard : Claim7 := { stood := { row := formulaValuesUptoRow, standIns := [], harness := (true, "ec2435d6e193cb2fb532311dfb5514e3c2477a620c5a436827078f9dfdb85c35"), looks := true }, kinds := [], alts := [], laidByText := true, laidKinds := [.data, .data, .data, .sentinel, .sentinel], laidTests := true, laidLooks := .later }
def FormulaValuesUptoCardSaid : Prop := Claim7.holds Tryd.pinned (.plain (OpenSpec.upto formulaValuesSpec)) formulaValuesUptoCard

/-- THE SECOND FORM's CARD OF 'bombardelaw04.FormulaEquivalent'. -/
def formulaEquivalentUptoCard : Claim7 := { stood := { row := formulaEquivalentUptoRow, standIns := [], harness := (true, "ec2435d6e193cb2fb532311dfb5514e3c2477a620c5a436827078f9dfdb85c35"), looks := true }, kinds := [], alts := [], laidByText := true, laidKinds := [.data, .data, .data, .sentinel, .sentinel], laidTests := true, laidLooks := .later }
def FormulaEquivalentUptoCardSaid : Prop := Claim7.holds Tryd.pinned (.plain (OpenSpec.upto formulaEquivalentSpec)) formulaEquivalentUptoCard

/-- THE SECOND FORM's CARD OF 'bombardelaw04.FormulaForms'. -/
def formulaFormsUptoCard : Claim7 := { stood := { row := formulaFormsUptoRow, standIns := [], harness := (true, "ec2435d6e193cb2fb532311dfb5514e3c2477a620c5a436827078f9dfdb85c35"), looks := true }, kinds := [], alts := [], laidByText := true, laidKinds := [.data, .data, .data, .sentinel, .sentinel], laidTests := true, laidLooks := .later }
def FormulaFormsUptoCardSaid : Prop := Claim7.holds Tryd.pinned (.plain (OpenSpec.upto formulaFormsSpec)) formulaFormsUptoCard

/-- THE SECOND FORM's CARD OF 'bombardelaw04.FormulaSplits'. -/
def formulaSplitsUptoCard : Claim7 := { stood := { row := formulaSplitsUptoRow, standIns := [], harness := (true, "ec2435d6e193cb2fb532311dfb5514e3c2477a620c5a436827078f9dfdb85c35"), looks := true }, kinds := [], alts := [], laidByText := true, laidKinds := [.data, .data, .data, .sentinel, .sentinel], laidTests := true, laidLooks := .later }
def FormulaSplitsUptoCardSaid : Prop := Claim7.holds Tryd.pinned (.plain (OpenSpec.upto formulaSplitsSpec)) formulaSplitsUptoCard
end Rows
end Go.Proofs.YtkbellmhanpocaaDoor
