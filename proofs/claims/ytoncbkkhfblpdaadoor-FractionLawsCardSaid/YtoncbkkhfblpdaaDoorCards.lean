/-
  DERIVED. GIVEN WITH THE SEED: THE CARDS: each row of YtoncbkkhfblpdaaDoorRows.lean that lists a variable, with what it lists TIED to the program's text (the seventh form; the later family's looks); each row that meets fmt, with fmt's text TOLD by the authors' own Lean function (tested against real Go, not proved from fmt's source: count such statements apart). THE CARD IS WHAT COUNTS. Prove the row's statement (the work); the ties are given (YtoncbkkhfblpdaaDoorTie.lean); close each card by the builder's one call (the guide's Derived/Test/ToyasCard.lean, 'card_holds'). Laid BY PROGRAM, IN A SANDBOX (cutbox-door.mjs). By AI agents, Wed Nov 11 2026. No macro, syntax, notation, axiom, sorry.
-/
import Derived.Test.YtoncbkkhfblpdaaDoorRows
import GoSem.ClaimSeven
namespace Go.Proofs.YtoncbkkhfblpdaaDoor
namespace Rows

/-- THE TIED CARD OF 'bombardelaw02.FractionMakes'. -/
def fractionMakesCard : Claim7 := { stood := { row := fractionMakesRow, standIns := [], harness := (true, "6bfe3b23621fb08b92d6782748d807dfae2b3a74f06aa502c3cdbe3c7520a139"), looks := false }, kinds := [], alts := [], laidByText := true, laidKinds := [.data, .data, .data], laidTests := true, laidLooks := .later }
def FractionMakesCardSaid : Prop := Claim7.holds Tryd.pinned (.plain (OpenSpec.ofChange fractionMakesSpec)) fractionMakesCard

/-- THE TIED CARD OF 'bombardelaw02.FractionSums'. -/
def fractionSumsCard : Claim7 := { stood := { row := fractionSumsRow, standIns := [], harness := (true, "6bfe3b23621fb08b92d6782748d807dfae2b3a74f06aa502c3cdbe3c7520a139"), looks := false }, kinds := [], alts := [], laidByText := true, laidKinds := [.data, .data, .data], laidTests := true, laidLooks := .later }
def FractionSumsCardSaid : Prop := Claim7.holds Tryd.pinned (.plain (OpenSpec.ofChange fractionSumsSpec)) fractionSumsCard

/-- THE TIED CARD OF 'bombardelaw02.FractionValues'. -/
def fractionValuesCard : Claim7 := { stood := { row := fractionValuesRow, standIns := [], harness := (true, "6bfe3b23621fb08b92d6782748d807dfae2b3a74f06aa502c3cdbe3c7520a139"), looks := false }, kinds := [], alts := [], laidByText := true, laidKinds := [.data, .data, .data], laidTests := true, laidLooks := .later }
def FractionValuesCardSaid : Prop := Claim7.holds Tryd.pinned (.plain (OpenSpec.ofChange fractionValuesSpec)) fractionValuesCard

/-- THE TIED CARD OF 'bombardelaw02.FractionLists'. -/
def fractionListsCard : Claim7 := { stood := { row := fractionListsRow, standIns := [], harness := (true, "6bfe3b23621fb08b92d6782748d807dfae2b3a74f06aa502c3cdbe3c7520a139"), looks := false }, kinds := [], alts := [], laidByText := true, laidKinds := [.data, .data, .data], laidTests := true, laidLooks := .later }
def FractionListsCardSaid : Prop := Claim7.holds Tryd.pinned (.plain (OpenSpec.ofChange fractionListsSpec)) fractionListsCard

/-- THE TIED CARD OF 'bombardelaw02.FractionTexts'. -/
def fractionTextsCard : Claim7 := { stood := { row := fractionTextsRow, standIns := [], harness := (true, "6bfe3b23621fb08b92d6782748d807dfae2b3a74f06aa502c3cdbe3c7520a139"), looks := false }, kinds := [], alts := [], laidByText := true, laidKinds := [.data, .data, .data], laidTests := true, laidLooks := .later }
def FractionTextsCardSaid : Prop := Claim7.holds Tryd.pinned (.plain (OpenSpec.ofChange fractionTextsSpec)) fractionTextsCard

/-- THE TIED CARD OF 'bombardelaw02.FractionParses'. -/
def fractionParsesCard : Claim7 := { stood := { row := fractionParsesRow, standIns := [], harness := (true, "6bfe3b23621fb08b92d6782748d807dfae2b3a74f06aa502c3cdbe3c7520a139"), looks := false }, kinds := [], alts := [], laidByText := true, laidKinds := [.data, .data, .data], laidTests := true, laidLooks := .later }
def FractionParsesCardSaid : Prop := Claim7.holds Tryd.pinned (.plain (OpenSpec.ofChange fractionParsesSpec)) fractionParsesCard

/-- THE TIED CARD OF 'bombardelaw02.FractionSimplest'. -/
def fractionSimplestCard : Claim7 := { stood := { row := fractionSimplestRow, standIns := [], harness := (true, "6bfe3b23621fb08b92d6782748d807dfae2b3a74f06aa502c3cdbe3c7520a139"), looks := false }, kinds := [], alts := [], laidByText := true, laidKinds := [.data, .data, .data], laidTests := true, laidLooks := .later }
def FractionSimplestCardSaid : Prop := Claim7.holds Tryd.pinned (.plain (OpenSpec.ofChange fractionSimplestSpec)) fractionSimplestCard

/-- THE TIED CARD OF 'bombardelaw02.FractionGreat'. -/
def fractionGreatCard : Claim7 := { stood := { row := fractionGreatRow, standIns := [], harness := (true, "6bfe3b23621fb08b92d6782748d807dfae2b3a74f06aa502c3cdbe3c7520a139"), looks := false }, kinds := [], alts := [], laidByText := true, laidKinds := [.data, .data, .data], laidTests := true, laidLooks := .later }
def FractionGreatCardSaid : Prop := Claim7.holds Tryd.pinned (.plain (OpenSpec.ofChange fractionGreatSpec)) fractionGreatCard

/-- THE TIED CARD OF 'bombardelaw02.FractionTerms'. -/
def fractionTermsCard : Claim7 := { stood := { row := fractionTermsRow, standIns := [], harness := (true, "6bfe3b23621fb08b92d6782748d807dfae2b3a74f06aa502c3cdbe3c7520a139"), looks := false }, kinds := [], alts := [], laidByText := true, laidKinds := [.data, .data, .data], laidTests := true, laidLooks := .later }
def FractionTermsCardSaid : Prop := Claim7.holds Tryd.pinned (.plain (OpenSpec.ofChange fractionTermsSpec)) fractionTermsCard

/-- THE TIED CARD OF 'bombardelaw02.FractionLaws'. -/
def fractionLawsCard : Claim7 := { stood := { row := fractionLawsRow, standIns := [], harness := (true, "6bfe3b23621fb08b92d6782748d807dfae2b3a74f06aa502c3cdbe3c7520a139"), looks := false }, kinds := [], alts := [], laidByText := true, laidKinds := [.data, .data, .data], laidTests := true, laidLooks := .later }
def FractionLawsCardSaid : Prop := Claim7.holds Tryd.pinned (.plain (OpenSpec.ofChange fractionLawsSpec)) fractionLawsCard

/-- THE TIED CARD OF 'bombardelaw02.FractionChecks'. -/
def fractionChecksCard : Claim7 := { stood := { row := fractionChecksRow, standIns := [], harness := (true, "6bfe3b23621fb08b92d6782748d807dfae2b3a74f06aa502c3cdbe3c7520a139"), looks := false }, kinds := [], alts := [], laidByText := true, laidKinds := [.data, .data, .data], laidTests := true, laidLooks := .later }
def FractionChecksCardSaid : Prop := Claim7.holds Tryd.pinned (.plain (OpenSpec.ofChange fractionChecksSpec)) fractionChecksCard

/-- THE SECOND FORM's CARD OF 'bombardelaw02.FractionMakes'. -/
def fractionMakesUptoCard : Claim7 := { stood := { row := fractionMakesUptoRow, standIns := [], harness := (true, "6bfe3b23621fb08b92d6782748d807dfae2b3a74f06aa502c3cdbe3c7520a139"), looks := false }, kinds := [], alts := [], laidByText := true, laidKinds := [.data, .data, .data], laidTests := true, laidLooks := .later }
def FractionMakesUptoCardSaid : Prop := Claim7.holds Tryd.pinned (.plain (OpenSpec.upto fractionMakesSpec)) fractionMakesUptoCard

/-- THE SECOND FORM's CARD OF 'bombardelaw02.FractionSums'. -/
def fractionSumsUptoCard : Claim7 := { stood := { row := fractionSumsUptoRow, standIns := [], harness := (true, "6bfe3b23621fb08b92d6782748d807dfae2b3a74f06aa502c3cdbe3c7520a139"), looks := false }, kinds := [], alts := [], laidByText := true, laidKinds := [.data, .data, .data], laidTests := true, laidLooks := .later }
def FractionSumsUptoCardSaid : Prop := Claim7.holds Tryd.pinned (.plain (OpenSpec.upto fractionSumsSpec)) fractionSumsUptoCard

/-- THE SECOND FORM's CARD OF 'bombardelaw02.FractionValues'. -/
def fractionValuesUptoCard : Claim7 := { stood := { row := fractionValuesUptoRow, standIns := [], harness := (true, "6bfe3b23621fb08b92d6782748d807dfae2b3a74f06aa502c3cdbe3c7520a139"), looks := false }, kinds := [], alts := [], laidByText := true, laidKinds := [.data, .data, .data], laidTests := true, laidLooks := .later }
def FractionValuesUptoCardSaid : Prop := Claim7.holds Tryd.pinned (.plain (OpenSpec.upto fractionValuesSpec)) fractionValuesUptoCard

/-- THE SECOND FORM's CARD OF 'bombardelaw02.FractionLists'. -/
def fractionListsUptoCard : Claim7 := { stood := { row := fractionListsUptoRow, standIns := [], harness := (true, "6bfe3b23621fb08b92d6782748d807dfae2b3a74f06aa502c3cdbe3c7520a139"), looks := false }, kinds := [], alts := [], laidByText := true, laidKinds := [.data, .data, .data], laidTests := true, laidLooks := .later }
def FractionListsUptoCardSaid : Prop := Claim7.holds Tryd.pinned (.plain (OpenSpec.upto fractionListsSpec)) fractionListsUptoCard

/-- THE SECOND FORM's CARD OF 'bombardelaw02.FractionTexts'. -/
def fractionTextsUptoCard : Claim7 := { stood := { row := fractionTextsUptoRow, standIns := [], harness := (true, "6bfe3b23621fb08b92d6782748d807dfae2b3a74f06aa502c3cdbe3c7520a139"), looks := false }, kinds := [], alts := [], laidByText := true, laidKinds := [.data, .data, .data], laidTests := true, laidLooks := .later }
def FractionTextsUptoCardSaid : Prop := Claim7.holds Tryd.pinned (.plain (OpenSpec.upto fractionTextsSpec)) fractionTextsUptoCard

/-- THE SECOND FORM's CARD OF 'bombardelaw02.FractionParses'. -/
def fractionParsesUptoCard : Claim7 := { stood := { row := fractionParsesUptoRow, standIns := [], harness := (true, "6bfe3b23621fb08b92d6782748d807dfae2b3a74f06aa502c3cdbe3c7520a139"), looks := false }, kinds := [], alts := [], laidByText := true, laidKinds := [.data, .data, .data], laidTests := true, laidLooks := .later }
def FractionParsesUptoCardSaid : Prop := Claim7.holds Tryd.pinned (.plain (OpenSpec.upto fractionParsesSpec)) fractionParsesUptoCard

/-- THE SECOND FORM's CARD OF 'bombardelaw02.FractionSimplest'. -/
def fractionSimplestUptoCard : Claim7 := { stood := { row := fractionSimplestUptoRow, standIns := [], harness := (true, "6bfe3b23621fb08b92d6782748d807dfae2b3a74f06aa502c3cdbe3c7520a139"), looks := false }, kinds := [], alts := [], laidByText := true, laidKinds := [.data, .data, .data], laidTests := true, laidLooks := .later }
def FractionSimplestUptoCardSaid : Prop := Claim7.holds Tryd.pinned (.plain (OpenSpec.upto fractionSimplestSpec)) fractionSimplestUptoCard

/-- THE SECOND FORM's CARD OF 'bombardelaw02.FractionGreat'. -/
def fractionGreatUptoCard : Claim7 := { stood := { row := fractionGreatUptoRow, standIns := [], harness := (true, "6bfe3b23621fb08b92d6782748d807dfae2b3a74f06aa502c3cdbe3c7520a139"), looks := false }, kinds := [], alts := [], laidByText := true, laidKinds := [.data, .data, .data], laidTests := true, laidLooks := .later }
def FractionGreatUptoCardSaid : Prop := Claim7.holds Tryd.pinned (.plain (OpenSpec.upto fractionGreatSpec)) fractionGreatUptoCard

/-- THE SECOND FORM's CARD OF 'bombardelaw02.FractionTerms'. -/
def fractionTermsUptoCard : Claim7 := { stood := { row := fractionTermsUptoRow, standIns := [], harness := (true, "6bfe3b23621fb08b92d6782748d807dfae2b3a74f06aa502c3cdbe3c7520a139"), looks := false }, kinds := [], alts := [], laidByText := true, laidKinds := [.data, .data, .data], laidTests := true, laidLooks := .later }
def FractionTermsUptoCardSaid : Prop := Claim7.holds Tryd.pinned (.plain (OpenSpec.upto fractionTermsSpec)) fractionTermsUptoCard

/-- THE SECOND FORM's CARD OF 'bombardelaw02.FractionLaws'. -/
def fractionLawsUptoCard : Claim7 := { stood := { row := fractionLawsUptoRow, standIns := [], harness := (true, "6bfe3b23621fb08b92d6782748d807dfae2b3a74f06aa502c3cdbe3c7520a139"), looks := false }, kinds := [], alts := [], laidByText := true, laidKinds := [.data, .data, .data], laidTests := true, laidLooks := .later }
def FractionLawsUptoCardSaid : Prop := Claim7.holds Tryd.pinned (.plain (OpenSpec.upto fractionLawsSpec)) fractionLawsUptoCard

/-- THE SECOND FORM's CARD OF 'bombardelaw02.FractionChecks'. -/
def fractionChecksUptoCard : Claim7 := { stood := { row := fractionChecksUptoRow, standIns := [], harness := (true, "6bfe3b23621fb08b92d6782748d807dfae2b3a74f06aa502c3cdbe3c7520a139"), looks := false }, kinds := [], alts := [], laidByText := true, laidKinds := [.data, .data, .data], laidTests := true, laidLooks := .later }
def FractionChecksUptoCardSaid : Prop := Claim7.holds Tryd.pinned (.plain (OpenSpec.upto fractionChecksSpec)) fractionChecksUptoCard
end Rows
end Go.Proofs.YtoncbkkhfblpdaaDoor
