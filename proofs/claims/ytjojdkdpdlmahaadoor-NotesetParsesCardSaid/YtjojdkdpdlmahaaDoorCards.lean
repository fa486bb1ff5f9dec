/-
  DERIVED. GIVEN WITH THE SEED: THE CARDS: each row of YtjojdkdpdlmahaaDoorRows.lean that lists a variable, with what it lists TIED to the program's text (the seventh form; the later family's looks); each row that meets fmt, with fmt's text TOLD by the authors' own Lean function (tested against real Go, not proved from fmt's source: count such statements apart). THE CARD IS WHAT COUNTS. Prove the row's statement (the work); the ties are given (YtjojdkdpdlmahaaDoorTie.lean); close each card by the builder's one call (the guide's Derived/Test/ToyasCard.lean, 'card_holds'). Laid BY PROGRAM, IN A SANDBOX (cutbox-door.mjs). By AI agents, Wed Nov 11 2026. No macro, syntax, notation, axiom, sorry.
-/
import Derived.Test.YtjojdkdpdlmahaaDoorRows
import GoSem.ClaimSeven
namespace Go.Proofs.YtjojdkdpdlmahaaDoor
namespace Rows

/-- THE TIED CARD OF 'bombardelaw03.NotesetNames'. -/
def notesetNamesCard : Claim7 := { stood := { row := notesetNamesRow, standIns := [], harness := (true, "31cf2a9681b521636dc252973bebce3d3485454812ed7418481d746736371796"), looks := true }, kinds := [], alts := [], laidByText := true, laidKinds := [.data, .data, .data, .sentinel, .sentinel], laidTests := true, laidLooks := .later }
def NotesetNamesCardSaid : Prop := Claim7.holds Tryd.pinned (.plain (OpenSpec.ofChange notesetNamesSpec)) notesetNamesCard

/-- THE TIED CARD OF 'bombardelaw03.NotesetOf'. -/
def notesetOfCard : Claim7 := { stood := { row := notesetOfRow, standIns := [], harness := (true, "31cf2a9681b521636dc252973bebce3d3485454812ed7418481d746736371796"), looks := true }, kinds := [], alts := [], laidByText := true, laidKinds := [.data, .data, .data, .sentinel, .sentinel], laidTests := true, laidLooks := .later }
def NotesetOfCardSaid : Prop := Claim7.holds Tryd.pinned (.plain (OpenSpec.ofChange notesetOfSpec)) notesetOfCard

/-- THE TIED CARD OF 'bombardelaw03.NotesetLaws'. -/
def notesetLawsCard : Claim7 := { stood := { row := notesetLawsRow, standIns := [], harness := (true, "31cf2a9681b521636dc252973bebce3d3485454812ed7418481d746736371796"), looks := true }, kinds := [], alts := [], laidByText := true, laidKinds := [.data, .data, .data, .sentinel, .sentinel], laidTests := true, laidLooks := .later }
def NotesetLawsCardSaid : Prop := Claim7.holds Tryd.pinned (.plain (OpenSpec.ofChange notesetLawsSpec)) notesetLawsCard

/-- THE TIED CARD OF 'bombardelaw03.NotesetCombines'. -/
def notesetCombinesCard : Claim7 := { stood := { row := notesetCombinesRow, standIns := [], harness := (true, "31cf2a9681b521636dc252973bebce3d3485454812ed7418481d746736371796"), looks := true }, kinds := [], alts := [], laidByText := true, laidKinds := [.data, .data, .data, .sentinel, .sentinel], laidTests := true, laidLooks := .later }
def NotesetCombinesCardSaid : Prop := Claim7.holds Tryd.pinned (.plain (OpenSpec.ofChange notesetCombinesSpec)) notesetCombinesCard

/-- THE TIED CARD OF 'bombardelaw03.NotesetShifts'. -/
def notesetShiftsCard : Claim7 := { stood := { row := notesetShiftsRow, standIns := [], harness := (true, "31cf2a9681b521636dc252973bebce3d3485454812ed7418481d746736371796"), looks := true }, kinds := [], alts := [], laidByText := true, laidKinds := [.data, .data, .data, .sentinel, .sentinel], laidTests := true, laidLooks := .later }
def NotesetShiftsCardSaid : Prop := Claim7.holds Tryd.pinned (.plain (OpenSpec.ofChange notesetShiftsSpec)) notesetShiftsCard

/-- THE TIED CARD OF 'bombardelaw03.NotesetRanges'. -/
def notesetRangesCard : Claim7 := { stood := { row := notesetRangesRow, standIns := [], harness := (true, "31cf2a9681b521636dc252973bebce3d3485454812ed7418481d746736371796"), looks := true }, kinds := [], alts := [], laidByText := true, laidKinds := [.data, .data, .data, .sentinel, .sentinel], laidTests := true, laidLooks := .later }
def NotesetRangesCardSaid : Prop := Claim7.holds Tryd.pinned (.plain (OpenSpec.ofChange notesetRangesSpec)) notesetRangesCard

/-- THE TIED CARD OF 'bombardelaw03.NotesetReturns'. -/
def notesetReturnsCard : Claim7 := { stood := { row := notesetReturnsRow, standIns := [], harness := (true, "31cf2a9681b521636dc252973bebce3d3485454812ed7418481d746736371796"), looks := true }, kinds := [], alts := [], laidByText := true, laidKinds := [.data, .data, .data, .sentinel, .sentinel], laidTests := true, laidLooks := .later }
def NotesetReturnsCardSaid : Prop := Claim7.holds Tryd.pinned (.plain (OpenSpec.ofChange notesetReturnsSpec)) notesetReturnsCard

/-- THE TIED CARD OF 'bombardelaw03.NotesetMembers'. -/
def notesetMembersCard : Claim7 := { stood := { row := notesetMembersRow, standIns := [], harness := (true, "31cf2a9681b521636dc252973bebce3d3485454812ed7418481d746736371796"), looks := true }, kinds := [], alts := [], laidByText := true, laidKinds := [.data, .data, .data, .sentinel, .sentinel], laidTests := true, laidLooks := .later }
def NotesetMembersCardSaid : Prop := Claim7.holds Tryd.pinned (.plain (OpenSpec.ofChange notesetMembersSpec)) notesetMembersCard

/-- THE TIED CARD OF 'bombardelaw03.NotesetTexts'. -/
def notesetTextsCard : Claim7 := { stood := { row := notesetTextsRow, standIns := [], harness := (true, "31cf2a9681b521636dc252973bebce3d3485454812ed7418481d746736371796"), looks := true }, kinds := [], alts := [], laidByText := true, laidKinds := [.data, .data, .data, .data, .sentinel, .sentinel, .pinned], laidTests := true, laidLooks := .later }
def NotesetTextsCardSaid : Prop := Claim7.holds Tryd.pinned (.plain (OpenSpec.ofChange notesetTextsSpec)) notesetTextsCard

/-- THE TIED CARD OF 'bombardelaw03.NotesetParses'. -/
def notesetParsesCard : Claim7 := { stood := { row := notesetParsesRow, standIns := [], harness := (true, "31cf2a9681b521636dc252973bebce3d3485454812ed7418481d746736371796"), looks := true }, kinds := [], alts := [], laidByText := true, laidKinds := [.data, .data, .data, .data, .sentinel, .sentinel, .pinned], laidTests := true, laidLooks := .later }
def NotesetParsesCardSaid : Prop := Claim7.holds Tryd.pinned (.plain (OpenSpec.ofChange notesetParsesSpec)) notesetParsesCard

/-- THE SECOND FORM's CARD OF 'bombardelaw03.NotesetNames'. -/
def notesetNamesUptoCard : Claim7 := { stood := { row := notesetNamesUptoRow, standIns := [], harness := (true, "31cf2a9681b521636dc252973bebce3d3485454812ed7418481d746736371796"), looks := true }, kinds := [], alts := [], laidByText := true, laidKinds := [.data, .data, .data, .sentinel, .sentinel], laidTests := true, laidLooks := .later }
def NotesetNamesUptoCardSaid : Prop := Claim7.holds Tryd.pinned (.plain (OpenSpec.upto notesetNamesSpec)) notesetNamesUptoCard

/-- THE SECOND FORM's CARD OF 'bombardelaw03.NotesetOf'. -/
def notesetOfUptoCard : Claim7 := { stood := { row := notesetOfUptoRow, standIns := [], harness := (true, "31cf2a9681b521636dc252973bebce3d3485454812ed7418481d746736371796"), looks := true }, kinds := [], alts := [], laidByText := true, laidKinds := [.data, .data, .data, .sentinel, .sentinel], laidTests := true, laidLooks := .later }
def NotesetOfUptoCardSaid : Prop := Claim7.holds Tryd.pinned (.plain (OpenSpec.upto notesetOfSpec)) notesetOfUptoCard

/-- THE SECOND FORM's CARD OF 'bombardelaw03.NotesetLaws'. -/
def notesetLawsUptoCard : Claim7 := { stood := { row := notesetLawsUptoRow, standIns := [], harness := (true, "31cf2a9681b521636dc252973bebce3d3485454812ed7418481d746736371796"), looks := true }, kinds := [], alts := [], laidByText := true, laidKinds := [.data, .data, .data, .sentinel, .sentinel], laidTests := true, laidLooks := .later }
def NotesetLawsUptoCardSaid : Prop := Claim7.holds Tryd.pinned (.plain (OpenSpec.upto notesetLawsSpec)) notesetLawsUptoCard

/-- THE SECOND FORM's CARD OF 'bombardelaw03.NotesetCombines'. -/
def notesetCombinesUptoCard : Claim7 := { stood := { row := notesetCombinesUptoRow, standIns := [], harness := (true, "31cf2a9681b521636dc252973bebce3d3485454812ed7418481d746736371796"), looks := true }, kinds := [], alts := [], laidByText := true, laidKinds := [.data, .data, .data, .sentinel, .sentinel], laidTests := true, laidLooks := .later }
def NotesetCombinesUptoCardSaid : Prop := Claim7.holds Tryd.pinned (.plain (OpenSpec.upto notesetCombinesSpec)) notesetCombinesUptoCard

/-- THE SECOND FORM's CARD OF 'bombardelaw03.NotesetShifts'. -/
def notesetShiftsUptoCard : Claim7 := { stood := { row := notesetShiftsUptoRow, standIns := [], harness := (true, "31cf2a9681b521636dc252973bebce3d3485454812ed7418481d746736371796"), looks := true }, kinds := [], alts := [], laidByText := true, laidKinds := [.data, .data, .data, .sentinel, .sentinel], laidTests := true, laidLooks := .later }
def NotesetShiftsUptoCardSaid : Prop := Claim7.holds Tryd.pinned (.plain (OpenSpec.upto notesetShiftsSpec)) notesetShiftsUptoCard

/-- THE SECOND FORM's CARD OF 'bombardelaw03.NotesetRanges'. -/
def notesetRangesUptoCard : Claim7 := { stood := { row := notesetRangesUptoRow, standIns := [], harness := (true, "31cf2a9681b521636dc252973bebce3d3485454812ed7418481d746736371796"), looks := true }, kinds := [], alts := [], laidByText := true, laidKinds := [.data, .data, .data, .sentinel, .sentinel], laidTests := true, laidLooks := .later }
def NotesetRangesUptoCardSaid : Prop := Claim7.holds Tryd.pinned (.plain (OpenSpec.upto notesetRangesSpec)) notesetRangesUptoCard

/-- THE SECOND FORM's CARD OF 'bombardelaw03.NotesetReturns'. -/
def notesetReturnsUptoCard : Claim7 := { stood := { row := notesetReturnsUptoRow, standIns := [], harness := (true, "31cf2a9681b521636dc252973bebce3d3485454812ed7418481d746736371796"), looks := true }, kinds := [], alts := [], laidByText := true, laidKinds := [.data, .data, .data, .sentinel, .sentinel], laidTests := true, laidLooks := .later }
def NotesetReturnsUptoCardSaid : Prop := Claim7.holds Tryd.pinned (.plain (OpenSpec.upto notesetReturnsSpec)) notesetReturnsUptoCard

/-- THE SECOND FORM's CARD OF 'bombardelaw03.NotesetMembers'. -/
def notesetMembersUptoCard : Claim7 := { stood := { row := notesetMembersUptoRow, standIns := [], harness := (true, "31cf2a9681b521636dc252973bebce3d3485454812ed7418481d746736371796"), looks := true }, kinds := [], alts := [], laidByText := true, laidKinds := [.data, .data, .data, .sentinel, .sentinel], laidTests := true, laidLooks := .later }
def NotesetMembersUptoCardSaid : Prop := Claim7.holds Tryd.pinned (.plain (OpenSpec.upto notesetMembersSpec)) notesetMembersUptoCard

/-- THE SECOND FORM's CARD OF 'bombardelaw03.NotesetTexts'. -/
def notesetTextsUptoCard : Claim7 := { stood := { row := notesetTextsUptoRow, standIns := [], harness := (true, "31cf2a9681b521636dc252973bebce3d3485454812ed7418481d746736371796"), looks := true }, kinds := [], alts := [], laidByText := true, laidKinds := [.data, .data, .data, .data, .sentinel, .sentinel, .pinned], laidTests := true, laidLooks := .later }
def NotesetTextsUptoCardSaid : Prop := Claim7.holds Tryd.pinned (.plain (OpenSpec.upto notesetTextsSpec)) notesetTextsUptoCard

/-- THE SECOND FORM's CARD OF 'bombardelaw03.NotesetParses'. -/
def notesetParsesUptoCard : Claim7 := { stood := { row := notesetParsesUptoRow, standIns := [], harness := (true, "31cf2a9681b521636dc252973bebce3d3485454812ed7418481d746736371796"), looks := true }, kinds := [], alts := [], laidByText := true, laidKinds := [.data, .data, .data, .data, .sentinel, .sentinel, .pinned], laidTests := true, laidLooks := .later }
def NotesetParsesUptoCardSaid : Prop := Claim7.holds Tryd.pinned (.plain (OpenSpec.upto notesetParsesSpec)) notesetParsesUptoCard
end Rows
end Go.Proofs.YtjojdkdpdlmahaaDoor
