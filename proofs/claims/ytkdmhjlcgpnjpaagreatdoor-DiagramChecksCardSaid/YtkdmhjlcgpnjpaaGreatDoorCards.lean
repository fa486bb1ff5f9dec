/-
  DERIVED. GIVEN WITH THE SEED: THE CARDS: each row of YtkdmhjlcgpnjpaaGreatDoorRows.lean that lists a variable, with what it lists TIED to the program's text (the seventh form; the later family's looks); each row that meets fmt, with fmt's text TOLD by the authors' own Lean function (tested against real Go, not proved from fmt's source: count such statements apart). THE CARD IS WHAT COUNTS. Prove the row's statement (the work); the ties are given (YtkdmhjlcgpnjpaaGreatDoorTie.lean); close each card by the builder's one call (the guide's Derived/Test/ToyasCard.lean, 'card_holds'). Laid BY PROGRAM, IN A SANDBOX (cutbox-door.mjs). By AI agents, Wed Nov 11 2026. No macro, syntax, notation, axiom, sorry.
-/
import Derived.Test.YtkdmhjlcgpnjpaaGreatDoorRows
import GoSem.ClaimSeven
namespace Go.Proofs.YtkdmhjlcgpnjpaaGreatDoor
namespace Rows

/-- THE TIED CARD OF 'bombardelaw08.DiagramBuilds'. -/
def diagramBuildsCard : Claim7 := { stood := { row := diagramBuildsRow, standIns := [], harness := (true, "b5b27ba6a517c4ffbb9e41cf1f4b0d75116c898de68c3a3a71fa3e33b9cb0de0"), looks := true }, kinds := [], alts := [], laidByText := true, laidKinds := [.data, .data, .data, .sentinel, .sentinel], laidTests := true, laidLooks := .later }
def DiagramBuildsCardSaid : Prop := Claim7.holds Tryz.pinned (.plain (OpenSpec.ofChange diagramBuildsSpec)) diagramBuildsCard

/-- THE TIED CARD OF 'bombardelaw08.DiagramCounts'. -/
def diagramCountsCard : Claim7 := { stood := { row := diagramCountsRow, standIns := [], harness := (true, "b5b27ba6a517c4ffbb9e41cf1f4b0d75116c898de68c3a3a71fa3e33b9cb0de0"), looks := true }, kinds := [], alts := [], laidByText := true, laidKinds := [.data, .data, .data, .sentinel, .sentinel], laidTests := true, laidLooks := .later }
def DiagramCountsCardSaid : Prop := Claim7.holds Tryz.pinned (.plain (OpenSpec.ofChange diagramCountsSpec)) diagramCountsCard

/-- THE TIED CARD OF 'bombardelaw08.DiagramWitnesses'. -/
def diagramWitnessesCard : Claim7 := { stood := { row := diagramWitnessesRow, standIns := [], harness := (true, "b5b27ba6a517c4ffbb9e41cf1f4b0d75116c898de68c3a3a71fa3e33b9cb0de0"), looks := true }, kinds := [], alts := [], laidByText := true, laidKinds := [.data, .data, .data, .sentinel, .sentinel], laidTests := true, laidLooks := .later }
def DiagramWitnessesCardSaid : Prop := Claim7.holds Tryz.pinned (.plain (OpenSpec.ofChange diagramWitnessesSpec)) diagramWitnessesCard

/-- THE TIED CARD OF 'bombardelaw08.DiagramLiterals'. -/
def diagramLiteralsCard : Claim7 := { stood := { row := diagramLiteralsRow, standIns := [], harness := (true, "b5b27ba6a517c4ffbb9e41cf1f4b0d75116c898de68c3a3a71fa3e33b9cb0de0"), looks := true }, kinds := [], alts := [], laidByText := true, laidKinds := [.data, .data, .data, .sentinel, .sentinel], laidTests := true, laidLooks := .later }
def DiagramLiteralsCardSaid : Prop := Claim7.holds Tryz.pinned (.plain (OpenSpec.ofChange diagramLiteralsSpec)) diagramLiteralsCard

/-- THE TIED CARD OF 'bombardelaw08.DiagramCombines'. -/
def diagramCombinesCard : Claim7 := { stood := { row := diagramCombinesRow, standIns := [], harness := (true, "b5b27ba6a517c4ffbb9e41cf1f4b0d75116c898de68c3a3a71fa3e33b9cb0de0"), looks := true }, kinds := [], alts := [], laidByText := true, laidKinds := [.data, .data, .data, .sentinel, .sentinel], laidTests := true, laidLooks := .later }
def DiagramCombinesCardSaid : Prop := Claim7.holds Tryz.pinned (.plain (OpenSpec.ofChange diagramCombinesSpec)) diagramCombinesCard

/-- THE TIED CARD OF 'bombardelaw08.DiagramRestricts'. -/
def diagramRestrictsCard : Claim7 := { stood := { row := diagramRestrictsRow, standIns := [], harness := (true, "b5b27ba6a517c4ffbb9e41cf1f4b0d75116c898de68c3a3a71fa3e33b9cb0de0"), looks := true }, kinds := [], alts := [], laidByText := true, laidKinds := [.data, .data, .data, .sentinel, .sentinel], laidTests := true, laidLooks := .later }
def DiagramRestrictsCardSaid : Prop := Claim7.holds Tryz.pinned (.plain (OpenSpec.ofChange diagramRestrictsSpec)) diagramRestrictsCard

/-- THE TIED CARD OF 'bombardelaw08.DiagramSplits'. -/
def diagramSplitsCard : Claim7 := { stood := { row := diagramSplitsRow, standIns := [], harness := (true, "b5b27ba6a517c4ffbb9e41cf1f4b0d75116c898de68c3a3a71fa3e33b9cb0de0"), looks := true }, kinds := [], alts := [], laidByText := true, laidKinds := [.data, .data, .data, .sentinel, .sentinel], laidTests := true, laidLooks := .later }
def DiagramSplitsCardSaid : Prop := Claim7.holds Tryz.pinned (.plain (OpenSpec.ofChange diagramSplitsSpec)) diagramSplitsCard

/-- THE TIED CARD OF 'bombardelaw08.DiagramCanonical'. -/
def diagramCanonicalCard : Claim7 := { stood := { row := diagramCanonicalRow, standIns := [], harness := (true, "b5b27ba6a517c4ffbb9e41cf1f4b0d75116c898de68c3a3a71fa3e33b9cb0de0"), looks := true }, kinds := [], alts := [], laidByText := true, laidKinds := [.data, .data, .data, .sentinel, .sentinel], laidTests := true, laidLooks := .later }
def DiagramCanonicalCardSaid : Prop := Claim7.holds Tryz.pinned (.plain (OpenSpec.ofChange diagramCanonicalSpec)) diagramCanonicalCard

/-- THE TIED CARD OF 'bombardelaw08.DiagramValues'. -/
def diagramValuesCard : Claim7 := { stood := { row := diagramValuesRow, standIns := [], harness := (true, "b5b27ba6a517c4ffbb9e41cf1f4b0d75116c898de68c3a3a71fa3e33b9cb0de0"), looks := true }, kinds := [], alts := [], laidByText := true, laidKinds := [.data, .data, .data, .sentinel, .sentinel], laidTests := true, laidLooks := .later }
def DiagramValuesCardSaid : Prop := Claim7.holds Tryz.pinned (.plain (OpenSpec.ofChange diagramValuesSpec)) diagramValuesCard

/-- THE TIED CARD OF 'bombardelaw08.DiagramChecks'. -/
def diagramChecksCard : Claim7 := { stood := { row := diagramChecksRow, standIns := [], harness := (true, "b5b27ba6a517c4ffbb9e41cf1f4b0d75116c898de68c3a3a71fa3e33b9cb0de0"), looks := true }, kinds := [], alts := [], laidByText := true, laidKinds := [.data, .data, .data, .sentinel, .sentinel], laidTests := true, laidLooks := .later }
def DiagramChecksCardSaid : Prop := Claim7.holds Tryz.pinned (.plain (OpenSpec.ofChange diagramChecksSpec)) diagramChecksCard

/-- THE SECOND FORM's CARD OF 'bombardelaw08.DiagramBuilds'. -/
def diagramBuildsUptoCard : Claim7 := { stood := { row := diagramBuildsUptoRow, standIns := [], harness := (true, "b5b27ba6a517c4ffbb9e41cf1f4b0d75116c898de68c3a3a71fa3e33b9cb0de0"), looks := true }, kinds := [], alts := [], laidByText := true, laidKinds := [.data, .data, .data, .sentinel, .sentinel], laidTests := true, laidLooks := .later }
def DiagramBuildsUptoCardSaid : Prop := Claim7.holds Tryz.pinned (.plain (OpenSpec.upto diagramBuildsSpec)) diagramBuildsUptoCard

/-- THE SECOND FORM's CARD OF 'bombardelaw08.DiagramCounts'. -/
def diagramCountsUptoCard : Claim7 := { stood := { row := diagramCountsUptoRow, standIns := [], harness := (true, "b5b27ba6a517c4ffbb9e41cf1f4b0d75116c898de68c3a3a71fa3e33b9cb0de0"), looks := true }, kinds := [], alts := [], laidByText := true, laidKinds := [.data, .data, .data, .sentinel, .sentinel], laidTests := true, laidLooks := .later }
def DiagramCountsUptoCardSaid : Prop := Claim7.holds Tryz.pinned (.plain (OpenSpec.upto diagramCountsSpec)) diagramCountsUptoCard

/-- THE SECOND FORM's CARD OF 'bombardelaw08.DiagramWitnesses'. -/
def diagramWitnessesUptoCard : Claim7 := { stood := { row := diagramWitnessesUptoRow, standIns := [], harness := (true, "b5b27ba6a517c4ffbb9e41cf1f4b0d75116c898de68c3a3a71fa3e33b9cb0de0"), looks := true }, kinds := [], alts := [], laidByText := true, laidKinds := [.data, .data, .data, .sentinel, .sentinel], laidTests := true, laidLooks := .later }
def DiagramWitnessesUptoCardSaid : Prop := Claim7.holds Tryz.pinned (.plain (OpenSpec.upto diagramWitnessesSpec)) diagramWitnessesUptoCard

/-- THE SECOND FORM's CARD OF 'bombardelaw08.DiagramLiterals'. -/
def diagramLiteralsUptoCard : Claim7 := { stood := { row := diagramLiteralsUptoRow, standIns := [], harness := (true, "b5b27ba6a517c4ffbb9e41cf1f4b0d75116c898de68c3a3a71fa3e33b9cb0de0"), looks := true }, kinds := [], alts := [], laidByText := true, laidKinds := [.data, .data, .data, .sentinel, .sentinel], laidTests := true, laidLooks := .later }
def DiagramLiteralsUptoCardSaid : Prop := Claim7.holds Tryz.pinned (.plain (OpenSpec.upto diagramLiteralsSpec)) diagramLiteralsUptoCard

/-- THE SECOND FORM's CARD OF 'bombardelaw08.DiagramCombines'. -/
def diagramCombinesUptoCard : Claim7 := { stood := { row := diagramCombinesUptoRow, standIns := [], harness := (true, "b5b27ba6a517c4ffbb9e41cf1f4b0d75116c898de68c3a3a71fa3e33b9cb0de0"), looks := true }, kinds := [], alts := [], laidByText := true, laidKinds := [.data, .data, .data, .sentinel, .sentinel], laidTests := true, laidLooks := .later }
def DiagramCombinesUptoCardSaid : Prop := Claim7.holds Tryz.pinned (.plain (OpenSpec.upto diagramCombinesSpec)) diagramCombinesUptoCard

/-- THE SECOND FORM's CARD OF 'bombardelaw08.DiagramRestricts'. -/
def diagramRestrictsUptoCard : Claim7 := { stood := { row := diagramRestrictsUptoRow, standIns := [], harness := (true, "b5b27ba6a517c4ffbb9e41cf1f4b0d75116c898de68c3a3a71fa3e33b9cb0de0"), looks := true }, kinds := [], alts := [], laidByText := true, laidKinds := [.data, .data, .data, .sentinel, .sentinel], laidTests := true, laidLooks := .later }
def DiagramRestrictsUptoCardSaid : Prop := Claim7.holds Tryz.pinned (.plain (OpenSpec.upto diagramRestrictsSpec)) diagramRestrictsUptoCard

/-- THE SECOND FORM's CARD OF 'bombardelaw08.DiagramSplits'. -/
def diagramSplitsUptoCard : Claim7 := { stood := { row := diagramSplitsUptoRow, standIns := [], harness := (true, "b5b27ba6a517c4ffbb9e41cf1f4b0d75116c898de68c3a3a71fa3e33b9cb0de0"), looks := true }, kinds := [], alts := [], laidByText := true, laidKinds := [.data, .data, .data, .sentinel, .sentinel], laidTests := true, laidLooks := .later }
def DiagramSplitsUptoCardSaid : Prop := Claim7.holds Tryz.pinned (.plain (OpenSpec.upto diagramSplitsSpec)) diagramSplitsUptoCard

/-- THE SECOND FORM's CARD OF 'bombardelaw08.DiagramCanonical'. -/
def diagramCanonicalUptoCard : Claim7 := { stood := { row := diagramCanonicalUptoRow, standIns := [], harness := (true, "b5b27ba6a517c4ffbb9e41cf1f4b0d75116c898de68c3a3a71fa3e33b9cb0de0"), looks := true }, kinds := [], alts := [], laidByText := true, laidKinds := [.data, .data, .data, .sentinel, .sentinel], laidTests := true, laidLooks := .later }
def DiagramCanonicalUptoCardSaid : Prop := Claim7.holds Tryz.pinned (.plain (OpenSpec.upto diagramCanonicalSpec)) diagramCanonicalUptoCard

/-- THE SECOND FORM's CARD OF 'bombardelaw08.DiagramValues'. -/
def diagramValuesUptoCard : Claim7 := { stood := { row := diagramValuesUptoRow, standIns := [], harness := (true, "b5b27ba6a517c4ffbb9e41cf1f4b0d75116c898de68c3a3a71fa3e33b9cb0de0"), looks := true }, kinds := [], alts := [], laidByText := true, laidKinds := [.data, .data, .data, .sentinel, .sentinel], laidTests := true, laidLooks := .later }
def DiagramValuesUptoCardSaid : Prop := Claim7.holds Tryz.pinned (.plain (OpenSpec.upto diagramValuesSpec)) diagramValuesUptoCard

/-- THE SECOND FORM's CARD OF 'bombardelaw08.DiagramChecks'. -/
def diagramChecksUptoCard : Claim7 := { stood := { row := diagramChecksUptoRow, standIns := [], harness := (true, "b5b27ba6a517c4ffbb9e41cf1f4b0d75116c898de68c3a3a71fa3e33b9cb0de0"), looks := true }, kinds := [], alts := [], laidByText := true, laidKinds := [.data, .data, .data, .sentinel, .sentinel], laidTests := true, laidLooks := .later }
def DiagramChecksUptoCardSaid : Prop := Claim7.holds Tryz.pinned (.plain (OpenSpec.upto diagramChecksSpec)) diagramChecksUptoCard
end Rows
end Go.Proofs.YtkdmhjlcgpnjpaaGreatDoor
