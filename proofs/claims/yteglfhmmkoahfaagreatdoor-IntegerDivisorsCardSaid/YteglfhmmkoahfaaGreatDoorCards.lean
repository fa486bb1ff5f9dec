/-
  DERIVED. GIVEN WITH THE SEED: THE CARDS: each row of YteglfhmmkoahfaaGreatDoorRows.lean that lists a variable, with what it lists TIED to the program's text (the seventh form; the later family's looks); each row that meets fmt, with fmt's text TOLD by the authors' own Lean function (tested against real Go, not proved from fmt's source: count such statements apart). THE CARD IS WHAT COUNTS. Prove the row's statement (the work); the ties are given (YteglfhmmkoahfaaGreatDoorTie.lean); close each card by the builder's one call (the guide's Derived/Test/ToyasCard.lean, 'card_holds'). Laid BY PROGRAM, IN A SANDBOX (cutbox-door.mjs). By AI agents, Wed Nov 11 2026. No macro, syntax, notation, axiom, sorry.
-/
import Derived.Test.YteglfhmmkoahfaaGreatDoorRows
import GoSem.ClaimSeven
namespace Go.Proofs.YteglfhmmkoahfaaGreatDoor
namespace Rows

/-- THE TIED CARD OF 'bombardelaw01.IntegerCompares'. -/
def integerComparesCard : Claim7 := { stood := { row := integerComparesRow, standIns := [], harness := (true, "7fe8400c43f11e669d59783c2cb37de2d5f662ea1aade8ceff097dc3a509cc24"), looks := true }, kinds := [], alts := [], laidByText := true, laidKinds := [.data, .data, .data, .data, .sentinel, .sentinel, .pinned], laidTests := true, laidLooks := .later }
def IntegerComparesCardSaid : Prop := Claim7.holds Tryz.pinned (.plain (OpenSpec.ofChange integerComparesSpec)) integerComparesCard

/-- THE TIED CARD OF 'bombardelaw01.IntegerDivisors'. -/
def integerDivisorsCard : Claim7 := { stood := { row := integerDivisorsRow, standIns := [], harness := (true, "7fe8400c43f11e669d59783c2cb37de2d5f662ea1aade8ceff097dc3a509cc24"), looks := true }, kinds := [], alts := [], laidByText := true, laidKinds := [.data, .data, .data, .data, .sentinel, .sentinel, .pinned], laidTests := true, laidLooks := .later }
def IntegerDivisorsCardSaid : Prop := Claim7.holds Tryz.pinned (.plain (OpenSpec.ofChange integerDivisorsSpec)) integerDivisorsCard

/-- THE TIED CARD OF 'bombardelaw01.IntegerPowers'. -/
def integerPowersCard : Claim7 := { stood := { row := integerPowersRow, standIns := [], harness := (true, "7fe8400c43f11e669d59783c2cb37de2d5f662ea1aade8ceff097dc3a509cc24"), looks := true }, kinds := [], alts := [], laidByText := true, laidKinds := [.data, .data, .data, .data, .sentinel, .sentinel, .pinned], laidTests := true, laidLooks := .later }
def IntegerPowersCardSaid : Prop := Claim7.holds Tryz.pinned (.plain (OpenSpec.ofChange integerPowersSpec)) integerPowersCard

/-- THE TIED CARD OF 'bombardelaw01.IntegerMultiplies'. -/
def integerMultipliesCard : Claim7 := { stood := { row := integerMultipliesRow, standIns := [], harness := (true, "7fe8400c43f11e669d59783c2cb37de2d5f662ea1aade8ceff097dc3a509cc24"), looks := true }, kinds := [], alts := [], laidByText := true, laidKinds := [.data, .data, .data, .data, .sentinel, .sentinel, .pinned], laidTests := true, laidLooks := .later }
def IntegerMultipliesCardSaid : Prop := Claim7.holds Tryz.pinned (.plain (OpenSpec.ofChange integerMultipliesSpec)) integerMultipliesCard

/-- THE TIED CARD OF 'bombardelaw01.IntegerDivides'. -/
def integerDividesCard : Claim7 := { stood := { row := integerDividesRow, standIns := [], harness := (true, "7fe8400c43f11e669d59783c2cb37de2d5f662ea1aade8ceff097dc3a509cc24"), looks := true }, kinds := [], alts := [], laidByText := true, laidKinds := [.data, .data, .data, .data, .sentinel, .sentinel, .pinned], laidTests := true, laidLooks := .later }
def IntegerDividesCardSaid : Prop := Claim7.holds Tryz.pinned (.plain (OpenSpec.ofChange integerDividesSpec)) integerDividesCard

/-- THE TIED CARD OF 'bombardelaw01.IntegerAdds'. -/
def integerAddsCard : Claim7 := { stood := { row := integerAddsRow, standIns := [], harness := (true, "7fe8400c43f11e669d59783c2cb37de2d5f662ea1aade8ceff097dc3a509cc24"), looks := true }, kinds := [], alts := [], laidByText := true, laidKinds := [.data, .data, .data, .data, .sentinel, .sentinel, .pinned], laidTests := true, laidLooks := .later }
def IntegerAddsCardSaid : Prop := Claim7.holds Tryz.pinned (.plain (OpenSpec.ofChange integerAddsSpec)) integerAddsCard

/-- THE SECOND FORM's CARD OF 'bombardelaw01.IntegerCompares'. -/
def integerComparesUptoCard : Claim7 := { stood := { row := integerComparesUptoRow, standIns := [], harness := (true, "7fe8400c43f11e669d59783c2cb37de2d5f662ea1aade8ceff097dc3a509cc24"), looks := true }, kinds := [], alts := [], laidByText := true, laidKinds := [.data, .data, .data, .data, .sentinel, .sentinel, .pinned], laidTests := true, laidLooks := .later }
def IntegerComparesUptoCardSaid : Prop := Claim7.holds Tryz.pinned (.plain (OpenSpec.upto integerComparesSpec)) integerComparesUptoCard

/-- THE SECOND FORM's CARD OF 'bombardelaw01.IntegerDivisors'. -/
def integerDivisorsUptoCard : Claim7 := { stood := { row := integerDivisorsUptoRow, standIns := [], harness := (true, "7fe8400c43f11e669d59783c2cb37de2d5f662ea1aade8ceff097dc3a509cc24"), looks := true }, kinds := [], alts := [], laidByText := true, laidKinds := [.data, .data, .data, .data, .sentinel, .sentinel, .pinned], laidTests := true, laidLooks := .later }
def IntegerDivisorsUptoCardSaid : Prop := Claim7.holds Tryz.pinned (.plain (OpenSpec.upto integerDivisorsSpec)) integerDivisorsUptoCard

/-- THE SECOND FORM's CARD OF 'bombardelaw01.IntegerPowers'. -/
def integerPowersUptoCard : Claim7 := { stood := { row := integerPowersUptoRow, standIns := [], harness := (true, "7fe8400c43f11e669d59783c2cb37de2d5f662ea1aade8ceff097dc3a509cc24"), looks := true }, kinds := [], alts := [], laidByText := true, laidKinds := [.data, .data, .data, .data, .sentinel, .sentinel, .pinned], laidTests := true, laidLooks := .later }
def IntegerPowersUptoCardSaid : Prop := Claim7.holds Tryz.pinned (.plain (OpenSpec.upto integerPowersSpec)) integerPowersUptoCard

/-- THE SECOND FORM's CARD OF 'bombardelaw01.IntegerMultiplies'. -/
def integerMultipliesUptoCard : Claim7 := { stood := { row := integerMultipliesUptoRow, standIns := [], harness := (true, "7fe8400c43f11e669d59783c2cb37de2d5f662ea1aade8ceff097dc3a509cc24"), looks := true }, kinds := [], alts := [], laidByText := true, laidKinds := [.data, .data, .data, .data, .sentinel, .sentinel, .pinned], laidTests := true, laidLooks := .later }
def IntegerMultipliesUptoCardSaid : Prop := Claim7.holds Tryz.pinned (.plain (OpenSpec.upto integerMultipliesSpec)) integerMultipliesUptoCard

/-- THE SECOND FORM's CARD OF 'bombardelaw01.IntegerDivides'. -/
def integerDividesUptoCard : Claim7 := { stood := { row := integerDividesUptoRow, standIns := [], harness := (true, "7fe8400c43f11e669d59783c2cb37de2d5f662ea1aade8ceff097dc3a509cc24"), looks := true }, kinds := [], alts := [], laidByText := true, laidKinds := [.data, .data, .data, .data, .sentinel, .sentinel, .pinned], laidTests := true, laidLooks := .later }
def IntegerDividesUptoCardSaid : Prop := Claim7.holds Tryz.pinned (.plain (OpenSpec.upto integerDividesSpec)) integerDividesUptoCard

/-- THE SECOND FORM's CARD OF 'bombardelaw01.IntegerAdds'. -/
def integerAddsUptoCard : Claim7 := { stood := { row := integerAddsUptoRow, standIns := [], harness := (true, "7fe8400c43f11e669d59783c2cb37de2d5f662ea1aade8ceff097dc3a509cc24"), looks := true }, kinds := [], alts := [], laidByText := true, laidKinds := [.data, .data, .data, .data, .sentinel, .sentinel, .pinned], laidTests := true, laidLooks := .later }
def IntegerAddsUptoCardSaid : Prop := Claim7.holds Tryz.pinned (.plain (OpenSpec.upto integerAddsSpec)) integerAddsUptoCard
end Rows
end Go.Proofs.YteglfhmmkoahfaaGreatDoor
