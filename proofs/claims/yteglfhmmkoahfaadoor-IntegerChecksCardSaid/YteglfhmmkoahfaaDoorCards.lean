/-
  DERIVED. GIVEN WITH THE SEED: THE CARDS: each row of YteglfhmmkoahfaaDoorRows.lean that lists a variable, with what it lists TIED to the program's text (the seventh form; the later family's looks); each row that meets fmt, with fmt's text TOLD by the authors' own Lean function (tested against real Go, not proved from fmt's source: count such statements apart). THE CARD IS WHAT COUNTS. Prove the row's statement (the work); the ties are given (YteglfhmmkoahfaaDoorTie.lean); close each card by the builder's one call (the guide's Derived/Test/ToyasCard.lean, 'card_holds'). Laid BY PROGRAM, IN A SANDBOX (cutbox-door.mjs). By AI agents, Wed Nov 11 2026. No macro, syntax, notation, axiom, sorry.
-/
import Derived.Test.YteglfhmmkoahfaaDoorRows
import GoSem.ClaimSeven
namespace Go.Proofs.YteglfhmmkoahfaaDoor
namespace Rows

/-- THE TIED CARD OF 'bombardelaw01.IntegerParses'. -/
def integerParsesCard : Claim7 := { stood := { row := integerParsesRow, standIns := [], harness := (true, "eb7ece7ada8562576eea333aa7205ac089ffc6f58e42cb12f1bbc57bd9f65526"), looks := true }, kinds := [], alts := [], laidByText := true, laidKinds := [.data, .data, .data, .data, .pinned], laidTests := true, laidLooks := .later }
def IntegerParsesCardSaid : Prop := Claim7.holds Tryd.pinned (.plain (OpenSpec.ofChange integerParsesSpec)) integerParsesCard

/-- THE TIED CARD OF 'bombardelaw01.IntegerLimits'. -/
def integerLimitsCard : Claim7 := { stood := { row := integerLimitsRow, standIns := [], harness := (true, "eb7ece7ada8562576eea333aa7205ac089ffc6f58e42cb12f1bbc57bd9f65526"), looks := true }, kinds := [], alts := [], laidByText := true, laidKinds := [.data, .data, .data, .data, .pinned], laidTests := true, laidLooks := .later }
def IntegerLimitsCardSaid : Prop := Claim7.holds Tryd.pinned (.plain (OpenSpec.ofChange integerLimitsSpec)) integerLimitsCard

/-- THE TIED CARD OF 'bombardelaw01.IntegerRing'. -/
def integerRingCard : Claim7 := { stood := { row := integerRingRow, standIns := [], harness := (true, "eb7ece7ada8562576eea333aa7205ac089ffc6f58e42cb12f1bbc57bd9f65526"), looks := true }, kinds := [], alts := [], laidByText := true, laidKinds := [.data, .data, .data, .data, .pinned], laidTests := true, laidLooks := .later }
def IntegerRingCardSaid : Prop := Claim7.holds Tryd.pinned (.plain (OpenSpec.ofChange integerRingSpec)) integerRingCard

/-- THE TIED CARD OF 'bombardelaw01.IntegerChecks'. -/
def integerChecksCard : Claim7 := { stood := { row := integerChecksRow, standIns := [], harness := (true, "eb7ece7ada8562576eea333aa7205ac089ffc6f58e42cb12f1bbc57bd9f65526"), looks := true }, kinds := [], alts := [], laidByText := true, laidKinds := [.data, .data, .data, .data, .sentinel, .sentinel, .pinned], laidTests := true, laidLooks := .later }
def IntegerChecksCardSaid : Prop := Claim7.holds Tryd.pinned (.plain (OpenSpec.ofChange integerChecksSpec)) integerChecksCard

/-- THE SECOND FORM's CARD OF 'bombardelaw01.IntegerParses'. -/
def integerParsesUptoCard : Claim7 := { stood := { row := integerParsesUptoRow, standIns := [], harness := (true, "eb7ece7ada8562576eea333aa7205ac089ffc6f58e42cb12f1bbc57bd9f65526"), looks := true }, kinds := [], alts := [], laidByText := true, laidKinds := [.data, .data, .data, .data, .pinned], laidTests := true, laidLooks := .later }
def IntegerParsesUptoCardSaid : Prop := Claim7.holds Tryd.pinned (.plain (OpenSpec.upto integerParsesSpec)) integerParsesUptoCard

/-- THE SECOND FORM's CARD OF 'bombardelaw01.IntegerLimits'. -/
def integerLimitsUptoCard : Claim7 := { stood := { row := integerLimitsUptoRow, standIns := [], harness := (true, "eb7ece7ada8562576eea333aa7205ac089ffc6f58e42cb12f1bbc57bd9f65526"), looks := true }, kinds := [], alts := [], laidByText := true, laidKinds := [.data, .data, .data, .data, .pinned], laidTests := true, laidLooks := .later }
def IntegerLimitsUptoCardSaid : Prop := Claim7.holds Tryd.pinned (.plain (OpenSpec.upto integerLimitsSpec)) integerLimitsUptoCard

/-- THE SECOND FORM's CARD OF 'bombardelaw01.IntegerRing'. -/
def integerRingUptoCard : Claim7 := { stood := { row := integerRingUptoRow, standIns := [], harness := (true, "eb7ece7ada8562576eea333aa7205ac089ffc6f58e42cb12f1bbc57bd9f65526"), looks := true }, kinds := [], alts := [], laidByText := true, laidKinds := [.data, .data, .data, .data, .pinned], laidTests := true, laidLooks := .later }
def IntegerRingUptoCardSaid : Prop := Claim7.holds Tryd.pinned (.plain (OpenSpec.upto integerRingSpec)) integerRingUptoCard

/-- THE SECOND FORM's CARD OF 'bombardelaw01.IntegerChecks'. -/
def integerChecksUptoCard : Claim7 := { stood := { row := integerChecksUptoRow, standIns := [], harness := (true, "eb7ece7ada8562576eea333aa7205ac089ffc6f58e42cb12f1bbc57bd9f65526"), looks := true }, kinds := [], alts := [], laidByText := true, laidKinds := [.data, .data, .data, .data, .sentinel, .sentinel, .pinned], laidTests := true, laidLooks := .later }
def IntegerChecksUptoCardSaid : Prop := Claim7.holds Tryd.pinned (.plain (OpenSpec.upto integerChecksSpec)) integerChecksUptoCard
end Rows
end Go.Proofs.YteglfhmmkoahfaaDoor
