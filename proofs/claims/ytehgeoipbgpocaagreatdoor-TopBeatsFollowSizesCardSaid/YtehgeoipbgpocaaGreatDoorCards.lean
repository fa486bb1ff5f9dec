/-
  DERIVED. GIVEN WITH THE SEED: THE CARDS: each row of YtehgeoipbgpocaaGreatDoorRows.lean that lists a variable, with what it lists TIED to the program's text (the seventh form; the later family's looks); each row that meets fmt, with fmt's text TOLD by the authors' own Lean function (tested against real Go, not proved from fmt's source: count such statements apart). THE CARD IS WHAT COUNTS. Prove the row's statement (the work); the ties are given (YtehgeoipbgpocaaGreatDoorTie.lean); close each card by the builder's one call (the guide's Derived/Test/ToyasCard.lean, 'card_holds'). Laid BY PROGRAM, IN A SANDBOX (cutbox-door.mjs). By AI agents, Wed Nov 11 2026. No macro, syntax, notation, axiom, sorry.
-/
import Derived.Test.YtehgeoipbgpocaaGreatDoorRows
import GoSem.ClaimSeven
namespace Go.Proofs.YtehgeoipbgpocaaGreatDoor
namespace Rows

/-- THE TIED CARD OF 'bombardetop.TopBeatsFollowSizes'. -/
def topBeatsFollowSizesCard : Claim7 := { stood := { row := topBeatsFollowSizesRow, standIns := [], harness := (true, "025e08bce60d802904347b93bdff5b8442df8dd503fc1ccef3faef9546e47781"), looks := false }, kinds := [], alts := [], laidByText := true, laidKinds := [.data, .data, .data], laidTests := true, laidLooks := .later }
def TopBeatsFollowSizesCardSaid : Prop := Claim7.holds Tryz.pinned (.plain (OpenSpec.ofChange topBeatsFollowSizesSpec)) topBeatsFollowSizesCard

/-- THE TIED CARD OF 'bombardetop.TopTransfersLose'. -/
def topTransfersLoseCard : Claim7 := { stood := { row := topTransfersLoseRow, standIns := [], harness := (true, "025e08bce60d802904347b93bdff5b8442df8dd503fc1ccef3faef9546e47781"), looks := false }, kinds := [], alts := [], laidByText := true, laidKinds := [.data, .data, .data], laidTests := true, laidLooks := .later }
def TopTransfersLoseCardSaid : Prop := Claim7.holds Tryz.pinned (.plain (OpenSpec.ofChange topTransfersLoseSpec)) topTransfersLoseCard

/-- THE TIED CARD OF 'bombardetop.TopMatchingsAreAccepted'. -/
def topMatchingsAreAcceptedCard : Claim7 := { stood := { row := topMatchingsAreAcceptedRow, standIns := [], harness := (true, "025e08bce60d802904347b93bdff5b8442df8dd503fc1ccef3faef9546e47781"), looks := false }, kinds := [], alts := [], laidByText := true, laidKinds := [.data, .data, .data], laidTests := true, laidLooks := .later }
def TopMatchingsAreAcceptedCardSaid : Prop := Claim7.holds Tryz.pinned (.plain (OpenSpec.ofChange topMatchingsAreAcceptedSpec)) topMatchingsAreAcceptedCard

/-- THE SECOND FORM's CARD OF 'bombardetop.TopBeatsFollowSizes'. -/
def topBeatsFollowSizesUptoCard : Claim7 := { stood := { row := topBeatsFollowSizesUptoRow, standIns := [], harness := (true, "025e08bce60d802904347b93bdff5b8442df8dd503fc1ccef3faef9546e47781"), looks := false }, kinds := [], alts := [], laidByText := true, laidKinds := [.data, .data, .data], laidTests := true, laidLooks := .later }
def TopBeatsFollowSizesUptoCardSaid : Prop := Claim7.holds Tryz.pinned (.plain (OpenSpec.upto topBeatsFollowSizesSpec)) topBeatsFollowSizesUptoCard

/-- THE SECOND FORM's CARD OF 'bombardetop.TopTransfersLose'. -/
def topTransfersLoseUptoCard : Claim7 := { stood := { row := topTransfersLoseUptoRow, standIns := [], harness := (true, "025e08bce60d802904347b93bdff5b8442df8dd503fc1ccef3faef9546e47781"), looks := false }, kinds := [], alts := [], laidByText := true, laidKinds := [.data, .data, .data], laidTests := true, laidLooks := .later }
def TopTransfersLoseUptoCardSaid : Prop := Claim7.holds Tryz.pinned (.plain (OpenSpec.upto topTransfersLoseSpec)) topTransfersLoseUptoCard

/-- THE SECOND FORM's CARD OF 'bombardetop.TopMatchingsAreAccepted'. -/
def topMatchingsAreAcceptedUptoCard : Claim7 := { stood := { row := topMatchingsAreAcceptedUptoRow, standIns := [], harness := (true, "025e08bce60d802904347b93bdff5b8442df8dd503fc1ccef3faef9546e47781"), looks := false }, kinds := [], alts := [], laidByText := true, laidKinds := [.data, .data, .data], laidTests := true, laidLooks := .later }
def TopMatchingsAreAcceptedUptoCardSaid : Prop := Claim7.holds Tryz.pinned (.plain (OpenSpec.upto topMatchingsAreAcceptedSpec)) topMatchingsAreAcceptedUptoCard
end Rows
end Go.Proofs.YtehgeoipbgpocaaGreatDoor
