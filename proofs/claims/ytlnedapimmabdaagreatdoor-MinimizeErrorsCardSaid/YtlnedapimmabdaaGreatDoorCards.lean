/-
  DERIVED. GIVEN WITH THE SEED: THE CARDS: each row of YtlnedapimmabdaaGreatDoorRows.lean that lists a variable, with what it lists TIED to the program's text (the seventh form; the later family's looks); each row that meets fmt, with fmt's text TOLD by the authors' own Lean function (tested against real Go, not proved from fmt's source: count such statements apart). THE CARD IS WHAT COUNTS. Prove the row's statement (the work); the ties are given (YtlnedapimmabdaaGreatDoorTie.lean); close each card by the builder's one call (the guide's Derived/Test/ToyasCard.lean, 'card_holds'). Laid BY PROGRAM, IN A SANDBOX (cutbox-door.mjs). By AI agents, Wed Nov 11 2026. No macro, syntax, notation, axiom, sorry.
-/
import Derived.Test.YtlnedapimmabdaaGreatDoorRows
import GoSem.ClaimSeven
namespace Go.Proofs.YtlnedapimmabdaaGreatDoor
namespace Rows

/-- THE TIED CARD OF 'bombardelaw32.MinimizeCleans'. -/
def minimizeCleansCard : Claim7 := { stood := { row := minimizeCleansRow, standIns := [], harness := (true, "3809e25b20c1aec8af053a96080235b5fbfb07c714919f81579832abf51300cc"), looks := false }, kinds := [], alts := [], laidByText := true, laidKinds := [.data, .data, .data], laidTests := true, laidLooks := .later }
def MinimizeCleansCardSaid : Prop := Claim7.holds Tryz.pinned (.plain (OpenSpec.ofChange minimizeCleansSpec)) minimizeCleansCard

/-- THE TIED CARD OF 'bombardelaw32.MinimizeReduces'. -/
def minimizeReducesCard : Claim7 := { stood := { row := minimizeReducesRow, standIns := [], harness := (true, "3809e25b20c1aec8af053a96080235b5fbfb07c714919f81579832abf51300cc"), looks := false }, kinds := [], alts := [], laidByText := true, laidKinds := [.data, .data, .data], laidTests := true, laidLooks := .later }
def MinimizeReducesCardSaid : Prop := Claim7.holds Tryz.pinned (.plain (OpenSpec.ofChange minimizeReducesSpec)) minimizeReducesCard

/-- THE TIED CARD OF 'bombardelaw32.MinimizeCompares'. -/
def minimizeComparesCard : Claim7 := { stood := { row := minimizeComparesRow, standIns := [], harness := (true, "3809e25b20c1aec8af053a96080235b5fbfb07c714919f81579832abf51300cc"), looks := false }, kinds := [], alts := [], laidByText := true, laidKinds := [.data, .data, .data], laidTests := true, laidLooks := .later }
def MinimizeComparesCardSaid : Prop := Claim7.holds Tryz.pinned (.plain (OpenSpec.ofChange minimizeComparesSpec)) minimizeComparesCard

/-- THE TIED CARD OF 'bombardelaw32.MinimizeKeeps'. -/
def minimizeKeepsCard : Claim7 := { stood := { row := minimizeKeepsRow, standIns := [], harness := (true, "3809e25b20c1aec8af053a96080235b5fbfb07c714919f81579832abf51300cc"), looks := false }, kinds := [], alts := [], laidByText := true, laidKinds := [.data, .data, .data], laidTests := true, laidLooks := .later }
def MinimizeKeepsCardSaid : Prop := Claim7.holds Tryz.pinned (.plain (OpenSpec.ofChange minimizeKeepsSpec)) minimizeKeepsCard

/-- THE TIED CARD OF 'bombardelaw32.MinimizeLimits'. -/
def minimizeLimitsCard : Claim7 := { stood := { row := minimizeLimitsRow, standIns := [], harness := (true, "3809e25b20c1aec8af053a96080235b5fbfb07c714919f81579832abf51300cc"), looks := false }, kinds := [], alts := [], laidByText := true, laidKinds := [.data, .data, .data], laidTests := true, laidLooks := .later }
def MinimizeLimitsCardSaid : Prop := Claim7.holds Tryz.pinned (.plain (OpenSpec.ofChange minimizeLimitsSpec)) minimizeLimitsCard

/-- THE TIED CARD OF 'bombardelaw32.MinimizeTells'. -/
def minimizeTellsCard : Claim7 := { stood := { row := minimizeTellsRow, standIns := [], harness := (true, "3809e25b20c1aec8af053a96080235b5fbfb07c714919f81579832abf51300cc"), looks := false }, kinds := [], alts := [], laidByText := true, laidKinds := [.data, .data, .data], laidTests := true, laidLooks := .later }
def MinimizeTellsCardSaid : Prop := Claim7.holds Tryz.pinned (.plain (OpenSpec.ofChange minimizeTellsSpec)) minimizeTellsCard

/-- THE TIED CARD OF 'bombardelaw32.MinimizeSizes'. -/
def minimizeSizesCard : Claim7 := { stood := { row := minimizeSizesRow, standIns := [], harness := (true, "3809e25b20c1aec8af053a96080235b5fbfb07c714919f81579832abf51300cc"), looks := false }, kinds := [], alts := [], laidByText := true, laidKinds := [.data, .data, .data], laidTests := true, laidLooks := .later }
def MinimizeSizesCardSaid : Prop := Claim7.holds Tryz.pinned (.plain (OpenSpec.ofChange minimizeSizesSpec)) minimizeSizesCard

/-- THE TIED CARD OF 'bombardelaw32.MinimizeErrors'. -/
def minimizeErrorsCard : Claim7 := { stood := { row := minimizeErrorsRow, standIns := [], harness := (true, "3809e25b20c1aec8af053a96080235b5fbfb07c714919f81579832abf51300cc"), looks := false }, kinds := [], alts := [], laidByText := true, laidKinds := [.data, .data, .data], laidTests := true, laidLooks := .later }
def MinimizeErrorsCardSaid : Prop := Claim7.holds Tryz.pinned (.plain (OpenSpec.ofChange minimizeErrorsSpec)) minimizeErrorsCard

/-- THE SECOND FORM's CARD OF 'bombardelaw32.MinimizeCleans'. -/
def minimizeCleansUptoCard : Claim7 := { stood := { row := minimizeCleansUptoRow, standIns := [], harness := (true, "3809e25b20c1aec8af053a96080235b5fbfb07c714919f81579832abf51300cc"), looks := false }, kinds := [], alts := [], laidByText := true, laidKinds := [.data, .data, .data], laidTests := true, laidLooks := .later }
def MinimizeCleansUptoCardSaid : Prop := Claim7.holds Tryz.pinned (.plain (OpenSpec.upto minimizeCleansSpec)) minimizeCleansUptoCard

/-- THE SECOND FORM's CARD OF 'bombardelaw32.MinimizeReduces'. -/
def minimizeReducesUptoCard : Claim7 := { stood := { row := minimizeReducesUptoRow, standIns := [], harness := (true, "3809e25b20c1aec8af053a96080235b5fbfb07c714919f81579832abf51300cc"), looks := false }, kinds := [], alts := [], laidByText := true, laidKinds := [.data, .data, .data], laidTests := true, laidLooks := .later }
def MinimizeReducesUptoCardSaid : Prop := Claim7.holds Tryz.pinned (.plain (OpenSpec.upto minimizeReducesSpec)) minimizeReducesUptoCard

/-- THE SECOND FORM's CARD OF 'bombardelaw32.MinimizeCompares'. -/
def minimizeComparesUptoCard : Claim7 := { stood := { row := minimizeComparesUptoRow, standIns := [], harness := (true, "3809e25b20c1aec8af053a96080235b5fbfb07c714919f81579832abf51300cc"), looks := false }, kinds := [], alts := [], laidByText := true, laidKinds := [.data, .data, .data], laidTests := true, laidLooks := .later }
def MinimizeComparesUptoCardSaid : Prop := Claim7.holds Tryz.pinned (.plain (OpenSpec.upto minimizeComparesSpec)) minimizeComparesUptoCard

/-- THE SECOND FORM's CARD OF 'bombardelaw32.MinimizeKeeps'. -/
def minimizeKeepsUptoCard : Claim7 := { stood := { row := minimizeKeepsUptoRow, standIns := [], harness := (true, "3809e25b20c1aec8af053a96080235b5fbfb07c714919f81579832abf51300cc"), looks := false }, kinds := [], alts := [], laidByText := true, laidKinds := [.data, .data, .data], laidTests := true, laidLooks := .later }
def MinimizeKeepsUptoCardSaid : Prop := Claim7.holds Tryz.pinned (.plain (OpenSpec.upto minimizeKeepsSpec)) minimizeKeepsUptoCard

/-- THE SECOND FORM's CARD OF 'bombardelaw32.MinimizeLimits'. -/
def minimizeLimitsUptoCard : Claim7 := { stood := { row := minimizeLimitsUptoRow, standIns := [], harness := (true, "3809e25b20c1aec8af053a96080235b5fbfb07c714919f81579832abf51300cc"), looks := false }, kinds := [], alts := [], laidByText := true, laidKinds := [.data, .data, .data], laidTests := true, laidLooks := .later }
def MinimizeLimitsUptoCardSaid : Prop := Claim7.holds Tryz.pinned (.plain (OpenSpec.upto minimizeLimitsSpec)) minimizeLimitsUptoCard

/-- THE SECOND FORM's CARD OF 'bombardelaw32.MinimizeTells'. -/
def minimizeTellsUptoCard : Claim7 := { stood := { row := minimizeTellsUptoRow, standIns := [], harness := (true, "3809e25b20c1aec8af053a96080235b5fbfb07c714919f81579832abf51300cc"), looks := false }, kinds := [], alts := [], laidByText := true, laidKinds := [.data, .data, .data], laidTests := true, laidLooks := .later }
def MinimizeTellsUptoCardSaid : Prop := Claim7.holds Tryz.pinned (.plain (OpenSpec.upto minimizeTellsSpec)) minimizeTellsUptoCard

/-- THE SECOND FORM's CARD OF 'bombardelaw32.MinimizeSizes'. -/
def minimizeSizesUptoCard : Claim7 := { stood := { row := minimizeSizesUptoRow, standIns := [], harness := (true, "3809e25b20c1aec8af053a96080235b5fbfb07c714919f81579832abf51300cc"), looks := false }, kinds := [], alts := [], laidByText := true, laidKinds := [.data, .data, .data], laidTests := true, laidLooks := .later }
def MinimizeSizesUptoCardSaid : Prop := Claim7.holds Tryz.pinned (.plain (OpenSpec.upto minimizeSizesSpec)) minimizeSizesUptoCard

/-- THE SECOND FORM's CARD OF 'bombardelaw32.MinimizeErrors'. -/
def minimizeErrorsUptoCard : Claim7 := { stood := { row := minimizeErrorsUptoRow, standIns := [], harness := (true, "3809e25b20c1aec8af053a96080235b5fbfb07c714919f81579832abf51300cc"), looks := false }, kinds := [], alts := [], laidByText := true, laidKinds := [.data, .data, .data], laidTests := true, laidLooks := .later }
def MinimizeErrorsUptoCardSaid : Prop := Claim7.holds Tryz.pinned (.plain (OpenSpec.upto minimizeErrorsSpec)) minimizeErrorsUptoCard
end Rows
end Go.Proofs.YtlnedapimmabdaaGreatDoor
