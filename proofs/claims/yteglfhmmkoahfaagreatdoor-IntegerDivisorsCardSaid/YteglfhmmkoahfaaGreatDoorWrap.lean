/- From a law's walk to its statement: what every law of this seat needs. -/
import Derived.Test.YteglfhmmkoahfaaGreatDoorWrap0
import Derived.Test.YteglfhmmkoahfaaGreatDoorM8
import Derived.Test.YteglfhmmkoahfaaGreatDoorRows
import Derived.Test.YteglfhmmkoahfaaGreatDoorCards
import Derived.Test.YteglfhmmkoahfaaGreatDoorTie
import Derived.SevenTiedAt
import GoSem.PinnedTables
import Derived.Lib.TrailingZeros
import Derived.Lib.TrailingZeros
namespace Go.Proofs.YteglfhmmkoahfaaGreatDoor
open Go.ChangeShapes Go.WideShapes Go.ChangeAt Go.RowKit Go.Joins

theorem own : ownKnob Tryz.prog.godebug = none := by kernel_rfl
theorem laidOut : laidOutB Tryz.prog = true := by kernel_rfl
theorem gPowT : (Tryz.prog.globals[1]?).map (·.type) = some 134 := by kernel_rfl
theorem cellsU64 : Tryz.prog.cellsOf 59 = 1 := by kernel_rfl
theorem cellsA20 : Tryz.prog.cellsOf 134 = 20 := by kernel_rfl
abbrev laid5 : List (String × DataW Unit) := [("math/bits.deBruijn32tab", Rows.laid_math_bits_deBruijn32tab), ("math/bits.deBruijn64tab", Rows.laid_math_bits_deBruijn64tab), ("internal/strconv.uint64pow10", Rows.laid_internal_strconv_uint64pow10), ("unicode/utf8.acceptRanges", Rows.laid_unicode_utf8_acceptRanges), ("unicode/utf8.first", Rows.laid_unicode_utf8_first)]
/-- What the rows' lists give. -/
theorem lib_of {W : World} (h : laidMetH Tryz.prog laid5 W) : Tab W := by
  have h' : laidMet Tryz.prog laid5 W := h
  exact Lib.tabIs_of_head (rest := laid5.tail.tail.tail) gTab gPowT Tryz.underlying134 Tryz.underlying59 cellsU64 cellsA20 h'.tail.tail
def acceptZ : List Nat := [128, 191, 160, 191, 128, 159, 144, 191, 128, 143, 0, 0, 0, 0, 0, 0, 0, 0, 0, 0, 0, 0, 0, 0, 0, 0, 0, 0, 0, 0, 0, 0]
def laidHeap (h : Array Obj) : Array Obj :=
  layAt (layAt (layAt (layAt (layAt h 7 ((Lib.deBruijn64tab.map fun n : Nat => Value.int .u8 (n : Int)).toArray)) 6 ((Lib.deBruijn32tab.map fun n : Nat => Value.int .u8 (n : Int)).toArray)) 1 ((Lib.pow10Tab.map fun z => Value.int .u64 z).toArray))
    5 (acceptZ.map fun n : Nat => Value.int .u8 (n : Int)).toArray) 4 (Go.Pinned.utf8FirstZ.map fun n : Nat => Value.int .u8 (n : Int)).toArray
noncomputable def laidWorld (os : Os) : World := { World.holding Tryz.prog os ⟨#[], #[], []⟩ with heap := laidHeap (World.holding Tryz.prog os ⟨#[], #[], []⟩).heap }
end Go.Proofs.YteglfhmmkoahfaaGreatDoor
