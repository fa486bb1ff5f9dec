/- From a law's walk to its statement: what every law of this seat needs. -/
import Derived.Test.YtkbellmhanpocaaDoorWrap0
import Derived.Test.YtkbellmhanpocaaDoorH2
import Derived.Test.YtkbellmhanpocaaDoorRows
import Derived.Test.YtkbellmhanpocaaDoorCards
import Derived.Test.YtkbellmhanpocaaDoorTie
import Derived.SevenTiedAt
import Derived.Lib.TrailingZeros
namespace Go.Proofs.YtkbellmhanpocaaDoor
open Go.ChangeShapes Go.WideShapes Go.ChangeAt Go.RowKit Go.Joins

theorem own : ownKnob Tryd.prog.godebug = none := by kernel_rfl
theorem laidOut : laidOutB Tryd.prog = true := by kernel_rfl
theorem gPowT : (Tryd.prog.globals[2]?).map (·.type) = some 160 := by kernel_rfl
theorem cellsU64 : Tryd.prog.cellsOf 52 = 1 := by kernel_rfl
theorem cellsU8 : Tryd.prog.cellsOf 5 = 1 := by kernel_rfl
theorem cellsA20 : Tryd.prog.cellsOf 160 = 20 := by kernel_rfl
theorem cellsBool : Tryd.prog.cellsOf 4 = 1 := by kernel_rfl
abbrev laid5 : List (String × DataW Unit) := [("math/bits.deBruijn32tab", Rows.laid_math_bits_deBruijn32tab), ("math/bits.deBruijn64tab", Rows.laid_math_bits_deBruijn64tab), ("internal/strconv.uint64pow10", Rows.laid_internal_strconv_uint64pow10), ("strconv.ErrRange", Rows.laid_strconv_ErrRange), ("strconv.ErrSyntax", Rows.laid_strconv_ErrSyntax)]
/-- What the rows' lists give. -/
theorem lib_of {W : World} (h : laidMetH Tryd.prog laid5 W) : Tab W := by
  have h' : laidMet Tryd.prog laid5 W := h
  exact Lib.tabIs_of_head (rest := laid5.tail.tail.tail) gTab gPowT Tryd.underlying160 Tryd.underlying52 cellsU64 cellsA20 h'.tail.tail
/-- The heap of a world for the witness: the settled one, the tables and the errors laid as their initialisers lay them. -/
def laidHeap (h : Array Obj) : Array Obj :=
  ((layAt (layAt (layAt (layAt (layAt h 4 ((Lib.deBruijn64tab.map fun n : Nat => Value.int .u8 (n : Int)).toArray)) 3 ((Lib.deBruijn32tab.map fun n : Nat => Value.int .u8 (n : Int)).toArray)) 2 ((Lib.pow10Tab.map fun z => Value.int .u64 z).toArray))
    1 #[.iface 164 (.pointer (some ⟨h.size, 0, none⟩))]) 0 #[.iface 164 (.pointer (some ⟨h.size + 1, 0, none⟩))]).push (.cells #[.string ⟨#[118, 97, 108, 117, 101, 32, 111, 117, 116, 32, 111, 102, 32, 114, 97, 110, 103, 101]⟩] 166)).push (.cells #[.string ⟨#[105, 110, 118, 97, 108, 105, 100, 32, 115, 121, 110, 116, 97, 120]⟩] 166)
noncomputable def laidWorld (os : Os) : World := { World.holding Tryd.prog os ⟨#[], #[], []⟩ with heap := laidHeap (World.holding Tryd.prog os ⟨#[], #[], []⟩).heap }
end Go.Proofs.YtkbellmhanpocaaDoor
