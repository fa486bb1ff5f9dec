/- From a law's walk to its statement, where the row lists the two tables of utf8, too. -/
import Derived.Test.YtjojdkdpdlmahaaDoorWrap
import GoSem.PinnedTables
namespace Go.Proofs.YtjojdkdpdlmahaaDoor
open Go.ChangeShapes Go.WideShapes Go.ChangeAt Go.RowKit Go.Joins

abbrev laid7 : List (String × DataW Unit) := [("math/bits.deBruijn32tab", Rows.laid_math_bits_deBruijn32tab), ("math/bits.deBruijn64tab", Rows.laid_math_bits_deBruijn64tab), ("internal/strconv.uint64pow10", Rows.laid_internal_strconv_uint64pow10), ("unicode/utf8.acceptRanges", Rows.laid_unicode_utf8_acceptRanges), ("strconv.ErrRange", Rows.laid_strconv_ErrRange), ("strconv.ErrSyntax", Rows.laid_strconv_ErrSyntax), ("unicode/utf8.first", Rows.laid_unicode_utf8_first)]
/-- What the rows' lists give. -/
theorem lib_of2 {W : World} (h : laidMetH Tryd.prog laid7 W) : Lib3 W := by
  have h' : laidMet Tryd.prog laid7 W := h
  have h1 := h'.tail
  have h2 := h1.tail
  have h3 := h2.tail
  have h4 := h3.tail
  have h5 := h4.tail
  have t64 : Lib.TabIs Tryd.prog W "math/bits.deBruijn64tab" .u8 (Lib.deBruijn64tab.map fun n : Nat => (n : Int)) :=
    Lib.tabIs_of_head (rest := laid7.tail.tail) gTz gTzT Tryd.underlying104 Tryd.underlying5 cellsU8 cellsA64 h1
  refine ⟨Lib.tabIs_of_head (rest := laid7.tail.tail.tail) gTab gPowT Tryd.underlying123 Tryd.underlying32 cellsU64 cellsA20 h2, fun j hj => ?_, ?_, ?_⟩
  · rw [t64.cell gTz j (by rw [List.length_map]; exact hj)]
    have e : (Lib.deBruijn64tab.map fun n : Nat => (n : Int)).getD j 0 = (Lib.deBruijn64tab.getD j 0 : Nat) := by
      rw [List.getD_eq_getElem?_getD, List.getD_eq_getElem?_getD, List.getElem?_map]
      cases Lib.deBruijn64tab[j]? <;> rfl
    rw [e]
  · obtain ⟨a, s, hv, _⟩ := laid_sentinel h5 gSyn gSynT Tryd.underlying67 rowErr Tryd.underlying128 Tryd.underlying130 rfl rfl Tryd.underlying9 cellsErrS cellsStr
    exact ⟨_, _, hv⟩
  · obtain ⟨a, s, hv, _⟩ := laid_sentinel h4 gRng gRngT Tryd.underlying67 rowErr Tryd.underlying128 Tryd.underlying130 rfl rfl Tryd.underlying9 cellsErrS cellsStr
    exact ⟨_, _, hv⟩
def acceptZ : List Nat := [128, 191, 160, 191, 128, 159, 144, 191, 128, 143, 0, 0, 0, 0, 0, 0, 0, 0, 0, 0, 0, 0, 0, 0, 0, 0, 0, 0, 0, 0, 0, 0]
def laidHeap2 (h : Array Obj) : Array Obj :=
  layAt (layAt (laidHeap h) 6 (acceptZ.map fun n : Nat => Value.int .u8 (n : Int)).toArray) 5 (Go.Pinned.utf8FirstZ.map fun n : Nat => Value.int .u8 (n : Int)).toArray
noncomputable def laidWorld2 (os : Os) : World := { World.holding Tryd.prog os ⟨#[], #[], []⟩ with heap := laidHeap2 (World.holding Tryd.prog os ⟨#[], #[], []⟩).heap }
end Go.Proofs.YtjojdkdpdlmahaaDoor
