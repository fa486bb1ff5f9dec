/- From a law's walk to its statement, where the row lists the two errors of strconv, too. -/
import Derived.Test.YteglfhmmkoahfaaGreatDoorWrap
namespace Go.Proofs.YteglfhmmkoahfaaGreatDoor
open Go.ChangeShapes Go.WideShapes Go.ChangeAt Go.RowKit Go.Joins

abbrev laid7 : List (String × DataW Unit) := [("math/bits.deBruijn32tab", Rows.laid_math_bits_deBruijn32tab), ("math/bits.deBruijn64tab", Rows.laid_math_bits_deBruijn64tab), ("internal/strconv.uint64pow10", Rows.laid_internal_strconv_uint64pow10), ("unicode/utf8.acceptRanges", Rows.laid_unicode_utf8_acceptRanges), ("strconv.ErrRange", Rows.laid_strconv_ErrRange), ("strconv.ErrSyntax", Rows.laid_strconv_ErrSyntax), ("unicode/utf8.first", Rows.laid_unicode_utf8_first)]
/-- What the rows' lists give. -/
theorem lib_of2 {W : World} (h : laidMetH Tryz.prog laid7 W) : Tab W := by
  have h' : laidMet Tryz.prog laid7 W := h
  exact Lib.tabIs_of_head (rest := laid7.tail.tail.tail) gTab gPowT Tryz.underlying134 Tryz.underlying59 cellsU64 cellsA20 h'.tail.tail
def laidHeap2 (h : Array Obj) : Array Obj :=
  ((layAt (layAt (laidHeap h) 3 #[.iface 154 (.pointer (some ⟨h.size, 0, none⟩))]) 2 #[.iface 154 (.pointer (some ⟨h.size + 1, 0, none⟩))]).push (.cells #[.string ⟨#[118, 97, 108, 117, 101, 32, 111, 117, 116, 32, 111, 102, 32, 114, 97, 110, 103, 101]⟩] 156)).push (.cells #[.string ⟨#[105, 110, 118, 97, 108, 105, 100, 32, 115, 121, 110, 116, 97, 120]⟩] 156)
noncomputable def laidWorld2 (os : Os) : World := { World.holding Tryz.prog os ⟨#[], #[], []⟩ with heap := laidHeap2 (World.holding Tryz.prog os ⟨#[], #[], []⟩).heap }
end Go.Proofs.YteglfhmmkoahfaaGreatDoor
