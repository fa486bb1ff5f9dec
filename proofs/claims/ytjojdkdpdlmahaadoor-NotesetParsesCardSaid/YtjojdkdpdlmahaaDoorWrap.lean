/- From a law's walk to its statement: what every law of this seat needs. -/
import Derived.Test.YtjojdkdpdlmahaaDoorWrap0
import Derived.Test.YtjojdkdpdlmahaaDoorK
import Derived.Test.YtjojdkdpdlmahaaDoorRows
import Derived.Test.YtjojdkdpdlmahaaDoorCards
import Derived.Test.YtjojdkdpdlmahaaDoorTie
import Derived.SevenTiedAt
namespace Go.Proofs.YtjojdkdpdlmahaaDoor
open Go.ChangeShapes Go.WideShapes Go.ChangeAt Go.RowKit Go.Joins

theorem own : ownKnob Tryd.prog.godebug = none := by kernel_rfl
theorem laidOut : laidOutB Tryd.prog = true := by kernel_rfl
theorem gPowT : (Tryd.prog.globals[4]?).map (·.type) = some 123 := by kernel_rfl
theorem gTz : Tryd.prog.globalNamed "math/bits.deBruijn64tab" = some 0 := by kernel_rfl
theorem gTzT : (Tryd.prog.globals[0]?).map (·.type) = some 104 := by kernel_rfl
theorem gSynT : (Tryd.prog.globals[2]?).map (·.type) = some 67 := by kernel_rfl
theorem gRngT : (Tryd.prog.globals[3]?).map (·.type) = some 67 := by kernel_rfl
theorem cellsU64 : Tryd.prog.cellsOf 32 = 1 := by kernel_rfl
theorem cellsU8 : Tryd.prog.cellsOf 5 = 1 := by kernel_rfl
theorem cellsA20 : Tryd.prog.cellsOf 123 = 20 := by kernel_rfl
theorem cellsA64 : Tryd.prog.cellsOf 104 = 64 := by kernel_rfl
theorem cellsInt : Tryd.prog.cellsOf 3 = 1 := by kernel_rfl
theorem cellsStr : Tryd.prog.cellsOf 9 = 1 := by kernel_rfl
theorem cellsErrS : Tryd.prog.cellsOf 130 = 1 := by kernel_rfl
theorem cellsNotes : Tryd.prog.cellsOf 34 = 2 := by kernel_rfl
theorem cellsCompass : Tryd.prog.cellsOf 46 = 2 := by kernel_rfl
theorem rowErr (u : TypeId) (h : Tryd.prog.typeName? 3 u = some "*errors.errorString") : u = 128 :=
  typeName_ptr_named (nm := "errors.errorString") (by kernel_rfl) (by kernel_rfl) (by decide) u h

/-- What the rows' lists give. -/
theorem lib_of {W : World} (h : laidMetH Tryd.prog [("math/bits.deBruijn32tab", Rows.laid_math_bits_deBruijn32tab), ("math/bits.deBruijn64tab", Rows.laid_math_bits_deBruijn64tab), ("internal/strconv.uint64pow10", Rows.laid_internal_strconv_uint64pow10), ("strconv.ErrRange", Rows.laid_strconv_ErrRange), ("strconv.ErrSyntax", Rows.laid_strconv_ErrSyntax)] W) : Lib3 W := by
  have h' : laidMet Tryd.prog [("math/bits.deBruijn32tab", Rows.laid_math_bits_deBruijn32tab), ("math/bits.deBruijn64tab", Rows.laid_math_bits_deBruijn64tab), ("internal/strconv.uint64pow10", Rows.laid_internal_strconv_uint64pow10), ("strconv.ErrRange", Rows.laid_strconv_ErrRange), ("strconv.ErrSyntax", Rows.laid_strconv_ErrSyntax)] W := h
  have h1 := h'.tail
  have h2 := h1.tail
  have h3 := h2.tail
  have h4 := h3.tail
  have t64 : Lib.TabIs Tryd.prog W "math/bits.deBruijn64tab" .u8 (Lib.deBruijn64tab.map fun n : Nat => (n : Int)) :=
    Lib.tabIs_of_head (rest := [("internal/strconv.uint64pow10", Rows.laid_internal_strconv_uint64pow10), ("strconv.ErrRange", Rows.laid_strconv_ErrRange), ("strconv.ErrSyntax", Rows.laid_strconv_ErrSyntax)]) gTz gTzT Tryd.underlying104 Tryd.underlying5 cellsU8 cellsA64 h1
  refine ⟨Lib.tabIs_of_head (rest := [("strconv.ErrRange", Rows.laid_strconv_ErrRange), ("strconv.ErrSyntax", Rows.laid_strconv_ErrSyntax)]) gTab gPowT Tryd.underlying123 Tryd.underlying32 cellsU64 cellsA20 h2, fun j hj => ?_, ?_, ?_⟩
  · rw [t64.cell gTz j (by rw [List.length_map]; exact hj)]
    have e : (Lib.deBruijn64tab.map fun n : Nat => (n : Int)).getD j 0 = (Lib.deBruijn64tab.getD j 0 : Nat) := by
      rw [List.getD_eq_getElem?_getD, List.getD_eq_getElem?_getD, List.getElem?_map]
      cases Lib.deBruijn64tab[j]? <;> rfl
    rw [e]
  · obtain ⟨a, s, hv, _⟩ := laid_sentinel h4 gSyn gSynT Tryd.underlying67 rowErr Tryd.underlying128 Tryd.underlying130 rfl rfl Tryd.underlying9 cellsErrS cellsStr
    exact ⟨_, _, hv⟩
  · obtain ⟨a, s, hv, _⟩ := laid_sentinel h3 gRng gRngT Tryd.underlying67 rowErr Tryd.underlying128 Tryd.underlying130 rfl rfl Tryd.underlying9 cellsErrS cellsStr
    exact ⟨_, _, hv⟩

/-- The heap of a world for the witness: the settled one, the tables and the errors laid as their initialisers lay them. -/
def laidHeap (h : Array Obj) : Array Obj :=
  ((layAt (layAt (layAt (layAt (layAt h 0 ((Lib.deBruijn64tab.map fun n : Nat => Value.int .u8 (n : Int)).toArray)) 7 ((Lib.deBruijn32tab.map fun n : Nat => Value.int .u8 (n : Int)).toArray)) 4 ((Lib.pow10Tab.map fun z => Value.int .u64 z).toArray))
    3 #[.iface 128 (.pointer (some ⟨h.size, 0, none⟩))]) 2 #[.iface 128 (.pointer (some ⟨h.size + 1, 0, none⟩))]).push (.cells #[.string ⟨#[118, 97, 108, 117, 101, 32, 111, 117, 116, 32, 111, 102, 32, 114, 97, 110, 103, 101]⟩] 130)).push (.cells #[.string ⟨#[105, 110, 118, 97, 108, 105, 100, 32, 115, 121, 110, 116, 97, 120]⟩] 130)
noncomputable def laidWorld (os : Os) : World := { World.holding Tryd.prog os ⟨#[], #[], []⟩ with heap := laidHeap (World.holding Tryd.prog os ⟨#[], #[], []⟩).heap }
end Go.Proofs.YtjojdkdpdlmahaaDoor
