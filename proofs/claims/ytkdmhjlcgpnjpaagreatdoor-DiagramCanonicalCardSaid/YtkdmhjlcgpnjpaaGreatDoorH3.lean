/- The library's table; texts of lists. -/
import Derived.Test.YtkdmhjlcgpnjpaaGreatDoorShelf
import Derived.Test.YtkdmhjlcgpnjpaaGreatDoorCm
import Derived.Test.YtkdmhjlcgpnjpaaGreatDoorG8
import Derived.Shelf.Strconv.Itoa3
namespace Go.Proofs.YtkdmhjlcgpnjpaaGreatDoor
set_option linter.unusedVariables false
set_option linter.unusedSimpArgs false
open Go.RowKit Go.Shelf Go.Sort F
attribute [local go_sem low] Bel.cell Bel.frozen alloc_cell alloc_frozen

/-- The library's table of powers lies in the world. -/
def Tab (w : World) : Prop := Lib.TabIs Tryz.prog w "internal/strconv.uint64pow10" .u64 Lib.pow10Tab
theorem gTab : Tryz.prog.globalNamed "internal/strconv.uint64pow10" = some 0 := by kernel_rfl
theorem Tab.lt {w : World} (h : Tab w) : 0 < w.heap.size := by
  have h' := h
  unfold Tab Lib.TabIs World.var? at h'
  simp only [gTab, Option.bind_some] at h'
  refine Nat.lt_of_not_le fun h0 => ?_
  rw [Array.getElem?_eq_none h0] at h'
  cases h'
theorem Tab.ofB {w w' : World} {B : Nat} (h : Tab w) (hB : 0 < B) (hb : Below B w w') : Tab w' := var?_below hb gTab hB h
theorem Tab.of {w w' : World} (h : Tab w) (hb : Below w.heap.size w w') : Tab w' := h.ofB h.lt hb
theorem below_grow (w : World) (k : Nat) (os : Array Obj) : Below w.heap.size w (Sort.grow (w.drewN k) os) :=
  ⟨rfl, rfl, rfl, by simp [Sort.grow], fun i hi => by
    show (w.heap ++ os)[i]? = _
    rw [Array.getElem?_append, if_pos hi]⟩
theorem itoa_any (n : Int) (w : World) (h0 : -9223372036854775808 ≤ n) (h1 : n ≤ 9223372036854775807) (hT : Tab w) :
    Calls Tryz.prog 56 #[.int .i64 n] w (Ret (.string ⟨(Lib.itoa n).toArray⟩) w) :=
  (Tryz.strconv_Itoa n h0 h1 w hT).mono fun _ _ ⟨he, k, os, hw⟩ => ⟨he, ⟨_, below_grow w k os⟩, hw⟩
theorem txtL_take {l : List F} {k : Nat} {u : F} (h : l[k]? = some u) : txtL (l.take (k + 1)) = txtL (l.take k) ++ (if k = 0 then txt u else 32 :: txt u) := by
  rw [List.take_add_one, h]
  show txtL (l.take k ++ [u]) = _
  rw [txtL_snoc]
  have hk := (List.getElem?_eq_some_iff.1 h).1
  by_cases h0 : k = 0
  · subst h0; rfl
  · rw [if_neg h0, if_neg]
    intro e
    have := congrArg List.length e
    rw [List.length_take, List.length_nil] at this
    omega
end Go.Proofs.YtkdmhjlcgpnjpaaGreatDoor
