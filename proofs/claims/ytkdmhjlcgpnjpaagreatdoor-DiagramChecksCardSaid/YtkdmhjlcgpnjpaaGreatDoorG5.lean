/- clone, constant, result. -/
import Derived.Test.YtkdmhjlcgpnjpaaGreatDoorFm
import Derived.Test.YtkdmhjlcgpnjpaaGreatDoorG4
import Derived.Test.YtkdmhjlcgpnjpaaGreatDoorCm
namespace Go.Proofs.YtkdmhjlcgpnjpaaGreatDoor
set_option linter.unusedVariables false
set_option linter.unusedSimpArgs false
open Go.RowKit F
attribute [local go_sem low] Bel.cell Bel.frozen alloc_cell alloc_frozen
attribute [local go_sem] calmOp chainOp yieldsC grows

theorem obj_set {W : World} {b i : Nat} {vs : Array Value} {t : TypeId} (x : Value) (h : W.heap[b]? = some (.cells vs t (0, 0))) : (W.setCell ⟨b, i, none⟩ x).heap[b]? = some (.cells (vs.setIfInBounds i x) t (0, 0)) := by
  obtain ⟨hlt, hk⟩ := Array.getElem?_eq_some_iff.1 h
  show (W.heap.modify b _)[b]? = _
  rw [Array.getElem?_eq_getElem (by rw [Array.size_modify]; exact hlt), Array.getElem_modify_self, hk]
  rfl
theorem obj_ne {W : World} {b c i : Nat} {o : Obj} (x : Value) (hne : b ≠ c) (h : W.heap[b]? = some o) : (W.setCell ⟨c, i, none⟩ x).heap[b]? = some o := by
  rw [Below.heap_setCell _ _ _ _ (fun e => hne (by first | exact e | exact e.symm))]; exact h
theorem set_grown (W : World) (b i : Nat) (v : Value) : W.grownBy (W.setCell ⟨b, i, none⟩ v) (some b) :=
  ⟨rfl, rfl, rfl, (KeepsWalks.setCell W _ v).size, fun k _ hk => Below.heap_setCell _ _ _ k (fun e => hk (by rw [e]))⟩
theorem ownF_set {w : World} {base : Nat} {e : TypeId} {v : Value} {l : List F} (h : OwnF w base e v l) {b i : Nat} (hb : b < base) (x : Value) : OwnF (w.setCell ⟨b, i, none⟩ x) base e v l := by
  have hob := fun c => ownF_block (b := c) h
  obtain ⟨us, h1, h2, h3⟩ := h
  refine ⟨us, h1, World.ownsRow.kept h2 (set_grown w b i x) (.inr (fun hk => ?_)), fun j t ad cap hj => (h3 j t ad cap hj).move (fun c off u hc hu => ?_) (fun _ _ h => h)⟩
  · have := hob b hk
    omega
  · rw [World.cell?_of_block (Below.heap_setCell _ _ _ c (fun e => by have := hc.1; have e : c = b := e; omega))]
    exact hu
theorem ownF_insv {w : World} {base n : Nat} {e : TypeId} {va : Option Addr} {vc : Nat} {l : List F} (h : OwnF w base e (.slice va n vc) l) : InsF (fun b => base ≤ b) w va l := by
  obtain ⟨ad, cap, hv, hi⟩ := ownF_ins h
  injection hv with e1 _ _
  rw [e1]
  exact hi
theorem obj_alloc {W : World} {b : Nat} {o : Obj} (o' : Obj) (h : W.heap[b]? = some o) : (W.alloc o').heap[b]? = some o :=
  (Below.heap_alloc _ _ b (Array.getElem?_eq_some_iff.1 h).1).trans h
theorem obj_bel {W : World} {b : Nat} {o : Obj} (y : Bel W) (h : W.heap[b]? = some o) : y.w.heap[b]? = some o :=
  (y.below.block b (Array.getElem?_eq_some_iff.1 h).1).trans h
theorem obj_below {W W' : World} {n b : Nat} {o : Obj} (hb : Below n W W') (hn : b < n) (h : W.heap[b]? = some o) : W'.heap[b]? = some o := (hb.block b hn).trans h
theorem box3f {W : World} {b : Nat} {x y z : Value} {e : TypeId} (h : W.heap[b]? = some (.cells #[x, y, z] e (0, 0))) : W.frozen? ⟨b, 0, none⟩ = false ∧ W.frozen? ⟨b, 1, none⟩ = false ∧ W.frozen? ⟨b, 2, none⟩ = false := by
  refine ⟨?_, ?_, ?_⟩ <;> simp [World.frozen?, h]
/-- A struct of three cells that is stored whole. -/
theorem obj_set3 {W : World} {b : Nat} {x y z : Value} {t : TypeId} (x' y' z' : Value) (h : W.heap[b]? = some (.cells #[x, y, z] t (0, 0))) :
    (((W.setCell ⟨b, 0, none⟩ x').setCell ⟨b, 1, none⟩ y').setCell ⟨b, 2, none⟩ z').heap[b]? = some (.cells #[x', y', z'] t (0, 0)) := obj_set z' (obj_set y' (obj_set x' h))
theorem Tryz.infoF : (Tryz.prog.info? 26).map (fun i => (i.zero, i.size, i.bytes)) = some (some (.agg #[.int .i64 0, .int .i64 0, .slice none 0 0]), 3, 40) := by kernel_rfl
end Go.Proofs.YtkdmhjlcgpnjpaaGreatDoor
