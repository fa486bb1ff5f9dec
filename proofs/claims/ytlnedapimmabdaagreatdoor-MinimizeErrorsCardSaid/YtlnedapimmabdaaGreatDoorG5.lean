/- Objects in memory. -/
import Derived.Test.YtlnedapimmabdaaGreatDoorCm
import Derived.Test.YtlnedapimmabdaaGreatDoorProg
namespace Go.Proofs.YtlnedapimmabdaaGreatDoor
set_option linter.unusedVariables false
set_option linter.unusedSimpArgs false
open Go.RowKit
attribute [local go_sem low] Bel.cell Bel.frozen alloc_cell alloc_frozen

theorem below_cell {w w' : World} (hb : Below w.heap.size w w') (b off : Nat) (u : Value) (h : w.cell? ⟨b, off, none⟩ = some u) : w'.cell? ⟨b, off, none⟩ = some u := by
  rw [hb.cell (World.block_lt_of_cell? w _ h), h]
theorem some_at {α : Type} {l : List α} {k : Nat} (h : k < l.length) : ∃ x, l[k]? = some x := ⟨_, List.getElem?_eq_getElem h⟩
theorem box1 {W : World} {b : Nat} {x : Value} {e : TypeId} (h : W.heap[b]? = some (.cells #[x] e (0, 0))) : W.cell? ⟨b, 0, none⟩ = some x := by
  simp [World.cell?, h]
theorem box3 {W : World} {b : Nat} {x y z : Value} {e : TypeId} (h : W.heap[b]? = some (.cells #[x, y, z] e (0, 0))) : W.cell? ⟨b, 0, none⟩ = some x ∧ W.cell? ⟨b, 1, none⟩ = some y ∧ W.cell? ⟨b, 2, none⟩ = some z := by
  refine ⟨?_, ?_, ?_⟩ <;> simp [World.cell?, h]
theorem box2 {W : World} {b : Nat} {x y : Value} {e : TypeId} (h : W.heap[b]? = some (.cells #[x, y] e (0, 0))) : W.cell? ⟨b, 0, none⟩ = some x ∧ W.cell? ⟨b, 1, none⟩ = some y ∧ W.frozen? ⟨b, 0, none⟩ = false ∧ W.frozen? ⟨b, 1, none⟩ = false := by
  refine ⟨?_, ?_, ?_, ?_⟩ <;> simp [World.cell?, World.frozen?, h]
theorem obj_set {W : World} {b i : Nat} {vs : Array Value} {t : TypeId} (x : Value) (h : W.heap[b]? = some (.cells vs t (0, 0))) : (W.setCell ⟨b, i, none⟩ x).heap[b]? = some (.cells (vs.setIfInBounds i x) t (0, 0)) := by
  obtain ⟨hlt, hk⟩ := Array.getElem?_eq_some_iff.1 h
  show (W.heap.modify b _)[b]? = _
  rw [Array.getElem?_eq_getElem (by rw [Array.size_modify]; exact hlt), Array.getElem_modify_self, hk]
  rfl
theorem obj_alloc {W : World} {b : Nat} {o : Obj} (o' : Obj) (h : W.heap[b]? = some o) : (W.alloc o').heap[b]? = some o :=
  (Below.heap_alloc _ _ b (Array.getElem?_eq_some_iff.1 h).1).trans h
theorem obj_bel {W : World} {b : Nat} {o : Obj} (y : Bel W) (h : W.heap[b]? = some o) : y.w.heap[b]? = some o :=
  (y.below.block b (Array.getElem?_eq_some_iff.1 h).1).trans h
theorem obj_below {W W' : World} {n b : Nat} {o : Obj} (hb : Below n W W') (hn : b < n) (h : W.heap[b]? = some o) : W'.heap[b]? = some o := (hb.block b hn).trans h
theorem box3f {W : World} {b : Nat} {x y z : Value} {e : TypeId} (h : W.heap[b]? = some (.cells #[x, y, z] e (0, 0))) : W.frozen? ⟨b, 0, none⟩ = false ∧ W.frozen? ⟨b, 1, none⟩ = false ∧ W.frozen? ⟨b, 2, none⟩ = false := by
  refine ⟨?_, ?_, ?_⟩ <;> simp [World.frozen?, h]
theorem obj_set3 {W : World} {b : Nat} {x y z : Value} {t : TypeId} (x' y' z' : Value) (h : W.heap[b]? = some (.cells #[x, y, z] t (0, 0))) :
    (((W.setCell ⟨b, 0, none⟩ x').setCell ⟨b, 1, none⟩ y').setCell ⟨b, 2, none⟩ z').heap[b]? = some (.cells #[x', y', z'] t (0, 0)) := obj_set z' (obj_set y' (obj_set x' h))
end Go.Proofs.YtlnedapimmabdaaGreatDoor
