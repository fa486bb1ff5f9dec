/- The law's clean. -/
import Derived.Test.YtlnedapimmabdaaGreatDoorW6
namespace Go.Proofs.YtlnedapimmabdaaGreatDoor
set_option linter.unusedVariables false
set_option linter.unusedSimpArgs false
open Go.RowKit
attribute [local go_sem low] Bel.cell Bel.frozen alloc_cell alloc_frozen
attribute [local go_sem] calmOp chainOp yieldsC grows

theorem foldG_take {G : List Gt} {k : Nat} {g : Gt} (h : G[k]? = some g) : foldG (G.take (k + 1)) ([], []) = ((stepG (foldG (G.take k) ([], [])).1 (foldG (G.take k) ([], [])).2 g).1, (foldG (G.take k) ([], [])).2 ++ [(stepG (foldG (G.take k) ([], [])).1 (foldG (G.take k) ([], [])).2 g).2]) := by
  rw [take_snoc h, foldG_app, foldG, foldG]
theorem okL_take {v : Nat} {G : List Gt} (h : okL v G) (k : Nat) : okL v (G.take k) := fun i x hx => h i x (by
  rw [List.getElem?_take] at hx
  split at hx
  · exact hx
  · cases hx)
theorem RetNt.store {N : Nt} {w wi W9 : World} {e : Ending} (h : RetNt N wi e W9) (hb : Below w.heap.size w wi) {rb : Nat} (h1 : w.heap.size ≤ rb) (h2 : rb < wi.heap.size) (u1 u2 : Value) : RetNt N w e ((W9.setCell ⟨rb, 0, none⟩ u1).setCell ⟨rb, 1, none⟩ u2) := by
  obtain ⟨us, ga, gc, ov, e1, e2, e3, e4, e5, e6, e7⟩ := h
  have hs := hb.size
  have hk : ∀ b, wi.heap.size ≤ b → ((W9.setCell ⟨rb, 0, none⟩ u1).setCell ⟨rb, 1, none⟩ u2).heap[b]? = W9.heap[b]? := fun b hb => (set_heap_ne _ (by omega)).trans (set_heap_ne _ (by omega))
  exact ⟨us, ga, gc, ov, e1, e2, ownK_lo (ownK_heap e3 fun b hb _ => hk b hb) hs, ownV_mono (ownV_heap e4 fun g hg => hk g (ownV_lt e4 hg).1) hs, e5, e6, ((hb.trans (e7.mono hs)).setCell (p := ⟨rb, 0, none⟩) (by simp; omega) _).setCell (p := ⟨rb, 1, none⟩) (by simp; omega) _⟩
end Go.Proofs.YtlnedapimmabdaaGreatDoor
