/- The law's clean. The law's tables. The law's reduce. -/
import Derived.Test.YtlnedapimmabdaaGreatDoorW6
namespace Go.Proofs.YtlnedapimmabdaaGreatDoor
set_option linter.unusedVariables false
set_option linter.unusedSimpArgs false
open Go.RowKit
attribute [local go_sem low] Bel.cell Bel.frozen alloc_cell alloc_frozen
attribute [local go_sem] calmOp chainOp yieldsC grows

theorem foldG_take {G : List Gt} {k : Nat} {g : Gt} (h : G[k]? = some g) : foldG (G.take (k + 1)) ([], []) = ((stepG (foldG (G.take k) ([], [])).1 (foldG (G.take k) ([], [])).2 g).1, (foldG (G.take k) ([], [])).2 ++ [(stepG (foldG (G.take k) ([], [])).1 (foldG (G.take k) ([], [])).2 g).2]) := by
  rw [take_snoc h, foldG_app, foldG, foldG]
theorem okL_take {v : Nat} {G : List Gt} (h : okL v G) (k : Nat) : okL v (G.take k) := fun i x hx => h i x (by
  rw [List.getElem?_take] at hx
  split at hx
  · exact hx
  · cases hx)
theorem RetNt.store {N : Nt} {w wi W9 : World} {e : Ending} (h : RetNt N wi e W9) (hb : Below w.heap.size w wi) {rb : Nat} (h1 : w.heap.size ≤ rb) (h2 : rb < wi.heap.size) (u1 u2 : Value) : RetNt N w e ((W9.setCell ⟨rb, 0, none⟩ u1).setCell ⟨rb, 1, none⟩ u2) := by
  obtain ⟨us, ga, gc, ov, e1, e2, e3, e4, e5, e6, e7⟩ := h
  have hs := hb.size
  have hk : ∀ b, wi.heap.size ≤ b → ((W9.setCell ⟨rb, 0, none⟩ u1).setCell ⟨rb, 1, none⟩ u2).heap[b]? = W9.heap[b]? := fun b hb => (set_heap_ne _ (by omega)).trans (set_heap_ne _ (by omega))
  exact ⟨us, ga, gc, ov, e1, e2, ownK_lo (ownK_heap e3 fun b hb _ => hk b hb) hs, ownV_mono (ownV_heap e4 fun g hg => hk g (ownV_lt e4 hg).1) hs, e5, e6, ((hb.trans (e7.mono hs)).setCell (p := ⟨rb, 0, none⟩) (by simp; omega) _).setCell (p := ⟨rb, 1, none⟩) (by simp; omega) _⟩
end Go.Proofs.YtlnedapimmabdaaGreatDoor

namespace Go.Proofs.YtlnedapimmabdaaGreatDoor
set_option linter.unusedVariables false
set_option linter.unusedSimpArgs false
open Go.RowKit
attribute [local go_sem low] Bel.cell Bel.frozen alloc_cell alloc_frozen
attribute [local go_sem] calmOp chainOp yieldsC grows

end Go.Proofs.YtlnedapimmabdaaGreatDoor

namespace Go.Proofs.YtlnedapimmabdaaGreatDoor
set_option linter.unusedVariables false
set_option linter.unusedSimpArgs false
open Go.RowKit
attribute [local go_sem low] Bel.cell Bel.frozen alloc_cell alloc_frozen
attribute [local go_sem] calmOp chainOp yieldsC grows

theorem pad_last {num : List Nat} {n x : Nat} (y : Nat) (hn : num.length < n) : ((num ++ [x]) ++ List.replicate (n - (num ++ [x]).length) 0).set num.length y = (num ++ [y]) ++ List.replicate (n - (num ++ [y]).length) 0 := by
  rw [List.append_assoc, List.set_append_right _ _ (Nat.le_refl _), Nat.sub_self, List.append_assoc]
  simp
theorem ToS.last {W : World} {lo T c n x : Nat} {num : List Nat} (h : ToS W lo T c n (num ++ [x])) (y : Nat) : ToS (W.setCell ⟨T, num.length, none⟩ (.int .i64 (y : Int))) lo T c n (num ++ [y]) := by
  have hn : num.length < n := by have := h.2; rw [List.length_append, List.length_singleton] at this; omega
  refine ⟨?_, by rw [List.length_append, List.length_singleton]; omega⟩
  have hl : ((num ++ [x]) ++ List.replicate (n - (num ++ [x]).length) 0).length = n := by
    rw [List.length_append, List.length_replicate]
    have := h.2
    omega
  have h1 : W.ownsRow lo 3 1 (.slice (some ⟨T, 0, none⟩) n c) n (natsV ((num ++ [x]) ++ List.replicate (n - (num ++ [x]).length) 0)) := by have := h.1; unfold OwnN at this; rwa [hl] at this
  have h2 := (World.ownsRow.stored h1 num.length (.int .i64 (y : Int))).1
  unfold OwnN
  rw [← pad_last y hn, List.length_set, hl]
  unfold natsV at h2 ⊢
  rw [List.map_set]
  exact h2
theorem fst1_snoc (t : List Nat) (i : Nat) : (List.range (i + 1)).map (fst1 t) = (List.range i).map (fst1 t) ++ [fst1 t i] := by rw [List.range_succ, List.map_append]; rfl
end Go.Proofs.YtlnedapimmabdaaGreatDoor
