/- Two cells of the call's own, under stores. No program in sight. -/
import Derived.Test.YtjojdkdpdlmahaaDoorStrs
namespace Go.Proofs.YtjojdkdpdlmahaaDoor
open Go.RowKit
theorem own2_other {w : World} {B : Nat} {a b v : Value} {p : Addr} (h : Own2 w B a b) (hp : p.block ≠ B) : Own2 (w.setCell p v) B a b := by
  obtain ⟨h1, h2, h3, h4⟩ := h
  refine ⟨?_, ?_, ?_, ?_⟩
  · rw [World.cell?_setCell_other (h := fun e => hp (by rw [e]))]; exact h1
  · rw [World.cell?_setCell_other (h := fun e => hp (by rw [e]))]; exact h2
  · rw [World.frozen?_setCell]; exact h3
  · rw [World.frozen?_setCell]; exact h4
theorem own2_put {w : World} {B : Nat} {a b a' b' : Value} (h : Own2 w B a b) : Own2 ((w.setCell ⟨B, 0, none⟩ a').setCell ⟨B, 1, none⟩ b') B a' b' := by
  obtain ⟨h1, h2, h3, h4⟩ := h
  have e1 : (w.setCell ⟨B, 0, none⟩ a').cell? ⟨B, 0, none⟩ = some a' := World.cell?_setCell_same' _ _ _ (by rw [h1]; rfl)
  have e2 : (w.setCell ⟨B, 0, none⟩ a').cell? ⟨B, 1, none⟩ = some b := by rw [World.cell?_setCell_other (h := by simp)]; exact h2
  refine ⟨?_, World.cell?_setCell_same' _ _ _ (by rw [e2]; rfl), ?_, ?_⟩
  · rw [World.cell?_setCell_other (h := by simp)]; exact e1
  · rw [World.frozen?_setCell, World.frozen?_setCell]; exact h3
  · rw [World.frozen?_setCell, World.frozen?_setCell]; exact h4
theorem own2_of {w w' : World} {k : Nat} {a b : Value} (h : Own2 w k a b) (hb : Below w.heap.size w w') : Own2 w' k a b :=
  ⟨cell_carry hb h.1, cell_carry hb h.2.1, (hb.frozen (World.block_lt_of_cell? w _ h.1)).trans h.2.2.1, (hb.frozen (World.block_lt_of_cell? w _ h.2.1)).trans h.2.2.2⟩
end Go.Proofs.YtjojdkdpdlmahaaDoor
