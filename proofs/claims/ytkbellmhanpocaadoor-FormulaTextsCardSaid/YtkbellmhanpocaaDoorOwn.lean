/- Slices that the call itself owns. No program in sight. -/
import Derived.Test.YtkbellmhanpocaaDoorStrs
import Derived.RangeFuncBox
import Derived.Maps.AppendAt
namespace Go.Proofs.YtkbellmhanpocaaDoor
set_option linter.unusedVariables false
set_option linter.unusedSimpArgs false
open Go.RowKit
theorem bel_grown {w : World} (x : Bel w) : w.grownBy x.w none := ⟨x.below.1, x.below.2, x.below.3, x.below.size, fun k hk _ => x.below.5 k hk⟩
theorem ownsRow_bel {W : World} {base : Nat} {e : TypeId} {size : Nat} {v : Value} {n : Nat} {xs : List Value} (h : W.ownsRow base e size v n xs) (x : Bel W) : x.w.ownsRow base e size v n xs :=
  World.ownsRow.kept h (bel_grown x) (by cases hv : v.ownBlock <;> simp)
theorem boxed_bel {W : World} {B : Nat} {t : TypeId} {v : Value} (h : Boxed W B t v) (x : Bel W) : Boxed x.w B t v := h.kept (bel_grown x) (by simp)
/-- The cells of such a slice. -/
theorem ownsRow_cells {W : World} {base : Nat} {e : TypeId} {v : Value} {n : Nat} {xs : List Value} (h : W.ownsRow base e 1 v n xs) (hn : 0 < n) :
    ∃ g cap, v = .slice (some ⟨g, 0, none⟩) n cap ∧ base ≤ g ∧ g < W.heap.size ∧ n ≤ cap ∧ ∀ (j : Nat) x, xs[j]? = some x → W.cell? ⟨g, j, none⟩ = some x ∧ W.frozen? ⟨g, j, none⟩ = false := by
  obtain ⟨hl, ⟨_, rfl⟩ | ⟨g, cap, cur, rfl, hb, hg, hnc, _, hcs, ht⟩⟩ := h
  · omega
  · refine ⟨g, cap, rfl, hb, (Array.getElem?_eq_some_iff.1 hg).1, hnc, fun j x hj => ?_⟩
    have hjl : j < n := by
      have := (List.getElem?_eq_some_iff.1 hj).1
      omega
    rw [← ht, List.getElem?_take, if_pos (by omega)] at hj
    constructor
    · simp only [World.cell?, hg]
      simpa using hj
    · simp [World.frozen?, hg]
end Go.Proofs.YtkbellmhanpocaaDoor
