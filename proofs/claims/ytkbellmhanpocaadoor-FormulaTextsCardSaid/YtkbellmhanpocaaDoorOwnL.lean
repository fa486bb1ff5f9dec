/- Slices of the call's own that show a list of one-cell values. No program in sight. -/
import Derived.Test.YtkbellmhanpocaaDoorOwn
namespace Go.Proofs.YtkbellmhanpocaaDoor
set_option linter.unusedVariables false
set_option linter.unusedSimpArgs false
open Go.RowKit
def OwnV (w : World) (base : Nat) (e : TypeId) (v : Value) (l : List Value) : Prop := w.ownsRow base e 1 v l.length l
theorem ownV_nil (w : World) (base : Nat) (e : TypeId) : OwnV w base e (.slice none 0 0) [] := World.ownsRow_nil _ _ _ _
theorem ownV_mono {w : World} {base base' : Nat} {e : TypeId} {v : Value} {l : List Value} (h : OwnV w base e v l) (hb : base' ≤ base) : OwnV w base' e v l :=
  ⟨h.1, by
    rcases h.2 with h0 | ⟨g, cap, cur, h1, h2, h3⟩
    · exact .inl h0
    · exact .inr ⟨g, cap, cur, h1, Nat.le_trans hb h2, h3⟩⟩
theorem ownV_kept {w w' : World} {base : Nat} {e : TypeId} {v : Value} {l : List Value} (h : OwnV w base e v l) (hg : w.grownBy w' none) : OwnV w' base e v l :=
  World.ownsRow.kept h hg (by cases hv : v.ownBlock <;> simp)
theorem ownV_bel {w : World} {base : Nat} {e : TypeId} {v : Value} {l : List Value} (h : OwnV w base e v l) (x : Bel w) : OwnV x.w base e v l := ownV_kept h (bel_grown x)
theorem ownV_alloc {w : World} {base : Nat} {e : TypeId} {v : Value} {l : List Value} (h : OwnV w base e v l) (o : Obj) : OwnV (w.alloc o) base e v l :=
  ownV_kept h (bel_grown ⟨_, (Below.refl _ _).alloc (Nat.le_refl _) o⟩)
theorem ownV_app {w w1 : World} {base : Nat} {e : TypeId} {v v' : Value} {l news : List Value} {k : Nat} {w0 : World} (h : OwnV w base e v l) (hb0 : Below base w w0) (hs : w.heap.size ≤ w0.heap.size) (hb : base ≤ w.heap.size)
    (hk : news.length = k) (h' : w1.ownsRow base e 1 v' (l.length + k) (l ++ news)) (hg : w0.grownBy w1 v.ownBlock) : OwnV w1 base e v' (l ++ news) ∧ Below base w w1 := by
  refine ⟨by unfold OwnV; rw [List.length_append, hk]; exact h', ?_⟩
  refine hb0.grown hg (by omega) (fun k hk => ?_)
  rcases h.2 with ⟨rfl, _⟩ | ⟨g, cap, cur, rfl, hb, _⟩
  · cases hk
  · cases hk; exact hb
theorem ownV_cells {W : World} {base : Nat} {e : TypeId} {v : Value} {l : List Value} (h : OwnV W base e v l) (hn : 0 < l.length) :
    ∃ g cap, v = .slice (some ⟨g, 0, none⟩) l.length cap ∧ base ≤ g ∧ g < W.heap.size ∧ l.length ≤ cap ∧ ∀ (j : Nat) x, l[j]? = some x → W.cell? ⟨g, j, none⟩ = some x ∧ W.frozen? ⟨g, j, none⟩ = false := ownsRow_cells h hn
/-- A slice that shows a list, at whatever place. -/
def ShowsV (W : World) (v : Value) (l : List Value) : Prop :=
  (l = [] ∧ ∃ a c, v = .slice a 0 c) ∨ ∃ b off cap, v = .slice (some ⟨b, off, none⟩) l.length cap ∧ 0 < l.length ∧ ∀ (j : Nat) x, l[j]? = some x → W.cell? ⟨b, off + j, none⟩ = some x
theorem ownV_shows {W : World} {base : Nat} {e : TypeId} {v : Value} {l : List Value} (h : OwnV W base e v l) : ShowsV W v l := by
  by_cases h0 : 0 < l.length
  · obtain ⟨g, cap, hv, _, _, _, hc⟩ := ownV_cells h h0
    exact .inr ⟨g, 0, cap, hv, h0, fun j x hj => by rw [Nat.zero_add]; exact (hc j x hj).1⟩
  · have h1 : l = [] := List.length_eq_zero_iff.1 (by omega)
    subst h1
    refine .inl ⟨rfl, ?_⟩
    rcases h.2 with ⟨rfl, _⟩ | ⟨g, cap, cur, rfl, _⟩
    · exact ⟨_, _, rfl⟩
    · exact ⟨_, _, rfl⟩
theorem showsV_of {w w' : World} {v : Value} {l : List Value} (h : ShowsV w v l) (hb : Below w.heap.size w w') : ShowsV w' v l := by
  rcases h with h | ⟨b, off, cap, hv, hl, hc⟩
  · exact .inl h
  · exact .inr ⟨b, off, cap, hv, hl, fun j x hj => (by rw [hb.cell (World.block_lt_of_cell? w _ (hc j x hj)), hc j x hj])⟩
/-- The same, with its cells at hand, in whatever case. -/
theorem showsV_at {W : World} {v : Value} {l : List Value} (h : ShowsV W v l) : ∃ a cap, v = .slice a l.length cap ∧ (0 < l.length → ∃ b off, a = some ⟨b, off, none⟩ ∧ ∀ (j : Nat) x, l[j]? = some x → W.cell? ⟨b, off + j, none⟩ = some x) := by
  rcases h with ⟨rfl, a, c, rfl⟩ | ⟨b, off, cap, hv, hl, hc⟩
  · exact ⟨a, c, rfl, fun h => absurd h (by decide)⟩
  · exact ⟨_, cap, hv, fun _ => ⟨b, off, rfl, hc⟩⟩
end Go.Proofs.YtkbellmhanpocaaDoor
