/- Simplified joins, step by step, in plain Lean. -/
import Derived.Test.YtkbellmhanpocaaDoorFh
namespace Go.Proofs.YtkbellmhanpocaaDoor
set_option linter.unusedVariables false
set_option linter.unusedSimpArgs false
open F

theorem dd_snoc (k : Int) (g : F) : ∀ l acc : List F, dd k acc (l ++ [g]) = if g.k = weak k ∨ g ∈ dd k acc l then dd k acc l else dd k acc l ++ [g]
  | [], acc => by rw [List.nil_append, dd, dd, dd]; split <;> rfl
  | t :: l, acc => by
    rw [List.cons_append, dd, dd]
    split
    · exact dd_snoc k g l acc
    · exact dd_snoc k g l (acc ++ [t])
def revT (l : List F) : List (List UInt8) := (l.map txt).reverse
theorem revT_snoc (l : List F) (g : F) : revT (l ++ [g]) = txt g :: revT l := by simp [revT]
theorem mem_revT {l : List F} {g : F} (hg : okT g) (hl : ∀ u ∈ l, okT u) : txt g ∈ revT l ↔ g ∈ l := by
  unfold revT
  rw [List.mem_reverse, List.mem_map]
  constructor
  · rintro ⟨u, hu, e⟩
    rw [← txt_inj (hl u hu) hg e]
    exact hu
  · intro h; exact ⟨g, h, rfl⟩
theorem smpL_snoc (k : Int) (l : List F) (u : F) : smpL k (l ++ [u]) = smpL k l ++ (if (smp u).k = k then (smp u).l else [smp u]) := by
  rw [smpL_app, smpL, smpL, List.append_nil]
theorem dd_ok {k : Int} {l : List F} (h : ∀ u ∈ l, okT u) (n : Nat) : ∀ u ∈ dd k [] (l.take n), okT u := fun u hu => h u (List.mem_of_mem_take ((dd_mem k _ u).1 hu).1)
theorem dd_len (k : Int) : ∀ (l acc : List F), (dd k acc l).length ≤ acc.length + l.length
  | [], acc => by rw [dd]; simp
  | g :: r, acc => by
    rw [dd]
    split
    · have := dd_len k r acc; rw [List.length_cons]; omega
    · have := dd_len k r (acc ++ [g]); rw [List.length_append, List.length_singleton] at this; rw [List.length_cons]; omega
theorem smpL_take_size (k : Int) (l : List F) (n : Nat) (h : okL l) : nodesL (smpL k (l.take n)) ≤ nodesL l := by
  have h1 : okL (l.take n) ∧ okL (l.drop n) := okL_app.1 (by rw [List.take_append_drop]; exact h)
  have h2 := (smpL_size k (l.take n) h1.1).1
  have h3 : nodesL l = nodesL (l.take n) + nodesL (l.drop n) := by rw [← nodesL_app, List.take_append_drop]
  omega
theorem nodes_mem_ok {l : List F} {u : F} (h : u ∈ l) (hn : nodesL l ≤ 10000) : nodes u ≤ 10000 := Nat.le_trans (nodesL_mem h) hn
end Go.Proofs.YtkbellmhanpocaaDoor
