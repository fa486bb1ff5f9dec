/- Count and Witness, as plain functions. In plain Lean. -/
import Derived.Test.YtkdmhjlcgpnjpaaGreatDoorXr
namespace Go.Proofs.YtkdmhjlcgpnjpaaGreatDoor
set_option linter.unusedVariables false
set_option linter.unusedSimpArgs false

/-- The level of a place, with n variables. -/
def lev3 (M : List (Nat × Nat × Nat)) (n p : Nat) : Nat := if p < 2 then n else (node3 M p).1
def cntS (M : List (Nat × Nat × Nat)) (n : Nat) (cs : List Nat) (k : Nat) : Nat :=
  2 ^ (lev3 M n (M.getD k (0, 0, 0)).2.1 - ((M.getD k (0, 0, 0)).1 + 1)) * cs.getD (M.getD k (0, 0, 0)).2.1 0 + 2 ^ (lev3 M n (M.getD k (0, 0, 0)).2.2 - ((M.getD k (0, 0, 0)).1 + 1)) * cs.getD (M.getD k (0, 0, 0)).2.2 0
/-- The counts of the constants and of the first k nodes. -/
def cntL (M : List (Nat × Nat × Nat)) (n : Nat) : Nat → List Nat
  | 0 => [0, 1]
  | k + 1 => cntL M n k ++ [cntS M n (cntL M n k) k]
def cntD (M : List (Nat × Nat × Nat)) (r n : Nat) : Nat := 2 ^ lev3 M n r * (cntL M n M.length).getD r 0
theorem cntL_len (M : List (Nat × Nat × Nat)) (n : Nat) : ∀ k, (cntL M n k).length = k + 2
  | 0 => rfl
  | k + 1 => by rw [cntL, List.length_append, cntL_len M n k]; rfl
/-- Which values lead to 1, the first ones in order. -/
def witD (M : List (Nat × Nat × Nat)) : Nat → Nat → List Bool → List Bool
  | 0, _, l => l
  | f + 1, p, l => if p < 2 then l else if (node3 M p).2.1 = 0 then witD M f (node3 M p).2.2 (l.set (node3 M p).1 true) else witD M f (node3 M p).2.1 l
theorem witD_fuel {M : List (Nat × Nat × Nat)} (hM : Good M) : ∀ (f g p : Nat) (l : List Bool), p < f → p < g → p < M.length + 2 → witD M f p l = witD M g p l := by
  intro f
  induction f with
  | zero => intro g p l h; omega
  | succ f ih =>
    intro g p l hf hg hp
    obtain ⟨g, rfl⟩ : ∃ g', g = g' + 1 := ⟨g - 1, by omega⟩
    rw [witD, witD]
    rcases Nat.lt_or_ge p 2 with h2 | h2
    · rw [if_pos h2, if_pos h2]
    · obtain ⟨a1, a2, _⟩ := node3_ok hM hp h2
      have hn : ¬ p < 2 := by omega
      rw [if_neg hn, if_neg hn]
      rw [ih g (node3 M p).2.1 l (by omega) (by omega) (by omega), ih g (node3 M p).2.2 _ (by omega) (by omega) (by omega)]
theorem witD_end (M : List (Nat × Nat × Nat)) {p : Nat} (h : p < 2) (l : List Bool) : witD M (p + 1) p l = l := by rw [witD, if_pos h]
theorem witD_step {M : List (Nat × Nat × Nat)} (hM : Good M) {p : Nat} (hp : p < M.length + 2) (h2 : 2 ≤ p) (l : List Bool) : witD M (p + 1) p l = if (node3 M p).2.1 = 0 then witD M ((node3 M p).2.2 + 1) (node3 M p).2.2 (l.set (node3 M p).1 true) else witD M ((node3 M p).2.1 + 1) (node3 M p).2.1 l := by
  obtain ⟨a1, a2, _⟩ := node3_ok hM hp h2
  rw [witD, if_neg (by omega), witD_fuel hM p ((node3 M p).2.2 + 1) (node3 M p).2.2 _ (by omega) (by omega) (by omega), witD_fuel hM p ((node3 M p).2.1 + 1) (node3 M p).2.1 _ (by omega) (by omega) (by omega)]
theorem witD_len (M : List (Nat × Nat × Nat)) : ∀ f p l, (witD M f p l).length = l.length := by
  intro f
  induction f with
  | zero => intro p l; rfl
  | succ f ih =>
    intro p l
    rw [witD]
    split
    · rfl
    · split
      · rw [ih, List.length_set]
      · rw [ih]
end Go.Proofs.YtkdmhjlcgpnjpaaGreatDoor
