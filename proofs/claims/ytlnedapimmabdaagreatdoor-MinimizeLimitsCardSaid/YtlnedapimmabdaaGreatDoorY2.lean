/- How many functions arise from a gate of a network by values of the first variables. How many functions arise from gates of networks by values of the first variables. Functions of outputs of two networks; how many nodes their diagrams have. -/
import Derived.Test.YtlnedapimmabdaaGreatDoorY1
import Derived.Test.YtlnedapimmabdaaGreatDoorNA
namespace Go.Proofs.YtlnedapimmabdaaGreatDoor
set_option linter.unusedVariables false
set_option linter.unusedSimpArgs false

end Go.Proofs.YtlnedapimmabdaaGreatDoor

namespace Go.Proofs.YtlnedapimmabdaaGreatDoor
set_option linter.unusedVariables false
set_option linter.unusedSimpArgs false

end Go.Proofs.YtlnedapimmabdaaGreatDoor

namespace Go.Proofs.YtlnedapimmabdaaGreatDoor
set_option linter.unusedVariables false
set_option linter.unusedSimpArgs false

theorem dfs3_her {N : List (Nat × Nat × Nat)} (hN : Good N) {P : ((Nat → Bool) → Bool) → Prop} : ∀ (f p : Nat) (l : List Nat), p < f → p < N.length + 2 → Her P (fun ρ => val3 ρ N p) → (∀ q ∈ l, Her P fun ρ => val3 ρ N q) → ∀ q ∈ dfs3 N f p l, Her P fun ρ => val3 ρ N q := by
  intro f
  induction f with
  | zero => intro p l h; omega
  | succ f ih =>
    intro p l hf hp hP hl
    rw [dfs3]
    split
    · exact hl
    · rename_i h
      have h2 : 2 ≤ p := by
        rcases Nat.lt_or_ge p 2 with h' | h'
        · exact absurd (Or.inl h') h
        · exact h'
      obtain ⟨a1, a2, _, _, _, a6, _⟩ := node3_ok hN hp h2
      have dep : ∀ ρ σ : Nat → Bool, (∀ u, (node3 N p).1 ≤ u → ρ u = σ u) → val3 ρ N p = val3 σ N p := fun ρ σ h => val3_dep hN (p + 1) p (Nat.lt_succ_self p) hp fun u hu => h u (by rw [a6] at hu; exact hu)
      have c0 : Her P fun ρ => val3 ρ N (node3 N p).2.1 := by
        have := hP.cof dep false
        rw [show (fun ρ => val3 (upd3 ρ (node3 N p).1 false) N p) = fun ρ => val3 ρ N (node3 N p).2.1 from funext fun ρ => by rw [side3 hN ρ hp h2]; rfl] at this
        exact this
      have c1 : Her P fun ρ => val3 ρ N (node3 N p).2.2 := by
        have := hP.cof dep true
        rw [show (fun ρ => val3 (upd3 ρ (node3 N p).1 true) N p) = fun ρ => val3 ρ N (node3 N p).2.2 from funext fun ρ => by rw [side3 hN ρ hp h2]; rfl] at this
        exact this
      intro q hq
      rcases List.mem_append.1 hq with hq | hq
      · exact ih _ _ (by omega) (by omega) c1 (ih _ _ (by omega) (by omega) c0 hl) q hq
      · rw [List.mem_singleton.1 hq]; exact hP
theorem dgn_len {M : List (Nat × Nat × Nat)} {r c : Nat} (hD : Dgn M r) {F : (Nat → Bool) → Bool} (hv : ∀ ρ, val3 ρ M r = F ρ) (hH : ∃ P, AtMost P c ∧ Her P F) : M.length ≤ c := by
  obtain ⟨P, hA, hP⟩ := hH
  have hall := dfs3_her hD.good (r + 1) r [] (Nat.lt_succ_self r) hD.root (by rw [show (fun ρ => val3 ρ M r) = F from funext hv]; exact hP) (fun q h => by cases h)
  rw [hD.walk _ (Nat.lt_succ_self r)] at hall
  have := inF_le (e0 := 0) hA hD.good fun i _ hi => (hall (i + 2) ((range2_mem _ _).2 ⟨by omega, by omega⟩)).self
  omega
def rkL (vs : List Nat) (y : Nat) : Nat := (vs.filter fun x => decide (y ≤ x)).length
theorem rkL_le (vs : List Nat) (y : Nat) : rkL vs y ≤ vs.length := List.length_filter_le _ _
theorem rkL_lt {vs : List Nat} {a : Nat} (ha : a ∈ vs) {y : Nat} (hy : a < y) : rkL vs y < rkL vs a := by
  unfold rkL
  rw [← List.countP_eq_length_filter, ← List.countP_eq_length_filter]
  induction vs with
  | nil => cases ha
  | cons x r ih =>
    have hm : ∀ r : List Nat, List.countP (fun x => decide (y ≤ x)) r ≤ List.countP (fun x => decide (a ≤ x)) r := fun r => List.countP_mono_left fun x _ h => by simp at h ⊢; omega
    rw [List.countP_cons, List.countP_cons]
    rcases List.mem_cons.1 ha with rfl | ha
    · have := hm r
      simp
      rw [if_neg (by omega)]
      omega
    · have := ih ha
      have h1 : (if decide (y ≤ x) = true then 1 else 0) ≤ (if decide (a ≤ x) = true then 1 else 0) := by
        by_cases h : y ≤ x
        · rw [if_pos (by simpa using h), if_pos (by simp; omega)]; omega
        · rw [if_neg (by simpa using h)]; omega
      omega
end Go.Proofs.YtlnedapimmabdaaGreatDoor
