/- The order in which a walk leaves the places: none twice, a node's places before it. In plain Lean. -/
import Derived.Test.YtkdmhjlcgpnjpaaGreatDoorXw
namespace Go.Proofs.YtkdmhjlcgpnjpaaGreatDoor
set_option linter.unusedVariables false
set_option linter.unusedSimpArgs false

/-- Every beginning of the list is closed, and no place stands twice. -/
def Ordr3 (N : List (Nat × Nat × Nat)) (l : List Nat) : Prop := (∀ k, Closed3 N (l.take k)) ∧ l.Nodup
theorem ordr3_nil (N : List (Nat × Nat × Nat)) : Ordr3 N [] := ⟨fun k => by rw [List.take_nil]; exact closed3_nil N, List.nodup_nil⟩
theorem dfs3_new {N : List (Nat × Nat × Nat)} (hN : Good N) : ∀ (f q : Nat) (l : List Nat) {p : Nat}, q < f → q < N.length + 2 → p ∉ l → q < p → p ∉ dfs3 N f q l := by
  intro f
  induction f with
  | zero => intro q l p h; omega
  | succ f ih =>
    intro q l p hf hq hpl hqp
    rw [dfs3]
    split
    · exact hpl
    · rename_i h
      have h2 : 2 ≤ q := by
        rcases Nat.lt_or_ge q 2 with h' | h'
        · exact absurd (Or.inl h') h
        · exact h'
      obtain ⟨a1, a2, _⟩ := node3_ok hN hq h2
      intro hm
      rcases List.mem_append.1 hm with hm | hm
      · exact ih _ _ (by omega) (by omega) (ih _ _ (by omega) (by omega) hpl (by omega)) (by omega) hm
      · rw [List.mem_singleton] at hm; omega
theorem dfs3_ordr {N : List (Nat × Nat × Nat)} (hN : Good N) : ∀ (f p : Nat) (l : List Nat), p < f → p < N.length + 2 → Ordr3 N l → Ordr3 N (dfs3 N f p l) := by
  intro f
  induction f with
  | zero => intro p l h; omega
  | succ f ih =>
    intro p l hf hp hl
    have hc := (dfs3_closed hN (f + 1) p l hf hp (by have := hl.1 l.length; rwa [List.take_length] at this)).1
    rw [dfs3] at hc ⊢
    split
    · exact hl
    · rename_i h
      rw [if_neg h] at hc
      have h2 : 2 ≤ p := by
        rcases Nat.lt_or_ge p 2 with h' | h'
        · exact absurd (Or.inl h') h
        · exact h'
      obtain ⟨a1, a2, _⟩ := node3_ok hN hp h2
      have i1 := ih _ l (show (node3 N p).2.1 < f by omega) (by omega) hl
      have i2 := ih _ _ (show (node3 N p).2.2 < f by omega) (by omega) i1
      refine ⟨fun k => ?_, ?_⟩
      · rcases Nat.lt_or_ge k ((dfs3 N f (node3 N p).2.2 (dfs3 N f (node3 N p).2.1 l)).length + 1) with hk | hk
        · rw [List.take_append_of_le_length (by omega)]
          exact i2.1 k
        · rw [List.take_of_length_le (by rw [List.length_append]; exact hk)]
          exact hc
      · rw [List.nodup_append]
        refine ⟨i2.2, by simp, fun a ha b hb e => ?_⟩
        rw [List.mem_singleton] at hb
        subst hb
        subst e
        exact dfs3_new hN f _ _ (by omega) (by omega) (dfs3_new hN f _ _ (by omega) (by omega) (fun h' => h (Or.inr h')) (by omega)) (by omega) ha
theorem ordr3_len {N : List (Nat × Nat × Nat)} {l : List Nat} (h : Ordr3 N l) : l.length ≤ N.length := by
  have := h.2.length_le_of_subset (l₂ := List.range' 2 N.length) fun p hp => by
    obtain ⟨h1, h2, _⟩ := h.1 l.length p (by rw [List.take_length]; exact hp)
    exact (range2_mem _ _).2 ⟨h1, h2⟩
  rwa [List.length_range'] at this
theorem at3_some {l : List Nat} {k q : Nat} (h : l.Nodup) (hk : l[k]? = some q) (h2 : 2 ≤ q) : at3 l q = k + 2 := by
  unfold at3
  rw [if_neg (by omega)]
  obtain ⟨hl, he⟩ := List.getElem?_eq_some_iff.1 hk
  rw [← he, h.idxOf_getElem k hl]
/-- The nodes of the k-th place of a walk stand before it. -/
theorem ordr3_kids {N : List (Nat × Nat × Nat)} (hN : Good N) {l : List Nat} (h : Ordr3 N l) {k p : Nat} (hk : l[k]? = some p) : 2 ≤ p ∧ p < N.length + 2 ∧ ((node3 N p).2.1 < 2 ∨ ∃ j, j < k ∧ l[j]? = some (node3 N p).2.1) ∧ ((node3 N p).2.2 < 2 ∨ ∃ j, j < k ∧ l[j]? = some (node3 N p).2.2) := by
  have hl := (List.getElem?_eq_some_iff.1 hk).1
  have hm : p ∈ l.take (k + 1) := List.mem_of_getElem? (i := k) (by rw [List.getElem?_take, if_pos (Nat.lt_succ_self k)]; exact hk)
  obtain ⟨h1, h2, h3, h4⟩ := h.1 (k + 1) p hm
  have conv : ∀ c, c ∈ l.take (k + 1) → c ≠ p → ∃ j, j < k ∧ l[j]? = some c := fun c hc hne => by
    obtain ⟨j, hj⟩ := List.mem_iff_getElem?.1 hc
    rw [List.getElem?_take] at hj
    split at hj
    · rename_i hjk
      have : j ≠ k := fun e => by rw [e, hk] at hj; injection hj with hj; exact hne hj.symm
      exact ⟨j, by omega, hj⟩
    · cases hj
  have hself : ∀ c, (c < 2 ∨ c ∈ l.take (k + 1)) → c ≠ p → (c < 2 ∨ ∃ j, j < k ∧ l[j]? = some c) := fun c hc hne => hc.imp_right fun h => conv c h hne
  refine ⟨h1, h2, ?_, ?_⟩
  · by_cases e : (node3 N p).2.1 = p
    · have := (node3_ok hN h2 h1).1; omega
    · exact hself _ h3 e
  · by_cases e : (node3 N p).2.2 = p
    · have := (node3_ok hN h2 h1).2.1; omega
    · exact hself _ h4 e
end Go.Proofs.YtkdmhjlcgpnjpaaGreatDoor
