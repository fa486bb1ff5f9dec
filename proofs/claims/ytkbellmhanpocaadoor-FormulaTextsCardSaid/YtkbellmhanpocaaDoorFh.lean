/- The variables that occur, in plain Lean. -/
import Derived.Lib.SlicesCompact
import Derived.Test.YtkbellmhanpocaaDoorFg
namespace Go.Proofs.YtkbellmhanpocaaDoor
set_option linter.unusedVariables false
set_option linter.unusedSimpArgs false
open F

theorem compactUp_sorted (d : Array Int) (h : ∀ i j, i ≤ j → j < d.size → d[i]! ≤ d[j]!) : ∀ m, m ≤ d.size →
    (Go.Lib.compactUpTo d m).Pairwise (· < ·) ∧ (∀ x, x ∈ Go.Lib.compactUpTo d m ↔ ∃ j, j < m ∧ d[j]! = x)
  | 0, _ => by simp [Go.Lib.compactUpTo]
  | m + 1, hm => by
    obtain ⟨h1, h2⟩ := compactUp_sorted d h m (by omega)
    rw [Go.Lib.compactUpTo_succ]
    by_cases hk : m = 0 ∨ d[m]! ≠ d[m - 1]!
    · have e : Go.Lib.keeps d m = true := by simp [Go.Lib.keeps, hk]
      rw [e, if_pos rfl]
      constructor
      · rw [List.pairwise_append]
        refine ⟨h1, List.pairwise_singleton _ _, fun a ha b hb => ?_⟩
        rw [List.mem_singleton] at hb
        subst hb
        obtain ⟨j, hj, rfl⟩ := (h2 a).1 ha
        have l1 := h j (m - 1) (by omega) (by omega)
        have l2 := h (m - 1) m (by omega) (by omega)
        rcases hk with hk | hk
        · omega
        · omega
      · intro x
        rw [List.mem_append, h2 x, List.mem_singleton]
        constructor
        · rintro (⟨j, hj, e⟩ | rfl)
          · exact ⟨j, by omega, e⟩
          · exact ⟨m, by omega, rfl⟩
        · rintro ⟨j, hj, he⟩
          by_cases hjm : j = m
          · subst hjm; exact .inr he.symm
          · exact .inl ⟨j, by omega, he⟩
    · have e : Go.Lib.keeps d m = false := by simp [Go.Lib.keeps, hk]
      rw [e, if_neg (by decide), List.append_nil]
      refine ⟨h1, fun x => ?_⟩
      rw [h2 x]
      constructor
      · rintro ⟨j, hj, e⟩; exact ⟨j, by omega, e⟩
      · rintro ⟨j, hj, he⟩
        by_cases hjm : j = m
        · subst hjm
          exact ⟨j - 1, by omega, by rw [← he]; have := Classical.not_not.1 (fun h => hk (.inr h)); exact this.symm⟩
        · exact ⟨j, by omega, he⟩
theorem compact_sorted (zs : List Int) (h : zs.Pairwise (· ≤ ·)) : (Go.Lib.compact zs).Pairwise (· < ·) ∧ ∀ x, x ∈ Go.Lib.compact zs ↔ x ∈ zs := by
  have hs : ∀ i j, i ≤ j → j < zs.toArray.size → zs.toArray[i]! ≤ zs.toArray[j]! := fun i j hij hj => by
    have hj' : j < zs.length := by simpa using hj
    rw [getElem!_pos zs.toArray i (by simp; omega), getElem!_pos zs.toArray j (by simpa using hj')]
    rw [List.getElem_toArray, List.getElem_toArray]
    rcases Nat.lt_or_ge i j with hlt | hge
    · exact List.pairwise_iff_getElem.1 h i j (by omega) hj' hlt
    · have : i = j := by omega
      subst this
      exact Int.le_refl _
  obtain ⟨h1, h2⟩ := compactUp_sorted zs.toArray hs zs.length (by simp)
  refine ⟨h1, fun x => (h2 x).trans ?_⟩
  rw [List.mem_iff_getElem]
  constructor
  · rintro ⟨j, hj, e⟩
    exact ⟨j, hj, by rw [← e, getElem!_pos zs.toArray j (by simpa using hj), List.getElem_toArray]⟩
  · rintro ⟨j, hj, e⟩
    exact ⟨j, hj, by rw [← e, getElem!_pos zs.toArray j (by simpa using hj), List.getElem_toArray]⟩
/-- The variables of nodes, in their order. -/
def varsP : List F → List Int
  | [] => []
  | t :: r => if t.k = 1 then t.a :: varsP r else varsP r
theorem varsP_app (l r : List F) : varsP (l ++ r) = varsP l ++ varsP r := by
  induction l with
  | nil => rfl
  | cons t l ih => rw [List.cons_append, varsP, varsP, ih]; split <;> rfl
theorem varsP_len (l : List F) : (varsP l).length ≤ l.length := by
  induction l with
  | nil => exact Nat.le_refl _
  | cons t l ih => rw [varsP]; split <;> simp only [List.length_cons] <;> omega
theorem varsP_mem (l : List F) (x : Int) : x ∈ varsP l ↔ ∃ u ∈ l, u.k = 1 ∧ u.a = x := by
  induction l with
  | nil => simp [varsP]
  | cons t l ih =>
    rw [varsP]
    split
    · rename_i h
      rw [List.mem_cons, ih]
      constructor
      · rintro (rfl | ⟨u, h1, h2⟩)
        · exact ⟨t, List.mem_cons_self .., h, rfl⟩
        · exact ⟨u, List.mem_cons_of_mem _ h1, h2⟩
      · rintro ⟨u, h1, h2, h3⟩
        rcases List.mem_cons.1 h1 with rfl | h1
        · exact .inl h3.symm
        · exact .inr ⟨u, h1, h2, h3⟩
    · rename_i h
      rw [ih]
      constructor
      · rintro ⟨u, h1, h2⟩; exact ⟨u, List.mem_cons_of_mem _ h1, h2⟩
      · rintro ⟨u, h1, h2⟩
        rcases List.mem_cons.1 h1 with rfl | h1
        · exact absurd h2.1 h
        · exact ⟨u, h1, h2⟩
/-- The variables of trees, in order, each once. -/
def supF (l : List F) : List Int := Go.Lib.compact ((varsP (preL l)).mergeSort fun x y => decide (x ≤ y))
theorem supF_spec (l : List F) : (supF l).Pairwise (· < ·) ∧ ∀ x, x ∈ supF l ↔ ∃ u ∈ preL l, u.k = 1 ∧ u.a = x := by
  have hs : ((varsP (preL l)).mergeSort fun x y => decide (x ≤ y)).Pairwise (· ≤ ·) := by
    have := List.pairwise_mergeSort (le := fun x y : Int => decide (x ≤ y)) (fun a b c h1 h2 => by simp only [decide_eq_true_eq] at *; omega) (fun a b => by simp only [Bool.or_eq_true, decide_eq_true_eq]; omega) (varsP (preL l))
    exact this.imp (fun h => by simpa using h)
  obtain ⟨h1, h2⟩ := compact_sorted _ hs
  refine ⟨h1, fun x => (h2 x).trans ?_⟩
  rw [List.mem_mergeSort, varsP_mem]
theorem supF_len (l : List F) : (supF l).length ≤ nodesL l := by
  unfold supF Go.Lib.compact Go.Lib.compactUpTo
  rw [List.length_map]
  refine Nat.le_trans (List.length_filter_le _ _) ?_
  rw [List.length_range, List.length_mergeSort]
  exact Nat.le_trans (varsP_len _) (by rw [preL_len]; exact Nat.le_refl _)
/-- Two lists that rise, with the same members, are one. -/
theorem rising_ext : ∀ {l m : List Int}, l.Pairwise (· < ·) → m.Pairwise (· < ·) → (∀ x, x ∈ l ↔ x ∈ m) → l = m
  | [], [], _, _, _ => rfl
  | [], y :: m, _, _, h => by have := (h y).2 (List.mem_cons_self ..); cases this
  | x :: l, [], _, _, h => by have := (h x).1 (List.mem_cons_self ..); cases this
  | x :: l, y :: m, h1, h2, h => by
    obtain ⟨a1, a2⟩ := List.pairwise_cons.1 h1
    obtain ⟨b1, b2⟩ := List.pairwise_cons.1 h2
    have e : x = y := by
      have p := (h x).1 (List.mem_cons_self ..)
      have q := (h y).2 (List.mem_cons_self ..)
      rcases List.mem_cons.1 p with p | p
      · exact p
      · rcases List.mem_cons.1 q with q | q
        · exact q.symm
        · have := a1 _ q; have := b1 _ p; omega
    subst e
    rw [rising_ext a2 b2 fun z => ?_]
    have hz := h z
    rw [List.mem_cons, List.mem_cons] at hz
    constructor
    · intro hl
      rcases hz.1 (.inr hl) with rfl | hm
      · have := a1 _ hl; omega
      · exact hm
    · intro hm
      rcases hz.2 (.inr hm) with rfl | hl
      · have := b1 _ hm; omega
      · exact hl
mutual
theorem occ_iff (x : Int) : ∀ t : F, okT t → (occ x t = true ↔ ∃ u ∈ pre t, u.k = 1 ∧ u.a = x)
  | nd k a l, h => by
    rw [occ, pre]
    split
    · rename_i hk
      rw [decide_eq_true_eq]
      constructor
      · intro e; exact ⟨_, List.mem_cons_self .., hk, e⟩
      · rintro ⟨u, hu, h1, h2⟩
        rcases List.mem_cons.1 hu with rfl | hu
        · exact h2
        · rcases single_cases h.1 with ⟨_, _, _, rfl⟩ | ⟨rfl, _⟩ | ⟨h', _⟩ | ⟨h', _⟩
          · rw [preL] at hu; cases hu
          all_goals omega
    · rename_i hk
      rw [occL_iff x l h.2]
      constructor
      · rintro ⟨u, hu, h1⟩; exact ⟨u, List.mem_cons_of_mem _ hu, h1⟩
      · rintro ⟨u, hu, h1⟩
        rcases List.mem_cons.1 hu with rfl | hu
        · exact absurd h1.1 hk
        · exact ⟨u, hu, h1⟩
theorem occL_iff (x : Int) : ∀ l : List F, okL l → (occL x l = true ↔ ∃ u ∈ preL l, u.k = 1 ∧ u.a = x)
  | [], _ => by simp [occL, preL]
  | t :: r, h => by
    rw [occL, preL, Bool.or_eq_true, occ_iff x t h.1, occL_iff x r h.2]
    constructor
    · rintro (⟨u, hu, h1⟩ | ⟨u, hu, h1⟩)
      · exact ⟨u, List.mem_append.2 (.inl hu), h1⟩
      · exact ⟨u, List.mem_append.2 (.inr hu), h1⟩
    · rintro ⟨u, hu, h1⟩
      rcases List.mem_append.1 hu with hu | hu
      · exact .inl ⟨u, hu, h1⟩
      · exact .inr ⟨u, hu, h1⟩
end
end Go.Proofs.YtkbellmhanpocaaDoor
