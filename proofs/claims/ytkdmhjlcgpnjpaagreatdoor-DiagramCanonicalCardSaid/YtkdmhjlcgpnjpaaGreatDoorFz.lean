/- Counting the lesser numbers of a list; words of bits. What FormulaSplits and FormulaEquivalent ask of trees, in plain Lean. Equivalent formulas: by the rows of their variables, and by the values of six variables, in plain Lean. -/
import Derived.Test.YtkdmhjlcgpnjpaaGreatDoorFt
namespace Go.Proofs.YtkdmhjlcgpnjpaaGreatDoor
set_option linter.unusedVariables false
set_option linter.unusedSimpArgs false
open F

/-- How many of a list are less. -/
def fcntL (l : List Int) (x : Int) : Nat := (l.filter (fun y => decide (y < x))).length
theorem fcntL_at {x : Int} : ∀ {l : List Int}, l.Pairwise (· < ·) → x ∈ l → l[fcntL l x]? = some x
  | [], _, h => by cases h
  | a :: r, hp, h => by
    obtain ⟨h1, h2⟩ := List.pairwise_cons.1 hp
    by_cases e : a = x
    · subst e
      have h0 : r.filter (fun y => decide (y < a)) = [] := List.filter_eq_nil_iff.2 fun y hy => by have := h1 y hy; simp; omega
      unfold fcntL
      rw [List.filter_cons, if_neg (by simp), h0]
      rfl
    · have hx : x ∈ r := by
        rcases List.mem_cons.1 h with h | h
        · exact absurd h.symm e
        · exact h
      have hlt := h1 x hx
      have ih := fcntL_at h2 hx
      unfold fcntL at ih ⊢
      rw [List.filter_cons, if_pos (by simpa using hlt), List.length_cons, List.getElem?_cons_succ]
      exact ih
/-- The word whose bits are the first k values. -/
def bitsK (bl : List Bool) : Nat → Nat
  | 0 => 0
  | k + 1 => if bl.getD k false then bitsK bl k ||| 2 ^ k else bitsK bl k
theorem bitsK_lt (bl : List Bool) : ∀ k, bitsK bl k < 2 ^ k
  | 0 => by simp [bitsK]
  | k + 1 => by
    have := bitsK_lt bl k
    have h2 : 2 ^ k < 2 ^ (k + 1) := by rw [Nat.pow_succ]; have := Nat.two_pow_pos k; omega
    rw [bitsK]
    split
    · exact Nat.or_lt_two_pow (by omega) h2
    · omega
theorem bitsK_test (bl : List Bool) : ∀ k j, (bitsK bl k).testBit j = (decide (j < k) && bl.getD j false)
  | 0, j => by simp [bitsK]
  | k + 1, j => by
    have ih := bitsK_test bl k j
    rw [bitsK]
    split
    · rename_i h
      rw [Nat.testBit_or, ih, Nat.testBit_two_pow]
      by_cases e : k = j
      · subst e; rw [h]; simp
      · by_cases h1 : j < k
        · simp [h1, e, show j < k + 1 by omega]
        · simp [h1, e, show ¬ j < k + 1 by omega]
    · rename_i h
      rw [ih]
      by_cases e : j = k
      · subst e; simp at h; simp [h]
      · by_cases h1 : j < k
        · simp [h1, show j < k + 1 by omega]
        · simp [h1, show ¬ j < k + 1 by omega]
end Go.Proofs.YtkdmhjlcgpnjpaaGreatDoor

namespace Go.Proofs.YtkdmhjlcgpnjpaaGreatDoor
set_option linter.unusedVariables false
set_option linter.unusedSimpArgs false
open F

end Go.Proofs.YtkdmhjlcgpnjpaaGreatDoor

namespace Go.Proofs.YtkdmhjlcgpnjpaaGreatDoor
set_option linter.unusedVariables false
set_option linter.unusedSimpArgs false
open F

/-- The values of a row of the table of the variables ls. -/
def rowE (ls : List Int) (row : Nat) (y : Int) : Bool := row.testBit (fcntL ls y)
theorem rowE_of {ls : List Int} (hs : ls.Pairwise (· < ·)) (ρ : Int → Bool) {x : Int} (hx : x ∈ ls) : rowE ls (bitsK (ls.map ρ) ls.length) x = ρ x := by
  have hat := fcntL_at hs hx
  have hlt : fcntL ls x < ls.length := (List.getElem?_eq_some_iff.1 hat).1
  rw [rowE, bitsK_test, decide_eq_true hlt, Bool.true_and, List.getD_eq_getElem?_getD, List.getElem?_map, hat]
  rfl
/-- Two formulas have the same values. -/
def eqv (t u : F) : Prop := ∀ ρ : Int → Bool, val ρ t = val ρ u
theorem supF_two {t u : F} (ht : okT t) (hu : okT u) (x : Int) : x ∈ supF [t, u] ↔ occ x t = true ∨ occ x u = true := by
  rw [(supF_spec [t, u]).2 x, occ_iff x t ht, occ_iff x u hu, preL, preL, preL, List.append_nil]
  constructor
  · rintro ⟨v, hv, h⟩
    rcases List.mem_append.1 hv with hv | hv
    · exact .inl ⟨v, hv, h⟩
    · exact .inr ⟨v, hv, h⟩
  · rintro (⟨v, hv, h⟩ | ⟨v, hv, h⟩)
    · exact ⟨v, List.mem_append_left _ hv, h⟩
    · exact ⟨v, List.mem_append_right _ hv, h⟩
theorem eqv_rows {t u : F} (ht : okT t) (hu : okT u) : (∀ row : Nat, row < 2 ^ (supF [t, u]).length → val (rowE (supF [t, u]) row) t = val (rowE (supF [t, u]) row) u) ↔ eqv t u := by
  constructor
  · intro h ρ
    have hs := (supF_spec [t, u]).1
    have hr := h _ (bitsK_lt ((supF [t, u]).map ρ) (supF [t, u]).length)
    rwa [val_congr t ht (fun x hx => rowE_of hs ρ ((supF_two ht hu x).2 (.inl hx))), val_congr u hu (fun x hx => rowE_of hs ρ ((supF_two ht hu x).2 (.inr hx)))] at hr
  · intro h row _
    exact h _
theorem occ_inV {m : Int} {t : F} (ht : okT t) (h : inV m (pre t)) {x : Int} (hx : occ x t = true) : 0 ≤ x ∧ x < m := by
  obtain ⟨v, hv, hk, rfl⟩ := (occ_iff x t ht).1 hx
  exact h v hv hk
end Go.Proofs.YtkdmhjlcgpnjpaaGreatDoor
