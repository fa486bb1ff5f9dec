/- Counting the lesser numbers of a list; words of bits. -/
import Derived.Test.YtkbellmhanpocaaGreatDoorFt
namespace Go.Proofs.YtkbellmhanpocaaGreatDoor
set_option linter.unusedVariables false
set_option linter.unusedSimpArgs false
open F

/-- How many of a list are less. -/
def cntL (l : List Int) (x : Int) : Nat := (l.filter (fun y => decide (y < x))).length
theorem cntL_at {x : Int} : ∀ {l : List Int}, l.Pairwise (· < ·) → x ∈ l → l[cntL l x]? = some x
  | [], _, h => by cases h
  | a :: r, hp, h => by
    obtain ⟨h1, h2⟩ := List.pairwise_cons.1 hp
    by_cases e : a = x
    · subst e
      have h0 : r.filter (fun y => decide (y < a)) = [] := List.filter_eq_nil_iff.2 fun y hy => by have := h1 y hy; simp; omega
      unfold cntL
      rw [List.filter_cons, if_neg (by simp), h0]
      rfl
    · have hx : x ∈ r := by
        rcases List.mem_cons.1 h with h | h
        · exact absurd h.symm e
        · exact h
      have hlt := h1 x hx
      have ih := cntL_at h2 hx
      unfold cntL at ih ⊢
      rw [List.filter_cons, if_pos (by simpa using hlt), List.length_cons, List.getElem?_cons_succ]
      exact ih
theorem cntL_succ {x : Int} : ∀ {l : List Int}, l.Pairwise (· < ·) → cntL l (x + 1) = cntL l x + (if x ∈ l then 1 else 0)
  | [], _ => by simp [cntL]
  | a :: r, hp => by
    obtain ⟨h1, h2⟩ := List.pairwise_cons.1 hp
    have ih := cntL_succ (x := x) h2
    unfold cntL at ih ⊢
    rw [List.filter_cons, List.filter_cons]
    by_cases h : a < x
    · rw [if_pos (by simp; omega), if_pos (by simpa using h), List.length_cons, List.length_cons, ih]
      have : (x ∈ a :: r) ↔ x ∈ r := by rw [List.mem_cons]; constructor <;> intro hh
                                        · rcases hh with hh | hh
                                          · omega
                                          · exact hh
                                        · exact .inr hh
      simp only [this]
      omega
    · by_cases e : a = x
      · subst e
        have hn : a ∉ r := fun hh => by have := h1 a hh; omega
        rw [if_pos (by simp; omega), if_neg (by simp), List.length_cons, ih, if_neg hn, if_pos (List.mem_cons_self ..)]
      · have hn : x ∉ a :: r := fun hh => by
          rcases List.mem_cons.1 hh with hh | hh
          · exact e hh.symm
          · have := h1 x hh; omega
        have hn2 : x ∉ r := fun hh => hn (List.mem_cons_of_mem _ hh)
        rw [if_neg (by simp; omega), if_neg (by simpa using h), ih, if_neg hn, if_neg hn2]
theorem cntL_all {l : List Int} {m : Int} (h : ∀ x ∈ l, x < m) : cntL l m = l.length := by
  unfold cntL
  rw [List.filter_eq_self.2 (fun x hx => by simpa using h x hx)]
theorem cntL_zero {l : List Int} (h : ∀ x ∈ l, 0 ≤ x) : cntL l 0 = 0 := by
  unfold cntL
  rw [List.filter_eq_nil_iff.2 (fun x hx => by have := h x hx; simp; omega)]
  rfl
/-- The word whose bits are the first k values. -/
def bitsK (bl : List Bool) : Nat → Nat
  | 0 => 0
  | k + 1 => if bl.getD k false then bitsK bl k ||| 2 ^ k else bitsK bl k
theorem bitsK_lt (bl : List Bool) : ∀ k, bitsK bl k < 2 ^ k
  | 0 => by simp [bitsK]
  | k + 1 => by
    have := bitsK_lt bl k
    have h2 : 2 ^ k < 2 ^ (k + 1) := by rw [Nat.pow_succ]; have := Nat.two_pow_pos k; omega
    rw [bitsK]
    split
    · exact Nat.or_lt_two_pow (by omega) h2
    · omega
theorem bitsK_test (bl : List Bool) : ∀ k j, (bitsK bl k).testBit j = (decide (j < k) && bl.getD j false)
  | 0, j => by simp [bitsK]
  | k + 1, j => by
    have ih := bitsK_test bl k j
    rw [bitsK]
    split
    · rename_i h
      rw [Nat.testBit_or, ih, Nat.testBit_two_pow]
      by_cases e : k = j
      · subst e; rw [h]; simp
      · by_cases h1 : j < k
        · simp [h1, e, show j < k + 1 by omega]
        · simp [h1, e, show ¬ j < k + 1 by omega]
    · rename_i h
      rw [ih]
      by_cases e : j = k
      · subst e; simp at h; simp [h]
      · by_cases h1 : j < k
        · simp [h1, show j < k + 1 by omega]
        · simp [h1, show ¬ j < k + 1 by omega]
end Go.Proofs.YtkbellmhanpocaaGreatDoor
