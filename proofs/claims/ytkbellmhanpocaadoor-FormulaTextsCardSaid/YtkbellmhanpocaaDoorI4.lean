/- The reader of formulas: where the inputs of a join stand in its text. -/
import Derived.Test.YtkbellmhanpocaaDoorI3
namespace Go.Proofs.YtkbellmhanpocaaDoor
set_option linter.unusedVariables false
set_option linter.unusedSimpArgs false
open Go.RowKit Go.Shelf F

theorem txtL_split3 (A : List F) (u : F) (B : List F) : txtL (A ++ u :: B) = txtL A ++ ((if A = [] then [] else [32]) ++ (txt u ++ txtR B)) := by
  cases A with
  | nil => rw [List.nil_append, if_pos rfl, txtL, txtL]; rfl
  | cons t r =>
    rw [if_neg (fun h => by cases h), List.cons_append, txtL, txtL, txtR_app, txtR, List.append_assoc]
    rfl
/-- Where the k-th input begins, behind a bracket at p. -/
def posL (l : List F) (k : Nat) : Nat := 1 + (txtL (l.take k)).length + (if k = 0 then 0 else 1)
theorem seg_at {p r : List UInt8} {l : List F} {k : Nat} {u : F} (h : l[k]? = some u) : ∃ p' r', p ++ (40 :: (txtL l ++ (41 :: r))) = p' ++ (txt u ++ r') ∧ p'.length = p.length + posL l k ∧ stopD r' = true ∧
    byteAt r' 0 = (if k + 1 = l.length then 41 else 32) := by
  have hk := (List.getElem?_eq_some_iff.1 h).1
  have hl : l = l.take k ++ u :: l.drop (k + 1) := by
    conv => lhs; rw [← List.take_append_drop k l, drop_at h]
  have h0 : (l.take k = []) ↔ k = 0 := by
    rw [← List.length_eq_zero_iff, List.length_take]
    omega
  refine ⟨p ++ (40 :: (txtL (l.take k) ++ (if k = 0 then [] else [32]))), txtR (l.drop (k + 1)) ++ (41 :: r), ?_, ?_, ?_, ?_⟩
  · conv => lhs; rw [hl, txtL_split3]
    by_cases hk0 : k = 0
    · rw [if_pos (h0.2 hk0), if_pos hk0]
      simp only [List.append_assoc, List.cons_append, List.nil_append, List.append_nil]
    · rw [if_neg (fun e => hk0 (h0.1 e)), if_neg hk0]
      simp only [List.append_assoc, List.cons_append, List.nil_append]
  · unfold posL
    simp only [List.length_append, List.length_cons]
    by_cases hk0 : k = 0
    · rw [if_pos hk0, if_pos hk0]; simp only [List.length_nil]; omega
    · rw [if_neg hk0, if_neg hk0]; simp only [List.length_cons, List.length_nil]; omega
  · cases l.drop (k + 1) <;> rfl
  · by_cases he : k + 1 = l.length
    · rw [if_pos he, he, List.drop_length]; rfl
    · rw [if_neg he]
      obtain ⟨v, hv⟩ := some_at (l := l) (k := k + 1) (by omega)
      rw [drop_at hv]
      rfl
theorem posL_next {l : List F} {k : Nat} {u : F} (h : l[k]? = some u) : posL l (k + 1) = posL l k + (txt u).length + 1 := by
  unfold posL
  have h1 : (if k + 1 = 0 then (0 : Nat) else 1) = 1 := if_neg (by omega)
  rw [txtL_take h, List.length_append, h1]
  by_cases hk0 : k = 0
  · rw [if_pos hk0, if_pos hk0]; omega
  · rw [if_neg hk0, if_neg hk0, List.length_cons]; omega
theorem posL_end {l : List F} (h : l ≠ []) : posL l l.length = (txtL l).length + 2 := by
  unfold posL
  rw [List.take_length, if_neg (fun e => h (List.length_eq_zero_iff.1 e))]
  omega
theorem posL_zero (l : List F) : posL l 0 = 1 := by
  unfold posL
  rw [List.take_zero, txtL, if_pos rfl]
  rfl
end Go.Proofs.YtkbellmhanpocaaDoor
