/- The lowest bit of a number, and its places in order: plain laws. -/
import Derived.Test.YtjojdkdpdlmahaaDoorPb
namespace Go.Proofs.YtjojdkdpdlmahaaDoor
open Go.RowKit
theorem ctz_bits {x : Nat} (h0 : x ≠ 0) (h : x < 18446744073709551616) : Lib.ctz 64 x < 64 ∧ (∀ i, i < Lib.ctz 64 x → x.testBit i = false) ∧ x.testBit (Lib.ctz 64 x) = true ∧
    ∀ i, (x &&& (x - 1)).testBit i = (x.testBit i && !decide (i = Lib.ctz 64 x)) := by
  obtain ⟨m, hm, hk⟩ := Lib.ctzFrom_spec 64 x (by omega) h
  have e : Lib.ctz 64 x = Lib.ctzFrom 64 x := by unfold Lib.ctz; rw [if_neg h0]
  rw [e]
  generalize Lib.ctzFrom 64 x = k at *
  have hp : 0 < 2 ^ k := Nat.two_pow_pos k
  have t : ∀ i, x.testBit i = (decide (k ≤ i) && (2 * m + 1).testBit (i - k)) := fun i => by rw [hm, Nat.testBit_two_pow_mul]
  have e1 : x - 1 = 2 ^ k * (2 * m) + (2 ^ k - 1) := by
    rw [hm, Nat.mul_add, Nat.mul_one]; omega
  refine ⟨hk, fun i hi => ?_, ?_, fun i => ?_⟩
  · rw [t, decide_eq_false (by omega), Bool.false_and]
  · rw [t, decide_eq_true (Nat.le_refl _), Bool.true_and, Nat.sub_self, Nat.testBit_zero]
    simp
  · rw [Nat.testBit_and, t, e1, Nat.testBit_two_pow_mul_add _ (by omega)]
    by_cases hi : i < k
    · rw [decide_eq_false (by omega)]; simp
    · rw [decide_eq_true (by omega : k ≤ i), if_neg hi, Bool.true_and]
      by_cases hik : i = k
      · rw [hik, Nat.sub_self, Nat.testBit_zero, Nat.testBit_zero]; simp
      · obtain ⟨j, hj⟩ : ∃ j, i - k = j + 1 := ⟨i - k - 1, by omega⟩
        rw [hj, Nat.testBit_succ, Nat.testBit_succ, show (2 * m + 1) / 2 = m by omega, show 2 * m / 2 = m by omega, decide_eq_false hik]
        simp
theorem filter_first {p q : Nat → Bool} {k n : Nat} (hk : k < n) (h1 : ∀ i, i < k → p i = false) (h2 : p k = true) (h3 : ∀ i, q i = (p i && !decide (i = k))) :
    (List.range n).filter p = k :: (List.range n).filter q := by
  have e : List.range n = List.range k ++ (k :: (List.range (n - k - 1)).map (k + 1 + ·)) := by
    have h := List.range_add (n := k) (m := n - k)
    rw [show k + (n - k) = n by omega] at h
    rw [h, show n - k = (n - k - 1) + 1 by omega, List.range_succ_eq_map]
    congr 1
    rw [List.map_cons, List.map_map, Nat.add_zero]
    congr 1
    refine List.map_congr_left fun a _ => ?_
    simp only [Function.comp_apply]; omega
  have a1 : (List.range k).filter p = [] := List.filter_eq_nil_iff.2 fun i hi => by rw [h1 i (by simpa using hi)]; simp
  have a2 : (List.range k).filter q = [] := List.filter_eq_nil_iff.2 fun i hi => by rw [h3, h1 i (by simpa using hi)]; simp
  have a3 : q k = false := by rw [h3, h2]; simp
  have a4 : ((List.range (n - k - 1)).map (k + 1 + ·)).filter p = ((List.range (n - k - 1)).map (k + 1 + ·)).filter q := List.filter_congr fun i hi => by
    obtain ⟨j, _, rfl⟩ := List.mem_map.1 hi
    rw [h3, decide_eq_false (by omega : ¬ k + 1 + j = k)]; simp
  rw [e, List.filter_append, List.filter_append, a1, a2, List.filter_cons, List.filter_cons, h2, a3, if_pos rfl, if_neg (by simp), a4]
  rfl
theorem poss_step {x : Nat} (h0 : x ≠ 0) (h : x < 18446744073709551616) : poss x = Lib.ctz 64 x :: poss (x &&& (x - 1)) := by
  obtain ⟨h1, h2, h3, h4⟩ := ctz_bits h0 h
  exact filter_first h1 h2 h3 h4
theorem poss_zero : poss 0 = [] := by decide
theorem poss_len_le (x : Nat) : (poss x).length ≤ 64 := by
  have := List.length_filter_le x.testBit (List.range 64)
  rw [List.length_range] at this
  exact this
theorem low_lt {x : Nat} (h0 : x ≠ 0) : x &&& (x - 1) < x := Nat.lt_of_le_of_lt Nat.and_le_right (by omega)
end Go.Proofs.YtjojdkdpdlmahaaDoor
