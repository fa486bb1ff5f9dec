/- Sets of notes as two numbers below 2^64: their members. No program in sight. -/
import Derived.Test.YtjojdkdpdlmahaaDoorPa
namespace Go.Proofs.YtjojdkdpdlmahaaDoor
open Go.RowKit

/-- A set has a note. -/
def mem (lo hi n : Nat) : Bool := if n < 64 then lo.testBit n else hi.testBit (n - 64)
def withLo (lo n : Nat) : Nat := if n < 64 then lo ||| 2 ^ n else lo
def withHi (hi n : Nat) : Nat := if n < 64 then hi else hi ||| 2 ^ (n - 64)
theorem pow_lt {n : Nat} (h : n < 64) : 2 ^ n < 18446744073709551616 := Nat.pow_lt_pow_right (by decide) h
theorem or_lt {a b : Nat} (ha : a < 18446744073709551616) (hb : b < 18446744073709551616) : a ||| b < 18446744073709551616 := Nat.or_lt_two_pow (n := 64) ha hb
theorem and_lt {a b : Nat} (ha : a < 18446744073709551616) : a &&& b < 18446744073709551616 := Nat.lt_of_le_of_lt Nat.and_le_left ha
theorem withLo_lt {lo : Nat} (n : Nat) (h : lo < 18446744073709551616) : withLo lo n < 18446744073709551616 := by
  unfold withLo
  split
  · exact or_lt h (pow_lt (by assumption))
  · exact h
theorem withHi_lt {hi : Nat} (n : Nat) (h : hi < 18446744073709551616) (hn : n ≤ 127) : withHi hi n < 18446744073709551616 := by
  unfold withHi
  split
  · exact h
  · exact or_lt h (pow_lt (by omega))
theorem testBit_big {x n : Nat} (h : x < 18446744073709551616) (hn : 64 ≤ n) : x.testBit n = false :=
  Nat.testBit_lt_two_pow (Nat.lt_of_lt_of_le h (Nat.pow_le_pow_right (show 0 < 2 by decide) hn))
theorem mem_big {lo hi n : Nat} (h : hi < 18446744073709551616) (hn : 128 ≤ n) : mem lo hi n = false := by
  unfold mem; rw [if_neg (by omega)]; exact testBit_big h (by omega)
theorem set_ext {lo hi a b : Nat} (h1 : lo < 18446744073709551616) (h2 : hi < 18446744073709551616) (h3 : a < 18446744073709551616) (h4 : b < 18446744073709551616)
    (h : ∀ n, n < 128 → mem lo hi n = mem a b n) : lo = a ∧ hi = b := by
  constructor
  · refine Nat.eq_of_testBit_eq fun i => ?_
    by_cases hi : i < 64
    · have := h i (by omega)
      unfold mem at this
      rwa [if_pos hi, if_pos hi] at this
    · rw [testBit_big h1 (by omega), testBit_big h3 (by omega)]
  · refine Nat.eq_of_testBit_eq fun i => ?_
    by_cases hi : i < 64
    · have := h (i + 64) (by omega)
      unfold mem at this
      rwa [if_neg (by omega), if_neg (by omega), Nat.add_sub_cancel] at this
    · rw [testBit_big h2 (by omega), testBit_big h4 (by omega)]
theorem mem_with (lo hi n k : Nat) : mem (withLo lo n) (withHi hi n) k = (mem lo hi k || decide (k = n)) := by
  unfold mem withLo withHi
  by_cases hk : k < 64 <;> by_cases hn : n < 64 <;> simp only [hk, hn, if_true, if_false, Nat.testBit_or, Nat.testBit_two_pow]
  · rw [show decide (n = k) = decide (k = n) from by rw [decide_eq_decide]; exact eq_comm]
  · rw [decide_eq_false (by omega : ¬ k = n), Bool.or_false]
  · rw [decide_eq_false (by omega : ¬ k = n), Bool.or_false]
  · rw [show decide (n - 64 = k - 64) = decide (k = n) from by rw [decide_eq_decide]; omega]
theorem mem_union (lo hi a b k : Nat) : mem (lo ||| a) (hi ||| b) k = (mem lo hi k || mem a b k) := by
  unfold mem; split <;> exact Nat.testBit_or ..
theorem mem_both (lo hi a b k : Nat) : mem (lo &&& a) (hi &&& b) k = (mem lo hi k && mem a b k) := by
  unfold mem; split <;> exact Nat.testBit_and ..
/-- What the one has and the other has not. -/
def dif (a b : Nat) : Nat := a &&& (18446744073709551615 - b)
theorem dif_lt {a b : Nat} (h : a < 18446744073709551616) : dif a b < 18446744073709551616 := and_lt h
theorem testBit_dif {a b : Nat} (ha : a < 18446744073709551616) (hb : b < 18446744073709551616) (i : Nat) : (dif a b).testBit i = (a.testBit i && !b.testBit i) := by
  unfold dif
  rw [Nat.testBit_and]
  by_cases hi : i < 64
  · have := Nat.testBit_two_pow_sub_succ (x := b) (n := 64) hb i
    rw [show 2 ^ 64 - (b + 1) = 18446744073709551615 - b by omega] at this
    rw [this, decide_eq_true hi, Bool.true_and]
  · rw [testBit_big ha (by omega), Bool.false_and, Bool.false_and]
theorem mem_dif {lo hi a b : Nat} (h1 : lo < 18446744073709551616) (h2 : hi < 18446744073709551616) (h3 : a < 18446744073709551616) (h4 : b < 18446744073709551616) (k : Nat) :
    mem (dif lo a) (dif hi b) k = (mem lo hi k && !mem a b k) := by
  unfold mem; split
  · exact testBit_dif h1 h3 _
  · exact testBit_dif h2 h4 _
theorem mem_zero (k : Nat) : mem 0 0 k = false := by unfold mem; split <;> exact Nat.zero_testBit _

/-- The members in increasing order. -/
def mems (lo hi : Nat) : List Nat := (List.range 128).filter (mem lo hi)
def poss (x : Nat) : List Nat := (List.range 64).filter x.testBit
theorem mems_poss (lo hi : Nat) : mems lo hi = poss lo ++ (poss hi).map (64 + ·) := by
  unfold mems poss
  rw [show (128 : Nat) = 64 + 64 from rfl, List.range_add, List.filter_append, List.filter_map]
  have h1 : List.filter (mem lo hi) (List.range 64) = List.filter lo.testBit (List.range 64) := List.filter_congr fun n hn => by
    unfold mem
    rw [if_pos (by simpa using hn)]
  have h2 : List.filter (mem lo hi ∘ (64 + ·)) (List.range 64) = List.filter hi.testBit (List.range 64) := List.filter_congr fun n _ => by
    unfold mem
    rw [Function.comp_apply, if_neg (by omega), Nat.add_sub_cancel_left]
  rw [h1, h2]
theorem filter_pop : ∀ (f x : Nat), ((List.range f).filter x.testBit).length = Lib.popAux f x := by
  intro f
  induction f with
  | zero => intro x; rfl
  | succ f ih =>
    intro x
    rw [List.range_succ_eq_map, List.filter_cons, List.filter_map, Lib.popAux, ← ih (x / 2)]
    have h : List.filter (x.testBit ∘ Nat.succ) (List.range f) = List.filter (x / 2).testBit (List.range f) :=
      List.filter_congr fun n _ => by rw [Function.comp_apply, Nat.succ_eq_add_one, Nat.testBit_succ]
    rw [h]
    have h0 : x.testBit 0 = decide (x % 2 = 1) := Nat.testBit_zero x
    rw [h0]
    by_cases hx : x % 2 = 1
    · rw [if_pos (by simpa using hx), List.length_cons, List.length_map]; omega
    · rw [if_neg (by simpa using hx), List.length_map]; omega
theorem poss_len (x : Nat) : (poss x).length = popc x := filter_pop 64 x
theorem mems_len (lo hi : Nat) : (mems lo hi).length = popc lo + popc hi := by
  rw [mems_poss, List.length_append, List.length_map, poss_len, poss_len]
theorem popc_le (x : Nat) : popc x ≤ 64 := by
  rw [← poss_len]
  have := List.length_filter_le x.testBit (List.range 64)
  rw [List.length_range] at this
  exact this
theorem mem_mems {lo hi n : Nat} : n ∈ mems lo hi ↔ n < 128 ∧ mem lo hi n = true := by
  unfold mems; rw [List.mem_filter, List.mem_range]
end Go.Proofs.YtjojdkdpdlmahaaDoor
