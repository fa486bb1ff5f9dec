/- Moved notes, lists of members, the ends: plain laws. No program in sight. -/
import Derived.Test.YtjojdkdpdlmahaaDoorPd
import Derived.Lib.BitFns
namespace Go.Proofs.YtjojdkdpdlmahaaDoor
open Go.RowKit

/-- A note's place behind the move, if it is one. -/
def okS (by' : Int) (n : Nat) : Bool := decide (0 ≤ (n : Int) + by' ∧ (n : Int) + by' ≤ 127)
/-- The moved notes, on top of a set. -/
def shN (by' : Int) : Nat → Nat → List Nat → Nat × Nat
  | lo, hi, [] => (lo, hi)
  | lo, hi, n :: r => if okS by' n = true then shN by' (withLo lo ((n : Int) + by').toNat) (withHi hi ((n : Int) + by').toNat) r else shN by' lo hi r
theorem shN_snoc (by' : Int) (x : Nat) : ∀ (l : List Nat) (lo hi : Nat), shN by' lo hi (l ++ [x]) = if okS by' x = true then (withLo (shN by' lo hi l).1 ((x : Int) + by').toNat, withHi (shN by' lo hi l).2 ((x : Int) + by').toNat) else shN by' lo hi l
  | [], lo, hi => by simp only [List.nil_append, shN]
  | n :: r, lo, hi => by
    simp only [List.cons_append, shN]
    split
    · exact shN_snoc by' x r _ _
    · exact shN_snoc by' x r _ _
theorem okS_le {c : Int} {n : Nat} (h : okS c n = true) : ((n : Int) + c).toNat ≤ 127 ∧ (((n : Int) + c).toNat : Int) = (n : Int) + c := by
  unfold okS at h
  rw [decide_eq_true_iff] at h
  omega
theorem shN_lt (by' : Int) : ∀ (l : List Nat) (lo hi : Nat), lo < 18446744073709551616 → hi < 18446744073709551616 → (shN by' lo hi l).1 < 18446744073709551616 ∧ (shN by' lo hi l).2 < 18446744073709551616
  | [], lo, hi, h1, h2 => ⟨h1, h2⟩
  | n :: r, lo, hi, h1, h2 => by
    simp only [shN]
    split
    · rename_i h
      exact shN_lt by' r _ _ (withLo_lt _ h1) (withHi_lt _ h2 (okS_le h).1)
    · exact shN_lt by' r _ _ h1 h2
theorem shN_far (c : Int) : ∀ (l : List Nat) (lo hi : Nat), (∀ n ∈ l, okS c n = false) → shN c lo hi l = (lo, hi)
  | [], lo, hi, _ => rfl
  | n :: r, lo, hi, h => by
    rw [shN, if_neg (by rw [h n List.mem_cons_self]; decide)]
    exact shN_far c r lo hi fun m hm => h m (List.mem_cons_of_mem _ hm)
theorem mem_shN (c : Int) (k : Nat) : ∀ (l : List Nat) (lo hi : Nat), mem (shN c lo hi l).1 (shN c lo hi l).2 k = true ↔ mem lo hi k = true ∨ ∃ n ∈ l, okS c n = true ∧ (n : Int) + c = (k : Int)
  | [], lo, hi => by simp [shN]
  | n :: r, lo, hi => by
    rw [shN]
    split
    · rename_i h
      have hn := (okS_le h).2
      rw [mem_shN c k r, mem_with, Bool.or_eq_true, decide_eq_true_iff]
      constructor
      · rintro ((h1 | h1) | ⟨m, hm, h1⟩)
        · exact .inl h1
        · exact .inr ⟨n, List.mem_cons_self, h, by omega⟩
        · exact .inr ⟨m, List.mem_cons_of_mem _ hm, h1⟩
      · rintro (h1 | ⟨m, hm, h1, h2⟩)
        · exact .inl (.inl h1)
        · rcases List.mem_cons.1 hm with rfl | hm
          · exact .inl (.inr (by omega))
          · exact .inr ⟨m, hm, h1, h2⟩
    · rename_i h
      rw [mem_shN c k r]
      constructor
      · rintro (h1 | ⟨m, hm, h1⟩)
        · exact .inl h1
        · exact .inr ⟨m, List.mem_cons_of_mem _ hm, h1⟩
      · rintro (h1 | ⟨m, hm, h1, h2⟩)
        · exact .inl h1
        · rcases List.mem_cons.1 hm with rfl | hm
          · exact absurd h1 h
          · exact .inr ⟨m, hm, h1, h2⟩
/-- How far the program moves. -/
def clampS (z : Int) : Int := max (-128) (min 128 z)
def shS (z : Int) (lo hi : Nat) : Nat × Nat := shN (clampS z) 0 0 (mems lo hi)
theorem okS_clamp {z : Int} {n : Nat} (hn : n < 128) : okS (clampS z) n = decide (0 ≤ (n : Int) + z ∧ (n : Int) + z ≤ 127) := by
  unfold okS clampS
  rw [decide_eq_decide]
  omega
theorem shS_lt (z : Int) (lo hi : Nat) : (shS z lo hi).1 < 18446744073709551616 ∧ (shS z lo hi).2 < 18446744073709551616 := shN_lt _ _ _ _ (by decide) (by decide)
theorem shS_far {z : Int} {lo hi : Nat} (h : z < -127 ∨ 127 < z) : shS z lo hi = (0, 0) :=
  shN_far _ _ _ _ fun n hn => by
    rw [okS_clamp (mem_mems.1 hn).1, decide_eq_false_iff_not]
    have := (mem_mems.1 hn).1
    omega
theorem mem_shS (z : Int) (lo hi k : Nat) : mem (shS z lo hi).1 (shS z lo hi).2 k = true ↔ ∃ n, n < 128 ∧ mem lo hi n = true ∧ okS (clampS z) n = true ∧ (n : Int) + clampS z = (k : Int) := by
  unfold shS
  rw [mem_shN, mem_zero]
  constructor
  · rintro (h | ⟨n, hn, h1, h2⟩)
    · cases h
    · exact ⟨n, (mem_mems.1 hn).1, (mem_mems.1 hn).2, h1, h2⟩
  · rintro ⟨n, hn, hm, h1, h2⟩
    exact .inr ⟨n, mem_mems.2 ⟨hn, hm⟩, h1, h2⟩
/-- There and back. -/
def back (z : Int) (lo hi : Nat) : Nat × Nat := shS (-z) (shS z lo hi).1 (shS z lo hi).2
theorem back_lt (z : Int) (lo hi : Nat) : (back z lo hi).1 < 18446744073709551616 ∧ (back z lo hi).2 < 18446744073709551616 := shS_lt _ _ _
theorem mem_back {z : Int} {lo hi n : Nat} (hn : n < 128) : mem (back z lo hi).1 (back z lo hi).2 n = (mem lo hi n && decide (0 ≤ (n : Int) + z ∧ (n : Int) + z ≤ 127)) := by
  unfold back
  rw [Bool.eq_iff_iff, mem_shS, Bool.and_eq_true, decide_eq_true_iff]
  constructor
  · rintro ⟨m, hm, h1, h2, h3⟩
    obtain ⟨p, hp, h4, h5, h6⟩ := (mem_shS _ _ _ _).1 h1
    rw [okS_clamp hm, decide_eq_true_iff] at h2
    rw [okS_clamp hp, decide_eq_true_iff] at h5
    have e : p = n := by unfold clampS at h3 h6; omega
    exact ⟨by rw [← e]; exact h4, by rw [← e]; exact h5⟩
  · rintro ⟨h1, h2⟩
    refine ⟨((n : Int) + z).toNat, by omega, (mem_shS _ _ _ _).2 ⟨n, hn, h1, by rw [okS_clamp hn]; simpa using h2, ?_⟩, ?_, ?_⟩
    · unfold clampS; omega
    · rw [okS_clamp (by omega), decide_eq_true_iff]; omega
    · unfold clampS; omega
/-- The members below k. -/
def upto (lo hi k : Nat) : List Nat := (List.range k).filter (mem lo hi)
theorem upto_zero (lo hi : Nat) : upto lo hi 0 = [] := rfl
theorem upto_all (lo hi : Nat) : upto lo hi 128 = mems lo hi := rfl
theorem upto_succ (lo hi k : Nat) : upto lo hi (k + 1) = if mem lo hi k = true then upto lo hi k ++ [k] else upto lo hi k := by
  unfold upto
  rw [List.range_succ, List.filter_append]
  cases h : mem lo hi k <;> simp [h]
theorem upto_len (lo hi k : Nat) : (upto lo hi k).length ≤ k := by
  have := List.length_filter_le (mem lo hi) (List.range k)
  rwa [List.length_range] at this
theorem filter_last {p : Nat → Bool} {k n : Nat} (hk : k < n) (h1 : p k = true) (h2 : ∀ i, k < i → p i = false) : (List.range n).filter p = (List.range k).filter p ++ [k] := by
  have e : List.range n = List.range (k + 1) ++ (List.range (n - k - 1)).map (k + 1 + ·) := by
    rw [← List.range_add]; congr 1; omega
  rw [e, List.filter_append, List.range_succ, List.filter_append]
  have e2 : ((List.range (n - k - 1)).map (k + 1 + ·)).filter p = [] := by
    rw [List.filter_eq_nil_iff]
    intro x hx
    obtain ⟨i, _, rfl⟩ := List.mem_map.1 hx
    rw [h2 _ (by omega)]
    decide
  rw [e2, List.append_nil]
  simp [h1]
theorem bitLen_spec {x : Nat} (h0 : x ≠ 0) (h : x < 18446744073709551616) : 1 ≤ Lib.bitLen x ∧ Lib.bitLen x ≤ 64 ∧ 2 ^ (Lib.bitLen x - 1) ≤ x ∧ x < 2 ^ Lib.bitLen x := by
  have gen : ∀ (f x : Nat), x ≠ 0 → x < 2 ^ f → 1 ≤ Lib.bitLenAux f x ∧ Lib.bitLenAux f x ≤ f ∧ 2 ^ (Lib.bitLenAux f x - 1) ≤ x ∧ x < 2 ^ Lib.bitLenAux f x := by
    intro f
    induction f with
    | zero => intro x h0 h; simp at h; omega
    | succ f ih =>
      intro x h0 h
      rw [Lib.bitLenAux, if_neg h0]
      by_cases h2 : x / 2 = 0
      · have : x = 1 := by omega
        subst this
        have : Lib.bitLenAux f (1 / 2) = 0 := by cases f <;> simp [Lib.bitLenAux]
        rw [this]; simp
      · obtain ⟨a, b, c, d⟩ := ih (x / 2) h2 (by rw [Nat.pow_succ] at h; omega)
        refine ⟨by omega, by omega, ?_, ?_⟩
        · rw [show 1 + Lib.bitLenAux f (x / 2) - 1 = (Lib.bitLenAux f (x / 2) - 1) + 1 by omega, Nat.pow_succ]; omega
        · rw [Nat.add_comm, Nat.pow_succ]; omega
  exact gen 64 x h0 h
theorem poss_last {x : Nat} (h0 : x ≠ 0) (h : x < 18446744073709551616) : poss x = (List.range (Lib.bitLen x - 1)).filter x.testBit ++ [Lib.bitLen x - 1] := by
  obtain ⟨a, b, c, d⟩ := bitLen_spec h0 h
  refine filter_last (by omega) ?_ fun i hi => ?_
  · exact Nat.testBit_of_two_pow_le_and_two_pow_add_one_gt c (by rw [show Lib.bitLen x - 1 + 1 = Lib.bitLen x by omega]; exact d)
  · exact Nat.testBit_lt_two_pow (Nat.lt_of_lt_of_le d (Nat.pow_le_pow_right (by decide) (by omega)))
/-- The greatest member. -/
theorem last_high {lo hi : Nat} (h0 : hi ≠ 0) (h : hi < 18446744073709551616) : (mems lo hi).getLast? = some (63 + Lib.bitLen hi) := by
  have := (bitLen_spec h0 h).1
  rw [mems_poss, poss_last h0 h, List.map_append, ← List.append_assoc, List.map_cons, List.map_nil, List.getLast?_append]
  simp
  omega
theorem last_low {lo : Nat} (h0 : lo ≠ 0) (h : lo < 18446744073709551616) : (mems lo 0).getLast? = some (Lib.bitLen lo - 1) := by
  rw [mems_poss, poss_zero, List.map_nil, List.append_nil, poss_last h0 h, List.getLast?_append]
  simp
theorem mems_none : mems 0 0 = [] := by rw [mems_poss, poss_zero]; rfl
theorem mems_ne {lo hi : Nat} (h1 : lo < 18446744073709551616) (h2 : hi < 18446744073709551616) (h : mems lo hi = []) : lo = 0 ∧ hi = 0 := by
  constructor
  · refine Classical.byContradiction fun h0 => ?_
    rw [mems_poss, poss_last h0 h1] at h
    simp at h
  · refine Classical.byContradiction fun h0 => ?_
    have := last_high (lo := lo) h0 h2
    rw [h] at this
    simp at this
end Go.Proofs.YtjojdkdpdlmahaaDoor
