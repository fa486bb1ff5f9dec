/- divide and DivMod, whole. -/
import Derived.Test.YteglfhmmkoahfaaGreatDoorM29
import Derived.Test.YteglfhmmkoahfaaGreatDoorM17
namespace Go.Proofs.YteglfhmmkoahfaaGreatDoor
open Go.RowKit Go.Shelf

theorem divide_any (a b : Option Addr) (cap cap' m n : Nat) (w : World) (h1 : Limbs w a (lim m)) (h2 : Limbs w b (lim n)) (hl1 : (lim m).length ≤ 5000) (hl2 : (lim n).length ≤ 10000) (hn0 : n ≠ 0) :
    Calls Tryz.prog 39 #[.slice a (lim m).length cap, .slice b (lim n).length cap'] w (DivRet w (m / n) (m % n)) := by
  by_cases h : m < n
  · have := divide_lt a b cap cap' m n w h1 h2 (by omega) hl2 h
    rw [Nat.div_eq_of_lt h, Nat.mod_eq_of_lt h]
    exact this
  · by_cases hn : n < 1000000000
    · exact divide_one a b cap cap' m n w h1 h2 (by omega) (by omega) hn0 hn
    · refine divide_full a b cap cap' m n w h1 h2 hl1 (by omega) ?_
      refine Nat.le_of_not_lt fun hk => hn ?_
      have h3 := (limbs_bounds (B := 1000000000) (by decide) n).1
      have h4 : (1000000000 : Nat) ^ (limbs 1000000000 n).length ≤ 1000000000 ^ 1 := Nat.pow_le_pow_right (by decide) (show (lim n).length ≤ 1 by omega)
      omega
theorem divMod_any (a b : Int) (w : World) (ha : nd a ≤ 45000) (hb : nd b ≤ 70000) (hb0 : b ≠ 0) (hT : Tab w) :
    Calls Tryz.prog 19 #[.string ⟨(iT a).toArray⟩, .string ⟨(iT b).toArray⟩] w (Ret (.tuple #[.string ⟨(iT (dmQ a b)).toArray⟩, .string ⟨(iT (dmR a b)).toArray⟩, .int .i64 0]) w) :=
  divMod_of a b w (by omega) hb hb0 hT fun pa pb ca cb w' h1 h2 =>
    divide_any pa pb ca cb _ _ w' h1 h2 (lim_le2 (nd_lt a) (by omega)) (lim_nd b (by omega)) (by omega)
theorem dm_calc {A B q r : Int} (h : B * q + r = A) : q * B + r = A ∧ -q * B + -r = -A ∧ q * -B + -r = -A ∧ -q * -B + r = A ∧ -(q + 1) * B + (B - r) = -A ∧ -(q + 1) * -B + -(B - r) = A := by
  have e : q * B = B * q := Int.mul_comm _ _
  have e2 : (q + 1) * B = B * q + B := by rw [Int.add_mul, Int.one_mul, e]
  refine ⟨?_, ?_, ?_, ?_, ?_, ?_⟩ <;> simp only [Int.neg_mul, Int.mul_neg, Int.neg_neg, e, e2] <;> omega
set_option maxHeartbeats 3200000 in
/-- Quotient and rest by the floor. -/
theorem dm_law (a b : Int) (hb : b ≠ 0) : dmQ a b * b + dmR a b = a ∧ (dmR a b).natAbs < b.natAbs ∧ 0 ≤ dmR a b * b := by
  have h1 := Nat.div_add_mod a.natAbs b.natAbs
  have h2 := Nat.mod_lt a.natAbs (show 0 < b.natAbs by omega)
  unfold dmQ dmR dmX dmY sg
  obtain ⟨q, hq⟩ : ∃ q, a.natAbs / b.natAbs = q := ⟨_, rfl⟩
  obtain ⟨r, hr⟩ : ∃ r, a.natAbs % b.natAbs = r := ⟨_, rfl⟩
  rw [hq, hr] at h1 ⊢
  rw [hr] at h2
  clear hq hr
  have hrn : ∀ x : Int, 0 ≤ x → 0 ≤ x * (b.natAbs : Int) := fun x hx => Int.mul_nonneg hx (by omega)
  obtain ⟨B, hB⟩ : ∃ B, b.natAbs = B := ⟨_, rfl⟩
  obtain ⟨A, hA⟩ : ∃ A, a.natAbs = A := ⟨_, rfl⟩
  rw [hB, hA] at h1
  rw [hB] at h2 hrn ⊢
  obtain ⟨c1, c2, c3, c4, c5, c6⟩ := @dm_calc (A : Int) (B : Int) (q : Int) (r : Int) (by rw [← h1]; simp)
  have n1 := hrn r (by omega)
  have n2 := hrn ((B - r : Nat) : Int) (by omega)
  have eBr : ((B - r : Nat) : Int) = (B : Int) - (r : Int) := by omega
  have eq1 : ((q + 1 : Nat) : Int) = (q : Int) + 1 := by omega
  by_cases ha : a < 0 <;> by_cases hbn : b < 0
  · have ea : a = -(A : Int) := by omega
    have eb : b = -(B : Int) := by omega
    simp only [decide_eq_true ha, decide_eq_true hbn, ne_eq, not_true, false_and, if_false, bne_self_eq_false, Bool.false_eq_true, if_true]
    refine ⟨by rw [ea, eb]; exact c3, by omega, by rw [eb, Int.neg_mul_neg]; exact n1⟩
  · have ea : a = -(A : Int) := by omega
    have eb : b = (B : Int) := by omega
    simp only [decide_eq_true ha, decide_eq_false hbn, ne_eq, reduceCtorEq, not_false_iff, true_and, bne_iff_ne, if_true, Bool.false_eq_true, if_false]
    by_cases h0 : 0 < r
    · simp only [if_pos h0, eBr, eq1]
      rw [eBr] at n2
      exact ⟨by rw [ea, eb]; exact c5, by omega, by rw [eb]; exact n2⟩
    · have hr0 : r = 0 := by omega
      subst hr0
      simp only [if_neg h0]
      exact ⟨by rw [ea, eb]; simpa using c2, by omega, by rw [eb]; exact n1⟩
  · have ea : a = (A : Int) := by omega
    have eb : b = -(B : Int) := by omega
    simp only [decide_eq_false ha, decide_eq_true hbn, ne_eq, reduceCtorEq, not_false_iff, true_and, bne_iff_ne, if_true, Bool.false_eq_true, if_false]
    by_cases h0 : 0 < r
    · simp only [if_pos h0, eBr, eq1]
      rw [eBr] at n2
      exact ⟨by rw [ea, eb]; exact c6, by omega, by rw [eb, Int.neg_mul_neg]; exact n2⟩
    · have hr0 : r = 0 := by omega
      subst hr0
      simp only [if_neg h0]
      exact ⟨by rw [ea, eb]; simpa using c4, by omega, by rw [eb]; simp⟩
  · have ea : a = (A : Int) := by omega
    have eb : b = (B : Int) := by omega
    simp only [decide_eq_false ha, decide_eq_false hbn, ne_eq, not_true, false_and, if_false, bne_self_eq_false, Bool.false_eq_true, if_true]
    refine ⟨by rw [ea, eb]; exact c1, by omega, by rw [eb]; exact n1⟩
end Go.Proofs.YteglfhmmkoahfaaGreatDoor
