/- The simplest number between two right fractions: the plain law. -/
import Derived.Test.YtoncbkkhfblpdaaDoorK1
namespace Go.Proofs.YtoncbkkhfblpdaaDoor
open Go.RowKit

/-- The simplest number from n/d to m/e. -/
def smpV (n d m e : Int) : Int × Int :=
  if n ≤ 0 ∧ 0 ≤ m then (0, 1)
  else if m < 0 then (-(smp (e + d).toNat (-m) e (-n) d).1, (smp (e + d).toNat (-m) e (-n) d).2)
  else smp (d + e).toNat n d m e
/-- The least integer not less than n k / d, and the greatest one not greater than m k / e. -/
def cei (n d k : Int) : Int := -((-(n * k)) / d)
def flo (m e k : Int) : Int := (m * k) / e
theorem cei_le {n d k x : Int} (hd : 1 ≤ d) : cei n d k ≤ x ↔ n * k ≤ x * d := by
  unfold cei
  have h := Int.le_ediv_iff_mul_le (a := -x) (b := -(n * k)) (show 0 < d by omega)
  rw [Int.neg_mul] at h
  omega
theorem le_flo {m e k x : Int} (he : 1 ≤ e) : x ≤ flo m e k ↔ x * e ≤ m * k := Int.le_ediv_iff_mul_le (show 0 < e by omega)

theorem pos_case {n d m e : Int} (hn : 1 ≤ n) (hd : 1 ≤ d) (he : 1 ≤ e) (h : n * e ≤ m * d) : Pos n d m e := by
  refine ⟨hn, hd, ?_, he, h⟩
  have h1 := Int.mul_pos (show 0 < n by omega) (show 0 < e by omega)
  by_cases hm : 1 ≤ m
  · exact hm
  · have := Int.mul_nonpos_of_nonneg_of_nonpos (show 0 ≤ d by omega) (show m ≤ 0 by omega)
    rw [Int.mul_comm] at this
    omega
theorem neg_case {n d m e : Int} (hm : m < 0) (hd : 1 ≤ d) (he : 1 ≤ e) (h : n * e ≤ m * d) : Pos (-m) e (-n) d := by
  refine pos_case (by omega) he hd ?_
  rw [Int.neg_mul, Int.neg_mul]
  omega

theorem smpV_spec (n d m e : Int) (hd : 1 ≤ d) (he : 1 ≤ e) (h : n * e ≤ m * d) : 1 ≤ (smpV n d m e).2 ∧ (smpV n d m e).2 ≤ max d e ∧
    (∀ k, 1 ≤ k → k < (smpV n d m e).2 → flo m e k < cei n d k) ∧ cei n d (smpV n d m e).2 ≤ flo m e (smpV n d m e).2 ∧
    ((0 < cei n d (smpV n d m e).2 ∧ (smpV n d m e).1 = cei n d (smpV n d m e).2) ∨
     (¬ 0 < cei n d (smpV n d m e).2 ∧ flo m e (smpV n d m e).2 < 0 ∧ (smpV n d m e).1 = flo m e (smpV n d m e).2) ∨
     (¬ 0 < cei n d (smpV n d m e).2 ∧ ¬ flo m e (smpV n d m e).2 < 0 ∧ smpV n d m e = (0, 1))) := by
  unfold smpV
  by_cases h0 : n ≤ 0 ∧ 0 ≤ m
  · rw [if_pos h0]
    dsimp only
    have e1 : cei n d 1 ≤ 0 := (cei_le hd).2 (by omega)
    have e2 : 0 ≤ flo m e 1 := (le_flo he).2 (by omega)
    exact ⟨by omega, by omega, fun k h1 h2 => by omega, by omega, .inr (.inr ⟨by omega, by omega, rfl⟩)⟩
  · rw [if_neg h0]
    by_cases hm : m < 0
    · rw [if_pos hm]
      dsimp only
      have hp := neg_case hm hd he h
      obtain ⟨⟨x1, x2, x3, x4⟩, hmin⟩ := smp_spec (e + d).toNat (-m) e (-n) d hp (by omega)
      have hle := smp_le hp (show e + d ≤ ((e + d).toNat : Int) by omega)
      generalize smp (e + d).toNat (-m) e (-n) d = z at *
      obtain ⟨X, Y⟩ := z
      dsimp only at *
      rw [Int.neg_mul] at x3 x4
      have c1 : cei n d Y ≤ -X := (cei_le hd).2 (by rw [Int.neg_mul]; omega)
      have c2 : -X ≤ flo m e Y := (le_flo he).2 (by rw [Int.neg_mul]; omega)
      have c3 : flo m e Y ≤ -X := by
        have w1 := (le_flo (x := flo m e Y) (m := m) (k := Y) he).1 (Int.le_refl _)
        have w2 := (cei_le (x := flo m e Y) (n := n) (k := Y) hd).1 (by omega)
        have := (hmin (-(flo m e Y)) Y x2 ⟨by rw [Int.neg_mul, Int.neg_mul]; omega, by rw [Int.neg_mul, Int.neg_mul]; omega⟩).1
        omega
      refine ⟨x2, by omega, fun k h1 h2 => ?_, by omega, .inr (.inl ⟨by omega, by omega, by omega⟩)⟩
      refine Int.lt_of_not_ge fun hk => ?_
      have w1 := (le_flo (x := flo m e k) (m := m) (k := k) he).1 (Int.le_refl _)
      have w2 := (cei_le (x := flo m e k) (n := n) (k := k) hd).1 hk
      have := (hmin (-(flo m e k)) k h1 ⟨by rw [Int.neg_mul, Int.neg_mul]; omega, by rw [Int.neg_mul, Int.neg_mul]; omega⟩).2
      omega
    · rw [if_neg hm]
      have hp := pos_case (show 1 ≤ n by omega) hd he h
      obtain ⟨⟨x1, x2, x3, x4⟩, hmin⟩ := smp_spec (d + e).toNat n d m e hp (by omega)
      have hle := smp_le hp (show d + e ≤ ((d + e).toNat : Int) by omega)
      generalize smp (d + e).toNat n d m e = z at *
      obtain ⟨X, Y⟩ := z
      dsimp only at *
      have c1 : cei n d Y ≤ X := (cei_le hd).2 x3
      have c2 : X ≤ flo m e Y := (le_flo he).2 x4
      have c3 : X ≤ cei n d Y := by
        have w1 := (cei_le (x := cei n d Y) (n := n) (k := Y) hd).1 (Int.le_refl _)
        have w2 := (le_flo (x := cei n d Y) (m := m) (k := Y) he).1 (by omega)
        exact (hmin (cei n d Y) Y x2 ⟨w1, w2⟩).1
      refine ⟨x2, by omega, fun k h1 h2 => ?_, by omega, .inl ⟨by omega, by omega⟩⟩
      refine Int.lt_of_not_ge fun hk => ?_
      have w1 := (cei_le (x := cei n d k) (n := n) (k := k) hd).1 (Int.le_refl _)
      have w2 := (le_flo (x := cei n d k) (m := m) (k := k) he).1 hk
      have := (hmin (cei n d k) k h1 ⟨w1, w2⟩).2
      omega
/-- Both ends lie there, so the denominator is at most each of theirs. -/
theorem smpV_le (n d m e : Int) (hd : 1 ≤ d) (he : 1 ≤ e) (h : n * e ≤ m * d) (x k : Int) (hk : 1 ≤ k) (hw : Within n d m e x k) : (smpV n d m e).2 ≤ k := by
  obtain ⟨_, _, h3, _⟩ := smpV_spec n d m e hd he h
  refine Int.le_of_not_gt fun hlt => ?_
  have h4 := h3 k hk hlt
  have h5 := (cei_le (x := x) (n := n) (k := k) hd).2 hw.1
  have h6 := (le_flo (x := x) (m := m) (k := k) he).2 hw.2
  omega
theorem smpV_low (n d m e : Int) (hd : 1 ≤ d) (he : 1 ≤ e) (h : n * e ≤ m * d) : (smpV n d m e).2 ≤ d := smpV_le n d m e hd he h n d hd ⟨Int.le_refl _, h⟩
end Go.Proofs.YtoncbkkhfblpdaaDoor
