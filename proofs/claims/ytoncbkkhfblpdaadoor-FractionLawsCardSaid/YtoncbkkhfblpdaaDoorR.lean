/- Continued fractions: plain Lean. -/
import Derived.Test.YtoncbkkhfblpdaaDoorJ
import Derived.Test.YtoncbkkhfblpdaaDoorQ
namespace Go.Proofs.YtoncbkkhfblpdaaDoor
open Go.RowKit

/-- The terms of the continued fraction of n / d. -/
def termsL (n : Int) (d : Nat) : List Int :=
  if _h : d = 0 then [] else n / (d : Int) :: termsL d (n % (d : Int)).toNat
termination_by d
decreasing_by
  have h1 := Int.emod_lt_of_pos n (by omega : (0 : Int) < d)
  have h2 := Int.emod_nonneg n (by omega : (d : Int) ≠ 0)
  omega
theorem termsL_zero (n : Int) : termsL n 0 = [] := by rw [termsL]; rfl
theorem termsL_pos (n : Int) {d : Nat} (h : d ≠ 0) : termsL n d = n / (d : Int) :: termsL d (n % (d : Int)).toNat := by rw [termsL, dif_neg h]
theorem emod_nat {n : Int} {d : Nat} (h : d ≠ 0) : ((n % (d : Int)).toNat : Int) = n % (d : Int) ∧ (n % (d : Int)).toNat < d := by
  have h1 := Int.emod_lt_of_pos n (by omega : (0 : Int) < d)
  have h2 := Int.emod_nonneg n (by omega : (d : Int) ≠ 0)
  omega
theorem gcd_self_emod (n : Int) (d : Nat) : Int.gcd (d : Int) (n % (d : Int)) = Int.gcd n d := by
  apply Nat.dvd_antisymm
  · refine Int.dvd_gcd ?_ (Int.gcd_dvd_left ..)
    have h1 : ((Int.gcd (d : Int) (n % (d : Int)) : Nat) : Int) ∣ (d : Int) := Int.gcd_dvd_left ..
    have h2 : ((Int.gcd (d : Int) (n % (d : Int)) : Nat) : Int) ∣ n % (d : Int) := Int.gcd_dvd_right ..
    have h3 := Int.dvd_add (Int.dvd_mul_of_dvd_right (b := n / (d : Int)) h1) h2
    rw [Int.ediv_mul_add_emod] at h3
    exact h3
  · refine Int.dvd_gcd (Int.gcd_dvd_right ..) ?_
    have h1 : ((Int.gcd n d : Nat) : Int) ∣ n := Int.gcd_dvd_left ..
    have h2 : ((Int.gcd n d : Nat) : Int) ∣ (d : Int) := Int.gcd_dvd_right ..
    have h3 := Int.dvd_sub h1 (Int.dvd_mul_of_dvd_right (b := n / (d : Int)) h2)
    have h4 := Int.ediv_mul_add_emod n d
    rw [show n - n / (d : Int) * (d : Int) = n % (d : Int) by omega] at h3
    exact h3
theorem valS_snoc (n d : Int) (l : List Int) (z : Int) : valS n d (l ++ [z]) = (valS n d l).bind fun p => valS p.1 p.2 [z] := by
  induction l generalizing n d with
  | nil => rfl
  | cons a r ih =>
    rw [List.cons_append, valS, valS]
    split
    · rfl
    · exact ih _ _
theorem valS_terms (d : Nat) : ∀ n : Int, -1000000 ≤ n → n ≤ 1000000 → d ≤ 1000000 → Int.gcd n d = 1 → (d = 0 → n = 1) → valS 1 0 (termsL n d).reverse = some (n, (d : Int)) := by
  induction d using Nat.strongRecOn with
  | ind d ih =>
    intro n h1 h2 h3 hg h0
    by_cases hd : d = 0
    · subst hd
      rw [termsL_zero, h0 rfl]; rfl
    · obtain ⟨e1, e2⟩ := emod_nat (n := n) hd
      rw [termsL_pos n hd, List.reverse_cons, valS_snoc]
      have hgd : Int.gcd (d : Int) ((n % (d : Int)).toNat : Int) = 1 := by rw [e1]; exact (gcd_self_emod n d).trans hg
      rw [ih _ e2 d (by omega) (by omega) (by omega) hgd (fun hz => by
        rw [hz] at hgd
        have : d = 1 := by simpa using hgd
        omega)]
      have q1 : n / (d : Int) ≤ 1000000 := by
        have := Int.natAbs_ediv_le_natAbs n d
        omega
      have q2 : -1000001 ≤ n / (d : Int) := by
        have := Int.natAbs_ediv_le_natAbs n d
        omega
      show valS (d : Int) ((n % (d : Int)).toNat : Int) [n / (d : Int)] = _
      rw [valS, if_neg (by omega), e1, valS, Int.ediv_mul_add_emod]
theorem terms_low (d : Nat) : ∀ n : Nat, d < n → ∀ z ∈ termsL n d, 1 ≤ z := by
  induction d using Nat.strongRecOn with
  | ind d ih =>
    intro n h z hz
    by_cases hd : d = 0
    · subst hd; rw [termsL_zero] at hz; cases hz
    · obtain ⟨e1, e2⟩ := emod_nat (n := (n : Int)) hd
      rw [termsL_pos _ hd] at hz
      rcases List.mem_cons.1 hz with rfl | hz
      · exact (Int.le_ediv_iff_mul_le (by omega)).2 (by omega)
      · exact ih _ e2 d e2 z hz
theorem lowTail_terms (n : Int) (d : Nat) : lowTail (termsL n d) = false := by
  unfold lowTail
  by_cases hd : d = 0
  · subst hd; rw [termsL_zero]; rfl
  · obtain ⟨_, e2⟩ := emod_nat (n := n) hd
    rw [termsL_pos n hd, List.tail_cons, List.any_eq_false]
    intro z hz
    have := terms_low _ d e2 z hz
    simp; omega
theorem terms_length (k : Nat) : ∀ (n : Int) (d : Nat), d < 2 ^ k → (termsL n d).length ≤ 2 * k := by
  induction k with
  | zero => intro n d h; have : d = 0 := by simpa using h
            subst this; rw [termsL_zero]; simp
  | succ k ih =>
    intro n d h
    by_cases hd : d = 0
    · subst hd; rw [termsL_zero]; simp
    · rw [termsL_pos n hd]
      generalize hr : (n % (d : Int)).toNat = r
      have hrd : r < d := by rw [← hr]; exact (emod_nat hd).2
      by_cases h0 : r = 0
      · subst h0; rw [termsL_zero]; simp; omega
      · rw [termsL_pos _ h0, List.length_cons, List.length_cons]
        have hm : ((d : Int) % (r : Int)).toNat = d % r := by rw [← Int.natCast_emod]; rfl
        have hlt : d % r < r := Nat.mod_lt _ (by omega)
        have hle : d % r + r ≤ d := by
          have h1 := Nat.div_add_mod d r
          have h2 : 1 ≤ d / r := (Nat.le_div_iff_mul_le (by omega)).2 (by omega)
          have h3 : r * 1 ≤ r * (d / r) := Nat.mul_le_mul_left r h2
          omega
        rw [hm]
        have := ih (r : Int) (d % r) (by rw [Nat.pow_succ] at h; omega)
        omega
theorem terms_value {n d : Int} (h : right n d = true) : valueU (termsL n d.toNat) = (n, d, 0) ∧ 0 < (termsL n d.toNat).length ∧ (termsL n d.toNat).length ≤ 40 := by
  obtain ⟨r1, r2, r3, r4, r5⟩ := right_spec h
  obtain ⟨e1, e2, e3⟩ := mk_right h
  have hd : (d.toNat : Int) = d := by omega
  refine ⟨?_, ?_, terms_length 20 n d.toNat (by omega)⟩
  · rw [← valueU_ok (lowTail_terms _ _)]
    unfold valueT
    rw [valS_terms d.toNat n r3 r4 (by omega) (by rw [hd]; exact r5) (by omega), hd]
    dsimp only
    rw [e1, e2, e3]
  · rw [termsL_pos n (by omega)]; simp
end Go.Proofs.YtoncbkkhfblpdaaDoor
