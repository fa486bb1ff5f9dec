/- Plain laws on quotients in lowest terms: no program in sight. -/
import Derived.Test.YtoncbkkhfblpdaaDoorB
namespace Go.Proofs.YtoncbkkhfblpdaaDoor
open Go.RowKit

theorem gcd_split (n d : Int) : ∃ a b : Int, n = (Int.gcd n d : Int) * a ∧ d = (Int.gcd n d : Int) * b := by
  obtain ⟨a, ha⟩ := Int.gcd_dvd_left (a := n) (b := d)
  obtain ⟨b, hb⟩ := Int.gcd_dvd_right (a := n) (b := d)
  exact ⟨a, b, ha, hb⟩
theorem abs_div (g : Nat) (n a : Int) (hg : 0 < g) (h : n = (g : Int) * a) : (n.natAbs : Int) / (g : Int) = (a.natAbs : Int) := by
  subst h
  rw [Int.natAbs_mul, Int.natAbs_natCast, Int.natCast_mul, Int.mul_ediv_cancel_left _ (by omega)]
theorem tdiv_of (g : Nat) (n a : Int) (hg : 0 < g) (h : n = (g : Int) * a) : n.tdiv (g : Int) = a := by
  subst h
  exact Int.mul_tdiv_cancel_left _ (by omega)
theorem mul_neg_iff (g : Nat) (a : Int) (hg : 0 < g) : ((g : Int) * a < 0) ↔ a < 0 := by
  constructor
  · intro h
    refine Int.lt_of_not_ge fun h0 => ?_
    have := Int.mul_nonneg (show (0 : Int) ≤ g by omega) h0
    omega
  · intro h
    have := Int.mul_pos (show (0 : Int) < g by omega) (show (0 : Int) < -a by omega)
    rw [Int.mul_neg] at this
    omega
/-- The quotient by the divisor with the sign of the denominator. -/
def sg (n d : Int) : Int := if d < 0 then -(Int.gcd n d : Int) else (Int.gcd n d : Int)
theorem tdiv_sg (n d : Int) (h : d ≠ 0) : n.tdiv (sg n d) = mkN n d ∧ d.tdiv (sg n d) = mkD n d := by
  have hg0 : 0 < Int.gcd n d := Int.gcd_pos_of_ne_zero_right _ h
  obtain ⟨a, b, ha, hb⟩ := gcd_split n d
  unfold sg mkN mkM mkD
  generalize Int.gcd n d = g at *
  have e1 := abs_div g n a hg0 ha
  have e2 := abs_div g d b hg0 hb
  have e3 := tdiv_of g n a hg0 ha
  have e4 := tdiv_of g d b hg0 hb
  have e5 := mul_neg_iff g a hg0
  have e6 := mul_neg_iff g b hg0
  rw [← ha] at e5
  rw [← hb] at e6
  rw [e1, e2]
  by_cases hd : d < 0 <;> by_cases hn : n < 0 <;> simp only [hd, hn, if_true, if_false, Int.tdiv_neg, e3, e4] <;> simp only [hd, hn, true_iff, false_iff] at e5 e6 <;> constructor <;> first | omega | (simp; omega)
theorem gcd_parts (n d : Int) (h : d ≠ 0) : Int.gcd (mkN n d) (mkD n d) = 1 := by
  have hg0 : 0 < Int.gcd n d := Int.gcd_pos_of_ne_zero_right _ h
  have e1 : (mkN n d).natAbs = n.natAbs / Int.gcd n d := by
    unfold mkN mkM
    rw [← Int.natCast_ediv]
    split
    · exact Int.natAbs_natCast _
    · rw [Int.natAbs_neg, Int.natAbs_natCast]
  have e2 : (mkD n d).natAbs = d.natAbs / Int.gcd n d := by
    unfold mkD
    rw [← Int.natCast_ediv]
    exact Int.natAbs_natCast _
  rw [Int.gcd_eq_natAbs_gcd_natAbs, e1, e2, Int.gcd_eq_natAbs_gcd_natAbs]
  rw [Int.gcd_eq_natAbs_gcd_natAbs] at hg0
  exact Nat.coprime_div_gcd_div_gcd hg0
theorem mkD_pos (n d : Int) (h : d ≠ 0) : 1 ≤ mkD n d := by
  have hg0 : 0 < Int.gcd n d := Int.gcd_pos_of_ne_zero_right _ h
  obtain ⟨a, b, ha, hb⟩ := gcd_split n d
  unfold mkD
  generalize Int.gcd n d = g at *
  rw [abs_div g d b hg0 hb]
  have : b ≠ 0 := by rintro rfl; simp at hb; exact h hb
  omega
theorem mkM_nonneg (n d : Int) : 0 ≤ mkM n d := by unfold mkM; exact Int.ediv_nonneg (by omega) (by omega)
theorem mkM_le (n d : Int) : mkM n d ≤ n.natAbs := by unfold mkM; exact Int.ediv_le_self _ (by omega)
theorem mkD_le (n d : Int) : mkD n d ≤ d.natAbs := by unfold mkD; exact Int.ediv_le_self _ (by omega)
theorem mkN_abs (n d : Int) : mkN n d = mkM n d ∨ mkN n d = - mkM n d := by unfold mkN; split <;> simp
theorem fits_right (n d : Int) (h : d ≠ 0) (hf : fits n d = true) : right (mkN n d) (mkD n d) = true := by
  have h1 := mkD_pos n d h
  have h2 := mkM_nonneg n d
  have h3 := mkN_abs n d
  have h4 := gcd_parts n d h
  unfold fits at hf
  rw [decide_eq_true_iff] at hf
  rw [right, decide_eq_true_iff]
  omega
theorem right_wrap (n d : Int) (h : d ≠ 0) (h1 : -9223372036854775808 ≤ n) (h2 : n ≤ 9223372036854775807) (h3 : -9223372036854775808 ≤ d) (h4 : d ≤ 9223372036854775807) :
    right (wrap64 (mkN n d)) (wrap64 (mkD n d)) = fits n d := by
  cases hf : fits n d with
  | true =>
    have h5 := mkD_pos n d h
    have h6 := mkM_nonneg n d
    have h7 := mkN_abs n d
    have h8 := fits_right n d h hf
    unfold fits at hf
    rw [decide_eq_true_iff] at hf
    rw [IntWalk.wrap64_in _ (by omega), IntWalk.wrap64_in _ (by omega), h8]
  | false =>
    have h5 := mkD_pos n d h
    have h6 := mkM_nonneg n d
    have h7 := mkN_abs n d
    have h8 := mkM_le n d
    have h9 := mkD_le n d
    unfold fits at hf
    rw [decide_eq_false_iff_not] at hf
    rw [right, decide_eq_false_iff_not]
    intro k
    obtain ⟨k1, k2, k3, k4, _⟩ := k
    unfold wrap64 at k1 k2 k3 k4
    omega
theorem wrap_fits (n d : Int) (h : d ≠ 0) (hf : fits n d = true) : wrap64 (mkN n d) = mkN n d ∧ wrap64 (mkD n d) = mkD n d := by
  have h5 := mkD_pos n d h
  have h6 := mkM_nonneg n d
  have h7 := mkN_abs n d
  unfold fits at hf
  rw [decide_eq_true_iff] at hf
  exact ⟨IntWalk.wrap64_in _ (by omega), IntWalk.wrap64_in _ (by omega)⟩
/-- The divisor as the reference's Make has it. -/
theorem dvs_sg (n d : Int) (h : d ≠ 0) (h3 : -9223372036854775808 ≤ d) (h4 : d ≤ 9223372036854775807) :
    (if d < 0 then wrap64 (-(dvs n d)) else dvs n d) = sg n d ∧ sg n d ≠ 0 ∧ -9223372036854775808 ≤ dvs n d ∧ dvs n d ≤ 9223372036854775807 := by
  have hg0 : 0 < Int.gcd n d := Int.gcd_pos_of_ne_zero_right _ h
  have hle : Int.gcd n d ≤ d.natAbs := Nat.le_of_dvd (by omega) (Int.gcd_dvd_natAbs_right _ _)
  unfold sg dvs
  generalize Int.gcd n d = g at *
  by_cases hd : d < 0
  · rw [if_pos hd, if_pos hd]; unfold wrap64; omega
  · rw [if_neg hd, if_neg hd]; unfold wrap64; omega
end Go.Proofs.YtoncbkkhfblpdaaDoor
