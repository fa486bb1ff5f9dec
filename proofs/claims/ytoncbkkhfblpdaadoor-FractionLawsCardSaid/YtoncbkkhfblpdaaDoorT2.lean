/- Laws of fractions: plain Lean. -/
import Derived.Test.YtoncbkkhfblpdaaDoorR
import Derived.Test.YtoncbkkhfblpdaaDoorI
import Derived.Test.YtoncbkkhfblpdaaDoorG
import Derived.Test.YtoncbkkhfblpdaaDoorLSimplest
namespace Go.Proofs.YtoncbkkhfblpdaaDoor
open Go.RowKit

/-- Make answers alike for alike quotients. -/
theorem mk_cross {n d N D : Int} (hd : 1 ≤ d) (hD : D ≠ 0) (hr : right n d = true) (h : N * d = n * D) : mk1 N D = n ∧ mk2 N D = d ∧ mk3 N D = 0 := by
  obtain ⟨r1, r2, r3, r4, r5⟩ := right_spec hr
  -- N = n * t, D = d * t
  have hdvd : d ∣ D := by
    have h1 : d ∣ n * D := ⟨N, by rw [← h, Int.mul_comm]⟩
    have h2 : d.natAbs ∣ n.natAbs * D.natAbs := by rw [← Int.natAbs_mul]; exact Int.natAbs_dvd_natAbs.2 h1
    have h3 : d.natAbs ∣ D.natAbs := Nat.Coprime.dvd_of_dvd_mul_left (by rw [Nat.coprime_comm]; exact r5) h2
    exact Int.natAbs_dvd_natAbs.1 h3
  obtain ⟨t, ht⟩ := hdvd
  have hN : N = n * t := by
    have h2 : N * d = (n * t) * d := by rw [h, ht]; simp only [Int.mul_assoc, Int.mul_comm, Int.mul_left_comm]
    exact Int.eq_of_mul_eq_mul_right (by omega) h2
  have ht0 : t ≠ 0 := by intro h0; rw [h0, Int.mul_zero] at ht; exact hD ht
  have hg : Int.gcd N D = t.natAbs := by
    rw [hN, ht, Int.gcd_mul_right, r5, Nat.one_mul]
  have htp : 0 < t.natAbs := Int.natAbs_pos.2 ht0
  have hM : mkM N D = n.natAbs := by
    unfold mkM; rw [hg, hN, Int.natAbs_mul, Int.natCast_mul]
    exact Int.mul_ediv_cancel _ (by omega)
  have hDD : mkD N D = d := by
    unfold mkD; rw [hg, ht, Int.natAbs_mul, Int.natCast_mul, Int.mul_ediv_cancel _ (by omega)]
    omega
  have hNN : mkN N D = n := by
    unfold mkN
    rw [hM]
    rcases Int.lt_trichotomy t 0 with h0 | h0 | h0
    · have hDneg : D < 0 := by rw [ht]; exact Int.mul_neg_of_pos_of_neg (by omega) h0
      rcases Int.lt_trichotomy n 0 with k | k | k
      · have : 0 < N := by rw [hN]; exact Int.mul_pos_of_neg_of_neg k h0
        rw [if_neg (by simp; omega)]; omega
      · subst k; split <;> simp
      · have : N < 0 := by rw [hN]; exact Int.mul_neg_of_pos_of_neg k h0
        rw [if_pos (by simp; omega)]; omega
    · exact absurd h0 ht0
    · have hDpos : 0 < D := by rw [ht]; exact Int.mul_pos (by omega) h0
      rcases Int.lt_trichotomy n 0 with k | k | k
      · have : N < 0 := by rw [hN]; exact Int.mul_neg_of_neg_of_pos k h0
        rw [if_neg (by simp; omega)]; omega
      · subst k; split <;> simp
      · have : 0 < N := by rw [hN]; exact Int.mul_pos k h0
        rw [if_pos (by simp; omega)]; omega
  have hf : fits N D = true := by unfold fits; rw [hM, hDD]; simp; omega
  obtain ⟨a, b, c⟩ := mk_fit hD hf
  rw [a, b, c, hNN, hDD]
  exact ⟨rfl, rfl, rfl⟩
/-- What Make gives is alike to what it was given. -/
theorem mk_alike {N D : Int} (hD : D ≠ 0) (h : mk3 N D = 0) : mk1 N D * D = N * mk2 N D := by
  have hf : fits N D = true := by
    cases hf : fits N D
    · have := (mk_lim hD hf).2.2; omega
    · rfl
  obtain ⟨a, b, _⟩ := mk_fit hD hf
  rw [a, b]
  have hg0 : 0 < Int.gcd N D := Int.gcd_pos_of_ne_zero_right _ hD
  obtain ⟨u, v, hu, hv⟩ := gcd_split N D
  unfold mkN mkD mkM
  generalize Int.gcd N D = g at *
  have hg : (0 : Int) < g := by omega
  have e1 : (N.natAbs : Int) / (g : Int) = u.natAbs := by
    rw [hu, Int.natAbs_mul, Int.natCast_mul]; exact Int.mul_ediv_cancel_left _ (by omega)
  have e2 : (D.natAbs : Int) / (g : Int) = v.natAbs := by
    rw [hv, Int.natAbs_mul, Int.natCast_mul]; exact Int.mul_ediv_cancel_left _ (by omega)
  rw [e1, e2]
  rcases Int.lt_or_le u 0 with hu0 | hu0
  · have hN : N < 0 := by rw [hu]; exact Int.mul_neg_of_pos_of_neg hg hu0
    rcases Int.lt_or_le v 0 with hv0 | hv0
    · have hD0 : D < 0 := by rw [hv]; exact Int.mul_neg_of_pos_of_neg hg hv0
      rw [if_pos (by simp [hN, hD0]), show (u.natAbs : Int) = -u by omega, show (v.natAbs : Int) = -v by omega, hu, hv, Int.neg_mul, Int.mul_neg]
      simp only [Int.mul_assoc, Int.mul_comm, Int.mul_left_comm]
    · have hD0 : ¬ D < 0 := by rw [hv]; exact Int.not_lt.2 (Int.mul_nonneg (by omega) hv0)
      rw [if_neg (by simp [hN, hD0]), show (u.natAbs : Int) = -u by omega, show (v.natAbs : Int) = v by omega, hu, hv, Int.neg_neg]
      simp only [Int.mul_assoc, Int.mul_comm, Int.mul_left_comm]
  · have hN : ¬ N < 0 := by rw [hu]; exact Int.not_lt.2 (Int.mul_nonneg (by omega) hu0)
    rcases Int.lt_or_le v 0 with hv0 | hv0
    · have hD0 : D < 0 := by rw [hv]; exact Int.mul_neg_of_pos_of_neg hg hv0
      rw [if_neg (by simp [hN, hD0]), show (u.natAbs : Int) = u by omega, show (v.natAbs : Int) = -v by omega, hu, hv, Int.neg_mul, Int.mul_neg]
      simp only [Int.mul_assoc, Int.mul_comm, Int.mul_left_comm]
    · have hD0 : ¬ D < 0 := by rw [hv]; exact Int.not_lt.2 (Int.mul_nonneg (by omega) hv0)
      rw [if_pos (by simp [hN, hD0]), show (u.natAbs : Int) = u by omega, show (v.natAbs : Int) = v by omega, hu, hv]
      simp only [Int.mul_assoc, Int.mul_comm, Int.mul_left_comm]
theorem add_comm_mk (n d m e : Int) : n * e + m * d = m * d + n * e ∧ d * e = e * d := ⟨Int.add_comm _ _, Int.mul_comm _ _⟩
/-- Sub takes back Add. -/
theorem sub_back {n d m e : Int} (h1 : right n d = true) (h2 : right m e = true) (h : mk3 (n * e + m * d) (d * e) = 0) :
    mk1 (mk1 (n * e + m * d) (d * e) * e - m * mk2 (n * e + m * d) (d * e)) (mk2 (n * e + m * d) (d * e) * e) = n ∧
    mk2 (mk1 (n * e + m * d) (d * e) * e - m * mk2 (n * e + m * d) (d * e)) (mk2 (n * e + m * d) (d * e) * e) = d ∧
    mk3 (mk1 (n * e + m * d) (d * e) * e - m * mk2 (n * e + m * d) (d * e)) (mk2 (n * e + m * d) (d * e) * e) = 0 := by
  obtain ⟨r1, _⟩ := right_spec h1
  obtain ⟨s1, _⟩ := right_spec h2
  have hde : d * e ≠ 0 := Int.mul_ne_zero (by omega) (by omega)
  have ha := mk_alike hde h
  have hr := add_right h1 h2 h
  obtain ⟨t1, _⟩ := right_spec hr
  generalize mk1 (n * e + m * d) (d * e) = a1 at *
  generalize mk2 (n * e + m * d) (d * e) = a2 at *
  refine mk_cross r1 (Int.mul_ne_zero (by omega) (by omega)) h1 ?_
  have k1 : a1 * e * d = a1 * (d * e) := by simp only [Int.mul_assoc, Int.mul_comm, Int.mul_left_comm]
  rw [Int.sub_mul, k1, ha, Int.add_mul]
  have k2 : m * a2 * d = m * d * a2 := by simp only [Int.mul_assoc, Int.mul_comm, Int.mul_left_comm]
  have k3 : n * (a2 * e) = n * e * a2 := by simp only [Int.mul_assoc, Int.mul_comm, Int.mul_left_comm]
  rw [k2, k3]; omega
/-- Div takes back Mul. -/
theorem div_back {n d m e : Int} (h1 : right n d = true) (h2 : right m e = true) (h : mk3 (n * m) (d * e) = 0) (hm : m ≠ 0) (hr : right (mk1 (n * m) (d * e)) (mk2 (n * m) (d * e)) = true) :
    mk1 (mk1 (n * m) (d * e) * e) (mk2 (n * m) (d * e) * m) = n ∧ mk2 (mk1 (n * m) (d * e) * e) (mk2 (n * m) (d * e) * m) = d ∧ mk3 (mk1 (n * m) (d * e) * e) (mk2 (n * m) (d * e) * m) = 0 := by
  obtain ⟨r1, _⟩ := right_spec h1
  obtain ⟨s1, _⟩ := right_spec h2
  have hde : d * e ≠ 0 := Int.mul_ne_zero (by omega) (by omega)
  have ha := mk_alike hde h
  obtain ⟨t1, _⟩ := right_spec hr
  generalize mk1 (n * m) (d * e) = a1 at *
  generalize mk2 (n * m) (d * e) = a2 at *
  refine mk_cross r1 (Int.mul_ne_zero (by omega) hm) h1 ?_
  have k1 : a1 * e * d = a1 * (d * e) := by simp only [Int.mul_assoc, Int.mul_comm, Int.mul_left_comm]
  rw [k1, ha]
  simp only [Int.mul_assoc, Int.mul_comm, Int.mul_left_comm]
theorem mk_fits_right {N D : Int} (hD : D ≠ 0) (h : mk3 N D = 0) : right (mk1 N D) (mk2 N D) = true := by
  have hf : fits N D = true := by
    cases hf : fits N D
    · have := (mk_lim hD hf).2.2; omega
    · rfl
  obtain ⟨a, b, _⟩ := mk_fit hD hf
  rw [a, b]
  exact fits_right N D hD hf
theorem mk_zero_of {N D : Int} (h : mk3 N D ≠ 0) : mk1 N D = 0 ∧ mk2 N D = 0 := by
  by_cases hD : D = 0
  · unfold mk1 mk2; rw [if_pos hD, if_pos hD]; exact ⟨rfl, rfl⟩
  · cases hf : fits N D
    · exact ⟨(mk_lim hD hf).1, (mk_lim hD hf).2.1⟩
    · exact absurd (mk_fit hD hf).2.2 h
theorem small_bd (n d : Int) (h1 : -32768 ≤ n) (h2 : n ≤ 32767) (h3 : 0 ≤ d) : -32768 ≤ smN n d ∧ smN n d ≤ 32768 := by
  have h0 : d + 1 ≠ 0 := by omega
  have e1 := mkM_le n (d + 1)
  have e2 := mkM_nonneg n (d + 1)
  have e3 := mkN_abs n (d + 1)
  unfold smN mk1
  rw [if_neg h0]
  split <;> omega
theorem whole_mk (k : Int) (h1 : -1000000 ≤ k) (h2 : k ≤ 1000000) : mk1 k 1 = k ∧ mk2 k 1 = 1 ∧ mk3 k 1 = 0 ∧ right k 1 = true := by
  have hr : right k 1 = true := by
    unfold right
    rw [decide_eq_true_iff]
    exact ⟨by omega, by omega, by omega, by omega, Int.gcd_one⟩
  obtain ⟨a, b, c⟩ := mk_right hr
  exact ⟨a, b, c, hr⟩
/-- The floor is near. -/
theorem floor_near (n d : Int) (hd : 1 ≤ d) : n / d * d ≤ n * 1 ∧ n * 1 < (n / d + 1) * d := by
  have h1 := Int.ediv_mul_le n (show d ≠ 0 by omega)
  have h2 := Int.lt_ediv_add_one_mul_self n (show 0 < d by omega)
  omega
theorem cmp_le {n d m e : Int} (h : n * e ≤ m * d) : cmp n d m e ≤ 0 := by
  have := @cmp_pos n d m e
  omega
theorem cmp_lt {n d m e : Int} (h : n * e < m * d) : cmp n d m e = -1 := by unfold cmp; rw [if_pos h]
theorem small_fl (n d : Int) (h1 : -32768 ≤ n) (h2 : n ≤ 32768) (h3 : 1 ≤ d) : -32768 ≤ n / d ∧ n / d ≤ 32768 := by
  have h4 := Int.le_ediv_iff_mul_le (a := -32768) (b := n) (show 0 < d by omega)
  constructor
  · rw [h4]; omega
  · rcases Int.lt_or_le n 0 with h | h
    · have := Int.ediv_neg_of_neg_of_pos h (show 0 < d by omega)
      omega
    · have := Int.ediv_le_self d h
      omega
/-- No number between two others has a lesser denominator than the simplest one. -/
theorem least_den {n d m e p q : Int} (h1 : right n d = true) (h2 : right m e = true) (h3 : right p q = true) (h : n * e ≤ m * d) :
    (decide (0 < cmp n d p q) || decide (0 < cmp p q m e) || decide ((smpV n d m e).2 ≤ q)) = true := by
  by_cases a : 0 < cmp n d p q
  · simp [a]
  · by_cases b : 0 < cmp p q m e
    · simp [b]
    · rw [cmp_pos] at a b
      obtain ⟨r1, _⟩ := right_spec h1
      obtain ⟨s1, _⟩ := right_spec h2
      obtain ⟨t1, _⟩ := right_spec h3
      have := smpV_le n d m e r1 s1 h p q t1 ⟨by omega, by omega⟩
      simp [this]
theorem right_00 : right 0 0 = false := by decide +kernel
theorem mul_right' {n d m e : Int} (h1 : right n d = true) (h2 : right m e = true) (h : mk3 (n * m) (d * e) = 0) : right (mk1 (n * m) (d * e)) (mk2 (n * m) (d * e)) = true := by
  obtain ⟨r1, _⟩ := right_spec h1
  obtain ⟨s1, _⟩ := right_spec h2
  exact mk_fits_right (Int.mul_ne_zero (by omega) (by omega)) h
/-- What Sub and Div make of a sum and a product. -/
theorem back_sub {n d m e : Int} (h1 : right n d = true) (h2 : right m e = true) : ∃ b1 b2 b3 : Int,
    (∀ w, Calls Tryd.prog 41 #[.agg #[.int .i64 (mk1 (n * e + m * d) (d * e)), .int .i64 (mk2 (n * e + m * d) (d * e))], .agg #[.int .i64 m, .int .i64 e]] w (Ret (.tuple #[.agg #[.int .i64 b1, .int .i64 b2], .int .i64 b3]) w)) ∧
    ((mk3 (n * e + m * d) (d * e) == 0) = false ∨ ((mk3 (n * e + m * d) (d * e) == 0) = true ∧ n = b1 ∧ d = b2 ∧ b3 = 0)) := by
  by_cases h : mk3 (n * e + m * d) (d * e) = 0
  · obtain ⟨a, b, c⟩ := sub_back h1 h2 h
    exact ⟨_, _, _, fun w => sub_any _ _ _ _ w (add_right h1 h2 h) h2, .inr ⟨by simpa using h, a.symm, b.symm, c⟩⟩
  · obtain ⟨a, b⟩ := mk_zero_of h
    rw [a, b]
    exact ⟨0, 0, 2, fun w => sub_no _ _ _ _ w (.inl right_00), .inl (by simpa using h)⟩
theorem back_div {n d m e : Int} (h1 : right n d = true) (h2 : right m e = true) : ∃ b1 b2 b3 : Int,
    (∀ w, Calls Tryd.prog 42 #[.agg #[.int .i64 (mk1 (n * m) (d * e)), .int .i64 (mk2 (n * m) (d * e))], .agg #[.int .i64 m, .int .i64 e]] w (Ret (.tuple #[.agg #[.int .i64 b1, .int .i64 b2], .int .i64 b3]) w)) ∧
    ((mk3 (n * m) (d * e) == 0) = false ∨ ((mk3 (n * m) (d * e) == 0) = true ∧ (m != 0) = false) ∨ ((mk3 (n * m) (d * e) == 0) = true ∧ (m != 0) = true ∧ n = b1 ∧ d = b2 ∧ b3 = 0)) := by
  by_cases h : mk3 (n * m) (d * e) = 0
  · have hr := mul_right' h1 h2 h
    refine ⟨_, _, _, fun w => div_any _ _ _ _ w hr h2, .inr ?_⟩
    by_cases hm : m = 0
    · exact .inl ⟨by simpa using h, by simpa using hm⟩
    · obtain ⟨a, b, c⟩ := div_back h1 h2 h hm hr
      exact .inr ⟨by simpa using h, by simpa using hm, a.symm, b.symm, c⟩
  · obtain ⟨a, b⟩ := mk_zero_of h
    rw [a, b]
    exact ⟨0, 0, 2, fun w => div_no _ _ _ _ w (.inl right_00), .inl (by simpa using h)⟩
theorem best_den {n d m e p q : Int} (h1 : right n d = true) (h2 : right m e = true) (h3 : right p q = true) : ∃ z1 z2 o : Int,
    (∀ w, Calls Tryd.prog 29 #[.agg #[.int .i64 n, .int .i64 d], .agg #[.int .i64 m, .int .i64 e]] w (Ret (.tuple #[.agg #[.int .i64 z1, .int .i64 z2], .int .i64 o]) w)) ∧
    ((o != 0) = true ∨ ((o != 0) = false ∧ decide (0 < cmp n d p q) = true) ∨ ((o != 0) = false ∧ decide (0 < cmp n d p q) = false ∧ decide (0 < cmp p q m e) = true) ∨
     ((o != 0) = false ∧ decide (0 < cmp n d p q) = false ∧ decide (0 < cmp p q m e) = false ∧ decide (z2 ≤ q) = true)) := by
  by_cases h : n * e ≤ m * d
  · refine ⟨_, _, 0, fun w => simplestF_ok _ _ _ _ w h1 h2 h, ?_⟩
    have := least_den h1 h2 h3 h
    by_cases a : 0 < cmp n d p q
    · simp [a]
    · by_cases b : 0 < cmp p q m e
      · simp [b, a]
      · simp [a, b] at this
        simp [a, b, this]
  · exact ⟨0, 0, 6, fun w => simplestF_order _ _ _ _ w h1 h2 (by omega), .inl rfl⟩
end Go.Proofs.YtoncbkkhfblpdaaDoor
