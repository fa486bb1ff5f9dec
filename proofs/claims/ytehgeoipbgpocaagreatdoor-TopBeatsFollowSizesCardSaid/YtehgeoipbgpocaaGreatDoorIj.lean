/- Sizes of intervals: the sign of exponents. -/
import Derived.Test.YtehgeoipbgpocaaGreatDoorIi
import Derived.Test.YtehgeoipbgpocaaGreatDoorSe
namespace Go.Proofs.YtehgeoipbgpocaaGreatDoor
set_option linter.unusedVariables false
set_option linter.unusedSimpArgs false
open Go.RowKit
attribute [local go_sem low] Bel.cell Bel.frozen alloc_cell alloc_frozen
attribute [local go_sem] calmOp chainOp yieldsC grows

theorem negI_bd {x n : Int} (h0 : 0 ≤ n) (h1 : -n ≤ x) : -n ≤ negI x ∧ negI x ≤ 0 := by
  unfold negI
  split <;> omega
theorem posI_bd {x n : Int} (h0 : 0 ≤ n) (h1 : x ≤ n) : 0 ≤ posI x ∧ posI x ≤ n := by
  unfold posI
  split <;> omega
theorem mul_bd {A y n : Int} (h1 : -n ≤ y) (h2 : y ≤ n) : -((A.natAbs : Int) * n) ≤ A * y ∧ A * y ≤ (A.natAbs : Int) * n := by
  have e := Int.natAbs_mul A y
  have hn : y.natAbs ≤ n.natAbs := by omega
  have h3 : A.natAbs * y.natAbs ≤ A.natAbs * n.natAbs := Nat.mul_le_mul_left _ hn
  have h4 : (A.natAbs : Int) * n = ((A.natAbs * n.natAbs : Nat) : Int) := by
    rw [Int.natCast_mul]
    congr 1
    omega
  omega
theorem lin_zero {x y z M : Int} (p q r A C : Int) (hM : x * 1000000000000000000000000000000 + y * 1584962500721156181453738943947 + z * 2321928094887362347870319429489 = M)
    (hA : q * 1000000000000000000000000000000 - p * 1584962500721156181453738943947 = A) (hC : r * 1000000000000000000000000000000 - p * 2321928094887362347870319429489 = C)
    (hy1 : -10000000 ≤ y) (hy2 : y ≤ 10000000) (hz1 : -10000000 ≤ z) (hz2 : z ≤ 10000000) (h1 : -20000000 ≤ M) (h2 : M ≤ 20000000)
    (hb : (p.natAbs : Int) * 20000000 + (A.natAbs : Int) * 10000000 + (C.natAbs : Int) * 10000000 < 1000000000000000000000000000000) : p * x + q * y + r * z = 0 := by
  have e : (p * x + q * y + r * z) * 1000000000000000000000000000000 = p * M + A * y + C * z := by
    rw [← hM, ← hA, ← hC]
    grind
  have b1 := mul_bd (A := p) h1 h2
  have b2 := mul_bd (A := A) hy1 hy2
  have b3 := mul_bd (A := C) hz1 hz2
  generalize p * x + q * y + r * z = c at *
  generalize p * M = t1 at *
  generalize A * y = t2 at *
  generalize C * z = t3 at *
  generalize (p.natAbs : Int) * 20000000 = u1 at *
  generalize (A.natAbs : Int) * 10000000 = u2 at *
  generalize (C.natAbs : Int) * 10000000 = u3 at *
  omega
theorem lin_at {x y z p1 q1 r1 p2 q2 r2 p3 q3 r3 : Int} (a b c : Int) (h1 : p1 * x + q1 * y + r1 * z = 0) (h2 : p2 * x + q2 * y + r2 * z = 0) (h3 : p3 * x + q3 * y + r3 * z = 0)
    (k1 : a * p1 + b * p2 + c * p3 = 1) (k2 : a * q1 + b * q2 + c * q3 = 0) (k3 : a * r1 + b * r2 + c * r3 = 0) : x = 0 := by
  have e : a * (p1 * x + q1 * y + r1 * z) + b * (p2 * x + q2 * y + r2 * z) + c * (p3 * x + q3 * y + r3 * z) = (a * p1 + b * p2 + c * p3) * x + (a * q1 + b * q2 + c * q3) * y + (a * r1 + b * r2 + c * r3) * z := by grind
  rw [h1, h2, h3, k1, k2, k3] at e
  omega
theorem lin_at2 {x y z p1 q1 r1 p2 q2 r2 p3 q3 r3 : Int} (a b c : Int) (h1 : p1 * x + q1 * y + r1 * z = 0) (h2 : p2 * x + q2 * y + r2 * z = 0) (h3 : p3 * x + q3 * y + r3 * z = 0)
    (k1 : a * p1 + b * p2 + c * p3 = 0) (k2 : a * q1 + b * q2 + c * q3 = 1) (k3 : a * r1 + b * r2 + c * r3 = 0) : y = 0 := by
  have e : a * (p1 * x + q1 * y + r1 * z) + b * (p2 * x + q2 * y + r2 * z) + c * (p3 * x + q3 * y + r3 * z) = (a * p1 + b * p2 + c * p3) * x + (a * q1 + b * q2 + c * q3) * y + (a * r1 + b * r2 + c * r3) * z := by grind
  rw [h1, h2, h3, k1, k2, k3] at e
  omega
theorem lin_at3 {x y z p1 q1 r1 p2 q2 r2 p3 q3 r3 : Int} (a b c : Int) (h1 : p1 * x + q1 * y + r1 * z = 0) (h2 : p2 * x + q2 * y + r2 * z = 0) (h3 : p3 * x + q3 * y + r3 * z = 0)
    (k1 : a * p1 + b * p2 + c * p3 = 0) (k2 : a * q1 + b * q2 + c * q3 = 0) (k3 : a * r1 + b * r2 + c * r3 = 1) : z = 0 := by
  have e : a * (p1 * x + q1 * y + r1 * z) + b * (p2 * x + q2 * y + r2 * z) + c * (p3 * x + q3 * y + r3 * z) = (a * p1 + b * p2 + c * p3) * x + (a * q1 + b * q2 + c * q3) * y + (a * r1 + b * r2 + c * r3) * z := by grind
  rw [h1, h2, h3, k1, k2, k3] at e
  omega
/-- Small exponents whose logarithm the bounds do not part from 0 are 0. -/
theorem close_zero (x y z M : Int) (hM : x * 1000000000000000000000000000000 + y * 1584962500721156181453738943947 + z * 2321928094887362347870319429489 = M) (hy1 : -10000000 ≤ y) (hy2 : y ≤ 10000000) (hz1 : -10000000 ≤ z) (hz2 : z ≤ 10000000) (h1 : -20000000 ≤ M) (h2 : M ≤ 20000000) : x = 0 ∧ y = 0 ∧ z = 0 := by
  have c1 : (-87414121477708) * x + (-138548104575651) * y + (-202969304548987) * z = 0 := lin_zero (-87414121477708) (-138548104575651) (-202969304548987) (-2830921502000977966524) (32287394436968191331212) hM (by decide) (by decide) hy1 hy2 hz1 hz2 h1 h2 (by decide)
  have c2 : (174043755971879) * x + (275852826700092) * y + (404117086730826) * z = 0 := lin_zero (174043755971879) (275852826700092) (404117086730826) (-46633069348752089266413) (-1477843581468007339831) hM (by decide) (by decide) hy1 hy2 hz1 hz2 h1 h2 (by decide)
  have c3 : (-453815256741937) * x + (-719280164191114) * y + (-1053726394517625) * z = 0 := lin_zero (-453815256741937) (-719280164191114) (-1053726394517625) (-36555196279833712794661) (-24975012814329259219807) hM (by decide) (by decide) hy1 hy2 hz1 hz2 h1 h2 (by decide)
  exact ⟨lin_at (-55958664) (22247357) (19310922) c1 c2 c3 (by decide) (by decide) (by decide),
    lin_at2 (-5017413) (-16835681) (-5490235) c1 c2 c3 (by decide) (by decide) (by decide), lin_at3 (27525002) (1910725) (-4569093) c1 c2 c3 (by decide) (by decide) (by decide)⟩
theorem bd_zero (x y z : Int) (hy1 : -10000000 ≤ y) (hy2 : y ≤ 10000000) (hz1 : -10000000 ≤ z) (hz2 : z ≤ 10000000) (h1 : bdL x y z ≤ 0) (h2 : 0 ≤ bdH x y z) : x = 0 ∧ y = 0 ∧ z = 0 := by
  have a1 := negI_bd (by decide) hy1
  have a2 := negI_bd (by decide) hz1
  have a3 := posI_bd (by decide) hy2
  have a4 := posI_bd (by decide) hz2
  unfold bdL at h1
  unfold bdH at h2
  exact close_zero x y z (bdM x y z) rfl hy1 hy2 hz1 hz2 (by omega) (by omega)
theorem bd_le (x y z : Int) : bdL x y z ≤ bdH x y z := by
  unfold bdL bdH negI posI
  split <;> split <;> omega
/-- The sign of exponents. -/
def sgP (x y z : Int) : Int := if x = 0 ∧ y = 0 ∧ z = 0 then 0 else (bdL x y z).sign
theorem sgn_eq {x y z : Int} (hy1 : -10000000 ≤ y) (hy2 : y ≤ 10000000) (hz1 : -10000000 ≤ z) (hz2 : z ≤ 10000000) (h : ¬ (x = 0 ∧ y = 0 ∧ z = 0)) : (bdL x y z).sign = (bdH x y z).sign ∧ (bdL x y z).sign ≠ 0 := by
  have hle := bd_le x y z
  rcases Int.lt_trichotomy (bdL x y z) 0 with h1 | h1 | h1
  · rcases (show bdH x y z < 0 ∨ 0 ≤ bdH x y z by omega) with h2 | h2
    · rw [Int.sign_eq_neg_one_of_neg h1, Int.sign_eq_neg_one_of_neg h2]; decide
    · exact absurd (bd_zero x y z hy1 hy2 hz1 hz2 (by omega) h2) h
  · exact absurd (bd_zero x y z hy1 hy2 hz1 hz2 (by omega) (by omega)) h
  · rw [Int.sign_eq_one_of_pos h1, Int.sign_eq_one_of_pos (by omega : 0 < bdH x y z)]; decide

set_option maxRecDepth 100000 in
set_option maxHeartbeats 6400000 in
theorem isgn_any (x y z : Int) (w : World) (hx1 : -1000000000000 ≤ x) (hx2 : x ≤ 1000000000000) (hy1 : -10000000 ≤ y) (hy2 : y ≤ 10000000) (hz1 : -10000000 ≤ z) (hz2 : z ≤ 10000000) (hT : I.Tab w) :
    Calls Tryz.prog 44 #[.agg #[.int .i64 x, .int .i64 y, .int .i64 z]] w (Ret (.int .i64 (sgP x y z)) w) := by
  have hq := run_eq_arr x y z
  have hg := guard_arr
  have HT := Lib.hid hT
  by_cases h0 : x = 0 ∧ y = 0 ∧ z = 0
  · rw [show sgP x y z = 0 from if_pos h0]
    rw [decide_eq_true h0] at hq
    clear h0 hT
    go_enter Tryz.func44, Tryz.ntmps44
    go_wp2
    go_ret
    exact Ret.mk (by rfl) (by (repeat' (first | (with_reducible first | apply Zl1 | apply Zl2 | apply Zl3 | apply Zl4 | apply Zl5 | apply Zl6 | apply Zl7 | apply Zl8 | apply Zl9 | apply Zla | apply Zlb | apply Zlc) | (dsimp only; with_reducible first | apply Zl8 | apply Zl2 | apply Zld) | with_reducible assumption | omega | (dsimp only; omega))))
  · obtain ⟨s1, s2⟩ := sgn_eq hy1 hy2 hz1 hz2 h0
    rw [show sgP x y z = (bdL x y z).sign from if_neg h0]
    rw [decide_eq_false h0] at hq
    have HB := Lib.hid (fun w' hT => bounds_any x y z w' hx1 hx2 (by omega) (by omega) (by omega) (by omega) hT)
    have HS1 := Lib.hid (fun w' => I.sign_any (bdL x y z) w')
    have HS2 := Lib.hid (fun w' => I.sign_any (bdH x y z) w')
    rw [← s1] at HS2
    clear h0 hT s1
    generalize (bdL x y z).sign = s at *
    generalize I.iT (bdL x y z) = tl at *
    generalize I.iT (bdH x y z) = th at *
    have f1 : (s != 0) = true := by simpa using s2
    clear s2
    go_enter Tryz.func44, Tryz.ntmps44
    go_wp2_with fail
    (with_reducible refine (HB.out _ (HT.out.of (by (repeat' (first | (with_reducible first | apply Zl1 | apply Zl2 | apply Zl3 | apply Zl4 | apply Zl5 | apply Zl6 | apply Zl7 | apply Zl8 | apply Zl9 | apply Zla | apply Zlb | apply Zlc) | (dsimp only; with_reducible first | apply Zl8 | apply Zl2 | apply Zld) | with_reducible assumption | omega | (dsimp only; omega)))))).mono ?_)
    rintro _ _ ⟨rfl, b, rfl⟩
    dsimp only
    go_wp2_with fail
    (with_reducible refine (HS1.out _).mono ?_)
    rintro _ _ ⟨rfl, c, rfl⟩
    dsimp only
    go_wp2_with fail
    (with_reducible refine (HS2.out _).mono ?_)
    rintro _ _ ⟨rfl, d, rfl⟩
    dsimp only
    go_wp2
    go_ret
    exact Ret.mk (by rfl) (by (repeat' (first | (with_reducible first | apply Zl1 | apply Zl2 | apply Zl3 | apply Zl4 | apply Zl5 | apply Zl6 | apply Zl7 | apply Zl8 | apply Zl9 | apply Zla | apply Zlb | apply Zlc) | (dsimp only; with_reducible first | apply Zl8 | apply Zl2 | apply Zld) | with_reducible assumption | omega | (dsimp only; omega))))
end Go.Proofs.YtehgeoipbgpocaaGreatDoor
