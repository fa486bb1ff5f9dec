/- The simplest number between two: plain laws, no program in sight. -/
import Derived.Test.YtoncbkkhfblpdaaDoorH
namespace Go.Proofs.YtoncbkkhfblpdaaDoor
open Go.RowKit

/-- The simplest number from p/q to r/s, both greater than 0. -/
def smp : Nat → Int → Int → Int → Int → Int × Int
  | 0, _, _, _, _ => (0, 1)
  | f + 1, p, q, r, s =>
    if p / q * q = p then (p / q, 1) else if (p / q + 1) * s ≤ r then (p / q + 1, 1)
    else (p / q * (smp f s (r - p / q * s) q (p - p / q * q)).1 + (smp f s (r - p / q * s) q (p - p / q * q)).2, (smp f s (r - p / q * s) q (p - p / q * q)).1)

/-- n/d lies from p/q to r/s. -/
def Within (p q r s n d : Int) : Prop := p * d ≤ n * q ∧ n * s ≤ r * d
/-- What the arguments of a call meet. -/
structure Pos (p q r s : Int) : Prop where
  hp : 1 ≤ p
  hq : 1 ≤ q
  hr : 1 ≤ r
  hs : 1 ≤ s
  hle : p * s ≤ r * q

theorem div_facts {p q : Int} (hp : 1 ≤ p) (hq : 1 ≤ q) : 0 ≤ p / q ∧ p / q * q ≤ p ∧ p < (p / q + 1) * q := by
  have h1 := Int.mul_ediv_add_emod p q
  have h2 := Int.emod_nonneg p (show q ≠ 0 by omega)
  have h3 := Int.emod_lt_of_pos p (show 0 < q by omega)
  refine ⟨Int.ediv_nonneg (by omega) (by omega), ?_, ?_⟩
  · rw [Int.mul_comm]; omega
  · rw [Int.add_mul, Int.mul_comm (p / q)]; omega

/-- The arguments of the call behind. -/
theorem Pos.next {p q r s : Int} (h : Pos p q r s) (h1 : ¬ p / q * q = p) (h2 : ¬ (p / q + 1) * s ≤ r) :
    Pos s (r - p / q * s) q (p - p / q * q) ∧ (r - p / q * s) + (p - p / q * q) < q + s ∧ r - p / q * s < s ∧ p - p / q * q < q := by
  obtain ⟨a1, a2, a3⟩ := div_facts h.hp h.hq
  obtain ⟨hp, hq, hr, hs, hle⟩ := h
  generalize p / q = a at *
  rw [Int.add_mul] at a3 h2
  have hx : 1 ≤ p - a * q := by omega
  have hy : 1 ≤ r - a * s := by
    -- a q < p, p s ≤ r q, so a s q < r q
    have e1 : a * q * s < p * s := Int.mul_lt_mul_of_pos_right (by omega) (by omega)
    have e2 : a * s * q < r * q := by rw [Int.mul_assoc, Int.mul_comm s q, ← Int.mul_assoc]; omega
    have e3 : a * s < r := Int.lt_of_mul_lt_mul_right e2 (by omega)
    omega
  refine ⟨⟨hs, hy, hq, hx, ?_⟩, by omega, by omega, by omega⟩
  rw [Int.mul_sub, Int.mul_sub]
  have e : s * (a * q) = q * (a * s) := by rw [Int.mul_left_comm, Int.mul_left_comm q, Int.mul_comm s q]
  have e2 : s * p = p * s := Int.mul_comm _ _
  have e3 : q * r = r * q := Int.mul_comm _ _
  omega

/-- The result lies between the two, and no other number there has a lesser numerator or denominator. -/
theorem smp_spec : ∀ (f : Nat) (p q r s : Int), Pos p q r s → q + s ≤ f → (1 ≤ (smp f p q r s).1 ∧ 1 ≤ (smp f p q r s).2 ∧ Within p q r s (smp f p q r s).1 (smp f p q r s).2) ∧
    ∀ n d : Int, 1 ≤ d → Within p q r s n d → (smp f p q r s).1 ≤ n ∧ (smp f p q r s).2 ≤ d
  | 0, p, q, r, s, h, hf => by have := h.hq; have := h.hs; omega
  | f + 1, p, q, r, s, h, hf => by
    obtain ⟨a1, a2, a3⟩ := div_facts h.hp h.hq
    unfold smp
    by_cases h1 : p / q * q = p
    · rw [if_pos h1]
      obtain ⟨hp, hq, hr, hs, hle⟩ := h
      generalize p / q = a at *
      have ha : 1 ≤ a := by
        by_cases h0 : a = 0
        · subst h0; omega
        · omega
      refine ⟨⟨ha, Int.le_refl _, ?_, ?_⟩, fun n d hd hw => ⟨?_, hd⟩⟩
      · show p * 1 ≤ a * q
        omega
      · show a * s ≤ r * 1
        have e : a * s * q ≤ r * q := by rw [Int.mul_assoc, Int.mul_comm s q, ← Int.mul_assoc, h1]; exact hle
        have := Int.le_of_mul_le_mul_right e (by omega)
        omega
      · show a ≤ n
        have e : a * d * q ≤ n * q := by rw [Int.mul_assoc, Int.mul_comm d q, ← Int.mul_assoc, h1]; exact hw.1
        have e1 := Int.le_of_mul_le_mul_right e (by omega)
        have e2 : a * 1 ≤ a * d := Int.mul_le_mul_of_nonneg_left hd (by omega)
        omega
    · rw [if_neg h1]
      by_cases h2 : (p / q + 1) * s ≤ r
      · rw [if_pos h2]
        obtain ⟨hp, hq, hr, hs, hle⟩ := h
        generalize p / q = a at *
        refine ⟨⟨by show 1 ≤ a + 1; omega, Int.le_refl _, ?_, ?_⟩, fun n d hd hw => ⟨?_, hd⟩⟩
        · show p * 1 ≤ (a + 1) * q
          omega
        · show (a + 1) * s ≤ r * 1
          omega
        · show a + 1 ≤ n
          have e : a * d * q < n * q := by
            have e1 : a * q * d < p * d := Int.mul_lt_mul_of_pos_right (by omega) (by omega)
            have e2 : a * d * q = a * q * d := by rw [Int.mul_assoc, Int.mul_comm d q, ← Int.mul_assoc]
            have := hw.1
            omega
          have e1 := Int.lt_of_mul_lt_mul_right e (by omega)
          have e2 : a * 1 ≤ a * d := Int.mul_le_mul_of_nonneg_left hd (by omega)
          omega
      · rw [if_neg h2]
        obtain ⟨hpos, hlt, _, _⟩ := h.next h1 h2
        obtain ⟨⟨x1, x2, x3, x4⟩, hmin⟩ := smp_spec f s (r - p / q * s) q (p - p / q * q) hpos (by omega)
        obtain ⟨hp, hq, hr, hs, hle⟩ := h
        generalize smp f s (r - p / q * s) q (p - p / q * q) = y at *
        generalize p / q = a at *
        obtain ⟨X, Y⟩ := y
        dsimp only at *
        rw [Int.mul_sub] at x3 x4
        have m1 : X * (a * s) = a * X * s := by rw [← Int.mul_assoc, Int.mul_comm X a]
        have m2 : X * (a * q) = a * X * q := by rw [← Int.mul_assoc, Int.mul_comm X a]
        have m3 : s * Y = Y * s := Int.mul_comm _ _
        have m4 : q * Y = Y * q := Int.mul_comm _ _
        have m5 : X * r = r * X := Int.mul_comm _ _
        have m6 : X * p = p * X := Int.mul_comm _ _
        have haX : 0 ≤ a * X := Int.mul_nonneg a1 (by omega)
        refine ⟨⟨by omega, x1, ?_, ?_⟩, fun n d hd hw => ?_⟩
        · show p * X ≤ (a * X + Y) * q
          rw [Int.add_mul]
          omega
        · show (a * X + Y) * s ≤ r * X
          rw [Int.add_mul]
          omega
        · obtain ⟨w1, w2⟩ := hw
          have k1 : d * (a * q) = a * d * q := by rw [← Int.mul_assoc, Int.mul_comm d a]
          have k2 : d * (a * s) = a * d * s := by rw [← Int.mul_assoc, Int.mul_comm d a]
          have k3 : d * p = p * d := Int.mul_comm _ _
          have k4 : d * r = r * d := Int.mul_comm _ _
          have k5 : s * (n - a * d) = n * s - a * d * s := by rw [Int.mul_comm, Int.sub_mul]
          have k6 : q * (n - a * d) = n * q - a * d * q := by rw [Int.mul_comm, Int.sub_mul]
          have hnd : 1 ≤ n - a * d := by
            have e1 : a * q * d < p * d := Int.mul_lt_mul_of_pos_right (by omega) (by omega)
            have e2 : a * d * q = a * q * d := by rw [Int.mul_assoc, Int.mul_comm d q, ← Int.mul_assoc]
            have e3 : a * d * q < n * q := by omega
            have := Int.lt_of_mul_lt_mul_right e3 (by omega)
            omega
          obtain ⟨g1, g2⟩ := hmin d (n - a * d) hnd ⟨by show s * (n - a * d) ≤ d * (r - a * s); rw [k5, Int.mul_sub]; omega, by show d * (p - a * q) ≤ q * (n - a * d); rw [k6, Int.mul_sub]; omega⟩
          have g3 : a * X ≤ a * d := Int.mul_le_mul_of_nonneg_left g1 a1
          exact ⟨by omega, g1⟩
end Go.Proofs.YtoncbkkhfblpdaaDoor
