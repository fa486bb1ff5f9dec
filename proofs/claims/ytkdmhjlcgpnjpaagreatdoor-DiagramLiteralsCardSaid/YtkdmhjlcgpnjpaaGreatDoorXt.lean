/- Count counts the values for which a table is true. In plain Lean. -/
import Derived.Test.YtkdmhjlcgpnjpaaGreatDoorXs
namespace Go.Proofs.YtkdmhjlcgpnjpaaGreatDoor
set_option linter.unusedVariables false
set_option linter.unusedSimpArgs false

/-- For how many values of m variables from k on a function is true. -/
def num3 : ((Nat → Bool) → Bool) → Nat → Nat → Nat
  | f, _, 0 => if f (fun _ => false) then 1 else 0
  | f, k, m + 1 => num3 (fun ρ => f (upd3 ρ k false)) (k + 1) m + num3 (fun ρ => f (upd3 ρ k true)) (k + 1) m
theorem num3_skip {f : (Nat → Bool) → Bool} {k : Nat} (h : ∀ ρ b, f (upd3 ρ k b) = f ρ) (m : Nat) : num3 f k (m + 1) = 2 * num3 f (k + 1) m := by
  rw [num3]
  have e : ∀ b, (fun ρ => f (upd3 ρ k b)) = f := fun b => funext fun ρ => h ρ b
  rw [e, e]
  omega
theorem num3_false : ∀ (m k : Nat), num3 (fun _ => false) k m = 0
  | 0, _ => rfl
  | m + 1, k => by rw [num3, num3_false m]
theorem num3_true : ∀ (m k : Nat), num3 (fun _ => true) k m = 2 ^ m
  | 0, _ => rfl
  | m + 1, k => by rw [num3, num3_true m, Nat.pow_succ]; omega
theorem cntL_get (M : List (Nat × Nat × Nat)) (n j : Nat) : ∀ K, j ≤ K → ∀ q, q < j + 2 → (cntL M n K).getD q 0 = (cntL M n j).getD q 0
  | 0, h, q, hq => by have : j = 0 := by omega
                      rw [this]
  | K + 1, h, q, hq => by
    rcases Nat.lt_or_ge j (K + 1) with h1 | h1
    · rw [cntL, getD_lt (by rw [cntL_len]; omega), cntL_get M n j K (by omega) q hq]
    · have : j = K + 1 := by omega
      rw [this]
theorem cntL_at (M : List (Nat × Nat × Nat)) (n j : Nat) {K : Nat} (h : j < K) : (cntL M n K).getD (j + 2) 0 = cntS M n (cntL M n j) j := by
  rw [cntL_get M n (j + 1) K h (j + 2) (by omega), cntL, List.getD_eq_getElem?_getD, List.getElem?_append_right (by rw [cntL_len]; omega), cntL_len, Nat.sub_self]
  rfl
theorem cntL_const (M : List (Nat × Nat × Nat)) (n K : Nat) : (cntL M n K).getD 0 0 = 0 ∧ (cntL M n K).getD 1 0 = 1 := by
  rw [cntL_get M n 0 K (Nat.zero_le _) 0 (by omega), cntL_get M n 0 K (Nat.zero_le _) 1 (by omega)]
  exact ⟨rfl, rfl⟩
theorem cnt_num {M : List (Nat × Nat × Nat)} (hM : Good M) {n : Nat} (hn : ∀ x ∈ M, x.1 < n) : ∀ p, p < M.length + 2 → ∀ k, k ≤ lev3 M n p → num3 (fun ρ => val3 ρ M p) k (n - k) = 2 ^ (lev3 M n p - k) * (cntL M n M.length).getD p 0 := by
  intro p
  induction p using Nat.strongRecOn with
  | ind p ih =>
    intro hp k hk
    rcases Nat.lt_or_ge p 2 with h2 | h2
    · have hl : lev3 M n p = n := by unfold lev3; rw [if_pos h2]
      have hp01 : p = 0 ∨ p = 1 := by omega
      rw [hl]
      rcases hp01 with rfl | rfl
      · rw [(cntL_const M n M.length).1, show (fun ρ => val3 ρ M 0) = fun _ => false from funext fun ρ => val3_0 ρ M, num3_false, Nat.mul_zero]
      · rw [(cntL_const M n M.length).2, show (fun ρ => val3 ρ M 1) = fun _ => true from funext fun ρ => val3_1 ρ M, num3_true, Nat.mul_one]
    · obtain ⟨a1, a2, a3, a4, a5, a6, a7⟩ := node3_ok hM hp h2
      have hs := node3_some hp h2
      have hvn := hn _ (List.mem_of_getElem? hs)
      have hl : lev3 M n p = (node3 M p).1 := by unfold lev3; rw [if_neg (by omega)]
      have hlv : ∀ q, q < p → (node3 M p).1 < var3 M q → (node3 M p).1 + 1 ≤ lev3 M n q := fun q hq hv => by
        unfold lev3
        split
        · omega
        · rename_i h
          have := (node3_ok hM (show q < M.length + 2 by omega) (by omega)).2.2.2.2.2.1
          omega
      have base : num3 (fun ρ => val3 ρ M p) (node3 M p).1 (n - (node3 M p).1) = (cntL M n M.length).getD p 0 := by
        obtain ⟨m, hm⟩ : ∃ m, n - (node3 M p).1 = m + 1 := ⟨n - (node3 M p).1 - 1, by omega⟩
        have hm' : n - ((node3 M p).1 + 1) = m := by omega
        rw [hm, num3]
        have e : ∀ b : Bool, (fun ρ => val3 (upd3 ρ (node3 M p).1 b) M p) = fun ρ => if b then val3 ρ M (node3 M p).2.2 else val3 ρ M (node3 M p).2.1 := fun b => funext fun ρ => side3 hM ρ hp h2 b
        rw [e, e]
        simp only [if_true, Bool.false_eq_true, if_false]
        have i1 := ih _ a1 (by omega) _ (hlv _ a1 a4)
        have i2 := ih _ a2 (by omega) _ (hlv _ a2 a5)
        rw [hm'] at i1 i2
        rw [i1, i2]
        obtain ⟨j, rfl⟩ : ∃ j, p = j + 2 := ⟨p - 2, by omega⟩
        rw [cntL_at M n j (by omega)]
        unfold cntS
        have e2 : M.getD j (0, 0, 0) = node3 M (j + 2) := by unfold node3; rw [Nat.add_sub_cancel]
        rw [e2, cntL_get M n j M.length (by omega) _ a1, cntL_get M n j M.length (by omega) _ a2]
      rw [hl] at hk ⊢
      have skip : ∀ d k, k + d = (node3 M p).1 → num3 (fun ρ => val3 ρ M p) k (n - k) = 2 ^ d * (cntL M n M.length).getD p 0 := by
        intro d
        induction d with
        | zero => intro k hkd; rw [Nat.add_zero] at hkd; rw [hkd, base]; omega
        | succ d ihd =>
          intro k hkd
          rw [show n - k = n - (k + 1) + 1 by omega, num3_skip (fun ρ b => val3_upd hM ρ b hp (by omega)), ihd (k + 1) (by omega), Nat.pow_succ, Nat.mul_comm (2 ^ d) 2, Nat.mul_assoc]
      exact skip _ k (by omega)
/-- How many of the first K numbers are in a set. -/
def bsg (g : Nat → Bool) : Nat → Nat
  | 0 => 0
  | K + 1 => bsg g K + (if g K then 1 else 0)
theorem bsg_congr {g h : Nat → Bool} : ∀ K, (∀ u, u < K → g u = h u) → bsg g K = bsg h K
  | 0, _ => rfl
  | K + 1, e => by rw [bsg, bsg, bsg_congr K fun u hu => e u (by omega), e K (by omega)]
theorem bsg_two (g : Nat → Bool) : ∀ K, bsg g (2 * K) = bsg (fun u => g (2 * u)) K + bsg (fun u => g (2 * u + 1)) K
  | 0 => rfl
  | K + 1 => by rw [show 2 * (K + 1) = 2 * K + 1 + 1 by omega, bsg, bsg, bsg_two g K, bsg, bsg]; omega
theorem bsg_add (g : Nat → Bool) (a : Nat) : ∀ b, bsg g (a + b) = bsg g a + bsg (fun u => g (a + u)) b
  | 0 => rfl
  | b + 1 => by rw [← Nat.add_assoc, bsg, bsg_add g a b, bsg]; omega
/-- The values that are the bits of a number, from the variable k on. -/
def asg (k u : Nat) : Nat → Bool := fun x => if x < k then false else u.testBit (x - k)
theorem asg_upd (k u : Nat) (b : Bool) : upd3 (asg (k + 1) u) k b = asg k (2 * u + (if b then 1 else 0)) := by
  funext x
  unfold upd3 asg
  split
  · rename_i h
    subst h
    rw [if_neg (by omega), Nat.sub_self, Nat.testBit_zero]
    cases b <;> simp <;> omega
  · rename_i h
    by_cases h1 : x < k
    · rw [if_pos (by omega), if_pos h1]
    · rw [if_neg (by omega), if_neg h1, show x - k = (x - (k + 1)) + 1 by omega, Nat.testBit_succ]
      congr 1
      cases b <;> simp <;> omega
theorem asg_zero (k : Nat) : asg k 0 = fun _ => false := by
  funext x
  unfold asg
  split
  · rfl
  · exact Nat.zero_testBit _
theorem num_bsg : ∀ (m k : Nat) (f : (Nat → Bool) → Bool), num3 f k m = bsg (fun u => f (asg k u)) (2 ^ m)
  | 0, k, f => by
    show _ = 0 + (if f (asg k 0) then 1 else 0)
    rw [asg_zero, num3, Nat.zero_add]
  | m + 1, k, f => by
    rw [num3, num_bsg m (k + 1), num_bsg m (k + 1), Nat.pow_succ, Nat.mul_comm, bsg_two]
    congr 1
    · exact bsg_congr _ fun u _ => by rw [asg_upd]; simp
    · exact bsg_congr _ fun u _ => by rw [asg_upd]; simp
theorem idx6_bits (u : Nat) : idx6 (asg 0 u) = u % 64 := by
  have h := idx6_row (u % 64) (Nat.mod_lt _ (by decide))
  rw [← h]
  refine idx6_congr fun x hx => ?_
  show (if x < 0 then false else u.testBit (x - 0)) = _
  rw [if_neg (by omega), Nat.sub_zero]
  rw [show (64 : Nat) = 2 ^ 6 from rfl, Nat.testBit_mod_two_pow, decide_eq_true hx, Bool.true_and]
theorem bsg_period {g : Nat → Bool} (h : ∀ u, g u = g (u % 64)) : ∀ K, bsg g (64 * K) = bsg g 64 * K
  | 0 => rfl
  | K + 1 => by
    rw [show 64 * (K + 1) = 64 * K + 64 by omega, bsg_add, bsg_period h K, Nat.mul_succ]
    congr 1
    exact bsg_congr _ fun u hu => by
      rw [h (64 * K + u), h u]
      congr 1
      omega
/-- The count of a table's diagram. -/
theorem cntD_bld {t n : Nat} (ht : t < 2 ^ 64) (hn : ∀ x ∈ bldN t, x.1 < n) : cntD (bldN t) (bldR t) n = bsg (fun u => t.testBit u) (2 ^ min n 6) * 2 ^ (n - 6) := by
  obtain ⟨hd, hr⟩ := dgm_bld ht
  unfold cntD
  have h := cnt_num hd.good hn (bldR t) hd.root 0 (Nat.zero_le _)
  rw [Nat.sub_zero, Nat.sub_zero] at h
  rw [← h, show (fun ρ => val3 ρ (bldN t) (bldR t)) = fun ρ => t.testBit (idx6 ρ) from funext hr.2, num_bsg]
  rcases Nat.lt_or_ge n 6 with h6 | h6
  · rw [Nat.min_eq_left (by omega), show n - 6 = 0 by omega, Nat.pow_zero, Nat.mul_one]
    exact bsg_congr _ fun u hu => by
      have : 2 ^ n ≤ 2 ^ 6 := Nat.pow_le_pow_right (by decide) (by omega)
      rw [idx6_bits, Nat.mod_eq_of_lt (by omega)]
  · rw [Nat.min_eq_right h6, show 2 ^ n = 64 * 2 ^ (n - 6) by rw [show (64 : Nat) = 2 ^ 6 from rfl, ← Nat.pow_add]; congr 1; omega, bsg_period (fun u => by rw [idx6_bits, idx6_bits, Nat.mod_mod])]
    rw [bsg_congr 64 (fun u hu => by rw [idx6_bits, Nat.mod_eq_of_lt (by omega)])]
end Go.Proofs.YtkdmhjlcgpnjpaaGreatDoor
