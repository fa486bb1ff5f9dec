/- Tables of combined functions. In plain Lean. -/
import Derived.Test.YtkdmhjlcgpnjpaaGreatDoorXv
namespace Go.Proofs.YtkdmhjlcgpnjpaaGreatDoor
set_option linter.unusedVariables false
set_option linter.unusedSimpArgs false

/-- The table of the negation. -/
def notT (t : Nat) : Nat := 18446744073709551615 - t
theorem notT_lt (t : Nat) : notT t < 2 ^ 64 := by unfold notT; omega
theorem notT_test {t v : Nat} (ht : t < 2 ^ 64) (hv : v < 64) : (notT t).testBit v = !t.testBit v := by
  have h := Nat.testBit_two_pow_sub_succ ht v
  unfold notT
  rw [show 18446744073709551615 - t = 2 ^ 64 - (t + 1) by omega, h, decide_eq_true hv, Bool.true_and]
theorem and_lt {t u : Nat} (ht : t < 2 ^ 64) : t &&& u < 2 ^ 64 := Nat.lt_of_le_of_lt Nat.and_le_left ht
theorem or_lt {t u : Nat} (ht : t < 2 ^ 64) (hu : u < 2 ^ 64) : t ||| u < 2 ^ 64 := Nat.or_lt_two_pow ht hu
/-- A function's table. -/
theorem rep3_of {N : List (Nat × Nat × Nat)} {p t : Nat} {S : (Nat → Bool) → Bool} (hp : p < N.length + 2) (hS : ∀ ρ, val3 ρ N p = S ρ) (hT : ∀ ρ, S ρ = t.testBit (idx6 ρ)) : Rep3 N p t := ⟨hp, fun ρ => by rw [hS, hT]⟩
theorem put_table {M : List (Nat × Nat × Nat)} {r t x : Nat} (h : Rep3 M r t) (hx : x < 6) (b : Bool) (ρ : Nat → Bool) : put3 M r x b ρ = (cof t x b).testBit (idx6 ρ) := rep3_side ρ h hx b
theorem put_table6 {M : List (Nat × Nat × Nat)} {r t x : Nat} (h : Rep3 M r t) (hx : 6 ≤ x) (b : Bool) (ρ : Nat → Bool) : put3 M r x b ρ = t.testBit (idx6 ρ) := by
  unfold put3
  rw [h.2]
  congr 1
  refine idx6_congr fun y hy => ?_
  unfold upd3
  rw [if_neg (by omega)]
/-- The table of a variable. -/
def mask6 (x : Nat) : Nat := ofB (fun v => v.testBit x) 64
theorem mask6_lt (x : Nat) : mask6 x < 2 ^ 64 := ofB_lt _ 64
theorem mask6_test {x v : Nat} (hv : v < 64) : (mask6 x).testBit v = v.testBit x := by unfold mask6; rw [ofB_test, decide_eq_true hv, Bool.true_and]
/-- The diagram of one variable. -/
theorem lit_dgm {x : Nat} (hx : x < 6) : Dgm [(x, 0, 1)] 2 ∧ Rep3 [(x, 0, 1)] 2 (mask6 x) := by
  have hg : Good [(x, 0, 1)] := good_snoc good_nil (x := (x, 0, 1)) ⟨by show x < 4096; omega, by simp, by simp, by simp, by show x < 4096; omega, by show x < 4096; omega, fun j hj => absurd hj (by simp)⟩
  refine ⟨⟨hg, fun y hy => by rw [List.mem_singleton.1 hy]; exact hx, by simp, by simp, fun F hF => ?_⟩, ⟨by simp, fun ρ => ?_⟩⟩
  · obtain ⟨F, rfl⟩ : ∃ F', F = F' + 1 + 1 := ⟨F - 2, by omega⟩
    rw [dfs3, if_neg (by simp)]
    simp [node3, dfs3]
  · have := val3_node hg ρ (i := 0) (x := (x, 0, 1)) rfl
    rw [this, val3_0, val3_1, mask6_test (idx6_lt ρ), idx6_test ρ x hx]
    cases ρ x <;> rfl
/-- A table is the choice of a variable between its cofactors. -/
theorem split_test {t : Nat} (x : Nat) (ht : t < 2 ^ 64) : ((mask6 x &&& cof t x true) ||| (notT (mask6 x) &&& cof t x false)) = t := by
  refine table_eq (or_lt (and_lt (mask6_lt x)) (and_lt (notT_lt _))) ht fun v hv => ?_
  rw [Nat.testBit_or, Nat.testBit_and, Nat.testBit_and, notT_test (mask6_lt x) hv, mask6_test hv, cof_test _ _ _ hv, cof_test _ _ _ hv]
  have e : ∀ b : Bool, v.testBit x = b → setb v x b = v := fun b hb => by unfold setb; rw [hb]; cases b <;> rfl
  cases hb : v.testBit x
  · rw [e false hb]; simp
  · rw [e true hb]; simp
theorem notT_two {t : Nat} (ht : t < 2 ^ 64) : notT (notT t) = t := by unfold notT; omega
theorem bsg_not {t : Nat} (ht : t < 2 ^ 64) : ∀ K, K ≤ 64 → bsg (fun u => t.testBit u) K + bsg (fun u => (notT t).testBit u) K = K
  | 0, _ => rfl
  | K + 1, h => by
    have ih := bsg_not ht K (by omega)
    rw [bsg, bsg, notT_test ht (by omega)]
    cases t.testBit K <;> simp <;> omega
end Go.Proofs.YtkdmhjlcgpnjpaaGreatDoor
