/- What FormulaSplits and FormulaEquivalent ask of trees, in plain Lean. -/
import Derived.Test.YtkbellmhanpocaaGreatDoorFt
namespace Go.Proofs.YtkbellmhanpocaaGreatDoor
set_option linter.unusedVariables false
set_option linter.unusedSimpArgs false
open F

mutual
theorem occ_put_sub {x y : Int} {b : F} (hb : occ y b = false) : ∀ t : F, occ y (put x b t) = true → occ y t = true
  | nd k a l => by
    rw [put]
    split
    · rw [hb]; exact fun h => by cases h
    · rw [occ, occ]
      split
      · exact id
      · exact occL_put_sub hb l
theorem occL_put_sub {x y : Int} {b : F} (hb : occ y b = false) : ∀ l : List F, occL y (putL x b l) = true → occL y l = true
  | [] => id
  | t :: r => by
    rw [putL, occL, occL, Bool.or_eq_true, Bool.or_eq_true]
    exact fun h => h.imp (occ_put_sub hb t) (occL_put_sub hb r)
end
theorem occ_cst (y : Int) (b : Bool) : occ y (cst b) = false := by cases b <;> rfl
theorem nodes_cst (b : Bool) : nodes (cst b) = 1 := rfl
theorem levels_cst (b : Bool) : levels (cst b) = 1 := by cases b <;> rfl
theorem supF_one (t : F) (ht : okT t) (x : Int) : x ∈ supF [t] ↔ occ x t = true := by
  rw [(supF_spec [t]).2 x, occ_iff x t ht, preL, preL, List.append_nil]
/-- What FormulaSplits asks of a formula of at most six variables. -/
theorem splits_law (t : F) (ρ : Int → Bool) (x : Int) (hok : okT t) (h6 : inV 6 (pre t)) :
    okT (put x (cst (ρ x)) t) ∧ nodes (put x (cst (ρ x)) t) ≤ nodes t ∧ levels (put x (cst (ρ x)) t) ≤ levels t + 1 ∧ (∀ y ∈ supF [t], y < 6) ∧ (∀ y ∈ supF [put x (cst (ρ x)) t], y < 6 ∧ y ≠ x) ∧ val ρ (put x (cst (ρ x)) t) = val ρ t ∧ put x t (put x (cst (ρ x)) t) = put x (cst (ρ x)) t := by
  have hs := put_size x (cst (ρ x)) t
  have ho := put_ok x _ (okT_cst (ρ x)) t hok
  have hv : ∀ y ∈ supF [t], y < 6 := fun y hy => by
    obtain ⟨u, hu, hk, rfl⟩ := ((supF_spec [t]).2 y).1 hy
    rw [preL, preL, List.append_nil] at hu
    exact (h6 u hu hk).2
  have hn := occ_put x (cst (ρ x)) (occ_cst x (ρ x)) t
  rw [nodes_cst, levels_cst, Nat.mul_one] at hs
  refine ⟨ho, hs.1, hs.2, hv, fun y hy => ⟨?_, ?_⟩, ?_, put_none x t _ ho hn⟩
  · rw [supF_one _ ho] at hy
    exact hv y ((supF_one t hok y).2 (occ_put_sub (occ_cst y (ρ x)) t hy))
  · rintro rfl
    rw [supF_one _ ho, hn] at hy
    cases hy
  · rw [val_put]
    refine val_congr t hok fun y _ => ?_
    rw [upd]
    split
    · rename_i h
      rw [h]
      cases ρ x <;> rfl
    · rfl
end Go.Proofs.YtkbellmhanpocaaGreatDoor
