/- Equivalent formulas by the values of six variables, in plain Lean. -/
import Derived.Test.YtkdmhjlcgpnjpaaGreatDoorFz
import Derived.Test.YtkdmhjlcgpnjpaaGreatDoorR1
namespace Go.Proofs.YtkdmhjlcgpnjpaaGreatDoor
set_option linter.unusedVariables false
set_option linter.unusedSimpArgs false
open F

theorem envB_of (ρ : Int → Bool) {x : Int} (h : 0 ≤ x ∧ x < 6) : envB (bitsK ((List.range 6).map fun i : Nat => ρ (i : Int)) 6) x = ρ x := by
  obtain ⟨X, rfl⟩ := Int.eq_ofNat_of_zero_le h.1
  unfold envB
  rw [bitsK_test, decide_eq_true (show ((X : Nat) : Int) < 64 by omega), Int.toNat_natCast, decide_eq_true (show X < 6 by omega), List.getD_eq_getElem?_getD, List.getElem?_map, List.getElem?_range (by omega)]
  rfl
theorem eqv_values {t u : F} (ht : okT t) (hu : okT u) (h6 : inV 6 (pre t)) (h6' : inV 6 (pre u)) : (∀ v : Nat, v < 64 → val (envB v) t = val (envB v) u) ↔ eqv t u := by
  constructor
  · intro h ρ
    have hr := h _ (bitsK_lt ((List.range 6).map fun i : Nat => ρ (i : Int)) 6)
    rwa [val_congr t ht (fun x hx => envB_of ρ (occ_inV ht h6 hx)), val_congr u hu (fun x hx => envB_of ρ (occ_inV hu h6' hx))] at hr
  · intro h v _
    exact h _
end Go.Proofs.YtkdmhjlcgpnjpaaGreatDoor
