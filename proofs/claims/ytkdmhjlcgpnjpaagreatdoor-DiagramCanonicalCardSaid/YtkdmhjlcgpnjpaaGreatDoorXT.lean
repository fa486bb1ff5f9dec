/- Table of a formula; the diagram of a formula is that of its table. -/
import Derived.Test.YtkdmhjlcgpnjpaaGreatDoorXI
import Derived.Test.YtkdmhjlcgpnjpaaGreatDoorR1
import Derived.Test.YtkdmhjlcgpnjpaaGreatDoorXG
import Derived.Test.YtkdmhjlcgpnjpaaGreatDoorG8
import Derived.Test.YtkdmhjlcgpnjpaaGreatDoorFv
namespace Go.Proofs.YtkdmhjlcgpnjpaaGreatDoor
set_option linter.unusedVariables false
set_option linter.unusedSimpArgs false
open Go.RowKit Go.Maps F
attribute [local go_sem low] Bel.cell Bel.frozen alloc_cell alloc_frozen

/-- The table of a formula. -/
def tabF (t : F) : Nat := ofB (fun v => val (envB v) t) 64
theorem tabF_lt (t : F) : tabF t < 2 ^ 64 := ofB_lt _ 64
/-- The values of a formula of six variables are those of its table. -/
theorem vt_tab {t : F} (hok : okT t) (h6 : inV 6 (pre t)) (ρ : Nat → Bool) : vt t ρ = (tabF t).testBit (idx6 ρ) := by
  unfold tabF vt
  rw [ofB_test, decide_eq_true (idx6_lt ρ), Bool.true_and]
  refine val_congr t hok fun x hx => ?_
  obtain ⟨u, hu, hk, ha⟩ := (occ_iff x t hok).1 hx
  have h := h6 u hu hk
  rw [ha] at h
  unfold envB
  rw [decide_eq_true (by omega), Bool.true_and, idx6_test ρ _ (by omega)]
end Go.Proofs.YtkdmhjlcgpnjpaaGreatDoor
