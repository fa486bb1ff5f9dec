/- Equivalent formulas: by the rows of their variables, and by the values of six variables, in plain Lean. -/
import Derived.Test.YtkbellmhanpocaaGreatDoorFp
import Derived.Test.YtkbellmhanpocaaGreatDoorFk
namespace Go.Proofs.YtkbellmhanpocaaGreatDoor
set_option linter.unusedVariables false
set_option linter.unusedSimpArgs false
open F

/-- The values of a row of the table of the variables ls. -/
def rowE (ls : List Int) (row : Nat) (y : Int) : Bool := row.testBit (cntL ls y)
theorem rowE_of {ls : List Int} (hs : ls.Pairwise (· < ·)) (ρ : Int → Bool) {x : Int} (hx : x ∈ ls) : rowE ls (bitsK (ls.map ρ) ls.length) x = ρ x := by
  have hat := cntL_at hs hx
  have hlt : cntL ls x < ls.length := (List.getElem?_eq_some_iff.1 hat).1
  rw [rowE, bitsK_test, decide_eq_true hlt, Bool.true_and, List.getD_eq_getElem?_getD, List.getElem?_map, hat]
  rfl
/-- Two formulas have the same values. -/
def eqv (t u : F) : Prop := ∀ ρ : Int → Bool, val ρ t = val ρ u
theorem supF_two {t u : F} (ht : okT t) (hu : okT u) (x : Int) : x ∈ supF [t, u] ↔ occ x t = true ∨ occ x u = true := by
  rw [(supF_spec [t, u]).2 x, occ_iff x t ht, occ_iff x u hu, preL, preL, preL, List.append_nil]
  constructor
  · rintro ⟨v, hv, h⟩
    rcases List.mem_append.1 hv with hv | hv
    · exact .inl ⟨v, hv, h⟩
    · exact .inr ⟨v, hv, h⟩
  · rintro (⟨v, hv, h⟩ | ⟨v, hv, h⟩)
    · exact ⟨v, List.mem_append_left _ hv, h⟩
    · exact ⟨v, List.mem_append_right _ hv, h⟩
theorem eqv_rows {t u : F} (ht : okT t) (hu : okT u) : (∀ row : Nat, row < 2 ^ (supF [t, u]).length → val (rowE (supF [t, u]) row) t = val (rowE (supF [t, u]) row) u) ↔ eqv t u := by
  constructor
  · intro h ρ
    have hs := (supF_spec [t, u]).1
    have hr := h _ (bitsK_lt ((supF [t, u]).map ρ) (supF [t, u]).length)
    rwa [val_congr t ht (fun x hx => rowE_of hs ρ ((supF_two ht hu x).2 (.inl hx))), val_congr u hu (fun x hx => rowE_of hs ρ ((supF_two ht hu x).2 (.inr hx)))] at hr
  · intro h row _
    exact h _
theorem occ_inV {m : Int} {t : F} (ht : okT t) (h : inV m (pre t)) {x : Int} (hx : occ x t = true) : 0 ≤ x ∧ x < m := by
  obtain ⟨v, hv, hk, rfl⟩ := (occ_iff x t ht).1 hx
  exact h v hv hk
end Go.Proofs.YtkbellmhanpocaaGreatDoor
