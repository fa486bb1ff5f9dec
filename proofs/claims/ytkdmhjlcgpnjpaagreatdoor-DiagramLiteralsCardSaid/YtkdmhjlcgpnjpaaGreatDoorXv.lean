/- The variables of a table's diagram are those on which the table depends. In plain Lean. -/
import Derived.Test.YtkdmhjlcgpnjpaaGreatDoorXu
namespace Go.Proofs.YtkdmhjlcgpnjpaaGreatDoor
set_option linter.unusedVariables false
set_option linter.unusedSimpArgs false

theorem growT_dep {v : Nat} (hv : v < 6) : ∀ (f : Nat) (M : List (Nat × Nat × Nat)) (T : List Nat) (t : Nat), t < 2 ^ 64 → dep6 t v = false → ∀ y ∈ (growT f M T t).1, y ∈ M ∨ y.1 ≠ v := by
  intro f
  induction f with
  | zero => intro M T t _ _ y hy; exact .inl hy
  | succ f ih =>
    intro M T t ht hd y hy
    rw [growT] at hy
    split at hy
    · exact .inl hy
    · rename_i h0
      split at hy
      · exact .inl hy
      · rename_i h1
        split at hy
        · exact .inl hy
        · obtain ⟨hs, _, hle, hbef⟩ := first6_spec t 6 0
          have hx6 : first6 t 6 0 < 6 := by
            rcases Nat.lt_or_ge (first6 t 6 0) 6 with h | h
            · exact h
            · exact (table_const ht fun z hz => hbef z (Nat.zero_le _) (by omega)).elim (fun e => absurd e h0) (fun e => absurd e h1)
          have hdc : ∀ b, dep6 (cof t (first6 t 6 0) b) v = false := fun b => dep6_cof hx6 hv b (.inr hd)
          rcases List.mem_append.1 hy with h | h
          · rcases ih _ _ _ (cof_lt _ _ _) (hdc true) y h with h | h
            · exact ih _ _ _ (cof_lt _ _ _) (hdc false) y h
            · exact .inr h
          · rw [List.mem_singleton.1 h]
            refine .inr fun e => ?_
            have := hs (by omega)
            dsimp only at e
            rw [e, hd] at this
            cases this
theorem val3_free {M : List (Nat × Nat × Nat)} (hM : Good M) {v : Nat} (h : ∀ x ∈ M, x.1 ≠ v) (ρ : Nat → Bool) (b : Bool) : ∀ p, p < M.length + 2 → val3 (upd3 ρ v b) M p = val3 ρ M p := by
  intro p
  induction p using Nat.strongRecOn with
  | ind p ih =>
    intro hp
    rcases Nat.lt_or_ge p 2 with h2 | h2
    · have : p = 0 ∨ p = 1 := by omega
      rcases this with rfl | rfl
      · rw [val3_0, val3_0]
      · rw [val3_1, val3_1]
    · obtain ⟨a1, a2, _⟩ := node3_ok hM hp h2
      have hs := node3_some hp h2
      have v1 := val3_node hM (upd3 ρ v b) hs
      have v2 := val3_node hM ρ hs
      rw [Nat.sub_add_cancel h2] at v1 v2
      rw [v1, v2, ih _ a1 (by omega), ih _ a2 (by omega)]
      have e : upd3 ρ v b (node3 M p).1 = ρ (node3 M p).1 := by unfold upd3; rw [if_neg (h _ (List.mem_of_getElem? hs))]
      rw [e]
/-- A variable occurs exactly if the table depends on it. -/
theorem vars_dep {t v : Nat} (ht : t < 2 ^ 64) (hv : v < 6) : (∃ x ∈ bldN t, x.1 = v) ↔ dep6 t v = true := by
  constructor
  · rintro ⟨x, hx, e⟩
    cases hd : dep6 t v with
    | true => rfl
    | false =>
      rcases growT_dep hv 7 [] [] t ht hd x hx with h | h
      · cases h
      · exact absurd e h
  · intro hd
    refine Classical.byContradiction fun hn => ?_
    have hno : ∀ x ∈ bldN t, x.1 ≠ v := fun x hx e => hn ⟨x, hx, e⟩
    obtain ⟨hg, hr⟩ := dgm_bld ht
    have : dep6 t v = false := dep6_false fun w hw => by
      have hρ : ∀ b, t.testBit (setb w v b) = t.testBit w := fun b => by
        have e := hr.2 (upd3 (fun i => w.testBit i) v b)
        rw [idx6_upd _ v hv, idx6_row w hw, val3_free hg.good hno _ b _ hg.root, hr.2, idx6_row w hw] at e
        exact e.symm
      rw [hρ, hρ]
    rw [this] at hd
    cases hd
theorem vars_lt {t n : Nat} (ht : t < 2 ^ 64) : (∀ x ∈ bldN t, x.1 < n) ↔ ∀ v, v < 6 → dep6 t v = true → v < n := by
  obtain ⟨hg, _⟩ := dgm_bld ht
  constructor
  · intro h v hv hd
    obtain ⟨x, hx, e⟩ := (vars_dep ht hv).2 hd
    rw [← e]
    exact h x hx
  · intro h x hx
    have h6 := hg.vars x hx
    exact h _ h6 ((vars_dep ht h6).1 ⟨x, hx, rfl⟩)
end Go.Proofs.YtkdmhjlcgpnjpaaGreatDoor
