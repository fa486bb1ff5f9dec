/- What the walk over a table's diagram gives, and diagrams in order. In plain Lean. -/
import Derived.Test.YtkdmhjlcgpnjpaaGreatDoorXp
namespace Go.Proofs.YtkdmhjlcgpnjpaaGreatDoor
set_option linter.unusedVariables false
set_option linter.unusedSimpArgs false

theorem same3_left {N M : List (Nat × Nat × Nat)} (hN : Good N) {p p' q : Nat} (h : Same3 N M p q) (h' : Same3 N M p' q) : p = p' := h.symm.right hN h'.symm
theorem same3_c0 (N M : List (Nat × Nat × Nat)) : Same3 N M 0 0 := ⟨by omega, by omega, fun ρ => by rw [val3_0, val3_0]⟩
theorem same3_c1 (N M : List (Nat × Nat × Nat)) : Same3 N M 1 1 := ⟨by omega, by omega, fun ρ => by rw [val3_1, val3_1]⟩
/-- A diagram in the order of its walk. -/
structure Dgm (M : List (Nat × Nat × Nat)) (r : Nat) : Prop where
  good : Good M
  vars : ∀ x ∈ M, x.1 < 6
  len : M.length < 64
  root : r < M.length + 2
  walk : ∀ F, r < F → dfs3 M F r [] = List.range' 2 M.length
theorem dgm_bld {t : Nat} (ht : t < 2 ^ 64) : Dgm (bldN t) (bldR t) ∧ Rep3 (bldN t) (bldR t) t := by
  obtain ⟨g, r, l, d⟩ := bld_ok ht
  exact ⟨⟨g.good, g.vars, l, r.1, d⟩, r⟩
theorem Dgm.top {M : List (Nat × Nat × Nat)} {r : Nat} (h : Dgm M r) : (r < 2 ∧ M = []) ∨ (r = M.length + 1 ∧ 0 < M.length) := by
  have hw := h.walk (r + 1) (Nat.lt_succ_self r)
  rw [dfs3] at hw
  rcases Nat.lt_or_ge r 2 with h2 | h2
  · rw [if_pos (.inl h2)] at hw
    have := congrArg List.length hw
    rw [List.length_range'] at this
    exact .inl ⟨h2, List.length_eq_zero_iff.1 this.symm⟩
  · rw [if_neg (by simp; omega)] at hw
    have hl := congrArg List.length hw
    rw [List.length_range', List.length_append, List.length_singleton] at hl
    have h0 : 0 < M.length := by omega
    have hr := h.root
    have e1 := congrArg List.getLast? hw
    rw [List.getLast?_concat] at e1
    obtain ⟨n, hn⟩ : ∃ n, M.length = n + 1 := ⟨M.length - 1, by omega⟩
    rw [hn, range2_snoc, List.getLast?_concat] at e1
    injection e1 with e1
    exact .inr ⟨by omega, h0⟩
/-- The walk of a place with a table, in step with the table's diagram. -/
theorem walk_lock {N : List (Nat × Nat × Nat)} (hN : Good N) {p t : Nat} (h : Rep3 N p t) (ht : t < 2 ^ 64) :
    (dfs3 N (p + 1) p []).length = (bldN t).length ∧ (∀ i q, (dfs3 N (p + 1) p [])[i]? = some q → 2 ≤ q ∧ q < N.length + 2 ∧ Same3 N (bldN t) q (i + 2)) ∧ Same3 N (bldN t) p (bldR t) := by
  obtain ⟨g, r, l, d⟩ := bld_ok ht
  have hs := rep3_same h r
  obtain ⟨F, hF⟩ : ∃ F, F = p + bldR t + 1 := ⟨_, rfl⟩
  have ho := dfs3_lock hN g.good F p (bldR t) [] [] hs (outs3_nil _ _)
  rw [d F (by omega), dfs3_fuel hN F (p + 1) p [] (by omega) (by omega) h.1] at ho
  have hc := (dfs3_closed hN (p + 1) p [] (by omega) h.1 (closed3_nil N)).1
  refine ⟨by rw [ho.1, List.length_range'], fun i q hq => ?_, hs⟩
  have hi := (List.getElem?_eq_some_iff.1 hq).1
  obtain ⟨c1, c2, _⟩ := hc q (List.mem_of_getElem? hq)
  refine ⟨c1, c2, ho.2 i q (i + 2) hq ?_⟩
  have hl := ho.1
  rw [List.length_range'] at hl
  rw [List.getElem?_eq_getElem (by rw [List.length_range']; omega), List.getElem_range']
  simp; omega
/-- The node of a place, and that of the diagram. -/
theorem walk_node {N M : List (Nat × Nat × Nat)} (hN : Good N) (hM : Good M) {q i : Nat} (h2 : 2 ≤ q) (h : Same3 N M q (i + 2)) :
    ∃ x, M[i]? = some x ∧ x.1 = (node3 N q).1 ∧ Same3 N M (node3 N q).2.1 x.2.1 ∧ Same3 N M (node3 N q).2.2 x.2.2 ∧ x.2.1 < i + 2 ∧ x.2.2 < i + 2 := by
  obtain ⟨k0, k1, k2⟩ := same3_kids hN hM h h2
  have hs := node3_some h.2.1 (by omega)
  rw [Nat.add_sub_cancel] at hs
  obtain ⟨a1, a2, _⟩ := node3_ok hM h.2.1 (by omega)
  exact ⟨_, hs, k0.symm, k1, k2, a1, a2⟩
end Go.Proofs.YtkdmhjlcgpnjpaaGreatDoor
