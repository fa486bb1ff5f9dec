/- Witness gives the first values for which a table is true. In plain Lean. -/
import Derived.Test.YtkdmhjlcgpnjpaaGreatDoorXt
namespace Go.Proofs.YtkdmhjlcgpnjpaaGreatDoor
set_option linter.unusedVariables false
set_option linter.unusedSimpArgs false

/-- The first values for which a table is true, m of them from the variable k on. -/
def wantL : Nat → Nat → Nat → List Bool
  | _, _, 0 => []
  | u, k, m + 1 => decide (cof u k false = 0) :: wantL (cof u k (decide (cof u k false = 0))) (k + 1) m
theorem wantL_len : ∀ m u k, (wantL u k m).length = m
  | 0, _, _ => rfl
  | m + 1, u, k => by rw [wantL, List.length_cons, wantL_len m]
theorem rep3_zero {M : List (Nat × Nat × Nat)} (hM : Good M) {p u : Nat} (h : Rep3 M p u) (hu : u < 2 ^ 64) : p = 0 ↔ u = 0 := by
  have h0 : Rep3 M 0 0 := ⟨by omega, fun ρ => by rw [val3_0, Nat.zero_testBit]⟩
  constructor
  · rintro rfl
    exact rep3_table h h0 hu (by decide)
  · rintro rfl
    exact canon3 hM (p + 1) p 0 (by omega) (by omega) h.1 (by omega) fun ρ => by rw [h.2, h0.2]
theorem rep3_kids {M : List (Nat × Nat × Nat)} (hM : Good M) {p u : Nat} (h : Rep3 M p u) (h2 : 2 ≤ p) (hv : (node3 M p).1 < 6) : Rep3 M (node3 M p).2.1 (cof u (node3 M p).1 false) ∧ Rep3 M (node3 M p).2.2 (cof u (node3 M p).1 true) := by
  obtain ⟨a1, a2, _⟩ := node3_ok hM h.1 h2
  have hp := h.1
  refine ⟨⟨by omega, fun ρ => ?_⟩, ⟨by omega, fun ρ => ?_⟩⟩
  · have := side3 hM ρ hp h2 false
    rw [rep3_side ρ h hv] at this
    simpa using this.symm
  · have := side3 hM ρ hp h2 true
    rw [rep3_side ρ h hv] at this
    simpa using this.symm
theorem rep3_cof {M : List (Nat × Nat × Nat)} (hM : Good M) {p u k : Nat} (h : Rep3 M p u) (hu : u < 2 ^ 64) (hk : k < 6) (hv : k < var3 M p) (b : Bool) : cof u k b = u :=
  rep3_table (N := M) (p := p) ⟨h.1, fun ρ => by rw [← rep3_side ρ h hk, val3_upd hM ρ b h.1 hv]⟩ h (cof_lt _ _ _) hu
theorem wit_want {M : List (Nat × Nat × Nat)} (hM : Good M) {n : Nat} (hn : ∀ x ∈ M, x.1 < n) (hv6 : ∀ x ∈ M, x.1 < 6) : ∀ m k p u (a : List Bool), k + m = min n 6 → Rep3 M p u → u < 2 ^ 64 → u ≠ 0 → k ≤ var3 M p → a.length = k →
    witD M (p + 1) p (a ++ List.replicate (n - k) false) = a ++ (wantL u k m ++ List.replicate (n - 6) false) := by
  intro m
  induction m with
  | zero =>
    intro k p u a hk hr hu h0 hv ha
    have h2 : p < 2 := by
      rcases Nat.lt_or_ge p 2 with h | h
      · exact h
      · have e := (node3_ok hM hr.1 h).2.2.2.2.2.1
        have e1 := hn _ (List.mem_of_getElem? (node3_some hr.1 h))
        have e2 := hv6 _ (List.mem_of_getElem? (node3_some hr.1 h))
        omega
    rw [witD_end M h2, wantL, List.nil_append, show n - k = n - 6 by omega]
  | succ m ih =>
    intro k p u a hk hr hu h0 hv ha
    have hk6 : k < 6 := by omega
    have hrep : List.replicate (n - k) false = false :: List.replicate (n - (k + 1)) false := by
      rw [show n - k = n - (k + 1) + 1 by omega, List.replicate_succ]
    rw [wantL]
    rcases Nat.lt_or_ge k (var3 M p) with hlt | hge
    · rw [rep3_cof hM hr hu hk6 hlt false, decide_eq_false h0, rep3_cof hM hr hu hk6 hlt false, hrep]
      simpa using ih (k + 1) p u (a ++ [false]) (by omega) hr hu h0 hlt (by simp [ha])
    · have hkv : var3 M p = k := by omega
      have h2 : 2 ≤ p := by
        rcases Nat.lt_or_ge p 2 with h | h
        · unfold var3 at hkv; rw [if_pos h] at hkv; omega
        · exact h
      obtain ⟨a1, a2, a3, a4, a5, a6, _⟩ := node3_ok hM hr.1 h2
      have hk' : (node3 M p).1 = k := by omega
      obtain ⟨r1, r2⟩ := rep3_kids hM hr h2 (by omega)
      rw [hk'] at r1 r2 a4 a5
      rw [witD_step hM hr.1 h2, hk', hrep]
      have hz := rep3_zero hM r1 (cof_lt _ _ _)
      have hz2 := rep3_zero hM r2 (cof_lt _ _ _)
      by_cases hno : (node3 M p).2.1 = 0
      · have hc := hz.1 hno
        rw [if_pos hno, decide_eq_true hc]
        have hs : (a ++ false :: List.replicate (n - (k + 1)) false).set k true = (a ++ [true]) ++ List.replicate (n - (k + 1)) false := by
          rw [List.set_append, if_neg (by omega), ha, Nat.sub_self]
          simp
        rw [hs]
        simpa using ih (k + 1) _ _ (a ++ [true]) (by omega) r2 (cof_lt _ _ _) (fun e => a3 (by rw [hno, hz2.2 e])) a5 (by simp [ha])
      · have hc : cof u k false ≠ 0 := fun e => hno (hz.2 e)
        rw [if_neg hno, decide_eq_false hc]
        simpa using ih (k + 1) _ _ (a ++ [false]) (by omega) r1 (cof_lt _ _ _) hc a4 (by simp [ha])
theorem witD_bld {t n : Nat} (ht : t < 2 ^ 64) (h0 : t ≠ 0) (hn : ∀ x ∈ bldN t, x.1 < n) : witD (bldN t) (bldR t + 1) (bldR t) (List.replicate n false) = wantL t 0 (min n 6) ++ List.replicate (n - 6) false := by
  obtain ⟨hd, hr⟩ := dgm_bld ht
  have := wit_want hd.good hn hd.vars (min n 6) 0 (bldR t) t [] (by omega) hr ht h0 (Nat.zero_le _) rfl
  simpa using this
end Go.Proofs.YtkdmhjlcgpnjpaaGreatDoor
