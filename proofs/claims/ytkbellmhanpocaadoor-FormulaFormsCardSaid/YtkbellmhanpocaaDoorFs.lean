/- The variables of normal and simplified forms, in plain Lean. -/
import Derived.Test.YtkbellmhanpocaaDoorFt
namespace Go.Proofs.YtkbellmhanpocaaDoor
set_option linter.unusedVariables false
set_option linter.unusedSimpArgs false
open F

theorem occL_ex {x : Int} : ∀ {l : List F}, occL x l = true ↔ ∃ u ∈ l, occ x u = true
  | [] => by simp [occL]
  | t :: r => by
    rw [occL, Bool.or_eq_true, occL_ex]
    constructor
    · rintro (h | ⟨u, hu, h⟩)
      · exact ⟨t, List.mem_cons_self .., h⟩
      · exact ⟨u, List.mem_cons_of_mem _ hu, h⟩
    · rintro ⟨u, hu, h⟩
      rcases List.mem_cons.1 hu with rfl | hu
      · exact .inl h
      · exact .inr ⟨u, hu, h⟩
theorem occ_cst2 (y : Int) (b : Bool) : occ y (cst b) = false := by cases b <;> rfl
theorem occ_nd {x k a : Int} {l : List F} (hk : k ≠ 1) : occ x (nd k a l) = occL x l := by rw [occ, if_neg hk]
mutual
theorem occ_nrm (x : Int) : ∀ (t : F) (g : Bool), okT t → occ x (nrm t g) = true → occ x t = true
  | nd k a l, g, h => by
    rcases single_cases h.1 with ⟨rfl, h1, h2, rfl⟩ | ⟨rfl, rfl, t, rfl⟩ | ⟨hk, rfl, hl⟩ | ⟨hk, rfl, rfl⟩
    · rw [nrm, if_pos rfl]
      cases g
      · exact id
      · simp [occ, occL]
    · rw [nrm, if_neg (by decide), if_pos rfl, nrmH, occ_nd (by decide), occL, occL, Bool.or_false]
      exact occ_nrm x t (!g) h.2.1
    · rw [nrm, if_neg (by omega), if_neg (by omega), if_neg (by omega), occ_nd (by cases g <;> simp <;> omega), occ_nd (by omega)]
      exact occL_nrm x l g h.2
    · rw [nrm, if_neg (by omega), if_neg (by omega), if_pos (by omega), occ_cst2]
      exact fun h => by cases h
theorem occL_nrm (x : Int) : ∀ (l : List F) (g : Bool), okL l → occL x (nrmL l g) = true → occL x l = true
  | [], _, _ => id
  | t :: r, g, h => by
    rw [nrmL, occL, occL, Bool.or_eq_true, Bool.or_eq_true]
    exact fun h' => h'.imp (occ_nrm x t g h.1) (occL_nrm x r g h.2)
end
theorem occ_negF (x : Int) (g : F) (h : occ x (negF g) = true) : occ x g = true := by
  obtain ⟨k, a, l⟩ := g
  rw [show negF (nd k a l) = if k = 2 then headF l else if k = 5 ∨ k = 6 then cst (decide (k = 5)) else nd 2 0 [nd k a l] from rfl] at h
  by_cases hk : k = 2
  · subst hk
    rw [if_pos rfl] at h
    rw [occ_nd (by decide)]
    cases l with
    | nil => simp [headF, occ, occL] at h
    | cons t r => exact occL_ex.2 ⟨t, List.mem_cons_self .., h⟩
  · rw [if_neg hk] at h
    by_cases h5 : k = 5 ∨ k = 6
    · rw [if_pos h5, occ_cst2] at h; cases h
    · rw [if_neg h5, occ_nd (by decide), occL, occL, Bool.or_false] at h
      exact h
theorem occ_pickF (x k : Int) (hk : k = 3 ∨ k = 4) (l : List F) (h : occ x (pickF k l) = true) : occL x l = true := by
  have hw : weak k ≠ 1 := by have := (strong_in k).2.1; omega
  unfold pickF at h
  split at h
  · rw [occ_nd hw] at h; exact h
  · rw [occL, occL, h]; rfl
  · rw [occ_nd (by omega)] at h; exact h
theorem occ_joinF (x k : Int) (hk : k = 3 ∨ k = 4) (l : List F) (h : occ x (joinF k l) = true) : occL x l = true := by
  have hs : strong k ≠ 1 := by have := (strong_in k).1; omega
  unfold joinF at h
  split at h
  · rw [occ_nd hs, occL] at h; cases h
  · obtain ⟨u, hu, hx⟩ := occL_ex.1 (occ_pickF x k hk _ h)
    exact occL_ex.2 ⟨u, ((dd_mem k l u).1 hu).1, hx⟩
theorem occ_l {x k : Int} (hk : k = 3 ∨ k = 4) {t : F} (ht : t.k = k) (h : occL x t.l = true) : occ x t = true := by
  obtain ⟨k', a, l⟩ := t
  have : k' = k := ht
  subst this
  rw [occ_nd (by omega)]
  exact h
mutual
theorem occ_smp (x : Int) : ∀ t : F, okT t → occ x (smp t) = true → occ x t = true
  | nd k a l, h => by
    rcases single_cases h.1 with ⟨rfl, h1, h2, rfl⟩ | ⟨rfl, rfl, t, rfl⟩ | ⟨hk, rfl, hl⟩ | ⟨hk, rfl, rfl⟩
    · rw [smp, if_neg (by decide), if_neg (by decide)]; exact id
    · rw [smp, if_pos rfl, smpH, occ_nd (k := 2) (by decide), occL, occL, Bool.or_false]
      exact fun h' => occ_smp x t h.2.1 (occ_negF x _ h')
    · rw [smp, if_neg (by omega), if_pos hk, occ_nd (k := k) (by omega)]
      exact fun h' => occL_smp x k hk l h.2 (occ_joinF x k hk _ h')
    · rw [smp, if_neg (by omega), if_neg (by omega)]; exact id
theorem occL_smp (x k : Int) (hk : k = 3 ∨ k = 4) : ∀ l : List F, okL l → occL x (smpL k l) = true → occL x l = true
  | [], _ => id
  | t :: r, h => fun h' => by
    rw [occL, Bool.or_eq_true]
    rw [smpL] at h'
    obtain ⟨u, hu, hx⟩ := occL_ex.1 h'
    rcases List.mem_append.1 hu with hu | hu
    · refine .inl (occ_smp x t h.1 ?_)
      split at hu
      · rename_i he
        exact occ_l hk he (occL_ex.2 ⟨u, hu, hx⟩)
      · rw [List.mem_singleton.1 hu] at hx
        exact hx
    · exact .inr (occL_smp x k hk r h.2 (occL_ex.2 ⟨u, hu, hx⟩))
end
end Go.Proofs.YtkbellmhanpocaaDoor
