/- Values, normal forms, and replaced variables of trees, in plain Lean. -/
import Derived.Test.YtkbellmhanpocaaDoorFa
namespace Go.Proofs.YtkbellmhanpocaaDoor
set_option linter.unusedVariables false
set_option linter.unusedSimpArgs false
open F

/-- The constant of a value. -/
def cst (b : Bool) : F := nd (if b then 6 else 5) 0 []
mutual
def val (ρ : Int → Bool) : F → Bool
  | nd k a l => if k = 1 then ρ a else if k = 2 then !valH ρ l else if k = 3 then valA ρ l else if k = 4 then valO ρ l else decide (k = 6)
def valH (ρ : Int → Bool) : List F → Bool | [] => false | t :: _ => val ρ t
def valA (ρ : Int → Bool) : List F → Bool | [] => true | t :: r => val ρ t && valA ρ r
def valO (ρ : Int → Bool) : List F → Bool | [] => false | t :: r => val ρ t || valO ρ r
end
mutual
def nrm : F → Bool → F
  | nd k a l, g => if k = 1 then (if g then nd 2 0 [nd 1 a l] else nd 1 a l) else if k = 2 then nrmH l (!g) else if k = 5 ∨ k = 6 then cst (decide (k = 6) != g) else nd (if g then 7 - k else k) 0 (nrmL l g)
def nrmH : List F → Bool → F | [], _ => nd 0 0 [] | t :: _, g => nrm t g
def nrmL : List F → Bool → List F | [], _ => [] | t :: r, g => nrm t g :: nrmL r g
end
theorem nrmL_len : ∀ (l : List F) (g : Bool), (nrmL l g).length = l.length
  | [], _ => rfl
  | t :: r, g => by rw [nrmL, List.length_cons, nrmL_len r g, List.length_cons]
/-- The kinds of a right formula. -/
theorem single_cases {k a : Int} {l : List F} (h : single (nd k a l) = 0) :
    (k = 1 ∧ 0 ≤ a ∧ a < 4096 ∧ l = []) ∨ (k = 2 ∧ a = 0 ∧ ∃ t, l = [t]) ∨ ((k = 3 ∨ k = 4) ∧ a = 0 ∧ l.length ≤ 10000) ∨ ((k = 5 ∨ k = 6) ∧ a = 0 ∧ l = []) := by
  rw [single] at h
  split at h
  · rename_i hk
    split at h
    · cases h
    · split at h
      · rename_i h1 h2
        exact .inl ⟨hk, by omega, by omega, List.length_eq_zero_iff.1 h2⟩
      · cases h
  · split at h
    · rename_i _ hk
      split at h
      · rename_i h1
        exact .inr (.inl ⟨hk, h1.1, List.length_eq_one_iff.1 h1.2⟩)
      · cases h
    · split at h
      · rename_i _ _ hk
        split at h
        · rename_i h1
          exact .inr (.inr (.inl ⟨hk, h1.1, h1.2⟩))
        · cases h
      · split at h
        · rename_i _ _ _ hk
          split at h
          · rename_i h1
            exact .inr (.inr (.inr ⟨hk, h1.1, List.length_eq_zero_iff.1 h1.2⟩))
          · cases h
        · cases h
theorem single_var {a : Int} (h0 : 0 ≤ a) (h1 : a < 4096) : single (nd 1 a []) = 0 := by
  rw [single, if_pos rfl, if_neg (by omega)]; rfl
theorem single_not (t : F) : single (nd 2 0 [t]) = 0 := by
  rfl
theorem single_join {k : Int} (hk : k = 3 ∨ k = 4) {l : List F} (h : l.length ≤ 10000) : single (nd k 0 l) = 0 := by
  rw [single, if_neg (by omega), if_neg (by omega), if_pos hk, if_pos ⟨rfl, h⟩]
theorem okT_cst (b : Bool) : okT (cst b) := by cases b <;> exact ⟨rfl, trivial⟩
mutual
theorem nrm_ok : ∀ (t : F) (g : Bool), okT t → okT (nrm t g)
  | nd k a l, g, h => by
    rcases single_cases h.1 with ⟨rfl, h1, h2, rfl⟩ | ⟨rfl, rfl, t, rfl⟩ | ⟨hk, rfl, hl⟩ | ⟨hk, rfl, rfl⟩
    · rw [nrm, if_pos rfl]
      cases g
      · exact h
      · exact ⟨single_not _, h, trivial⟩
    · rw [nrm, if_neg (by decide), if_pos rfl, nrmH]
      exact nrm_ok t (!g) h.2.1
    · rw [nrm, if_neg (by omega), if_neg (by omega), if_neg (by omega)]
      exact ⟨single_join (by cases g <;> simp <;> omega) (by rw [nrmL_len]; exact hl), nrmL_ok l g h.2⟩
    · rw [nrm, if_neg (by omega), if_neg (by omega), if_pos (by omega)]
      exact okT_cst _
theorem nrmL_ok : ∀ (l : List F) (g : Bool), okL l → okL (nrmL l g)
  | [], _, _ => trivial
  | t :: r, g, h => by rw [nrmL]; exact ⟨nrm_ok t g h.1, nrmL_ok r g h.2⟩
end
mutual
theorem nrm_size : ∀ (t : F) (g : Bool), okT t → nodes (nrm t g) ≤ 2 * nodes t ∧ levels (nrm t g) ≤ levels t + 1
  | nd k a l, g, h => by
    rcases single_cases h.1 with ⟨rfl, h1, h2, rfl⟩ | ⟨rfl, rfl, t, rfl⟩ | ⟨hk, rfl, hl⟩ | ⟨hk, rfl, rfl⟩
    · rw [nrm, if_pos rfl]
      cases g <;> simp [nodes, nodesL, levels, levelsL]
    · rw [nrm, if_neg (by decide), if_pos rfl, nrmH]
      have := nrm_size t (!g) h.2.1
      simp [nodes, nodesL, levels, levelsL]
      omega
    · rw [nrm, if_neg (by omega), if_neg (by omega), if_neg (by omega)]
      have := nrmL_size l g h.2
      simp only [nodes, levels]
      omega
    · rw [nrm, if_neg (by omega), if_neg (by omega), if_pos (by omega)]
      simp [cst, nodes, nodesL, levels, levelsL]
theorem nrmL_size : ∀ (l : List F) (g : Bool), okL l → nodesL (nrmL l g) ≤ 2 * nodesL l ∧ levelsL (nrmL l g) ≤ levelsL l + 1
  | [], _, _ => by simp [nrmL, nodesL, levelsL]
  | t :: r, g, h => by
    have h1 := nrm_size t g h.1
    have h2 := nrmL_size r g h.2
    simp only [nrmL, nodesL, levelsL]
    omega
end
mutual
theorem val_nrm (ρ : Int → Bool) : ∀ (t : F) (g : Bool), okT t → val ρ (nrm t g) = (val ρ t != g)
  | nd k a l, g, h => by
    rcases single_cases h.1 with ⟨rfl, h1, h2, rfl⟩ | ⟨rfl, rfl, t, rfl⟩ | ⟨hk, rfl, hl⟩ | ⟨hk, rfl, rfl⟩
    · rw [nrm, if_pos rfl]
      cases g <;> simp [val, valH]
    · rw [nrm, if_neg (by decide), if_pos rfl, nrmH, val_nrm ρ t (!g) h.2.1]
      simp only [val, valH]
      cases val ρ t <;> cases g <;> rfl
    · rw [nrm, if_neg (by omega), if_neg (by omega), if_neg (by omega)]
      have := val_nrmL ρ l g h.2
      rcases hk with rfl | rfl <;> cases g <;> simp [val, this]
    · rw [nrm, if_neg (by omega), if_neg (by omega), if_pos (by omega)]
      rcases hk with rfl | rfl <;> cases g <;> simp [cst, val]
theorem val_nrmL (ρ : Int → Bool) : ∀ (l : List F) (g : Bool), okL l → valA ρ (nrmL l g) = (if g then !valO ρ l else valA ρ l) ∧ valO ρ (nrmL l g) = (if g then !valA ρ l else valO ρ l)
  | [], g, _ => by cases g <;> simp [nrmL, valA, valO]
  | t :: r, g, h => by
    have h1 := val_nrm ρ t g h.1
    have h2 := val_nrmL ρ r g h.2
    simp only [nrmL, valA, valO, h1, h2.1, h2.2]
    cases g <;> cases val ρ t <;> simp
end
mutual
def lit : F → Bool | nd k _ l => litL k l
def litL (k : Int) : List F → Bool | [] => true | t :: r => lit t && !(decide (k = 2) && decide (t.k ≠ 1)) && litL k r
end
theorem litL_join {k : Int} (hk : k ≠ 2) {l : List F} (h : ∀ t ∈ l, lit t = true) : litL k l = true := by
  induction l with
  | nil => rfl
  | cons t r ih => rw [litL, h t (List.mem_cons_self ..), decide_eq_false hk, ih fun u hu => h u (List.mem_cons_of_mem _ hu)]; rfl
mutual
theorem nrm_lit : ∀ (t : F) (g : Bool), okT t → lit (nrm t g) = true
  | nd k a l, g, h => by
    rcases single_cases h.1 with ⟨rfl, h1, h2, rfl⟩ | ⟨rfl, rfl, t, rfl⟩ | ⟨hk, rfl, hl⟩ | ⟨hk, rfl, rfl⟩
    · rw [nrm, if_pos rfl]
      cases g <;> simp [lit, litL, F.k]
    · rw [nrm, if_neg (by decide), if_pos rfl, nrmH]
      exact nrm_lit t (!g) h.2.1
    · rw [nrm, if_neg (by omega), if_neg (by omega), if_neg (by omega), lit]
      exact litL_join (by cases g <;> simp <;> omega) (nrmL_lit l g h.2)
    · rw [nrm, if_neg (by omega), if_neg (by omega), if_pos (by omega)]
      simp [cst, lit, litL]
theorem nrmL_lit : ∀ (l : List F) (g : Bool), okL l → ∀ t ∈ nrmL l g, lit t = true
  | [], _, _, t, ht => by cases ht
  | u :: r, g, h, t, ht => by
    rw [nrmL] at ht
    rcases List.mem_cons.1 ht with rfl | ht
    · exact nrm_lit u g h.1
    · exact nrmL_lit r g h.2 t ht
end
mutual
theorem nrm_nrm : ∀ (t : F) (g : Bool), okT t → nrm (nrm t g) false = nrm t g
  | nd k a l, g, h => by
    rcases single_cases h.1 with ⟨rfl, h1, h2, rfl⟩ | ⟨rfl, rfl, t, rfl⟩ | ⟨hk, rfl, hl⟩ | ⟨hk, rfl, rfl⟩
    · cases g <;> simp [nrm, nrmH]
    · rw [nrm, if_neg (by decide), if_pos rfl, nrmH]
      exact nrm_nrm t (!g) h.2.1
    · rw [nrm, if_neg (by omega), if_neg (by omega), if_neg (by omega)]
      have := nrmL_nrmL l g h.2
      rcases hk with rfl | rfl <;> cases g <;> simp [nrm, this]
    · rw [nrm, if_neg (by omega), if_neg (by omega), if_pos (by omega)]
      rcases hk with rfl | rfl <;> cases g <;> simp [cst, nrm]
theorem nrmL_nrmL : ∀ (l : List F) (g : Bool), okL l → nrmL (nrmL l g) false = nrmL l g
  | [], _, _ => rfl
  | t :: r, g, h => by simp only [nrmL, nrm_nrm t g h.1, nrmL_nrmL r g h.2]
end
mutual
def put (x : Int) (b : F) : F → F | nd k a l => if k = 1 ∧ a = x then b else nd k a (putL x b l)
def putL (x : Int) (b : F) : List F → List F | [] => [] | t :: r => put x b t :: putL x b r
end
theorem putL_len (x : Int) (b : F) : ∀ l : List F, (putL x b l).length = l.length
  | [] => rfl
  | t :: r => by rw [putL, List.length_cons, putL_len x b r, List.length_cons]
mutual
theorem put_ok (x : Int) (b : F) (hb : okT b) : ∀ t : F, okT t → okT (put x b t)
  | nd k a l, h => by
    rw [put]
    split
    · exact hb
    · refine ⟨?_, putL_ok x b hb l h.2⟩
      have := h.1
      rw [single] at this ⊢
      simp only [putL_len]
      exact this
theorem putL_ok (x : Int) (b : F) (hb : okT b) : ∀ l : List F, okL l → okL (putL x b l)
  | [], _ => trivial
  | t :: r, h => by rw [putL]; exact ⟨put_ok x b hb t h.1, putL_ok x b hb r h.2⟩
end
mutual
theorem put_size (x : Int) (b : F) : ∀ t : F, nodes (put x b t) ≤ nodes t * nodes b ∧ levels (put x b t) ≤ levels t + levels b
  | nd k a l => by
    have hb := nodes_pos b
    rw [put]
    split
    · simp only [nodes, levels]
      exact ⟨Nat.le_trans (by omega) (Nat.le_mul_of_pos_left (nodes b) (show 0 < 1 + nodesL l by omega)), by omega⟩
    · have := putL_size x b l
      simp only [nodes, levels, Nat.add_mul, Nat.one_mul]
      omega
theorem putL_size (x : Int) (b : F) : ∀ l : List F, nodesL (putL x b l) ≤ nodesL l * nodes b ∧ levelsL (putL x b l) ≤ levelsL l + levels b
  | [] => by simp [putL, nodesL, levelsL]
  | t :: r => by
    have h1 := put_size x b t
    have h2 := putL_size x b r
    simp only [putL, nodesL, levelsL, Nat.add_mul]
    omega
end
/-- A valuation with another value of a variable. -/
def upd (ρ : Int → Bool) (x : Int) (v : Bool) : Int → Bool := fun y => if y = x then v else ρ y
mutual
theorem val_put (ρ : Int → Bool) (x : Int) (b : F) : ∀ t : F, val ρ (put x b t) = val (upd ρ x (val ρ b)) t
  | nd k a l => by
    rw [put]
    split
    · rename_i h
      rw [h.1, h.2, val, if_pos rfl, upd, if_pos rfl]
    · rename_i h
      have hl := val_putL ρ x b l
      simp only [val, hl.1, hl.2.1, hl.2.2]
      split
      · rename_i hk
        rw [upd, if_neg (fun e => h ⟨hk, e⟩)]
      · rfl
theorem val_putL (ρ : Int → Bool) (x : Int) (b : F) : ∀ l : List F, valH ρ (putL x b l) = valH (upd ρ x (val ρ b)) l ∧ valA ρ (putL x b l) = valA (upd ρ x (val ρ b)) l ∧ valO ρ (putL x b l) = valO (upd ρ x (val ρ b)) l
  | [] => ⟨rfl, rfl, rfl⟩
  | t :: r => by
    have h1 := val_put ρ x b t
    have h2 := val_putL ρ x b r
    simp only [putL, valH, valA, valO, h1, h2.2.1, h2.2.2]
    exact ⟨trivial, trivial, trivial⟩
end
mutual
def occ (x : Int) : F → Bool | nd k a l => if k = 1 then decide (a = x) else occL x l
def occL (x : Int) : List F → Bool | [] => false | t :: r => occ x t || occL x r
end
mutual
theorem put_none (x : Int) (b : F) : ∀ t : F, okT t → occ x t = false → put x b t = t
  | nd k a l, ho, h => by
    rw [occ] at h
    rw [put]
    split
    · rename_i hk
      rw [if_pos hk.1] at h
      simp [hk.2] at h
    · split at h
      · rename_i hk
        rcases single_cases ho.1 with ⟨_, _, _, rfl⟩ | ⟨e, _⟩ | ⟨e, _⟩ | ⟨e, _⟩
        · rfl
        · omega
        · omega
        · omega
      · rw [putL_none x b l ho.2 h]
theorem putL_none (x : Int) (b : F) : ∀ l : List F, okL l → occL x l = false → putL x b l = l
  | [], _, _ => rfl
  | t :: r, ho, h => by
    rw [occL, Bool.or_eq_false_iff] at h
    rw [putL, put_none x b t ho.1 h.1, putL_none x b r ho.2 h.2]
end
mutual
theorem occ_put (x : Int) (b : F) (hb : occ x b = false) : ∀ t : F, occ x (put x b t) = false
  | nd k a l => by
    rw [put]
    split
    · exact hb
    · rename_i h
      rw [occ]
      split
      · rename_i hk; exact decide_eq_false (fun e => h ⟨hk, e⟩)
      · exact occL_put x b hb l
theorem occL_put (x : Int) (b : F) (hb : occ x b = false) : ∀ l : List F, occL x (putL x b l) = false
  | [] => rfl
  | t :: r => by rw [putL, occL, occ_put x b hb t, occL_put x b hb r]; rfl
end
/-- The variables that occur. -/
def varsOf (l : List F) : List Int := l.filterMap fun t => if t.k = 1 then some t.a else none
theorem varsOf_app (l r : List F) : varsOf (l ++ r) = varsOf l ++ varsOf r := List.filterMap_append
mutual
theorem occ_mem (x : Int) : ∀ t : F, okT t → (occ x t = true ↔ x ∈ varsOf (pre t))
  | nd k a l, h => by
    rw [occ, pre, show (nd k a l :: preL l) = [nd k a l] ++ preL l from rfl, varsOf_app]
    rcases single_cases h.1 with ⟨rfl, h1, h2, rfl⟩ | ⟨hk, _⟩ | ⟨hk, _⟩ | ⟨hk, _⟩
    · rw [if_pos rfl]; simp [varsOf, preL, F.k, F.a, eq_comm]
    all_goals
      rw [if_neg (by omega), occL_mem x l h.2]
      simp [varsOf, F.k, show ¬ k = 1 by omega]
theorem occL_mem (x : Int) : ∀ l : List F, okL l → (occL x l = true ↔ x ∈ varsOf (preL l))
  | [], _ => by simp [occL, preL, varsOf]
  | t :: r, h => by rw [occL, preL, varsOf_app, Bool.or_eq_true, occ_mem x t h.1, occL_mem x r h.2, List.mem_append]
end
mutual
theorem val_congr {ρ σ : Int → Bool} : ∀ t : F, okT t → (∀ x, occ x t = true → ρ x = σ x) → val ρ t = val σ t
  | nd k a l, ho, h => by
    rcases single_cases ho.1 with ⟨rfl, h1, h2, rfl⟩ | ⟨hk, _⟩ | ⟨hk, _⟩ | ⟨hk, _⟩
    · rw [val, val, if_pos rfl, if_pos rfl]
      exact h a (by rw [occ, if_pos rfl]; exact decide_eq_true rfl)
    all_goals
      have := val_congrL l ho.2 (fun x hx => h x (by rw [occ, if_neg (by omega)]; exact hx))
      simp only [val, this.1, this.2.1, this.2.2, show ¬ k = 1 by omega, if_false]
theorem val_congrL {ρ σ : Int → Bool} : ∀ l : List F, okL l → (∀ x, occL x l = true → ρ x = σ x) → valH ρ l = valH σ l ∧ valA ρ l = valA σ l ∧ valO ρ l = valO σ l
  | [], _, _ => ⟨rfl, rfl, rfl⟩
  | t :: r, ho, h => by
    have h1 := val_congr t ho.1 (fun x hx => h x (by rw [occL, hx]; rfl))
    have h2 := val_congrL r ho.2 (fun x hx => h x (by rw [occL, hx, Bool.or_true]))
    simp only [valH, valA, valO, h1, h2.2.1, h2.2.2]
    exact ⟨trivial, trivial, trivial⟩
end
end Go.Proofs.YtkbellmhanpocaaDoor
