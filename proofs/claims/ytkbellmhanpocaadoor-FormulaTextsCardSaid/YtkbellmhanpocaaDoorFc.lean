/- The simplified form of trees, in plain Lean. -/
import Derived.Test.YtkbellmhanpocaaDoorFb
namespace Go.Proofs.YtkbellmhanpocaaDoor
set_option linter.unusedVariables false
set_option linter.unusedSimpArgs false
open F

mutual
def eqF : F → F → Bool | nd k a l, nd k' a' l' => decide (k = k') && decide (a = a') && eqL l l'
def eqL : List F → List F → Bool | [], [] => true | t :: r, u :: s => eqF t u && eqL r s | [], _ :: _ => false | _ :: _, [] => false
end
mutual
theorem eqF_iff : ∀ t u : F, eqF t u = true ↔ t = u
  | nd k a l, nd k' a' l' => by
    rw [eqF, Bool.and_eq_true, Bool.and_eq_true, decide_eq_true_eq, decide_eq_true_eq, eqL_iff l l']
    constructor
    · rintro ⟨⟨rfl, rfl⟩, rfl⟩; rfl
    · intro h; injection h with h1 h2 h3; exact ⟨⟨h1, h2⟩, h3⟩
theorem eqL_iff : ∀ t u : List F, eqL t u = true ↔ t = u
  | [], [] => by rw [eqL]; simp
  | t :: r, u :: s => by rw [eqL, Bool.and_eq_true, eqF_iff t u, eqL_iff r s, List.cons.injEq]
  | [], _ :: _ => by rw [eqL]; simp
  | _ :: _, [] => by rw [eqL]; simp
end
instance : DecidableEq F := fun t u => decidable_of_iff _ (eqF_iff t u)
theorem eqF_dec (t u : F) : eqF t u = decide (t = u) := by
  cases h : eqF t u
  · exact (decide_eq_false (fun e => by rw [(eqF_iff t u).2 e] at h; cases h)).symm
  · exact (decide_eq_true ((eqF_iff t u).1 h)).symm
def headF : List F → F | [] => nd 0 0 [] | t :: _ => t
/-- The constant that decides a join, and the one that is left out. -/
def strong (k : Int) : Int := if k = 4 then 6 else 5
def weak (k : Int) : Int := if k = 4 then 5 else 6
def bad (k : Int) (l : List F) (g : F) : Bool := decide (g.k = strong k) || (decide (g.k = 2) && decide (headF g.l ∈ l))
def dd (k : Int) : List F → List F → List F
  | acc, [] => acc
  | acc, g :: r => if g.k = weak k ∨ g ∈ acc then dd k acc r else dd k (acc ++ [g]) r
def pickF (k : Int) : List F → F
  | [] => nd (weak k) 0 []
  | [t] => t
  | t :: u :: r => nd k 0 (t :: u :: r)
def joinF (k : Int) (l : List F) : F := if l.any (bad k l) then nd (strong k) 0 [] else pickF k (dd k [] l)
def negF (g : F) : F := if g.k = 2 then headF g.l else if g.k = 5 ∨ g.k = 6 then cst (decide (g.k = 5)) else nd 2 0 [g]
mutual
def smp : F → F | nd k a l => if k = 2 then negF (smpH l) else if k = 3 ∨ k = 4 then joinF k (smpL k l) else nd k a []
def smpH : List F → F | [] => nd 0 0 [] | t :: _ => smp t
def smpL (k : Int) : List F → List F | [] => [] | t :: r => (if (smp t).k = k then (smp t).l else [smp t]) ++ smpL k r
end
theorem smpL_app (k : Int) : ∀ l r : List F, smpL k (l ++ r) = smpL k l ++ smpL k r
  | [], r => rfl
  | t :: l, r => by rw [List.cons_append, smpL, smpL, smpL_app k l r, List.append_assoc]
/-- The simplified form. -/
def nfJ (k : Int) (l : List F) : Prop := 2 ≤ l.length ∧ l.Nodup ∧ ∀ t ∈ l, t.k ≠ k ∧ t.k ≠ 5 ∧ t.k ≠ 6 ∧ (t.k = 2 → headF t.l ∉ l)
mutual
def nf : F → Prop
  | nd k a l => (k = 2 → ∃ g, l = [g] ∧ g.k ≠ 2 ∧ g.k ≠ 5 ∧ g.k ≠ 6) ∧ (k = 3 ∨ k = 4 → nfJ k l) ∧ nfL l
def nfL : List F → Prop | [] => True | t :: r => nf t ∧ nfL r
end
theorem nfL_mem {l : List F} (h : nfL l) : ∀ t ∈ l, nf t := by
  induction l with
  | nil => intro t ht; cases ht
  | cons u r ih =>
    intro t ht
    rw [nfL] at h
    rcases List.mem_cons.1 ht with rfl | ht
    · exact h.1
    · exact ih h.2 t ht
theorem nfL_of {l : List F} (h : ∀ t ∈ l, nf t) : nfL l := by
  induction l with
  | nil => trivial
  | cons t r ih => rw [nfL]; exact ⟨h t (List.mem_cons_self ..), ih fun u hu => h u (List.mem_cons_of_mem _ hu)⟩
theorem strong_in (k : Int) : (strong k = 5 ∨ strong k = 6) ∧ (weak k = 5 ∨ weak k = 6) ∧ strong k ≠ weak k := by
  unfold strong weak; split <;> omega
theorem dd_spec (k : Int) : ∀ (l acc : List F), acc.Nodup → (∀ t ∈ acc, t.k ≠ weak k) → (dd k acc l).Nodup ∧ (∀ t, t ∈ dd k acc l ↔ t ∈ acc ∨ (t ∈ l ∧ t.k ≠ weak k))
  | [], acc, h1, h2 => by rw [dd]; exact ⟨h1, fun t => by simp⟩
  | g :: r, acc, h1, h2 => by
    rw [dd]
    split
    · rename_i hg
      obtain ⟨i1, i2⟩ := dd_spec k r acc h1 h2
      refine ⟨i1, fun t => ?_⟩
      rw [i2, List.mem_cons]
      constructor
      · rintro (h | h)
        · exact .inl h
        · exact .inr ⟨.inr h.1, h.2⟩
      · rintro (h | ⟨rfl | h, hw⟩)
        · exact .inl h
        · rcases hg with hg | hg
          · exact absurd hg hw
          · exact .inl hg
        · exact .inr ⟨h, hw⟩
    · rename_i hg
      have hn : g ∉ acc := fun h => hg (.inr h)
      have hw : g.k ≠ weak k := fun h => hg (.inl h)
      obtain ⟨i1, i2⟩ := dd_spec k r (acc ++ [g]) (by
        rw [List.nodup_append]
        exact ⟨h1, List.nodup_cons.2 ⟨by simp, List.nodup_nil⟩, fun a ha b hb e => by
          rw [List.mem_singleton.1 hb] at e
          exact hn (e ▸ ha)⟩) (fun t ht => by
        rcases List.mem_append.1 ht with ht | ht
        · exact h2 t ht
        · rw [List.mem_singleton.1 ht]; exact hw)
      refine ⟨i1, fun t => ?_⟩
      rw [i2, List.mem_append, List.mem_singleton, List.mem_cons]
      constructor
      · rintro ((h | rfl) | h)
        · exact .inl h
        · exact .inr ⟨.inl rfl, hw⟩
        · exact .inr ⟨.inr h.1, h.2⟩
      · rintro (h | ⟨rfl | h, hw⟩)
        · exact .inl (.inl h)
        · exact .inl (.inr rfl)
        · exact .inr ⟨h, hw⟩
theorem dd_mem (k : Int) (l : List F) (t : F) : t ∈ dd k [] l ↔ t ∈ l ∧ t.k ≠ weak k := by
  have := (dd_spec k l [] List.nodup_nil (fun t h => by cases h)).2 t
  simpa using this
theorem dd_nodup (k : Int) (l : List F) : (dd k [] l).Nodup := (dd_spec k l [] List.nodup_nil (fun t h => by cases h)).1
theorem dd_id (k : Int) : ∀ (l acc : List F), (∀ t ∈ l, t.k ≠ weak k) → (acc ++ l).Nodup → dd k acc l = acc ++ l
  | [], acc, _, _ => by rw [dd, List.append_nil]
  | g :: r, acc, h1, h2 => by
    have hn : g ∉ acc := fun h => by
      rw [List.nodup_append] at h2
      exact h2.2.2 g h g (List.mem_cons_self ..) rfl
    rw [dd, if_neg (by
      rintro (h | h)
      · exact h1 g (List.mem_cons_self ..) h
      · exact hn h), dd_id k r (acc ++ [g]) (fun t ht => h1 t (List.mem_cons_of_mem _ ht)) (by rw [List.append_assoc]; exact h2), List.append_assoc]
    rfl
/-- What a join's list holds. -/
def flatOk (k : Int) (l : List F) : Prop := ∀ t ∈ l, nf t ∧ t.k ≠ k
theorem pickF_nf {k : Int} (hk : k = 3 ∨ k = 4) {l : List F} (h1 : l.Nodup) (h2 : ∀ t ∈ l, nf t ∧ t.k ≠ k ∧ t.k ≠ 5 ∧ t.k ≠ 6 ∧ (t.k = 2 → headF t.l ∉ l)) : nf (pickF k l) := by
  match l, h1, h2 with
  | [], _, _ => rw [pickF, nf]; exact ⟨fun h => by have := (strong_in k).2.1; omega, fun h => by have := (strong_in k).2.1; omega, trivial⟩
  | [t], _, h2 => rw [pickF]; exact (h2 t (List.mem_cons_self ..)).1
  | t :: u :: r, h1, h2 =>
    rw [pickF, nf]
    exact ⟨fun h => by omega, fun _ => ⟨by simp, h1, fun x hx => (h2 x hx).2⟩, nfL_of fun x hx => (h2 x hx).1⟩
theorem joinF_nf {k : Int} (hk : k = 3 ∨ k = 4) {l : List F} (h : flatOk k l) : nf (joinF k l) := by
  unfold joinF
  split
  · rw [nf]; exact ⟨fun h => by have := (strong_in k).1; omega, fun h => by have := (strong_in k).1; omega, trivial⟩
  · rename_i hb
    have hb' : ∀ t ∈ l, t.k ≠ strong k ∧ (t.k = 2 → headF t.l ∉ l) := fun t ht => by
      have : bad k l t ≠ true := fun e => hb (List.any_eq_true.2 ⟨t, ht, e⟩)
      unfold bad at this
      simp only [ne_eq, Bool.or_eq_true, Bool.and_eq_true, decide_eq_true_eq, not_or, not_and] at this
      exact ⟨this.1, this.2⟩
    refine pickF_nf hk (dd_nodup k l) fun t ht => ?_
    obtain ⟨m, hw⟩ := (dd_mem k l t).1 ht
    have hs := hb' t m
    have hf := h t m
    have := strong_in k
    refine ⟨hf.1, hf.2, by omega, by omega, fun h2 hm => hs.2 h2 ((dd_mem k l _).1 hm).1⟩
theorem negF_nf {g : F} (h : nf g) : nf (negF g) := by
  unfold negF
  split
  · rename_i hk
    cases g with
    | nd k a l =>
      obtain ⟨u, rfl, _⟩ := h.1 hk
      exact h.2.2.1
  · split
    · rename_i h2 h56
      unfold cst
      rw [nf]
      exact ⟨fun h => by split at h <;> omega, fun h => by split at h <;> omega, trivial⟩
    · rename_i h2 h56
      rw [nf]
      exact ⟨fun _ => ⟨g, rfl, h2, fun e => h56 (.inl e), fun e => h56 (.inr e)⟩, fun h => by omega, h, trivial⟩
mutual
theorem smp_nf : ∀ t : F, nf (smp t)
  | nd k a l => by
    rw [smp]
    split
    · exact negF_nf (smpH_nf l)
    · split
      · rename_i hk; exact joinF_nf hk (smpL_nf k hk l)
      · rw [nf]; exact ⟨fun h => by omega, fun h => by omega, trivial⟩
theorem smpH_nf : ∀ l : List F, nf (smpH l)
  | [] => by rw [smpH, nf]; exact ⟨fun h => by omega, fun h => by omega, trivial⟩
  | t :: _ => smp_nf t
theorem smpL_nf (k : Int) (hk : k = 3 ∨ k = 4) : ∀ l : List F, flatOk k (smpL k l)
  | [] => fun t h => by cases h
  | t :: r => fun u hu => by
    have ht := smp_nf t
    rw [smpL] at hu
    replace hu := List.mem_append.1 hu
    rcases hu with hu | hu
    · revert ht hu
      cases smp t with
      | nd k' a' l' =>
        intro ht hu
        split at hu
        · rename_i e
          have e' : k' = k := e
          subst e'
          exact ⟨nfL_mem ht.2.2 u hu, ((ht.2.1 hk).2.2 u hu).1⟩
        · rename_i e
          rw [List.mem_singleton.1 hu]
          exact ⟨ht, e⟩
    · exact smpL_nf k hk r u hu
end
/-- A simplified form is its own. -/
theorem joinF_id {k : Int} {l : List F} (h : nfJ k l) : joinF k l = nd k 0 l := by
  unfold joinF
  have hs := strong_in k
  rw [if_neg, dd_id k l [] (fun t ht => by have := h.2.2 t ht; omega) (by rw [List.nil_append]; exact h.2.1), List.nil_append]
  · match l, h with
    | [], h => exact absurd h.1 (by simp)
    | [_], h => exact absurd h.1 (by simp)
    | _ :: _ :: _, _ => rfl
  · intro hb
    obtain ⟨t, ht, hbt⟩ := List.any_eq_true.1 hb
    have := h.2.2 t ht
    unfold bad at hbt
    simp only [Bool.or_eq_true, Bool.and_eq_true, decide_eq_true_eq] at hbt
    rcases hbt with hbt | hbt
    · omega
    · exact this.2.2.2 hbt.1 hbt.2
mutual
theorem smp_id : ∀ t : F, okT t → nf t → smp t = t
  | nd k a l, ho, h => by
    rw [smp]
    rcases single_cases ho.1 with ⟨rfl, h1, h2, rfl⟩ | ⟨rfl, rfl, t, rfl⟩ | ⟨hk, rfl, hl⟩ | ⟨hk, rfl, rfl⟩
    · rfl
    · obtain ⟨g, hg, h2, h5, h6⟩ := h.1 rfl
      injection hg with hg; subst hg
      rw [if_pos rfl, smpH, smp_id t ho.2.1 h.2.2.1, negF, if_neg h2, if_neg (by omega)]
    · rw [if_neg (by omega), if_pos hk, smpL_id k l ho.2 h.2.2 (fun t ht => ((h.2.1 hk).2.2 t ht).1), joinF_id (h.2.1 hk)]
    · rw [if_neg (by omega), if_neg (by omega)]
theorem smpL_id (k : Int) : ∀ l : List F, okL l → nfL l → (∀ t ∈ l, t.k ≠ k) → smpL k l = l
  | [], _, _, _ => rfl
  | t :: r, ho, h, hk => by
    rw [smpL, smp_id t ho.1 h.1, smpL_id k r ho.2 h.2 (fun u hu => hk u (List.mem_cons_of_mem _ hu)), if_neg (hk t (List.mem_cons_self ..))]
    rfl
end
/-- The sizes of a simplified form. -/
theorem dd_size (k : Int) : ∀ (l acc : List F), nodesL (dd k acc l) ≤ nodesL acc + nodesL l ∧ levelsL (dd k acc l) ≤ max (levelsL acc) (levelsL l)
  | [], acc => by rw [dd, nodesL, levelsL]; omega
  | g :: r, acc => by
    rw [dd, nodesL, levelsL]
    split
    · have := dd_size k r acc; omega
    · have := dd_size k r (acc ++ [g])
      rw [nodesL_app, levelsL_app, nodesL, levelsL, nodesL, levelsL] at this
      omega
theorem pickF_size (k : Int) : ∀ l : List F, nodes (pickF k l) ≤ 1 + nodesL l ∧ levels (pickF k l) ≤ 1 + levelsL l
  | [] => by simp [pickF, nodes, nodesL, levels, levelsL]
  | [t] => by simp [pickF, nodesL, levelsL]
  | t :: u :: r => by rw [pickF, nodes, levels]; omega
theorem joinF_size (k : Int) (l : List F) : nodes (joinF k l) ≤ 1 + nodesL l ∧ levels (joinF k l) ≤ 1 + levelsL l := by
  unfold joinF
  split
  · simp [nodes, nodesL, levels, levelsL]
  · have h1 := dd_size k l []
    have h2 := pickF_size k (dd k [] l)
    rw [nodesL, levelsL] at h1
    omega
theorem negF_size (g : F) : nodes (negF g) ≤ 1 + nodes g ∧ levels (negF g) ≤ 1 + levels g := by
  unfold negF
  split
  · cases g with
    | nd k a l =>
      cases l with
      | nil => simp [F.l, headF, nodes, nodesL, levels, levelsL]
      | cons t r => simp [F.l, headF, nodes, nodesL, levels, levelsL]; omega
  · split
    · simp [cst, nodes, nodesL, levels, levelsL]
    · simp [nodes, nodesL, levels, levelsL]
mutual
theorem smp_size : ∀ t : F, okT t → nodes (smp t) ≤ nodes t ∧ levels (smp t) ≤ levels t
  | nd k a l, h => by
    rw [smp, nodes, levels]
    rcases single_cases h.1 with ⟨rfl, h1, h2, rfl⟩ | ⟨rfl, rfl, t, rfl⟩ | ⟨hk, rfl, hl⟩ | ⟨hk, rfl, rfl⟩
    · rw [if_neg (by decide), if_neg (by decide), nodes, levels, nodesL, levelsL]; omega
    · have h1 := negF_size (smp t)
      have h2 := smp_size t h.2.1
      rw [if_pos rfl, smpH, nodesL, levelsL, nodesL, levelsL]
      omega
    · have h1 := joinF_size k (smpL k l)
      have h2 := smpL_size k l h.2
      rw [if_neg (by omega), if_pos hk]
      omega
    · rw [if_neg (by omega), if_neg (by omega), nodes, levels, nodesL, levelsL]; omega
theorem smpL_size (k : Int) : ∀ l : List F, okL l → nodesL (smpL k l) ≤ nodesL l ∧ levelsL (smpL k l) ≤ levelsL l
  | [], _ => by rw [smpL]; omega
  | t :: r, h => by
    have h1 := smp_size t h.1
    have h2 := smpL_size k r h.2
    rw [smpL, nodesL_app, levelsL_app, nodesL, levelsL]
    split
    · cases hs : smp t with
      | nd k' a' l' =>
        rw [hs, nodes, levels] at h1
        simp only [F.l]
        omega
    · rw [nodesL, levelsL, nodesL, levelsL]; omega
end
/-- A simplified form is right. -/
theorem joinF_ok {k : Int} (hk : k = 3 ∨ k = 4) {l : List F} (h : ∀ t ∈ l, okT t) (hl : l.length ≤ 10000) : okT (joinF k l) := by
  have hs := strong_in k
  unfold joinF
  split
  · rcases hs.1 with e | e <;> rw [e] <;> exact ⟨rfl, trivial⟩
  · have hm : ∀ t ∈ dd k [] l, okT t := fun t ht => h t ((dd_mem k l t).1 ht).1
    have hlen : (dd k [] l).length ≤ 10000 := by
      have : ∀ (l acc : List F), (dd k acc l).length ≤ acc.length + l.length := by
        intro l
        induction l with
        | nil => intro acc; rw [dd]; simp
        | cons g r ih =>
          intro acc
          rw [dd]
          split
          · have := ih acc; simp; omega
          · have := ih (acc ++ [g]); simp at this ⊢; omega
      have := this l []
      simp at this
      omega
    revert hm hlen
    generalize dd k [] l = L
    intro hm hlen
    match L, hm, hlen with
    | [], _, _ => rw [pickF]; rcases hs.2.1 with e | e <;> rw [e] <;> exact ⟨rfl, trivial⟩
    | [t], hm, _ => exact hm t (List.mem_cons_self ..)
    | t :: u :: r, hm, hlen => exact ⟨single_join hk hlen, okL_of hm⟩
theorem negF_ok {g : F} (h : okT g) : okT (negF g) := by
  unfold negF
  split
  · rename_i hk
    cases g with
    | nd k a l =>
      rcases single_cases h.1 with ⟨e, _⟩ | ⟨_, _, t, rfl⟩ | ⟨e, _⟩ | ⟨e, _⟩
      · have : k = 2 := hk; omega
      · exact h.2.1
      · have : k = 2 := hk; omega
      · have : k = 2 := hk; omega
  · split
    · exact okT_cst _
    · exact ⟨single_not _, h, trivial⟩
mutual
theorem smp_ok : ∀ t : F, okT t → nodes t ≤ 10000 → okT (smp t)
  | nd k a l, h, hn => by
    rw [nodes] at hn
    rw [smp]
    rcases single_cases h.1 with ⟨rfl, h1, h2, rfl⟩ | ⟨rfl, rfl, t, rfl⟩ | ⟨hk, rfl, hl⟩ | ⟨hk, rfl, rfl⟩
    · exact h
    · rw [nodesL] at hn
      exact negF_ok (smp_ok t h.2.1 (by omega))
    · rw [if_neg (by omega), if_pos hk]
      have := length_nodesL (smpL k l)
      have := smpL_size k l h.2
      exact joinF_ok hk (smpL_ok k l h.2 (by omega)) (by omega)
    · rw [if_neg (by omega), if_neg (by omega)]; exact h
theorem smpL_ok (k : Int) : ∀ l : List F, okL l → nodesL l ≤ 10000 → ∀ t ∈ smpL k l, okT t
  | [], _, _, t, ht => by cases ht
  | u :: r, h, hn, t, ht => by
    rw [nodesL] at hn
    have hu := smp_ok u h.1 (by omega)
    rw [smpL] at ht
    rcases List.mem_append.1 ht with ht | ht
    · split at ht
      · exact okL_mem (okT_l hu) ht
      · rw [List.mem_singleton.1 ht]; exact hu
    · exact smpL_ok k r h.2 (by omega) t ht
end
/-- Values of a simplified form. -/
theorem valA_iff (ρ : Int → Bool) (l : List F) : valA ρ l = true ↔ ∀ t ∈ l, val ρ t = true := by
  induction l with
  | nil => simp [valA]
  | cons t r ih => rw [valA, Bool.and_eq_true, ih]; simp
theorem valO_iff (ρ : Int → Bool) (l : List F) : valO ρ l = true ↔ ∃ t ∈ l, val ρ t = true := by
  induction l with
  | nil => simp [valO]
  | cons t r ih => rw [valO, Bool.or_eq_true, ih]; simp
theorem valA_app (ρ : Int → Bool) : ∀ l r : List F, valA ρ (l ++ r) = (valA ρ l && valA ρ r)
  | [], r => rfl
  | t :: l, r => by rw [List.cons_append, valA, valA, valA_app ρ l r, Bool.and_assoc]
theorem valO_app (ρ : Int → Bool) : ∀ l r : List F, valO ρ (l ++ r) = (valO ρ l || valO ρ r)
  | [], r => rfl
  | t :: l, r => by rw [List.cons_append, valO, valO, valO_app ρ l r, Bool.or_assoc]
theorem val_kind {ρ : Int → Bool} {t : F} (h : okT t) : (t.k = 5 → val ρ t = false) ∧ (t.k = 6 → val ρ t = true) ∧ (t.k = 2 → val ρ t = !val ρ (headF t.l)) ∧ (t.k = 3 → val ρ t = valA ρ t.l) ∧ (t.k = 4 → val ρ t = valO ρ t.l) := by
  cases t with
  | nd k a l =>
    refine ⟨?_, ?_, ?_, ?_, ?_⟩
    · intro e; have e : k = 5 := e; subst e; rw [val, if_neg (by decide), if_neg (by decide), if_neg (by decide), if_neg (by decide)]; rfl
    · intro e; have e : k = 6 := e; subst e; rw [val, if_neg (by decide), if_neg (by decide), if_neg (by decide), if_neg (by decide)]; rfl
    · intro e
      have e : k = 2 := e
      subst e
      rcases single_cases h.1 with ⟨e, _⟩ | ⟨_, _, t, rfl⟩ | ⟨e, _⟩ | ⟨e, _⟩
      · omega
      · rw [val, if_neg (by decide), if_pos rfl]; rfl
      · omega
      · omega
    · intro e; have e : k = 3 := e; subst e; rw [val, if_neg (by decide), if_neg (by decide), if_pos rfl]; rfl
    · intro e; have e : k = 4 := e; subst e; rw [val, if_neg (by decide), if_neg (by decide), if_neg (by decide), if_pos rfl]; rfl
theorem joinF_valA (ρ : Int → Bool) {l : List F} (h : ∀ t ∈ l, okT t) : val ρ (joinF 3 l) = valA ρ l := by
  have hv : ∀ t ∈ l, _ := fun t ht => val_kind (ρ := ρ) (h t ht)
  unfold joinF
  split
  · rename_i hb
    obtain ⟨t, ht, hbt⟩ := List.any_eq_true.1 hb
    have hf : valA ρ l = false := by
      refine Bool.eq_false_iff.2 fun e => ?_
      have ha := (valA_iff ρ l).1 e
      unfold bad at hbt
      simp only [Bool.or_eq_true, Bool.and_eq_true, decide_eq_true_eq] at hbt
      rcases hbt with hbt | ⟨h2, hm⟩
      · have := (hv t ht).1 hbt
        rw [ha t ht] at this
        cases this
      · have := (hv t ht).2.2.1 h2
        rw [ha t ht, ha _ hm] at this
        cases this
    rw [hf]
    rfl
  · have hL : valA ρ (dd 3 [] l) = valA ρ l := by
      rw [Bool.eq_iff_iff, valA_iff, valA_iff]
      constructor
      · intro hh t ht
        by_cases hw : t.k = weak 3
        · exact (hv t ht).2.1 hw
        · exact hh t ((dd_mem 3 l t).2 ⟨ht, hw⟩)
      · intro hh t ht
        exact hh t ((dd_mem 3 l t).1 ht).1
    rw [← hL]
    match dd 3 [] l with
    | [] => rfl
    | [t] => rw [pickF, valA, valA, Bool.and_true]
    | t :: u :: r => rw [pickF, val, if_neg (by decide), if_neg (by decide), if_pos rfl]
theorem joinF_valO (ρ : Int → Bool) {l : List F} (h : ∀ t ∈ l, okT t) : val ρ (joinF 4 l) = valO ρ l := by
  have hv : ∀ t ∈ l, _ := fun t ht => val_kind (ρ := ρ) (h t ht)
  unfold joinF
  split
  · rename_i hb
    obtain ⟨t, ht, hbt⟩ := List.any_eq_true.1 hb
    have hf : valO ρ l = true := by
      unfold bad at hbt
      simp only [Bool.or_eq_true, Bool.and_eq_true, decide_eq_true_eq] at hbt
      rw [valO_iff]
      rcases hbt with hbt | ⟨h2, hm⟩
      · exact ⟨t, ht, (hv t ht).2.1 hbt⟩
      · have := (hv t ht).2.2.1 h2
        cases e : val ρ (headF t.l) with
        | true => exact ⟨_, hm, e⟩
        | false => rw [e] at this; exact ⟨t, ht, this⟩
    rw [hf]
    rfl
  · have hL : valO ρ (dd 4 [] l) = valO ρ l := by
      rw [Bool.eq_iff_iff, valO_iff, valO_iff]
      constructor
      · rintro ⟨t, ht, e⟩
        exact ⟨t, ((dd_mem 4 l t).1 ht).1, e⟩
      · rintro ⟨t, ht, e⟩
        by_cases hw : t.k = weak 4
        · rw [(hv t ht).1 hw] at e; cases e
        · exact ⟨t, (dd_mem 4 l t).2 ⟨ht, hw⟩, e⟩
    rw [← hL]
    match dd 4 [] l with
    | [] => rfl
    | [t] => rw [pickF, valO, valO, Bool.or_false]
    | t :: u :: r => rw [pickF, val, if_neg (by decide), if_neg (by decide), if_neg (by decide), if_pos rfl]
theorem negF_val (ρ : Int → Bool) {g : F} (h : okT g) : val ρ (negF g) = !val ρ g := by
  have hv := val_kind (ρ := ρ) h
  unfold negF
  split
  · rename_i hk; rw [hv.2.2.1 hk, Bool.not_not]
  · split
    · rename_i hk
      rcases hk with hk | hk
      · rw [hv.1 hk, hk]; rfl
      · rw [hv.2.1 hk, hk]; rfl
    · rw [val, if_neg (by decide), if_pos rfl]; rfl
mutual
theorem smp_val (ρ : Int → Bool) : ∀ t : F, okT t → nodes t ≤ 10000 → val ρ (smp t) = val ρ t
  | nd k a l, h, hn => by
    rw [nodes] at hn
    rw [smp]
    rcases single_cases h.1 with ⟨rfl, h1, h2, rfl⟩ | ⟨rfl, rfl, t, rfl⟩ | ⟨hk, rfl, hl⟩ | ⟨hk, rfl, rfl⟩
    · rfl
    · rw [nodesL] at hn
      rw [if_pos rfl, smpH, negF_val ρ (smp_ok t h.2.1 (by omega)), smp_val ρ t h.2.1 (by omega), val, if_neg (by decide), if_pos rfl]
      rfl
    · have hs := smpL_ok k l h.2 (by omega)
      have hv := smpL_val ρ l h.2 (by omega)
      rw [if_neg (by omega), if_pos hk]
      rcases hk with rfl | rfl
      · rw [joinF_valA ρ hs, hv.1, val, if_neg (by decide), if_neg (by decide), if_pos rfl]
      · rw [joinF_valO ρ hs, hv.2, val, if_neg (by decide), if_neg (by decide), if_neg (by decide), if_pos rfl]
    · rw [if_neg (by omega), if_neg (by omega)]
theorem smpL_val (ρ : Int → Bool) : ∀ l : List F, okL l → nodesL l ≤ 10000 → valA ρ (smpL 3 l) = valA ρ l ∧ valO ρ (smpL 4 l) = valO ρ l
  | [], _, _ => ⟨rfl, rfl⟩
  | t :: r, h, hn => by
    rw [nodesL] at hn
    have h1 := smp_val ρ t h.1 (by omega)
    have h2 := smpL_val ρ r h.2 (by omega)
    have hv := val_kind (ρ := ρ) (smp_ok t h.1 (by omega))
    rw [smpL, smpL, valA_app, valO_app, valA, valO, h2.1, h2.2, ← h1]
    constructor
    · split
      · rename_i hk; rw [hv.2.2.2.1 hk]
      · rw [valA, valA, Bool.and_true]
    · split
      · rename_i hk; rw [hv.2.2.2.2 hk]
      · rw [valO, valO, Bool.or_false]
end
mutual
def hasC : F → Bool | nd k a l => hasCL l || decide (k = 6) || decide (k = 5)
def hasCL : List F → Bool | [] => false | t :: r => hasC t || hasCL r
end
mutual
theorem nf_noC : ∀ t : F, okT t → nf t → t.k ≠ 5 → t.k ≠ 6 → hasC t = false
  | nd k a l, ho, h, h5, h6 => by
    have h5 : k ≠ 5 := h5
    have h6 : k ≠ 6 := h6
    rw [hasC, decide_eq_false h5, decide_eq_false h6, Bool.or_false, Bool.or_false]
    rcases single_cases ho.1 with ⟨rfl, h1, h2, rfl⟩ | ⟨rfl, rfl, t, rfl⟩ | ⟨hk, rfl, hl⟩ | ⟨hk, rfl, rfl⟩
    · rfl
    · obtain ⟨g, hg, _, g5, g6⟩ := h.1 rfl
      injection hg with hg; subst hg
      exact nf_noCL [t] ho.2 h.2.2 (fun u hu => by rw [List.mem_singleton.1 hu]; exact ⟨g5, g6⟩)
    · exact nf_noCL l ho.2 h.2.2 (fun u hu => by have := (h.2.1 hk).2.2 u hu; exact ⟨this.2.1, this.2.2.1⟩)
    · rfl
theorem nf_noCL : ∀ l : List F, okL l → nfL l → (∀ t ∈ l, t.k ≠ 5 ∧ t.k ≠ 6) → hasCL l = false
  | [], _, _, _ => rfl
  | t :: r, ho, h, hk => by
    have := hk t (List.mem_cons_self ..)
    rw [hasCL, nf_noC t ho.1 h.1 this.1 this.2, nf_noCL r ho.2 h.2 (fun u hu => hk u (List.mem_cons_of_mem _ hu))]
    rfl
end
theorem nf_const {t : F} (ho : okT t) (h : nf t) : t.l.length = 0 ∨ hasC t = false := by
  by_cases hk : t.k = 5 ∨ t.k = 6
  · left
    cases t with
    | nd k a l =>
      have hk : k = 5 ∨ k = 6 := hk
      rcases single_cases ho.1 with ⟨e, _⟩ | ⟨e, _⟩ | ⟨e, _⟩ | ⟨_, _, rfl⟩
      · omega
      · omega
      · omega
      · rfl
  · right
    exact nf_noC t ho h (fun e => hk (.inl e)) (fun e => hk (.inr e))
end Go.Proofs.YtkbellmhanpocaaDoor
