/- How many functions arise from a gate of a network by values of the first variables. How many functions arise from gates of networks by values of the first variables. Functions of outputs of two networks; how many nodes their diagrams have. -/
import Derived.Test.YtlnedapimmabdaaGreatDoorY1
import Derived.Test.YtlnedapimmabdaaGreatDoorNA
namespace Go.Proofs.YtlnedapimmabdaaGreatDoor
set_option linter.unusedVariables false
set_option linter.unusedSimpArgs false

theorem atMost_imp {P Q : ((Nat → Bool) → Bool) → Prop} {c : Nat} (h : ∀ f, Q f → P f) (hA : AtMost P c) : AtMost Q c := by
  obtain ⟨code, h1, h2⟩ := hA
  exact ⟨code, fun f hf => h1 f (h f hf), fun f g hf hg => h2 f g (h f hf) (h g hg)⟩
theorem atMost_mono {P : ((Nat → Bool) → Bool) → Prop} {c d : Nat} (hA : AtMost P c) (h : c ≤ d) : AtMost P d := by
  obtain ⟨code, h1, h2⟩ := hA
  exact ⟨code, fun f hf => Nat.lt_of_lt_of_le (h1 f hf) h, h2⟩
theorem atMost_or {P Q : ((Nat → Bool) → Bool) → Prop} {c d : Nat} (hP : AtMost P c) (hQ : AtMost Q d) : AtMost (fun f => P f ∨ Q f) (c + d) := by
  obtain ⟨k1, h1, h2⟩ := hP
  obtain ⟨k2, h3, h4⟩ := hQ
  classical
  refine ⟨fun f => if P f then k1 f else c + k2 f, fun f hf => ?_, fun f g hf hg e => ?_⟩
  · dsimp only
    by_cases h : P f
    · rw [if_pos h]; have := h1 f h; omega
    · rw [if_neg h]; have := h3 f (hf.resolve_left h); omega
  · dsimp only at e
    by_cases h : P f <;> by_cases h' : P g
    · rw [if_pos h, if_pos h'] at e; exact h2 f g h h' e
    · rw [if_pos h, if_neg h'] at e; have := h1 f h; omega
    · rw [if_neg h, if_pos h'] at e; have := h1 g h'; omega
    · rw [if_neg h, if_neg h'] at e; exact h4 f g (hf.resolve_left h) (hg.resolve_left h') (by omega)
theorem atMost_code {α : Type} {P : ((Nat → Bool) → Bool) → Prop} {c : Nat} (F : α → (Nat → Bool) → Bool) (k : α → Nat) (h : ∀ f, P f → ∃ a, f = F a) (hk : ∀ a, k a < c) (he : ∀ a b, k a = k b → F a = F b) : AtMost P c := by
  classical
  refine ⟨fun f => if hf : P f then k (Classical.choose (h f hf)) else 0, fun f hf => ?_, fun f g hf hg e => ?_⟩
  · dsimp only
    rw [dif_pos hf]
    exact hk _
  · dsimp only at e
    rw [dif_pos hf, dif_pos hg] at e
    rw [Classical.choose_spec (h f hf), Classical.choose_spec (h g hg)]
    exact he _ _ e
def sumL (m : Nat → Nat) : Nat → Nat
  | 0 => 0
  | n + 1 => sumL m n + m n
theorem atMost_levels {P : Nat → ((Nat → Bool) → Bool) → Prop} {m : Nat → Nat} : ∀ (n : Nat), (∀ i, i < n → AtMost (P i) (m i)) → AtMost (fun f => ∃ i, i < n ∧ P i f) (sumL m n)
  | 0, _ => ⟨fun _ => 0, fun f h => by obtain ⟨i, hi, _⟩ := h; omega, fun f g h => by obtain ⟨i, hi, _⟩ := h; omega⟩
  | n + 1, h => by
    refine atMost_imp (fun f hf => ?_) (atMost_or (atMost_levels n fun i hi => h i (by omega)) (h n (Nat.lt_succ_self n)))
    obtain ⟨i, hi, hp⟩ := hf
    rcases Nat.lt_or_ge i n with h1 | h1
    · exact .inl ⟨i, h1, hp⟩
    · have : i = n := by omega
      subst this
      exact .inr hp
theorem ofB_eq {f g : Nat → Bool} {n : Nat} (e : ofB f n = ofB g n) {j : Nat} (hj : j < n) : f j = g j := by
  have h1 := ofB_test f n j
  have h2 := ofB_test g n j
  rw [e, h2, decide_eq_true hj] at h1
  simpa using h1.symm
def OnV (vs : List Nat) (f : (Nat → Bool) → Bool) : Prop := ∀ ρ σ : Nat → Bool, (∀ x ∈ vs, ρ x = σ x) → f ρ = f σ
def belowT (vs : List Nat) (t : Nat) : List Nat := vs.filter fun x => decide (x < t)
def lev (V B i : Nat) : Nat := min (2 ^ i) (min (2 ^ B) (if V - i ≤ 3 then 2 ^ 2 ^ (V - i) else 2 ^ B))
def CC (V B : Nat) : Nat := sumL (lev V B) (V + 1)
theorem pre_same {vs : List Nat} {f : (Nat → Bool) → Bool} (hf : OnV vs f) {t t' : Nat} (h : belowT vs t = belowT vs t') (a ρ : Nat → Bool) : f (pre t a ρ) = f (pre t' a ρ) := hf _ _ fun x hx => by
  have h1 : x ∈ belowT vs t ↔ x ∈ belowT vs t' := by rw [h]
  unfold belowT at h1
  simp only [List.mem_filter, decide_eq_true_eq, hx, true_and] at h1
  unfold pre
  by_cases ht : x < t
  · rw [if_pos ht, if_pos (h1.1 ht)]
  · rw [if_neg ht, if_neg (fun h => ht (h1.2 h))]
theorem below_mono {vs : List Nat} {t t' : Nat} (h : t ≤ t') : (belowT vs t').filter (fun x => decide (x < t)) = belowT vs t := by
  unfold belowT
  rw [List.filter_filter]
  congr 1
  funext x
  by_cases hx : x < t
  · simp [hx]; omega
  · simp [hx]
theorem below_len {vs : List Nat} {t t' : Nat} (h : (belowT vs t).length = (belowT vs t').length) : belowT vs t = belowT vs t' := by
  rcases Nat.le_total t t' with hl | hl
  · have e := below_mono (vs := vs) hl
    rw [← e] at h
    have := List.filter_eq_self.2 (List.length_filter_eq_length_iff.1 h)
    rw [← e, this]
  · have e := below_mono (vs := vs) hl
    rw [← e] at h
    have := List.filter_eq_self.2 (List.length_filter_eq_length_iff.1 h.symm)
    rw [← e, this]
theorem filter_len (p : Nat → Bool) : ∀ l : List Nat, (l.filter p).length + (l.filter fun x => !p x).length = l.length
  | [] => rfl
  | x :: r => by
    have := filter_len p r
    rw [List.filter_cons, List.filter_cons]
    cases p x <;> simp <;> omega
theorem her_count {vs : List Nat} {f : (Nat → Bool) → Bool} (hf : OnV vs f) (B : Nat) (hs : ∀ t, ∃ st : (Nat → Bool) → Nat, (∀ a, st a < 2 ^ B) ∧ ∀ a b, st a = st b → ∀ ρ, f (pre t a ρ) = f (pre t b ρ)) :
    ∃ P, AtMost P (CC vs.length B) ∧ Her P f := by
  classical
  refine ⟨fun g => ∃ i, i < vs.length + 1 ∧ ∃ t a, (belowT vs t).length = i ∧ g = fun ρ => f (pre t a ρ), atMost_levels _ fun i hi => ?_, fun t a => ⟨_, by have := List.length_filter_le (fun x => decide (x < t)) vs; unfold belowT; omega, t, a, rfl, rfl⟩⟩
  by_cases ht : ∃ t, (belowT vs t).length = i
  · obtain ⟨T, hT⟩ := ht
    have hc : ∀ g, (∃ t a, (belowT vs t).length = i ∧ g = fun ρ => f (pre t a ρ)) → ∃ a : Nat → Bool, g = fun ρ => f (pre T a ρ) := fun g ⟨t, a, h1, h2⟩ => ⟨a, by rw [h2]; funext ρ; exact pre_same hf (below_len (h1.trans hT.symm)) a ρ⟩
    have c1 : AtMost (fun g => ∃ t a, (belowT vs t).length = i ∧ g = fun ρ => f (pre t a ρ)) (2 ^ i) := by
      refine atMost_code (fun (a : Nat → Bool) ρ => f (pre T a ρ)) (fun a => ofB (fun j => a ((belowT vs T).getD j 0)) i) hc (fun a => ofB_lt _ _) fun a b e => ?_
      funext ρ
      refine hf _ _ fun x hx => ?_
      unfold pre
      by_cases hxt : x < T
      · rw [if_pos hxt, if_pos hxt]
        have hm : x ∈ belowT vs T := List.mem_filter.2 ⟨hx, decide_eq_true hxt⟩
        obtain ⟨j, hj⟩ := List.mem_iff_getElem?.1 hm
        have hjl := (List.getElem?_eq_some_iff.1 hj).1
        have := ofB_eq e (j := j) (by omega)
        rwa [List.getD_eq_getElem?_getD, hj] at this
      · rw [if_neg hxt, if_neg hxt]
    have c2 : AtMost (fun g => ∃ t a, (belowT vs t).length = i ∧ g = fun ρ => f (pre t a ρ)) (2 ^ B) := by
      obtain ⟨st, s1, s2⟩ := hs T
      exact atMost_code (fun (a : Nat → Bool) ρ => f (pre T a ρ)) st hc s1 fun a b e => funext fun ρ => s2 a b e ρ
    have c3 : AtMost (fun g => ∃ t a, (belowT vs t).length = i ∧ g = fun ρ => f (pre t a ρ)) (2 ^ 2 ^ (vs.length - i)) := by
      obtain ⟨rs, hrs⟩ : ∃ rs, vs.filter (fun x => !decide (x < T)) = rs := ⟨_, rfl⟩
      have hrl : rs.length = vs.length - i := by
        have h1 := filter_len (fun x => decide (x < T)) vs
        unfold belowT at hT
        rw [hrs] at h1
        omega
      have hru : ∀ (a ρ σ : Nat → Bool), (∀ x ∈ rs, ρ x = σ x) → f (pre T a ρ) = f (pre T a σ) := fun a ρ σ h => hf _ _ fun x hx => by
        unfold pre
        by_cases hxt : x < T
        · rw [if_pos hxt, if_pos hxt]
        · rw [if_neg hxt, if_neg hxt]
          exact h x (by rw [← hrs]; exact List.mem_filter.2 ⟨hx, by simp [hxt]⟩)
      refine atMost_code (fun (a : Nat → Bool) ρ => f (pre T a ρ)) (fun a => ofB (fun k => f (pre T a fun x => k.testBit (rs.idxOf x))) (2 ^ (vs.length - i))) hc (fun a => ofB_lt _ _) fun a b e => ?_
      funext ρ
      obtain ⟨k, hk⟩ : ∃ k, k = ofB (fun j => ρ (rs.getD j 0)) (vs.length - i) := ⟨_, rfl⟩
      have hkl : k < 2 ^ (vs.length - i) := hk ▸ ofB_lt _ _
      have hkr : ∀ x ∈ rs, ρ x = k.testBit (rs.idxOf x) := fun x hx => by
        have hlt := List.idxOf_lt_length_of_mem hx
        rw [hk, ofB_test, decide_eq_true (by omega), Bool.true_and, List.getD_eq_getElem?_getD, List.getElem?_eq_getElem hlt, List.getElem_idxOf hlt]
        rfl
      have := ofB_eq e hkl
      rw [hru a ρ _ hkr, hru b ρ _ hkr]
      exact this
    have hd : lev vs.length B i = 2 ^ i ∨ lev vs.length B i = 2 ^ B ∨ lev vs.length B i = 2 ^ 2 ^ (vs.length - i) := by
      unfold lev
      split
      · rcases Nat.le_total (2 ^ B) (2 ^ 2 ^ (vs.length - i)) with h | h <;> rcases Nat.le_total (2 ^ i) (2 ^ B) with h' | h' <;> rcases Nat.le_total (2 ^ i) (2 ^ 2 ^ (vs.length - i)) with h'' | h'' <;> omega
      · rcases Nat.le_total (2 ^ i) (2 ^ B) with h' | h' <;> omega
    rcases hd with h | h | h <;> rw [h]
    · exact c1
    · exact c2
    · exact c3
  · refine ⟨fun _ => 0, fun g hg => ?_, fun g h hg => ?_⟩ <;> exact absurd (by obtain ⟨t, a, h1, _⟩ := hg; exact ⟨t, h1⟩) ht
theorem cc_32 : ∀ V, V < 33 → ∀ B, B < 33 → V + B ≤ 32 → CC V B ≤ 34000 := by decide +kernel
theorem cc_17 : ∀ V, V < 18 → ∀ B, B < 18 → V + B ≤ 17 → CC V B ≤ 1100 := by decide +kernel
end Go.Proofs.YtlnedapimmabdaaGreatDoor

namespace Go.Proofs.YtlnedapimmabdaaGreatDoor
set_option linter.unusedVariables false
set_option linter.unusedSimpArgs false

def vsG (G : List Gt) : List Nat := (G.filter fun g => decide (g.1 = 1)).map (·.2.1)
def aoG (G : List Gt) : List Nat := (List.range G.length).filter fun i => decide (kd G i = 3) || decide (kd G i = 4)
theorem vs_mem {G : List Gt} {i : Nat} (hi : i < G.length) (h : kd G i = 1) : (gtAt G i).2.1 ∈ vsG G :=
  List.mem_map.2 ⟨gtAt G i, List.mem_filter.2 ⟨List.mem_of_getElem? (gtAt_get hi), decide_eq_true h⟩, rfl⟩
theorem ao_mem {G : List Gt} {i : Nat} (hi : i < G.length) (h : kd G i = 3 ∨ kd G i = 4) : i ∈ aoG G :=
  List.mem_filter.2 ⟨List.mem_range.2 hi, by rcases h with h | h <;> simp [h]⟩
theorem vl_on {v : Nat} {l : List Gt} (ho : okL v l) {ρ σ : Nat → Bool} (h : ∀ x ∈ vsG l, ρ x = σ x) : ∀ (m i : Nat), i < m → i < l.length → vl ρ l i = vl σ l i
  | 0, i, h0, _ => by omega
  | m + 1, i, him, hi => by
    have hgi := ho i _ (gtAt_get hi)
    rw [vl_at ho ρ hi, vl_at ho σ hi]
    have key : ∀ k ∈ (gtAt l i).2.2, vl ρ l k = vl σ l k := fun k hk => by
      have hki := okG_ins hgi k hk
      exact vl_on ho h m k (by omega) (by omega)
    rw [ev1_congr hgi key]
    unfold ev1
    by_cases h1 : (gtAt l i).1 = 1
    · rw [if_pos h1, if_pos h1]
      exact h _ (vs_mem hi h1)
    · rw [if_neg h1, if_neg h1]
def Kn (G : List Gt) (t i : Nat) : Prop := ∀ a ρ σ, vl (pre t a ρ) G i = vl (pre t a σ) G i
open Classical in
noncomputable def decA (G : List Gt) (t : Nat) (a : Nat → Bool) (i : Nat) : Bool :=
  (gtAt G i).2.2.any fun k => decide (Kn G t k) && (vl (pre t a a) G k == decide (kd G i = 4))
theorem decA_val {v : Nat} {G : List Gt} (ho : okL v G) {t : Nat} {a ρ : Nat → Bool} {i : Nat} (hi : i < G.length) (hk : kd G i = 3 ∨ kd G i = 4) (h : decA G t a i = true) : vl (pre t a ρ) G i = decide (kd G i = 4) := by
  classical
  unfold decA at h
  obtain ⟨k, hkm, hq⟩ := List.any_eq_true.1 h
  rw [Bool.and_eq_true, decide_eq_true_eq, beq_iff_eq] at hq
  have hv : vl (pre t a ρ) G k = decide (kd G i = 4) := (hq.1 a ρ a).trans hq.2
  rw [vl_at ho _ hi]
  unfold ev1
  rcases hk with hk | hk
  · have e : (gtAt G i).1 = 3 := hk
    rw [if_neg (by omega), if_neg (by omega), if_pos e, decide_eq_false (by omega)]
    rw [decide_eq_false (by omega)] at hv
    exact List.all_eq_false.2 ⟨k, hkm, by rw [hv]; decide⟩
  · have e : (gtAt G i).1 = 4 := hk
    rw [if_neg (by omega), if_neg (by omega), if_neg (by omega), if_pos e, decide_eq_true hk]
    rw [decide_eq_true hk] at hv
    exact List.any_eq_true.2 ⟨k, hkm, hv⟩
theorem dec_same {v : Nat} {G : List Gt} (ho : okL v G) {t : Nat} {a b : Nat → Bool} (hd : ∀ i, i < G.length → kd G i = 3 ∨ kd G i = 4 → decA G t a i = decA G t b i) (ρ : Nat → Bool) : ∀ (m i : Nat), i < m → i < G.length → (¬ Kn G t i ∨ kd G i = 3 ∨ kd G i = 4) → vl (pre t a ρ) G i = vl (pre t b ρ) G i
  | 0, i, h0, _, _ => by omega
  | m + 1, i, him, hi, hc => by
    have hgi := ho i _ (gtAt_get hi)
    by_cases hk : kd G i = 3 ∨ kd G i = 4
    · cases hda : decA G t a i with
      | true => rw [decA_val ho hi hk hda, decA_val ho hi hk ((hd i hi hk).symm.trans hda)]
      | false =>
        have hdb := (hd i hi hk).symm.trans hda
        have key : ∀ k ∈ (gtAt G i).2.2, vl (pre t a ρ) G k = vl (pre t b ρ) G k := fun k hkm => by
          have hki := okG_ins hgi k hkm
          by_cases hn : Kn G t k
          · have cv : ∀ c : Nat → Bool, decA G t c i = false → vl (pre t c ρ) G k = !decide (kd G i = 4) := fun c hc => by
              classical
              unfold decA at hc
              have := List.any_eq_false.1 hc k hkm
              rw [Bool.and_eq_true, decide_eq_true_eq, beq_iff_eq] at this
              rw [hn c ρ c]
              cases h1 : vl (pre t c c) G k <;> cases h2 : decide (kd G i = 4) <;> first | rfl | exact absurd ⟨hn, by rw [h1, h2]⟩ this
            rw [cv a hda, cv b hdb]
          · exact dec_same ho hd ρ m k (by omega) (by omega) (.inl hn)
        rw [vl_at ho _ hi, vl_at ho _ hi, ev1_congr hgi key]
        unfold ev1
        have e1 : (gtAt G i).1 = 3 ∨ (gtAt G i).1 = 4 := hk
        rw [if_neg (show ¬ (gtAt G i).1 = 1 by omega), if_neg (show ¬ (gtAt G i).1 = 1 by omega)]
    · have hnk : ¬ Kn G t i := hc.resolve_right hk
      rw [vl_at ho _ hi, vl_at ho _ hi]
      rcases hgi with ⟨e, h1, h2⟩ | ⟨e, h1, k, h2, h3⟩ | ⟨e, h1⟩ | ⟨e, h1, h2⟩
      · unfold ev1
        rw [if_pos e, if_pos e]
        have ht : ¬ (gtAt G i).2.1 < t := fun h => hnk fun c σ τ => by
          rw [vl_at ho _ hi, vl_at ho _ hi]
          unfold ev1 pre
          rw [if_pos e, if_pos e, if_pos h, if_pos h]
        unfold pre
        rw [if_neg ht, if_neg ht]
      · have hkk : ¬ Kn G t k := fun h => hnk fun c σ τ => by
          rw [vl_at ho _ hi, vl_at ho _ hi]
          unfold ev1
          rw [if_neg (show ¬ (gtAt G i).1 = 1 by omega), if_neg (show ¬ (gtAt G i).1 = 1 by omega), if_pos e, if_pos e, h2, List.headD_cons, h c σ τ]
        have := dec_same ho hd ρ m k (by omega) (by omega) (.inl hkk)
        unfold ev1
        rw [if_neg (show ¬ (gtAt G i).1 = 1 by omega), if_neg (show ¬ (gtAt G i).1 = 1 by omega), if_pos e, if_pos e, h2, List.headD_cons, this]
      · exact absurd e hk
      · unfold ev1
        rw [if_neg (show ¬ (gtAt G i).1 = 1 by omega), if_neg (show ¬ (gtAt G i).1 = 1 by omega), if_neg (show ¬ (gtAt G i).1 = 2 by omega), if_neg (show ¬ (gtAt G i).1 = 2 by omega), if_neg (show ¬ (gtAt G i).1 = 3 by omega), if_neg (show ¬ (gtAt G i).1 = 3 by omega), if_neg (show ¬ (gtAt G i).1 = 4 by omega), if_neg (show ¬ (gtAt G i).1 = 4 by omega)]
theorem dec_bits {G : List Gt} {t n : Nat} {a b : Nat → Bool} {x y : Bool} (hn : (aoG G).length ≤ n) (e : ofB (fun k => if k < (aoG G).length then decA G t a ((aoG G).getD k 0) else x) n = ofB (fun k => if k < (aoG G).length then decA G t b ((aoG G).getD k 0) else y) n) : ∀ i, i < G.length → kd G i = 3 ∨ kd G i = 4 → decA G t a i = decA G t b i := fun i hi hk => by
  obtain ⟨j, hj⟩ := List.mem_iff_getElem?.1 (ao_mem hi hk)
  have hjl := (List.getElem?_eq_some_iff.1 hj).1
  have := ofB_eq e (j := j) (by omega)
  rw [if_pos hjl, if_pos hjl, List.getD_eq_getElem?_getD, hj] at this
  exact this
theorem states1 {v : Nat} {G : List Gt} (ho : okL v G) (Φ : Bool → Bool → Bool) {i j : Nat} (hi : i < G.length) (hj : j < G.length) (t : Nat) :
    ∃ st : (Nat → Bool) → Nat, (∀ a, st a < 2 ^ ((aoG G).length + 1)) ∧ ∀ a b, st a = st b → ∀ ρ, Φ (vl (pre t a ρ) G i) (vl (pre t a ρ) G j) = Φ (vl (pre t b ρ) G i) (vl (pre t b ρ) G j) := by
  classical
  obtain ⟨x, hx⟩ : ∃ x : (Nat → Bool) → Bool, x = fun a => if Kn G t i ∧ Kn G t j then Φ (vl (pre t a a) G i) (vl (pre t a a) G j) else if Kn G t i then vl (pre t a a) G i else vl (pre t a a) G j := ⟨_, rfl⟩
  refine ⟨fun a => ofB (fun k => if k < (aoG G).length then decA G t a ((aoG G).getD k 0) else if Kn G t i ∨ Kn G t j then x a else false) ((aoG G).length + 1), fun a => ofB_lt _ _, fun a b e ρ => ?_⟩
  have hd := dec_bits (Nat.le_succ _) e
  have hl := ofB_eq e (j := (aoG G).length) (Nat.lt_succ_self _)
  rw [if_neg (Nat.lt_irrefl _), if_neg (Nat.lt_irrefl _)] at hl
  have ei : ¬ Kn G t i → vl (pre t a ρ) G i = vl (pre t b ρ) G i := fun h => dec_same ho hd ρ (i + 1) i (Nat.lt_succ_self i) hi (.inl h)
  have ej : ¬ Kn G t j → vl (pre t a ρ) G j = vl (pre t b ρ) G j := fun h => dec_same ho hd ρ (j + 1) j (Nat.lt_succ_self j) hj (.inl h)
  by_cases h1 : Kn G t i <;> by_cases h2 : Kn G t j
  · rw [if_pos (.inl h1), if_pos (.inl h1), hx] at hl
    simp only [h1, h2, and_self, if_true] at hl
    rw [h1 a ρ a, h2 a ρ a, h1 b ρ b, h2 b ρ b]
    exact hl
  · rw [if_pos (.inl h1), if_pos (.inl h1), hx] at hl
    simp only [h1, h2, and_false, if_false, if_true] at hl
    rw [ej h2, h1 a ρ a, h1 b ρ b, hl]
  · rw [if_pos (.inr h2), if_pos (.inr h2), hx] at hl
    simp only [h1, h2, false_and, if_false] at hl
    rw [ei h1, h2 a ρ a, h2 b ρ b, hl]
  · rw [ei h1, ej h2]
theorem states2 {v : Nat} {G : List Gt} (ho : okL v G) (Φ : Bool → Bool → Bool) {i j : Nat} (hi : i < G.length) (hj : j < G.length) (hki : kd G i = 3 ∨ kd G i = 4) (hkj : kd G j = 3 ∨ kd G j = 4) (t : Nat) :
    ∃ st : (Nat → Bool) → Nat, (∀ a, st a < 2 ^ (aoG G).length) ∧ ∀ a b, st a = st b → ∀ ρ, Φ (vl (pre t a ρ) G i) (vl (pre t a ρ) G j) = Φ (vl (pre t b ρ) G i) (vl (pre t b ρ) G j) := by
  refine ⟨fun a => ofB (fun k => if k < (aoG G).length then decA G t a ((aoG G).getD k 0) else false) (aoG G).length, fun a => ofB_lt _ _, fun a b e ρ => ?_⟩
  have hd := dec_bits (Nat.le_refl _) e
  rw [dec_same ho hd ρ (i + 1) i (Nat.lt_succ_self i) hi (.inr hki), dec_same ho hd ρ (j + 1) j (Nat.lt_succ_self j) hj (.inr hkj)]
theorem on_vs {v : Nat} {G : List Gt} (ho : okL v G) (Φ : Bool → Bool → Bool) {i j : Nat} (hi : i < G.length) (hj : j < G.length) : OnV (vsG G) fun ρ => Φ (vl ρ G i) (vl ρ G j) := fun ρ σ h => by
  dsimp only
  rw [vl_on ho h (i + 1) i (Nat.lt_succ_self i) hi, vl_on ho h (j + 1) j (Nat.lt_succ_self j) hj]
theorem ao_snoc (G : List Gt) (g : Gt) : aoG (G ++ [g]) = aoG G ++ if g.1 = 3 ∨ g.1 = 4 then [G.length] else [] := by
  unfold aoG
  rw [List.length_append, List.length_singleton, List.range_succ, List.filter_append]
  congr 1
  · refine List.filter_congr fun i hi => ?_
    rw [show kd (G ++ [g]) i = kd G i by unfold kd; rw [gtAt_app (List.mem_range.1 hi)]]
  · rw [List.filter_cons, List.filter_nil, show kd (G ++ [g]) G.length = g.1 by unfold kd; rw [gtAt_new]]
    by_cases h3 : g.1 = 3
    · simp [h3]
    · by_cases h4 : g.1 = 4 <;> simp [h3, h4]
theorem vs_snoc (G : List Gt) (g : Gt) : vsG (G ++ [g]) = vsG G ++ if g.1 = 1 then [g.2.1] else [] := by
  unfold vsG
  rw [List.filter_append, List.map_append, List.filter_cons, List.filter_nil]
  by_cases h : g.1 = 1 <;> simp [h]
theorem va_len : ∀ G : List Gt, (vsG G).length + (aoG G).length ≤ G.length := snocI (by decide) fun G g ih => by
  rw [ao_snoc, vs_snoc, List.length_append, List.length_append, List.length_append, List.length_singleton]
  by_cases h1 : g.1 = 1
  · rw [if_pos h1, if_neg (by omega)]; simp; omega
  · rw [if_neg h1]
    split <;> simp <;> omega
theorem va_less : ∀ G : List Gt, (∃ i, i < G.length ∧ kd G i ≠ 1 ∧ kd G i ≠ 3 ∧ kd G i ≠ 4) → (vsG G).length + (aoG G).length + 1 ≤ G.length := snocI (fun ⟨i, h, _⟩ => by simp at h) fun G g ih ⟨i, hi, h1, h3, h4⟩ => by
  have hv := va_len G
  rw [ao_snoc, vs_snoc, List.length_append, List.length_append, List.length_append, List.length_singleton]
  rw [List.length_append, List.length_singleton] at hi
  rcases Nat.lt_or_ge i G.length with hl | hl
  · have e : kd (G ++ [g]) i = kd G i := by unfold kd; rw [gtAt_app hl]
    rw [e] at h1 h3 h4
    have := ih ⟨i, hl, h1, h3, h4⟩
    by_cases h1 : g.1 = 1
    · rw [if_pos h1, if_neg (by omega)]; simp; omega
    · rw [if_neg h1]
      split <;> simp <;> omega
  · have e : i = G.length := by omega
    subst e
    have e : kd (G ++ [g]) G.length = g.1 := by unfold kd; rw [gtAt_new]
    rw [e] at h1 h3 h4
    rw [if_neg h1, if_neg (by omega)]
    simp
    omega
theorem her_gate {v : Nat} {G : List Gt} (ho : okL v G) (hl : G.length ≤ 17) {i : Nat} (hi : i < G.length) (hx : G.length ≤ 16 ∨ ∃ i, i < G.length ∧ kd G i ≠ 1 ∧ kd G i ≠ 3 ∧ kd G i ≠ 4) : ∃ P, AtMost P 1100 ∧ Her P fun ρ => vl ρ G i := by
  have hv : (vsG G).length + ((aoG G).length + 1) ≤ 17 := by
    rcases hx with h | h
    · have := va_len G; omega
    · have := va_less G h; omega
  obtain ⟨P, h1, h2⟩ := her_count (on_vs ho (fun x _ => x) hi hi) ((aoG G).length + 1) fun t => states1 ho (fun x _ => x) hi hi t
  exact ⟨P, atMost_mono h1 (cc_17 _ (by omega) _ (by omega) hv), h2⟩
end Go.Proofs.YtlnedapimmabdaaGreatDoor

namespace Go.Proofs.YtlnedapimmabdaaGreatDoor
set_option linter.unusedVariables false
set_option linter.unusedSimpArgs false

def shG (n : Nat) (H : List Gt) : List Gt := H.map fun g => (g.1, g.2.1, g.2.2.map (· + n))
def joint (G H : List Gt) : List Gt := G ++ shG G.length H
theorem sh_len (n : Nat) (H : List Gt) : (shG n H).length = H.length := List.length_map ..
theorem joint_at {G H : List Gt} {k : Nat} (h : k < H.length) : gtAt (joint G H) (G.length + k) = ((gtAt H k).1, (gtAt H k).2.1, (gtAt H k).2.2.map (· + G.length)) := by
  refine gtAt_some ?_
  unfold joint shG
  rw [List.getElem?_append_right (by omega), show G.length + k - G.length = k by omega, List.getElem?_map, gtAt_get h]
  rfl
theorem joint_len (G H : List Gt) : (joint G H).length = G.length + H.length := by unfold joint; rw [List.length_append, sh_len]
theorem joint_ok {v : Nat} {G H : List Gt} (hG : okL v G) (hH : okL v H) : okL v (joint G H) := fun i g hg => by
  have hl := (List.getElem?_eq_some_iff.1 hg).1
  rw [joint_len] at hl
  rcases Nat.lt_or_ge i G.length with h | h
  · unfold joint at hg
    rw [List.getElem?_append_left h] at hg
    exact hG i g hg
  · obtain ⟨k, rfl⟩ : ∃ k, i = G.length + k := ⟨i - G.length, by omega⟩
    have hk : k < H.length := by omega
    rw [← gtAt_some hg, joint_at hk]
    rcases hH k _ (gtAt_get hk) with ⟨e1, e2, e3⟩ | ⟨e1, e2, j, e3, e4⟩ | ⟨e1, e2, e3⟩ | ⟨e1, e2, e3⟩
    · exact .inl ⟨e1, e2, by rw [e3]; rfl⟩
    · exact .inr (.inl ⟨e1, e2, j + G.length, by rw [e3]; rfl, by omega⟩)
    · refine .inr (.inr (.inl ⟨e1, e2, fun x hx => ?_⟩))
      obtain ⟨y, hy, rfl⟩ := List.mem_map.1 hx
      have := e3 y hy
      omega
    · exact .inr (.inr (.inr ⟨e1, e2, by rw [e3]; rfl⟩))
theorem joint_left (G H : List Gt) (ρ : Nat → Bool) {i : Nat} (h : i < G.length) : vl ρ (joint G H) i = vl ρ G i := vl_app ρ G h _
theorem ev1_shift {ρ : Nat → Bool} {f f' : Nat → Bool} {n v i : Nat} {g : Gt} (hg : okG v i g) (h : ∀ k ∈ g.2.2, f' (k + n) = f k) : ev1 ρ f' (g.1, g.2.1, g.2.2.map (· + n)) = ev1 ρ f g := by
  have ha : (g.2.2.map (· + n)).all f' = g.2.2.all f := by
    rw [List.all_map]
    exact all_congr fun x hx => h x hx
  have hb : (g.2.2.map (· + n)).any f' = g.2.2.any f := by
    rw [List.any_map]
    exact any_congr fun x hx => h x hx
  unfold ev1
  dsimp only
  rw [ha, hb]
  by_cases h2 : g.1 = 2
  · rcases hg with ⟨e, _⟩ | ⟨_, _, k, e, _⟩ | ⟨e, _⟩ | ⟨e, _⟩
    · omega
    · rw [e] at h ⊢
      rw [List.map_cons, List.headD_cons, List.headD_cons, h k (List.mem_cons_self ..)]
    · omega
    · omega
  · rw [if_neg h2, if_neg h2]
theorem joint_right {v : Nat} {G H : List Gt} (hG : okL v G) (hH : okL v H) (ρ : Nat → Bool) : ∀ (m k : Nat), k < m → k < H.length → vl ρ (joint G H) (G.length + k) = vl ρ H k
  | 0, _, h, _ => by omega
  | m + 1, k, hm, hk => by
    rw [vl_at (joint_ok hG hH) ρ (by rw [joint_len]; omega), joint_at hk, vl_at hH ρ hk]
    have hg := hH k _ (gtAt_get hk)
    refine ev1_shift hg fun x hx => ?_
    have hxk := okG_ins hg x hx
    rw [Nat.add_comm x]
    exact joint_right hG hH ρ m x (by omega) (by omega)
theorem her_joint {v : Nat} {G H : List Gt} (hG : okL v G) (hH : okL v H) (Φ : Bool → Bool → Bool) {i j : Nat} (hi : i < G.length) (hj : j < H.length) (hl : G.length + H.length ≤ 32)
    (hc : ((kd G i = 3 ∨ kd G i = 4) ∧ (kd H j = 3 ∨ kd H j = 4)) ∨ G.length + H.length ≤ 31 ∨ (kd G i ≠ 1 ∧ kd G i ≠ 3 ∧ kd G i ≠ 4) ∨ (kd H j ≠ 1 ∧ kd H j ≠ 3 ∧ kd H j ≠ 4)) : ∃ P, AtMost P 34000 ∧ Her P fun ρ => Φ (vl ρ G i) (vl ρ H j) := by
  have ho := joint_ok hG hH
  have hlen := joint_len G H
  have hi' : i < (joint G H).length := by omega
  have hj' : G.length + j < (joint G H).length := by omega
  have ki : kd (joint G H) i = kd G i := by unfold kd joint; rw [gtAt_app hi]
  have kj : kd (joint G H) (G.length + j) = kd H j := by unfold kd; rw [joint_at hj]
  have e : (fun ρ => Φ (vl ρ G i) (vl ρ H j)) = fun ρ => Φ (vl ρ (joint G H) i) (vl ρ (joint G H) (G.length + j)) := by
    funext ρ
    rw [joint_left G H ρ hi, joint_right hG hH ρ (j + 1) j (Nat.lt_succ_self j) hj]
  rw [e]
  have hv := va_len (joint G H)
  have big : (vsG (joint G H)).length + ((aoG (joint G H)).length + 1) ≤ 32 → ∃ P, AtMost P 34000 ∧ Her P fun ρ => Φ (vl ρ (joint G H) i) (vl ρ (joint G H) (G.length + j)) := fun h => by
    obtain ⟨P, h1, h2⟩ := her_count (on_vs ho Φ hi' hj') ((aoG (joint G H)).length + 1) fun t => states1 ho Φ hi' hj' t
    exact ⟨P, atMost_mono h1 (cc_32 _ (by omega) _ (by omega) h), h2⟩
  rcases hc with ⟨h1, h2⟩ | h | h | h
  · obtain ⟨P, h3, h4⟩ := her_count (on_vs ho Φ hi' hj') (aoG (joint G H)).length fun t => states2 ho Φ hi' hj' (by rw [ki]; exact h1) (by rw [kj]; exact h2) t
    exact ⟨P, atMost_mono h3 (cc_32 _ (by omega) _ (by omega) (by omega)), h4⟩
  · exact big (by omega)
  · exact big (by have := va_less _ ⟨i, hi', by rw [ki]; exact h⟩; omega)
  · exact big (by have := va_less _ ⟨_, hj', by rw [kj]; exact h⟩; omega)
theorem okL_one {v i : Nat} {G : List Gt} (ho : okL v G) (hi : i < G.length) (h1 : kd G i = 1) : okL v [gtAt G i] ∧ ∀ ρ, vl ρ [gtAt G i] 0 = vl ρ G i := by
  have hg := ho i _ (gtAt_get hi)
  have e : (gtAt G i).1 = 1 := h1
  have hk : okL v [gtAt G i] := fun j g hj => by
    match j, hj with
    | 0, hj =>
      simp at hj
      rw [← hj]
      rcases hg with h | h | h | h
      · exact .inl h
      · omega
      · omega
      · omega
  refine ⟨hk, fun ρ => ?_⟩
  rw [vl_at hk ρ (by simp), vl_at ho ρ hi]
  have e2 : gtAt [gtAt G i] 0 = gtAt G i := rfl
  rw [e2]
  unfold ev1
  rw [if_pos e, if_pos e]
theorem her_pair {v : Nat} {G H : List Gt} (hG : okL v G) (hH : okL v H) (Φ : Bool → Bool → Bool) {i j : Nat} (hi : i < G.length) (hj : j < H.length) (hl : G.length ≤ 16) (hl' : H.length ≤ 16) : ∃ P, AtMost P 34000 ∧ Her P fun ρ => Φ (vl ρ G i) (vl ρ H j) := by
  by_cases h1 : kd G i = 1
  · obtain ⟨k1, k2⟩ := okL_one hG hi h1
    obtain ⟨P, p1, p2⟩ := her_joint k1 hH Φ (i := 0) (j := j) (by simp) hj (by simp; omega) (.inr (.inl (by simp; omega)))
    exact ⟨P, p1, by rw [show (fun ρ => Φ (vl ρ G i) (vl ρ H j)) = fun ρ => Φ (vl ρ [gtAt G i] 0) (vl ρ H j) from funext fun ρ => by rw [k2]]; exact p2⟩
  · by_cases h2 : kd H j = 1
    · obtain ⟨k1, k2⟩ := okL_one hH hj h2
      obtain ⟨P, p1, p2⟩ := her_joint hG k1 Φ (i := i) (j := 0) hi (by simp) (by simp; omega) (.inr (.inl (by simp; omega)))
      exact ⟨P, p1, by rw [show (fun ρ => Φ (vl ρ G i) (vl ρ H j)) = fun ρ => Φ (vl ρ G i) (vl ρ [gtAt H j] 0) from funext fun ρ => by rw [k2]]; exact p2⟩
    · refine her_joint hG hH Φ hi hj (by omega) ?_
      by_cases h3 : kd G i = 3 ∨ kd G i = 4
      · by_cases h4 : kd H j = 3 ∨ kd H j = 4
        · exact .inl ⟨h3, h4⟩
        · exact .inr (.inr (.inr ⟨h2, by omega, by omega⟩))
      · exact .inr (.inr (.inl ⟨h1, by omega, by omega⟩))
theorem her_all {v i k : Nat} {G : List Gt} (ho : okL v G) (hl : G.length ≤ 16) (hi : i < G.length) (hk : k = 3 ∨ k = 4) {ins : List Nat} (hin : ∀ x ∈ ins, x < i) : ∃ P, AtMost P 1100 ∧ Her P fun ρ => comb k (vl ρ G) ins := by
  have hlen : (G.take i).length = i := by rw [List.length_take]; omega
  have ho1 : okL v (G.take i) := fun j g hj => ho j g (by rw [List.getElem?_take] at hj; split at hj; exact hj; cases hj)
  have ho2 : okL v (G.take i ++ [(k, 0, ins)]) := okL_snoc ho1 (by rw [hlen]; exact .inr (.inr (.inl ⟨hk, rfl, hin⟩)))
  have h2 : (G.take i ++ [(k, 0, ins)]).length = i + 1 := by rw [List.length_append, hlen]; rfl
  obtain ⟨P, p1, p2⟩ := her_gate ho2 (i := i) (by omega) (by omega) (.inl (by omega))
  refine ⟨P, p1, ?_⟩
  rw [show (fun ρ => comb k (vl ρ G) ins) = fun ρ => vl ρ (G.take i ++ [(k, 0, ins)]) i from funext fun ρ => ?_]
  · exact p2
  · have e := vl_new ρ (G.take i) (k, 0, ins)
    rw [hlen] at e
    have hv : ∀ x ∈ ins, vl ρ (G.take i) x = vl ρ G x := fun x hx => by
      have := vl_app ρ (G.take i) (i := x) (by rw [hlen]; exact hin x hx) (G.drop i)
      rw [List.take_append_drop] at this
      exact this.symm
    rw [e]
    unfold ev1 comb
    dsimp only
    rcases hk with rfl | rfl
    · rw [if_pos rfl, if_neg (by decide), if_neg (by decide), if_pos rfl]
      exact (all_congr hv).symm
    · rw [if_neg (by decide), if_neg (by decide), if_neg (by decide), if_neg (by decide), if_pos rfl]
      exact (any_congr hv).symm
theorem her_neg {v : Nat} {G : List Gt} (ho : okL v G) (hl : G.length ≤ 16) {i : Nat} (hi : i < G.length) : ∃ P, AtMost P 1100 ∧ Her P fun ρ => !vl ρ G i := by
  have ho2 : okL v (G ++ [(2, 0, [i])]) := okL_snoc ho (.inr (.inl ⟨rfl, rfl, i, rfl, hi⟩))
  obtain ⟨P, p1, p2⟩ := her_gate ho2 (i := G.length) (by simp; omega) (by simp) (.inr ⟨G.length, by simp, by unfold kd; rw [gtAt_new]; exact ⟨(by decide : (2 : Nat) ≠ 1), (by decide : (2 : Nat) ≠ 3), (by decide : (2 : Nat) ≠ 4)⟩⟩)
  refine ⟨P, p1, ?_⟩
  rw [show (fun ρ => !vl ρ G i) = fun ρ => vl ρ (G ++ [(2, 0, [i])]) G.length from funext fun ρ => by rw [vl_new]; rfl]
  exact p2
theorem dfs3_her {N : List (Nat × Nat × Nat)} (hN : Good N) {P : ((Nat → Bool) → Bool) → Prop} : ∀ (f p : Nat) (l : List Nat), p < f → p < N.length + 2 → Her P (fun ρ => val3 ρ N p) → (∀ q ∈ l, Her P fun ρ => val3 ρ N q) → ∀ q ∈ dfs3 N f p l, Her P fun ρ => val3 ρ N q := by
  intro f
  induction f with
  | zero => intro p l h; omega
  | succ f ih =>
    intro p l hf hp hP hl
    rw [dfs3]
    split
    · exact hl
    · rename_i h
      have h2 : 2 ≤ p := by
        rcases Nat.lt_or_ge p 2 with h' | h'
        · exact absurd (Or.inl h') h
        · exact h'
      obtain ⟨a1, a2, _, _, _, a6, _⟩ := node3_ok hN hp h2
      have dep : ∀ ρ σ : Nat → Bool, (∀ u, (node3 N p).1 ≤ u → ρ u = σ u) → val3 ρ N p = val3 σ N p := fun ρ σ h => val3_dep hN (p + 1) p (Nat.lt_succ_self p) hp fun u hu => h u (by rw [a6] at hu; exact hu)
      have c0 : Her P fun ρ => val3 ρ N (node3 N p).2.1 := by
        have := hP.cof dep false
        rw [show (fun ρ => val3 (upd3 ρ (node3 N p).1 false) N p) = fun ρ => val3 ρ N (node3 N p).2.1 from funext fun ρ => by rw [side3 hN ρ hp h2]; rfl] at this
        exact this
      have c1 : Her P fun ρ => val3 ρ N (node3 N p).2.2 := by
        have := hP.cof dep true
        rw [show (fun ρ => val3 (upd3 ρ (node3 N p).1 true) N p) = fun ρ => val3 ρ N (node3 N p).2.2 from funext fun ρ => by rw [side3 hN ρ hp h2]; rfl] at this
        exact this
      intro q hq
      rcases List.mem_append.1 hq with hq | hq
      · exact ih _ _ (by omega) (by omega) c1 (ih _ _ (by omega) (by omega) c0 hl) q hq
      · rw [List.mem_singleton.1 hq]; exact hP
theorem dgn_len {M : List (Nat × Nat × Nat)} {r c : Nat} (hD : Dgn M r) {F : (Nat → Bool) → Bool} (hv : ∀ ρ, val3 ρ M r = F ρ) (hH : ∃ P, AtMost P c ∧ Her P F) : M.length ≤ c := by
  obtain ⟨P, hA, hP⟩ := hH
  have hall := dfs3_her hD.good (r + 1) r [] (Nat.lt_succ_self r) hD.root (by rw [show (fun ρ => val3 ρ M r) = F from funext hv]; exact hP) (fun q h => by cases h)
  rw [hD.walk _ (Nat.lt_succ_self r)] at hall
  have := inF_le (e0 := 0) hA hD.good fun i _ hi => (hall (i + 2) ((range2_mem _ _).2 ⟨by omega, by omega⟩)).self
  omega
def rkL (vs : List Nat) (y : Nat) : Nat := (vs.filter fun x => decide (y ≤ x)).length
theorem rkL_le (vs : List Nat) (y : Nat) : rkL vs y ≤ vs.length := List.length_filter_le _ _
theorem rkL_lt {vs : List Nat} {a : Nat} (ha : a ∈ vs) {y : Nat} (hy : a < y) : rkL vs y < rkL vs a := by
  unfold rkL
  rw [← List.countP_eq_length_filter, ← List.countP_eq_length_filter]
  induction vs with
  | nil => cases ha
  | cons x r ih =>
    have hm : ∀ r : List Nat, List.countP (fun x => decide (y ≤ x)) r ≤ List.countP (fun x => decide (a ≤ x)) r := fun r => List.countP_mono_left fun x _ h => by simp at h ⊢; omega
    rw [List.countP_cons, List.countP_cons]
    rcases List.mem_cons.1 ha with rfl | ha
    · have := hm r
      simp
      rw [if_neg (by omega)]
      omega
    · have := ih ha
      have h1 : (if decide (y ≤ x) = true then 1 else 0) ≤ (if decide (a ≤ x) = true then 1 else 0) := by
        by_cases h : y ≤ x
        · rw [if_pos (by simpa using h), if_pos (by simp; omega)]; omega
        · rw [if_neg (by simpa using h)]; omega
      omega
end Go.Proofs.YtlnedapimmabdaaGreatDoor
