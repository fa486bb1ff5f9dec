/- What Make makes, in plain Lean. -/
import Derived.Test.YtkbellmhanpocaaDoorFd
namespace Go.Proofs.YtkbellmhanpocaaDoor
set_option linter.unusedVariables false
set_option linter.unusedSimpArgs false
open F

def topM (st : List F) (n : Nat) : F := match st.drop (st.length - 1) with | [] => nd 1 ((n % 6 : Nat) : Int) [] | t :: _ => t
def notM (st : List F) (n : Nat) : List F := st.take (st.length - 1) ++ [nd 2 0 [topM st n]]
def cutM (st : List F) (n : Nat) : Nat := st.length - min st.length (n / 2 % 4)
def joinM (st : List F) (n : Nat) : List F := st.take (cutM st n) ++ [nd (3 + ((n % 2 : Nat) : Int)) 0 (st.drop (cutM st n))]
def stepM (st : List F) (c : Nat) : List F :=
  if c % 8 ≤ 2 then st ++ [nd 1 ((c / 8 % 6 : Nat) : Int) []]
  else if c % 8 = 3 then st ++ [nd (5 + ((c / 8 % 2 : Nat) : Int)) 0 []]
  else if c % 8 = 4 then notM st (c / 8) else joinM st (c / 8)
def runM (code : List UInt8) : List F := code.foldl (fun st c => stepM st c.toNat) []
def mkF (code : List UInt8) : F := match runM (code.take 30) with | [t] => t | st => nd 3 0 st
/-- The variables are below m. -/
def inV (m : Int) (l : List F) : Prop := ∀ u ∈ l, u.k = 1 → 0 ≤ u.a ∧ u.a < m
theorem preL_mem {u t : F} {l : List F} (h : t ∈ l) (hu : u ∈ pre t) : u ∈ preL l := by
  induction l with
  | nil => cases h
  | cons x r ih =>
    rw [preL, List.mem_append]
    rcases List.mem_cons.1 h with rfl | h
    · exact .inl hu
    · exact .inr (ih h)
theorem okL_app {l r : List F} : okL (l ++ r) ↔ okL l ∧ okL r := by
  induction l with
  | nil => simp [okL]
  | cons t l ih => rw [List.cons_append, okL, okL, ih]; exact and_assoc.symm
theorem inV_app {m : Int} {l r : List F} : inV m (l ++ r) ↔ inV m l ∧ inV m r := by
  unfold inV
  constructor
  · intro h; exact ⟨fun u hu => h u (List.mem_append.2 (.inl hu)), fun u hu => h u (List.mem_append.2 (.inr hu))⟩
  · rintro ⟨h1, h2⟩ u hu
    rcases List.mem_append.1 hu with hu | hu
    · exact h1 u hu
    · exact h2 u hu
structure GoodM (j : Nat) (st : List F) : Prop where
  ok : okL st
  vars : inV 6 (preL st)
  nodes : nodesL st ≤ 2 * j
  levels : levelsL st ≤ 2 * j
theorem GoodM.len {j : Nat} {st : List F} (h : GoodM j st) : st.length ≤ 2 * j := Nat.le_trans (length_nodesL st) h.nodes
theorem goodM_nil : GoodM 0 [] := ⟨trivial, fun u hu => (by cases hu), Nat.le_refl _, Nat.le_refl _⟩
theorem goodM_parts {j : Nat} {st : List F} (h : GoodM j st) (k : Nat) : (okL (st.take k) ∧ okL (st.drop k)) ∧ (inV 6 (preL (st.take k)) ∧ inV 6 (preL (st.drop k))) ∧ nodesL (st.take k) + nodesL (st.drop k) ≤ 2 * j ∧ levelsL (st.take k) ≤ 2 * j ∧ levelsL (st.drop k) ≤ 2 * j := by
  have h1 := h.ok
  have h2 := h.vars
  have h3 := h.nodes
  have h4 := h.levels
  rw [← List.take_append_drop k st] at h1 h2 h3 h4
  rw [okL_app] at h1
  rw [preL_app, inV_app] at h2
  rw [nodesL_app] at h3
  rw [levelsL_app] at h4
  exact ⟨h1, h2, h3, by omega, by omega⟩
theorem goodM_add {j : Nat} {a : List F} {t : F} (h1 : okL a) (h2 : okT t) (h3 : inV 6 (preL a)) (h4 : inV 6 (pre t)) (h5 : nodesL a + nodes t ≤ 2 * j) (h6 : levelsL a ≤ 2 * j) (h7 : levels t ≤ 2 * j) : GoodM j (a ++ [t]) := by
  refine ⟨okL_app.2 ⟨h1, h2, trivial⟩, ?_, ?_, ?_⟩
  · rw [preL_app, inV_app]; exact ⟨h3, by rw [preL, preL, List.append_nil]; exact h4⟩
  · rw [nodesL_app, nodesL, nodesL]; omega
  · rw [levelsL_app, levelsL, levelsL]; omega
theorem inV_leaf {k a : Int} (h : k = 1 → 0 ≤ a ∧ a < 6) : inV 6 (pre (nd k a [])) := by
  intro u hu
  rw [pre, preL] at hu
  rcases List.mem_cons.1 hu with rfl | hu
  · exact h
  · cases hu
theorem inV_node {k : Int} {l : List F} (hk : k ≠ 1) (h : inV 6 (preL l)) : inV 6 (pre (nd k 0 l)) := by
  intro u hu
  rw [pre] at hu
  rcases List.mem_cons.1 hu with rfl | hu
  · intro h1; exact absurd h1 hk
  · exact h u hu
theorem goodM_step {j : Nat} {st : List F} (h : GoodM j st) (hj : j ≤ 1000) (c : Nat) : GoodM (j + 1) (stepM st c) := by
  unfold stepM
  split
  · refine goodM_add h.ok ⟨single_var (by omega) (by omega), trivial⟩ h.vars (inV_leaf (fun _ => by omega)) ?_ (by have := h.levels; omega) ?_
    · rw [nodes, nodesL]; have := h.nodes; omega
    · rw [levels, levelsL]; omega
  · split
    · refine goodM_add h.ok ⟨?_, trivial⟩ h.vars (inV_leaf (fun _ => by omega)) ?_ (by have := h.levels; omega) ?_
      · rcases (by omega : c / 8 % 2 = 0 ∨ c / 8 % 2 = 1) with e | e <;> rw [e] <;> rfl
      · rw [nodes, nodesL]; have := h.nodes; omega
      · rw [levels, levelsL]; omega
    · split
      · unfold notM
        obtain ⟨⟨p1, p2⟩, ⟨p3, p4⟩, p5, p6, p7⟩ := goodM_parts h (st.length - 1)
        have key : okT (topM st (c / 8)) ∧ inV 6 (pre (topM st (c / 8))) ∧ nodes (topM st (c / 8)) ≤ 1 + nodesL (st.drop (st.length - 1)) ∧ levels (topM st (c / 8)) ≤ 1 + levelsL (st.drop (st.length - 1)) := by
          unfold topM
          cases hd : st.drop (st.length - 1) with
          | nil => exact ⟨⟨single_var (by omega) (by omega), trivial⟩, inV_leaf (fun _ => by omega), by simp [nodes, nodesL], by simp [levels, levelsL]⟩
          | cons t r =>
            rw [hd] at p2 p4
            rw [preL, inV_app] at p4
            refine ⟨p2.1, p4.1, ?_, ?_⟩
            · rw [nodesL]; dsimp only; omega
            · rw [levelsL]; dsimp only; omega
        obtain ⟨k1, k2, k3, k4⟩ := key
        refine goodM_add p1 ⟨single_not _, k1, trivial⟩ p3 (inV_node (by decide) (by rw [preL, preL, List.append_nil]; exact k2)) ?_ (by omega) ?_
        · rw [nodes, nodesL, nodesL]; omega
        · rw [levels, levelsL, levelsL]; omega
      · unfold joinM
        obtain ⟨⟨p1, p2⟩, ⟨p3, p4⟩, p5, p6, p7⟩ := goodM_parts h (cutM st (c / 8))
        have hl := h.len
        refine goodM_add p1 ⟨single_join (by omega) (by rw [List.length_drop]; omega), p2⟩ p3 (inV_node (by omega) p4) ?_ (by omega) ?_
        · rw [nodes]; omega
        · rw [levels]; omega
theorem goodM_fold : ∀ (l : List UInt8) (j : Nat) (st : List F), GoodM j st → j + l.length ≤ 1000 → GoodM (j + l.length) (l.foldl (fun st c => stepM st c.toNat) st)
  | [], j, st, h, _ => h
  | c :: r, j, st, h, hj => by
    rw [List.length_cons] at hj ⊢
    have := goodM_fold r (j + 1) (stepM st c.toNat) (goodM_step h (by omega) c.toNat) (by omega)
    rw [show j + (r.length + 1) = j + 1 + r.length by omega]
    exact this
theorem mkF_good (code : List UInt8) : okT (mkF code) ∧ inV 6 (pre (mkF code)) ∧ nodes (mkF code) ≤ 61 ∧ levels (mkF code) ≤ 61 := by
  have hl : (code.take 30).length ≤ 30 := by rw [List.length_take]; omega
  have h := goodM_fold (code.take 30) 0 [] goodM_nil (by omega)
  rw [Nat.zero_add] at h
  have h1 := h.nodes
  have h2 := h.levels
  have h3 := h.len
  have h4 := h.ok
  have h5 := h.vars
  change nodesL (runM (code.take 30)) ≤ _ at h1
  change levelsL (runM (code.take 30)) ≤ _ at h2
  change (runM (code.take 30)).length ≤ _ at h3
  change okL (runM (code.take 30)) at h4
  change inV 6 (preL (runM (code.take 30))) at h5
  unfold mkF
  split
  · rename_i t he
    rw [he] at h1 h2 h4 h5
    rw [nodesL, nodesL] at h1
    rw [levelsL, levelsL] at h2
    rw [preL, preL, List.append_nil] at h5
    exact ⟨h4.1, h5, by omega, by omega⟩
  · rename_i st he
    refine ⟨⟨single_join (.inl rfl) (by omega), h4⟩, inV_node (by decide) h5, ?_, ?_⟩
    · rw [nodes]; omega
    · rw [levels]; omega
end Go.Proofs.YtkbellmhanpocaaDoor
