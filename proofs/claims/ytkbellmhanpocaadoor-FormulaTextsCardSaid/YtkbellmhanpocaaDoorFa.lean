/- Trees of formulas: what the functions compute, in plain Lean. -/
import Derived.Test.YtkbellmhanpocaaDoorBase
namespace Go.Proofs.YtkbellmhanpocaaDoor
set_option linter.unusedVariables false
set_option linter.unusedSimpArgs false

/-- A formula, or a tree: a kind, an argument, and inputs. -/
inductive F : Type
  | nd (k a : Int) (l : List F)
namespace F
def k : F → Int | nd k _ _ => k
def a : F → Int | nd _ a _ => a
def l : F → List F | nd _ _ l => l
end F
open F
theorem F_eta (t : F) : t = nd t.k t.a t.l := by cases t; rfl
mutual
def nodes : F → Nat | nd _ _ l => 1 + nodesL l
def nodesL : List F → Nat | [] => 0 | t :: r => nodes t + nodesL r
end
mutual
def levels : F → Nat | nd _ _ l => 1 + levelsL l
def levelsL : List F → Nat | [] => 0 | t :: r => max (levels t) (levelsL r)
end
theorem nodes_pos (t : F) : 0 < nodes t := by cases t; rw [nodes]; omega
theorem levels_pos (t : F) : 0 < levels t := by cases t; rw [levels]; omega
theorem nodesL_app : ∀ l r : List F, nodesL (l ++ r) = nodesL l + nodesL r
  | [], r => by rw [List.nil_append, nodesL]; omega
  | t :: l, r => by rw [List.cons_append, nodesL, nodesL, nodesL_app l r]; omega
theorem levelsL_app : ∀ l r : List F, levelsL (l ++ r) = max (levelsL l) (levelsL r)
  | [], r => by rw [List.nil_append, levelsL]; omega
  | t :: l, r => by rw [List.cons_append, levelsL, levelsL, levelsL_app l r]; omega
theorem nodesL_mem {t : F} : ∀ {l : List F}, t ∈ l → nodes t ≤ nodesL l
  | [], h => by cases h
  | u :: r, h => by
    rw [nodesL]
    rcases List.mem_cons.1 h with rfl | h
    · omega
    · have := nodesL_mem h; omega
theorem levelsL_mem {t : F} : ∀ {l : List F}, t ∈ l → levels t ≤ levelsL l
  | [], h => by cases h
  | u :: r, h => by
    rw [levelsL]
    rcases List.mem_cons.1 h with rfl | h
    · omega
    · have := levelsL_mem h; omega
theorem length_nodesL : ∀ l : List F, l.length ≤ nodesL l
  | [] => by simp
  | t :: r => by have := length_nodesL r; have := nodes_pos t; rw [nodesL, List.length_cons]; omega
mutual
def meas : F → Nat → Nat → Nat → Bool × Nat × Nat
  | nd _ _ l, lv, n, m => if 10000 < n + 1 ∨ 100 < lv then (false, n + 1, max m lv) else measL l (lv + 1) (n + 1) (max m lv)
def measL : List F → Nat → Nat → Nat → Bool × Nat × Nat
  | [], _, n, m => (true, n, m)
  | t :: r, lv, n, m => if (meas t lv n m).1 then measL r lv (meas t lv n m).2.1 (meas t lv n m).2.2 else (false, (meas t lv n m).2.1, (meas t lv n m).2.2)
end
mutual
theorem meas_ok : ∀ (t : F) (lv n m : Nat), n + nodes t ≤ 10000 → lv + levels t ≤ 101 → meas t lv n m = (true, n + nodes t, max m (lv + levels t - 1))
  | nd k a l, lv, n, m, h1, h2 => by
    rw [nodes] at h1 ⊢
    rw [levels] at h2 ⊢
    rw [meas, if_neg (by omega), measL_ok l (lv + 1) (n + 1) (max m lv) (by omega) (by omega)]
    refine Prod.ext rfl (Prod.ext ?_ ?_)
    · show n + 1 + nodesL l = n + (1 + nodesL l); omega
    · show (if l = [] then max m lv else max (max m lv) (lv + 1 + levelsL l - 1)) = max m (lv + (1 + levelsL l) - 1)
      split
      · rename_i h; subst h; rw [levelsL]; omega
      · rename_i h
        have : 0 < levelsL l := by
          cases l with
          | nil => exact absurd rfl h
          | cons t r => have := levels_pos t; rw [levelsL]; omega
        omega
theorem measL_ok : ∀ (l : List F) (lv n m : Nat), n + nodesL l ≤ 10000 → lv + levelsL l ≤ 101 → measL l lv n m = (true, n + nodesL l, if l = [] then m else max m (lv + levelsL l - 1))
  | [], lv, n, m, _, _ => by rw [measL, nodesL, if_pos rfl]; rfl
  | t :: r, lv, n, m, h1, h2 => by
    rw [nodesL] at h1 ⊢
    rw [levelsL] at h2 ⊢
    rw [measL, meas_ok t lv n m (by omega) (by omega)]
    dsimp only
    rw [if_pos rfl, measL_ok r lv (n + nodes t) _ (by omega) (by omega)]
    refine Prod.ext rfl (Prod.ext ?_ ?_)
    · show n + nodes t + nodesL r = n + (nodes t + nodesL r); omega
    · have := levels_pos t
      show (if r = [] then max m (lv + levels t - 1) else max (max m (lv + levels t - 1)) (lv + levelsL r - 1)) = if t :: r = [] then m else max m (lv + max (levels t) (levelsL r) - 1)
      rw [if_neg (fun h : t :: r = [] => by cases h)]
      split
      · rename_i h; subst h; rw [levelsL]; omega
      · omega
end
mutual
theorem meas_inv : ∀ (t : F) (lv n m : Nat), n ≤ 10000 → (meas t lv n m).1 = true → n + nodes t ≤ 10000 ∧ lv + levels t ≤ 101
  | nd k a l, lv, n, m, h0, h => by
    rw [meas] at h
    rw [nodes, levels]
    split at h
    · cases h
    · rename_i hc
      have := measL_inv l (lv + 1) (n + 1) (max m lv) (by omega) (by omega) h
      omega
theorem measL_inv : ∀ (l : List F) (lv n m : Nat), n ≤ 10000 → lv ≤ 101 → (measL l lv n m).1 = true → n + nodesL l ≤ 10000 ∧ lv + levelsL l ≤ 101
  | [], lv, n, m, h0, h1, _ => by rw [nodesL, levelsL]; omega
  | t :: r, lv, n, m, h0, h1, h => by
    rw [measL] at h
    rw [nodesL, levelsL]
    split at h
    · rename_i ht
      have hi := meas_inv t lv n m h0 ht
      have he := meas_ok t lv n m hi.1 hi.2
      rw [he] at h
      have := measL_inv r lv (n + nodes t) _ hi.1 h1 h
      omega
    · cases h
end
mutual
theorem meas_le : ∀ (t : F) (lv n m : Nat), n ≤ 10000 → lv ≤ 101 → (meas t lv n m).2.1 ≤ 10001 ∧ (meas t lv n m).2.2 ≤ max m 101 ∧ ((meas t lv n m).1 = true → (meas t lv n m).2.1 ≤ 10000)
  | nd k a l, lv, n, m, h0, h1 => by
    rw [meas]
    split
    · dsimp only; refine ⟨by omega, by omega, fun h => by cases h⟩
    · rename_i hc
      have := measL_le l (lv + 1) (n + 1) (max m lv) (by omega) (by omega)
      refine ⟨this.1, by omega, this.2.2⟩
theorem measL_le : ∀ (l : List F) (lv n m : Nat), n ≤ 10000 → lv ≤ 101 → (measL l lv n m).2.1 ≤ 10001 ∧ (measL l lv n m).2.2 ≤ max m 101 ∧ ((measL l lv n m).1 = true → (measL l lv n m).2.1 ≤ 10000)
  | [], lv, n, m, h0, h1 => by rw [measL]; dsimp only; omega
  | t :: r, lv, n, m, h0, h1 => by
    have ht := meas_le t lv n m h0 h1
    rw [measL]
    split
    · rename_i hc
      have := measL_le r lv _ (meas t lv n m).2.2 (ht.2.2 hc) h1
      refine ⟨this.1, by omega, this.2.2⟩
    · dsimp only; exact ⟨ht.1, ht.2.1, fun h => by cases h⟩
end
/-- A formula keeps the limits. -/
def fitsF (t : F) : Bool := decide (nodes t ≤ 10000 ∧ levels t ≤ 100)
theorem meas_fits (t : F) : (meas t 1 0 0).1 = fitsF t := by
  unfold fitsF
  by_cases h : nodes t ≤ 10000 ∧ levels t ≤ 100
  · rw [meas_ok t 1 0 0 (by omega) (by omega), decide_eq_true h]
  · rw [decide_eq_false h]
    cases hm : (meas t 1 0 0).1 with
    | false => rfl
    | true => have := meas_inv t 1 0 0 (by omega) hm; omega
mutual
def pre : F → List F | nd k a l => nd k a l :: preL l
def preL : List F → List F | [] => [] | t :: r => pre t ++ preL r
end
theorem pre_eq (t : F) : pre t = t :: preL t.l := by cases t; rfl
mutual
theorem pre_len : ∀ t : F, (pre t).length = nodes t | nd k a l => by rw [pre, nodes, List.length_cons, preL_len l]; omega
theorem preL_len : ∀ l : List F, (preL l).length = nodesL l | [] => rfl | t :: r => by rw [preL, nodesL, List.length_append, pre_len t, preL_len r]
end
theorem preL_app : ∀ l r : List F, preL (l ++ r) = preL l ++ preL r
  | [], r => rfl
  | t :: l, r => by rw [List.cons_append, preL, preL, preL_app l r, List.append_assoc]
/-- The error of a node by itself. -/
def single : F → Int
  | nd k a l => if k = 1 then (if a < 0 ∨ 4096 ≤ a then 3 else if l.length = 0 then 0 else 7)
    else if k = 2 then (if a = 0 ∧ l.length = 1 then 0 else 7)
    else if k = 3 ∨ k = 4 then (if a = 0 ∧ l.length ≤ 10000 then 0 else 7)
    else if k = 5 ∨ k = 6 then (if a = 0 ∧ l.length = 0 then 0 else 7)
    else 12
/-- The first error. -/
def firstE : List F → Int
  | [] => 0
  | t :: r => if single t = 0 then firstE r else single t
theorem firstE_app : ∀ l r : List F, firstE (l ++ r) = if firstE l = 0 then firstE r else firstE l
  | [], r => rfl
  | t :: l, r => by
    rw [List.cons_append, firstE, firstE, firstE_app l r]
    split <;> simp_all
def checkF (t : F) : Int := if fitsF t then firstE (pre t) else 4
/-- A right formula, by its nodes. -/
def okN (t : F) : Prop := single t = 0
mutual
def okT : F → Prop | nd k a l => single (nd k a l) = 0 ∧ okL l
def okL : List F → Prop | [] => True | t :: r => okT t ∧ okL r
end
mutual
theorem okT_iff : ∀ t : F, okT t ↔ firstE (pre t) = 0
  | nd k a l => by
    rw [okT, pre, firstE, okL_iff l]
    constructor
    · rintro ⟨h1, h2⟩; rw [if_pos h1]; exact h2
    · intro h
      by_cases h1 : single (nd k a l) = 0
      · rw [if_pos h1] at h; exact ⟨h1, h⟩
      · rw [if_neg h1] at h; exact absurd h h1
theorem okL_iff : ∀ l : List F, okL l ↔ firstE (preL l) = 0
  | [] => by rw [okL, preL, firstE]; simp
  | t :: r => by
    rw [okL, preL, firstE_app, okT_iff t, okL_iff r]
    constructor
    · rintro ⟨h1, h2⟩; rw [if_pos h1]; exact h2
    · intro h
      by_cases h1 : firstE (pre t) = 0
      · rw [if_pos h1] at h; exact ⟨h1, h⟩
      · rw [if_neg h1] at h; exact absurd h h1
end
theorem okL_mem {t : F} : ∀ {l : List F}, okL l → t ∈ l → okT t
  | [], _, h => by cases h
  | u :: r, ho, h => by
    rw [okL] at ho
    rcases List.mem_cons.1 h with rfl | h
    · exact ho.1
    · exact okL_mem ho.2 h
theorem okL_of {l : List F} (h : ∀ t ∈ l, okT t) : okL l := by
  induction l with
  | nil => trivial
  | cons t r ih => rw [okL]; exact ⟨h t (List.mem_cons_self ..), ih fun u hu => h u (List.mem_cons_of_mem _ hu)⟩
theorem okT_l {t : F} (h : okT t) : okL t.l := by cases t; exact h.2
theorem okT_s {t : F} (h : okT t) : single t = 0 := by cases t; exact h.1
theorem checkF_ok {t : F} : checkF t = 0 ↔ fitsF t = true ∧ okT t := by
  unfold checkF
  split
  · rename_i h; rw [okT_iff]; simp [h]
  · rename_i h; simp [h]
end Go.Proofs.YtkbellmhanpocaaDoor
