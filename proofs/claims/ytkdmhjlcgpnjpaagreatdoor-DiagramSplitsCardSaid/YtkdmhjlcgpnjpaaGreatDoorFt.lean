/- Trees of formulas: what the functions compute, in plain Lean. Values, normal forms, and replaced variables of trees, in plain Lean. The simplified form of trees, in plain Lean. Texts of trees, in plain Lean: no text begins another one. What Make makes, in plain Lean. The variables that occur, in plain Lean. Simplified joins, step by step, in plain Lean. -/
import Derived.Test.YtkdmhjlcgpnjpaaGreatDoorCm
import Derived.Lib.Itoa
import Derived.Lib.ItoaLen
import Derived.Lib.SlicesCompact
namespace Go.Proofs.YtkdmhjlcgpnjpaaGreatDoor
set_option linter.unusedVariables false
set_option linter.unusedSimpArgs false

/-- A formula, or a tree: a kind, an argument, and inputs. -/
inductive F : Type
  | nd (k a : Int) (l : List F)
namespace F
def k : F → Int | nd k _ _ => k
def a : F → Int | nd _ a _ => a
def l : F → List F | nd _ _ l => l
end F
open F
theorem F_eta (t : F) : t = nd t.k t.a t.l := by cases t; rfl
mutual
def nodes : F → Nat | nd _ _ l => 1 + nodesL l
def nodesL : List F → Nat | [] => 0 | t :: r => nodes t + nodesL r
end
mutual
def levels : F → Nat | nd _ _ l => 1 + levelsL l
def levelsL : List F → Nat | [] => 0 | t :: r => max (levels t) (levelsL r)
end
theorem nodes_pos (t : F) : 0 < nodes t := by cases t; rw [nodes]; omega
theorem levels_pos (t : F) : 0 < levels t := by cases t; rw [levels]; omega
theorem nodesL_app : ∀ l r : List F, nodesL (l ++ r) = nodesL l + nodesL r
  | [], r => by rw [List.nil_append, nodesL]; omega
  | t :: l, r => by rw [List.cons_append, nodesL, nodesL, nodesL_app l r]; omega
theorem levelsL_app : ∀ l r : List F, levelsL (l ++ r) = max (levelsL l) (levelsL r)
  | [], r => by rw [List.nil_append, levelsL]; omega
  | t :: l, r => by rw [List.cons_append, levelsL, levelsL, levelsL_app l r]; omega
theorem nodesL_mem {t : F} : ∀ {l : List F}, t ∈ l → nodes t ≤ nodesL l
  | [], h => by cases h
  | u :: r, h => by
    rw [nodesL]
    rcases List.mem_cons.1 h with rfl | h
    · omega
    · have := nodesL_mem h; omega
theorem levelsL_mem {t : F} : ∀ {l : List F}, t ∈ l → levels t ≤ levelsL l
  | [], h => by cases h
  | u :: r, h => by
    rw [levelsL]
    rcases List.mem_cons.1 h with rfl | h
    · omega
    · have := levelsL_mem h; omega
theorem length_nodesL : ∀ l : List F, l.length ≤ nodesL l
  | [] => by simp
  | t :: r => by have := length_nodesL r; have := nodes_pos t; rw [nodesL, List.length_cons]; omega
mutual
def meas : F → Nat → Nat → Nat → Bool × Nat × Nat
  | nd _ _ l, lv, n, m => if 10000 < n + 1 ∨ 100 < lv then (false, n + 1, max m lv) else measL l (lv + 1) (n + 1) (max m lv)
def measL : List F → Nat → Nat → Nat → Bool × Nat × Nat
  | [], _, n, m => (true, n, m)
  | t :: r, lv, n, m => if (meas t lv n m).1 then measL r lv (meas t lv n m).2.1 (meas t lv n m).2.2 else (false, (meas t lv n m).2.1, (meas t lv n m).2.2)
end
mutual
theorem meas_ok : ∀ (t : F) (lv n m : Nat), n + nodes t ≤ 10000 → lv + levels t ≤ 101 → meas t lv n m = (true, n + nodes t, max m (lv + levels t - 1))
  | nd k a l, lv, n, m, h1, h2 => by
    rw [nodes] at h1 ⊢
    rw [levels] at h2 ⊢
    rw [meas, if_neg (by omega), measL_ok l (lv + 1) (n + 1) (max m lv) (by omega) (by omega)]
    refine Prod.ext rfl (Prod.ext ?_ ?_)
    · show n + 1 + nodesL l = n + (1 + nodesL l); omega
    · show (if l = [] then max m lv else max (max m lv) (lv + 1 + levelsL l - 1)) = max m (lv + (1 + levelsL l) - 1)
      split
      · rename_i h; subst h; rw [levelsL]; omega
      · rename_i h
        have : 0 < levelsL l := by
          cases l with
          | nil => exact absurd rfl h
          | cons t r => have := levels_pos t; rw [levelsL]; omega
        omega
theorem measL_ok : ∀ (l : List F) (lv n m : Nat), n + nodesL l ≤ 10000 → lv + levelsL l ≤ 101 → measL l lv n m = (true, n + nodesL l, if l = [] then m else max m (lv + levelsL l - 1))
  | [], lv, n, m, _, _ => by rw [measL, nodesL, if_pos rfl]; rfl
  | t :: r, lv, n, m, h1, h2 => by
    rw [nodesL] at h1 ⊢
    rw [levelsL] at h2 ⊢
    rw [measL, meas_ok t lv n m (by omega) (by omega)]
    dsimp only
    rw [if_pos rfl, measL_ok r lv (n + nodes t) _ (by omega) (by omega)]
    refine Prod.ext rfl (Prod.ext ?_ ?_)
    · show n + nodes t + nodesL r = n + (nodes t + nodesL r); omega
    · have := levels_pos t
      show (if r = [] then max m (lv + levels t - 1) else max (max m (lv + levels t - 1)) (lv + levelsL r - 1)) = if t :: r = [] then m else max m (lv + max (levels t) (levelsL r) - 1)
      rw [if_neg (fun h : t :: r = [] => by cases h)]
      split
      · rename_i h; subst h; rw [levelsL]; omega
      · omega
end
mutual
theorem meas_inv : ∀ (t : F) (lv n m : Nat), n ≤ 10000 → (meas t lv n m).1 = true → n + nodes t ≤ 10000 ∧ lv + levels t ≤ 101
  | nd k a l, lv, n, m, h0, h => by
    rw [meas] at h
    rw [nodes, levels]
    split at h
    · cases h
    · rename_i hc
      have := measL_inv l (lv + 1) (n + 1) (max m lv) (by omega) (by omega) h
      omega
theorem measL_inv : ∀ (l : List F) (lv n m : Nat), n ≤ 10000 → lv ≤ 101 → (measL l lv n m).1 = true → n + nodesL l ≤ 10000 ∧ lv + levelsL l ≤ 101
  | [], lv, n, m, h0, h1, _ => by rw [nodesL, levelsL]; omega
  | t :: r, lv, n, m, h0, h1, h => by
    rw [measL] at h
    rw [nodesL, levelsL]
    split at h
    · rename_i ht
      have hi := meas_inv t lv n m h0 ht
      have he := meas_ok t lv n m hi.1 hi.2
      rw [he] at h
      have := measL_inv r lv (n + nodes t) _ hi.1 h1 h
      omega
    · cases h
end
mutual
theorem meas_le : ∀ (t : F) (lv n m : Nat), n ≤ 10000 → lv ≤ 101 → (meas t lv n m).2.1 ≤ 10001 ∧ (meas t lv n m).2.2 ≤ max m 101 ∧ ((meas t lv n m).1 = true → (meas t lv n m).2.1 ≤ 10000)
  | nd k a l, lv, n, m, h0, h1 => by
    rw [meas]
    split
    · dsimp only; refine ⟨by omega, by omega, fun h => by cases h⟩
    · rename_i hc
      have := measL_le l (lv + 1) (n + 1) (max m lv) (by omega) (by omega)
      refine ⟨this.1, by omega, this.2.2⟩
theorem measL_le : ∀ (l : List F) (lv n m : Nat), n ≤ 10000 → lv ≤ 101 → (measL l lv n m).2.1 ≤ 10001 ∧ (measL l lv n m).2.2 ≤ max m 101 ∧ ((measL l lv n m).1 = true → (measL l lv n m).2.1 ≤ 10000)
  | [], lv, n, m, h0, h1 => by rw [measL]; dsimp only; omega
  | t :: r, lv, n, m, h0, h1 => by
    have ht := meas_le t lv n m h0 h1
    rw [measL]
    split
    · rename_i hc
      have := measL_le r lv _ (meas t lv n m).2.2 (ht.2.2 hc) h1
      refine ⟨this.1, by omega, this.2.2⟩
    · dsimp only; exact ⟨ht.1, ht.2.1, fun h => by cases h⟩
end
/-- A formula keeps the limits. -/
def fitsF (t : F) : Bool := decide (nodes t ≤ 10000 ∧ levels t ≤ 100)
theorem meas_fits (t : F) : (meas t 1 0 0).1 = fitsF t := by
  unfold fitsF
  by_cases h : nodes t ≤ 10000 ∧ levels t ≤ 100
  · rw [meas_ok t 1 0 0 (by omega) (by omega), decide_eq_true h]
  · rw [decide_eq_false h]
    cases hm : (meas t 1 0 0).1 with
    | false => rfl
    | true => have := meas_inv t 1 0 0 (by omega) hm; omega
mutual
def pre : F → List F | nd k a l => nd k a l :: preL l
def preL : List F → List F | [] => [] | t :: r => pre t ++ preL r
end
theorem pre_eq (t : F) : pre t = t :: preL t.l := by cases t; rfl
mutual
theorem pre_len : ∀ t : F, (pre t).length = nodes t | nd k a l => by rw [pre, nodes, List.length_cons, preL_len l]; omega
theorem preL_len : ∀ l : List F, (preL l).length = nodesL l | [] => rfl | t :: r => by rw [preL, nodesL, List.length_append, pre_len t, preL_len r]
end
theorem preL_app : ∀ l r : List F, preL (l ++ r) = preL l ++ preL r
  | [], r => rfl
  | t :: l, r => by rw [List.cons_append, preL, preL, preL_app l r, List.append_assoc]
/-- The error of a node by itself. -/
def single : F → Int
  | nd k a l => if k = 1 then (if a < 0 ∨ 4096 ≤ a then 3 else if l.length = 0 then 0 else 7)
    else if k = 2 then (if a = 0 ∧ l.length = 1 then 0 else 7)
    else if k = 3 ∨ k = 4 then (if a = 0 ∧ l.length ≤ 10000 then 0 else 7)
    else if k = 5 ∨ k = 6 then (if a = 0 ∧ l.length = 0 then 0 else 7)
    else 12
/-- The first error. -/
def firstE : List F → Int
  | [] => 0
  | t :: r => if single t = 0 then firstE r else single t
theorem firstE_app : ∀ l r : List F, firstE (l ++ r) = if firstE l = 0 then firstE r else firstE l
  | [], r => rfl
  | t :: l, r => by
    rw [List.cons_append, firstE, firstE, firstE_app l r]
    split <;> simp_all
def checkF (t : F) : Int := if fitsF t then firstE (pre t) else 4
/-- A right formula, by its nodes. -/
def okN (t : F) : Prop := single t = 0
mutual
def okT : F → Prop | nd k a l => single (nd k a l) = 0 ∧ okL l
def okL : List F → Prop | [] => True | t :: r => okT t ∧ okL r
end
mutual
theorem okT_iff : ∀ t : F, okT t ↔ firstE (pre t) = 0
  | nd k a l => by
    rw [okT, pre, firstE, okL_iff l]
    constructor
    · rintro ⟨h1, h2⟩; rw [if_pos h1]; exact h2
    · intro h
      by_cases h1 : single (nd k a l) = 0
      · rw [if_pos h1] at h; exact ⟨h1, h⟩
      · rw [if_neg h1] at h; exact absurd h h1
theorem okL_iff : ∀ l : List F, okL l ↔ firstE (preL l) = 0
  | [] => by rw [okL, preL, firstE]; simp
  | t :: r => by
    rw [okL, preL, firstE_app, okT_iff t, okL_iff r]
    constructor
    · rintro ⟨h1, h2⟩; rw [if_pos h1]; exact h2
    · intro h
      by_cases h1 : firstE (pre t) = 0
      · rw [if_pos h1] at h; exact ⟨h1, h⟩
      · rw [if_neg h1] at h; exact absurd h h1
end
theorem okL_mem {t : F} : ∀ {l : List F}, okL l → t ∈ l → okT t
  | [], _, h => by cases h
  | u :: r, ho, h => by
    rw [okL] at ho
    rcases List.mem_cons.1 h with rfl | h
    · exact ho.1
    · exact okL_mem ho.2 h
theorem okL_of {l : List F} (h : ∀ t ∈ l, okT t) : okL l := by
  induction l with
  | nil => trivial
  | cons t r ih => rw [okL]; exact ⟨h t (List.mem_cons_self ..), ih fun u hu => h u (List.mem_cons_of_mem _ hu)⟩
theorem okT_l {t : F} (h : okT t) : okL t.l := by cases t; exact h.2
theorem okT_s {t : F} (h : okT t) : single t = 0 := by cases t; exact h.1
theorem checkF_ok {t : F} : checkF t = 0 ↔ fitsF t = true ∧ okT t := by
  unfold checkF
  split
  · rename_i h; rw [okT_iff]; simp [h]
  · rename_i h; simp [h]
end Go.Proofs.YtkdmhjlcgpnjpaaGreatDoor

namespace Go.Proofs.YtkdmhjlcgpnjpaaGreatDoor
set_option linter.unusedVariables false
set_option linter.unusedSimpArgs false
open F

/-- The constant of a value. -/
def cst (b : Bool) : F := nd (if b then 6 else 5) 0 []
mutual
def val (ρ : Int → Bool) : F → Bool
  | nd k a l => if k = 1 then ρ a else if k = 2 then !valH ρ l else if k = 3 then valA ρ l else if k = 4 then valO ρ l else decide (k = 6)
def valH (ρ : Int → Bool) : List F → Bool | [] => false | t :: _ => val ρ t
def valA (ρ : Int → Bool) : List F → Bool | [] => true | t :: r => val ρ t && valA ρ r
def valO (ρ : Int → Bool) : List F → Bool | [] => false | t :: r => val ρ t || valO ρ r
end
mutual
def nrm : F → Bool → F
  | nd k a l, g => if k = 1 then (if g then nd 2 0 [nd 1 a l] else nd 1 a l) else if k = 2 then nrmH l (!g) else if k = 5 ∨ k = 6 then cst (decide (k = 6) != g) else nd (if g then 7 - k else k) 0 (nrmL l g)
def nrmH : List F → Bool → F | [], _ => nd 0 0 [] | t :: _, g => nrm t g
def nrmL : List F → Bool → List F | [], _ => [] | t :: r, g => nrm t g :: nrmL r g
end
theorem nrmL_len : ∀ (l : List F) (g : Bool), (nrmL l g).length = l.length
  | [], _ => rfl
  | t :: r, g => by rw [nrmL, List.length_cons, nrmL_len r g, List.length_cons]
/-- The kinds of a right formula. -/
theorem single_cases {k a : Int} {l : List F} (h : single (nd k a l) = 0) :
    (k = 1 ∧ 0 ≤ a ∧ a < 4096 ∧ l = []) ∨ (k = 2 ∧ a = 0 ∧ ∃ t, l = [t]) ∨ ((k = 3 ∨ k = 4) ∧ a = 0 ∧ l.length ≤ 10000) ∨ ((k = 5 ∨ k = 6) ∧ a = 0 ∧ l = []) := by
  rw [single] at h
  split at h
  · rename_i hk
    split at h
    · cases h
    · split at h
      · rename_i h1 h2
        exact .inl ⟨hk, by omega, by omega, List.length_eq_zero_iff.1 h2⟩
      · cases h
  · split at h
    · rename_i _ hk
      split at h
      · rename_i h1
        exact .inr (.inl ⟨hk, h1.1, List.length_eq_one_iff.1 h1.2⟩)
      · cases h
    · split at h
      · rename_i _ _ hk
        split at h
        · rename_i h1
          exact .inr (.inr (.inl ⟨hk, h1.1, h1.2⟩))
        · cases h
      · split at h
        · rename_i _ _ _ hk
          split at h
          · rename_i h1
            exact .inr (.inr (.inr ⟨hk, h1.1, List.length_eq_zero_iff.1 h1.2⟩))
          · cases h
        · cases h
theorem single_var {a : Int} (h0 : 0 ≤ a) (h1 : a < 4096) : single (nd 1 a []) = 0 := by
  rw [single, if_pos rfl, if_neg (by omega)]; rfl
theorem single_not (t : F) : single (nd 2 0 [t]) = 0 := by
  rfl
theorem single_join {k : Int} (hk : k = 3 ∨ k = 4) {l : List F} (h : l.length ≤ 10000) : single (nd k 0 l) = 0 := by
  rw [single, if_neg (by omega), if_neg (by omega), if_pos hk, if_pos ⟨rfl, h⟩]
theorem okT_cst (b : Bool) : okT (cst b) := by cases b <;> exact ⟨rfl, trivial⟩
mutual
theorem nrm_ok : ∀ (t : F) (g : Bool), okT t → okT (nrm t g)
  | nd k a l, g, h => by
    rcases single_cases h.1 with ⟨rfl, h1, h2, rfl⟩ | ⟨rfl, rfl, t, rfl⟩ | ⟨hk, rfl, hl⟩ | ⟨hk, rfl, rfl⟩
    · rw [nrm, if_pos rfl]
      cases g
      · exact h
      · exact ⟨single_not _, h, trivial⟩
    · rw [nrm, if_neg (by decide), if_pos rfl, nrmH]
      exact nrm_ok t (!g) h.2.1
    · rw [nrm, if_neg (by omega), if_neg (by omega), if_neg (by omega)]
      exact ⟨single_join (by cases g <;> simp <;> omega) (by rw [nrmL_len]; exact hl), nrmL_ok l g h.2⟩
    · rw [nrm, if_neg (by omega), if_neg (by omega), if_pos (by omega)]
      exact okT_cst _
theorem nrmL_ok : ∀ (l : List F) (g : Bool), okL l → okL (nrmL l g)
  | [], _, _ => trivial
  | t :: r, g, h => by rw [nrmL]; exact ⟨nrm_ok t g h.1, nrmL_ok r g h.2⟩
end
mutual
theorem nrm_size : ∀ (t : F) (g : Bool), okT t → nodes (nrm t g) ≤ 2 * nodes t ∧ levels (nrm t g) ≤ levels t + 1
  | nd k a l, g, h => by
    rcases single_cases h.1 with ⟨rfl, h1, h2, rfl⟩ | ⟨rfl, rfl, t, rfl⟩ | ⟨hk, rfl, hl⟩ | ⟨hk, rfl, rfl⟩
    · rw [nrm, if_pos rfl]
      cases g <;> simp [nodes, nodesL, levels, levelsL]
    · rw [nrm, if_neg (by decide), if_pos rfl, nrmH]
      have := nrm_size t (!g) h.2.1
      simp [nodes, nodesL, levels, levelsL]
      omega
    · rw [nrm, if_neg (by omega), if_neg (by omega), if_neg (by omega)]
      have := nrmL_size l g h.2
      simp only [nodes, levels]
      omega
    · rw [nrm, if_neg (by omega), if_neg (by omega), if_pos (by omega)]
      simp [cst, nodes, nodesL, levels, levelsL]
theorem nrmL_size : ∀ (l : List F) (g : Bool), okL l → nodesL (nrmL l g) ≤ 2 * nodesL l ∧ levelsL (nrmL l g) ≤ levelsL l + 1
  | [], _, _ => by simp [nrmL, nodesL, levelsL]
  | t :: r, g, h => by
    have h1 := nrm_size t g h.1
    have h2 := nrmL_size r g h.2
    simp only [nrmL, nodesL, levelsL]
    omega
end
mutual
theorem val_nrm (ρ : Int → Bool) : ∀ (t : F) (g : Bool), okT t → val ρ (nrm t g) = (val ρ t != g)
  | nd k a l, g, h => by
    rcases single_cases h.1 with ⟨rfl, h1, h2, rfl⟩ | ⟨rfl, rfl, t, rfl⟩ | ⟨hk, rfl, hl⟩ | ⟨hk, rfl, rfl⟩
    · rw [nrm, if_pos rfl]
      cases g <;> simp [val, valH]
    · rw [nrm, if_neg (by decide), if_pos rfl, nrmH, val_nrm ρ t (!g) h.2.1]
      simp only [val, valH]
      cases val ρ t <;> cases g <;> rfl
    · rw [nrm, if_neg (by omega), if_neg (by omega), if_neg (by omega)]
      have := val_nrmL ρ l g h.2
      rcases hk with rfl | rfl <;> cases g <;> simp [val, this]
    · rw [nrm, if_neg (by omega), if_neg (by omega), if_pos (by omega)]
      rcases hk with rfl | rfl <;> cases g <;> simp [cst, val]
theorem val_nrmL (ρ : Int → Bool) : ∀ (l : List F) (g : Bool), okL l → valA ρ (nrmL l g) = (if g then !valO ρ l else valA ρ l) ∧ valO ρ (nrmL l g) = (if g then !valA ρ l else valO ρ l)
  | [], g, _ => by cases g <;> simp [nrmL, valA, valO]
  | t :: r, g, h => by
    have h1 := val_nrm ρ t g h.1
    have h2 := val_nrmL ρ r g h.2
    simp only [nrmL, valA, valO, h1, h2.1, h2.2]
    cases g <;> cases val ρ t <;> simp
end
mutual
def lit : F → Bool | nd k _ l => litL k l
def litL (k : Int) : List F → Bool | [] => true | t :: r => lit t && !(decide (k = 2) && decide (t.k ≠ 1)) && litL k r
end
theorem litL_join {k : Int} (hk : k ≠ 2) {l : List F} (h : ∀ t ∈ l, lit t = true) : litL k l = true := by
  induction l with
  | nil => rfl
  | cons t r ih => rw [litL, h t (List.mem_cons_self ..), decide_eq_false hk, ih fun u hu => h u (List.mem_cons_of_mem _ hu)]; rfl
mutual
theorem nrm_lit : ∀ (t : F) (g : Bool), okT t → lit (nrm t g) = true
  | nd k a l, g, h => by
    rcases single_cases h.1 with ⟨rfl, h1, h2, rfl⟩ | ⟨rfl, rfl, t, rfl⟩ | ⟨hk, rfl, hl⟩ | ⟨hk, rfl, rfl⟩
    · rw [nrm, if_pos rfl]
      cases g <;> simp [lit, litL, F.k]
    · rw [nrm, if_neg (by decide), if_pos rfl, nrmH]
      exact nrm_lit t (!g) h.2.1
    · rw [nrm, if_neg (by omega), if_neg (by omega), if_neg (by omega), lit]
      exact litL_join (by cases g <;> simp <;> omega) (nrmL_lit l g h.2)
    · rw [nrm, if_neg (by omega), if_neg (by omega), if_pos (by omega)]
      simp [cst, lit, litL]
theorem nrmL_lit : ∀ (l : List F) (g : Bool), okL l → ∀ t ∈ nrmL l g, lit t = true
  | [], _, _, t, ht => by cases ht
  | u :: r, g, h, t, ht => by
    rw [nrmL] at ht
    rcases List.mem_cons.1 ht with rfl | ht
    · exact nrm_lit u g h.1
    · exact nrmL_lit r g h.2 t ht
end
mutual
theorem nrm_nrm : ∀ (t : F) (g : Bool), okT t → nrm (nrm t g) false = nrm t g
  | nd k a l, g, h => by
    rcases single_cases h.1 with ⟨rfl, h1, h2, rfl⟩ | ⟨rfl, rfl, t, rfl⟩ | ⟨hk, rfl, hl⟩ | ⟨hk, rfl, rfl⟩
    · cases g <;> simp [nrm, nrmH]
    · rw [nrm, if_neg (by decide), if_pos rfl, nrmH]
      exact nrm_nrm t (!g) h.2.1
    · rw [nrm, if_neg (by omega), if_neg (by omega), if_neg (by omega)]
      have := nrmL_nrmL l g h.2
      rcases hk with rfl | rfl <;> cases g <;> simp [nrm, this]
    · rw [nrm, if_neg (by omega), if_neg (by omega), if_pos (by omega)]
      rcases hk with rfl | rfl <;> cases g <;> simp [cst, nrm]
theorem nrmL_nrmL : ∀ (l : List F) (g : Bool), okL l → nrmL (nrmL l g) false = nrmL l g
  | [], _, _ => rfl
  | t :: r, g, h => by simp only [nrmL, nrm_nrm t g h.1, nrmL_nrmL r g h.2]
end
mutual
def put (x : Int) (b : F) : F → F | nd k a l => if k = 1 ∧ a = x then b else nd k a (putL x b l)
def putL (x : Int) (b : F) : List F → List F | [] => [] | t :: r => put x b t :: putL x b r
end
theorem putL_len (x : Int) (b : F) : ∀ l : List F, (putL x b l).length = l.length
  | [] => rfl
  | t :: r => by rw [putL, List.length_cons, putL_len x b r, List.length_cons]
mutual
theorem put_ok (x : Int) (b : F) (hb : okT b) : ∀ t : F, okT t → okT (put x b t)
  | nd k a l, h => by
    rw [put]
    split
    · exact hb
    · refine ⟨?_, putL_ok x b hb l h.2⟩
      have := h.1
      rw [single] at this ⊢
      simp only [putL_len]
      exact this
theorem putL_ok (x : Int) (b : F) (hb : okT b) : ∀ l : List F, okL l → okL (putL x b l)
  | [], _ => trivial
  | t :: r, h => by rw [putL]; exact ⟨put_ok x b hb t h.1, putL_ok x b hb r h.2⟩
end
mutual
theorem put_size (x : Int) (b : F) : ∀ t : F, nodes (put x b t) ≤ nodes t * nodes b ∧ levels (put x b t) ≤ levels t + levels b
  | nd k a l => by
    have hb := nodes_pos b
    rw [put]
    split
    · simp only [nodes, levels]
      exact ⟨Nat.le_trans (by omega) (Nat.le_mul_of_pos_left (nodes b) (show 0 < 1 + nodesL l by omega)), by omega⟩
    · have := putL_size x b l
      simp only [nodes, levels, Nat.add_mul, Nat.one_mul]
      omega
theorem putL_size (x : Int) (b : F) : ∀ l : List F, nodesL (putL x b l) ≤ nodesL l * nodes b ∧ levelsL (putL x b l) ≤ levelsL l + levels b
  | [] => by simp [putL, nodesL, levelsL]
  | t :: r => by
    have h1 := put_size x b t
    have h2 := putL_size x b r
    simp only [putL, nodesL, levelsL, Nat.add_mul]
    omega
end
/-- A valuation with another value of a variable. -/
def upd (ρ : Int → Bool) (x : Int) (v : Bool) : Int → Bool := fun y => if y = x then v else ρ y
mutual
theorem val_put (ρ : Int → Bool) (x : Int) (b : F) : ∀ t : F, val ρ (put x b t) = val (upd ρ x (val ρ b)) t
  | nd k a l => by
    rw [put]
    split
    · rename_i h
      rw [h.1, h.2, val, if_pos rfl, upd, if_pos rfl]
    · rename_i h
      have hl := val_putL ρ x b l
      simp only [val, hl.1, hl.2.1, hl.2.2]
      split
      · rename_i hk
        rw [upd, if_neg (fun e => h ⟨hk, e⟩)]
      · rfl
theorem val_putL (ρ : Int → Bool) (x : Int) (b : F) : ∀ l : List F, valH ρ (putL x b l) = valH (upd ρ x (val ρ b)) l ∧ valA ρ (putL x b l) = valA (upd ρ x (val ρ b)) l ∧ valO ρ (putL x b l) = valO (upd ρ x (val ρ b)) l
  | [] => ⟨rfl, rfl, rfl⟩
  | t :: r => by
    have h1 := val_put ρ x b t
    have h2 := val_putL ρ x b r
    simp only [putL, valH, valA, valO, h1, h2.2.1, h2.2.2]
    exact ⟨trivial, trivial, trivial⟩
end
mutual
def occ (x : Int) : F → Bool | nd k a l => if k = 1 then decide (a = x) else occL x l
def occL (x : Int) : List F → Bool | [] => false | t :: r => occ x t || occL x r
end
mutual
theorem put_none (x : Int) (b : F) : ∀ t : F, okT t → occ x t = false → put x b t = t
  | nd k a l, ho, h => by
    rw [occ] at h
    rw [put]
    split
    · rename_i hk
      rw [if_pos hk.1] at h
      simp [hk.2] at h
    · split at h
      · rename_i hk
        rcases single_cases ho.1 with ⟨_, _, _, rfl⟩ | ⟨e, _⟩ | ⟨e, _⟩ | ⟨e, _⟩
        · rfl
        · omega
        · omega
        · omega
      · rw [putL_none x b l ho.2 h]
theorem putL_none (x : Int) (b : F) : ∀ l : List F, okL l → occL x l = false → putL x b l = l
  | [], _, _ => rfl
  | t :: r, ho, h => by
    rw [occL, Bool.or_eq_false_iff] at h
    rw [putL, put_none x b t ho.1 h.1, putL_none x b r ho.2 h.2]
end
mutual
theorem occ_put (x : Int) (b : F) (hb : occ x b = false) : ∀ t : F, occ x (put x b t) = false
  | nd k a l => by
    rw [put]
    split
    · exact hb
    · rename_i h
      rw [occ]
      split
      · rename_i hk; exact decide_eq_false (fun e => h ⟨hk, e⟩)
      · exact occL_put x b hb l
theorem occL_put (x : Int) (b : F) (hb : occ x b = false) : ∀ l : List F, occL x (putL x b l) = false
  | [] => rfl
  | t :: r => by rw [putL, occL, occ_put x b hb t, occL_put x b hb r]; rfl
end
/-- The variables that occur. -/
def varsOf (l : List F) : List Int := l.filterMap fun t => if t.k = 1 then some t.a else none
theorem varsOf_app (l r : List F) : varsOf (l ++ r) = varsOf l ++ varsOf r := List.filterMap_append
mutual
theorem occ_mem (x : Int) : ∀ t : F, okT t → (occ x t = true ↔ x ∈ varsOf (pre t))
  | nd k a l, h => by
    rw [occ, pre, show (nd k a l :: preL l) = [nd k a l] ++ preL l from rfl, varsOf_app]
    rcases single_cases h.1 with ⟨rfl, h1, h2, rfl⟩ | ⟨hk, _⟩ | ⟨hk, _⟩ | ⟨hk, _⟩
    · rw [if_pos rfl]; simp [varsOf, preL, F.k, F.a, eq_comm]
    all_goals
      rw [if_neg (by omega), occL_mem x l h.2]
      simp [varsOf, F.k, show ¬ k = 1 by omega]
theorem occL_mem (x : Int) : ∀ l : List F, okL l → (occL x l = true ↔ x ∈ varsOf (preL l))
  | [], _ => by simp [occL, preL, varsOf]
  | t :: r, h => by rw [occL, preL, varsOf_app, Bool.or_eq_true, occ_mem x t h.1, occL_mem x r h.2, List.mem_append]
end
mutual
theorem val_congr {ρ σ : Int → Bool} : ∀ t : F, okT t → (∀ x, occ x t = true → ρ x = σ x) → val ρ t = val σ t
  | nd k a l, ho, h => by
    rcases single_cases ho.1 with ⟨rfl, h1, h2, rfl⟩ | ⟨hk, _⟩ | ⟨hk, _⟩ | ⟨hk, _⟩
    · rw [val, val, if_pos rfl, if_pos rfl]
      exact h a (by rw [occ, if_pos rfl]; exact decide_eq_true rfl)
    all_goals
      have := val_congrL l ho.2 (fun x hx => h x (by rw [occ, if_neg (by omega)]; exact hx))
      simp only [val, this.1, this.2.1, this.2.2, show ¬ k = 1 by omega, if_false]
theorem val_congrL {ρ σ : Int → Bool} : ∀ l : List F, okL l → (∀ x, occL x l = true → ρ x = σ x) → valH ρ l = valH σ l ∧ valA ρ l = valA σ l ∧ valO ρ l = valO σ l
  | [], _, _ => ⟨rfl, rfl, rfl⟩
  | t :: r, ho, h => by
    have h1 := val_congr t ho.1 (fun x hx => h x (by rw [occL, hx]; rfl))
    have h2 := val_congrL r ho.2 (fun x hx => h x (by rw [occL, hx, Bool.or_true]))
    simp only [valH, valA, valO, h1, h2.2.1, h2.2.2]
    exact ⟨trivial, trivial, trivial⟩
end
end Go.Proofs.YtkdmhjlcgpnjpaaGreatDoor

namespace Go.Proofs.YtkdmhjlcgpnjpaaGreatDoor
set_option linter.unusedVariables false
set_option linter.unusedSimpArgs false
open F

mutual
def eqF : F → F → Bool | nd k a l, nd k' a' l' => decide (k = k') && decide (a = a') && eqL l l'
def eqL : List F → List F → Bool | [], [] => true | t :: r, u :: s => eqF t u && eqL r s | [], _ :: _ => false | _ :: _, [] => false
end
mutual
theorem eqF_iff : ∀ t u : F, eqF t u = true ↔ t = u
  | nd k a l, nd k' a' l' => by
    rw [eqF, Bool.and_eq_true, Bool.and_eq_true, decide_eq_true_eq, decide_eq_true_eq, eqL_iff l l']
    constructor
    · rintro ⟨⟨rfl, rfl⟩, rfl⟩; rfl
    · intro h; injection h with h1 h2 h3; exact ⟨⟨h1, h2⟩, h3⟩
theorem eqL_iff : ∀ t u : List F, eqL t u = true ↔ t = u
  | [], [] => by rw [eqL]; simp
  | t :: r, u :: s => by rw [eqL, Bool.and_eq_true, eqF_iff t u, eqL_iff r s, List.cons.injEq]
  | [], _ :: _ => by rw [eqL]; simp
  | _ :: _, [] => by rw [eqL]; simp
end
instance : DecidableEq F := fun t u => decidable_of_iff _ (eqF_iff t u)
theorem eqF_dec (t u : F) : eqF t u = decide (t = u) := by
  cases h : eqF t u
  · exact (decide_eq_false (fun e => by rw [(eqF_iff t u).2 e] at h; cases h)).symm
  · exact (decide_eq_true ((eqF_iff t u).1 h)).symm
def headF : List F → F | [] => nd 0 0 [] | t :: _ => t
/-- The constant that decides a join, and the one that is left out. -/
def strong (k : Int) : Int := if k = 4 then 6 else 5
def weak (k : Int) : Int := if k = 4 then 5 else 6
def bad (k : Int) (l : List F) (g : F) : Bool := decide (g.k = strong k) || (decide (g.k = 2) && decide (headF g.l ∈ l))
def dd (k : Int) : List F → List F → List F
  | acc, [] => acc
  | acc, g :: r => if g.k = weak k ∨ g ∈ acc then dd k acc r else dd k (acc ++ [g]) r
def pickF (k : Int) : List F → F
  | [] => nd (weak k) 0 []
  | [t] => t
  | t :: u :: r => nd k 0 (t :: u :: r)
def joinF (k : Int) (l : List F) : F := if l.any (bad k l) then nd (strong k) 0 [] else pickF k (dd k [] l)
def negF (g : F) : F := if g.k = 2 then headF g.l else if g.k = 5 ∨ g.k = 6 then cst (decide (g.k = 5)) else nd 2 0 [g]
mutual
def smp : F → F | nd k a l => if k = 2 then negF (smpH l) else if k = 3 ∨ k = 4 then joinF k (smpL k l) else nd k a []
def smpH : List F → F | [] => nd 0 0 [] | t :: _ => smp t
def smpL (k : Int) : List F → List F | [] => [] | t :: r => (if (smp t).k = k then (smp t).l else [smp t]) ++ smpL k r
end
theorem smpL_app (k : Int) : ∀ l r : List F, smpL k (l ++ r) = smpL k l ++ smpL k r
  | [], r => rfl
  | t :: l, r => by rw [List.cons_append, smpL, smpL, smpL_app k l r, List.append_assoc]
/-- The simplified form. -/
def nfJ (k : Int) (l : List F) : Prop := 2 ≤ l.length ∧ l.Nodup ∧ ∀ t ∈ l, t.k ≠ k ∧ t.k ≠ 5 ∧ t.k ≠ 6 ∧ (t.k = 2 → headF t.l ∉ l)
mutual
def nf : F → Prop
  | nd k a l => (k = 2 → ∃ g, l = [g] ∧ g.k ≠ 2 ∧ g.k ≠ 5 ∧ g.k ≠ 6) ∧ (k = 3 ∨ k = 4 → nfJ k l) ∧ nfL l
def nfL : List F → Prop | [] => True | t :: r => nf t ∧ nfL r
end
theorem nfL_mem {l : List F} (h : nfL l) : ∀ t ∈ l, nf t := by
  induction l with
  | nil => intro t ht; cases ht
  | cons u r ih =>
    intro t ht
    rw [nfL] at h
    rcases List.mem_cons.1 ht with rfl | ht
    · exact h.1
    · exact ih h.2 t ht
theorem nfL_of {l : List F} (h : ∀ t ∈ l, nf t) : nfL l := by
  induction l with
  | nil => trivial
  | cons t r ih => rw [nfL]; exact ⟨h t (List.mem_cons_self ..), ih fun u hu => h u (List.mem_cons_of_mem _ hu)⟩
theorem strong_in (k : Int) : (strong k = 5 ∨ strong k = 6) ∧ (weak k = 5 ∨ weak k = 6) ∧ strong k ≠ weak k := by
  unfold strong weak; split <;> omega
theorem dd_spec (k : Int) : ∀ (l acc : List F), acc.Nodup → (∀ t ∈ acc, t.k ≠ weak k) → (dd k acc l).Nodup ∧ (∀ t, t ∈ dd k acc l ↔ t ∈ acc ∨ (t ∈ l ∧ t.k ≠ weak k))
  | [], acc, h1, h2 => by rw [dd]; exact ⟨h1, fun t => by simp⟩
  | g :: r, acc, h1, h2 => by
    rw [dd]
    split
    · rename_i hg
      obtain ⟨i1, i2⟩ := dd_spec k r acc h1 h2
      refine ⟨i1, fun t => ?_⟩
      rw [i2, List.mem_cons]
      constructor
      · rintro (h | h)
        · exact .inl h
        · exact .inr ⟨.inr h.1, h.2⟩
      · rintro (h | ⟨rfl | h, hw⟩)
        · exact .inl h
        · rcases hg with hg | hg
          · exact absurd hg hw
          · exact .inl hg
        · exact .inr ⟨h, hw⟩
    · rename_i hg
      have hn : g ∉ acc := fun h => hg (.inr h)
      have hw : g.k ≠ weak k := fun h => hg (.inl h)
      obtain ⟨i1, i2⟩ := dd_spec k r (acc ++ [g]) (by
        rw [List.nodup_append]
        exact ⟨h1, List.nodup_cons.2 ⟨by simp, List.nodup_nil⟩, fun a ha b hb e => by
          rw [List.mem_singleton.1 hb] at e
          exact hn (e ▸ ha)⟩) (fun t ht => by
        rcases List.mem_append.1 ht with ht | ht
        · exact h2 t ht
        · rw [List.mem_singleton.1 ht]; exact hw)
      refine ⟨i1, fun t => ?_⟩
      rw [i2, List.mem_append, List.mem_singleton, List.mem_cons]
      constructor
      · rintro ((h | rfl) | h)
        · exact .inl h
        · exact .inr ⟨.inl rfl, hw⟩
        · exact .inr ⟨.inr h.1, h.2⟩
      · rintro (h | ⟨rfl | h, hw⟩)
        · exact .inl (.inl h)
        · exact .inl (.inr rfl)
        · exact .inr ⟨h, hw⟩
theorem dd_mem (k : Int) (l : List F) (t : F) : t ∈ dd k [] l ↔ t ∈ l ∧ t.k ≠ weak k := by
  have := (dd_spec k l [] List.nodup_nil (fun t h => by cases h)).2 t
  simpa using this
theorem dd_nodup (k : Int) (l : List F) : (dd k [] l).Nodup := (dd_spec k l [] List.nodup_nil (fun t h => by cases h)).1
theorem dd_id (k : Int) : ∀ (l acc : List F), (∀ t ∈ l, t.k ≠ weak k) → (acc ++ l).Nodup → dd k acc l = acc ++ l
  | [], acc, _, _ => by rw [dd, List.append_nil]
  | g :: r, acc, h1, h2 => by
    have hn : g ∉ acc := fun h => by
      rw [List.nodup_append] at h2
      exact h2.2.2 g h g (List.mem_cons_self ..) rfl
    rw [dd, if_neg (by
      rintro (h | h)
      · exact h1 g (List.mem_cons_self ..) h
      · exact hn h), dd_id k r (acc ++ [g]) (fun t ht => h1 t (List.mem_cons_of_mem _ ht)) (by rw [List.append_assoc]; exact h2), List.append_assoc]
    rfl
/-- What a join's list holds. -/
def flatOk (k : Int) (l : List F) : Prop := ∀ t ∈ l, nf t ∧ t.k ≠ k
theorem pickF_nf {k : Int} (hk : k = 3 ∨ k = 4) {l : List F} (h1 : l.Nodup) (h2 : ∀ t ∈ l, nf t ∧ t.k ≠ k ∧ t.k ≠ 5 ∧ t.k ≠ 6 ∧ (t.k = 2 → headF t.l ∉ l)) : nf (pickF k l) := by
  match l, h1, h2 with
  | [], _, _ => rw [pickF, nf]; exact ⟨fun h => by have := (strong_in k).2.1; omega, fun h => by have := (strong_in k).2.1; omega, trivial⟩
  | [t], _, h2 => rw [pickF]; exact (h2 t (List.mem_cons_self ..)).1
  | t :: u :: r, h1, h2 =>
    rw [pickF, nf]
    exact ⟨fun h => by omega, fun _ => ⟨by simp, h1, fun x hx => (h2 x hx).2⟩, nfL_of fun x hx => (h2 x hx).1⟩
theorem joinF_nf {k : Int} (hk : k = 3 ∨ k = 4) {l : List F} (h : flatOk k l) : nf (joinF k l) := by
  unfold joinF
  split
  · rw [nf]; exact ⟨fun h => by have := (strong_in k).1; omega, fun h => by have := (strong_in k).1; omega, trivial⟩
  · rename_i hb
    have hb' : ∀ t ∈ l, t.k ≠ strong k ∧ (t.k = 2 → headF t.l ∉ l) := fun t ht => by
      have : bad k l t ≠ true := fun e => hb (List.any_eq_true.2 ⟨t, ht, e⟩)
      unfold bad at this
      simp only [ne_eq, Bool.or_eq_true, Bool.and_eq_true, decide_eq_true_eq, not_or, not_and] at this
      exact ⟨this.1, this.2⟩
    refine pickF_nf hk (dd_nodup k l) fun t ht => ?_
    obtain ⟨m, hw⟩ := (dd_mem k l t).1 ht
    have hs := hb' t m
    have hf := h t m
    have := strong_in k
    refine ⟨hf.1, hf.2, by omega, by omega, fun h2 hm => hs.2 h2 ((dd_mem k l _).1 hm).1⟩
theorem negF_nf {g : F} (h : nf g) : nf (negF g) := by
  unfold negF
  split
  · rename_i hk
    cases g with
    | nd k a l =>
      obtain ⟨u, rfl, _⟩ := h.1 hk
      exact h.2.2.1
  · split
    · rename_i h2 h56
      unfold cst
      rw [nf]
      exact ⟨fun h => by split at h <;> omega, fun h => by split at h <;> omega, trivial⟩
    · rename_i h2 h56
      rw [nf]
      exact ⟨fun _ => ⟨g, rfl, h2, fun e => h56 (.inl e), fun e => h56 (.inr e)⟩, fun h => by omega, h, trivial⟩
mutual
theorem smp_nf : ∀ t : F, nf (smp t)
  | nd k a l => by
    rw [smp]
    split
    · exact negF_nf (smpH_nf l)
    · split
      · rename_i hk; exact joinF_nf hk (smpL_nf k hk l)
      · rw [nf]; exact ⟨fun h => by omega, fun h => by omega, trivial⟩
theorem smpH_nf : ∀ l : List F, nf (smpH l)
  | [] => by rw [smpH, nf]; exact ⟨fun h => by omega, fun h => by omega, trivial⟩
  | t :: _ => smp_nf t
theorem smpL_nf (k : Int) (hk : k = 3 ∨ k = 4) : ∀ l : List F, flatOk k (smpL k l)
  | [] => fun t h => by cases h
  | t :: r => fun u hu => by
    have ht := smp_nf t
    rw [smpL] at hu
    replace hu := List.mem_append.1 hu
    rcases hu with hu | hu
    · revert ht hu
      cases smp t with
      | nd k' a' l' =>
        intro ht hu
        split at hu
        · rename_i e
          have e' : k' = k := e
          subst e'
          exact ⟨nfL_mem ht.2.2 u hu, ((ht.2.1 hk).2.2 u hu).1⟩
        · rename_i e
          rw [List.mem_singleton.1 hu]
          exact ⟨ht, e⟩
    · exact smpL_nf k hk r u hu
end
/-- A simplified form is its own. -/
theorem joinF_id {k : Int} {l : List F} (h : nfJ k l) : joinF k l = nd k 0 l := by
  unfold joinF
  have hs := strong_in k
  rw [if_neg, dd_id k l [] (fun t ht => by have := h.2.2 t ht; omega) (by rw [List.nil_append]; exact h.2.1), List.nil_append]
  · match l, h with
    | [], h => exact absurd h.1 (by simp)
    | [_], h => exact absurd h.1 (by simp)
    | _ :: _ :: _, _ => rfl
  · intro hb
    obtain ⟨t, ht, hbt⟩ := List.any_eq_true.1 hb
    have := h.2.2 t ht
    unfold bad at hbt
    simp only [Bool.or_eq_true, Bool.and_eq_true, decide_eq_true_eq] at hbt
    rcases hbt with hbt | hbt
    · omega
    · exact this.2.2.2 hbt.1 hbt.2
mutual
theorem smp_id : ∀ t : F, okT t → nf t → smp t = t
  | nd k a l, ho, h => by
    rw [smp]
    rcases single_cases ho.1 with ⟨rfl, h1, h2, rfl⟩ | ⟨rfl, rfl, t, rfl⟩ | ⟨hk, rfl, hl⟩ | ⟨hk, rfl, rfl⟩
    · rfl
    · obtain ⟨g, hg, h2, h5, h6⟩ := h.1 rfl
      injection hg with hg; subst hg
      rw [if_pos rfl, smpH, smp_id t ho.2.1 h.2.2.1, negF, if_neg h2, if_neg (by omega)]
    · rw [if_neg (by omega), if_pos hk, smpL_id k l ho.2 h.2.2 (fun t ht => ((h.2.1 hk).2.2 t ht).1), joinF_id (h.2.1 hk)]
    · rw [if_neg (by omega), if_neg (by omega)]
theorem smpL_id (k : Int) : ∀ l : List F, okL l → nfL l → (∀ t ∈ l, t.k ≠ k) → smpL k l = l
  | [], _, _, _ => rfl
  | t :: r, ho, h, hk => by
    rw [smpL, smp_id t ho.1 h.1, smpL_id k r ho.2 h.2 (fun u hu => hk u (List.mem_cons_of_mem _ hu)), if_neg (hk t (List.mem_cons_self ..))]
    rfl
end
/-- The sizes of a simplified form. -/
theorem dd_size (k : Int) : ∀ (l acc : List F), nodesL (dd k acc l) ≤ nodesL acc + nodesL l ∧ levelsL (dd k acc l) ≤ max (levelsL acc) (levelsL l)
  | [], acc => by rw [dd, nodesL, levelsL]; omega
  | g :: r, acc => by
    rw [dd, nodesL, levelsL]
    split
    · have := dd_size k r acc; omega
    · have := dd_size k r (acc ++ [g])
      rw [nodesL_app, levelsL_app, nodesL, levelsL, nodesL, levelsL] at this
      omega
theorem pickF_size (k : Int) : ∀ l : List F, nodes (pickF k l) ≤ 1 + nodesL l ∧ levels (pickF k l) ≤ 1 + levelsL l
  | [] => by simp [pickF, nodes, nodesL, levels, levelsL]
  | [t] => by simp [pickF, nodesL, levelsL]
  | t :: u :: r => by rw [pickF, nodes, levels]; omega
theorem joinF_size (k : Int) (l : List F) : nodes (joinF k l) ≤ 1 + nodesL l ∧ levels (joinF k l) ≤ 1 + levelsL l := by
  unfold joinF
  split
  · simp [nodes, nodesL, levels, levelsL]
  · have h1 := dd_size k l []
    have h2 := pickF_size k (dd k [] l)
    rw [nodesL, levelsL] at h1
    omega
theorem negF_size (g : F) : nodes (negF g) ≤ 1 + nodes g ∧ levels (negF g) ≤ 1 + levels g := by
  unfold negF
  split
  · cases g with
    | nd k a l =>
      cases l with
      | nil => simp [F.l, headF, nodes, nodesL, levels, levelsL]
      | cons t r => simp [F.l, headF, nodes, nodesL, levels, levelsL]; omega
  · split
    · simp [cst, nodes, nodesL, levels, levelsL]
    · simp [nodes, nodesL, levels, levelsL]
mutual
theorem smp_size : ∀ t : F, okT t → nodes (smp t) ≤ nodes t ∧ levels (smp t) ≤ levels t
  | nd k a l, h => by
    rw [smp, nodes, levels]
    rcases single_cases h.1 with ⟨rfl, h1, h2, rfl⟩ | ⟨rfl, rfl, t, rfl⟩ | ⟨hk, rfl, hl⟩ | ⟨hk, rfl, rfl⟩
    · rw [if_neg (by decide), if_neg (by decide), nodes, levels, nodesL, levelsL]; omega
    · have h1 := negF_size (smp t)
      have h2 := smp_size t h.2.1
      rw [if_pos rfl, smpH, nodesL, levelsL, nodesL, levelsL]
      omega
    · have h1 := joinF_size k (smpL k l)
      have h2 := smpL_size k l h.2
      rw [if_neg (by omega), if_pos hk]
      omega
    · rw [if_neg (by omega), if_neg (by omega), nodes, levels, nodesL, levelsL]; omega
theorem smpL_size (k : Int) : ∀ l : List F, okL l → nodesL (smpL k l) ≤ nodesL l ∧ levelsL (smpL k l) ≤ levelsL l
  | [], _ => by rw [smpL]; omega
  | t :: r, h => by
    have h1 := smp_size t h.1
    have h2 := smpL_size k r h.2
    rw [smpL, nodesL_app, levelsL_app, nodesL, levelsL]
    split
    · cases hs : smp t with
      | nd k' a' l' =>
        rw [hs, nodes, levels] at h1
        simp only [F.l]
        omega
    · rw [nodesL, levelsL, nodesL, levelsL]; omega
end
/-- A simplified form is right. -/
theorem joinF_ok {k : Int} (hk : k = 3 ∨ k = 4) {l : List F} (h : ∀ t ∈ l, okT t) (hl : l.length ≤ 10000) : okT (joinF k l) := by
  have hs := strong_in k
  unfold joinF
  split
  · rcases hs.1 with e | e <;> rw [e] <;> exact ⟨rfl, trivial⟩
  · have hm : ∀ t ∈ dd k [] l, okT t := fun t ht => h t ((dd_mem k l t).1 ht).1
    have hlen : (dd k [] l).length ≤ 10000 := by
      have : ∀ (l acc : List F), (dd k acc l).length ≤ acc.length + l.length := by
        intro l
        induction l with
        | nil => intro acc; rw [dd]; simp
        | cons g r ih =>
          intro acc
          rw [dd]
          split
          · have := ih acc; simp; omega
          · have := ih (acc ++ [g]); simp at this ⊢; omega
      have := this l []
      simp at this
      omega
    revert hm hlen
    generalize dd k [] l = L
    intro hm hlen
    match L, hm, hlen with
    | [], _, _ => rw [pickF]; rcases hs.2.1 with e | e <;> rw [e] <;> exact ⟨rfl, trivial⟩
    | [t], hm, _ => exact hm t (List.mem_cons_self ..)
    | t :: u :: r, hm, hlen => exact ⟨single_join hk hlen, okL_of hm⟩
theorem negF_ok {g : F} (h : okT g) : okT (negF g) := by
  unfold negF
  split
  · rename_i hk
    cases g with
    | nd k a l =>
      rcases single_cases h.1 with ⟨e, _⟩ | ⟨_, _, t, rfl⟩ | ⟨e, _⟩ | ⟨e, _⟩
      · have : k = 2 := hk; omega
      · exact h.2.1
      · have : k = 2 := hk; omega
      · have : k = 2 := hk; omega
  · split
    · exact okT_cst _
    · exact ⟨single_not _, h, trivial⟩
mutual
theorem smp_ok : ∀ t : F, okT t → nodes t ≤ 10000 → okT (smp t)
  | nd k a l, h, hn => by
    rw [nodes] at hn
    rw [smp]
    rcases single_cases h.1 with ⟨rfl, h1, h2, rfl⟩ | ⟨rfl, rfl, t, rfl⟩ | ⟨hk, rfl, hl⟩ | ⟨hk, rfl, rfl⟩
    · exact h
    · rw [nodesL] at hn
      exact negF_ok (smp_ok t h.2.1 (by omega))
    · rw [if_neg (by omega), if_pos hk]
      have := length_nodesL (smpL k l)
      have := smpL_size k l h.2
      exact joinF_ok hk (smpL_ok k l h.2 (by omega)) (by omega)
    · rw [if_neg (by omega), if_neg (by omega)]; exact h
theorem smpL_ok (k : Int) : ∀ l : List F, okL l → nodesL l ≤ 10000 → ∀ t ∈ smpL k l, okT t
  | [], _, _, t, ht => by cases ht
  | u :: r, h, hn, t, ht => by
    rw [nodesL] at hn
    have hu := smp_ok u h.1 (by omega)
    rw [smpL] at ht
    rcases List.mem_append.1 ht with ht | ht
    · split at ht
      · exact okL_mem (okT_l hu) ht
      · rw [List.mem_singleton.1 ht]; exact hu
    · exact smpL_ok k r h.2 (by omega) t ht
end
/-- Values of a simplified form. -/
theorem valA_iff (ρ : Int → Bool) (l : List F) : valA ρ l = true ↔ ∀ t ∈ l, val ρ t = true := by
  induction l with
  | nil => simp [valA]
  | cons t r ih => rw [valA, Bool.and_eq_true, ih]; simp
theorem valO_iff (ρ : Int → Bool) (l : List F) : valO ρ l = true ↔ ∃ t ∈ l, val ρ t = true := by
  induction l with
  | nil => simp [valO]
  | cons t r ih => rw [valO, Bool.or_eq_true, ih]; simp
theorem valA_app (ρ : Int → Bool) : ∀ l r : List F, valA ρ (l ++ r) = (valA ρ l && valA ρ r)
  | [], r => rfl
  | t :: l, r => by rw [List.cons_append, valA, valA, valA_app ρ l r, Bool.and_assoc]
theorem valO_app (ρ : Int → Bool) : ∀ l r : List F, valO ρ (l ++ r) = (valO ρ l || valO ρ r)
  | [], r => rfl
  | t :: l, r => by rw [List.cons_append, valO, valO, valO_app ρ l r, Bool.or_assoc]
theorem val_kind {ρ : Int → Bool} {t : F} (h : okT t) : (t.k = 5 → val ρ t = false) ∧ (t.k = 6 → val ρ t = true) ∧ (t.k = 2 → val ρ t = !val ρ (headF t.l)) ∧ (t.k = 3 → val ρ t = valA ρ t.l) ∧ (t.k = 4 → val ρ t = valO ρ t.l) := by
  cases t with
  | nd k a l =>
    refine ⟨?_, ?_, ?_, ?_, ?_⟩
    · intro e; have e : k = 5 := e; subst e; rw [val, if_neg (by decide), if_neg (by decide), if_neg (by decide), if_neg (by decide)]; rfl
    · intro e; have e : k = 6 := e; subst e; rw [val, if_neg (by decide), if_neg (by decide), if_neg (by decide), if_neg (by decide)]; rfl
    · intro e
      have e : k = 2 := e
      subst e
      rcases single_cases h.1 with ⟨e, _⟩ | ⟨_, _, t, rfl⟩ | ⟨e, _⟩ | ⟨e, _⟩
      · omega
      · rw [val, if_neg (by decide), if_pos rfl]; rfl
      · omega
      · omega
    · intro e; have e : k = 3 := e; subst e; rw [val, if_neg (by decide), if_neg (by decide), if_pos rfl]; rfl
    · intro e; have e : k = 4 := e; subst e; rw [val, if_neg (by decide), if_neg (by decide), if_neg (by decide), if_pos rfl]; rfl
theorem joinF_valA (ρ : Int → Bool) {l : List F} (h : ∀ t ∈ l, okT t) : val ρ (joinF 3 l) = valA ρ l := by
  have hv : ∀ t ∈ l, _ := fun t ht => val_kind (ρ := ρ) (h t ht)
  unfold joinF
  split
  · rename_i hb
    obtain ⟨t, ht, hbt⟩ := List.any_eq_true.1 hb
    have hf : valA ρ l = false := by
      refine Bool.eq_false_iff.2 fun e => ?_
      have ha := (valA_iff ρ l).1 e
      unfold bad at hbt
      simp only [Bool.or_eq_true, Bool.and_eq_true, decide_eq_true_eq] at hbt
      rcases hbt with hbt | ⟨h2, hm⟩
      · have := (hv t ht).1 hbt
        rw [ha t ht] at this
        cases this
      · have := (hv t ht).2.2.1 h2
        rw [ha t ht, ha _ hm] at this
        cases this
    rw [hf]
    rfl
  · have hL : valA ρ (dd 3 [] l) = valA ρ l := by
      rw [Bool.eq_iff_iff, valA_iff, valA_iff]
      constructor
      · intro hh t ht
        by_cases hw : t.k = weak 3
        · exact (hv t ht).2.1 hw
        · exact hh t ((dd_mem 3 l t).2 ⟨ht, hw⟩)
      · intro hh t ht
        exact hh t ((dd_mem 3 l t).1 ht).1
    rw [← hL]
    match dd 3 [] l with
    | [] => rfl
    | [t] => rw [pickF, valA, valA, Bool.and_true]
    | t :: u :: r => rw [pickF, val, if_neg (by decide), if_neg (by decide), if_pos rfl]
theorem joinF_valO (ρ : Int → Bool) {l : List F} (h : ∀ t ∈ l, okT t) : val ρ (joinF 4 l) = valO ρ l := by
  have hv : ∀ t ∈ l, _ := fun t ht => val_kind (ρ := ρ) (h t ht)
  unfold joinF
  split
  · rename_i hb
    obtain ⟨t, ht, hbt⟩ := List.any_eq_true.1 hb
    have hf : valO ρ l = true := by
      unfold bad at hbt
      simp only [Bool.or_eq_true, Bool.and_eq_true, decide_eq_true_eq] at hbt
      rw [valO_iff]
      rcases hbt with hbt | ⟨h2, hm⟩
      · exact ⟨t, ht, (hv t ht).2.1 hbt⟩
      · have := (hv t ht).2.2.1 h2
        cases e : val ρ (headF t.l) with
        | true => exact ⟨_, hm, e⟩
        | false => rw [e] at this; exact ⟨t, ht, this⟩
    rw [hf]
    rfl
  · have hL : valO ρ (dd 4 [] l) = valO ρ l := by
      rw [Bool.eq_iff_iff, valO_iff, valO_iff]
      constructor
      · rintro ⟨t, ht, e⟩
        exact ⟨t, ((dd_mem 4 l t).1 ht).1, e⟩
      · rintro ⟨t, ht, e⟩
        by_cases hw : t.k = weak 4
        · rw [(hv t ht).1 hw] at e; cases e
        · exact ⟨t, (dd_mem 4 l t).2 ⟨ht, hw⟩, e⟩
    rw [← hL]
    match dd 4 [] l with
    | [] => rfl
    | [t] => rw [pickF, valO, valO, Bool.or_false]
    | t :: u :: r => rw [pickF, val, if_neg (by decide), if_neg (by decide), if_neg (by decide), if_pos rfl]
theorem negF_val (ρ : Int → Bool) {g : F} (h : okT g) : val ρ (negF g) = !val ρ g := by
  have hv := val_kind (ρ := ρ) h
  unfold negF
  split
  · rename_i hk; rw [hv.2.2.1 hk, Bool.not_not]
  · split
    · rename_i hk
      rcases hk with hk | hk
      · rw [hv.1 hk, hk]; rfl
      · rw [hv.2.1 hk, hk]; rfl
    · rw [val, if_neg (by decide), if_pos rfl]; rfl
mutual
theorem smp_val (ρ : Int → Bool) : ∀ t : F, okT t → nodes t ≤ 10000 → val ρ (smp t) = val ρ t
  | nd k a l, h, hn => by
    rw [nodes] at hn
    rw [smp]
    rcases single_cases h.1 with ⟨rfl, h1, h2, rfl⟩ | ⟨rfl, rfl, t, rfl⟩ | ⟨hk, rfl, hl⟩ | ⟨hk, rfl, rfl⟩
    · rfl
    · rw [nodesL] at hn
      rw [if_pos rfl, smpH, negF_val ρ (smp_ok t h.2.1 (by omega)), smp_val ρ t h.2.1 (by omega), val, if_neg (by decide), if_pos rfl]
      rfl
    · have hs := smpL_ok k l h.2 (by omega)
      have hv := smpL_val ρ l h.2 (by omega)
      rw [if_neg (by omega), if_pos hk]
      rcases hk with rfl | rfl
      · rw [joinF_valA ρ hs, hv.1, val, if_neg (by decide), if_neg (by decide), if_pos rfl]
      · rw [joinF_valO ρ hs, hv.2, val, if_neg (by decide), if_neg (by decide), if_neg (by decide), if_pos rfl]
    · rw [if_neg (by omega), if_neg (by omega)]
theorem smpL_val (ρ : Int → Bool) : ∀ l : List F, okL l → nodesL l ≤ 10000 → valA ρ (smpL 3 l) = valA ρ l ∧ valO ρ (smpL 4 l) = valO ρ l
  | [], _, _ => ⟨rfl, rfl⟩
  | t :: r, h, hn => by
    rw [nodesL] at hn
    have h1 := smp_val ρ t h.1 (by omega)
    have h2 := smpL_val ρ r h.2 (by omega)
    have hv := val_kind (ρ := ρ) (smp_ok t h.1 (by omega))
    rw [smpL, smpL, valA_app, valO_app, valA, valO, h2.1, h2.2, ← h1]
    constructor
    · split
      · rename_i hk; rw [hv.2.2.2.1 hk]
      · rw [valA, valA, Bool.and_true]
    · split
      · rename_i hk; rw [hv.2.2.2.2 hk]
      · rw [valO, valO, Bool.or_false]
end
mutual
def hasC : F → Bool | nd k a l => hasCL l || decide (k = 6) || decide (k = 5)
def hasCL : List F → Bool | [] => false | t :: r => hasC t || hasCL r
end
mutual
theorem nf_noC : ∀ t : F, okT t → nf t → t.k ≠ 5 → t.k ≠ 6 → hasC t = false
  | nd k a l, ho, h, h5, h6 => by
    have h5 : k ≠ 5 := h5
    have h6 : k ≠ 6 := h6
    rw [hasC, decide_eq_false h5, decide_eq_false h6, Bool.or_false, Bool.or_false]
    rcases single_cases ho.1 with ⟨rfl, h1, h2, rfl⟩ | ⟨rfl, rfl, t, rfl⟩ | ⟨hk, rfl, hl⟩ | ⟨hk, rfl, rfl⟩
    · rfl
    · obtain ⟨g, hg, _, g5, g6⟩ := h.1 rfl
      injection hg with hg; subst hg
      exact nf_noCL [t] ho.2 h.2.2 (fun u hu => by rw [List.mem_singleton.1 hu]; exact ⟨g5, g6⟩)
    · exact nf_noCL l ho.2 h.2.2 (fun u hu => by have := (h.2.1 hk).2.2 u hu; exact ⟨this.2.1, this.2.2.1⟩)
    · rfl
theorem nf_noCL : ∀ l : List F, okL l → nfL l → (∀ t ∈ l, t.k ≠ 5 ∧ t.k ≠ 6) → hasCL l = false
  | [], _, _, _ => rfl
  | t :: r, ho, h, hk => by
    have := hk t (List.mem_cons_self ..)
    rw [hasCL, nf_noC t ho.1 h.1 this.1 this.2, nf_noCL r ho.2 h.2 (fun u hu => hk u (List.mem_cons_of_mem _ hu))]
    rfl
end
theorem nf_const {t : F} (ho : okT t) (h : nf t) : t.l.length = 0 ∨ hasC t = false := by
  by_cases hk : t.k = 5 ∨ t.k = 6
  · left
    cases t with
    | nd k a l =>
      have hk : k = 5 ∨ k = 6 := hk
      rcases single_cases ho.1 with ⟨e, _⟩ | ⟨e, _⟩ | ⟨e, _⟩ | ⟨_, _, rfl⟩
      · omega
      · omega
      · omega
      · rfl
  · right
    exact nf_noC t ho h (fun e => hk (.inl e)) (fun e => hk (.inr e))
end Go.Proofs.YtkdmhjlcgpnjpaaGreatDoor

namespace Go.Proofs.YtkdmhjlcgpnjpaaGreatDoor
set_option linter.unusedVariables false
set_option linter.unusedSimpArgs false
open F

/-- The digits of a number that is not negative. -/
def dgs (a : Int) : List UInt8 := Go.Lib.decDigits a.toNat
def isDg (c : UInt8) : Bool := decide (48 ≤ c.toNat) && decide (c.toNat ≤ 57)
theorem dgs_itoa {a : Int} (h : 0 ≤ a) : Go.Lib.itoa a = dgs a := by
  unfold dgs Go.Lib.itoa
  rw [if_neg (by omega)]
theorem dv {d : Nat} (h : d < 10) : (UInt8.ofNat (48 + d)).toNat = 48 + d := by rw [UInt8.toNat_ofNat']; omega
theorem dec_all (u : Nat) : ∀ c ∈ Go.Lib.decDigits u, isDg c = true := by
  induction u using Nat.strongRecOn with
  | ind u ih =>
    intro c hc
    by_cases h : u < 10
    · rw [Go.Lib.decDigits_one h] at hc
      rw [List.mem_singleton.1 hc]
      unfold isDg
      rw [dv h, Bool.and_eq_true]
      exact ⟨decide_eq_true (by omega), decide_eq_true (by omega)⟩
    · rw [Go.Lib.decDigits, dif_neg h] at hc
      rcases List.mem_append.1 hc with h1 | h1
      · exact ih (u / 10) (by omega) c h1
      · rw [List.mem_singleton.1 h1]
        unfold isDg
        rw [dv (Nat.mod_lt _ (by decide)), Bool.and_eq_true]
        exact ⟨decide_eq_true (by omega), decide_eq_true (by omega)⟩
def dval (l : List UInt8) : Nat := l.foldl (fun a c => 10 * a + (c.toNat - 48)) 0
theorem dec_val (u : Nat) : dval (Go.Lib.decDigits u) = u := by
  induction u using Nat.strongRecOn with
  | ind u ih =>
    by_cases h : u < 10
    · rw [Go.Lib.decDigits_one h]
      simp only [dval, List.foldl_cons, List.foldl_nil, dv h]
      omega
    · have hi := ih (u / 10) (by omega)
      rw [Go.Lib.decDigits, dif_neg h]
      unfold dval at hi ⊢
      rw [List.foldl_append, hi]
      simp only [List.foldl_cons, List.foldl_nil, dv (Nat.mod_lt u (show 0 < 10 by decide))]
      omega
theorem dgs_inj {a b : Int} (ha : 0 ≤ a) (hb : 0 ≤ b) (h : dgs a = dgs b) : a = b := by
  have h1 := dec_val a.toNat
  have h2 := dec_val b.toNat
  unfold dgs at h
  rw [h] at h1
  omega
theorem dgs_ne (a : Int) : dgs a ≠ [] := fun h => by
  have := Go.Lib.decDigits_length a.toNat
  have h2 := Go.Lib.nDigits_pos a.toNat
  unfold dgs at h
  rw [h] at this
  simp at this
  omega
mutual
def txt : F → List UInt8
  | nd k a l => if k = 1 then 120 :: dgs a else if k = 2 then 33 :: txtH l else if k = 5 then [48] else if k = 6 then [49] else (if k = 3 then 38 else 124) :: 40 :: (txtL l ++ [41])
def txtH : List F → List UInt8 | [] => [] | t :: _ => txt t
def txtL : List F → List UInt8 | [] => [] | t :: r => txt t ++ txtR r
def txtR : List F → List UInt8 | [] => [] | t :: r => 32 :: (txt t ++ txtR r)
end
theorem txtR_app : ∀ l r : List F, txtR (l ++ r) = txtR l ++ txtR r
  | [], r => rfl
  | t :: l, r => by rw [List.cons_append, txtR, txtR, txtR_app l r, List.cons_append, List.append_assoc]
theorem txtL_snoc (l : List F) (t : F) : txtL (l ++ [t]) = txtL l ++ (if l = [] then txt t else 32 :: txt t) := by
  cases l with
  | nil =>
    rw [if_pos rfl]
    show txt t ++ [] = [] ++ txt t
    rw [List.append_nil, List.nil_append]
  | cons u r =>
    rw [List.cons_append, txtL, txtL, txtR_app, if_neg (fun h => by cases h), List.append_assoc]
    show txt u ++ (txtR r ++ (32 :: (txt t ++ []))) = _
    rw [List.append_nil]
/-- What follows does not go on with a digit. -/
def stopD : List UInt8 → Bool | [] => true | c :: _ => !isDg c
theorem digs_split : ∀ {l m r s : List UInt8}, (∀ c ∈ l, isDg c = true) → (∀ c ∈ m, isDg c = true) → stopD r = true → stopD s = true → l ++ r = m ++ s → l = m ∧ r = s
  | [], [], r, s, _, _, _, _, h => ⟨rfl, h⟩
  | [], c :: m, r, s, _, hm, hr, _, h => by
    rw [List.nil_append] at h
    rw [h] at hr
    have := hm c (List.mem_cons_self ..)
    simp [stopD, this] at hr
  | c :: l, [], r, s, hl, _, _, hs, h => by
    rw [List.nil_append] at h
    rw [← h] at hs
    have := hl c (List.mem_cons_self ..)
    simp [stopD, this] at hs
  | c :: l, d :: m, r, s, hl, hm, hr, hs, h => by
    rw [List.cons_append, List.cons_append] at h
    injection h with h1 h2
    obtain ⟨e1, e2⟩ := digs_split (fun x hx => hl x (List.mem_cons_of_mem _ hx)) (fun x hx => hm x (List.mem_cons_of_mem _ hx)) hr hs h2
    exact ⟨by rw [h1, e1], e2⟩
theorem txt_head {k a : Int} {l : List F} (h : single (nd k a l) = 0) : ∃ c r, txt (nd k a l) = c :: r ∧ (c = if k = 1 then 120 else if k = 2 then 33 else if k = 3 then 38 else if k = 4 then 124 else if k = 5 then 48 else 49) := by
  rw [txt]
  rcases single_cases h with ⟨rfl, h1, h2, rfl⟩ | ⟨rfl, rfl, t, rfl⟩ | ⟨rfl | rfl, rfl, hl⟩ | ⟨rfl | rfl, rfl, rfl⟩
  · exact ⟨_, _, rfl, rfl⟩
  · exact ⟨_, _, rfl, rfl⟩
  · exact ⟨_, _, rfl, rfl⟩
  · exact ⟨_, _, rfl, rfl⟩
  · exact ⟨_, _, rfl, rfl⟩
  · exact ⟨_, _, rfl, rfl⟩
theorem head_kind {k k' : Int} (h : 1 ≤ k ∧ k ≤ 6) (h' : 1 ≤ k' ∧ k' ≤ 6)
    (e : (if k = 1 then (120 : UInt8) else if k = 2 then 33 else if k = 3 then 38 else if k = 4 then 124 else if k = 5 then 48 else 49) = (if k' = 1 then 120 else if k' = 2 then 33 else if k' = 3 then 38 else if k' = 4 then 124 else if k' = 5 then 48 else 49)) : k = k' := by
  have hk : k = 1 ∨ k = 2 ∨ k = 3 ∨ k = 4 ∨ k = 5 ∨ k = 6 := by omega
  have hk' : k' = 1 ∨ k' = 2 ∨ k' = 3 ∨ k' = 4 ∨ k' = 5 ∨ k' = 6 := by omega
  rcases hk with rfl | rfl | rfl | rfl | rfl | rfl <;> rcases hk' with rfl | rfl | rfl | rfl | rfl | rfl <;> first | rfl | (exact absurd e (by decide))
theorem ok_range {k a : Int} {l : List F} (h : single (nd k a l) = 0) : 1 ≤ k ∧ k ≤ 6 := by
  rcases single_cases h with ⟨rfl, _⟩ | ⟨rfl, _⟩ | ⟨hk, _⟩ | ⟨hk, _⟩ <;> omega
mutual
theorem txt_split : ∀ (t u : F) (r s : List UInt8), okT t → okT u → stopD r = true → stopD s = true → txt t ++ r = txt u ++ s → t = u ∧ r = s
  | nd k a l, nd k' a' l', r, s, h, h', hr, hs, e => by
    have hkk : k = k' := by
      obtain ⟨c, x, e1, e2⟩ := txt_head h.1
      obtain ⟨c', x', e1', e2'⟩ := txt_head h'.1
      rw [e1, e1'] at e
      injection e with e3 _
      exact head_kind (ok_range h.1) (ok_range h'.1) (by rw [← e2, ← e2', e3])
    subst hkk
    rcases single_cases h.1 with ⟨rfl, h1, h2, rfl⟩ | ⟨rfl, rfl, t, rfl⟩ | ⟨hk, rfl, hl⟩ | ⟨hk, rfl, rfl⟩
    · rcases single_cases h'.1 with ⟨_, h1', h2', rfl⟩ | ⟨e', _⟩ | ⟨e', _⟩ | ⟨e', _⟩
      · rw [txt, txt, if_pos rfl, if_pos rfl, List.cons_append, List.cons_append] at e
        injection e with _ e
        obtain ⟨e1, e2⟩ := digs_split (dec_all _) (dec_all _) hr hs e
        rw [dgs_inj h1 h1' e1]
        exact ⟨rfl, e2⟩
      all_goals omega
    · rcases single_cases h'.1 with ⟨e', _⟩ | ⟨_, rfl, t', rfl⟩ | ⟨e', _⟩ | ⟨e', _⟩
      · omega
      · rw [txt, txt, if_neg (by decide), if_pos rfl, if_neg (by decide), if_pos rfl, List.cons_append, List.cons_append, txtH, txtH] at e
        injection e with _ e
        obtain ⟨e1, e2⟩ := txt_split t t' r s h.2.1 h'.2.1 hr hs e
        rw [e1]
        exact ⟨rfl, e2⟩
      · omega
      · omega
    · rcases single_cases h'.1 with ⟨e', _⟩ | ⟨e', _⟩ | ⟨_, rfl, hl'⟩ | ⟨e', _⟩
      · omega
      · omega
      · have e4 : txtL l ++ (41 :: r) = txtL l' ++ (41 :: s) := by
          have e5 : ∀ l : List F, txt (nd k 0 l) = (if k = 3 then 38 else 124) :: 40 :: (txtL l ++ [41]) := fun l => by
            rw [txt, if_neg (by omega), if_neg (by omega), if_neg (by omega), if_neg (by omega)]
          rw [e5, e5] at e
          simp only [List.cons_append, List.append_assoc, List.nil_append] at e
          injection e with _ e
          injection e with _ e
        obtain ⟨e1, e2⟩ := txtL_split l l' r s h.2 h'.2 e4
        rw [e1]
        exact ⟨rfl, e2⟩
      · omega
    · rcases single_cases h'.1 with ⟨e', _⟩ | ⟨e', _⟩ | ⟨e', _⟩ | ⟨_, rfl, rfl⟩
      · omega
      · omega
      · omega
      · refine ⟨rfl, ?_⟩
        rcases hk with rfl | rfl
        · rw [txt, if_neg (by decide), if_neg (by decide), if_pos rfl] at e
          injection e
        · rw [txt, if_neg (by decide), if_neg (by decide), if_neg (by decide), if_pos rfl] at e
          injection e
theorem txtL_split : ∀ (l m : List F) (r s : List UInt8), okL l → okL m → txtL l ++ (41 :: r) = txtL m ++ (41 :: s) → l = m ∧ r = s
  | [], [], r, s, _, _, e => by
    rw [txtL] at e
    injection e with _ e
    exact ⟨rfl, e⟩
  | [], nd k a x :: m, r, s, _, h, e => by
    obtain ⟨c, y, e1, e2⟩ := txt_head h.1.1
    rw [txtL, txtL, e1] at e
    injection e with e3 _
    rw [e2] at e3
    split at e3 <;> try (exact absurd e3 (by decide))
    split at e3 <;> try (exact absurd e3 (by decide))
    split at e3 <;> try (exact absurd e3 (by decide))
    split at e3 <;> try (exact absurd e3 (by decide))
    split at e3 <;> exact absurd e3 (by decide)
  | nd k a x :: m, [], r, s, h, _, e => by
    obtain ⟨c, y, e1, e2⟩ := txt_head h.1.1
    rw [txtL, txtL, e1] at e
    injection e with e3 _
    rw [e2] at e3
    split at e3 <;> try (exact absurd e3 (by decide))
    split at e3 <;> try (exact absurd e3 (by decide))
    split at e3 <;> try (exact absurd e3 (by decide))
    split at e3 <;> try (exact absurd e3 (by decide))
    split at e3 <;> exact absurd e3 (by decide)
  | t :: l, u :: m, r, s, h, h', e => by
    rw [txtL, txtL, List.append_assoc, List.append_assoc] at e
    obtain ⟨e1, e2⟩ := txt_split t u _ _ h.1 h'.1 (by cases l <;> rfl) (by cases m <;> rfl) e
    obtain ⟨e3, e4⟩ := txtR_split l m r s h.2 h'.2 e2
    rw [e1, e3]
    exact ⟨rfl, e4⟩
theorem txtR_split : ∀ (l m : List F) (r s : List UInt8), okL l → okL m → txtR l ++ (41 :: r) = txtR m ++ (41 :: s) → l = m ∧ r = s
  | [], [], r, s, _, _, e => by
    rw [txtR] at e
    injection e with _ e
    exact ⟨rfl, e⟩
  | [], t :: m, r, s, _, h, e => by
    rw [txtR, txtR, List.cons_append] at e
    injection e with e3 _
    exact absurd e3 (by decide)
  | t :: m, [], r, s, h, _, e => by
    rw [txtR, txtR, List.cons_append] at e
    injection e with e3 _
    exact absurd e3 (by decide)
  | t :: l, u :: m, r, s, h, h', e => by
    rw [txtR, txtR, List.cons_append, List.cons_append, List.append_assoc, List.append_assoc] at e
    injection e with _ e
    obtain ⟨e1, e2⟩ := txt_split t u _ _ h.1 h'.1 (by cases l <;> rfl) (by cases m <;> rfl) e
    obtain ⟨e3, e4⟩ := txtR_split l m r s h.2 h'.2 e2
    rw [e1, e3]
    exact ⟨rfl, e4⟩
end
theorem txt_inj {t u : F} (h : okT t) (h' : okT u) (e : txt t = txt u) : t = u :=
  (txt_split t u [] [] h h' rfl rfl (by rw [e])).1
theorem txt_ne {t : F} (h : okT t) : txt t ≠ [] := by
  cases t with
  | nd k a l =>
    obtain ⟨c, r, e, _⟩ := txt_head h.1
    rw [e]
    exact fun h => by cases h
theorem dec_lenk : ∀ (k u : Nat), u < 10 ^ (k + 1) → (Go.Lib.decDigits u).length ≤ k + 1
  | 0, u, h => by rw [Go.Lib.decDigits_one (by omega)]; simp
  | k + 1, u, h => by
    by_cases hu : u < 10
    · rw [Go.Lib.decDigits_one hu]; simp
    · rw [Go.Lib.decDigits, dif_neg hu, List.length_append, List.length_singleton]
      have := dec_lenk k (u / 10) (by rw [Nat.pow_succ] at h; omega)
      omega
mutual
theorem txt_len : ∀ t : F, okT t → (txt t).length + 1 ≤ 6 * nodes t
  | nd k a l, h => by
    rw [txt, nodes]
    rcases single_cases h.1 with ⟨rfl, h1, h2, rfl⟩ | ⟨rfl, rfl, t, rfl⟩ | ⟨hk, rfl, hl⟩ | ⟨hk, rfl, rfl⟩
    · rw [if_pos rfl, List.length_cons]
      have : (dgs a).length ≤ 4 := dec_lenk 3 a.toNat (by omega)
      omega
    · have := txt_len t h.2.1
      rw [if_neg (by decide), if_pos rfl, txtH, List.length_cons, nodesL]
      omega
    · have := txtL_len l h.2
      rw [if_neg (by omega), if_neg (by omega), if_neg (by omega), if_neg (by omega)]
      simp only [List.length_cons, List.length_append, List.length_nil]
      omega
    · rw [if_neg (by omega), if_neg (by omega)]
      rcases hk with rfl | rfl <;> simp
      all_goals omega
theorem txtL_len : ∀ l : List F, okL l → (txtL l).length ≤ 6 * nodesL l
  | [], _ => by rw [txtL]; simp
  | t :: r, h => by
    have h1 := txt_len t h.1
    have h2 := txtR_len r h.2
    rw [txtL, List.length_append, nodesL]
    omega
theorem txtR_len : ∀ l : List F, okL l → (txtR l).length ≤ 6 * nodesL l
  | [], _ => by rw [txtR]; simp
  | t :: r, h => by
    have h1 := txt_len t h.1
    have h2 := txtR_len r h.2
    rw [txtR, List.length_cons, List.length_append, nodesL]
    omega
end
end Go.Proofs.YtkdmhjlcgpnjpaaGreatDoor

namespace Go.Proofs.YtkdmhjlcgpnjpaaGreatDoor
set_option linter.unusedVariables false
set_option linter.unusedSimpArgs false
open F

def topM (st : List F) (n : Nat) : F := match st.drop (st.length - 1) with | [] => nd 1 ((n % 6 : Nat) : Int) [] | t :: _ => t
def notM (st : List F) (n : Nat) : List F := st.take (st.length - 1) ++ [nd 2 0 [topM st n]]
def cutM (st : List F) (n : Nat) : Nat := st.length - min st.length (n / 2 % 4)
def joinM (st : List F) (n : Nat) : List F := st.take (cutM st n) ++ [nd (3 + ((n % 2 : Nat) : Int)) 0 (st.drop (cutM st n))]
def stepM (st : List F) (c : Nat) : List F :=
  if c % 8 ≤ 2 then st ++ [nd 1 ((c / 8 % 6 : Nat) : Int) []]
  else if c % 8 = 3 then st ++ [nd (5 + ((c / 8 % 2 : Nat) : Int)) 0 []]
  else if c % 8 = 4 then notM st (c / 8) else joinM st (c / 8)
def runM (code : List UInt8) : List F := code.foldl (fun st c => stepM st c.toNat) []
def mkF (code : List UInt8) : F := match runM (code.take 30) with | [t] => t | st => nd 3 0 st
/-- The variables are below m. -/
def inV (m : Int) (l : List F) : Prop := ∀ u ∈ l, u.k = 1 → 0 ≤ u.a ∧ u.a < m
theorem preL_mem {u t : F} {l : List F} (h : t ∈ l) (hu : u ∈ pre t) : u ∈ preL l := by
  induction l with
  | nil => cases h
  | cons x r ih =>
    rw [preL, List.mem_append]
    rcases List.mem_cons.1 h with rfl | h
    · exact .inl hu
    · exact .inr (ih h)
theorem okL_app {l r : List F} : okL (l ++ r) ↔ okL l ∧ okL r := by
  induction l with
  | nil => simp [okL]
  | cons t l ih => rw [List.cons_append, okL, okL, ih]; exact and_assoc.symm
theorem inV_app {m : Int} {l r : List F} : inV m (l ++ r) ↔ inV m l ∧ inV m r := by
  unfold inV
  constructor
  · intro h; exact ⟨fun u hu => h u (List.mem_append.2 (.inl hu)), fun u hu => h u (List.mem_append.2 (.inr hu))⟩
  · rintro ⟨h1, h2⟩ u hu
    rcases List.mem_append.1 hu with hu | hu
    · exact h1 u hu
    · exact h2 u hu
structure GoodM (j : Nat) (st : List F) : Prop where
  ok : okL st
  vars : inV 6 (preL st)
  nodes : nodesL st ≤ 2 * j
  levels : levelsL st ≤ 2 * j
theorem GoodM.len {j : Nat} {st : List F} (h : GoodM j st) : st.length ≤ 2 * j := Nat.le_trans (length_nodesL st) h.nodes
theorem goodM_nil : GoodM 0 [] := ⟨trivial, fun u hu => (by cases hu), Nat.le_refl _, Nat.le_refl _⟩
theorem goodM_parts {j : Nat} {st : List F} (h : GoodM j st) (k : Nat) : (okL (st.take k) ∧ okL (st.drop k)) ∧ (inV 6 (preL (st.take k)) ∧ inV 6 (preL (st.drop k))) ∧ nodesL (st.take k) + nodesL (st.drop k) ≤ 2 * j ∧ levelsL (st.take k) ≤ 2 * j ∧ levelsL (st.drop k) ≤ 2 * j := by
  have h1 := h.ok
  have h2 := h.vars
  have h3 := h.nodes
  have h4 := h.levels
  rw [← List.take_append_drop k st] at h1 h2 h3 h4
  rw [okL_app] at h1
  rw [preL_app, inV_app] at h2
  rw [nodesL_app] at h3
  rw [levelsL_app] at h4
  exact ⟨h1, h2, h3, by omega, by omega⟩
theorem goodM_add {j : Nat} {a : List F} {t : F} (h1 : okL a) (h2 : okT t) (h3 : inV 6 (preL a)) (h4 : inV 6 (pre t)) (h5 : nodesL a + nodes t ≤ 2 * j) (h6 : levelsL a ≤ 2 * j) (h7 : levels t ≤ 2 * j) : GoodM j (a ++ [t]) := by
  refine ⟨okL_app.2 ⟨h1, h2, trivial⟩, ?_, ?_, ?_⟩
  · rw [preL_app, inV_app]; exact ⟨h3, by rw [preL, preL, List.append_nil]; exact h4⟩
  · rw [nodesL_app, nodesL, nodesL]; omega
  · rw [levelsL_app, levelsL, levelsL]; omega
theorem inV_leaf {k a : Int} (h : k = 1 → 0 ≤ a ∧ a < 6) : inV 6 (pre (nd k a [])) := by
  intro u hu
  rw [pre, preL] at hu
  rcases List.mem_cons.1 hu with rfl | hu
  · exact h
  · cases hu
theorem inV_node {k : Int} {l : List F} (hk : k ≠ 1) (h : inV 6 (preL l)) : inV 6 (pre (nd k 0 l)) := by
  intro u hu
  rw [pre] at hu
  rcases List.mem_cons.1 hu with rfl | hu
  · intro h1; exact absurd h1 hk
  · exact h u hu
theorem goodM_step {j : Nat} {st : List F} (h : GoodM j st) (hj : j ≤ 1000) (c : Nat) : GoodM (j + 1) (stepM st c) := by
  unfold stepM
  split
  · refine goodM_add h.ok ⟨single_var (by omega) (by omega), trivial⟩ h.vars (inV_leaf (fun _ => by omega)) ?_ (by have := h.levels; omega) ?_
    · rw [nodes, nodesL]; have := h.nodes; omega
    · rw [levels, levelsL]; omega
  · split
    · refine goodM_add h.ok ⟨?_, trivial⟩ h.vars (inV_leaf (fun _ => by omega)) ?_ (by have := h.levels; omega) ?_
      · rcases (by omega : c / 8 % 2 = 0 ∨ c / 8 % 2 = 1) with e | e <;> rw [e] <;> rfl
      · rw [nodes, nodesL]; have := h.nodes; omega
      · rw [levels, levelsL]; omega
    · split
      · unfold notM
        obtain ⟨⟨p1, p2⟩, ⟨p3, p4⟩, p5, p6, p7⟩ := goodM_parts h (st.length - 1)
        have key : okT (topM st (c / 8)) ∧ inV 6 (pre (topM st (c / 8))) ∧ nodes (topM st (c / 8)) ≤ 1 + nodesL (st.drop (st.length - 1)) ∧ levels (topM st (c / 8)) ≤ 1 + levelsL (st.drop (st.length - 1)) := by
          unfold topM
          cases hd : st.drop (st.length - 1) with
          | nil => exact ⟨⟨single_var (by omega) (by omega), trivial⟩, inV_leaf (fun _ => by omega), by simp [nodes, nodesL], by simp [levels, levelsL]⟩
          | cons t r =>
            rw [hd] at p2 p4
            rw [preL, inV_app] at p4
            refine ⟨p2.1, p4.1, ?_, ?_⟩
            · rw [nodesL]; dsimp only; omega
            · rw [levelsL]; dsimp only; omega
        obtain ⟨k1, k2, k3, k4⟩ := key
        refine goodM_add p1 ⟨single_not _, k1, trivial⟩ p3 (inV_node (by decide) (by rw [preL, preL, List.append_nil]; exact k2)) ?_ (by omega) ?_
        · rw [nodes, nodesL, nodesL]; omega
        · rw [levels, levelsL, levelsL]; omega
      · unfold joinM
        obtain ⟨⟨p1, p2⟩, ⟨p3, p4⟩, p5, p6, p7⟩ := goodM_parts h (cutM st (c / 8))
        have hl := h.len
        refine goodM_add p1 ⟨single_join (by omega) (by rw [List.length_drop]; omega), p2⟩ p3 (inV_node (by omega) p4) ?_ (by omega) ?_
        · rw [nodes]; omega
        · rw [levels]; omega
theorem goodM_fold : ∀ (l : List UInt8) (j : Nat) (st : List F), GoodM j st → j + l.length ≤ 1000 → GoodM (j + l.length) (l.foldl (fun st c => stepM st c.toNat) st)
  | [], j, st, h, _ => h
  | c :: r, j, st, h, hj => by
    rw [List.length_cons] at hj ⊢
    have := goodM_fold r (j + 1) (stepM st c.toNat) (goodM_step h (by omega) c.toNat) (by omega)
    rw [show j + (r.length + 1) = j + 1 + r.length by omega]
    exact this
theorem mkF_good (code : List UInt8) : okT (mkF code) ∧ inV 6 (pre (mkF code)) ∧ nodes (mkF code) ≤ 61 ∧ levels (mkF code) ≤ 61 := by
  have hl : (code.take 30).length ≤ 30 := by rw [List.length_take]; omega
  have h := goodM_fold (code.take 30) 0 [] goodM_nil (by omega)
  rw [Nat.zero_add] at h
  have h1 := h.nodes
  have h2 := h.levels
  have h3 := h.len
  have h4 := h.ok
  have h5 := h.vars
  change nodesL (runM (code.take 30)) ≤ _ at h1
  change levelsL (runM (code.take 30)) ≤ _ at h2
  change (runM (code.take 30)).length ≤ _ at h3
  change okL (runM (code.take 30)) at h4
  change inV 6 (preL (runM (code.take 30))) at h5
  unfold mkF
  split
  · rename_i t he
    rw [he] at h1 h2 h4 h5
    rw [nodesL, nodesL] at h1
    rw [levelsL, levelsL] at h2
    rw [preL, preL, List.append_nil] at h5
    exact ⟨h4.1, h5, by omega, by omega⟩
  · rename_i st he
    refine ⟨⟨single_join (.inl rfl) (by omega), h4⟩, inV_node (by decide) h5, ?_, ?_⟩
    · rw [nodes]; omega
    · rw [levels]; omega
end Go.Proofs.YtkdmhjlcgpnjpaaGreatDoor

namespace Go.Proofs.YtkdmhjlcgpnjpaaGreatDoor
set_option linter.unusedVariables false
set_option linter.unusedSimpArgs false
open F

theorem compactUp_sorted (d : Array Int) (h : ∀ i j, i ≤ j → j < d.size → d[i]! ≤ d[j]!) : ∀ m, m ≤ d.size →
    (Go.Lib.compactUpTo d m).Pairwise (· < ·) ∧ (∀ x, x ∈ Go.Lib.compactUpTo d m ↔ ∃ j, j < m ∧ d[j]! = x)
  | 0, _ => by simp [Go.Lib.compactUpTo]
  | m + 1, hm => by
    obtain ⟨h1, h2⟩ := compactUp_sorted d h m (by omega)
    rw [Go.Lib.compactUpTo_succ]
    by_cases hk : m = 0 ∨ d[m]! ≠ d[m - 1]!
    · have e : Go.Lib.keeps d m = true := by simp [Go.Lib.keeps, hk]
      rw [e, if_pos rfl]
      constructor
      · rw [List.pairwise_append]
        refine ⟨h1, List.pairwise_singleton _ _, fun a ha b hb => ?_⟩
        rw [List.mem_singleton] at hb
        subst hb
        obtain ⟨j, hj, rfl⟩ := (h2 a).1 ha
        have l1 := h j (m - 1) (by omega) (by omega)
        have l2 := h (m - 1) m (by omega) (by omega)
        rcases hk with hk | hk
        · omega
        · omega
      · intro x
        rw [List.mem_append, h2 x, List.mem_singleton]
        constructor
        · rintro (⟨j, hj, e⟩ | rfl)
          · exact ⟨j, by omega, e⟩
          · exact ⟨m, by omega, rfl⟩
        · rintro ⟨j, hj, he⟩
          by_cases hjm : j = m
          · subst hjm; exact .inr he.symm
          · exact .inl ⟨j, by omega, he⟩
    · have e : Go.Lib.keeps d m = false := by simp [Go.Lib.keeps, hk]
      rw [e, if_neg (by decide), List.append_nil]
      refine ⟨h1, fun x => ?_⟩
      rw [h2 x]
      constructor
      · rintro ⟨j, hj, e⟩; exact ⟨j, by omega, e⟩
      · rintro ⟨j, hj, he⟩
        by_cases hjm : j = m
        · subst hjm
          exact ⟨j - 1, by omega, by rw [← he]; have := Classical.not_not.1 (fun h => hk (.inr h)); exact this.symm⟩
        · exact ⟨j, by omega, he⟩
theorem compact_sorted (zs : List Int) (h : zs.Pairwise (· ≤ ·)) : (Go.Lib.compact zs).Pairwise (· < ·) ∧ ∀ x, x ∈ Go.Lib.compact zs ↔ x ∈ zs := by
  have hs : ∀ i j, i ≤ j → j < zs.toArray.size → zs.toArray[i]! ≤ zs.toArray[j]! := fun i j hij hj => by
    have hj' : j < zs.length := by simpa using hj
    rw [getElem!_pos zs.toArray i (by simp; omega), getElem!_pos zs.toArray j (by simpa using hj')]
    rw [List.getElem_toArray, List.getElem_toArray]
    rcases Nat.lt_or_ge i j with hlt | hge
    · exact List.pairwise_iff_getElem.1 h i j (by omega) hj' hlt
    · have : i = j := by omega
      subst this
      exact Int.le_refl _
  obtain ⟨h1, h2⟩ := compactUp_sorted zs.toArray hs zs.length (by simp)
  refine ⟨h1, fun x => (h2 x).trans ?_⟩
  rw [List.mem_iff_getElem]
  constructor
  · rintro ⟨j, hj, e⟩
    exact ⟨j, hj, by rw [← e, getElem!_pos zs.toArray j (by simpa using hj), List.getElem_toArray]⟩
  · rintro ⟨j, hj, e⟩
    exact ⟨j, hj, by rw [← e, getElem!_pos zs.toArray j (by simpa using hj), List.getElem_toArray]⟩
/-- The variables of nodes, in their order. -/
def varsP : List F → List Int
  | [] => []
  | t :: r => if t.k = 1 then t.a :: varsP r else varsP r
theorem varsP_app (l r : List F) : varsP (l ++ r) = varsP l ++ varsP r := by
  induction l with
  | nil => rfl
  | cons t l ih => rw [List.cons_append, varsP, varsP, ih]; split <;> rfl
theorem varsP_len (l : List F) : (varsP l).length ≤ l.length := by
  induction l with
  | nil => exact Nat.le_refl _
  | cons t l ih => rw [varsP]; split <;> simp only [List.length_cons] <;> omega
theorem varsP_mem (l : List F) (x : Int) : x ∈ varsP l ↔ ∃ u ∈ l, u.k = 1 ∧ u.a = x := by
  induction l with
  | nil => simp [varsP]
  | cons t l ih =>
    rw [varsP]
    split
    · rename_i h
      rw [List.mem_cons, ih]
      constructor
      · rintro (rfl | ⟨u, h1, h2⟩)
        · exact ⟨t, List.mem_cons_self .., h, rfl⟩
        · exact ⟨u, List.mem_cons_of_mem _ h1, h2⟩
      · rintro ⟨u, h1, h2, h3⟩
        rcases List.mem_cons.1 h1 with rfl | h1
        · exact .inl h3.symm
        · exact .inr ⟨u, h1, h2, h3⟩
    · rename_i h
      rw [ih]
      constructor
      · rintro ⟨u, h1, h2⟩; exact ⟨u, List.mem_cons_of_mem _ h1, h2⟩
      · rintro ⟨u, h1, h2⟩
        rcases List.mem_cons.1 h1 with rfl | h1
        · exact absurd h2.1 h
        · exact ⟨u, h1, h2⟩
/-- The variables of trees, in order, each once. -/
def supF (l : List F) : List Int := Go.Lib.compact ((varsP (preL l)).mergeSort fun x y => decide (x ≤ y))
theorem supF_spec (l : List F) : (supF l).Pairwise (· < ·) ∧ ∀ x, x ∈ supF l ↔ ∃ u ∈ preL l, u.k = 1 ∧ u.a = x := by
  have hs : ((varsP (preL l)).mergeSort fun x y => decide (x ≤ y)).Pairwise (· ≤ ·) := by
    have := List.pairwise_mergeSort (le := fun x y : Int => decide (x ≤ y)) (fun a b c h1 h2 => by simp only [decide_eq_true_eq] at *; omega) (fun a b => by simp only [Bool.or_eq_true, decide_eq_true_eq]; omega) (varsP (preL l))
    exact this.imp (fun h => by simpa using h)
  obtain ⟨h1, h2⟩ := compact_sorted _ hs
  refine ⟨h1, fun x => (h2 x).trans ?_⟩
  rw [List.mem_mergeSort, varsP_mem]
theorem supF_len (l : List F) : (supF l).length ≤ nodesL l := by
  unfold supF Go.Lib.compact Go.Lib.compactUpTo
  rw [List.length_map]
  refine Nat.le_trans (List.length_filter_le _ _) ?_
  rw [List.length_range, List.length_mergeSort]
  exact Nat.le_trans (varsP_len _) (by rw [preL_len]; exact Nat.le_refl _)
/-- Two lists that rise, with the same members, are one. -/
theorem rising_ext : ∀ {l m : List Int}, l.Pairwise (· < ·) → m.Pairwise (· < ·) → (∀ x, x ∈ l ↔ x ∈ m) → l = m
  | [], [], _, _, _ => rfl
  | [], y :: m, _, _, h => by have := (h y).2 (List.mem_cons_self ..); cases this
  | x :: l, [], _, _, h => by have := (h x).1 (List.mem_cons_self ..); cases this
  | x :: l, y :: m, h1, h2, h => by
    obtain ⟨a1, a2⟩ := List.pairwise_cons.1 h1
    obtain ⟨b1, b2⟩ := List.pairwise_cons.1 h2
    have e : x = y := by
      have p := (h x).1 (List.mem_cons_self ..)
      have q := (h y).2 (List.mem_cons_self ..)
      rcases List.mem_cons.1 p with p | p
      · exact p
      · rcases List.mem_cons.1 q with q | q
        · exact q.symm
        · have := a1 _ q; have := b1 _ p; omega
    subst e
    rw [rising_ext a2 b2 fun z => ?_]
    have hz := h z
    rw [List.mem_cons, List.mem_cons] at hz
    constructor
    · intro hl
      rcases hz.1 (.inr hl) with rfl | hm
      · have := a1 _ hl; omega
      · exact hm
    · intro hm
      rcases hz.2 (.inr hm) with rfl | hl
      · have := b1 _ hm; omega
      · exact hl
mutual
theorem occ_iff (x : Int) : ∀ t : F, okT t → (occ x t = true ↔ ∃ u ∈ pre t, u.k = 1 ∧ u.a = x)
  | nd k a l, h => by
    rw [occ, pre]
    split
    · rename_i hk
      rw [decide_eq_true_eq]
      constructor
      · intro e; exact ⟨_, List.mem_cons_self .., hk, e⟩
      · rintro ⟨u, hu, h1, h2⟩
        rcases List.mem_cons.1 hu with rfl | hu
        · exact h2
        · rcases single_cases h.1 with ⟨_, _, _, rfl⟩ | ⟨rfl, _⟩ | ⟨h', _⟩ | ⟨h', _⟩
          · rw [preL] at hu; cases hu
          all_goals omega
    · rename_i hk
      rw [occL_iff x l h.2]
      constructor
      · rintro ⟨u, hu, h1⟩; exact ⟨u, List.mem_cons_of_mem _ hu, h1⟩
      · rintro ⟨u, hu, h1⟩
        rcases List.mem_cons.1 hu with rfl | hu
        · exact absurd h1.1 hk
        · exact ⟨u, hu, h1⟩
theorem occL_iff (x : Int) : ∀ l : List F, okL l → (occL x l = true ↔ ∃ u ∈ preL l, u.k = 1 ∧ u.a = x)
  | [], _ => by simp [occL, preL]
  | t :: r, h => by
    rw [occL, preL, Bool.or_eq_true, occ_iff x t h.1, occL_iff x r h.2]
    constructor
    · rintro (⟨u, hu, h1⟩ | ⟨u, hu, h1⟩)
      · exact ⟨u, List.mem_append.2 (.inl hu), h1⟩
      · exact ⟨u, List.mem_append.2 (.inr hu), h1⟩
    · rintro ⟨u, hu, h1⟩
      rcases List.mem_append.1 hu with hu | hu
      · exact .inl ⟨u, hu, h1⟩
      · exact .inr ⟨u, hu, h1⟩
end
end Go.Proofs.YtkdmhjlcgpnjpaaGreatDoor

namespace Go.Proofs.YtkdmhjlcgpnjpaaGreatDoor
set_option linter.unusedVariables false
set_option linter.unusedSimpArgs false
open F

theorem dd_snoc (k : Int) (g : F) : ∀ l acc : List F, dd k acc (l ++ [g]) = if g.k = weak k ∨ g ∈ dd k acc l then dd k acc l else dd k acc l ++ [g]
  | [], acc => by rw [List.nil_append, dd, dd, dd]; split <;> rfl
  | t :: l, acc => by
    rw [List.cons_append, dd, dd]
    split
    · exact dd_snoc k g l acc
    · exact dd_snoc k g l (acc ++ [t])
def revT (l : List F) : List (List UInt8) := (l.map txt).reverse
theorem revT_snoc (l : List F) (g : F) : revT (l ++ [g]) = txt g :: revT l := by simp [revT]
theorem mem_revT {l : List F} {g : F} (hg : okT g) (hl : ∀ u ∈ l, okT u) : txt g ∈ revT l ↔ g ∈ l := by
  unfold revT
  rw [List.mem_reverse, List.mem_map]
  constructor
  · rintro ⟨u, hu, e⟩
    rw [← txt_inj (hl u hu) hg e]
    exact hu
  · intro h; exact ⟨g, h, rfl⟩
theorem smpL_snoc (k : Int) (l : List F) (u : F) : smpL k (l ++ [u]) = smpL k l ++ (if (smp u).k = k then (smp u).l else [smp u]) := by
  rw [smpL_app, smpL, smpL, List.append_nil]
theorem dd_ok {k : Int} {l : List F} (h : ∀ u ∈ l, okT u) (n : Nat) : ∀ u ∈ dd k [] (l.take n), okT u := fun u hu => h u (List.mem_of_mem_take ((dd_mem k _ u).1 hu).1)
theorem dd_len (k : Int) : ∀ (l acc : List F), (dd k acc l).length ≤ acc.length + l.length
  | [], acc => by rw [dd]; simp
  | g :: r, acc => by
    rw [dd]
    split
    · have := dd_len k r acc; rw [List.length_cons]; omega
    · have := dd_len k r (acc ++ [g]); rw [List.length_append, List.length_singleton] at this; rw [List.length_cons]; omega
theorem smpL_take_size (k : Int) (l : List F) (n : Nat) (h : okL l) : nodesL (smpL k (l.take n)) ≤ nodesL l := by
  have h1 : okL (l.take n) ∧ okL (l.drop n) := okL_app.1 (by rw [List.take_append_drop]; exact h)
  have h2 := (smpL_size k (l.take n) h1.1).1
  have h3 : nodesL l = nodesL (l.take n) + nodesL (l.drop n) := by rw [← nodesL_app, List.take_append_drop]
  omega
theorem nodes_mem_ok {l : List F} {u : F} (h : u ∈ l) (hn : nodesL l ≤ 10000) : nodes u ≤ 10000 := Nat.le_trans (nodesL_mem h) hn
end Go.Proofs.YtkdmhjlcgpnjpaaGreatDoor
