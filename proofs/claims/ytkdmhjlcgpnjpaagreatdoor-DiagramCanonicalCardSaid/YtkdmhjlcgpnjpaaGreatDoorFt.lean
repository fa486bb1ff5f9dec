/- Trees of formulas: what the functions compute, in plain Lean. Values, normal forms, and replaced variables of trees, in plain Lean. The simplified form of trees, in plain Lean. Texts of trees, in plain Lean: no text begins another one. What Make makes, in plain Lean. The variables that occur, in plain Lean. Simplified joins, step by step, in plain Lean. -/
import Derived.Test.YtkdmhjlcgpnjpaaGreatDoorCm
import Derived.Lib.Itoa
import Derived.Lib.ItoaLen
import Derived.Lib.SlicesCompact
namespace Go.Proofs.YtkdmhjlcgpnjpaaGreatDoor
set_option linter.unusedVariables false
set_option linter.unusedSimpArgs false

/-- A formula, or a tree: a kind, an argument, and inputs. -/
inductive F : Type
  | nd (k a : Int) (l : List F)
namespace F
def k : F → Int | nd k _ _ => k
def a : F → Int | nd _ a _ => a
def l : F → List F | nd _ _ l => l
end F
open F
theorem F_eta (t : F) : t = nd t.k t.a t.l := by cases t; rfl
mutual
def nodes : F → Nat | nd _ _ l => 1 + nodesL l
def nodesL : List F → Nat | [] => 0 | t :: r => nodes t + nodesL r
end
mutual
def levels : F → Nat | nd _ _ l => 1 + levelsL l
def levelsL : List F → Nat | [] => 0 | t :: r => max (levels t) (levelsL r)
end
theorem nodes_pos (t : F) : 0 < nodes t := by cases t; rw [nodes]; omega
theorem levels_pos (t : F) : 0 < levels t := by cases t; rw [levels]; omega
theorem nodesL_app : ∀ l r : List F, nodesL (l ++ r) = nodesL l + nodesL r
  | [], r => by rw [List.nil_append, nodesL]; omega
  | t :: l, r => by rw [List.cons_append, nodesL, nodesL, nodesL_app l r]; omega
theorem levelsL_app : ∀ l r : List F, levelsL (l ++ r) = max (levelsL l) (levelsL r)
  | [], r => by rw [List.nil_append, levelsL]; omega
  | t :: l, r => by rw [List.cons_append, levelsL, levelsL, levelsL_app l r]; omega
theorem nodesL_mem {t : F} : ∀ {l : List F}, t ∈ l → nodes t ≤ nodesL l
  | [], h => by cases h
  | u :: r, h => by
    rw [nodesL]
    rcases List.mem_cons.1 h with rfl | h
    · omega
    · have := nodesL_mem h; omega
theorem length_nodesL : ∀ l : List F, l.length ≤ nodesL l
  | [] => by simp
  | t :: r => by have := length_nodesL r; have := nodes_pos t; rw [nodesL, List.length_cons]; omega
mutual
def meas : F → Nat → Nat → Nat → Bool × Nat × Nat
  | nd _ _ l, lv, n, m => if 10000 < n + 1 ∨ 100 < lv then (false, n + 1, max m lv) else measL l (lv + 1) (n + 1) (max m lv)
def measL : List F → Nat → Nat → Nat → Bool × Nat × Nat
  | [], _, n, m => (true, n, m)
  | t :: r, lv, n, m => if (meas t lv n m).1 then measL r lv (meas t lv n m).2.1 (meas t lv n m).2.2 else (false, (meas t lv n m).2.1, (meas t lv n m).2.2)
end
mutual
theorem meas_ok : ∀ (t : F) (lv n m : Nat), n + nodes t ≤ 10000 → lv + levels t ≤ 101 → meas t lv n m = (true, n + nodes t, max m (lv + levels t - 1))
  | nd k a l, lv, n, m, h1, h2 => by
    rw [nodes] at h1 ⊢
    rw [levels] at h2 ⊢
    rw [meas, if_neg (by omega), measL_ok l (lv + 1) (n + 1) (max m lv) (by omega) (by omega)]
    refine Prod.ext rfl (Prod.ext ?_ ?_)
    · show n + 1 + nodesL l = n + (1 + nodesL l); omega
    · show (if l = [] then max m lv else max (max m lv) (lv + 1 + levelsL l - 1)) = max m (lv + (1 + levelsL l) - 1)
      split
      · rename_i h; subst h; rw [levelsL]; omega
      · rename_i h
        have : 0 < levelsL l := by
          cases l with
          | nil => exact absurd rfl h
          | cons t r => have := levels_pos t; rw [levelsL]; omega
        omega
theorem measL_ok : ∀ (l : List F) (lv n m : Nat), n + nodesL l ≤ 10000 → lv + levelsL l ≤ 101 → measL l lv n m = (true, n + nodesL l, if l = [] then m else max m (lv + levelsL l - 1))
  | [], lv, n, m, _, _ => by rw [measL, nodesL, if_pos rfl]; rfl
  | t :: r, lv, n, m, h1, h2 => by
    rw [nodesL] at h1 ⊢
    rw [levelsL] at h2 ⊢
    rw [measL, meas_ok t lv n m (by omega) (by omega)]
    dsimp only
    rw [if_pos rfl, measL_ok r lv (n + nodes t) _ (by omega) (by omega)]
    refine Prod.ext rfl (Prod.ext ?_ ?_)
    · show n + nodes t + nodesL r = n + (nodes t + nodesL r); omega
    · have := levels_pos t
      show (if r = [] then max m (lv + levels t - 1) else max (max m (lv + levels t - 1)) (lv + levelsL r - 1)) = if t :: r = [] then m else max m (lv + max (levels t) (levelsL r) - 1)
      rw [if_neg (fun h : t :: r = [] => by cases h)]
      split
      · rename_i h; subst h; rw [levelsL]; omega
      · omega
end
mutual
theorem meas_inv : ∀ (t : F) (lv n m : Nat), n ≤ 10000 → (meas t lv n m).1 = true → n + nodes t ≤ 10000 ∧ lv + levels t ≤ 101
  | nd k a l, lv, n, m, h0, h => by
    rw [meas] at h
    rw [nodes, levels]
    split at h
    · cases h
    · rename_i hc
      have := measL_inv l (lv + 1) (n + 1) (max m lv) (by omega) (by omega) h
      omega
theorem measL_inv : ∀ (l : List F) (lv n m : Nat), n ≤ 10000 → lv ≤ 101 → (measL l lv n m).1 = true → n + nodesL l ≤ 10000 ∧ lv + levelsL l ≤ 101
  | [], lv, n, m, h0, h1, _ => by rw [nodesL, levelsL]; omega
  | t :: r, lv, n, m, h0, h1, h => by
    rw [measL] at h
    rw [nodesL, levelsL]
    split at h
    · rename_i ht
      have hi := meas_inv t lv n m h0 ht
      have he := meas_ok t lv n m hi.1 hi.2
      rw [he] at h
      have := measL_inv r lv (n + nodes t) _ hi.1 h1 h
      omega
    · cases h
end
mutual
theorem meas_le : ∀ (t : F) (lv n m : Nat), n ≤ 10000 → lv ≤ 101 → (meas t lv n m).2.1 ≤ 10001 ∧ (meas t lv n m).2.2 ≤ max m 101 ∧ ((meas t lv n m).1 = true → (meas t lv n m).2.1 ≤ 10000)
  | nd k a l, lv, n, m, h0, h1 => by
    rw [meas]
    split
    · dsimp only; refine ⟨by omega, by omega, fun h => by cases h⟩
    · rename_i hc
      have := measL_le l (lv + 1) (n + 1) (max m lv) (by omega) (by omega)
      refine ⟨this.1, by omega, this.2.2⟩
theorem measL_le : ∀ (l : List F) (lv n m : Nat), n ≤ 10000 → lv ≤ 101 → (measL l lv n m).2.1 ≤ 10001 ∧ (measL l lv n m).2.2 ≤ max m 101 ∧ ((measL l lv n m).1 = true → (measL l lv n m).2.1 ≤ 10000)
  | [], lv, n, m, h0, h1 => by rw [measL]; dsimp only; omega
  | t :: r, lv, n, m, h0, h1 => by
    have ht := meas_le t lv n m h0 h1
    rw [measL]
    split
    · rename_i hc
      have := measL_le r lv _ (meas t lv n m).2.2 (ht.2.2 hc) h1
      refine ⟨this.1, by omega, this.2.2⟩
    · dsimp only; exact ⟨ht.1, ht.2.1, fun h => by cases h⟩
end
/-- A formula keeps the limits. -/
def fitsF (t : F) : Bool := decide (nodes t ≤ 10000 ∧ levels t ≤ 100)
theorem meas_fits (t : F) : (meas t 1 0 0).1 = fitsF t := by
  unfold fitsF
  by_cases h : nodes t ≤ 10000 ∧ levels t ≤ 100
  · rw [meas_ok t 1 0 0 (by omega) (by omega), decide_eq_true h]
  · rw [decide_eq_false h]
    cases hm : (meas t 1 0 0).1 with
    | false => rfl
    | true => have := meas_inv t 1 0 0 (by omega) hm; omega
mutual
def pre : F → List F | nd k a l => nd k a l :: preL l
def preL : List F → List F | [] => [] | t :: r => pre t ++ preL r
end
theorem pre_eq (t : F) : pre t = t :: preL t.l := by cases t; rfl
mutual
theorem pre_len : ∀ t : F, (pre t).length = nodes t | nd k a l => by rw [pre, nodes, List.length_cons, preL_len l]; omega
theorem preL_len : ∀ l : List F, (preL l).length = nodesL l | [] => rfl | t :: r => by rw [preL, nodesL, List.length_append, pre_len t, preL_len r]
end
theorem preL_app : ∀ l r : List F, preL (l ++ r) = preL l ++ preL r
  | [], r => rfl
  | t :: l, r => by rw [List.cons_append, preL, preL, preL_app l r, List.append_assoc]
/-- The error of a node by itself. -/
def single : F → Int
  | nd k a l => if k = 1 then (if a < 0 ∨ 4096 ≤ a then 3 else if l.length = 0 then 0 else 7)
    else if k = 2 then (if a = 0 ∧ l.length = 1 then 0 else 7)
    else if k = 3 ∨ k = 4 then (if a = 0 ∧ l.length ≤ 10000 then 0 else 7)
    else if k = 5 ∨ k = 6 then (if a = 0 ∧ l.length = 0 then 0 else 7)
    else 12
/-- The first error. -/
def firstE : List F → Int
  | [] => 0
  | t :: r => if single t = 0 then firstE r else single t
theorem firstE_app : ∀ l r : List F, firstE (l ++ r) = if firstE l = 0 then firstE r else firstE l
  | [], r => rfl
  | t :: l, r => by
    rw [List.cons_append, firstE, firstE, firstE_app l r]
    split <;> simp_all
def checkF (t : F) : Int := if fitsF t then firstE (pre t) else 4
mutual
def okT : F → Prop | nd k a l => single (nd k a l) = 0 ∧ okL l
def okL : List F → Prop | [] => True | t :: r => okT t ∧ okL r
end
mutual
theorem okT_iff : ∀ t : F, okT t ↔ firstE (pre t) = 0
  | nd k a l => by
    rw [okT, pre, firstE, okL_iff l]
    constructor
    · rintro ⟨h1, h2⟩; rw [if_pos h1]; exact h2
    · intro h
      by_cases h1 : single (nd k a l) = 0
      · rw [if_pos h1] at h; exact ⟨h1, h⟩
      · rw [if_neg h1] at h; exact absurd h h1
theorem okL_iff : ∀ l : List F, okL l ↔ firstE (preL l) = 0
  | [] => by rw [okL, preL, firstE]; simp
  | t :: r => by
    rw [okL, preL, firstE_app, okT_iff t, okL_iff r]
    constructor
    · rintro ⟨h1, h2⟩; rw [if_pos h1]; exact h2
    · intro h
      by_cases h1 : firstE (pre t) = 0
      · rw [if_pos h1] at h; exact ⟨h1, h⟩
      · rw [if_neg h1] at h; exact absurd h h1
end
theorem okL_mem {t : F} : ∀ {l : List F}, okL l → t ∈ l → okT t
  | [], _, h => by cases h
  | u :: r, ho, h => by
    rw [okL] at ho
    rcases List.mem_cons.1 h with rfl | h
    · exact ho.1
    · exact okL_mem ho.2 h
theorem okT_l {t : F} (h : okT t) : okL t.l := by cases t; exact h.2
theorem checkF_ok {t : F} : checkF t = 0 ↔ fitsF t = true ∧ okT t := by
  unfold checkF
  split
  · rename_i h; rw [okT_iff]; simp [h]
  · rename_i h; simp [h]
end Go.Proofs.YtkdmhjlcgpnjpaaGreatDoor

namespace Go.Proofs.YtkdmhjlcgpnjpaaGreatDoor
set_option linter.unusedVariables false
set_option linter.unusedSimpArgs false
open F

/-- The constant of a value. -/
def cst (b : Bool) : F := nd (if b then 6 else 5) 0 []
mutual
def val (ρ : Int → Bool) : F → Bool
  | nd k a l => if k = 1 then ρ a else if k = 2 then !valH ρ l else if k = 3 then valA ρ l else if k = 4 then valO ρ l else decide (k = 6)
def valH (ρ : Int → Bool) : List F → Bool | [] => false | t :: _ => val ρ t
def valA (ρ : Int → Bool) : List F → Bool | [] => true | t :: r => val ρ t && valA ρ r
def valO (ρ : Int → Bool) : List F → Bool | [] => false | t :: r => val ρ t || valO ρ r
end
/-- The kinds of a right formula. -/
theorem single_cases {k a : Int} {l : List F} (h : single (nd k a l) = 0) :
    (k = 1 ∧ 0 ≤ a ∧ a < 4096 ∧ l = []) ∨ (k = 2 ∧ a = 0 ∧ ∃ t, l = [t]) ∨ ((k = 3 ∨ k = 4) ∧ a = 0 ∧ l.length ≤ 10000) ∨ ((k = 5 ∨ k = 6) ∧ a = 0 ∧ l = []) := by
  rw [single] at h
  split at h
  · rename_i hk
    split at h
    · cases h
    · split at h
      · rename_i h1 h2
        exact .inl ⟨hk, by omega, by omega, List.length_eq_zero_iff.1 h2⟩
      · cases h
  · split at h
    · rename_i _ hk
      split at h
      · rename_i h1
        exact .inr (.inl ⟨hk, h1.1, List.length_eq_one_iff.1 h1.2⟩)
      · cases h
    · split at h
      · rename_i _ _ hk
        split at h
        · rename_i h1
          exact .inr (.inr (.inl ⟨hk, h1.1, h1.2⟩))
        · cases h
      · split at h
        · rename_i _ _ _ hk
          split at h
          · rename_i h1
            exact .inr (.inr (.inr ⟨hk, h1.1, List.length_eq_zero_iff.1 h1.2⟩))
          · cases h
        · cases h
theorem single_var {a : Int} (h0 : 0 ≤ a) (h1 : a < 4096) : single (nd 1 a []) = 0 := by
  rw [single, if_pos rfl, if_neg (by omega)]; rfl
theorem single_not (t : F) : single (nd 2 0 [t]) = 0 := by
  rfl
theorem single_join {k : Int} (hk : k = 3 ∨ k = 4) {l : List F} (h : l.length ≤ 10000) : single (nd k 0 l) = 0 := by
  rw [single, if_neg (by omega), if_neg (by omega), if_pos hk, if_pos ⟨rfl, h⟩]
mutual
def lit : F → Bool | nd k _ l => litL k l
def litL (k : Int) : List F → Bool | [] => true | t :: r => lit t && !(decide (k = 2) && decide (t.k ≠ 1)) && litL k r
end
mutual
def put (x : Int) (b : F) : F → F | nd k a l => if k = 1 ∧ a = x then b else nd k a (putL x b l)
def putL (x : Int) (b : F) : List F → List F | [] => [] | t :: r => put x b t :: putL x b r
end
mutual
def occ (x : Int) : F → Bool | nd k a l => if k = 1 then decide (a = x) else occL x l
def occL (x : Int) : List F → Bool | [] => false | t :: r => occ x t || occL x r
end
mutual
theorem val_congr {ρ σ : Int → Bool} : ∀ t : F, okT t → (∀ x, occ x t = true → ρ x = σ x) → val ρ t = val σ t
  | nd k a l, ho, h => by
    rcases single_cases ho.1 with ⟨rfl, h1, h2, rfl⟩ | ⟨hk, _⟩ | ⟨hk, _⟩ | ⟨hk, _⟩
    · rw [val, val, if_pos rfl, if_pos rfl]
      exact h a (by rw [occ, if_pos rfl]; exact decide_eq_true rfl)
    all_goals
      have := val_congrL l ho.2 (fun x hx => h x (by rw [occ, if_neg (by omega)]; exact hx))
      simp only [val, this.1, this.2.1, this.2.2, show ¬ k = 1 by omega, if_false]
theorem val_congrL {ρ σ : Int → Bool} : ∀ l : List F, okL l → (∀ x, occL x l = true → ρ x = σ x) → valH ρ l = valH σ l ∧ valA ρ l = valA σ l ∧ valO ρ l = valO σ l
  | [], _, _ => ⟨rfl, rfl, rfl⟩
  | t :: r, ho, h => by
    have h1 := val_congr t ho.1 (fun x hx => h x (by rw [occL, hx]; rfl))
    have h2 := val_congrL r ho.2 (fun x hx => h x (by rw [occL, hx, Bool.or_true]))
    simp only [valH, valA, valO, h1, h2.2.1, h2.2.2]
    exact ⟨trivial, trivial, trivial⟩
end
end Go.Proofs.YtkdmhjlcgpnjpaaGreatDoor

namespace Go.Proofs.YtkdmhjlcgpnjpaaGreatDoor
set_option linter.unusedVariables false
set_option linter.unusedSimpArgs false
open F

mutual
def eqF : F → F → Bool | nd k a l, nd k' a' l' => decide (k = k') && decide (a = a') && eqL l l'
def eqL : List F → List F → Bool | [], [] => true | t :: r, u :: s => eqF t u && eqL r s | [], _ :: _ => false | _ :: _, [] => false
end
mutual
theorem eqF_iff : ∀ t u : F, eqF t u = true ↔ t = u
  | nd k a l, nd k' a' l' => by
    rw [eqF, Bool.and_eq_true, Bool.and_eq_true, decide_eq_true_eq, decide_eq_true_eq, eqL_iff l l']
    constructor
    · rintro ⟨⟨rfl, rfl⟩, rfl⟩; rfl
    · intro h; injection h with h1 h2 h3; exact ⟨⟨h1, h2⟩, h3⟩
theorem eqL_iff : ∀ t u : List F, eqL t u = true ↔ t = u
  | [], [] => by rw [eqL]; simp
  | t :: r, u :: s => by rw [eqL, Bool.and_eq_true, eqF_iff t u, eqL_iff r s, List.cons.injEq]
  | [], _ :: _ => by rw [eqL]; simp
  | _ :: _, [] => by rw [eqL]; simp
end
instance : DecidableEq F := fun t u => decidable_of_iff _ (eqF_iff t u)
theorem valA_app (ρ : Int → Bool) : ∀ l r : List F, valA ρ (l ++ r) = (valA ρ l && valA ρ r)
  | [], r => rfl
  | t :: l, r => by rw [List.cons_append, valA, valA, valA_app ρ l r, Bool.and_assoc]
theorem valO_app (ρ : Int → Bool) : ∀ l r : List F, valO ρ (l ++ r) = (valO ρ l || valO ρ r)
  | [], r => rfl
  | t :: l, r => by rw [List.cons_append, valO, valO, valO_app ρ l r, Bool.or_assoc]
end Go.Proofs.YtkdmhjlcgpnjpaaGreatDoor

namespace Go.Proofs.YtkdmhjlcgpnjpaaGreatDoor
set_option linter.unusedVariables false
set_option linter.unusedSimpArgs false
open F

/-- The digits of a number that is not negative. -/
def dgs (a : Int) : List UInt8 := Go.Lib.decDigits a.toNat
def isDg (c : UInt8) : Bool := decide (48 ≤ c.toNat) && decide (c.toNat ≤ 57)
theorem dv {d : Nat} (h : d < 10) : (UInt8.ofNat (48 + d)).toNat = 48 + d := by rw [UInt8.toNat_ofNat']; omega
theorem dec_all (u : Nat) : ∀ c ∈ Go.Lib.decDigits u, isDg c = true := by
  induction u using Nat.strongRecOn with
  | ind u ih =>
    intro c hc
    by_cases h : u < 10
    · rw [Go.Lib.decDigits_one h] at hc
      rw [List.mem_singleton.1 hc]
      unfold isDg
      rw [dv h, Bool.and_eq_true]
      exact ⟨decide_eq_true (by omega), decide_eq_true (by omega)⟩
    · rw [Go.Lib.decDigits, dif_neg h] at hc
      rcases List.mem_append.1 hc with h1 | h1
      · exact ih (u / 10) (by omega) c h1
      · rw [List.mem_singleton.1 h1]
        unfold isDg
        rw [dv (Nat.mod_lt _ (by decide)), Bool.and_eq_true]
        exact ⟨decide_eq_true (by omega), decide_eq_true (by omega)⟩
def dval (l : List UInt8) : Nat := l.foldl (fun a c => 10 * a + (c.toNat - 48)) 0
theorem dec_val (u : Nat) : dval (Go.Lib.decDigits u) = u := by
  induction u using Nat.strongRecOn with
  | ind u ih =>
    by_cases h : u < 10
    · rw [Go.Lib.decDigits_one h]
      simp only [dval, List.foldl_cons, List.foldl_nil, dv h]
      omega
    · have hi := ih (u / 10) (by omega)
      rw [Go.Lib.decDigits, dif_neg h]
      unfold dval at hi ⊢
      rw [List.foldl_append, hi]
      simp only [List.foldl_cons, List.foldl_nil, dv (Nat.mod_lt u (show 0 < 10 by decide))]
      omega
theorem dgs_ne (a : Int) : dgs a ≠ [] := fun h => by
  have := Go.Lib.decDigits_length a.toNat
  have h2 := Go.Lib.nDigits_pos a.toNat
  unfold dgs at h
  rw [h] at this
  simp at this
  omega
mutual
def txt : F → List UInt8
  | nd k a l => if k = 1 then 120 :: dgs a else if k = 2 then 33 :: txtH l else if k = 5 then [48] else if k = 6 then [49] else (if k = 3 then 38 else 124) :: 40 :: (txtL l ++ [41])
def txtH : List F → List UInt8 | [] => [] | t :: _ => txt t
def txtL : List F → List UInt8 | [] => [] | t :: r => txt t ++ txtR r
def txtR : List F → List UInt8 | [] => [] | t :: r => 32 :: (txt t ++ txtR r)
end
theorem txtR_app : ∀ l r : List F, txtR (l ++ r) = txtR l ++ txtR r
  | [], r => rfl
  | t :: l, r => by rw [List.cons_append, txtR, txtR, txtR_app l r, List.cons_append, List.append_assoc]
theorem txtL_snoc (l : List F) (t : F) : txtL (l ++ [t]) = txtL l ++ (if l = [] then txt t else 32 :: txt t) := by
  cases l with
  | nil =>
    rw [if_pos rfl]
    show txt t ++ [] = [] ++ txt t
    rw [List.append_nil, List.nil_append]
  | cons u r =>
    rw [List.cons_append, txtL, txtL, txtR_app, if_neg (fun h => by cases h), List.append_assoc]
    show txt u ++ (txtR r ++ (32 :: (txt t ++ []))) = _
    rw [List.append_nil]
/-- What follows does not go on with a digit. -/
def stopD : List UInt8 → Bool | [] => true | c :: _ => !isDg c
theorem txt_head {k a : Int} {l : List F} (h : single (nd k a l) = 0) : ∃ c r, txt (nd k a l) = c :: r ∧ (c = if k = 1 then 120 else if k = 2 then 33 else if k = 3 then 38 else if k = 4 then 124 else if k = 5 then 48 else 49) := by
  rw [txt]
  rcases single_cases h with ⟨rfl, h1, h2, rfl⟩ | ⟨rfl, rfl, t, rfl⟩ | ⟨rfl | rfl, rfl, hl⟩ | ⟨rfl | rfl, rfl, rfl⟩
  · exact ⟨_, _, rfl, rfl⟩
  · exact ⟨_, _, rfl, rfl⟩
  · exact ⟨_, _, rfl, rfl⟩
  · exact ⟨_, _, rfl, rfl⟩
  · exact ⟨_, _, rfl, rfl⟩
  · exact ⟨_, _, rfl, rfl⟩
theorem ok_range {k a : Int} {l : List F} (h : single (nd k a l) = 0) : 1 ≤ k ∧ k ≤ 6 := by
  rcases single_cases h with ⟨rfl, _⟩ | ⟨rfl, _⟩ | ⟨hk, _⟩ | ⟨hk, _⟩ <;> omega
theorem dec_lenk : ∀ (k u : Nat), u < 10 ^ (k + 1) → (Go.Lib.decDigits u).length ≤ k + 1
  | 0, u, h => by rw [Go.Lib.decDigits_one (by omega)]; simp
  | k + 1, u, h => by
    by_cases hu : u < 10
    · rw [Go.Lib.decDigits_one hu]; simp
    · rw [Go.Lib.decDigits, dif_neg hu, List.length_append, List.length_singleton]
      have := dec_lenk k (u / 10) (by rw [Nat.pow_succ] at h; omega)
      omega
mutual
theorem txt_len : ∀ t : F, okT t → (txt t).length + 1 ≤ 6 * nodes t
  | nd k a l, h => by
    rw [txt, nodes]
    rcases single_cases h.1 with ⟨rfl, h1, h2, rfl⟩ | ⟨rfl, rfl, t, rfl⟩ | ⟨hk, rfl, hl⟩ | ⟨hk, rfl, rfl⟩
    · rw [if_pos rfl, List.length_cons]
      have : (dgs a).length ≤ 4 := dec_lenk 3 a.toNat (by omega)
      omega
    · have := txt_len t h.2.1
      rw [if_neg (by decide), if_pos rfl, txtH, List.length_cons, nodesL]
      omega
    · have := txtL_len l h.2
      rw [if_neg (by omega), if_neg (by omega), if_neg (by omega), if_neg (by omega)]
      simp only [List.length_cons, List.length_append, List.length_nil]
      omega
    · rw [if_neg (by omega), if_neg (by omega)]
      rcases hk with rfl | rfl <;> simp
      all_goals omega
theorem txtL_len : ∀ l : List F, okL l → (txtL l).length ≤ 6 * nodesL l
  | [], _ => by rw [txtL]; simp
  | t :: r, h => by
    have h1 := txt_len t h.1
    have h2 := txtR_len r h.2
    rw [txtL, List.length_append, nodesL]
    omega
theorem txtR_len : ∀ l : List F, okL l → (txtR l).length ≤ 6 * nodesL l
  | [], _ => by rw [txtR]; simp
  | t :: r, h => by
    have h1 := txt_len t h.1
    have h2 := txtR_len r h.2
    rw [txtR, List.length_cons, List.length_append, nodesL]
    omega
end
end Go.Proofs.YtkdmhjlcgpnjpaaGreatDoor

namespace Go.Proofs.YtkdmhjlcgpnjpaaGreatDoor
set_option linter.unusedVariables false
set_option linter.unusedSimpArgs false
open F

def topM (st : List F) (n : Nat) : F := match st.drop (st.length - 1) with | [] => nd 1 ((n % 6 : Nat) : Int) [] | t :: _ => t
def notM (st : List F) (n : Nat) : List F := st.take (st.length - 1) ++ [nd 2 0 [topM st n]]
def cutM (st : List F) (n : Nat) : Nat := st.length - min st.length (n / 2 % 4)
def joinM (st : List F) (n : Nat) : List F := st.take (cutM st n) ++ [nd (3 + ((n % 2 : Nat) : Int)) 0 (st.drop (cutM st n))]
def stepM (st : List F) (c : Nat) : List F :=
  if c % 8 ≤ 2 then st ++ [nd 1 ((c / 8 % 6 : Nat) : Int) []]
  else if c % 8 = 3 then st ++ [nd (5 + ((c / 8 % 2 : Nat) : Int)) 0 []]
  else if c % 8 = 4 then notM st (c / 8) else joinM st (c / 8)
def runM (code : List UInt8) : List F := code.foldl (fun st c => stepM st c.toNat) []
def mkF (code : List UInt8) : F := match runM (code.take 30) with | [t] => t | st => nd 3 0 st
/-- The variables are below m. -/
def inV (m : Int) (l : List F) : Prop := ∀ u ∈ l, u.k = 1 → 0 ≤ u.a ∧ u.a < m
theorem preL_mem {u t : F} {l : List F} (h : t ∈ l) (hu : u ∈ pre t) : u ∈ preL l := by
  induction l with
  | nil => cases h
  | cons x r ih =>
    rw [preL, List.mem_append]
    rcases List.mem_cons.1 h with rfl | h
    · exact .inl hu
    · exact .inr (ih h)
theorem okL_app {l r : List F} : okL (l ++ r) ↔ okL l ∧ okL r := by
  induction l with
  | nil => simp [okL]
  | cons t l ih => rw [List.cons_append, okL, okL, ih]; exact and_assoc.symm
theorem inV_app {m : Int} {l r : List F} : inV m (l ++ r) ↔ inV m l ∧ inV m r := by
  unfold inV
  constructor
  · intro h; exact ⟨fun u hu => h u (List.mem_append.2 (.inl hu)), fun u hu => h u (List.mem_append.2 (.inr hu))⟩
  · rintro ⟨h1, h2⟩ u hu
    rcases List.mem_append.1 hu with hu | hu
    · exact h1 u hu
    · exact h2 u hu
structure GoodM (j : Nat) (st : List F) : Prop where
  ok : okL st
  vars : inV 6 (preL st)
  nodes : nodesL st ≤ 2 * j
  levels : levelsL st ≤ 2 * j
theorem GoodM.len {j : Nat} {st : List F} (h : GoodM j st) : st.length ≤ 2 * j := Nat.le_trans (length_nodesL st) h.nodes
theorem goodM_nil : GoodM 0 [] := ⟨trivial, fun u hu => (by cases hu), Nat.le_refl _, Nat.le_refl _⟩
theorem goodM_parts {j : Nat} {st : List F} (h : GoodM j st) (k : Nat) : (okL (st.take k) ∧ okL (st.drop k)) ∧ (inV 6 (preL (st.take k)) ∧ inV 6 (preL (st.drop k))) ∧ nodesL (st.take k) + nodesL (st.drop k) ≤ 2 * j ∧ levelsL (st.take k) ≤ 2 * j ∧ levelsL (st.drop k) ≤ 2 * j := by
  have h1 := h.ok
  have h2 := h.vars
  have h3 := h.nodes
  have h4 := h.levels
  rw [← List.take_append_drop k st] at h1 h2 h3 h4
  rw [okL_app] at h1
  rw [preL_app, inV_app] at h2
  rw [nodesL_app] at h3
  rw [levelsL_app] at h4
  exact ⟨h1, h2, h3, by omega, by omega⟩
theorem goodM_add {j : Nat} {a : List F} {t : F} (h1 : okL a) (h2 : okT t) (h3 : inV 6 (preL a)) (h4 : inV 6 (pre t)) (h5 : nodesL a + nodes t ≤ 2 * j) (h6 : levelsL a ≤ 2 * j) (h7 : levels t ≤ 2 * j) : GoodM j (a ++ [t]) := by
  refine ⟨okL_app.2 ⟨h1, h2, trivial⟩, ?_, ?_, ?_⟩
  · rw [preL_app, inV_app]; exact ⟨h3, by rw [preL, preL, List.append_nil]; exact h4⟩
  · rw [nodesL_app, nodesL, nodesL]; omega
  · rw [levelsL_app, levelsL, levelsL]; omega
theorem inV_leaf {k a : Int} (h : k = 1 → 0 ≤ a ∧ a < 6) : inV 6 (pre (nd k a [])) := by
  intro u hu
  rw [pre, preL] at hu
  rcases List.mem_cons.1 hu with rfl | hu
  · exact h
  · cases hu
theorem inV_node {k : Int} {l : List F} (hk : k ≠ 1) (h : inV 6 (preL l)) : inV 6 (pre (nd k 0 l)) := by
  intro u hu
  rw [pre] at hu
  rcases List.mem_cons.1 hu with rfl | hu
  · intro h1; exact absurd h1 hk
  · exact h u hu
theorem goodM_step {j : Nat} {st : List F} (h : GoodM j st) (hj : j ≤ 1000) (c : Nat) : GoodM (j + 1) (stepM st c) := by
  unfold stepM
  split
  · refine goodM_add h.ok ⟨single_var (by omega) (by omega), trivial⟩ h.vars (inV_leaf (fun _ => by omega)) ?_ (by have := h.levels; omega) ?_
    · rw [nodes, nodesL]; have := h.nodes; omega
    · rw [levels, levelsL]; omega
  · split
    · refine goodM_add h.ok ⟨?_, trivial⟩ h.vars (inV_leaf (fun _ => by omega)) ?_ (by have := h.levels; omega) ?_
      · rcases (by omega : c / 8 % 2 = 0 ∨ c / 8 % 2 = 1) with e | e <;> rw [e] <;> rfl
      · rw [nodes, nodesL]; have := h.nodes; omega
      · rw [levels, levelsL]; omega
    · split
      · unfold notM
        obtain ⟨⟨p1, p2⟩, ⟨p3, p4⟩, p5, p6, p7⟩ := goodM_parts h (st.length - 1)
        have key : okT (topM st (c / 8)) ∧ inV 6 (pre (topM st (c / 8))) ∧ nodes (topM st (c / 8)) ≤ 1 + nodesL (st.drop (st.length - 1)) ∧ levels (topM st (c / 8)) ≤ 1 + levelsL (st.drop (st.length - 1)) := by
          unfold topM
          cases hd : st.drop (st.length - 1) with
          | nil => exact ⟨⟨single_var (by omega) (by omega), trivial⟩, inV_leaf (fun _ => by omega), by simp [nodes, nodesL], by simp [levels, levelsL]⟩
          | cons t r =>
            rw [hd] at p2 p4
            rw [preL, inV_app] at p4
            refine ⟨p2.1, p4.1, ?_, ?_⟩
            · rw [nodesL]; dsimp only; omega
            · rw [levelsL]; dsimp only; omega
        obtain ⟨k1, k2, k3, k4⟩ := key
        refine goodM_add p1 ⟨single_not _, k1, trivial⟩ p3 (inV_node (by decide) (by rw [preL, preL, List.append_nil]; exact k2)) ?_ (by omega) ?_
        · rw [nodes, nodesL, nodesL]; omega
        · rw [levels, levelsL, levelsL]; omega
      · unfold joinM
        obtain ⟨⟨p1, p2⟩, ⟨p3, p4⟩, p5, p6, p7⟩ := goodM_parts h (cutM st (c / 8))
        have hl := h.len
        refine goodM_add p1 ⟨single_join (by omega) (by rw [List.length_drop]; omega), p2⟩ p3 (inV_node (by omega) p4) ?_ (by omega) ?_
        · rw [nodes]; omega
        · rw [levels]; omega
theorem goodM_fold : ∀ (l : List UInt8) (j : Nat) (st : List F), GoodM j st → j + l.length ≤ 1000 → GoodM (j + l.length) (l.foldl (fun st c => stepM st c.toNat) st)
  | [], j, st, h, _ => h
  | c :: r, j, st, h, hj => by
    rw [List.length_cons] at hj ⊢
    have := goodM_fold r (j + 1) (stepM st c.toNat) (goodM_step h (by omega) c.toNat) (by omega)
    rw [show j + (r.length + 1) = j + 1 + r.length by omega]
    exact this
theorem mkF_good (code : List UInt8) : okT (mkF code) ∧ inV 6 (pre (mkF code)) ∧ nodes (mkF code) ≤ 61 ∧ levels (mkF code) ≤ 61 := by
  have hl : (code.take 30).length ≤ 30 := by rw [List.length_take]; omega
  have h := goodM_fold (code.take 30) 0 [] goodM_nil (by omega)
  rw [Nat.zero_add] at h
  have h1 := h.nodes
  have h2 := h.levels
  have h3 := h.len
  have h4 := h.ok
  have h5 := h.vars
  change nodesL (runM (code.take 30)) ≤ _ at h1
  change levelsL (runM (code.take 30)) ≤ _ at h2
  change (runM (code.take 30)).length ≤ _ at h3
  change okL (runM (code.take 30)) at h4
  change inV 6 (preL (runM (code.take 30))) at h5
  unfold mkF
  split
  · rename_i t he
    rw [he] at h1 h2 h4 h5
    rw [nodesL, nodesL] at h1
    rw [levelsL, levelsL] at h2
    rw [preL, preL, List.append_nil] at h5
    exact ⟨h4.1, h5, by omega, by omega⟩
  · rename_i st he
    refine ⟨⟨single_join (.inl rfl) (by omega), h4⟩, inV_node (by decide) h5, ?_, ?_⟩
    · rw [nodes]; omega
    · rw [levels]; omega
end Go.Proofs.YtkdmhjlcgpnjpaaGreatDoor

namespace Go.Proofs.YtkdmhjlcgpnjpaaGreatDoor
set_option linter.unusedVariables false
set_option linter.unusedSimpArgs false
open F

theorem compactUp_sorted (d : Array Int) (h : ∀ i j, i ≤ j → j < d.size → d[i]! ≤ d[j]!) : ∀ m, m ≤ d.size →
    (Go.Lib.compactUpTo d m).Pairwise (· < ·) ∧ (∀ x, x ∈ Go.Lib.compactUpTo d m ↔ ∃ j, j < m ∧ d[j]! = x)
  | 0, _ => by simp [Go.Lib.compactUpTo]
  | m + 1, hm => by
    obtain ⟨h1, h2⟩ := compactUp_sorted d h m (by omega)
    rw [Go.Lib.compactUpTo_succ]
    by_cases hk : m = 0 ∨ d[m]! ≠ d[m - 1]!
    · have e : Go.Lib.keeps d m = true := by simp [Go.Lib.keeps, hk]
      rw [e, if_pos rfl]
      constructor
      · rw [List.pairwise_append]
        refine ⟨h1, List.pairwise_singleton _ _, fun a ha b hb => ?_⟩
        rw [List.mem_singleton] at hb
        subst hb
        obtain ⟨j, hj, rfl⟩ := (h2 a).1 ha
        have l1 := h j (m - 1) (by omega) (by omega)
        have l2 := h (m - 1) m (by omega) (by omega)
        rcases hk with hk | hk
        · omega
        · omega
      · intro x
        rw [List.mem_append, h2 x, List.mem_singleton]
        constructor
        · rintro (⟨j, hj, e⟩ | rfl)
          · exact ⟨j, by omega, e⟩
          · exact ⟨m, by omega, rfl⟩
        · rintro ⟨j, hj, he⟩
          by_cases hjm : j = m
          · subst hjm; exact .inr he.symm
          · exact .inl ⟨j, by omega, he⟩
    · have e : Go.Lib.keeps d m = false := by simp [Go.Lib.keeps, hk]
      rw [e, if_neg (by decide), List.append_nil]
      refine ⟨h1, fun x => ?_⟩
      rw [h2 x]
      constructor
      · rintro ⟨j, hj, e⟩; exact ⟨j, by omega, e⟩
      · rintro ⟨j, hj, he⟩
        by_cases hjm : j = m
        · subst hjm
          exact ⟨j - 1, by omega, by rw [← he]; have := Classical.not_not.1 (fun h => hk (.inr h)); exact this.symm⟩
        · exact ⟨j, by omega, he⟩
theorem compact_sorted (zs : List Int) (h : zs.Pairwise (· ≤ ·)) : (Go.Lib.compact zs).Pairwise (· < ·) ∧ ∀ x, x ∈ Go.Lib.compact zs ↔ x ∈ zs := by
  have hs : ∀ i j, i ≤ j → j < zs.toArray.size → zs.toArray[i]! ≤ zs.toArray[j]! := fun i j hij hj => by
    have hj' : j < zs.length := by simpa using hj
    rw [getElem!_pos zs.toArray i (by simp; omega), getElem!_pos zs.toArray j (by simpa using hj')]
    rw [List.getElem_toArray, List.getElem_toArray]
    rcases Nat.lt_or_ge i j with hlt | hge
    · exact List.pairwise_iff_getElem.1 h i j (by omega) hj' hlt
    · have : i = j := by omega
      subst this
      exact Int.le_refl _
  obtain ⟨h1, h2⟩ := compactUp_sorted zs.toArray hs zs.length (by simp)
  refine ⟨h1, fun x => (h2 x).trans ?_⟩
  rw [List.mem_iff_getElem]
  constructor
  · rintro ⟨j, hj, e⟩
    exact ⟨j, hj, by rw [← e, getElem!_pos zs.toArray j (by simpa using hj), List.getElem_toArray]⟩
  · rintro ⟨j, hj, e⟩
    exact ⟨j, hj, by rw [← e, getElem!_pos zs.toArray j (by simpa using hj), List.getElem_toArray]⟩
/-- The variables of nodes, in their order. -/
def varsP : List F → List Int
  | [] => []
  | t :: r => if t.k = 1 then t.a :: varsP r else varsP r
theorem varsP_app (l r : List F) : varsP (l ++ r) = varsP l ++ varsP r := by
  induction l with
  | nil => rfl
  | cons t l ih => rw [List.cons_append, varsP, varsP, ih]; split <;> rfl
theorem varsP_len (l : List F) : (varsP l).length ≤ l.length := by
  induction l with
  | nil => exact Nat.le_refl _
  | cons t l ih => rw [varsP]; split <;> simp only [List.length_cons] <;> omega
theorem varsP_mem (l : List F) (x : Int) : x ∈ varsP l ↔ ∃ u ∈ l, u.k = 1 ∧ u.a = x := by
  induction l with
  | nil => simp [varsP]
  | cons t l ih =>
    rw [varsP]
    split
    · rename_i h
      rw [List.mem_cons, ih]
      constructor
      · rintro (rfl | ⟨u, h1, h2⟩)
        · exact ⟨t, List.mem_cons_self .., h, rfl⟩
        · exact ⟨u, List.mem_cons_of_mem _ h1, h2⟩
      · rintro ⟨u, h1, h2, h3⟩
        rcases List.mem_cons.1 h1 with rfl | h1
        · exact .inl h3.symm
        · exact .inr ⟨u, h1, h2, h3⟩
    · rename_i h
      rw [ih]
      constructor
      · rintro ⟨u, h1, h2⟩; exact ⟨u, List.mem_cons_of_mem _ h1, h2⟩
      · rintro ⟨u, h1, h2⟩
        rcases List.mem_cons.1 h1 with rfl | h1
        · exact absurd h2.1 h
        · exact ⟨u, h1, h2⟩
/-- The variables of trees, in order, each once. -/
def supF (l : List F) : List Int := Go.Lib.compact ((varsP (preL l)).mergeSort fun x y => decide (x ≤ y))
theorem supF_spec (l : List F) : (supF l).Pairwise (· < ·) ∧ ∀ x, x ∈ supF l ↔ ∃ u ∈ preL l, u.k = 1 ∧ u.a = x := by
  have hs : ((varsP (preL l)).mergeSort fun x y => decide (x ≤ y)).Pairwise (· ≤ ·) := by
    have := List.pairwise_mergeSort (le := fun x y : Int => decide (x ≤ y)) (fun a b c h1 h2 => by simp only [decide_eq_true_eq] at *; omega) (fun a b => by simp only [Bool.or_eq_true, decide_eq_true_eq]; omega) (varsP (preL l))
    exact this.imp (fun h => by simpa using h)
  obtain ⟨h1, h2⟩ := compact_sorted _ hs
  refine ⟨h1, fun x => (h2 x).trans ?_⟩
  rw [List.mem_mergeSort, varsP_mem]
mutual
theorem occ_iff (x : Int) : ∀ t : F, okT t → (occ x t = true ↔ ∃ u ∈ pre t, u.k = 1 ∧ u.a = x)
  | nd k a l, h => by
    rw [occ, pre]
    split
    · rename_i hk
      rw [decide_eq_true_eq]
      constructor
      · intro e; exact ⟨_, List.mem_cons_self .., hk, e⟩
      · rintro ⟨u, hu, h1, h2⟩
        rcases List.mem_cons.1 hu with rfl | hu
        · exact h2
        · rcases single_cases h.1 with ⟨_, _, _, rfl⟩ | ⟨rfl, _⟩ | ⟨h', _⟩ | ⟨h', _⟩
          · rw [preL] at hu; cases hu
          all_goals omega
    · rename_i hk
      rw [occL_iff x l h.2]
      constructor
      · rintro ⟨u, hu, h1⟩; exact ⟨u, List.mem_cons_of_mem _ hu, h1⟩
      · rintro ⟨u, hu, h1⟩
        rcases List.mem_cons.1 hu with rfl | hu
        · exact absurd h1.1 hk
        · exact ⟨u, hu, h1⟩
theorem occL_iff (x : Int) : ∀ l : List F, okL l → (occL x l = true ↔ ∃ u ∈ preL l, u.k = 1 ∧ u.a = x)
  | [], _ => by simp [occL, preL]
  | t :: r, h => by
    rw [occL, preL, Bool.or_eq_true, occ_iff x t h.1, occL_iff x r h.2]
    constructor
    · rintro (⟨u, hu, h1⟩ | ⟨u, hu, h1⟩)
      · exact ⟨u, List.mem_append.2 (.inl hu), h1⟩
      · exact ⟨u, List.mem_append.2 (.inr hu), h1⟩
    · rintro ⟨u, hu, h1⟩
      rcases List.mem_append.1 hu with hu | hu
      · exact .inl ⟨u, hu, h1⟩
      · exact .inr ⟨u, hu, h1⟩
end
end Go.Proofs.YtkdmhjlcgpnjpaaGreatDoor

namespace Go.Proofs.YtkdmhjlcgpnjpaaGreatDoor
set_option linter.unusedVariables false
set_option linter.unusedSimpArgs false
open F

end Go.Proofs.YtkdmhjlcgpnjpaaGreatDoor
