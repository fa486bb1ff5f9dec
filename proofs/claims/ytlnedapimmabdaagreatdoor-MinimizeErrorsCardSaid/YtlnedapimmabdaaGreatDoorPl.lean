/- Ordered diagrams as lists of nodes: what they mean, and that a function has one place. In plain Lean. The nodes of a place in the order in which a walk leaves them; equal functions have equal diagrams. In plain Lean. Tables of six variables, and the diagram that the reference grows of a table. In plain Lean. The diagram that the reference grows of a table is the diagram of every place with this table. In plain Lean. The diagram of a table. In plain Lean. What the walk over a table's diagram gives, and diagrams in order. In plain Lean. What Check answers, as a plain function. In plain Lean. Count and Witness, as plain functions. In plain Lean. Count counts the values for which a table is true. In plain Lean. Witness gives the first values for which a table is true. In plain Lean. The variables of a table's diagram are those on which the table depends. In plain Lean. Tables of combined functions. In plain Lean. The order in which a walk leaves the places: none twice, a node's places before it. In plain Lean. -/
import Derived.Test.YtlnedapimmabdaaGreatDoorCm
namespace Go.Proofs.YtlnedapimmabdaaGreatDoor
set_option linter.unusedVariables false
set_option linter.unusedSimpArgs false

def vals (ρ : Nat → Bool) (N : List (Nat × Nat × Nat)) : List Bool :=
  N.foldl (fun ds x => ds ++ [if ρ x.1 then ds.getD x.2.2 false else ds.getD x.2.1 false]) [false, true]
theorem vals_snoc (ρ : Nat → Bool) (N : List (Nat × Nat × Nat)) (x : Nat × Nat × Nat) : vals ρ (N ++ [x]) = vals ρ N ++ [if ρ x.1 then (vals ρ N).getD x.2.2 false else (vals ρ N).getD x.2.1 false] := by
  unfold vals
  rw [List.foldl_append]
  rfl
theorem snocInd {α : Type} {p : List α → Prop} (h0 : p []) (h1 : ∀ l x, p l → p (l ++ [x])) : ∀ l, p l := by
  have h : ∀ n (l : List α), l.length = n → p l := by
    intro n
    induction n with
    | zero => intro l hl; rw [List.length_eq_zero_iff.1 hl]; exact h0
    | succ n ih =>
      intro l hl
      have hne : l ≠ [] := fun e => by rw [e] at hl; cases hl
      rw [← List.dropLast_concat_getLast hne]
      exact h1 _ _ (ih _ (by rw [List.length_dropLast]; omega))
  exact fun l => h _ l rfl
theorem vals_len (ρ : Nat → Bool) : ∀ N, (vals ρ N).length = N.length + 2 := by
  refine snocInd rfl fun N x ih => ?_
  rw [vals_snoc, List.length_append, ih, List.length_append]
  rfl
def val3 (ρ : Nat → Bool) (N : List (Nat × Nat × Nat)) (p : Nat) : Bool := (vals ρ N).getD p false
theorem getD_lt {α : Type} {l r : List α} {p : Nat} (h : p < l.length) (d : α) : (l ++ r).getD p d = l.getD p d := by
  rw [List.getD_eq_getElem?_getD, List.getD_eq_getElem?_getD, List.getElem?_append_left h]
theorem val3_app (ρ : Nat → Bool) (N : List (Nat × Nat × Nat)) {p : Nat} (h : p < N.length + 2) : ∀ M, val3 ρ (N ++ M) p = val3 ρ N p := by
  refine snocInd (by rw [List.append_nil]) fun M x ih => ?_
  rw [← ih, ← List.append_assoc]
  unfold val3
  rw [vals_snoc, getD_lt (by rw [vals_len, List.length_append]; omega)]
theorem vals_two (ρ : Nat → Bool) : ∀ N, (vals ρ N).getD 0 false = false ∧ (vals ρ N).getD 1 false = true := by
  refine snocInd ⟨rfl, rfl⟩ fun N x ih => ?_
  rw [vals_snoc, getD_lt (by rw [vals_len]; omega), getD_lt (by rw [vals_len]; omega)]
  exact ih
theorem val3_0 (ρ : Nat → Bool) (N : List (Nat × Nat × Nat)) : val3 ρ N 0 = false := (vals_two ρ N).1
theorem val3_1 (ρ : Nat → Bool) (N : List (Nat × Nat × Nat)) : val3 ρ N 1 = true := (vals_two ρ N).2
theorem val3_new (ρ : Nat → Bool) (N : List (Nat × Nat × Nat)) (x : Nat × Nat × Nat) : val3 ρ (N ++ [x]) (N.length + 2) = if ρ x.1 then val3 ρ N x.2.2 else val3 ρ N x.2.1 := by
  unfold val3
  rw [vals_snoc, List.getD_eq_getElem?_getD, List.getElem?_append_right (by rw [vals_len]; omega), vals_len, Nat.sub_self]
  rfl
def var3 (N : List (Nat × Nat × Nat)) (p : Nat) : Nat := if p < 2 then 4096 else (N.getD (p - 2) (0, 0, 0)).1
theorem var3_app {N : List (Nat × Nat × Nat)} {p : Nat} (h : p < N.length + 2) (M : List (Nat × Nat × Nat)) : var3 (N ++ M) p = var3 N p := by
  unfold var3
  split
  · rfl
  · rw [getD_lt (by omega)]
theorem var3_node {N : List (Nat × Nat × Nat)} {i : Nat} {x : Nat × Nat × Nat} (h : N[i]? = some x) : var3 N (i + 2) = x.1 := by
  unfold var3
  rw [if_neg (by omega), Nat.add_sub_cancel, List.getD_eq_getElem?_getD, h]
  rfl
def nodeOk (N : List (Nat × Nat × Nat)) (i : Nat) (x : Nat × Nat × Nat) : Prop :=
  x.1 < 4096 ∧ x.2.1 < i + 2 ∧ x.2.2 < i + 2 ∧ x.2.1 ≠ x.2.2 ∧ x.1 < var3 N x.2.1 ∧ x.1 < var3 N x.2.2 ∧ ∀ j, j < i → N[j]? ≠ some x
def Good (N : List (Nat × Nat × Nat)) : Prop := ∀ i x, N[i]? = some x → nodeOk N i x
theorem good_nil : Good [] := fun i x h => by simp at h
theorem good_snoc {N : List (Nat × Nat × Nat)} {x : Nat × Nat × Nat} (h : Good N) (hx : nodeOk N N.length x) : Good (N ++ [x]) := by
  intro i y hy
  rcases Nat.lt_or_ge i N.length with hi | hi
  · rw [List.getElem?_append_left hi] at hy
    obtain ⟨a1, a2, a3, a4, a5, a6, a7⟩ := h i y hy
    refine ⟨a1, a2, a3, a4, ?_, ?_, fun j hj => ?_⟩
    · rw [var3_app (by omega)]; exact a5
    · rw [var3_app (by omega)]; exact a6
    · rw [List.getElem?_append_left (by omega)]; exact a7 j hj
  · have hl := (List.getElem?_eq_some_iff.1 hy).1
    rw [List.length_append, List.length_singleton] at hl
    have hie : i = N.length := by omega
    subst hie
    rw [List.getElem?_append_right (Nat.le_refl _), Nat.sub_self] at hy
    have e : x = y := by simpa using hy
    subst e
    obtain ⟨a1, a2, a3, a4, a5, a6, a7⟩ := hx
    refine ⟨a1, a2, a3, a4, ?_, ?_, fun j hj => ?_⟩
    · rw [var3_app a2]; exact a5
    · rw [var3_app a3]; exact a6
    · rw [List.getElem?_append_left hj]; exact a7 j hj
theorem val3_node {N : List (Nat × Nat × Nat)} (h : Good N) (ρ : Nat → Bool) {i : Nat} {x : Nat × Nat × Nat} (hx : N[i]? = some x) : val3 ρ N (i + 2) = if ρ x.1 then val3 ρ N x.2.2 else val3 ρ N x.2.1 := by
  have hl := (List.getElem?_eq_some_iff.1 hx).1
  obtain ⟨_, a2, a3, _⟩ := h i x hx
  have hlen : (N.take i).length = i := by rw [List.length_take]; omega
  have e : N.take i ++ [x] ++ N.drop (i + 1) = N := by
    have h1 : N.take (i + 1) = N.take i ++ [x] := by rw [List.take_add_one, hx]; rfl
    rw [← h1]
    exact List.take_append_drop _ _
  have v0 : val3 ρ N (i + 2) = val3 ρ (N.take i ++ [x]) (i + 2) := by
    conv => lhs; rw [← e]
    exact val3_app ρ _ (by rw [List.length_append, hlen]; exact Nat.lt_succ_self _) _
  have vc : ∀ q, q < i + 2 → val3 ρ N q = val3 ρ (N.take i) q := fun q hq => by
    conv => lhs; rw [← List.take_append_drop i N]
    exact val3_app ρ _ (by rw [hlen]; exact hq) _
  have vn := val3_new ρ (N.take i) x
  rw [hlen] at vn
  rw [v0, vn, vc _ a2, vc _ a3]
theorem node_at {N : List (Nat × Nat × Nat)} {p : Nat} (h : p < N.length + 2) (h2 : 2 ≤ p) : ∃ x, N[p - 2]? = some x := ⟨_, List.getElem?_eq_getElem (by omega)⟩
theorem var3_le {N : List (Nat × Nat × Nat)} (h : Good N) {p : Nat} (hp : p < N.length + 2) : var3 N p ≤ 4096 ∧ (2 ≤ p → var3 N p < 4096) := by
  rcases Nat.lt_or_ge p 2 with h2 | h2
  · unfold var3; rw [if_pos h2]; omega
  · obtain ⟨x, hx⟩ := node_at hp h2
    have := (h _ x hx).1
    have e := var3_node hx
    rw [Nat.sub_add_cancel h2] at e
    omega
theorem val3_dep {N : List (Nat × Nat × Nat)} (h : Good N) {ρ σ : Nat → Bool} : ∀ m p, p < m → p < N.length + 2 → (∀ u, var3 N p ≤ u → ρ u = σ u) → val3 ρ N p = val3 σ N p := by
  intro m
  induction m with
  | zero => intro p hp; omega
  | succ m ih =>
    intro p hpm hp hag
    rcases Nat.lt_or_ge p 2 with h2 | h2
    · have : p = 0 ∨ p = 1 := by omega
      rcases this with rfl | rfl
      · rw [val3_0, val3_0]
      · rw [val3_1, val3_1]
    · obtain ⟨x, hx⟩ := node_at hp h2
      obtain ⟨_, a2, a3, _, a5, a6, _⟩ := h _ x hx
      have e := var3_node hx
      have v1 := val3_node h ρ hx
      have v2 := val3_node h σ hx
      rw [Nat.sub_add_cancel h2] at e v1 v2
      rw [v1, v2, hag x.1 (by omega), ih x.2.1 (by omega) (by omega) (fun u hu => hag u (by omega)), ih x.2.2 (by omega) (by omega) (fun u hu => hag u (by omega))]
def upd3 (ρ : Nat → Bool) (v : Nat) (b : Bool) : Nat → Bool := fun u => if u = v then b else ρ u
theorem upd3_gt (ρ : Nat → Bool) {v u : Nat} (b : Bool) (h : v < u) : upd3 ρ v b u = ρ u := by unfold upd3; rw [if_neg (by omega)]
theorem val3_upd {N : List (Nat × Nat × Nat)} (h : Good N) (ρ : Nat → Bool) {v p : Nat} (b : Bool) (hp : p < N.length + 2) (hv : v < var3 N p) : val3 (upd3 ρ v b) N p = val3 ρ N p :=
  val3_dep h _ p (Nat.lt_succ_self p) hp fun u hu => upd3_gt ρ b (by omega)
theorem val3_side {N : List (Nat × Nat × Nat)} (h : Good N) (ρ : Nat → Bool) {i : Nat} {x : Nat × Nat × Nat} (hx : N[i]? = some x) (b : Bool) : val3 (upd3 ρ x.1 b) N (i + 2) = if b then val3 ρ N x.2.2 else val3 ρ N x.2.1 := by
  have hl := (List.getElem?_eq_some_iff.1 hx).1
  obtain ⟨_, a2, a3, _, a5, a6, _⟩ := h i x hx
  rw [val3_node h _ hx, val3_upd h ρ b (by omega) a5, val3_upd h ρ b (by omega) a6]
  have : upd3 ρ x.1 b x.1 = b := by unfold upd3; rw [if_pos rfl]
  rw [this]
theorem canon3 {N : List (Nat × Nat × Nat)} (h : Good N) : ∀ m p q, p < m → q < m → p < N.length + 2 → q < N.length + 2 → (∀ ρ, val3 ρ N p = val3 ρ N q) → p = q := by
  intro m
  induction m with
  | zero => intro p q hp; omega
  | succ m ih =>
    have less : ∀ p q, p < m + 1 → p < N.length + 2 → q < N.length + 2 → var3 N p < var3 N q → (∀ ρ, val3 ρ N p = val3 ρ N q) → False := by
      intro p q hpm hp hq hlt he
      rcases Nat.lt_or_ge p 2 with h2 | h2
      · have h1 := (var3_le h hq).1
        unfold var3 at hlt h1
        rw [if_pos h2] at hlt
        omega
      · obtain ⟨x, hx⟩ := node_at hp h2
        obtain ⟨_, a2, a3, a4, a5, a6, _⟩ := h _ x hx
        have e := var3_node hx
        have vs := fun ρ b => val3_side h ρ hx b
        rw [Nat.sub_add_cancel h2] at e vs
        refine a4 (ih x.2.1 x.2.2 (by omega) (by omega) (by omega) (by omega) fun ρ => ?_)
        have h0 := vs ρ false
        have h1 := vs ρ true
        rw [he, val3_upd h ρ _ hq (by omega)] at h0 h1
        simp at h0 h1
        rw [← h0, ← h1]
    intro p q hpm hqm hp hq he
    rcases Nat.lt_trichotomy (var3 N p) (var3 N q) with hl | hl | hl
    · exact (less p q hpm hp hq hl he).elim
    · rcases Nat.lt_or_ge p 2 with h2 | h2
      · have hq2 : q < 2 := by
          rcases Nat.lt_or_ge q 2 with h3 | h3
          · exact h3
          · have := (var3_le h hq).2 h3
            unfold var3 at hl this
            rw [if_pos h2] at hl
            omega
        have e := he (fun _ => false)
        have hp' : p = 0 ∨ p = 1 := by omega
        have hq' : q = 0 ∨ q = 1 := by omega
        rcases hp' with rfl | rfl <;> rcases hq' with rfl | rfl
        · rfl
        · rw [val3_0, val3_1] at e; cases e
        · rw [val3_0, val3_1] at e; cases e
        · rfl
      · have hq2 : 2 ≤ q := by
          rcases Nat.lt_or_ge q 2 with h3 | h3
          · have := (var3_le h hp).2 h2
            unfold var3 at hl this
            rw [if_pos h3] at hl
            omega
          · exact h3
        obtain ⟨x, hx⟩ := node_at hp h2
        obtain ⟨y, hy⟩ := node_at hq hq2
        obtain ⟨_, a2, a3, _, _, _, a7⟩ := h _ x hx
        obtain ⟨_, b2, b3, _, _, _, b7⟩ := h _ y hy
        have ex := var3_node hx
        have ey := var3_node hy
        have vx := fun ρ b => val3_side h ρ hx b
        have vy := fun ρ b => val3_side h ρ hy b
        rw [Nat.sub_add_cancel h2] at ex vx
        rw [Nat.sub_add_cancel hq2] at ey vy
        have hv : x.1 = y.1 := by omega
        have hn : x.2.1 = y.2.1 := ih _ _ (by omega) (by omega) (by omega) (by omega) fun ρ => by
          have h1 := vx ρ false
          have h2' := vy ρ false
          rw [he, hv] at h1
          rw [h1] at h2'
          simpa using h2'
        have hyy : x.2.2 = y.2.2 := ih _ _ (by omega) (by omega) (by omega) (by omega) fun ρ => by
          have h1 := vx ρ true
          have h2' := vy ρ true
          rw [he, hv] at h1
          rw [h1] at h2'
          simpa using h2'
        have hxy : x = y := Prod.ext hv (Prod.ext hn hyy)
        subst hxy
        rcases Nat.lt_trichotomy (p - 2) (q - 2) with hh | hh | hh
        · exact absurd hx (b7 _ hh)
        · omega
        · exact absurd hy (a7 _ hh)
    · exact (less q p hqm hq hp hl fun ρ => (he ρ).symm).elim
end Go.Proofs.YtlnedapimmabdaaGreatDoor

namespace Go.Proofs.YtlnedapimmabdaaGreatDoor
set_option linter.unusedVariables false
set_option linter.unusedSimpArgs false

def node3 (N : List (Nat × Nat × Nat)) (p : Nat) : Nat × Nat × Nat := N.getD (p - 2) (0, 0, 0)
def dfs3 (N : List (Nat × Nat × Nat)) : Nat → Nat → List Nat → List Nat
  | 0, _, out => out
  | f + 1, p, out => if p < 2 ∨ p ∈ out then out else dfs3 N f (node3 N p).2.2 (dfs3 N f (node3 N p).2.1 out) ++ [p]
def at3 (l : List Nat) (p : Nat) : Nat := if p < 2 then p else l.idxOf p + 2
def relab3 (N : List (Nat × Nat × Nat)) (l : List Nat) : List (Nat × Nat × Nat) := l.map fun p => ((node3 N p).1, at3 l (node3 N p).2.1, at3 l (node3 N p).2.2)
theorem node3_some {N : List (Nat × Nat × Nat)} {p : Nat} (h : p < N.length + 2) (h2 : 2 ≤ p) : N[p - 2]? = some (node3 N p) := by
  unfold node3
  rw [List.getD_eq_getElem?_getD, List.getElem?_eq_getElem (by omega)]
  rfl
theorem node3_ok {N : List (Nat × Nat × Nat)} (hN : Good N) {p : Nat} (h : p < N.length + 2) (h2 : 2 ≤ p) : (node3 N p).2.1 < p ∧ (node3 N p).2.2 < p ∧ (node3 N p).2.1 ≠ (node3 N p).2.2 ∧ (node3 N p).1 < var3 N (node3 N p).2.1 ∧ (node3 N p).1 < var3 N (node3 N p).2.2 ∧ var3 N p = (node3 N p).1 ∧ (node3 N p).1 < 4096 := by
  have hs := node3_some h h2
  obtain ⟨a1, a2, a3, a4, a5, a6, _⟩ := hN _ _ hs
  have e := var3_node hs
  rw [Nat.sub_add_cancel h2] at e
  exact ⟨by omega, by omega, a4, a5, a6, e, a1⟩
theorem side3 {N : List (Nat × Nat × Nat)} (hN : Good N) (ρ : Nat → Bool) {p : Nat} (h : p < N.length + 2) (h2 : 2 ≤ p) (b : Bool) : val3 (upd3 ρ (node3 N p).1 b) N p = if b then val3 ρ N (node3 N p).2.2 else val3 ρ N (node3 N p).2.1 := by
  have e := val3_side hN ρ (node3_some h h2) b
  rwa [Nat.sub_add_cancel h2] at e
def Same3 (N M : List (Nat × Nat × Nat)) (p q : Nat) : Prop := p < N.length + 2 ∧ q < M.length + 2 ∧ ∀ ρ, val3 ρ N p = val3 ρ M q
theorem Same3.symm {N M : List (Nat × Nat × Nat)} {p q : Nat} (h : Same3 N M p q) : Same3 M N q p := ⟨h.2.1, h.1, fun ρ => (h.2.2 ρ).symm⟩
theorem Same3.right {N M : List (Nat × Nat × Nat)} (hM : Good M) {p q q' : Nat} (h : Same3 N M p q) (h' : Same3 N M p q') : q = q' :=
  canon3 hM (M.length + 2) q q' h.2.1 h'.2.1 h.2.1 h'.2.1 fun ρ => (h.2.2 ρ).symm.trans (h'.2.2 ρ)
theorem Same3.left {N M : List (Nat × Nat × Nat)} (hN : Good N) {p p' q : Nat} (h : Same3 N M p q) (h' : Same3 N M p' q) : p = p' := h.symm.right hN h'.symm
theorem same3_const {N M : List (Nat × Nat × Nat)} (hM : Good M) {p q : Nat} (h : Same3 N M p q) (hp : p < 2) : q = p := by
  refine h.right hM ⟨h.1, by omega, fun ρ => ?_⟩
  have : p = 0 ∨ p = 1 := by omega
  rcases this with rfl | rfl
  · rw [val3_0, val3_0]
  · rw [val3_1, val3_1]
theorem depends3 {N : List (Nat × Nat × Nat)} (hN : Good N) {p : Nat} (h : p < N.length + 2) (h2 : 2 ≤ p) (hd : ∀ ρ b, val3 (upd3 ρ (var3 N p) b) N p = val3 ρ N p) : False := by
  obtain ⟨a1, a2, a3, a4, a5, a6, _⟩ := node3_ok hN h h2
  refine a3 (canon3 hN p _ _ a1 a2 (by omega) (by omega) fun ρ => ?_)
  have h0 := side3 hN ρ h h2 false
  have h1 := side3 hN ρ h h2 true
  rw [← a6, hd] at h0 h1
  simp at h0 h1
  rw [← h0, ← h1]
theorem same3_var {N M : List (Nat × Nat × Nat)} (hN : Good N) (hM : Good M) {p q : Nat} (h : Same3 N M p q) (hp : 2 ≤ p) : 2 ≤ q ∧ var3 N p = var3 M q := by
  have hq : 2 ≤ q := by
    rcases Nat.lt_or_ge q 2 with h2 | h2
    · have := same3_const hN h.symm h2
      omega
    · exact h2
  refine ⟨hq, ?_⟩
  rcases Nat.lt_trichotomy (var3 N p) (var3 M q) with hl | hl | hl
  · exact (depends3 hN h.1 hp fun ρ b => by rw [h.2.2, h.2.2, val3_upd hM ρ b h.2.1 hl]).elim
  · exact hl
  · exact (depends3 hM h.2.1 hq fun ρ b => by rw [← h.2.2, ← h.2.2, val3_upd hN ρ b h.1 hl]).elim
theorem same3_kids {N M : List (Nat × Nat × Nat)} (hN : Good N) (hM : Good M) {p q : Nat} (h : Same3 N M p q) (hp : 2 ≤ p) :
    (node3 N p).1 = (node3 M q).1 ∧ Same3 N M (node3 N p).2.1 (node3 M q).2.1 ∧ Same3 N M (node3 N p).2.2 (node3 M q).2.2 := by
  obtain ⟨hq, hv⟩ := same3_var hN hM h hp
  obtain ⟨a1, a2, a3, a4, a5, a6, _⟩ := node3_ok hN h.1 hp
  obtain ⟨b1, b2, b3, b4, b5, b6, _⟩ := node3_ok hM h.2.1 hq
  have e : (node3 N p).1 = (node3 M q).1 := by omega
  have h1 := h.1
  have h2 := h.2.1
  refine ⟨e, ⟨by omega, by omega, fun ρ => ?_⟩, ⟨by omega, by omega, fun ρ => ?_⟩⟩
  · have e1 := side3 hN ρ h.1 hp false
    have e2 := side3 hM ρ h.2.1 hq false
    rw [h.2.2, e, e2] at e1
    simpa using e1.symm
  · have e1 := side3 hN ρ h.1 hp true
    have e2 := side3 hM ρ h.2.1 hq true
    rw [h.2.2, e, e2] at e1
    simpa using e1.symm
def Outs3 (N M : List (Nat × Nat × Nat)) (l m : List Nat) : Prop := l.length = m.length ∧ ∀ (i p q : Nat), l[i]? = some p → m[i]? = some q → Same3 N M p q
theorem outs3_nil (N M : List (Nat × Nat × Nat)) : Outs3 N M [] [] := ⟨rfl, fun i p q h => by simp at h⟩
theorem Outs3.symm {N M : List (Nat × Nat × Nat)} {l m : List Nat} (h : Outs3 N M l m) : Outs3 M N m l := ⟨h.1.symm, fun i p q hp hq => (h.2 i q p hq hp).symm⟩
theorem Outs3.snoc {N M : List (Nat × Nat × Nat)} {l m : List Nat} {p q : Nat} (h : Outs3 N M l m) (hs : Same3 N M p q) : Outs3 N M (l ++ [p]) (m ++ [q]) := by
  refine ⟨by simp [h.1], fun i p' q' hp hq => ?_⟩
  rcases Nat.lt_or_ge i l.length with hi | hi
  · rw [List.getElem?_append_left hi] at hp
    rw [List.getElem?_append_left (by have := h.1; omega)] at hq
    exact h.2 i p' q' hp hq
  · have hl := (List.getElem?_eq_some_iff.1 hp).1
    rw [List.length_append, List.length_singleton] at hl
    have e : i = l.length := by omega
    subst e
    rw [List.getElem?_append_right (Nat.le_refl _), Nat.sub_self] at hp
    rw [h.1, List.getElem?_append_right (Nat.le_refl _), Nat.sub_self] at hq
    have e1 : p = p' := by simpa using hp
    have e2 : q = q' := by simpa using hq
    rw [← e1, ← e2]
    exact hs
theorem Outs3.mem {N M : List (Nat × Nat × Nat)} (hM : Good M) {l m : List Nat} {p q : Nat} (h : Outs3 N M l m) (hs : Same3 N M p q) (hp : p ∈ l) : q ∈ m := by
  obtain ⟨i, hi⟩ := List.mem_iff_getElem?.1 hp
  obtain ⟨hl, _⟩ := List.getElem?_eq_some_iff.1 hi
  have hlm : i < m.length := by have := h.1; omega
  have hm : m[i]? = some m[i] := List.getElem?_eq_getElem hlm
  have := hs.right hM (h.2 i p _ hi hm)
  rw [this]
  exact List.mem_of_getElem? hm
theorem dfs3_lock {N M : List (Nat × Nat × Nat)} (hN : Good N) (hM : Good M) : ∀ (f p q : Nat) (l m : List Nat), Same3 N M p q → Outs3 N M l m → Outs3 N M (dfs3 N f p l) (dfs3 M f q m) := by
  intro f
  induction f with
  | zero => intro p q l m _ h; exact h
  | succ f ih =>
    intro p q l m hs ho
    rw [dfs3, dfs3]
    by_cases hp : p < 2
    · rw [if_pos (.inl hp), if_pos (.inl (by rw [same3_const hM hs hp]; exact hp))]
      exact ho
    · obtain ⟨hq, _⟩ := same3_var hN hM hs (by omega)
      by_cases hm : p ∈ l
      · rw [if_pos (.inr hm), if_pos (.inr (ho.mem hM hs hm))]
        exact ho
      · rw [if_neg (by rintro (h | h); exact hp h; exact hm h), if_neg (by rintro (h | h); omega; exact hm (ho.symm.mem hN hs.symm h))]
        obtain ⟨_, k1, k2⟩ := same3_kids hN hM hs (by omega)
        exact (ih _ _ _ _ k2 (ih _ _ _ _ k1 ho)).snoc hs
def Closed3 (N : List (Nat × Nat × Nat)) (l : List Nat) : Prop := ∀ p ∈ l, 2 ≤ p ∧ p < N.length + 2 ∧ ((node3 N p).2.1 < 2 ∨ (node3 N p).2.1 ∈ l) ∧ ((node3 N p).2.2 < 2 ∨ (node3 N p).2.2 ∈ l)
theorem dfs3_sub (N : List (Nat × Nat × Nat)) : ∀ (f p : Nat) (l : List Nat), ∃ r, dfs3 N f p l = l ++ r := by
  intro f
  induction f with
  | zero => intro p l; exact ⟨[], by rw [dfs3, List.append_nil]⟩
  | succ f ih =>
    intro p l
    rw [dfs3]
    split
    · exact ⟨[], by rw [List.append_nil]⟩
    · obtain ⟨r1, e1⟩ := ih (node3 N p).2.1 l
      obtain ⟨r2, e2⟩ := ih (node3 N p).2.2 (l ++ r1)
      exact ⟨r1 ++ r2 ++ [p], by rw [e1, e2]; simp⟩
theorem dfs3_closed {N : List (Nat × Nat × Nat)} (hN : Good N) : ∀ (f p : Nat) (l : List Nat), p < f → p < N.length + 2 → Closed3 N l → Closed3 N (dfs3 N f p l) ∧ (p < 2 ∨ p ∈ dfs3 N f p l) := by
  intro f
  induction f with
  | zero => intro p l h; omega
  | succ f ih =>
    intro p l hf hp hl
    rw [dfs3]
    split
    · rename_i h
      exact ⟨hl, h⟩
    · rename_i h
      have h2 : 2 ≤ p := by
        rcases Nat.lt_or_ge p 2 with h' | h'
        · exact absurd (Or.inl h') h
        · exact h'
      obtain ⟨a1, a2, _⟩ := node3_ok hN hp h2
      obtain ⟨c1, d1⟩ := ih (node3 N p).2.1 l (by omega) (by omega) hl
      obtain ⟨c2, d2⟩ := ih (node3 N p).2.2 _ (by omega) (by omega) c1
      obtain ⟨r, er⟩ := dfs3_sub N f (node3 N p).2.2 (dfs3 N f (node3 N p).2.1 l)
      refine ⟨fun u hu => ?_, .inr (by simp)⟩
      rcases List.mem_append.1 hu with hu | hu
      · obtain ⟨b1, b2, b3, b4⟩ := c2 u hu
        exact ⟨b1, b2, b3.imp id fun h => List.mem_append_left _ h, b4.imp id fun h => List.mem_append_left _ h⟩
      · rw [List.mem_singleton.1 hu]
        refine ⟨h2, hp, d1.imp id fun h => List.mem_append_left _ ?_, d2.imp id fun h => List.mem_append_left _ h⟩
        rw [er]
        exact List.mem_append_left _ h
theorem closed3_nil (N : List (Nat × Nat × Nat)) : Closed3 N [] := fun p h => by cases h
theorem idxOf_first {a : Nat} : ∀ {l : List Nat} {i : Nat}, i < l.idxOf a → l[i]? ≠ some a
  | [], i, _, he => by simp at he
  | b :: r, 0, h, he => by
    simp at he
    subst he
    simp at h
  | b :: r, i + 1, h, he => by
    rw [List.getElem?_cons_succ] at he
    rw [List.idxOf_cons] at h
    by_cases hb : b = a
    · subst hb; simp at h
    · have e : (b == a) = false := beq_eq_false_iff_ne.2 hb
      rw [e] at h
      exact idxOf_first (l := r) (i := i) (by simpa using h) he
theorem at3_lock {N M : List (Nat × Nat × Nat)} (hN : Good N) (hM : Good M) {l m : List Nat} (ho : Outs3 N M l m) {p q : Nat} (hs : Same3 N M p q) (hp : p < 2 ∨ p ∈ l) : at3 l p = at3 m q := by
  unfold at3
  by_cases h2 : p < 2
  · rw [same3_const hM hs h2, if_pos h2, if_pos h2]
  · obtain ⟨hq, _⟩ := same3_var hN hM hs (by omega)
    rw [if_neg h2, if_neg (by omega)]
    have hpl := hp.resolve_left h2
    have hqm := ho.mem hM hs hpl
    have hi := List.idxOf_lt_length_of_mem hpl
    have hj := List.idxOf_lt_length_of_mem hqm
    have e1 : l[l.idxOf p]? = some p := by rw [List.getElem?_eq_getElem hi, List.getElem_idxOf hi]
    have e2 : m[m.idxOf q]? = some q := by rw [List.getElem?_eq_getElem hj, List.getElem_idxOf hj]
    have hlen := ho.1
    congr 1
    rcases Nat.lt_trichotomy (l.idxOf p) (m.idxOf q) with h | h | h
    · have e3 : m[l.idxOf p]? = some (m[l.idxOf p]'(by omega)) := List.getElem?_eq_getElem (by omega)
      have := hs.right hM (ho.2 _ _ _ e1 e3)
      rw [← this] at e3
      exact absurd e3 (idxOf_first h)
    · exact h
    · have e3 : l[m.idxOf q]? = some (l[m.idxOf q]'(by omega)) := List.getElem?_eq_getElem (by omega)
      have := hs.left hN (ho.2 _ _ _ e3 e2)
      rw [← this] at e3
      exact absurd e3 (idxOf_first h)
theorem relab3_lock {N M : List (Nat × Nat × Nat)} (hN : Good N) (hM : Good M) {l m : List Nat} (ho : Outs3 N M l m) (hc : Closed3 N l) : relab3 N l = relab3 M m := by
  unfold relab3
  refine List.ext_getElem? fun i => ?_
  rw [List.getElem?_map, List.getElem?_map]
  rcases Nat.lt_or_ge i l.length with hi | hi
  · have hm : i < m.length := by have := ho.1; omega
    have e1 : l[i]? = some (l[i]'hi) := List.getElem?_eq_getElem hi
    have e2 : m[i]? = some (m[i]'hm) := List.getElem?_eq_getElem hm
    have hs := ho.2 i _ _ e1 e2
    obtain ⟨c1, c2, c3, c4⟩ := hc _ (List.mem_of_getElem? e1)
    obtain ⟨k0, k1, k2⟩ := same3_kids hN hM hs c1
    rw [e1, e2]
    simp only [Option.map_some, k0, at3_lock hN hM ho k1 c3, at3_lock hN hM ho k2 c4]
  · rw [List.getElem?_eq_none hi, List.getElem?_eq_none (by have := ho.1; omega)]; rfl
def canonD (N : List (Nat × Nat × Nat)) (p : Nat) : List (Nat × Nat × Nat) × Nat :=
  (relab3 N (dfs3 N (N.length + 2) p []), at3 (dfs3 N (N.length + 2) p []) p)
theorem dfs3_fuel {N : List (Nat × Nat × Nat)} (hN : Good N) : ∀ (f g p : Nat) (l : List Nat), p < f → p < g → p < N.length + 2 → dfs3 N f p l = dfs3 N g p l := by
  intro f
  induction f with
  | zero => intro g p l h; omega
  | succ f ih =>
    intro g p l hf hg hp
    obtain ⟨g, rfl⟩ : ∃ g', g = g' + 1 := ⟨g - 1, by omega⟩
    rw [dfs3, dfs3]
    split
    · rfl
    · rename_i h
      have h2 : 2 ≤ p := by
        rcases Nat.lt_or_ge p 2 with h' | h'
        · exact absurd (Or.inl h') h
        · exact h'
      obtain ⟨a1, a2, _⟩ := node3_ok hN hp h2
      rw [ih g (node3 N p).2.1 l (by omega) (by omega) (by omega), ih g (node3 N p).2.2 _ (by omega) (by omega) (by omega)]
theorem canonD_eq {N M : List (Nat × Nat × Nat)} (hN : Good N) (hM : Good M) {p q : Nat} (hs : Same3 N M p q) : canonD N p = canonD M q := by
  have h1 := hs.1
  have h2 := hs.2.1
  obtain ⟨F, hF⟩ : ∃ F, F = N.length + M.length + 2 := ⟨_, rfl⟩
  have ho := dfs3_lock hN hM F p q [] [] hs (outs3_nil _ _)
  obtain ⟨hc, hm⟩ := dfs3_closed hN F p [] (by omega) h1 (closed3_nil N)
  unfold canonD
  rw [dfs3_fuel hN (N.length + 2) F p [] h1 (by omega) h1, dfs3_fuel hM (M.length + 2) F q [] h2 (by omega) h2, relab3_lock hN hM ho hc, at3_lock hN hM ho hs hm]
end Go.Proofs.YtlnedapimmabdaaGreatDoor

namespace Go.Proofs.YtlnedapimmabdaaGreatDoor
set_option linter.unusedVariables false
set_option linter.unusedSimpArgs false

def ofB (f : Nat → Bool) : Nat → Nat
  | 0 => 0
  | k + 1 => if f k then ofB f k ||| 2 ^ k else ofB f k
theorem ofB_lt (f : Nat → Bool) : ∀ k, ofB f k < 2 ^ k
  | 0 => by simp [ofB]
  | k + 1 => by
    have := ofB_lt f k
    have h2 : 2 ^ k < 2 ^ (k + 1) := by rw [Nat.pow_succ]; have := Nat.two_pow_pos k; omega
    rw [ofB]
    split
    · exact Nat.or_lt_two_pow (by omega) h2
    · omega
theorem ofB_test (f : Nat → Bool) : ∀ k j, (ofB f k).testBit j = (decide (j < k) && f j)
  | 0, j => by simp [ofB]
  | k + 1, j => by
    have ih := ofB_test f k j
    rw [ofB]
    split
    · rename_i h
      rw [Nat.testBit_or, ih, Nat.testBit_two_pow]
      by_cases e : k = j
      · subst e; rw [h]; simp
      · by_cases h1 : j < k
        · simp [h1, e, show j < k + 1 by omega]
        · simp [h1, e, show ¬ j < k + 1 by omega]
    · rename_i h
      rw [ih]
      by_cases e : j = k
      · subst e; simp at h; simp [h]
      · by_cases h1 : j < k
        · simp [h1, show j < k + 1 by omega]
        · simp [h1, show ¬ j < k + 1 by omega]
def idx6 (ρ : Nat → Bool) : Nat := (if ρ 0 then 1 else 0) + (if ρ 1 then 2 else 0) + (if ρ 2 then 4 else 0) + (if ρ 3 then 8 else 0) + (if ρ 4 then 16 else 0) + (if ρ 5 then 32 else 0)
theorem idx6_lt (ρ : Nat → Bool) : idx6 ρ < 64 := by
  unfold idx6
  repeat' split
  all_goals omega
def setb (v x : Nat) (b : Bool) : Nat := if v.testBit x then (if b then v else v - 2 ^ x) else (if b then v + 2 ^ x else v)
theorem idx6_row : ∀ v, v < 64 → idx6 (fun i => v.testBit i) = v := by decide +kernel
theorem setb_row : ∀ v, v < 64 → ∀ x, x < 6 → ∀ b : Bool, setb v x b < 64 ∧ (setb v x b).testBit x = b ∧ ∀ y, y < 6 → y ≠ x → (setb v x b).testBit y = v.testBit y := by decide +kernel
theorem idx6_congr {ρ σ : Nat → Bool} (h : ∀ x, x < 6 → ρ x = σ x) : idx6 ρ = idx6 σ := by
  unfold idx6
  rw [h 0 (by decide), h 1 (by decide), h 2 (by decide), h 3 (by decide), h 4 (by decide), h 5 (by decide)]
theorem idx6_test (ρ : Nat → Bool) : ∀ x, x < 6 → (idx6 ρ).testBit x = ρ x := by
  have h : ∀ b0 b1 b2 b3 b4 b5 : Bool, ∀ x, x < 6 → (idx6 (fun i => if i = 0 then b0 else if i = 1 then b1 else if i = 2 then b2 else if i = 3 then b3 else if i = 4 then b4 else b5)).testBit x = (if x = 0 then b0 else if x = 1 then b1 else if x = 2 then b2 else if x = 3 then b3 else if x = 4 then b4 else b5) := by decide +kernel
  intro x hx
  have e : ∀ y, y < 6 → (if y = 0 then ρ 0 else if y = 1 then ρ 1 else if y = 2 then ρ 2 else if y = 3 then ρ 3 else if y = 4 then ρ 4 else ρ 5) = ρ y := by
    intro y hy
    have : y = 0 ∨ y = 1 ∨ y = 2 ∨ y = 3 ∨ y = 4 ∨ y = 5 := by omega
    rcases this with rfl | rfl | rfl | rfl | rfl | rfl <;> rfl
  have := h (ρ 0) (ρ 1) (ρ 2) (ρ 3) (ρ 4) (ρ 5) x hx
  rw [e x hx] at this
  rw [← this, idx6_congr (ρ := ρ) (σ := fun i => if i = 0 then ρ 0 else if i = 1 then ρ 1 else if i = 2 then ρ 2 else if i = 3 then ρ 3 else if i = 4 then ρ 4 else ρ 5) fun y hy => (e y hy).symm]
theorem idx6_upd (ρ : Nat → Bool) (x : Nat) (hx : x < 6) (b : Bool) : idx6 (upd3 ρ x b) = setb (idx6 ρ) x b := by
  obtain ⟨h1, h2, h3⟩ := setb_row (idx6 ρ) (idx6_lt ρ) x hx b
  rw [← idx6_row _ h1]
  refine idx6_congr fun y hy => ?_
  by_cases e : y = x
  · subst e
    rw [h2]
    unfold upd3
    rw [if_pos rfl]
  · rw [h3 y hy e, idx6_test ρ y hy]
    unfold upd3
    rw [if_neg e]
def Rep3 (N : List (Nat × Nat × Nat)) (p t : Nat) : Prop := p < N.length + 2 ∧ ∀ ρ, val3 ρ N p = t.testBit (idx6 ρ)
theorem table_eq {t u : Nat} (ht : t < 2 ^ 64) (hu : u < 2 ^ 64) (h : ∀ v, v < 64 → t.testBit v = u.testBit v) : t = u := by
  refine Nat.eq_of_testBit_eq fun i => ?_
  rcases Nat.lt_or_ge i 64 with hi | hi
  · exact h i hi
  · rw [Nat.testBit_lt_two_pow (Nat.lt_of_lt_of_le ht (Nat.pow_le_pow_right (by decide) hi)), Nat.testBit_lt_two_pow (Nat.lt_of_lt_of_le hu (Nat.pow_le_pow_right (by decide) hi))]
def cof (t x : Nat) (b : Bool) : Nat := ofB (fun v => t.testBit (setb v x b)) 64
theorem cof_lt (t x : Nat) (b : Bool) : cof t x b < 2 ^ 64 := ofB_lt _ 64
theorem cof_test (t x : Nat) (b : Bool) {v : Nat} (hv : v < 64) : (cof t x b).testBit v = t.testBit (setb v x b) := by
  unfold cof
  rw [ofB_test, decide_eq_true hv, Bool.true_and]
theorem rep3_side {N : List (Nat × Nat × Nat)} (ρ : Nat → Bool) {p t x : Nat} (h : Rep3 N p t) (hx : x < 6) (b : Bool) : val3 (upd3 ρ x b) N p = (cof t x b).testBit (idx6 ρ) := by
  rw [h.2, idx6_upd ρ x hx, cof_test t x b (idx6_lt ρ)]
theorem rep3_same {N M : List (Nat × Nat × Nat)} {p q t : Nat} (h : Rep3 N p t) (h' : Rep3 M q t) : Same3 N M p q := ⟨h.1, h'.1, fun ρ => by rw [h.2, h'.2]⟩
theorem rep3_table {N : List (Nat × Nat × Nat)} {p t u : Nat} (h : Rep3 N p t) (h' : Rep3 N p u) (ht : t < 2 ^ 64) (hu : u < 2 ^ 64) : t = u := by
  refine table_eq ht hu fun v hv => ?_
  have := (h.2 fun i => v.testBit i).symm.trans (h'.2 _)
  rwa [idx6_row v hv] at this
def dep6 (t x : Nat) : Bool := decide (cof t x false ≠ cof t x true)
def first6 (t : Nat) : Nat → Nat → Nat
  | 0, x => x
  | n + 1, x => if dep6 t x then x else first6 t n (x + 1)
theorem cof_idem (t x : Nat) (b : Bool) (h : dep6 t x = false) {v : Nat} (hv : v < 64) : t.testBit (setb v x b) = t.testBit v := by
  have he : cof t x false = cof t x true := by
    unfold dep6 at h
    simpa using h
  have e0 := cof_test t x false hv
  have e1 := cof_test t x true hv
  rw [he] at e0
  have e2 : t.testBit (setb v x false) = t.testBit (setb v x true) := e0.symm.trans e1
  have hs : setb v x (v.testBit x) = v := by
    unfold setb
    split
    · rfl
    · rfl
  cases hb : v.testBit x
  · rw [hb] at hs
    cases b
    · rw [hs]
    · rw [← e2, hs]
  · rw [hb] at hs
    cases b
    · rw [e2, hs]
    · rw [hs]
end Go.Proofs.YtlnedapimmabdaaGreatDoor

namespace Go.Proofs.YtlnedapimmabdaaGreatDoor
set_option linter.unusedVariables false
set_option linter.unusedSimpArgs false

theorem setb_two : ∀ v, v < 64 → ∀ x, x < 6 → ∀ b c : Bool, setb (setb v x c) x b = setb v x b := by decide +kernel
theorem setb_swap : ∀ v, v < 64 → ∀ x, x < 6 → ∀ y, y < 6 → x ≠ y → ∀ b c : Bool, setb (setb v y c) x b = setb (setb v x b) y c := by decide +kernel
theorem setb_zero : ∀ v, v < 64 → setb (setb (setb (setb (setb (setb v 0 false) 1 false) 2 false) 3 false) 4 false) 5 false = 0 := by decide +kernel
theorem dep6_false {t x : Nat} (h : ∀ v, v < 64 → t.testBit (setb v x false) = t.testBit (setb v x true)) : dep6 t x = false := by
  unfold dep6
  rw [decide_eq_false]
  intro hne
  exact hne (table_eq (cof_lt _ _ _) (cof_lt _ _ _) fun v hv => by rw [cof_test _ _ _ hv, cof_test _ _ _ hv, h v hv])
theorem dep6_cof {t x y : Nat} (hx : x < 6) (hy : y < 6) (b : Bool) (h : y = x ∨ dep6 t y = false) : dep6 (cof t x b) y = false := by
  refine dep6_false fun v hv => ?_
  have l0 := (setb_row v hv y hy false).1
  have l1 := (setb_row v hv y hy true).1
  rw [cof_test _ _ _ l0, cof_test _ _ _ l1]
  rcases h with rfl | h
  · rw [setb_two v hv y hx, setb_two v hv y hx]
  · by_cases e : x = y
    · subst e
      rw [setb_two v hv x hx, setb_two v hv x hx]
    · have l2 := (setb_row v hv x hx b).1
      rw [setb_swap v hv x hx y hy e, setb_swap v hv x hx y hy e, cof_idem t y false h l2, cof_idem t y true h l2]
theorem table_const {t : Nat} (ht : t < 2 ^ 64) (h : ∀ x, x < 6 → dep6 t x = false) : t = 0 ∨ t = 18446744073709551615 := by
  have hc : ∀ v, v < 64 → t.testBit v = t.testBit 0 := fun v hv => by
    have e := setb_zero v hv
    have l0 := (setb_row v hv 0 (by decide) false).1
    have l1 := (setb_row _ l0 1 (by decide) false).1
    have l2 := (setb_row _ l1 2 (by decide) false).1
    have l3 := (setb_row _ l2 3 (by decide) false).1
    have l4 := (setb_row _ l3 4 (by decide) false).1
    rw [← e, cof_idem t 5 false (h 5 (by decide)) l4, cof_idem t 4 false (h 4 (by decide)) l3, cof_idem t 3 false (h 3 (by decide)) l2, cof_idem t 2 false (h 2 (by decide)) l1, cof_idem t 1 false (h 1 (by decide)) l0, cof_idem t 0 false (h 0 (by decide)) hv]
  cases h0 : t.testBit 0
  · exact .inl (table_eq ht (by decide) fun v hv => by rw [hc v hv, h0, Nat.zero_testBit])
  · refine .inr (table_eq ht (by decide) fun v hv => ?_)
    rw [hc v hv, h0]
    have hall : ∀ u, u < 64 → (18446744073709551615 : Nat).testBit u = true := by decide +kernel
    exact (hall v hv).symm
theorem first6_spec (t : Nat) : ∀ n x, (first6 t n x < x + n → dep6 t (first6 t n x) = true) ∧ x ≤ first6 t n x ∧ first6 t n x ≤ x + n ∧ ∀ y, x ≤ y → y < first6 t n x → dep6 t y = false
  | 0, x => by
    rw [first6]
    exact ⟨fun h => by omega, Nat.le_refl _, by omega, fun y h1 h2 => by omega⟩
  | n + 1, x => by
    rw [first6]
    split
    · rename_i h
      exact ⟨fun _ => h, Nat.le_refl _, by omega, fun y h1 h2 => by omega⟩
    · rename_i h
      obtain ⟨h1, h2, h3, h4⟩ := first6_spec t n (x + 1)
      refine ⟨fun h' => h1 (by omega), by omega, by omega, fun y hy1 hy2 => ?_⟩
      by_cases e : y = x
      · subst e; simpa using h
      · exact h4 y (by omega) hy2
def growT : Nat → List (Nat × Nat × Nat) → List Nat → Nat → List (Nat × Nat × Nat) × List Nat × Nat
  | 0, M, T, _ => (M, T, 0)
  | f + 1, M, T, t => if t = 0 then (M, T, 0) else if t = 18446744073709551615 then (M, T, 1) else if t ∈ T then (M, T, T.idxOf t + 2) else
    ((growT f (growT f M T (cof t (first6 t 6 0) false)).1 (growT f M T (cof t (first6 t 6 0) false)).2.1 (cof t (first6 t 6 0) true)).1 ++ [(first6 t 6 0, (growT f M T (cof t (first6 t 6 0) false)).2.2, (growT f (growT f M T (cof t (first6 t 6 0) false)).1 (growT f M T (cof t (first6 t 6 0) false)).2.1 (cof t (first6 t 6 0) true)).2.2)],
      (growT f (growT f M T (cof t (first6 t 6 0) false)).1 (growT f M T (cof t (first6 t 6 0) false)).2.1 (cof t (first6 t 6 0) true)).2.1 ++ [t],
      (growT f (growT f M T (cof t (first6 t 6 0) false)).1 (growT f M T (cof t (first6 t 6 0) false)).2.1 (cof t (first6 t 6 0) true)).1.length + 2)
structure GT (M : List (Nat × Nat × Nat)) (T : List Nat) : Prop where
  good : Good M
  len : T.length = M.length
  rep : ∀ (i t : Nat), T[i]? = some t → t < 2 ^ 64 ∧ Rep3 M (i + 2) t
  vars : ∀ x ∈ M, x.1 < 6
theorem gt_nil : GT [] [] := ⟨good_nil, rfl, fun i t h => by simp at h, fun x h => by cases h⟩
theorem rep3_app {N : List (Nat × Nat × Nat)} {p t : Nat} (h : Rep3 N p t) (M : List (Nat × Nat × Nat)) : Rep3 (N ++ M) p t :=
  ⟨by rw [List.length_append]; have := h.1; omega, fun ρ => by rw [val3_app ρ N h.1, h.2]⟩
theorem node3_app {N : List (Nat × Nat × Nat)} {p : Nat} (h : p < N.length + 2) (h2 : 2 ≤ p) (M : List (Nat × Nat × Nat)) : node3 (N ++ M) p = node3 N p := by
  unfold node3
  rw [getD_lt (by omega)]
theorem rep3_var {N : List (Nat × Nat × Nat)} (hN : Good N) {p t x : Nat} (h : Rep3 N p t) (hd : ∀ y, y ≤ x → y < 6 → dep6 t y = false) (hx : x < 6) : x < var3 N p := by
  rcases Nat.lt_or_ge p 2 with h2 | h2
  · unfold var3; rw [if_pos h2]; omega
  · rcases Nat.lt_or_ge x (var3 N p) with h3 | h3
    · exact h3
    · exfalso
      have hlt : var3 N p < 6 := by omega
      refine depends3 hN h.1 h2 fun ρ b => ?_
      rw [h.2, h.2, idx6_upd ρ _ hlt, cof_idem t _ b (hd _ h3 hlt) (idx6_lt ρ)]
theorem range2_snoc (n : Nat) : List.range' 2 (n + 1) = List.range' 2 n ++ [n + 2] := by
  rw [List.range'_concat]; simp; omega
theorem range2_mem (n p : Nat) : p ∈ List.range' 2 n ↔ 2 ≤ p ∧ p < n + 2 := by
  rw [List.mem_range'_1]; omega
theorem growT_ok : ∀ (f : Nat) (M : List (Nat × Nat × Nat)) (T : List Nat) (t : Nat), GT M T → t < 2 ^ 64 → 6 - first6 t 6 0 < f →
    GT (growT f M T t).1 (growT f M T t).2.1 ∧ (∃ M', (growT f M T t).1 = M ++ M') ∧ Rep3 (growT f M T t).1 (growT f M T t).2.2 t ∧ (growT f M T t).1.length < M.length + 2 ^ (6 - first6 t 6 0) ∧ (∀ u ∈ (growT f M T t).2.1, u ∈ T ∨ first6 t 6 0 ≤ first6 u 6 0) ∧
    ∀ X F, (growT f M T t).2.2 < F → dfs3 ((growT f M T t).1 ++ X) F (growT f M T t).2.2 (List.range' 2 M.length) = List.range' 2 (growT f M T t).1.length := by
  intro f
  induction f with
  | zero => intro M T t _ _ h; omega
  | succ f ih =>
    intro M T t hg ht hf
    rw [growT]
    have hp := Nat.two_pow_pos (6 - first6 t 6 0)
    have hstop : ∀ (p : Nat) (N : List (Nat × Nat × Nat)) F, p < F → (p < 2 ∨ p ∈ List.range' 2 M.length) → dfs3 N F p (List.range' 2 M.length) = List.range' 2 M.length := fun p N F hF hm => by
      obtain ⟨F, rfl⟩ : ∃ F', F = F' + 1 := ⟨F - 1, by omega⟩
      rw [dfs3, if_pos hm]
    split
    · rename_i h0
      subst h0
      exact ⟨hg, ⟨[], by rw [List.append_nil]⟩, ⟨by dsimp only; omega, fun ρ => by rw [val3_0, Nat.zero_testBit]⟩, by dsimp only; omega, fun u hu => .inl hu, fun X F hF => hstop 0 _ F hF (.inl (by decide))⟩
    · rename_i h0
      split
      · rename_i h1
        subst h1
        have hall : ∀ u, u < 64 → (18446744073709551615 : Nat).testBit u = true := by decide +kernel
        exact ⟨hg, ⟨[], by rw [List.append_nil]⟩, ⟨by dsimp only; omega, fun ρ => by rw [val3_1, hall _ (idx6_lt ρ)]⟩, by dsimp only; omega, fun u hu => .inl hu, fun X F hF => hstop 1 _ F hF (.inl (by decide))⟩
      · rename_i h1
        split
        · rename_i hm
          have hi := List.idxOf_lt_length_of_mem hm
          have e1 : T[T.idxOf t]? = some t := by rw [List.getElem?_eq_getElem hi, List.getElem_idxOf hi]
          have hlen := hg.len
          exact ⟨hg, ⟨[], by rw [List.append_nil]⟩, (hg.rep _ _ e1).2, by dsimp only; omega, fun u hu => .inl hu, fun X F hF => hstop _ _ F hF (.inr ((range2_mem _ _).2 ⟨by dsimp only; omega, by dsimp only; omega⟩))⟩
        · rename_i hm
          obtain ⟨hd, _, hle, hbef⟩ := first6_spec t 6 0
          obtain ⟨x, hx⟩ : ∃ x, first6 t 6 0 = x := ⟨_, rfl⟩
          rw [hx] at hd hle hbef hf hp ⊢
          have hx6 : x < 6 := by
            rcases Nat.lt_or_ge x 6 with h | h
            · exact h
            · exact (table_const ht fun y hy => hbef y (Nat.zero_le _) (by omega)).elim (fun e => absurd e h0) (fun e => absurd e h1)
          have hdc : ∀ b y, y ≤ x → y < 6 → dep6 (cof t x b) y = false := fun b y hy hy6 => dep6_cof hx6 hy6 b (by
            rcases Nat.lt_or_ge y x with h | h
            · exact .inr (hbef y (Nat.zero_le _) h)
            · exact .inl (by omega))
          have hrank : ∀ b, x < first6 (cof t x b) 6 0 := fun b => by
            obtain ⟨q1, _, q3, _⟩ := first6_spec (cof t x b) 6 0
            rcases Nat.lt_or_ge x (first6 (cof t x b) 6 0) with h | h
            · exact h
            · have e := hdc b _ h (by omega)
              rw [q1 (by omega)] at e
              cases e
          have hr0 := hrank false
          have hr1 := hrank true
          obtain ⟨g1, ⟨M1, e1⟩, p1, n1, u1, d1⟩ := ih M T (cof t x false) hg (cof_lt _ _ _) (by omega)
          obtain ⟨r, hr⟩ : ∃ r, growT f M T (cof t x false) = r := ⟨_, rfl⟩
          rw [hr] at g1 e1 p1 n1 u1 d1 ⊢
          obtain ⟨g2, ⟨M2, e2⟩, p2, n2, u2, d2⟩ := ih r.1 r.2.1 (cof t x true) g1 (cof_lt _ _ _) (by omega)
          obtain ⟨s, hs⟩ : ∃ s, growT f r.1 r.2.1 (cof t x true) = s := ⟨_, rfl⟩
          rw [hs] at g2 e2 p2 n2 u2 d2 ⊢
          have p1' : Rep3 s.1 r.2.2 (cof t x false) := by rw [e2]; exact rep3_app p1 M2
          have hvn := rep3_var g2.good p1' (hdc false) hx6
          have hvy := rep3_var g2.good p2 (hdc true) hx6
          have hne : r.2.2 ≠ s.2.2 := fun e => by
            rw [← e] at p2
            have := rep3_table p1' p2 (cof_lt _ _ _) (cof_lt _ _ _)
            have h' := hd (by omega)
            unfold dep6 at h'
            simp [this] at h'
          have hfresh : t ∉ s.2.1 := fun h => by
            rcases u2 t h with h | h
            · rcases u1 t h with h | h
              · exact hm h
              · omega
            · omega
          have hcase : ∀ ρ, (if ρ x then val3 ρ s.1 s.2.2 else val3 ρ s.1 r.2.2) = t.testBit (idx6 ρ) := fun ρ => by
            rw [p1'.2, p2.2, cof_test _ _ _ (idx6_lt ρ), cof_test _ _ _ (idx6_lt ρ), ← idx6_upd ρ x hx6, ← idx6_upd ρ x hx6]
            have hu : idx6 (upd3 ρ x (ρ x)) = idx6 ρ := idx6_congr fun y _ => by
              unfold upd3
              split
              · rename_i e; rw [e]
              · rfl
            cases hb : ρ x
            · rw [hb] at hu; rw [hu]; rfl
            · rw [hb] at hu; rw [hu]; rfl
          have hval : ∀ ρ, val3 ρ (s.1 ++ [(x, r.2.2, s.2.2)]) (s.1.length + 2) = t.testBit (idx6 ρ) := fun ρ => by
            rw [val3_new]
            exact hcase ρ
          have hnew : ∀ j, j < s.1.length → s.1[j]? ≠ some (x, r.2.2, s.2.2) := fun j hj he => by
            have hl := g2.len
            have e3 : s.2.1[j]? = some (s.2.1[j]'(by omega)) := List.getElem?_eq_getElem (by omega)
            obtain ⟨l4, r4⟩ := g2.rep j _ e3
            have r5 : Rep3 s.1 (j + 2) t := ⟨r4.1, fun ρ => by rw [val3_node g2.good ρ he]; exact hcase ρ⟩
            have := rep3_table r4 r5 l4 ht
            rw [this] at e3
            exact hfresh (List.mem_of_getElem? e3)
          have hgood := good_snoc g2.good (x := (x, r.2.2, s.2.2)) ⟨by dsimp only; omega, p1'.1, p2.1, hne, hvn, hvy, hnew⟩
          have hl1 : (s.1 ++ [(x, r.2.2, s.2.2)]).length = s.1.length + 1 := by simp
          have hrep : Rep3 (s.1 ++ [(x, r.2.2, s.2.2)]) (s.1.length + 2) t := ⟨by omega, hval⟩
          refine ⟨⟨hgood, by simp [g2.len], fun i u hu => ?_, fun y hy => ?_⟩, ⟨M1 ++ M2 ++ [(x, r.2.2, s.2.2)], by rw [e2, e1]; simp⟩, hrep, ?_, fun u hu => ?_, fun X F hF => ?_⟩
          · rcases Nat.lt_or_ge i s.2.1.length with hi | hi
            · rw [List.getElem?_append_left hi] at hu
              exact ⟨(g2.rep i u hu).1, rep3_app (g2.rep i u hu).2 _⟩
            · have hl := (List.getElem?_eq_some_iff.1 hu).1
              rw [List.length_append, List.length_singleton] at hl
              have e : i = s.2.1.length := by omega
              subst e
              rw [List.getElem?_append_right (Nat.le_refl _), Nat.sub_self] at hu
              have : t = u := by simpa using hu
              subst this
              rw [g2.len]
              exact ⟨ht, hrep⟩
          · rcases List.mem_append.1 hy with h | h
            · exact g2.vars y h
            · rw [List.mem_singleton.1 h]; exact hx6
          · have hq0 : 2 ^ (6 - first6 (cof t x false) 6 0) ≤ 2 ^ (5 - x) := Nat.pow_le_pow_right (by decide) (by omega)
            have hq1 : 2 ^ (6 - first6 (cof t x true) 6 0) ≤ 2 ^ (5 - x) := Nat.pow_le_pow_right (by decide) (by omega)
            have hq2 : 2 ^ (6 - x) = 2 * 2 ^ (5 - x) := by rw [show 6 - x = (5 - x) + 1 by omega, Nat.pow_succ]; omega
            rw [hl1]
            omega
          · rcases List.mem_append.1 hu with h | h
            · rcases u2 u h with h | h
              · rcases u1 u h with h | h
                · exact .inl h
                · exact .inr (by omega)
              · exact .inr (by omega)
            · rw [List.mem_singleton.1 h]
              exact .inr (by omega)
          · obtain ⟨F, rfl⟩ : ∃ F', F = F' + 1 := ⟨F - 1, by omega⟩
            have hnn : node3 (s.1 ++ [(x, r.2.2, s.2.2)] ++ X) (s.1.length + 2) = (x, r.2.2, s.2.2) := by
              rw [node3_app (by omega) (by omega)]
              unfold node3
              rw [Nat.add_sub_cancel, List.getD_eq_getElem?_getD, List.getElem?_append_right (Nat.le_refl _), Nat.sub_self]
              rfl
            have hlM : M.length ≤ s.1.length := by rw [e2, e1]; simp
            dsimp only at hF ⊢
            rw [dfs3, if_neg (by rw [range2_mem]; omega), hnn]
            dsimp only
            have q1 := p1'.1
            have q2 := p2.1
            have a1 := d1 (M2 ++ [(x, r.2.2, s.2.2)] ++ X) F (by omega)
            have a2 := d2 ([(x, r.2.2, s.2.2)] ++ X) F (by omega)
            rw [← List.append_assoc, ← List.append_assoc, ← e2] at a1
            rw [← List.append_assoc] at a2
            rw [a1, a2, hl1, range2_snoc]
end Go.Proofs.YtlnedapimmabdaaGreatDoor

namespace Go.Proofs.YtlnedapimmabdaaGreatDoor
set_option linter.unusedVariables false
set_option linter.unusedSimpArgs false

def bldN (t : Nat) : List (Nat × Nat × Nat) := (growT 7 [] [] t).1
def bldR (t : Nat) : Nat := (growT 7 [] [] t).2.2
theorem bld_ok {t : Nat} (ht : t < 2 ^ 64) : GT (bldN t) (growT 7 [] [] t).2.1 ∧ Rep3 (bldN t) (bldR t) t ∧ (bldN t).length < 64 ∧ ∀ F, bldR t < F → dfs3 (bldN t) F (bldR t) [] = List.range' 2 (bldN t).length := by
  obtain ⟨h1, _, h3, h4, _, h6⟩ := growT_ok 7 [] [] t gt_nil ht (by omega)
  refine ⟨h1, h3, ?_, fun F hF => ?_⟩
  · have : 2 ^ (6 - first6 t 6 0) ≤ 2 ^ 6 := Nat.pow_le_pow_right (by decide) (by omega)
    unfold bldN
    simp at h4
    omega
  · have := h6 [] F hF
    rw [List.append_nil] at this
    exact this
theorem at3_range {n q : Nat} (h : q < n + 2) : at3 (List.range' 2 n) q = q := by
  unfold at3
  split
  · rfl
  · rename_i h2
    have hm : q ∈ List.range' 2 n := (range2_mem n q).2 ⟨by omega, h⟩
    have hi := List.idxOf_lt_length_of_mem hm
    have e := List.getElem_idxOf hi
    rw [List.getElem_range'] at e
    omega
theorem relab3_id {M : List (Nat × Nat × Nat)} (hM : Good M) : relab3 M (List.range' 2 M.length) = M := by
  unfold relab3
  refine List.ext_getElem? fun i => ?_
  rw [List.getElem?_map]
  rcases Nat.lt_or_ge i M.length with hi | hi
  · have e1 : (List.range' 2 M.length)[i]? = some (i + 2) := by
      rw [List.getElem?_eq_getElem (by rw [List.length_range']; exact hi), List.getElem_range']
      simp; omega
    have hs := node3_some (N := M) (p := i + 2) (by omega) (by omega)
    rw [Nat.add_sub_cancel] at hs
    obtain ⟨a1, a2, _⟩ := node3_ok hM (p := i + 2) (by omega) (by omega)
    rw [e1, hs, Option.map_some, at3_range (by omega), at3_range (by omega)]
  · rw [List.getElem?_eq_none (by rw [List.length_range']; exact hi), List.getElem?_eq_none hi]
    rfl
theorem canonD_bld {N : List (Nat × Nat × Nat)} (hN : Good N) {p t : Nat} (h : Rep3 N p t) (ht : t < 2 ^ 64) : canonD N p = (bldN t, bldR t) := by
  obtain ⟨g, r, _, d⟩ := bld_ok ht
  rw [canonD_eq hN g.good (rep3_same h r)]
  unfold canonD
  rw [d _ r.1, relab3_id g.good, at3_range r.1]
end Go.Proofs.YtlnedapimmabdaaGreatDoor

namespace Go.Proofs.YtlnedapimmabdaaGreatDoor
set_option linter.unusedVariables false
set_option linter.unusedSimpArgs false

theorem same3_c0 (N M : List (Nat × Nat × Nat)) : Same3 N M 0 0 := ⟨by omega, by omega, fun ρ => by rw [val3_0, val3_0]⟩
theorem same3_c1 (N M : List (Nat × Nat × Nat)) : Same3 N M 1 1 := ⟨by omega, by omega, fun ρ => by rw [val3_1, val3_1]⟩
structure Dgm (M : List (Nat × Nat × Nat)) (r : Nat) : Prop where
  good : Good M
  vars : ∀ x ∈ M, x.1 < 6
  len : M.length < 64
  root : r < M.length + 2
  walk : ∀ F, r < F → dfs3 M F r [] = List.range' 2 M.length
theorem dgm_bld {t : Nat} (ht : t < 2 ^ 64) : Dgm (bldN t) (bldR t) ∧ Rep3 (bldN t) (bldR t) t := by
  obtain ⟨g, r, l, d⟩ := bld_ok ht
  exact ⟨⟨g.good, g.vars, l, r.1, d⟩, r⟩
theorem Dgm.top {M : List (Nat × Nat × Nat)} {r : Nat} (h : Dgm M r) : (r < 2 ∧ M = []) ∨ (r = M.length + 1 ∧ 0 < M.length) := by
  have hw := h.walk (r + 1) (Nat.lt_succ_self r)
  rw [dfs3] at hw
  rcases Nat.lt_or_ge r 2 with h2 | h2
  · rw [if_pos (.inl h2)] at hw
    have := congrArg List.length hw
    rw [List.length_range'] at this
    exact .inl ⟨h2, List.length_eq_zero_iff.1 this.symm⟩
  · rw [if_neg (by simp; omega)] at hw
    have hl := congrArg List.length hw
    rw [List.length_range', List.length_append, List.length_singleton] at hl
    have h0 : 0 < M.length := by omega
    have hr := h.root
    have e1 := congrArg List.getLast? hw
    rw [List.getLast?_concat] at e1
    obtain ⟨n, hn⟩ : ∃ n, M.length = n + 1 := ⟨M.length - 1, by omega⟩
    rw [hn, range2_snoc, List.getLast?_concat] at e1
    injection e1 with e1
    exact .inr ⟨by omega, h0⟩
end Go.Proofs.YtlnedapimmabdaaGreatDoor

namespace Go.Proofs.YtlnedapimmabdaaGreatDoor
set_option linter.unusedVariables false
set_option linter.unusedSimpArgs false

def z3 (x : Nat × Nat × Nat) : Int × Int × Int := ((x.1 : Int), (x.2.1 : Int), (x.2.2 : Int))
def n3 (x : Int × Int × Int) : Nat × Nat × Nat := (x.1.toNat, x.2.1.toNat, x.2.2.toNat)
theorem n3_z3 (x : Nat × Nat × Nat) : n3 (z3 x) = x := rfl
theorem n3_map (N : List (Nat × Nat × Nat)) : (N.map z3).map n3 = N := by
  rw [List.map_map]
  exact List.map_id'' (fun x => rfl) N
def varZ (L : List (Int × Int × Int)) (p : Int) : Int := (L.getD (p.toNat - 2) (0, 0, 0)).1
def chk1 (L : List (Int × Int × Int)) (i : Nat) (x : Int × Int × Int) : Nat :=
  if x.1 < 0 ∨ 4096 ≤ x.1 ∨ x.2.1 < 0 ∨ (i : Int) + 2 ≤ x.2.1 ∨ x.2.2 < 0 ∨ (i : Int) + 2 ≤ x.2.2 then 3
  else if x.2.1 = x.2.2 then 7
  else if (1 < x.2.1 ∧ varZ L x.2.1 ≤ x.1) ∨ (1 < x.2.2 ∧ varZ L x.2.2 ≤ x.1) then 6
  else if x ∈ L.take i then 9 else 0
def errN (L : List (Int × Int × Int)) : Nat → Nat → Nat
  | 0, _ => 0
  | f + 1, i => if chk1 L i (L.getD i (0, 0, 0)) = 0 then errN L f (i + 1) else chk1 L i (L.getD i (0, 0, 0))
def chkD (L : List (Int × Int × Int)) (r : Int) : Nat :=
  if errN L L.length 0 ≠ 0 then errN L L.length 0
  else if r < 0 ∨ (L.length : Int) + 2 ≤ r then 3
  else if (0 < L.length ∧ r ≠ (L.length : Int) + 1) ∨ (L.length = 0 ∧ 1 < r) then 7
  else if dfs3 (L.map n3) (r.toNat + 1) r.toNat [] = List.range' 2 L.length then 0 else 7
theorem errN_zero {L : List (Int × Int × Int)} : ∀ f i, errN L f i = 0 → ∀ j, i ≤ j → j < i + f → chk1 L j (L.getD j (0, 0, 0)) = 0 := by
  intro f
  induction f with
  | zero => intro i _ j h1 h2; omega
  | succ f ih =>
    intro i h j h1 h2
    rw [errN] at h
    split at h
    · rename_i h0
      rcases Nat.lt_or_ge i j with hj | hj
      · exact ih (i + 1) h j hj (by omega)
      · have : j = i := by omega
        rw [this]
        exact h0
    · rename_i h0
      exact absurd h h0
theorem errN_of {L : List (Int × Int × Int)} : ∀ f i, (∀ j, i ≤ j → j < i + f → chk1 L j (L.getD j (0, 0, 0)) = 0) → errN L f i = 0 := by
  intro f
  induction f with
  | zero => intro i _; rfl
  | succ f ih =>
    intro i h
    rw [errN, if_pos (h i (Nat.le_refl _) (by omega))]
    exact ih _ fun j h1 h2 => h j (by omega) (by omega)
theorem getD_some {α : Type} {l : List α} {i : Nat} {x : α} (h : l[i]? = some x) (d : α) : l.getD i d = x := by
  rw [List.getD_eq_getElem?_getD, h]; rfl
theorem chk1_zero {L : List (Int × Int × Int)} {i : Nat} {x : Int × Int × Int} (h : chk1 L i x = 0) : (0 ≤ x.1 ∧ x.1 < 4096 ∧ 0 ≤ x.2.1 ∧ x.2.1 < (i : Int) + 2 ∧ 0 ≤ x.2.2 ∧ x.2.2 < (i : Int) + 2) ∧ x.2.1 ≠ x.2.2 ∧ (1 < x.2.1 → x.1 < varZ L x.2.1) ∧ (1 < x.2.2 → x.1 < varZ L x.2.2) ∧ x ∉ L.take i := by
  unfold chk1 at h
  split at h
  · cases h
  · split at h
    · cases h
    · split at h
      · cases h
      · split at h
        · cases h
        · rename_i h1 h2 h3 h4
          exact ⟨by omega, h2, fun h => by omega, fun h => by omega, h4⟩
theorem chk1_of {L : List (Int × Int × Int)} {i : Nat} {x : Int × Int × Int} (h1 : 0 ≤ x.1 ∧ x.1 < 4096 ∧ 0 ≤ x.2.1 ∧ x.2.1 < (i : Int) + 2 ∧ 0 ≤ x.2.2 ∧ x.2.2 < (i : Int) + 2) (h2 : x.2.1 ≠ x.2.2) (h3 : 1 < x.2.1 → x.1 < varZ L x.2.1) (h4 : 1 < x.2.2 → x.1 < varZ L x.2.2) (h5 : x ∉ L.take i) : chk1 L i x = 0 := by
  unfold chk1
  rw [if_neg (by omega), if_neg h2, if_neg (by omega), if_neg h5]
theorem var3_map {L : List (Int × Int × Int)} {p : Int} (h : 1 < p) : var3 (L.map n3) p.toNat = (varZ L p).toNat := by
  unfold var3 varZ
  rw [if_neg (by omega), List.getD_eq_getElem?_getD, List.getElem?_map, List.getD_eq_getElem?_getD]
  cases L[p.toNat - 2]? <;> rfl
theorem good_chk {L : List (Int × Int × Int)} (h : errN L L.length 0 = 0) : Good (L.map n3) ∧ (L.map n3).map z3 = L := by
  have hz : ∀ i x, L[i]? = some x → chk1 L i x = 0 := fun i x hx => by
    have := errN_zero _ _ h i (Nat.zero_le _) (by have := (List.getElem?_eq_some_iff.1 hx).1; omega)
    rwa [getD_some hx] at this
  refine ⟨fun i y hy => ?_, ?_⟩
  · rw [List.getElem?_map] at hy
    obtain ⟨x, hx, rfl⟩ := Option.map_eq_some_iff.1 hy
    obtain ⟨⟨a1, a2, a3, a4, a5, a6⟩, b, c, d, e⟩ := chk1_zero (hz i x hx)
    have hl := (List.getElem?_eq_some_iff.1 hx).1
    have hv : ∀ p : Int, (1 < p → x.1 < varZ L p) → x.1.toNat < var3 (L.map n3) p.toNat := fun p hp => by
      rcases Int.lt_or_le 1 p with h1 | h1
      · rw [var3_map h1]
        have := hp h1
        omega
      · unfold var3
        rw [if_pos (by omega)]
        omega
    refine ⟨by show x.1.toNat < _; omega, by show x.2.1.toNat < _; omega, by show x.2.2.toNat < _; omega, by show x.2.1.toNat ≠ x.2.2.toNat; omega, hv _ c, hv _ d, fun j hj he => ?_⟩
    rw [List.getElem?_map] at he
    obtain ⟨y, hy1, hy2⟩ := Option.map_eq_some_iff.1 he
    obtain ⟨⟨q1, q2, q3, q4, q5, q6⟩, _⟩ := chk1_zero (hz j y hy1)
    have hxy : y = x := by
      unfold n3 at hy2
      injection hy2 with e1 e2
      injection e2 with e2 e3
      exact Prod.ext (by omega) (Prod.ext (by omega) (by omega))
    subst hxy
    exact e (List.mem_of_getElem? (show (L.take i)[j]? = some y by rw [List.getElem?_take, if_pos hj]; exact hy1))
  · rw [List.map_map]
    refine List.ext_getElem? fun i => ?_
    rw [List.getElem?_map]
    rcases hx : L[i]? with _ | x
    · rfl
    · obtain ⟨⟨a1, a2, a3, a4, a5, a6⟩, _⟩ := chk1_zero (hz i x hx)
      show some (z3 (n3 x)) = some x
      congr 1
      exact Prod.ext (by show ((x.1.toNat : Nat) : Int) = _; omega) (Prod.ext (by show ((x.2.1.toNat : Nat) : Int) = _; omega) (by show ((x.2.2.toNat : Nat) : Int) = _; omega))
theorem errN_good {M : List (Nat × Nat × Nat)} (hM : Good M) : errN (M.map z3) (M.map z3).length 0 = 0 := by
  refine errN_of _ _ fun j _ hj => ?_
  rw [List.length_map] at hj
  obtain ⟨x, hx⟩ : ∃ x, M[j]? = some x := ⟨_, List.getElem?_eq_getElem (by omega)⟩
  have e : (M.map z3)[j]? = some (z3 x) := by rw [List.getElem?_map, hx]; rfl
  rw [getD_some e]
  obtain ⟨a1, a2, a3, a4, a5, a6, a7⟩ := hM j x hx
  have hv : ∀ p : Nat, x.1 < var3 M p → 1 < (p : Int) → (x.1 : Int) < varZ (M.map z3) p := fun p h1 h2 => by
    have e1 : (varZ (M.map z3) (p : Int)).toNat = var3 M p := by rw [← var3_map h2, n3_map]; rfl
    omega
  refine chk1_of ⟨by show 0 ≤ (x.1 : Int); omega, by show (x.1 : Int) < _; omega, by show 0 ≤ (x.2.1 : Int); omega, by show (x.2.1 : Int) < _; omega, by show 0 ≤ (x.2.2 : Int); omega, by show (x.2.2 : Int) < _; omega⟩ (by show (x.2.1 : Int) ≠ (x.2.2 : Int); omega) (hv _ a5) (hv _ a6) fun hm => ?_
  obtain ⟨k, hk⟩ := List.mem_iff_getElem?.1 hm
  rw [List.getElem?_take] at hk
  split at hk
  · rename_i hkj
    rw [List.getElem?_map] at hk
    obtain ⟨y, hy1, hy2⟩ := Option.map_eq_some_iff.1 hk
    have : y = x := by rw [← n3_z3 y, hy2, n3_z3]
    subst this
    exact a7 k hkj hy1
  · cases hk
theorem chkD_dgm {M : List (Nat × Nat × Nat)} {r : Nat} (h : Dgm M r) : chkD (M.map z3) r = 0 := by
  unfold chkD
  have hr := h.root
  have ht := h.top
  rw [if_neg (by rw [errN_good h.good]; simp), List.length_map, if_neg (by omega), if_neg (by
    rcases ht with ⟨h1, h2⟩ | ⟨h1, h2⟩
    · rw [h2]; simp; omega
    · omega), n3_map, Int.toNat_natCast, if_pos (h.walk _ (Nat.lt_succ_self r))]
end Go.Proofs.YtlnedapimmabdaaGreatDoor

namespace Go.Proofs.YtlnedapimmabdaaGreatDoor
set_option linter.unusedVariables false
set_option linter.unusedSimpArgs false

def AtOk (N M : List (Nat × Nat × Nat)) (at_ : List Nat) (k : Nat) : Prop := at_.length = k + 2 ∧ ∀ j q, at_[j]? = some q → Same3 N M q j
theorem atOk_nil (N M : List (Nat × Nat × Nat)) : AtOk N M [0, 1] 0 := ⟨rfl, fun j q h => by
  match j, h with
  | 0, h => simp at h; subst h; exact same3_c0 N M
  | 1, h => simp at h; subst h; exact same3_c1 N M
  | j + 2, h => simp at h⟩
theorem Same3.grow {N M : List (Nat × Nat × Nat)} {p q : Nat} (h : Same3 N M p q) (R : List (Nat × Nat × Nat)) : Same3 (N ++ R) M p q :=
  ⟨by rw [List.length_append]; have := h.1; omega, h.2.1, fun ρ => by rw [val3_app ρ N h.1]; exact h.2.2 ρ⟩
theorem AtOk.snoc {N M : List (Nat × Nat × Nat)} {at_ : List Nat} {k : Nat} (h : AtOk N M at_ k) (R : List (Nat × Nat × Nat)) {p : Nat} (hp : Same3 (N ++ R) M p (k + 2)) : AtOk (N ++ R) M (at_ ++ [p]) (k + 1) := by
  refine ⟨by rw [List.length_append, h.1]; rfl, fun j q hj => ?_⟩
  rcases Nat.lt_or_ge j at_.length with hl | hl
  · rw [List.getElem?_append_left hl] at hj
    exact (h.2 j q hj).grow R
  · have hl2 := (List.getElem?_eq_some_iff.1 hj).1
    rw [List.length_append, List.length_singleton] at hl2
    have e : j = at_.length := by omega
    subst e
    rw [List.getElem?_append_right (Nat.le_refl _), Nat.sub_self] at hj
    have : p = q := by simpa using hj
    subst this
    rw [h.1]
    exact hp
theorem AtOk.get {N M : List (Nat × Nat × Nat)} {at_ : List Nat} {k : Nat} (h : AtOk N M at_ k) {j : Nat} (hj : j < k + 2) : ∃ q, at_[j]? = some q ∧ Same3 N M q j := by
  have hl : j < at_.length := by rw [h.1]; exact hj
  exact ⟨_, List.getElem?_eq_getElem hl, h.2 j _ (List.getElem?_eq_getElem hl)⟩
theorem same3_lt {N M : List (Nat × Nat × Nat)} (hN : Good N) (hM : Good M) {n c v : Nat} (h : Same3 N M n c) (hv : v < var3 M c) (h4 : v < 4096) : v < var3 N n := by
  rcases Nat.lt_or_ge n 2 with h2 | h2
  · unfold var3; rw [if_pos h2]; exact h4
  · rw [(same3_var hN hM h h2).2]; exact hv
theorem add_step {N M R : List (Nat × Nat × Nat)} (hM : Good M) {k n y p : Nat} {x : Nat × Nat × Nat} (hx : M[k]? = some x) (hn : Same3 N M n x.2.1) (hy : Same3 N M y x.2.2) (hp : p < (N ++ R).length + 2) (hv : ∀ ρ, val3 ρ (N ++ R) p = if ρ x.1 then val3 ρ N y else val3 ρ N n) : Same3 (N ++ R) M p (k + 2) :=
  ⟨hp, by have := (List.getElem?_eq_some_iff.1 hx).1; omega, fun ρ => by rw [hv, val3_node hM ρ hx, hn.2.2, hy.2.2]⟩
end Go.Proofs.YtlnedapimmabdaaGreatDoor

namespace Go.Proofs.YtlnedapimmabdaaGreatDoor
set_option linter.unusedVariables false
set_option linter.unusedSimpArgs false

def witD (M : List (Nat × Nat × Nat)) : Nat → Nat → List Bool → List Bool
  | 0, _, l => l
  | f + 1, p, l => if p < 2 then l else if (node3 M p).2.1 = 0 then witD M f (node3 M p).2.2 (l.set (node3 M p).1 true) else witD M f (node3 M p).2.1 l
theorem witD_fuel {M : List (Nat × Nat × Nat)} (hM : Good M) : ∀ (f g p : Nat) (l : List Bool), p < f → p < g → p < M.length + 2 → witD M f p l = witD M g p l := by
  intro f
  induction f with
  | zero => intro g p l h; omega
  | succ f ih =>
    intro g p l hf hg hp
    obtain ⟨g, rfl⟩ : ∃ g', g = g' + 1 := ⟨g - 1, by omega⟩
    rw [witD, witD]
    rcases Nat.lt_or_ge p 2 with h2 | h2
    · rw [if_pos h2, if_pos h2]
    · obtain ⟨a1, a2, _⟩ := node3_ok hM hp h2
      have hn : ¬ p < 2 := by omega
      rw [if_neg hn, if_neg hn]
      rw [ih g (node3 M p).2.1 l (by omega) (by omega) (by omega), ih g (node3 M p).2.2 _ (by omega) (by omega) (by omega)]
theorem witD_end (M : List (Nat × Nat × Nat)) {p : Nat} (h : p < 2) (l : List Bool) : witD M (p + 1) p l = l := by rw [witD, if_pos h]
theorem witD_step {M : List (Nat × Nat × Nat)} (hM : Good M) {p : Nat} (hp : p < M.length + 2) (h2 : 2 ≤ p) (l : List Bool) : witD M (p + 1) p l = if (node3 M p).2.1 = 0 then witD M ((node3 M p).2.2 + 1) (node3 M p).2.2 (l.set (node3 M p).1 true) else witD M ((node3 M p).2.1 + 1) (node3 M p).2.1 l := by
  obtain ⟨a1, a2, _⟩ := node3_ok hM hp h2
  rw [witD, if_neg (by omega), witD_fuel hM p ((node3 M p).2.2 + 1) (node3 M p).2.2 _ (by omega) (by omega) (by omega), witD_fuel hM p ((node3 M p).2.1 + 1) (node3 M p).2.1 _ (by omega) (by omega) (by omega)]
end Go.Proofs.YtlnedapimmabdaaGreatDoor

namespace Go.Proofs.YtlnedapimmabdaaGreatDoor
set_option linter.unusedVariables false
set_option linter.unusedSimpArgs false

def asg (k u : Nat) : Nat → Bool := fun x => if x < k then false else u.testBit (x - k)
theorem idx6_bits (u : Nat) : idx6 (asg 0 u) = u % 64 := by
  have h := idx6_row (u % 64) (Nat.mod_lt _ (by decide))
  rw [← h]
  refine idx6_congr fun x hx => ?_
  show (if x < 0 then false else u.testBit (x - 0)) = _
  rw [if_neg (by omega), Nat.sub_zero]
  rw [show (64 : Nat) = 2 ^ 6 from rfl, Nat.testBit_mod_two_pow, decide_eq_true hx, Bool.true_and]
end Go.Proofs.YtlnedapimmabdaaGreatDoor

namespace Go.Proofs.YtlnedapimmabdaaGreatDoor
set_option linter.unusedVariables false
set_option linter.unusedSimpArgs false

def wantL : Nat → Nat → Nat → List Bool
  | _, _, 0 => []
  | u, k, m + 1 => decide (cof u k false = 0) :: wantL (cof u k (decide (cof u k false = 0))) (k + 1) m
theorem rep3_zero {M : List (Nat × Nat × Nat)} (hM : Good M) {p u : Nat} (h : Rep3 M p u) (hu : u < 2 ^ 64) : p = 0 ↔ u = 0 := by
  have h0 : Rep3 M 0 0 := ⟨by omega, fun ρ => by rw [val3_0, Nat.zero_testBit]⟩
  constructor
  · rintro rfl
    exact rep3_table h h0 hu (by decide)
  · rintro rfl
    exact canon3 hM (p + 1) p 0 (by omega) (by omega) h.1 (by omega) fun ρ => by rw [h.2, h0.2]
theorem rep3_kids {M : List (Nat × Nat × Nat)} (hM : Good M) {p u : Nat} (h : Rep3 M p u) (h2 : 2 ≤ p) (hv : (node3 M p).1 < 6) : Rep3 M (node3 M p).2.1 (cof u (node3 M p).1 false) ∧ Rep3 M (node3 M p).2.2 (cof u (node3 M p).1 true) := by
  obtain ⟨a1, a2, _⟩ := node3_ok hM h.1 h2
  have hp := h.1
  refine ⟨⟨by omega, fun ρ => ?_⟩, ⟨by omega, fun ρ => ?_⟩⟩
  · have := side3 hM ρ hp h2 false
    rw [rep3_side ρ h hv] at this
    simpa using this.symm
  · have := side3 hM ρ hp h2 true
    rw [rep3_side ρ h hv] at this
    simpa using this.symm
theorem rep3_cof {M : List (Nat × Nat × Nat)} (hM : Good M) {p u k : Nat} (h : Rep3 M p u) (hu : u < 2 ^ 64) (hk : k < 6) (hv : k < var3 M p) (b : Bool) : cof u k b = u :=
  rep3_table (N := M) (p := p) ⟨h.1, fun ρ => by rw [← rep3_side ρ h hk, val3_upd hM ρ b h.1 hv]⟩ h (cof_lt _ _ _) hu
theorem wit_want {M : List (Nat × Nat × Nat)} (hM : Good M) {n : Nat} (hn : ∀ x ∈ M, x.1 < n) (hv6 : ∀ x ∈ M, x.1 < 6) : ∀ m k p u (a : List Bool), k + m = min n 6 → Rep3 M p u → u < 2 ^ 64 → u ≠ 0 → k ≤ var3 M p → a.length = k →
    witD M (p + 1) p (a ++ List.replicate (n - k) false) = a ++ (wantL u k m ++ List.replicate (n - 6) false) := by
  intro m
  induction m with
  | zero =>
    intro k p u a hk hr hu h0 hv ha
    have h2 : p < 2 := by
      rcases Nat.lt_or_ge p 2 with h | h
      · exact h
      · have e := (node3_ok hM hr.1 h).2.2.2.2.2.1
        have e1 := hn _ (List.mem_of_getElem? (node3_some hr.1 h))
        have e2 := hv6 _ (List.mem_of_getElem? (node3_some hr.1 h))
        omega
    rw [witD_end M h2, wantL, List.nil_append, show n - k = n - 6 by omega]
  | succ m ih =>
    intro k p u a hk hr hu h0 hv ha
    have hk6 : k < 6 := by omega
    have hrep : List.replicate (n - k) false = false :: List.replicate (n - (k + 1)) false := by
      rw [show n - k = n - (k + 1) + 1 by omega, List.replicate_succ]
    rw [wantL]
    rcases Nat.lt_or_ge k (var3 M p) with hlt | hge
    · rw [rep3_cof hM hr hu hk6 hlt false, decide_eq_false h0, rep3_cof hM hr hu hk6 hlt false, hrep]
      simpa using ih (k + 1) p u (a ++ [false]) (by omega) hr hu h0 hlt (by simp [ha])
    · have hkv : var3 M p = k := by omega
      have h2 : 2 ≤ p := by
        rcases Nat.lt_or_ge p 2 with h | h
        · unfold var3 at hkv; rw [if_pos h] at hkv; omega
        · exact h
      obtain ⟨a1, a2, a3, a4, a5, a6, _⟩ := node3_ok hM hr.1 h2
      have hk' : (node3 M p).1 = k := by omega
      obtain ⟨r1, r2⟩ := rep3_kids hM hr h2 (by omega)
      rw [hk'] at r1 r2 a4 a5
      rw [witD_step hM hr.1 h2, hk', hrep]
      have hz := rep3_zero hM r1 (cof_lt _ _ _)
      have hz2 := rep3_zero hM r2 (cof_lt _ _ _)
      by_cases hno : (node3 M p).2.1 = 0
      · have hc := hz.1 hno
        rw [if_pos hno, decide_eq_true hc]
        have hs : (a ++ false :: List.replicate (n - (k + 1)) false).set k true = (a ++ [true]) ++ List.replicate (n - (k + 1)) false := by
          rw [List.set_append, if_neg (by omega), ha, Nat.sub_self]
          simp
        rw [hs]
        simpa using ih (k + 1) _ _ (a ++ [true]) (by omega) r2 (cof_lt _ _ _) (fun e => a3 (by rw [hno, hz2.2 e])) a5 (by simp [ha])
      · have hc : cof u k false ≠ 0 := fun e => hno (hz.2 e)
        rw [if_neg hno, decide_eq_false hc]
        simpa using ih (k + 1) _ _ (a ++ [false]) (by omega) r1 (cof_lt _ _ _) hc a4 (by simp [ha])
theorem witD_bld {t n : Nat} (ht : t < 2 ^ 64) (h0 : t ≠ 0) (hn : ∀ x ∈ bldN t, x.1 < n) : witD (bldN t) (bldR t + 1) (bldR t) (List.replicate n false) = wantL t 0 (min n 6) ++ List.replicate (n - 6) false := by
  obtain ⟨hd, hr⟩ := dgm_bld ht
  have := wit_want hd.good hn hd.vars (min n 6) 0 (bldR t) t [] (by omega) hr ht h0 (Nat.zero_le _) rfl
  simpa using this
end Go.Proofs.YtlnedapimmabdaaGreatDoor

namespace Go.Proofs.YtlnedapimmabdaaGreatDoor
set_option linter.unusedVariables false
set_option linter.unusedSimpArgs false

theorem growT_dep {v : Nat} (hv : v < 6) : ∀ (f : Nat) (M : List (Nat × Nat × Nat)) (T : List Nat) (t : Nat), t < 2 ^ 64 → dep6 t v = false → ∀ y ∈ (growT f M T t).1, y ∈ M ∨ y.1 ≠ v := by
  intro f
  induction f with
  | zero => intro M T t _ _ y hy; exact .inl hy
  | succ f ih =>
    intro M T t ht hd y hy
    rw [growT] at hy
    split at hy
    · exact .inl hy
    · rename_i h0
      split at hy
      · exact .inl hy
      · rename_i h1
        split at hy
        · exact .inl hy
        · obtain ⟨hs, _, hle, hbef⟩ := first6_spec t 6 0
          have hx6 : first6 t 6 0 < 6 := by
            rcases Nat.lt_or_ge (first6 t 6 0) 6 with h | h
            · exact h
            · exact (table_const ht fun z hz => hbef z (Nat.zero_le _) (by omega)).elim (fun e => absurd e h0) (fun e => absurd e h1)
          have hdc : ∀ b, dep6 (cof t (first6 t 6 0) b) v = false := fun b => dep6_cof hx6 hv b (.inr hd)
          rcases List.mem_append.1 hy with h | h
          · rcases ih _ _ _ (cof_lt _ _ _) (hdc true) y h with h | h
            · exact ih _ _ _ (cof_lt _ _ _) (hdc false) y h
            · exact .inr h
          · rw [List.mem_singleton.1 h]
            refine .inr fun e => ?_
            have := hs (by omega)
            dsimp only at e
            rw [e, hd] at this
            cases this
theorem val3_free {M : List (Nat × Nat × Nat)} (hM : Good M) {v : Nat} (h : ∀ x ∈ M, x.1 ≠ v) (ρ : Nat → Bool) (b : Bool) : ∀ p, p < M.length + 2 → val3 (upd3 ρ v b) M p = val3 ρ M p := by
  intro p
  induction p using Nat.strongRecOn with
  | ind p ih =>
    intro hp
    rcases Nat.lt_or_ge p 2 with h2 | h2
    · have : p = 0 ∨ p = 1 := by omega
      rcases this with rfl | rfl
      · rw [val3_0, val3_0]
      · rw [val3_1, val3_1]
    · obtain ⟨a1, a2, _⟩ := node3_ok hM hp h2
      have hs := node3_some hp h2
      have v1 := val3_node hM (upd3 ρ v b) hs
      have v2 := val3_node hM ρ hs
      rw [Nat.sub_add_cancel h2] at v1 v2
      rw [v1, v2, ih _ a1 (by omega), ih _ a2 (by omega)]
      have e : upd3 ρ v b (node3 M p).1 = ρ (node3 M p).1 := by unfold upd3; rw [if_neg (h _ (List.mem_of_getElem? hs))]
      rw [e]
theorem vars_dep {t v : Nat} (ht : t < 2 ^ 64) (hv : v < 6) : (∃ x ∈ bldN t, x.1 = v) ↔ dep6 t v = true := by
  constructor
  · rintro ⟨x, hx, e⟩
    cases hd : dep6 t v with
    | true => rfl
    | false =>
      rcases growT_dep hv 7 [] [] t ht hd x hx with h | h
      · cases h
      · exact absurd e h
  · intro hd
    refine Classical.byContradiction fun hn => ?_
    have hno : ∀ x ∈ bldN t, x.1 ≠ v := fun x hx e => hn ⟨x, hx, e⟩
    obtain ⟨hg, hr⟩ := dgm_bld ht
    have : dep6 t v = false := dep6_false fun w hw => by
      have hρ : ∀ b, t.testBit (setb w v b) = t.testBit w := fun b => by
        have e := hr.2 (upd3 (fun i => w.testBit i) v b)
        rw [idx6_upd _ v hv, idx6_row w hw, val3_free hg.good hno _ b _ hg.root, hr.2, idx6_row w hw] at e
        exact e.symm
      rw [hρ, hρ]
    rw [this] at hd
    cases hd
theorem vars_lt {t n : Nat} (ht : t < 2 ^ 64) : (∀ x ∈ bldN t, x.1 < n) ↔ ∀ v, v < 6 → dep6 t v = true → v < n := by
  obtain ⟨hg, _⟩ := dgm_bld ht
  constructor
  · intro h v hv hd
    obtain ⟨x, hx, e⟩ := (vars_dep ht hv).2 hd
    rw [← e]
    exact h x hx
  · intro h x hx
    have h6 := hg.vars x hx
    exact h _ h6 ((vars_dep ht h6).1 ⟨x, hx, rfl⟩)
end Go.Proofs.YtlnedapimmabdaaGreatDoor

namespace Go.Proofs.YtlnedapimmabdaaGreatDoor
set_option linter.unusedVariables false
set_option linter.unusedSimpArgs false

def notT (t : Nat) : Nat := 18446744073709551615 - t
theorem notT_lt (t : Nat) : notT t < 2 ^ 64 := by unfold notT; omega
theorem notT_test {t v : Nat} (ht : t < 2 ^ 64) (hv : v < 64) : (notT t).testBit v = !t.testBit v := by
  have h := Nat.testBit_two_pow_sub_succ ht v
  unfold notT
  rw [show 18446744073709551615 - t = 2 ^ 64 - (t + 1) by omega, h, decide_eq_true hv, Bool.true_and]
def mask6 (x : Nat) : Nat := ofB (fun v => v.testBit x) 64
theorem mask6_lt (x : Nat) : mask6 x < 2 ^ 64 := ofB_lt _ 64
theorem mask6_test {x v : Nat} (hv : v < 64) : (mask6 x).testBit v = v.testBit x := by unfold mask6; rw [ofB_test, decide_eq_true hv, Bool.true_and]
end Go.Proofs.YtlnedapimmabdaaGreatDoor

namespace Go.Proofs.YtlnedapimmabdaaGreatDoor
set_option linter.unusedVariables false
set_option linter.unusedSimpArgs false

def Ordr3 (N : List (Nat × Nat × Nat)) (l : List Nat) : Prop := (∀ k, Closed3 N (l.take k)) ∧ l.Nodup
theorem ordr3_nil (N : List (Nat × Nat × Nat)) : Ordr3 N [] := ⟨fun k => by rw [List.take_nil]; exact closed3_nil N, List.nodup_nil⟩
theorem dfs3_new {N : List (Nat × Nat × Nat)} (hN : Good N) : ∀ (f q : Nat) (l : List Nat) {p : Nat}, q < f → q < N.length + 2 → p ∉ l → q < p → p ∉ dfs3 N f q l := by
  intro f
  induction f with
  | zero => intro q l p h; omega
  | succ f ih =>
    intro q l p hf hq hpl hqp
    rw [dfs3]
    split
    · exact hpl
    · rename_i h
      have h2 : 2 ≤ q := by
        rcases Nat.lt_or_ge q 2 with h' | h'
        · exact absurd (Or.inl h') h
        · exact h'
      obtain ⟨a1, a2, _⟩ := node3_ok hN hq h2
      intro hm
      rcases List.mem_append.1 hm with hm | hm
      · exact ih _ _ (by omega) (by omega) (ih _ _ (by omega) (by omega) hpl (by omega)) (by omega) hm
      · rw [List.mem_singleton] at hm; omega
theorem dfs3_ordr {N : List (Nat × Nat × Nat)} (hN : Good N) : ∀ (f p : Nat) (l : List Nat), p < f → p < N.length + 2 → Ordr3 N l → Ordr3 N (dfs3 N f p l) := by
  intro f
  induction f with
  | zero => intro p l h; omega
  | succ f ih =>
    intro p l hf hp hl
    have hc := (dfs3_closed hN (f + 1) p l hf hp (by have := hl.1 l.length; rwa [List.take_length] at this)).1
    rw [dfs3] at hc ⊢
    split
    · exact hl
    · rename_i h
      rw [if_neg h] at hc
      have h2 : 2 ≤ p := by
        rcases Nat.lt_or_ge p 2 with h' | h'
        · exact absurd (Or.inl h') h
        · exact h'
      obtain ⟨a1, a2, _⟩ := node3_ok hN hp h2
      have i1 := ih _ l (show (node3 N p).2.1 < f by omega) (by omega) hl
      have i2 := ih _ _ (show (node3 N p).2.2 < f by omega) (by omega) i1
      refine ⟨fun k => ?_, ?_⟩
      · rcases Nat.lt_or_ge k ((dfs3 N f (node3 N p).2.2 (dfs3 N f (node3 N p).2.1 l)).length + 1) with hk | hk
        · rw [List.take_append_of_le_length (by omega)]
          exact i2.1 k
        · rw [List.take_of_length_le (by rw [List.length_append]; exact hk)]
          exact hc
      · rw [List.nodup_append]
        refine ⟨i2.2, by simp, fun a ha b hb e => ?_⟩
        rw [List.mem_singleton] at hb
        subst hb
        subst e
        exact dfs3_new hN f _ _ (by omega) (by omega) (dfs3_new hN f _ _ (by omega) (by omega) (fun h' => h (Or.inr h')) (by omega)) (by omega) ha
theorem ordr3_len {N : List (Nat × Nat × Nat)} {l : List Nat} (h : Ordr3 N l) : l.length ≤ N.length := by
  have := h.2.length_le_of_subset (l₂ := List.range' 2 N.length) fun p hp => by
    obtain ⟨h1, h2, _⟩ := h.1 l.length p (by rw [List.take_length]; exact hp)
    exact (range2_mem _ _).2 ⟨h1, h2⟩
  rwa [List.length_range'] at this
theorem at3_some {l : List Nat} {k q : Nat} (h : l.Nodup) (hk : l[k]? = some q) (h2 : 2 ≤ q) : at3 l q = k + 2 := by
  unfold at3
  rw [if_neg (by omega)]
  obtain ⟨hl, he⟩ := List.getElem?_eq_some_iff.1 hk
  rw [← he, h.idxOf_getElem k hl]
theorem ordr3_kids {N : List (Nat × Nat × Nat)} (hN : Good N) {l : List Nat} (h : Ordr3 N l) {k p : Nat} (hk : l[k]? = some p) : 2 ≤ p ∧ p < N.length + 2 ∧ ((node3 N p).2.1 < 2 ∨ ∃ j, j < k ∧ l[j]? = some (node3 N p).2.1) ∧ ((node3 N p).2.2 < 2 ∨ ∃ j, j < k ∧ l[j]? = some (node3 N p).2.2) := by
  have hl := (List.getElem?_eq_some_iff.1 hk).1
  have hm : p ∈ l.take (k + 1) := List.mem_of_getElem? (i := k) (by rw [List.getElem?_take, if_pos (Nat.lt_succ_self k)]; exact hk)
  obtain ⟨h1, h2, h3, h4⟩ := h.1 (k + 1) p hm
  have conv : ∀ c, c ∈ l.take (k + 1) → c ≠ p → ∃ j, j < k ∧ l[j]? = some c := fun c hc hne => by
    obtain ⟨j, hj⟩ := List.mem_iff_getElem?.1 hc
    rw [List.getElem?_take] at hj
    split at hj
    · rename_i hjk
      have : j ≠ k := fun e => by rw [e, hk] at hj; injection hj with hj; exact hne hj.symm
      exact ⟨j, by omega, hj⟩
    · cases hj
  have hself : ∀ c, (c < 2 ∨ c ∈ l.take (k + 1)) → c ≠ p → (c < 2 ∨ ∃ j, j < k ∧ l[j]? = some c) := fun c hc hne => hc.imp_right fun h => conv c h hne
  refine ⟨h1, h2, ?_, ?_⟩
  · by_cases e : (node3 N p).2.1 = p
    · have := (node3_ok hN h2 h1).1; omega
    · exact hself _ h3 e
  · by_cases e : (node3 N p).2.2 = p
    · have := (node3_ok hN h2 h1).2.1; omega
    · exact hself _ h4 e
end Go.Proofs.YtlnedapimmabdaaGreatDoor
