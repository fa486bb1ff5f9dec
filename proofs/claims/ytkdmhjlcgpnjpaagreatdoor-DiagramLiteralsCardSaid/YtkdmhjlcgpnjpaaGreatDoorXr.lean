/- What Check answers, as a plain function. In plain Lean. -/
import Derived.Test.YtkdmhjlcgpnjpaaGreatDoorXq
namespace Go.Proofs.YtkdmhjlcgpnjpaaGreatDoor
set_option linter.unusedVariables false
set_option linter.unusedSimpArgs false

def z3 (x : Nat × Nat × Nat) : Int × Int × Int := ((x.1 : Int), (x.2.1 : Int), (x.2.2 : Int))
def n3 (x : Int × Int × Int) : Nat × Nat × Nat := (x.1.toNat, x.2.1.toNat, x.2.2.toNat)
theorem n3_z3 (x : Nat × Nat × Nat) : n3 (z3 x) = x := rfl
theorem n3_map (N : List (Nat × Nat × Nat)) : (N.map z3).map n3 = N := by
  rw [List.map_map]
  exact List.map_id'' (fun x => rfl) N
/-- The variable of the node of a place. -/
def varZ (L : List (Int × Int × Int)) (p : Int) : Int := (L.getD (p.toNat - 2) (0, 0, 0)).1
/-- The error of a node behind others. -/
def chk1 (L : List (Int × Int × Int)) (i : Nat) (x : Int × Int × Int) : Nat :=
  if x.1 < 0 ∨ 4096 ≤ x.1 ∨ x.2.1 < 0 ∨ (i : Int) + 2 ≤ x.2.1 ∨ x.2.2 < 0 ∨ (i : Int) + 2 ≤ x.2.2 then 3
  else if x.2.1 = x.2.2 then 7
  else if (1 < x.2.1 ∧ varZ L x.2.1 ≤ x.1) ∨ (1 < x.2.2 ∧ varZ L x.2.2 ≤ x.1) then 6
  else if x ∈ L.take i then 9 else 0
def errN (L : List (Int × Int × Int)) : Nat → Nat → Nat
  | 0, _ => 0
  | f + 1, i => if chk1 L i (L.getD i (0, 0, 0)) = 0 then errN L f (i + 1) else chk1 L i (L.getD i (0, 0, 0))
/-- The error of a diagram. -/
def chkD (L : List (Int × Int × Int)) (r : Int) : Nat :=
  if errN L L.length 0 ≠ 0 then errN L L.length 0
  else if r < 0 ∨ (L.length : Int) + 2 ≤ r then 3
  else if (0 < L.length ∧ r ≠ (L.length : Int) + 1) ∨ (L.length = 0 ∧ 1 < r) then 7
  else if dfs3 (L.map n3) (r.toNat + 1) r.toNat [] = List.range' 2 L.length then 0 else 7
theorem errN_zero {L : List (Int × Int × Int)} : ∀ f i, errN L f i = 0 → ∀ j, i ≤ j → j < i + f → chk1 L j (L.getD j (0, 0, 0)) = 0 := by
  intro f
  induction f with
  | zero => intro i _ j h1 h2; omega
  | succ f ih =>
    intro i h j h1 h2
    rw [errN] at h
    split at h
    · rename_i h0
      rcases Nat.lt_or_ge i j with hj | hj
      · exact ih (i + 1) h j hj (by omega)
      · have : j = i := by omega
        rw [this]
        exact h0
    · rename_i h0
      exact absurd h h0
theorem errN_of {L : List (Int × Int × Int)} : ∀ f i, (∀ j, i ≤ j → j < i + f → chk1 L j (L.getD j (0, 0, 0)) = 0) → errN L f i = 0 := by
  intro f
  induction f with
  | zero => intro i _; rfl
  | succ f ih =>
    intro i h
    rw [errN, if_pos (h i (Nat.le_refl _) (by omega))]
    exact ih _ fun j h1 h2 => h j (by omega) (by omega)
theorem getD_some {α : Type} {l : List α} {i : Nat} {x : α} (h : l[i]? = some x) (d : α) : l.getD i d = x := by
  rw [List.getD_eq_getElem?_getD, h]; rfl
theorem chk1_zero {L : List (Int × Int × Int)} {i : Nat} {x : Int × Int × Int} (h : chk1 L i x = 0) : (0 ≤ x.1 ∧ x.1 < 4096 ∧ 0 ≤ x.2.1 ∧ x.2.1 < (i : Int) + 2 ∧ 0 ≤ x.2.2 ∧ x.2.2 < (i : Int) + 2) ∧ x.2.1 ≠ x.2.2 ∧ (1 < x.2.1 → x.1 < varZ L x.2.1) ∧ (1 < x.2.2 → x.1 < varZ L x.2.2) ∧ x ∉ L.take i := by
  unfold chk1 at h
  split at h
  · cases h
  · split at h
    · cases h
    · split at h
      · cases h
      · split at h
        · cases h
        · rename_i h1 h2 h3 h4
          exact ⟨by omega, h2, fun h => by omega, fun h => by omega, h4⟩
theorem chk1_of {L : List (Int × Int × Int)} {i : Nat} {x : Int × Int × Int} (h1 : 0 ≤ x.1 ∧ x.1 < 4096 ∧ 0 ≤ x.2.1 ∧ x.2.1 < (i : Int) + 2 ∧ 0 ≤ x.2.2 ∧ x.2.2 < (i : Int) + 2) (h2 : x.2.1 ≠ x.2.2) (h3 : 1 < x.2.1 → x.1 < varZ L x.2.1) (h4 : 1 < x.2.2 → x.1 < varZ L x.2.2) (h5 : x ∉ L.take i) : chk1 L i x = 0 := by
  unfold chk1
  rw [if_neg (by omega), if_neg h2, if_neg (by omega), if_neg h5]
theorem var3_map {L : List (Int × Int × Int)} {p : Int} (h : 1 < p) : var3 (L.map n3) p.toNat = (varZ L p).toNat := by
  unfold var3 varZ
  rw [if_neg (by omega), List.getD_eq_getElem?_getD, List.getElem?_map, List.getD_eq_getElem?_getD]
  cases L[p.toNat - 2]? <;> rfl
/-- Nodes without an error. -/
theorem good_chk {L : List (Int × Int × Int)} (h : errN L L.length 0 = 0) : Good (L.map n3) ∧ (L.map n3).map z3 = L := by
  have hz : ∀ i x, L[i]? = some x → chk1 L i x = 0 := fun i x hx => by
    have := errN_zero _ _ h i (Nat.zero_le _) (by have := (List.getElem?_eq_some_iff.1 hx).1; omega)
    rwa [getD_some hx] at this
  refine ⟨fun i y hy => ?_, ?_⟩
  · rw [List.getElem?_map] at hy
    obtain ⟨x, hx, rfl⟩ := Option.map_eq_some_iff.1 hy
    obtain ⟨⟨a1, a2, a3, a4, a5, a6⟩, b, c, d, e⟩ := chk1_zero (hz i x hx)
    have hl := (List.getElem?_eq_some_iff.1 hx).1
    have hv : ∀ p : Int, (1 < p → x.1 < varZ L p) → x.1.toNat < var3 (L.map n3) p.toNat := fun p hp => by
      rcases Int.lt_or_le 1 p with h1 | h1
      · rw [var3_map h1]
        have := hp h1
        omega
      · unfold var3
        rw [if_pos (by omega)]
        omega
    refine ⟨by show x.1.toNat < _; omega, by show x.2.1.toNat < _; omega, by show x.2.2.toNat < _; omega, by show x.2.1.toNat ≠ x.2.2.toNat; omega, hv _ c, hv _ d, fun j hj he => ?_⟩
    rw [List.getElem?_map] at he
    obtain ⟨y, hy1, hy2⟩ := Option.map_eq_some_iff.1 he
    obtain ⟨⟨q1, q2, q3, q4, q5, q6⟩, _⟩ := chk1_zero (hz j y hy1)
    have hxy : y = x := by
      unfold n3 at hy2
      injection hy2 with e1 e2
      injection e2 with e2 e3
      exact Prod.ext (by omega) (Prod.ext (by omega) (by omega))
    subst hxy
    exact e (List.mem_of_getElem? (show (L.take i)[j]? = some y by rw [List.getElem?_take, if_pos hj]; exact hy1))
  · rw [List.map_map]
    refine List.ext_getElem? fun i => ?_
    rw [List.getElem?_map]
    rcases hx : L[i]? with _ | x
    · rfl
    · obtain ⟨⟨a1, a2, a3, a4, a5, a6⟩, _⟩ := chk1_zero (hz i x hx)
      show some (z3 (n3 x)) = some x
      congr 1
      exact Prod.ext (by show ((x.1.toNat : Nat) : Int) = _; omega) (Prod.ext (by show ((x.2.1.toNat : Nat) : Int) = _; omega) (by show ((x.2.2.toNat : Nat) : Int) = _; omega))
theorem errN_good {M : List (Nat × Nat × Nat)} (hM : Good M) : errN (M.map z3) (M.map z3).length 0 = 0 := by
  refine errN_of _ _ fun j _ hj => ?_
  rw [List.length_map] at hj
  obtain ⟨x, hx⟩ : ∃ x, M[j]? = some x := ⟨_, List.getElem?_eq_getElem (by omega)⟩
  have e : (M.map z3)[j]? = some (z3 x) := by rw [List.getElem?_map, hx]; rfl
  rw [getD_some e]
  obtain ⟨a1, a2, a3, a4, a5, a6, a7⟩ := hM j x hx
  have hv : ∀ p : Nat, x.1 < var3 M p → 1 < (p : Int) → (x.1 : Int) < varZ (M.map z3) p := fun p h1 h2 => by
    have e1 : (varZ (M.map z3) (p : Int)).toNat = var3 M p := by rw [← var3_map h2, n3_map]; rfl
    omega
  refine chk1_of ⟨by show 0 ≤ (x.1 : Int); omega, by show (x.1 : Int) < _; omega, by show 0 ≤ (x.2.1 : Int); omega, by show (x.2.1 : Int) < _; omega, by show 0 ≤ (x.2.2 : Int); omega, by show (x.2.2 : Int) < _; omega⟩ (by show (x.2.1 : Int) ≠ (x.2.2 : Int); omega) (hv _ a5) (hv _ a6) fun hm => ?_
  obtain ⟨k, hk⟩ := List.mem_iff_getElem?.1 hm
  rw [List.getElem?_take] at hk
  split at hk
  · rename_i hkj
    rw [List.getElem?_map] at hk
    obtain ⟨y, hy1, hy2⟩ := Option.map_eq_some_iff.1 hk
    have : y = x := by rw [← n3_z3 y, hy2, n3_z3]
    subst this
    exact a7 k hkj hy1
  · cases hk
/-- A diagram in order has no error. -/
theorem chkD_dgm {M : List (Nat × Nat × Nat)} {r : Nat} (h : Dgm M r) : chkD (M.map z3) r = 0 := by
  unfold chkD
  have hr := h.root
  have ht := h.top
  rw [if_neg (by rw [errN_good h.good]; simp), List.length_map, if_neg (by omega), if_neg (by
    rcases ht with ⟨h1, h2⟩ | ⟨h1, h2⟩
    · rw [h2]; simp; omega
    · omega), n3_map, Int.toNat_natCast, if_pos (h.walk _ (Nat.lt_succ_self r))]
end Go.Proofs.YtkdmhjlcgpnjpaaGreatDoor

namespace Go.Proofs.YtkdmhjlcgpnjpaaGreatDoor
set_option linter.unusedVariables false
set_option linter.unusedSimpArgs false

/-- The places of the first k nodes of a diagram in a builder. -/
def AtOk (N M : List (Nat × Nat × Nat)) (at_ : List Nat) (k : Nat) : Prop := at_.length = k + 2 ∧ ∀ j q, at_[j]? = some q → Same3 N M q j
theorem atOk_nil (N M : List (Nat × Nat × Nat)) : AtOk N M [0, 1] 0 := ⟨rfl, fun j q h => by
  match j, h with
  | 0, h => simp at h; subst h; exact same3_c0 N M
  | 1, h => simp at h; subst h; exact same3_c1 N M
  | j + 2, h => simp at h⟩
theorem Same3.grow {N M : List (Nat × Nat × Nat)} {p q : Nat} (h : Same3 N M p q) (R : List (Nat × Nat × Nat)) : Same3 (N ++ R) M p q :=
  ⟨by rw [List.length_append]; have := h.1; omega, h.2.1, fun ρ => by rw [val3_app ρ N h.1]; exact h.2.2 ρ⟩
theorem AtOk.snoc {N M : List (Nat × Nat × Nat)} {at_ : List Nat} {k : Nat} (h : AtOk N M at_ k) (R : List (Nat × Nat × Nat)) {p : Nat} (hp : Same3 (N ++ R) M p (k + 2)) : AtOk (N ++ R) M (at_ ++ [p]) (k + 1) := by
  refine ⟨by rw [List.length_append, h.1]; rfl, fun j q hj => ?_⟩
  rcases Nat.lt_or_ge j at_.length with hl | hl
  · rw [List.getElem?_append_left hl] at hj
    exact (h.2 j q hj).grow R
  · have hl2 := (List.getElem?_eq_some_iff.1 hj).1
    rw [List.length_append, List.length_singleton] at hl2
    have e : j = at_.length := by omega
    subst e
    rw [List.getElem?_append_right (Nat.le_refl _), Nat.sub_self] at hj
    have : p = q := by simpa using hj
    subst this
    rw [h.1]
    exact hp
theorem AtOk.get {N M : List (Nat × Nat × Nat)} {at_ : List Nat} {k : Nat} (h : AtOk N M at_ k) {j : Nat} (hj : j < k + 2) : ∃ q, at_[j]? = some q ∧ Same3 N M q j := by
  have hl : j < at_.length := by rw [h.1]; exact hj
  exact ⟨_, List.getElem?_eq_getElem hl, h.2 j _ (List.getElem?_eq_getElem hl)⟩
theorem same3_lt {N M : List (Nat × Nat × Nat)} (hN : Good N) (hM : Good M) {n c v : Nat} (h : Same3 N M n c) (hv : v < var3 M c) (h4 : v < 4096) : v < var3 N n := by
  rcases Nat.lt_or_ge n 2 with h2 | h2
  · unfold var3; rw [if_pos h2]; exact h4
  · rw [(same3_var hN hM h h2).2]; exact hv
/-- A node of the diagram, made in the builder. -/
theorem add_step {N M R : List (Nat × Nat × Nat)} (hM : Good M) {k n y p : Nat} {x : Nat × Nat × Nat} (hx : M[k]? = some x) (hn : Same3 N M n x.2.1) (hy : Same3 N M y x.2.2) (hp : p < (N ++ R).length + 2) (hv : ∀ ρ, val3 ρ (N ++ R) p = if ρ x.1 then val3 ρ N y else val3 ρ N n) : Same3 (N ++ R) M p (k + 2) :=
  ⟨hp, by have := (List.getElem?_eq_some_iff.1 hx).1; omega, fun ρ => by rw [hv, val3_node hM ρ hx, hn.2.2, hy.2.2]⟩
/-- The values with one variable put. -/
def put3 (N : List (Nat × Nat × Nat)) (p x : Nat) (b : Bool) (ρ : Nat → Bool) : Bool := val3 (upd3 ρ x b) N p
theorem put3_gt {N : List (Nat × Nat × Nat)} (hN : Good N) {p x : Nat} (b : Bool) (hp : p < N.length + 2) (h : x < var3 N p) (ρ : Nat → Bool) : put3 N p x b ρ = val3 ρ N p := val3_upd hN ρ b hp h
theorem put3_eq {N : List (Nat × Nat × Nat)} (hN : Good N) {p : Nat} (b : Bool) (hp : p < N.length + 2) (h2 : 2 ≤ p) (ρ : Nat → Bool) : put3 N p (node3 N p).1 b ρ = val3 ρ N (if b then (node3 N p).2.2 else (node3 N p).2.1) := by
  unfold put3
  rw [side3 hN ρ hp h2 b]
  cases b <;> rfl
theorem put3_lt {N : List (Nat × Nat × Nat)} (hN : Good N) {p x : Nat} (b : Bool) (hp : p < N.length + 2) (h2 : 2 ≤ p) (h : (node3 N p).1 < x) (ρ : Nat → Bool) : put3 N p x b ρ = if ρ (node3 N p).1 then put3 N (node3 N p).2.2 x b ρ else put3 N (node3 N p).2.1 x b ρ := by
  unfold put3
  have := val3_node hN (upd3 ρ x b) (node3_some hp h2)
  rw [Nat.sub_add_cancel h2] at this
  rw [this]
  have e : upd3 ρ x b (node3 N p).1 = ρ (node3 N p).1 := by unfold upd3; rw [if_neg (by omega)]
  rw [e]
theorem put3_app {N : List (Nat × Nat × Nat)} {p x : Nat} (b : Bool) (hp : p < N.length + 2) (M : List (Nat × Nat × Nat)) (ρ : Nat → Bool) : put3 (N ++ M) p x b ρ = put3 N p x b ρ := val3_app _ N hp M
/-- The values do not depend on variables before the place's own. -/
theorem put3_ind {N : List (Nat × Nat × Nat)} (hN : Good N) {p x u : Nat} (b c : Bool) (hp : p < N.length + 2) (h : u < var3 N p) (ρ : Nat → Bool) : put3 N p x b (upd3 ρ u c) = put3 N p x b ρ := by
  unfold put3
  refine val3_dep hN _ p (Nat.lt_succ_self p) hp fun v hv => ?_
  unfold upd3
  split
  · rfl
  · rw [if_neg (by omega)]
end Go.Proofs.YtkdmhjlcgpnjpaaGreatDoor
