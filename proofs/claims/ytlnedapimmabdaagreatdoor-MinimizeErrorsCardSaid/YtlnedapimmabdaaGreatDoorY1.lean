/- The diagram of a place, for any function: it is in order, and the only one. Functions that arise by values of the first variables; how many there are. -/
import Derived.Test.YtlnedapimmabdaaGreatDoorPl
namespace Go.Proofs.YtlnedapimmabdaaGreatDoor
set_option linter.unusedVariables false
set_option linter.unusedSimpArgs false

theorem relab3_at2 {N : List (Nat × Nat × Nat)} {l : List Nat} {k q : Nat} (h : l[k]? = some q) : (relab3 N l)[k]? = some ((node3 N q).1, at3 l (node3 N q).2.1, at3 l (node3 N q).2.2) := by
  unfold relab3
  rw [List.getElem?_map, h]
  rfl
theorem relab3_inv {N : List (Nat × Nat × Nat)} {l : List Nat} {k : Nat} {x : Nat × Nat × Nat} (h : (relab3 N l)[k]? = some x) : ∃ q, l[k]? = some q ∧ x = ((node3 N q).1, at3 l (node3 N q).2.1, at3 l (node3 N q).2.2) := by
  unfold relab3 at h
  rw [List.getElem?_map] at h
  obtain ⟨q, h1, h2⟩ := Option.map_eq_some_iff.1 h
  exact ⟨q, h1, h2.symm⟩
def InL (l : List Nat) (c : Nat) : Prop := c < 2 ∨ ∃ j : Nat, l[j]? = some c ∧ 2 ≤ c
theorem at3_inj {l : List Nat} (hn : l.Nodup) {c d : Nat} (hc : InL l c) (hd : InL l d) (e : at3 l c = at3 l d) : c = d := by
  have ev : ∀ c, c < 2 → at3 l c = c := fun c h => by unfold at3; rw [if_pos h]
  rcases hc with hc | ⟨i, hi, hc⟩ <;> rcases hd with hd | ⟨j, hj, hd⟩
  · rwa [ev c hc, ev d hd] at e
  · rw [ev c hc, at3_some hn hj hd] at e; omega
  · rw [ev d hd, at3_some hn hi hc] at e; omega
  · rw [at3_some hn hi hc, at3_some hn hj hd] at e
    have : i = j := by omega
    subst this
    rw [hi] at hj
    injection hj
section
variable {N : List (Nat × Nat × Nat)} {l : List Nat}
theorem ordr_in (hN : Good N) (h : Ordr3 N l) {k p : Nat} (hk : l[k]? = some p) : 2 ≤ p ∧ p < N.length + 2 ∧ (((node3 N p).2.1 < 2 ∨ ∃ j, j < k ∧ l[j]? = some (node3 N p).2.1) ∧ ((node3 N p).2.2 < 2 ∨ ∃ j, j < k ∧ l[j]? = some (node3 N p).2.2)) ∧ InL l (node3 N p).2.1 ∧ InL l (node3 N p).2.2 := by
  obtain ⟨h1, h2, h3, h4⟩ := ordr3_kids hN h hk
  have cv : ∀ c, (c < 2 ∨ ∃ j, j < k ∧ l[j]? = some c) → InL l c := fun c hc => by
    rcases hc with hc | ⟨j, _, hj⟩
    · exact .inl hc
    · exact .inr ⟨j, hj, (ordr3_kids hN h hj).1⟩
  exact ⟨h1, h2, ⟨h3, h4⟩, cv _ h3, cv _ h4⟩
theorem relab3_var (hN : Good N) (h : Ordr3 N l) {c : Nat} (hc : InL l c) : var3 (relab3 N l) (at3 l c) = var3 N c := by
  rcases hc with hc | ⟨j, hj, hc⟩
  · rw [show at3 l c = c by unfold at3; rw [if_pos hc]]
    unfold var3
    rw [if_pos hc, if_pos hc]
  · obtain ⟨h1, h2, _⟩ := ordr3_kids hN h hj
    rw [at3_some h.2 hj hc, var3_node (relab3_at2 hj), (node3_ok hN h2 h1).2.2.2.2.2.1]
theorem relab3_good (hN : Good N) (h : Ordr3 N l) : Good (relab3 N l) := fun i x hx => by
  obtain ⟨q, hq, rfl⟩ := relab3_inv hx
  obtain ⟨h1, h2, ⟨h3, h4⟩, i3, i4⟩ := ordr_in hN h hq
  obtain ⟨a1, a2, a3, a4, a5, a6, a7⟩ := node3_ok hN h2 h1
  have lt : ∀ c, (c < 2 ∨ ∃ j, j < i ∧ l[j]? = some c) → at3 l c < i + 2 := fun c hc => by
    rcases hc with hc | ⟨j, hji, hj⟩
    · rw [show at3 l c = c by unfold at3; rw [if_pos hc]]; omega
    · rw [at3_some h.2 hj (ordr3_kids hN h hj).1]; omega
  refine ⟨a7, lt _ h3, lt _ h4, fun e => a3 (at3_inj h.2 i3 i4 e), by rw [relab3_var hN h i3]; exact a4, by rw [relab3_var hN h i4]; exact a5, fun j hji hj => ?_⟩
  obtain ⟨q', hq', e⟩ := relab3_inv hj
  obtain ⟨k1, k2, _, j3, j4⟩ := ordr_in hN h hq'
  injection e with e1 e2
  injection e2 with e2 e3
  have e2' := at3_inj h.2 i3 j3 e2
  have e3' := at3_inj h.2 i4 j4 e3
  have hs := node3_some h2 h1
  have hs' := node3_some k2 k1
  have hnn : node3 N q = node3 N q' := Prod.ext e1 (Prod.ext e2' e3')
  have hqq : q = q' := by
    rcases Nat.lt_trichotomy q q' with hl | hl | hl
    · exact absurd hs ((hN _ _ (hnn ▸ hs')).2.2.2.2.2.2 (q - 2) (by omega))
    · exact hl
    · exact absurd hs' ((hN _ _ (hnn ▸ hs)).2.2.2.2.2.2 (q' - 2) (by omega))
  subst hqq
  have := (at3_some h.2 hq h1).symm.trans (at3_some h.2 hq' h1)
  omega
theorem relab3_vals (hN : Good N) (h : Ordr3 N l) (ρ : Nat → Bool) : ∀ (m k p : Nat), k < m → l[k]? = some p → val3 ρ (relab3 N l) (k + 2) = val3 ρ N p
  | 0, _, _, hm, _ => by omega
  | m + 1, k, p, hm, hk => by
    obtain ⟨h1, h2, ⟨h3, h4⟩, i3, i4⟩ := ordr_in hN h hk
    have cv : ∀ c, (c < 2 ∨ ∃ j, j < k ∧ l[j]? = some c) → val3 ρ (relab3 N l) (at3 l c) = val3 ρ N c := fun c hc => by
      rcases hc with hc | ⟨j, hjk, hj⟩
      · rw [show at3 l c = c by unfold at3; rw [if_pos hc]]
        rcases Nat.lt_or_ge c 1 with h0 | h0
        · rw [show c = 0 by omega, val3_0, val3_0]
        · rw [show c = 1 by omega, val3_1, val3_1]
      · rw [at3_some h.2 hj (ordr3_kids hN h hj).1]
        exact relab3_vals hN h ρ m j c (by omega) hj
    have hv := val3_node hN ρ (node3_some h2 h1)
    rw [Nat.sub_add_cancel h1] at hv
    rw [val3_node (relab3_good hN h) ρ (relab3_at2 hk), hv]
    dsimp only
    rw [cv _ h3, cv _ h4]
end
structure Dgn (M : List (Nat × Nat × Nat)) (r : Nat) : Prop where
  good : Good M
  root : r < M.length + 2
  walk : ∀ F, r < F → dfs3 M F r [] = List.range' 2 M.length
theorem canon_dgn {N : List (Nat × Nat × Nat)} (hN : Good N) {p : Nat} (hp : p < N.length + 2) : Dgn (canonD N p).1 (canonD N p).2 ∧ Same3 N (canonD N p).1 p (canonD N p).2 ∧ (canonD N p).1.length ≤ N.length ∧ ∀ x ∈ (canonD N p).1, ∃ y ∈ N, x.1 = y.1 := by
  obtain ⟨l, hl⟩ : ∃ l, dfs3 N (N.length + 2) p [] = l := ⟨_, rfl⟩
  have ho : Ordr3 N l := hl ▸ dfs3_ordr hN _ p [] hp hp (ordr3_nil N)
  have hpl : p < 2 ∨ p ∈ l := hl ▸ (dfs3_closed hN (N.length + 2) p [] hp hp (closed3_nil N)).2
  have hc : canonD N p = (relab3 N l, at3 l p) := by unfold canonD; rw [hl]
  rw [hc]
  dsimp only
  have hG := relab3_good hN ho
  have hlen : (relab3 N l).length = l.length := List.length_map ..
  have hsame : Same3 N (relab3 N l) p (at3 l p) := by
    rcases hpl with h2 | hm
    · rw [show at3 l p = p by unfold at3; rw [if_pos h2]]
      refine ⟨hp, by omega, fun ρ => ?_⟩
      rcases Nat.lt_or_ge p 1 with h0 | h0
      · rw [show p = 0 by omega, val3_0, val3_0]
      · rw [show p = 1 by omega, val3_1, val3_1]
    · obtain ⟨k, hk⟩ := List.mem_iff_getElem?.1 hm
      have hkl := (List.getElem?_eq_some_iff.1 hk).1
      rw [at3_some ho.2 hk (ordr3_kids hN ho hk).1]
      exact ⟨hp, by omega, fun ρ => (relab3_vals hN ho ρ (k + 1) k p (by omega) hk).symm⟩
  refine ⟨⟨hG, hsame.2.1, fun F hF => ?_⟩, hsame, by rw [hlen]; exact ordr3_len ho, fun x hx => ?_⟩
  · obtain ⟨K, hK⟩ : ∃ K, K = N.length + F + 2 := ⟨_, rfl⟩
    have hout := dfs3_lock hN hG K p (at3 l p) [] [] hsame (outs3_nil _ _)
    rw [dfs3_fuel hN K (N.length + 2) p [] (by omega) hp hp, hl, dfs3_fuel hG K F (at3 l p) [] (by omega) hF hsame.2.1] at hout
    obtain ⟨o1, o2⟩ := hout
    refine List.ext_getElem? fun i => ?_
    rcases Nat.lt_or_ge i l.length with hi | hi
    · have e1 : l[i]? = some (l[i]'hi) := List.getElem?_eq_getElem hi
      have e2 : (dfs3 (relab3 N l) F (at3 l p) [])[i]? = some _ := List.getElem?_eq_getElem (by omega)
      have s1 := o2 i _ _ e1 e2
      have s2 : Same3 N (relab3 N l) (l[i]'hi) (i + 2) := ⟨s1.1, by omega, fun ρ => (relab3_vals hN ho ρ (i + 1) i _ (by omega) e1).symm⟩
      rw [e2, s1.right hG s2, hlen, List.getElem?_eq_getElem (by rw [List.length_range']; exact hi), List.getElem_range']
      congr 1
      omega
    · rw [List.getElem?_eq_none (by omega), List.getElem?_eq_none (by rw [List.length_range', hlen]; exact hi)]
  · obtain ⟨k, hk⟩ := List.mem_iff_getElem?.1 hx
    obtain ⟨q, hq, rfl⟩ := relab3_inv hk
    obtain ⟨h1, h2, _⟩ := ordr3_kids hN ho hq
    exact ⟨node3 N q, List.mem_of_getElem? (node3_some h2 h1), rfl⟩
theorem Dgn.canon {M : List (Nat × Nat × Nat)} {r : Nat} (h : Dgn M r) : canonD M r = (M, r) := by
  unfold canonD
  rw [h.walk _ h.root, relab3_id h.good, at3_range h.root]
theorem Dgn.only {M M' : List (Nat × Nat × Nat)} {r r' : Nat} (h : Dgn M r) (h' : Dgn M' r') (hv : ∀ ρ, val3 ρ M r = val3 ρ M' r') : M = M' ∧ r = r' := by
  have := canonD_eq h.good h'.good ⟨h.root, h'.root, hv⟩
  rw [h.canon, h'.canon] at this
  injection this with h1 h2
  exact ⟨h1, h2⟩
theorem Dgn.top {M : List (Nat × Nat × Nat)} {r : Nat} (h : Dgn M r) : (r < 2 ∧ M = []) ∨ (r = M.length + 1 ∧ 0 < M.length) := by
  have hw := h.walk (r + 1) (Nat.lt_succ_self r)
  rw [dfs3] at hw
  rcases Nat.lt_or_ge r 2 with h2 | h2
  · rw [if_pos (.inl h2)] at hw
    have := congrArg List.length hw
    rw [List.length_range'] at this
    exact .inl ⟨h2, List.length_eq_zero_iff.1 this.symm⟩
  · rw [if_neg (by simp; omega)] at hw
    have hl := congrArg List.length hw
    rw [List.length_range', List.length_append, List.length_singleton] at hl
    have h0 : 0 < M.length := by omega
    have hr := h.root
    have e1 := congrArg List.getLast? hw
    rw [List.getLast?_concat] at e1
    obtain ⟨n, hn⟩ : ∃ n, M.length = n + 1 := ⟨M.length - 1, by omega⟩
    rw [hn, range2_snoc, List.getLast?_concat] at e1
    injection e1 with e1
    exact .inr ⟨by omega, h0⟩
theorem chkD_dgn {M : List (Nat × Nat × Nat)} {r : Nat} (h : Dgn M r) : chkD (M.map z3) r = 0 := by
  unfold chkD
  have hr := h.root
  have ht := h.top
  rw [if_neg (by rw [errN_good h.good]; simp), List.length_map, if_neg (by omega), if_neg (by
    rcases ht with ⟨h1, h2⟩ | ⟨h1, h2⟩
    · rw [h2]; simp; omega
    · omega), n3_map, Int.toNat_natCast, if_pos (h.walk _ (Nat.lt_succ_self r))]
theorem dgn_nil (b : Bool) : Dgn [] (if b then 1 else 0) := ⟨good_nil, by cases b <;> decide, fun F hF => by
  cases F with
  | zero => omega
  | succ F => rw [dfs3, if_pos (.inl (by cases b <;> decide))]; rfl⟩
theorem dgn_lit (v : Nat) (hv : v < 4096) : Dgn [(v, 0, 1)] 2 ∧ ∀ ρ, val3 ρ [(v, 0, 1)] 2 = ρ v := by
  have hg : Good [(v, 0, 1)] := fun i x hx => by
    match i, hx with
    | 0, hx =>
      simp at hx
      subst hx
      exact ⟨hv, by show 0 < _; omega, by show 1 < _; omega, by show (0 : Nat) ≠ 1; omega, by simpa [var3] using hv, by simpa [var3] using hv, fun j h => by omega⟩
  refine ⟨⟨hg, by show 2 < 1 + 2; omega, fun F hF => ?_⟩, fun ρ => ?_⟩
  · obtain ⟨f, rfl⟩ : ∃ f, F = f + 3 := ⟨F - 3, by omega⟩
    rw [dfs3, if_neg (by simp)]
    simp [node3, dfs3]
  · rw [val3_node hg ρ (i := 0) (x := (v, 0, 1)) rfl, val3_0, val3_1]
    cases ρ v <;> rfl
end Go.Proofs.YtlnedapimmabdaaGreatDoor

namespace Go.Proofs.YtlnedapimmabdaaGreatDoor
set_option linter.unusedVariables false
set_option linter.unusedSimpArgs false

def AtMost (P : ((Nat → Bool) → Bool) → Prop) (c : Nat) : Prop := ∃ code : ((Nat → Bool) → Bool) → Nat, (∀ f, P f → code f < c) ∧ ∀ f g, P f → P g → code f = code g → f = g
def InF (P : ((Nat → Bool) → Bool) → Prop) (e0 : Nat) (N : List (Nat × Nat × Nat)) : Prop := ∀ i, e0 ≤ i → i < N.length → P (fun ρ => val3 ρ N (i + 2))
def pre (t : Nat) (a ρ : Nat → Bool) : Nat → Bool := fun x => if x < t then a x else ρ x
def Her (P : ((Nat → Bool) → Bool) → Prop) (f : (Nat → Bool) → Bool) : Prop := ∀ (t : Nat) (a : Nat → Bool), P (fun ρ => f (pre t a ρ))
theorem Her.self {P : ((Nat → Bool) → Bool) → Prop} {f : (Nat → Bool) → Bool} (h : Her P f) : P f := h 0 fun _ => false
theorem pre_upd {f : (Nat → Bool) → Bool} {v : Nat} (hi : ∀ ρ σ : Nat → Bool, (∀ u, v ≤ u → ρ u = σ u) → f ρ = f σ) (b : Bool) (t : Nat) (a : Nat → Bool) : ∃ (t' : Nat) (a' : Nat → Bool), v < t' ∧ ∀ ρ, f (upd3 (pre t a ρ) v b) = f (pre t' a' ρ) := by
  rcases Nat.lt_or_ge v t with h | h
  · refine ⟨t, fun x => if x = v then b else a x, h, fun ρ => ?_⟩
    congr 1
    funext x
    unfold upd3 pre
    by_cases hx : x = v
    · subst hx
      rw [if_pos rfl, if_pos h]
      simp
    · rw [if_neg hx]
      simp [hx]
  · refine ⟨v + 1, fun x => if x = v then b else a x, Nat.lt_succ_self v, fun ρ => hi _ _ fun u hu => ?_⟩
    unfold upd3 pre
    by_cases hx : u = v
    · subst hx
      rw [if_pos rfl, if_pos (Nat.lt_succ_self _)]
      simp
    · rw [if_neg hx, if_neg (by omega), if_neg (by omega)]
theorem Her.cof {P : ((Nat → Bool) → Bool) → Prop} {f : (Nat → Bool) → Bool} (h : Her P f) {v : Nat} (hi : ∀ ρ σ : Nat → Bool, (∀ u, v ≤ u → ρ u = σ u) → f ρ = f σ) (b : Bool) : Her P (fun ρ => f (upd3 ρ v b)) := fun t a => by
  obtain ⟨t', a', _, e⟩ := pre_upd hi b t a
  have := h t' a'
  rwa [← funext e] at this
theorem nodup_lt : ∀ (M : Nat) (l : List Nat), l.Nodup → (∀ x ∈ l, x < M) → l.length ≤ M
  | 0, l, _, h => by
    cases l with
    | nil => simp
    | cons a r => exact absurd (h a (by simp)) (by omega)
  | M + 1, l, hn, h => by
    by_cases hm : M ∈ l
    · have := nodup_lt M (l.erase M) (hn.erase M) fun x hx => by
        have h1 := (hn.mem_erase_iff).1 hx
        have := h x h1.2
        have := h1.1
        omega
      rw [List.length_erase_of_mem hm] at this
      omega
    · have := nodup_lt M l hn fun x hx => by
        have := h x hx
        have : x ≠ M := fun e => hm (e ▸ hx)
        omega
      omega
theorem inj_le {α : Type} {l : List α} {f : α → Nat} {M : Nat} (hn : l.Nodup) (hf : ∀ x ∈ l, f x < M) (hi : ∀ x ∈ l, ∀ y ∈ l, f x = f y → x = y) : l.length ≤ M := by
  have h := nodup_lt M (l.map f) (List.pairwise_map.2 (hn.imp_of_mem fun {a b} ha hb hne e => hne (hi a ha b hb e))) fun x hx => by
    obtain ⟨y, hy, rfl⟩ := List.mem_map.1 hx
    exact hf y hy
  rwa [List.length_map] at h
theorem inF_le {P : ((Nat → Bool) → Bool) → Prop} {e0 cc : Nat} {N : List (Nat × Nat × Nat)} (hA : AtMost P cc) (hN : Good N) (hF : InF P e0 N) : N.length ≤ e0 + cc := by
  obtain ⟨code, h1, h2⟩ := hA
  have := inj_le (l := List.range' e0 (N.length - e0)) (f := fun i => code (fun ρ => val3 ρ N (i + 2))) (M := cc) List.nodup_range' (fun i hi => by
    rw [List.mem_range'_1] at hi
    exact h1 _ (hF i hi.1 (by omega))) (fun i hi j hj e => by
    rw [List.mem_range'_1] at hi hj
    have := h2 _ _ (hF i hi.1 (by omega)) (hF j hj.1 (by omega)) e
    have := canon3 hN (i + j + 3) (i + 2) (j + 2) (by omega) (by omega) (by omega) (by omega) fun ρ => congrFun this ρ
    omega)
  rw [List.length_range'] at this
  omega
theorem inF_lt {P : ((Nat → Bool) → Bool) → Prop} {e0 cc : Nat} {N : List (Nat × Nat × Nat)} (hA : AtMost P cc) (hcc : e0 + cc < 1000000) (hN : Good N) (hF : InF P e0 N) : N.length < 1000000 := by
  have := inF_le hA hN hF
  omega
theorem InF.last {P : ((Nat → Bool) → Bool) → Prop} {e0 p : Nat} {N M : List (Nat × Nat × Nat)} {S : ((Nat → Bool) → Bool)} (h : InF P e0 N) (hM : M = [] ∨ ∃ x, M = [x] ∧ p = N.length + 2) (hv : ∀ ρ, val3 ρ (N ++ M) p = S ρ) (hS : P S) : InF P e0 (N ++ M) := by
  rcases hM with rfl | ⟨x, rfl, rfl⟩
  · rw [List.append_nil]; exact h
  · intro i h1 h2
    rw [List.length_append, List.length_singleton] at h2
    rcases Nat.lt_or_ge i N.length with hi | hi
    · have := h i h1 hi
      rw [show (fun ρ => val3 ρ (N ++ [x]) (i + 2)) = fun ρ => val3 ρ N (i + 2) from funext fun ρ => val3_app ρ N (by omega) _]
      exact this
    · have e : i = N.length := by omega
      subst e
      rw [show (fun ρ => val3 ρ (N ++ [x]) (N.length + 2)) = S from funext hv]
      exact hS
end Go.Proofs.YtlnedapimmabdaaGreatDoor
