/- Networks of gates: cleaning, reaching, packing. The values of gates; cleaning keeps them. A step of the cleaning, and all of them. Reaching and packing. Cleaning a cleaned network changes nothing. Reducing a network: gates with equal tables are joined. The program's join is that of the law; tables of six variables. The error of a network of any numbers. Differences of tables; the first values of a table. Texts of numbers with a sign between them tell the numbers. -/
import Derived.Test.YtlnedapimmabdaaGreatDoorPl
import Derived.Lib.ItoaLen
namespace Go.Proofs.YtlnedapimmabdaaGreatDoor
set_option linter.unusedVariables false
set_option linter.unusedSimpArgs false

abbrev Gt := Nat × Nat × List Nat
def gtAt (l : List Gt) (i : Nat) : Gt := l.getD i (0, 0, [])
def kd (l : List Gt) (i : Nat) : Nat := (gtAt l i).1
def hd1 (l : List Gt) (i : Nat) : Nat := (gtAt l i).2.2.headD 0
def decK (k : Nat) : Nat := if k = 4 then 6 else 5
def neuK (k : Nat) : Nat := if k = 4 then 5 else 6
def findG (l : List Gt) (g : Gt) : List Gt × Nat := if g ∈ l then (l, l.idxOf g) else (l ++ [g], l.length)
def restG (l : List Gt) (k : Nat) (ins : List Nat) : List Nat := (List.range l.length).filter fun i => decide (i ∈ ins) && decide (kd l i ≠ neuK k)
def stopsG (l : List Gt) (k : Nat) (R : List Nat) (i : Nat) : Bool := decide (kd l i = decK k) || (decide (kd l i = 2) && decide (hd1 l i ∈ R))
def joinG (l : List Gt) (k : Nat) (ins : List Nat) : List Gt × Nat :=
  if (restG l k ins).any (stopsG l k (restG l k ins)) then findG l (decK k, 0, [])
  else match restG l k ins with
    | [] => findG l (neuK k, 0, [])
    | [i] => (l, i)
    | _ => findG l (k, 0, restG l k ins)
def stepG (l : List Gt) (st : List Nat) (g : Gt) : List Gt × Nat :=
  if g.1 = 3 ∨ g.1 = 4 then joinG l g.1 (g.2.2.map fun k => st.getD k 0)
  else if g.1 ≠ 2 then findG l (g.1, g.2.1, [])
  else if kd l (st.getD (g.2.2.headD 0) 0) = 5 ∨ kd l (st.getD (g.2.2.headD 0) 0) = 6 then findG l (11 - kd l (st.getD (g.2.2.headD 0) 0), 0, [])
  else if kd l (st.getD (g.2.2.headD 0) 0) = 2 then (l, hd1 l (st.getD (g.2.2.headD 0) 0))
  else findG l (2, 0, [st.getD (g.2.2.headD 0) 0])
def foldG : List Gt → List Gt × List Nat → List Gt × List Nat
  | [], s => s
  | g :: r, s => foldG r ((stepG s.1 s.2 g).1, s.2 ++ [(stepG s.1 s.2 g).2])
theorem foldG_app : ∀ (a b : List Gt) (s : List Gt × List Nat), foldG (a ++ b) s = foldG b (foldG a s)
  | [], _, _ => rfl
  | _ :: r, b, _ => foldG_app r b _
def backG (G : List Gt) : Nat → (Nat → Bool) → (Nat → Bool)
  | 0, m => m
  | c + 1, m => backG G c (if m c then fun j => m j || decide (j ∈ (gtAt G c).2.2) else m)
def reachG (G : List Gt) (outs : List Nat) : Nat → Bool := backG G G.length (fun j => decide (j ∈ outs))
def packF (on : Nat → Bool) : List Gt → List Gt × List Nat → List Gt × List Nat
  | [], s => s
  | g :: r, s => packF on r (if on s.2.length then (s.1 ++ [(g.1, g.2.1, g.2.2.map fun k => s.2.getD k 0)], s.2 ++ [s.1.length]) else (s.1, s.2 ++ [0]))
theorem packF_app (on : Nat → Bool) : ∀ (a b : List Gt) (s : List Gt × List Nat), packF on (a ++ b) s = packF on b (packF on a s)
  | [], _, _ => rfl
  | _ :: r, b, _ => packF_app on r b _
abbrev Nt := List Gt × List Nat
def packG (n : Nt) : Nt := ((packF (reachG n.1 n.2) n.1 ([], [])).1, n.2.map fun o => (packF (reachG n.1 n.2) n.1 ([], [])).2.getD o 0)
def cleanG (n : Nt) : Nt := packG ((foldG n.1 ([], [])).1, n.2.map fun o => (foldG n.1 ([], [])).2.getD o 0)
def okG (v i : Nat) (g : Gt) : Prop :=
  (g.1 = 1 ∧ g.2.1 < v ∧ g.2.2 = []) ∨ (g.1 = 2 ∧ g.2.1 = 0 ∧ ∃ k, g.2.2 = [k] ∧ k < i) ∨ ((g.1 = 3 ∨ g.1 = 4) ∧ g.2.1 = 0 ∧ ∀ k ∈ g.2.2, k < i) ∨ ((g.1 = 5 ∨ g.1 = 6) ∧ g.2.1 = 0 ∧ g.2.2 = [])
def okL (v : Nat) (G : List Gt) : Prop := ∀ i g, G[i]? = some g → okG v i g
def okN (v : Nat) (n : Nt) : Prop := okL v n.1 ∧ ∀ o ∈ n.2, o < n.1.length
theorem okG_ins {v i : Nat} {g : Gt} (h : okG v i g) : ∀ k ∈ g.2.2, k < i := by
  intro k hk
  rcases h with ⟨_, _, e⟩ | ⟨_, _, j, e, hj⟩ | ⟨_, _, h⟩ | ⟨_, _, e⟩
  · rw [e] at hk; cases hk
  · rw [e] at hk
    rw [List.mem_singleton.1 hk]
    exact hj
  · exact h k hk
  · rw [e] at hk; cases hk
theorem okG_mono {v i j : Nat} {g : Gt} (h : okG v i g) (hij : i ≤ j) : okG v j g := by
  rcases h with h | ⟨a, b, k, e, hj⟩ | ⟨a, b, h⟩ | h
  · exact .inl h
  · exact .inr (.inl ⟨a, b, k, e, by omega⟩)
  · exact .inr (.inr (.inl ⟨a, b, fun k hk => Nat.lt_of_lt_of_le (h k hk) hij⟩))
  · exact .inr (.inr (.inr h))
theorem okL_nil (v : Nat) : okL v [] := fun i g h => by simp at h
theorem okL_snoc {v : Nat} {l : List Gt} {g : Gt} (h : okL v l) (hg : okG v l.length g) : okL v (l ++ [g]) := by
  intro i x hx
  rcases Nat.lt_or_ge i l.length with hi | hi
  · rw [List.getElem?_append_left hi] at hx
    exact h i x hx
  · rw [List.getElem?_append_right hi] at hx
    have hi2 : i = l.length := by
      rcases Nat.lt_or_ge (i - l.length) 1 with h1 | h1
      · omega
      · rw [List.getElem?_eq_none (by simpa using h1)] at hx; cases hx
    subst hi2
    rw [Nat.sub_self] at hx
    injection hx with hx
    rw [← hx]
    exact hg
theorem gtAt_some {l : List Gt} {i : Nat} {g : Gt} (h : l[i]? = some g) : gtAt l i = g := by
  unfold gtAt
  rw [List.getD_eq_getElem?_getD, h]
  rfl
theorem gtAt_get {l : List Gt} {i : Nat} (h : i < l.length) : l[i]? = some (gtAt l i) := by
  unfold gtAt
  rw [List.getD_eq_getElem?_getD, List.getElem?_eq_getElem h]
  rfl
theorem gtAt_app {l : List Gt} {i : Nat} (h : i < l.length) (m : List Gt) : gtAt (l ++ m) i = gtAt l i := gtAt_some (by rw [List.getElem?_append_left h, gtAt_get h])
theorem gtAt_new (l : List Gt) (g : Gt) : gtAt (l ++ [g]) l.length = g := gtAt_some (by rw [List.getElem?_append_right (Nat.le_refl _), Nat.sub_self]; rfl)
theorem findG_spec {v : Nat} {l : List Gt} {g : Gt} (h : okL v l) (hn : l.Nodup) (hg : okG v l.length g) :
    okL v (findG l g).1 ∧ (findG l g).1.Nodup ∧ (∃ r, (findG l g).1 = l ++ r) ∧ (findG l g).2 < (findG l g).1.length ∧ gtAt (findG l g).1 (findG l g).2 = g := by
  unfold findG
  split
  · rename_i hm
    have hlt := List.idxOf_lt_length_of_mem hm
    refine ⟨h, hn, ⟨[], by simp⟩, hlt, gtAt_some ?_⟩
    rw [List.getElem?_eq_getElem hlt, List.getElem_idxOf hlt]
  · rename_i hm
    refine ⟨okL_snoc h hg, ?_, ⟨[g], rfl⟩, by simp, gtAt_new l g⟩
    rw [List.nodup_append]
    refine ⟨hn, by simp, fun a ha b hb => ?_⟩
    rw [List.mem_singleton.1 hb]
    intro e
    exact hm (e ▸ ha)
end Go.Proofs.YtlnedapimmabdaaGreatDoor

namespace Go.Proofs.YtlnedapimmabdaaGreatDoor
set_option linter.unusedVariables false
set_option linter.unusedSimpArgs false

def ev1 (ρ : Nat → Bool) (f : Nat → Bool) (g : Gt) : Bool :=
  if g.1 = 1 then ρ g.2.1 else if g.1 = 2 then !f (g.2.2.headD 0) else if g.1 = 3 then g.2.2.all f else if g.1 = 4 then g.2.2.any f else decide (g.1 = 6)
def valsG (ρ : Nat → Bool) (l : List Gt) : List Bool := l.foldl (fun vs g => vs ++ [ev1 ρ (fun k => vs.getD k false) g]) []
theorem valsG_snoc (ρ : Nat → Bool) (l : List Gt) (g : Gt) : valsG ρ (l ++ [g]) = valsG ρ l ++ [ev1 ρ (fun k => (valsG ρ l).getD k false) g] := by
  unfold valsG
  rw [List.foldl_append]
  rfl
theorem snocI {α : Type} {p : List α → Prop} (h0 : p []) (h1 : ∀ l x, p l → p (l ++ [x])) : ∀ l, p l := by
  have h : ∀ n (l : List α), l.length = n → p l := by
    intro n
    induction n with
    | zero => intro l hl; rw [List.length_eq_zero_iff.1 hl]; exact h0
    | succ n ih =>
      intro l hl
      have hne : l ≠ [] := fun e => by rw [e] at hl; cases hl
      rw [← List.dropLast_concat_getLast hne]
      exact h1 _ _ (ih _ (by rw [List.length_dropLast]; omega))
  exact fun l => h l.length l rfl
theorem valsG_len (ρ : Nat → Bool) : ∀ l, (valsG ρ l).length = l.length := snocI rfl fun l g ih => by rw [valsG_snoc, List.length_append, ih, List.length_append]; rfl
def vl (ρ : Nat → Bool) (l : List Gt) (i : Nat) : Bool := (valsG ρ l).getD i false
theorem getDl {α : Type} {l r : List α} {p : Nat} (h : p < l.length) (d : α) : (l ++ r).getD p d = l.getD p d := by
  rw [List.getD_eq_getElem?_getD, List.getD_eq_getElem?_getD, List.getElem?_append_left h]
theorem vl_app (ρ : Nat → Bool) (l : List Gt) {i : Nat} (h : i < l.length) : ∀ r, vl ρ (l ++ r) i = vl ρ l i := snocI (by rw [List.append_nil]) fun r g ih => by
  rw [← ih, ← List.append_assoc]
  unfold vl
  rw [valsG_snoc, getDl (by rw [valsG_len, List.length_append]; omega)]
theorem vl_new (ρ : Nat → Bool) (l : List Gt) (g : Gt) : vl ρ (l ++ [g]) l.length = ev1 ρ (vl ρ l) g := by
  show (valsG ρ (l ++ [g])).getD l.length false = _
  rw [valsG_snoc, List.getD_eq_getElem?_getD, List.getElem?_append_right (by rw [valsG_len]; omega), valsG_len, Nat.sub_self]
  rfl
theorem all_congr {α : Type} {f g : α → Bool} : ∀ {l : List α}, (∀ x ∈ l, f x = g x) → l.all f = l.all g
  | [], _ => rfl
  | x :: r, h => by rw [List.all_cons, List.all_cons, h x (List.mem_cons_self ..), all_congr fun y hy => h y (List.mem_cons_of_mem _ hy)]
theorem any_congr {α : Type} {f g : α → Bool} : ∀ {l : List α}, (∀ x ∈ l, f x = g x) → l.any f = l.any g
  | [], _ => rfl
  | x :: r, h => by rw [List.any_cons, List.any_cons, h x (List.mem_cons_self ..), any_congr fun y hy => h y (List.mem_cons_of_mem _ hy)]
theorem ev1_congr {ρ : Nat → Bool} {f f' : Nat → Bool} {v i : Nat} {g : Gt} (hg : okG v i g) (h : ∀ k ∈ g.2.2, f k = f' k) : ev1 ρ f g = ev1 ρ f' g := by
  unfold ev1
  rw [all_congr h, any_congr h]
  by_cases h2 : g.1 = 2
  · rcases hg with ⟨e, _⟩ | ⟨_, _, k, e, _⟩ | ⟨e, _⟩ | ⟨e, _⟩
    · omega
    · rw [e] at h ⊢
      rw [List.headD_cons, h k (List.mem_cons_self ..)]
    · omega
    · omega
  · rw [if_neg h2, if_neg h2]
theorem vl_at {v : Nat} {l : List Gt} (ho : okL v l) (ρ : Nat → Bool) {i : Nat} (h : i < l.length) : vl ρ l i = ev1 ρ (vl ρ l) (gtAt l i) := by
  have hg := gtAt_get h
  have hlen : (l.take i).length = i := by rw [List.length_take]; omega
  have hsplit : l = (l.take i ++ [gtAt l i]) ++ l.drop (i + 1) := by
    have e : l.drop i = gtAt l i :: l.drop (i + 1) := by
      rw [List.drop_eq_getElem_cons h]
      congr 1
      have := List.getElem?_eq_getElem h
      rw [hg] at this
      injection this with this
      exact this.symm
    rw [List.append_assoc, List.singleton_append, ← e, List.take_append_drop]
  have hv : vl ρ l i = ev1 ρ (vl ρ (l.take i)) (gtAt l i) := by
    have := vl_new ρ (l.take i) (gtAt l i)
    rw [hlen] at this
    rw [← this]
    conv => lhs; rw [hsplit]
    exact vl_app ρ _ (by rw [List.length_append, hlen]; simp) _
  rw [hv]
  refine ev1_congr (ho i _ hg) fun k hk => ?_
  have hki := okG_ins (ho i _ hg) k hk
  conv => rhs; rw [← List.take_append_drop i l]
  exact (vl_app ρ _ (by rw [hlen]; exact hki) _).symm
def comb (k : Nat) (f : Nat → Bool) (L : List Nat) : Bool := if k = 3 then L.all f else L.any f
theorem kd_val {v : Nat} {l : List Gt} (ho : okL v l) (ρ : Nat → Bool) {i : Nat} (h : i < l.length) : (kd l i = 5 → vl ρ l i = false) ∧ (kd l i = 6 → vl ρ l i = true) ∧ (kd l i = 2 → vl ρ l i = !vl ρ l (hd1 l i)) := by
  unfold kd hd1
  refine ⟨fun e => ?_, fun e => ?_, fun e => ?_⟩ <;> rw [vl_at ho ρ h, ev1, e] <;> simp
theorem mem_rest {l : List Gt} {k : Nat} {ins : List Nat} {i : Nat} : i ∈ restG l k ins ↔ i < l.length ∧ i ∈ ins ∧ kd l i ≠ neuK k := by
  unfold restG
  rw [List.mem_filter, List.mem_range]
  simp
theorem comb_rest {v : Nat} {l : List Gt} (ho : okL v l) (ρ : Nat → Bool) {k : Nat} (hk : k = 3 ∨ k = 4) {ins : List Nat} (hi : ∀ i ∈ ins, i < l.length) : comb k (vl ρ l) ins = comb k (vl ρ l) (restG l k ins) := by
  rcases hk with rfl | rfl
  · unfold comb
    rw [if_pos rfl, if_pos rfl, Bool.eq_iff_iff, List.all_eq_true, List.all_eq_true]
    refine ⟨fun h i hm => h i (mem_rest.1 hm).2.1, fun h i hm => ?_⟩
    by_cases hn : kd l i = neuK 3
    · exact (kd_val ho ρ (hi i hm)).2.1 hn
    · exact h i (mem_rest.2 ⟨hi i hm, hm, hn⟩)
  · unfold comb
    rw [if_neg (by decide), if_neg (by decide), Bool.eq_iff_iff, List.any_eq_true, List.any_eq_true]
    refine ⟨fun ⟨i, hm, hv⟩ => ⟨i, mem_rest.2 ⟨hi i hm, hm, fun hn => ?_⟩, hv⟩, fun ⟨i, hm, hv⟩ => ⟨i, (mem_rest.1 hm).2.1, hv⟩⟩
    have := (kd_val ho ρ (hi i hm)).1 hn
    rw [this] at hv
    cases hv
theorem comb_stop {v : Nat} {l : List Gt} (ho : okL v l) (ρ : Nat → Bool) {k : Nat} (hk : k = 3 ∨ k = 4) {R : List Nat} (hR : ∀ i ∈ R, i < l.length) (h : R.any (stopsG l k R) = true) : comb k (vl ρ l) R = decide (decK k = 6) := by
  obtain ⟨i, hi, hs⟩ := List.any_eq_true.1 h
  unfold stopsG at hs
  rw [Bool.or_eq_true, Bool.and_eq_true, decide_eq_true_eq, decide_eq_true_eq, decide_eq_true_eq] at hs
  obtain ⟨v5, v6, v2⟩ := kd_val ho ρ (hR i hi)
  rcases hk with rfl | rfl
  · have hex : ∃ j ∈ R, vl ρ l j = false := by
      rcases hs with hs | ⟨hs, hm⟩
      · exact ⟨i, hi, v5 hs⟩
      · cases hv : vl ρ l i
        · exact ⟨i, hi, hv⟩
        · refine ⟨_, hm, ?_⟩
          have := v2 hs
          rw [hv] at this
          cases hh : vl ρ l (hd1 l i)
          · rfl
          · rw [hh] at this; cases this
    obtain ⟨j, hj, hv⟩ := hex
    unfold comb
    rw [if_pos rfl, show decide (decK 3 = 6) = false by decide]
    cases ha : R.all (vl ρ l)
    · rfl
    · have := List.all_eq_true.1 ha j hj
      rw [hv] at this
      cases this
  · have hex : ∃ j ∈ R, vl ρ l j = true := by
      rcases hs with hs | ⟨hs, hm⟩
      · exact ⟨i, hi, v6 hs⟩
      · cases hv : vl ρ l i
        · refine ⟨_, hm, ?_⟩
          have := v2 hs
          rw [hv] at this
          cases hh : vl ρ l (hd1 l i)
          · rw [hh] at this; cases this
          · rfl
        · exact ⟨i, hi, hv⟩
    obtain ⟨j, hj, hv⟩ := hex
    unfold comb
    rw [if_neg (by decide), show decide (decK 4 = 6) = true by decide]
    exact List.any_eq_true.2 ⟨j, hj, hv⟩
end Go.Proofs.YtlnedapimmabdaaGreatDoor

namespace Go.Proofs.YtlnedapimmabdaaGreatDoor
set_option linter.unusedVariables false
set_option linter.unusedSimpArgs false

def IrrG (l : List Gt) (g : Gt) : Prop := (g.1 = 2 → kd l (g.2.2.headD 0) ≠ 2 ∧ kd l (g.2.2.headD 0) ≠ 5 ∧ kd l (g.2.2.headD 0) ≠ 6) ∧
  (g.1 = 3 ∨ g.1 = 4 → g.2.2.Pairwise (· < ·) ∧ (∀ j ∈ g.2.2, kd l j ≠ neuK g.1) ∧ g.2.2.any (stopsG l g.1 g.2.2) = false ∧ 2 ≤ g.2.2.length)
def Irr (l : List Gt) : Prop := ∀ (i : Nat) (g : Gt), l[i]? = some g → IrrG l g
theorem kd_app {l : List Gt} {i : Nat} (h : i < l.length) (r : List Gt) : kd (l ++ r) i = kd l i ∧ hd1 (l ++ r) i = hd1 l i := by
  unfold kd hd1
  rw [gtAt_app h]
  exact ⟨rfl, rfl⟩
theorem stops_app {l : List Gt} {k : Nat} {R : List Nat} {i : Nat} (h : i < l.length) (r : List Gt) : stopsG (l ++ r) k R i = stopsG l k R i := by
  unfold stopsG
  rw [(kd_app h r).1, (kd_app h r).2]
theorem irrG_app {v : Nat} {l : List Gt} {g : Gt} (hg : okG v l.length g) (h : IrrG l g) (r : List Gt) : IrrG (l ++ r) g := by
  have hin := okG_ins hg
  refine ⟨fun e => ?_, fun e => ?_⟩
  · rcases hg with ⟨e1, _⟩ | ⟨_, _, k, e1, hk⟩ | ⟨e1, _⟩ | ⟨e1, _⟩
    · omega
    · have h1 := h.1 e
      rw [e1] at h1 ⊢
      rw [List.headD_cons] at h1 ⊢
      rw [(kd_app hk r).1]
      exact h1
    · omega
    · omega
  · obtain ⟨h1, h2, h3, h4⟩ := h.2 e
    refine ⟨h1, fun j hj => ?_, ?_, h4⟩
    · rw [(kd_app (hin j hj) r).1]
      exact h2 j hj
    · rw [any_congr fun j hj => stops_app (hin j hj) r]
      exact h3
theorem irr_nil : Irr [] := fun i g h => by simp at h
theorem irr_snoc {v : Nat} {l : List Gt} {g : Gt} (ho : okL v l) (h : Irr l) (hg : okG v l.length g) (hi : IrrG l g) : Irr (l ++ [g]) := by
  intro i x hx
  rcases Nat.lt_or_ge i l.length with hl | hl
  · rw [List.getElem?_append_left hl] at hx
    exact irrG_app (okG_mono (ho i x hx) (Nat.le_of_lt hl)) (h i x hx) [g]
  · rw [List.getElem?_append_right hl] at hx
    rcases Nat.lt_or_ge (i - l.length) 1 with h1 | h1
    · rw [show i - l.length = 0 by omega] at hx
      injection hx with hx
      rw [← hx]
      exact irrG_app hg hi [g]
    · rw [List.getElem?_eq_none (by simpa using h1)] at hx; cases hx
structure StepOk (v : Nat) (l l' : List Gt) (a : Nat) : Prop where
  ok : okL v l'
  nd : l'.Nodup
  irr : Irr l'
  pre : ∃ r, l' = l ++ r ∧ r.length ≤ 1
  lt : a < l'.length
theorem findG_step {v : Nat} {l : List Gt} {g : Gt} (ho : okL v l) (hn : l.Nodup) (hi : Irr l) (hg : okG v l.length g) (hgi : IrrG l g) :
    StepOk v l (findG l g).1 (findG l g).2 ∧ gtAt (findG l g).1 (findG l g).2 = g := by
  obtain ⟨h1, h2, h3, h4, h5⟩ := findG_spec ho hn hg
  refine ⟨⟨h1, h2, ?_, ?_, h4⟩, h5⟩
  · unfold findG
    split
    · exact hi
    · exact irr_snoc ho hi hg hgi
  · unfold findG
    split
    · exact ⟨[], by simp, by simp⟩
    · exact ⟨[g], rfl, by simp⟩
theorem step_same {v : Nat} {l : List Gt} (ho : okL v l) (hn : l.Nodup) (hi : Irr l) {a : Nat} (ha : a < l.length) : StepOk v l l a := ⟨ho, hn, hi, ⟨[], by simp, by simp⟩, ha⟩
theorem StepOk.vl {v : Nat} {l l' : List Gt} {a : Nat} (h : StepOk v l l' a) (ρ : Nat → Bool) {i : Nat} (hi : i < l.length) : vl ρ l' i = vl ρ l i := by
  obtain ⟨r, e, _⟩ := h.pre
  rw [e]
  exact vl_app ρ l hi r
theorem find_vl {v : Nat} {l : List Gt} {g : Gt} (ho : okL v l) (hn : l.Nodup) (hi : Irr l) (hg : okG v l.length g) (hgi : IrrG l g) (ρ : Nat → Bool) : vl ρ (findG l g).1 (findG l g).2 = ev1 ρ (vl ρ l) g := by
  obtain ⟨h, e⟩ := findG_step ho hn hi hg hgi
  rw [vl_at h.ok ρ h.lt, e]
  exact ev1_congr hg fun k hk => h.vl ρ (okG_ins hg k hk)
theorem okG_const {v i k : Nat} (h : k = 5 ∨ k = 6) : okG v i (k, 0, []) := .inr (.inr (.inr ⟨h, rfl, rfl⟩))
theorem irrG_const {l : List Gt} {k a : Nat} (h2 : k ≠ 2) (h3 : k ≠ 3) (h4 : k ≠ 4) : IrrG l (k, a, []) := ⟨fun e => absurd e h2, fun e => by rcases e with e | e; exact absurd e h3; exact absurd e h4⟩
theorem rest_sorted (l : List Gt) (k : Nat) (ins : List Nat) : (restG l k ins).Pairwise (· < ·) := List.Pairwise.filter _ List.pairwise_lt_range
theorem decK_or (k : Nat) : decK k = 5 ∨ decK k = 6 := by unfold decK; split <;> simp
theorem neuK_or (k : Nat) : neuK k = 5 ∨ neuK k = 6 := by unfold neuK; split <;> simp
theorem joinG_step {v : Nat} {l : List Gt} (ho : okL v l) (hn : l.Nodup) (hi : Irr l) {k : Nat} (hk : k = 3 ∨ k = 4) {ins : List Nat} (hin : ∀ i ∈ ins, i < l.length) :
    StepOk v l (joinG l k ins).1 (joinG l k ins).2 ∧ ∀ ρ, vl ρ (joinG l k ins).1 (joinG l k ins).2 = comb k (vl ρ l) ins := by
  have hR : ∀ i ∈ restG l k ins, i < l.length := fun i hm => (mem_rest.1 hm).1
  have hval : ∀ c a : Nat, ∀ ρ : Nat → Bool, ev1 ρ (vl ρ l) (c, a, []) = (if c = 1 then ρ a else if c = 2 then !(vl ρ l 0) else if c = 3 then true else if c = 4 then false else decide (c = 6)) := fun c a ρ => by unfold ev1; simp
  unfold joinG
  split
  · rename_i hs
    have hc := decK_or k
    have hir : IrrG l (decK k, 0, []) := irrG_const (by omega) (by omega) (by omega)
    refine ⟨(findG_step ho hn hi (okG_const hc) hir).1, fun ρ => ?_⟩
    rw [find_vl ho hn hi (okG_const hc) hir, comb_rest ho ρ hk hin, comb_stop ho ρ hk hR hs, hval, if_neg (by omega), if_neg (by omega), if_neg (by omega), if_neg (by omega)]
  · rename_i hs
    have hs' : (restG l k ins).any (stopsG l k (restG l k ins)) = false := by simpa using hs
    have hcr := fun ρ => comb_rest ho ρ hk hin
    split
    · rename_i hr
      have hc := neuK_or k
      have hir : IrrG l (neuK k, 0, []) := irrG_const (by omega) (by omega) (by omega)
      refine ⟨(findG_step ho hn hi (okG_const hc) hir).1, fun ρ => ?_⟩
      rw [find_vl ho hn hi (okG_const hc) hir, hcr, hr, hval, if_neg (by omega), if_neg (by omega), if_neg (by omega), if_neg (by omega)]
      rcases hk with rfl | rfl <;> rfl
    · rename_i i hr
      have hil : i < l.length := hR i (by rw [hr]; exact List.mem_singleton.2 rfl)
      refine ⟨step_same ho hn hi hil, fun ρ => ?_⟩
      rw [hcr, hr]
      unfold comb
      split <;> simp
    · rename_i hr0 hr1
      have hg : okG v l.length (k, 0, restG l k ins) := .inr (.inr (.inl ⟨hk, rfl, hR⟩))
      have hlen : 2 ≤ (restG l k ins).length := by
        match h : restG l k ins with
        | [] => exact absurd h (hr0)
        | [i] => exact absurd h (hr1 i)
        | _ :: _ :: r => simp
      have hir : IrrG l (k, 0, restG l k ins) := ⟨fun e => by have : k = 2 := e; omega, fun _ => ⟨rest_sorted l k ins, fun j hj => (mem_rest.1 hj).2.2, hs', hlen⟩⟩
      refine ⟨(findG_step ho hn hi hg hir).1, fun ρ => ?_⟩
      rw [find_vl ho hn hi hg hir, hcr]
      unfold ev1 comb
      rcases hk with rfl | rfl <;> simp
theorem stepG_step {v i : Nat} {l : List Gt} (ho : okL v l) (hn : l.Nodup) (hi : Irr l) {st : List Nat} {g : Gt} (hg : okG v i g) (hst : ∀ k ∈ g.2.2, st.getD k 0 < l.length) :
    StepOk v l (stepG l st g).1 (stepG l st g).2 ∧ ∀ ρ, vl ρ (stepG l st g).1 (stepG l st g).2 = ev1 ρ (fun k => vl ρ l (st.getD k 0)) g := by
  unfold stepG
  split
  · rename_i hk
    obtain ⟨h1, h2⟩ := joinG_step ho hn hi hk (ins := g.2.2.map fun k => st.getD k 0) (fun j hj => by
      obtain ⟨k, hm, rfl⟩ := List.mem_map.1 hj
      exact hst k hm)
    refine ⟨h1, fun ρ => ?_⟩
    rw [h2]
    unfold comb ev1
    rcases hk with e | e <;> rw [e] <;> simp [List.all_map, List.any_map, Function.comp_def]
  · rename_i hk
    split
    · rename_i h2
      have hgi : g.2.2 = [] := by
        rcases hg with ⟨_, _, e⟩ | ⟨e, _⟩ | ⟨e, _⟩ | ⟨_, _, e⟩
        · exact e
        · exact absurd e h2
        · exact absurd e hk
        · exact e
      have hok : okG v l.length (g.1, g.2.1, []) := by
        rcases hg with ⟨e1, e2, _⟩ | ⟨e, _⟩ | ⟨e, _⟩ | ⟨e1, e2, _⟩
        · exact .inl ⟨e1, e2, rfl⟩
        · exact absurd e h2
        · exact absurd e hk
        · exact .inr (.inr (.inr ⟨e1, e2, rfl⟩))
      have hir : IrrG l (g.1, g.2.1, []) := irrG_const h2 (fun e => hk (.inl e)) (fun e => hk (.inr e))
      refine ⟨(findG_step ho hn hi hok hir).1, fun ρ => ?_⟩
      rw [find_vl ho hn hi hok hir]
      unfold ev1
      rw [hgi]
      have h3 : g.1 ≠ 3 := fun e => hk (.inl e)
      have h4 : g.1 ≠ 4 := fun e => hk (.inr e)
      simp [h2, h3, h4]
    · rename_i h2
      have h2' : g.1 = 2 := by omega
      obtain ⟨k, e, hki⟩ : ∃ k, g.2.2 = [k] ∧ k < i := by
        rcases hg with ⟨e, _⟩ | ⟨_, _, h⟩ | ⟨e, _⟩ | ⟨e, _⟩
        · omega
        · exact h
        · omega
        · omega
      have hal := hst k (by rw [e]; exact List.mem_singleton.2 rfl)
      have hev : ∀ ρ, ev1 ρ (fun k => vl ρ l (st.getD k 0)) g = !vl ρ l (st.getD k 0) := fun ρ => by unfold ev1; rw [h2', e]; simp
      rw [e, List.headD_cons]
      obtain ⟨a, ha⟩ : ∃ a, st.getD k 0 = a := ⟨_, rfl⟩
      rw [ha] at hal hev ⊢
      split
      · rename_i hc
        have hcc : 11 - kd l a = 5 ∨ 11 - kd l a = 6 := by omega
        have hir : IrrG l (11 - kd l a, 0, []) := irrG_const (by omega) (by omega) (by omega)
        refine ⟨(findG_step ho hn hi (okG_const hcc) hir).1, fun ρ => ?_⟩
        rw [find_vl ho hn hi (okG_const hcc) hir, hev]
        obtain ⟨v5, v6, _⟩ := kd_val ho ρ hal
        rcases hc with hc | hc
        · rw [v5 hc, hc]; rfl
        · rw [v6 hc, hc]; rfl
      · rename_i hc
        split
        · rename_i hc2
          have hga := ho a _ (gtAt_get hal)
          have hh : hd1 l a < l.length := by
            rcases hga with ⟨e1, _⟩ | ⟨_, _, j, e1, hj⟩ | ⟨e1, _⟩ | ⟨e1, _⟩
            · have : kd l a = 1 := e1
              omega
            · unfold hd1
              rw [e1]
              exact Nat.lt_trans hj hal
            · have : kd l a = 3 ∨ kd l a = 4 := e1
              omega
            · have : kd l a = 5 ∨ kd l a = 6 := e1
              omega
          refine ⟨step_same ho hn hi hh, fun ρ => ?_⟩
          rw [hev, (kd_val ho ρ hal).2.2 hc2, Bool.not_not]
        · rename_i hc2
          have hok : okG v l.length (2, 0, [a]) := .inr (.inl ⟨rfl, rfl, a, rfl, hal⟩)
          have hir : IrrG l (2, 0, [a]) := ⟨fun _ => ⟨hc2, fun e => hc (.inl e), fun e => hc (.inr e)⟩, fun e => by rcases e with e | e <;> exact absurd e (by simp)⟩
          refine ⟨(findG_step ho hn hi hok hir).1, fun ρ => ?_⟩
          rw [find_vl ho hn hi hok hir, hev]
          unfold ev1
          simp
structure FoldOk (v : Nat) (G : List Gt) (l : List Gt) (st : List Nat) : Prop where
  ok : okL v l
  nd : l.Nodup
  irr : Irr l
  len : st.length = G.length
  le : l.length ≤ G.length
  lt : ∀ (i a : Nat), st[i]? = some a → a < l.length
  val : ∀ (ρ : Nat → Bool) (i : Nat), i < G.length → vl ρ l (st.getD i 0) = vl ρ G i
theorem foldG_ok {v : Nat} : ∀ {G : List Gt}, okL v G → FoldOk v G (foldG G ([], [])).1 (foldG G ([], [])).2 := by
  intro G
  induction G using snocI with
  | h0 => exact fun _ => ⟨okL_nil v, List.nodup_nil, irr_nil, rfl, Nat.le_refl _, fun i a h => by simp [foldG] at h, fun ρ i h => by simp at h⟩
  | h1 G g ih =>
    intro hG
    have hG' : okL v G := fun i x hx => hG i x (by rw [List.getElem?_append_left (List.getElem?_eq_some_iff.1 hx).1, hx])
    have hg : okG v G.length g := hG G.length g (by rw [List.getElem?_append_right (Nat.le_refl _), Nat.sub_self]; rfl)
    have h := ih hG'
    rw [foldG_app]
    obtain ⟨s, hs⟩ : ∃ s, foldG G ([], []) = s := ⟨_, rfl⟩
    rw [hs] at h ⊢
    obtain ⟨l, st⟩ := s
    dsimp only at h
    show FoldOk v (G ++ [g]) (stepG l st g).1 (st ++ [(stepG l st g).2])
    have hget : ∀ k, k < G.length → ∃ a, st[k]? = some a ∧ st.getD k 0 = a ∧ a < l.length := fun k hk => by
      have hk2 : k < st.length := by rw [h.len]; exact hk
      refine ⟨st[k], List.getElem?_eq_getElem hk2, ?_, h.lt k _ (List.getElem?_eq_getElem hk2)⟩
      rw [List.getD_eq_getElem?_getD, List.getElem?_eq_getElem hk2]
      rfl
    have hst : ∀ k ∈ g.2.2, st.getD k 0 < l.length := fun k hk => by
      obtain ⟨a, _, e, hl⟩ := hget k (okG_ins hg k hk)
      rw [e]
      exact hl
    obtain ⟨h1, h2⟩ := stepG_step h.ok h.nd h.irr hg hst
    obtain ⟨r, hr, hr1⟩ := h1.pre
    refine ⟨h1.ok, h1.nd, h1.irr, by rw [List.length_append, List.length_append, h.len]; rfl, ?_, fun i a ha => ?_, fun ρ i hi => ?_⟩
    · rw [hr, List.length_append, List.length_append, List.length_singleton]
      have := h.le
      omega
    · rcases Nat.lt_or_ge i st.length with hl | hl
      · rw [List.getElem?_append_left hl] at ha
        have := h.lt i a ha
        rw [hr, List.length_append]
        omega
      · rw [List.getElem?_append_right hl] at ha
        rcases Nat.lt_or_ge (i - st.length) 1 with h3 | h3
        · rw [show i - st.length = 0 by omega] at ha
          injection ha with ha
          rw [← ha]
          exact h1.lt
        · rw [List.getElem?_eq_none (by simpa using h3)] at ha; cases ha
    · rcases Nat.lt_or_ge i G.length with hl | hl
      · obtain ⟨a, _, e, hal⟩ := hget i hl
        rw [getDl (by rw [h.len]; exact hl), e, h1.vl ρ hal, vl_app ρ G hl, ← h.val ρ i hl, e]
      · have hi' : i = G.length := by rw [List.length_append, List.length_singleton] at hi; omega
        subst hi'
        rw [vl_new, ← h.len, List.getD_eq_getElem?_getD, List.getElem?_append_right (Nat.le_refl _), Nat.sub_self]
        show vl ρ (stepG l st g).1 (stepG l st g).2 = _
        rw [h2]
        exact ev1_congr hg fun k hk => h.val ρ k (okG_ins hg k hk)
end Go.Proofs.YtlnedapimmabdaaGreatDoor

namespace Go.Proofs.YtlnedapimmabdaaGreatDoor
set_option linter.unusedVariables false
set_option linter.unusedSimpArgs false

theorem backG_mono (G : List Gt) : ∀ (c : Nat) (m : Nat → Bool) (i : Nat), m i = true → backG G c m i = true
  | 0, _, _, h => h
  | c + 1, m, i, h => by
    rw [backG]
    refine backG_mono G c _ i ?_
    split
    · simp [h]
    · exact h
theorem backG_high {v : Nat} {G : List Gt} (ho : okL v G) : ∀ (c : Nat) (m : Nat → Bool) (i : Nat), c ≤ G.length → c ≤ i + 1 → backG G c m i = m i
  | 0, _, _, _, _ => rfl
  | c + 1, m, i, hc, hi => by
    rw [backG, backG_high ho c _ i (by omega) (by omega)]
    split
    · have hn : i ∉ (gtAt G c).2.2 := fun hm => by
        have := okG_ins (ho c _ (gtAt_get (by omega))) i hm
        omega
      show (m i || decide (i ∈ (gtAt G c).2.2)) = m i
      rw [decide_eq_false hn, Bool.or_false]
    · rfl
theorem backG_closed {v : Nat} {G : List Gt} (ho : okL v G) : ∀ (c : Nat) (m : Nat → Bool), c ≤ G.length → ∀ i k, i < c → backG G c m i = true → k ∈ (gtAt G i).2.2 → backG G c m k = true
  | 0, _, _, i, _, h, _, _ => by omega
  | c + 1, m, hc, i, k, hi, hb, hk => by
    rw [backG] at hb ⊢
    rcases Nat.lt_or_ge i c with h | h
    · exact backG_closed ho c _ (by omega) i k h hb hk
    · have hic : i = c := by omega
      subst hic
      rw [backG_high ho i _ i (by omega) (by omega)] at hb
      have hmi : m i = true := by
        split at hb
        · rename_i h; exact h
        · exact hb
      rw [if_pos hmi]
      exact backG_mono G i _ k (by simp [hk])
theorem reachG_outs (G : List Gt) (outs : List Nat) {o : Nat} (h : o ∈ outs) : reachG G outs o = true := backG_mono G _ _ o (decide_eq_true h)
theorem reachG_closed {v : Nat} {G : List Gt} (ho : okL v G) (outs : List Nat) {i k : Nat} (hi : i < G.length) (h : reachG G outs i = true) (hk : k ∈ (gtAt G i).2.2) : reachG G outs k = true :=
  backG_closed ho _ _ (Nat.le_refl _) i k hi h hk
theorem backG_least {G : List Gt} {P : Nat → Prop} (hP : ∀ i k, P i → k ∈ (gtAt G i).2.2 → P k) : ∀ (c : Nat) (m : Nat → Bool), (∀ i, m i = true → P i) → ∀ i, backG G c m i = true → P i
  | 0, _, hm, i, h => hm i h
  | c + 1, m, hm, i, h => by
    rw [backG] at h
    refine backG_least hP c _ (fun j hj => ?_) i h
    split at hj
    · rename_i hc
      rw [Bool.or_eq_true, decide_eq_true_eq] at hj
      rcases hj with hj | hj
      · exact hm j hj
      · exact hP c j (hm c hc) hj
    · exact hm j hj
structure PackOk (v : Nat) (on : Nat → Bool) (G : List Gt) (o : List Gt) (num : List Nat) : Prop where
  ok : okL v o
  len : num.length = G.length
  le : o.length ≤ G.length
  lt : ∀ (i : Nat), i < G.length → on i = true → num.getD i 0 < o.length
  at' : ∀ (i : Nat), i < G.length → on i = true → gtAt o (num.getD i 0) = ((gtAt G i).1, (gtAt G i).2.1, (gtAt G i).2.2.map fun k => num.getD k 0)
  mono : ∀ (i j : Nat), i < j → j < G.length → on i = true → on j = true → num.getD i 0 < num.getD j 0
  onto : ∀ (p : Nat), p < o.length → ∃ i, i < G.length ∧ on i = true ∧ num.getD i 0 = p
theorem getD_new {α : Type} (l : List α) (x d : α) : (l ++ [x]).getD l.length d = x := by
  rw [List.getD_eq_getElem?_getD, List.getElem?_append_right (Nat.le_refl _), Nat.sub_self]
  rfl
theorem map_num {num : List Nat} {x : Nat} {ins : List Nat} (h : ∀ k ∈ ins, k < num.length) : (ins.map fun k => (num ++ [x]).getD k 0) = ins.map fun k => num.getD k 0 :=
  List.map_congr_left fun k hk => getDl (h k hk) 0
theorem packF_ok {v : Nat} {on : Nat → Bool} : ∀ {G : List Gt}, okL v G → (∀ i k, i < G.length → on i = true → k ∈ (gtAt G i).2.2 → on k = true) → PackOk v on G (packF on G ([], [])).1 (packF on G ([], [])).2 := by
  intro G
  induction G using snocI with
  | h0 => exact fun _ _ => ⟨okL_nil v, rfl, Nat.le_refl _, fun i h => by simp at h, fun i h => by simp at h, fun i j _ h => by simp at h, fun p h => by simp [packF] at h⟩
  | h1 G g ih =>
    intro hG hcl
    have hG' : okL v G := fun i x hx => hG i x (by rw [List.getElem?_append_left (List.getElem?_eq_some_iff.1 hx).1, hx])
    have hg : okG v G.length g := hG G.length g (by rw [List.getElem?_append_right (Nat.le_refl _), Nat.sub_self]; rfl)
    have h := ih hG' (fun i k hi ho hk => hcl i k (by rw [List.length_append]; omega) ho (by rw [gtAt_app hi]; exact hk))
    rw [packF_app]
    obtain ⟨s, hs⟩ : ∃ s, packF on G ([], []) = s := ⟨_, rfl⟩
    rw [hs] at h ⊢
    obtain ⟨o, num⟩ := s
    dsimp only at h
    have hin := okG_ins hg
    have hmap : ∀ (x : Nat) (i : Nat), i < G.length → ((gtAt G i).2.2.map fun k => (num ++ [x]).getD k 0) = (gtAt G i).2.2.map fun k => num.getD k 0 := fun x i hi =>
      map_num fun k hk => by have := okG_ins (hG' i _ (gtAt_get hi)) k hk; rw [h.len]; omega
    show PackOk v on (G ++ [g]) (if on num.length then (o ++ [(g.1, g.2.1, g.2.2.map fun k => num.getD k 0)], num ++ [o.length]) else (o, num ++ [0])).1 (if on num.length then (o ++ [(g.1, g.2.1, g.2.2.map fun k => num.getD k 0)], num ++ [o.length]) else (o, num ++ [0])).2
    rw [h.len]
    have hlen : ∀ x : Nat, (num ++ [x]).length = (G ++ [g]).length := fun x => by rw [List.length_append, List.length_append, h.len]; rfl
    have hcase : ∀ i, i < (G ++ [g]).length → i < G.length ∨ i = G.length := fun i hi => by rw [List.length_append, List.length_singleton] at hi; omega
    have hnew : ∀ x : Nat, (num ++ [x]).getD G.length 0 = x := fun x => by rw [← h.len]; exact getD_new num x 0
    have hold : ∀ (x i : Nat), i < G.length → (num ++ [x]).getD i 0 = num.getD i 0 := fun x i hi => getDl (by rw [h.len]; exact hi) 0
    split
    · rename_i hon
      have honk : ∀ k ∈ g.2.2, on k = true := fun k hk => hcl G.length k (by rw [List.length_append, List.length_singleton]; omega) hon (by rw [gtAt_new]; exact hk)
      have hgok : okG v o.length (g.1, g.2.1, g.2.2.map fun k => num.getD k 0) := by
        rcases hg with ⟨a, b, e⟩ | ⟨a, b, k, e, hk⟩ | ⟨a, b, e⟩ | ⟨a, b, e⟩
        · exact .inl ⟨a, b, by dsimp only; rw [e]; rfl⟩
        · refine .inr (.inl ⟨a, b, num.getD k 0, by dsimp only; rw [e]; rfl, h.lt k hk (honk k (by rw [e]; exact List.mem_singleton.2 rfl))⟩)
        · refine .inr (.inr (.inl ⟨a, b, fun j hj => ?_⟩))
          obtain ⟨k, hk, rfl⟩ := List.mem_map.1 hj
          exact h.lt k (e k hk) (honk k hk)
        · exact .inr (.inr (.inr ⟨a, b, by dsimp only; rw [e]; rfl⟩))
      refine ⟨okL_snoc h.ok hgok, hlen _, by rw [List.length_append, List.length_append]; have := h.le; simp; omega, fun i hi hoi => ?_, fun i hi hoi => ?_, fun i j hij hj hoi hoj => ?_, fun p hp => ?_⟩
      · rcases hcase i hi with hl | rfl
        · rw [hold _ i hl, List.length_append]
          have := h.lt i hl hoi
          omega
        · rw [hnew, List.length_append, List.length_singleton]
          omega
      · rcases hcase i hi with hl | rfl
        · rw [hold _ i hl, gtAt_app (h.lt i hl hoi), gtAt_app hl, h.at' i hl hoi, hmap _ i hl]
        · rw [hnew, gtAt_new, gtAt_new]
          rw [map_num fun k hk => by rw [h.len]; exact hin k hk]
      · rcases hcase j hj with hl | rfl
        · rw [hold _ i (by omega), hold _ j hl]
          exact h.mono i j hij hl hoi hoj
        · rw [hnew, hold _ i hij]
          exact h.lt i hij hoi
      · rw [List.length_append, List.length_singleton] at hp
        rcases Nat.lt_or_ge p o.length with hl | hl
        · obtain ⟨i, hi, hoi, e⟩ := h.onto p hl
          exact ⟨i, by rw [List.length_append]; omega, hoi, by rw [hold _ i hi]; exact e⟩
        · exact ⟨G.length, by rw [List.length_append, List.length_singleton]; omega, hon, by rw [hnew]; omega⟩
    · rename_i hon
      have hne : ∀ i, i < (G ++ [g]).length → on i = true → i < G.length := fun i hi hoi => by
        rcases hcase i hi with hl | rfl
        · exact hl
        · exact absurd hoi hon
      refine ⟨h.ok, hlen _, by have := h.le; show o.length ≤ _; rw [List.length_append]; omega, fun i hi hoi => ?_, fun i hi hoi => ?_, fun i j hij hj hoi hoj => ?_, fun p hp => ?_⟩
      · have hl := hne i hi hoi
        rw [hold _ i hl]
        exact h.lt i hl hoi
      · have hl := hne i hi hoi
        rw [hold _ i hl, gtAt_app hl, h.at' i hl hoi, hmap _ i hl]
      · have hl := hne j hj hoj
        rw [hold _ i (by omega), hold _ j hl]
        exact h.mono i j hij hl hoi hoj
      · obtain ⟨i, hi, hoi, e⟩ := h.onto p hp
        exact ⟨i, by rw [List.length_append]; omega, hoi, by rw [hold _ i hi]; exact e⟩
theorem pack_vl {v : Nat} {on : Nat → Bool} {G o : List Gt} {num : List Nat} (hG : okL v G) (hcl : ∀ i k, i < G.length → on i = true → k ∈ (gtAt G i).2.2 → on k = true) (h : PackOk v on G o num) (ρ : Nat → Bool) :
    ∀ (m i : Nat), i < m → i < G.length → on i = true → vl ρ o (num.getD i 0) = vl ρ G i
  | 0, i, h0, _, _ => by omega
  | m + 1, i, him, hi, hoi => by
    have hgi := hG i _ (gtAt_get hi)
    rw [vl_at h.ok ρ (h.lt i hi hoi), h.at' i hi hoi, vl_at hG ρ hi]
    have key : ∀ k ∈ (gtAt G i).2.2, vl ρ o (num.getD k 0) = vl ρ G k := fun k hk => by
      have hki := okG_ins hgi k hk
      exact pack_vl hG hcl h ρ m k (by omega) (by omega) (hcl i k hi hoi hk)
    unfold ev1
    dsimp only
    rw [List.all_map, List.any_map]
    rw [all_congr (f := vl ρ o ∘ fun k => num.getD k 0) (g := vl ρ G) key, any_congr (f := vl ρ o ∘ fun k => num.getD k 0) (g := vl ρ G) key]
    by_cases h2 : (gtAt G i).1 = 2
    · rcases hgi with ⟨e, _⟩ | ⟨_, _, k, e, _⟩ | ⟨e, _⟩ | ⟨e, _⟩
      · omega
      · rw [e] at key ⊢
        rw [List.map_cons, List.headD_cons, List.headD_cons, key k (List.mem_cons_self ..)]
      · omega
      · omega
    · rw [if_neg h2, if_neg h2]
theorem cleanG_ok {v : Nat} {n : Nt} (h : okN v n) : okN v (cleanG n) ∧ (cleanG n).1.length ≤ n.1.length ∧ (cleanG n).2.length = n.2.length ∧
    ∀ (ρ : Nat → Bool) (j o : Nat), n.2[j]? = some o → ∃ p, (cleanG n).2[j]? = some p ∧ vl ρ (cleanG n).1 p = vl ρ n.1 o := by
  have hf := foldG_ok h.1
  obtain ⟨s, hs⟩ : ∃ s, foldG n.1 ([], []) = s := ⟨_, rfl⟩
  unfold cleanG packG
  rw [hs] at hf ⊢
  obtain ⟨l, st⟩ := s
  dsimp only at hf ⊢
  have hst : ∀ o ∈ n.2, st.getD o 0 < l.length := fun o ho => by
    have hlt := h.2 o ho
    have hlt2 : o < st.length := by rw [hf.len]; exact hlt
    rw [List.getD_eq_getElem?_getD, List.getElem?_eq_getElem hlt2]
    exact hf.lt o _ (List.getElem?_eq_getElem hlt2)
  obtain ⟨O, hO⟩ : ∃ O, (n.2.map fun o => st.getD o 0) = O := ⟨_, rfl⟩
  have hOm : ∀ o ∈ n.2, st.getD o 0 ∈ O := fun o ho => by rw [← hO]; exact List.mem_map.2 ⟨o, ho, rfl⟩
  have hcl : ∀ i k, i < l.length → reachG l O i = true → k ∈ (gtAt l i).2.2 → reachG l O k = true := fun i k hi ho hk => reachG_closed hf.ok O hi ho hk
  have hp := packF_ok hf.ok hcl
  rw [hO]
  obtain ⟨t, ht⟩ : ∃ t, packF (reachG l O) l ([], []) = t := ⟨_, rfl⟩
  rw [ht] at hp ⊢
  obtain ⟨o, num⟩ := t
  dsimp only at hp ⊢
  refine ⟨⟨hp.ok, fun p hpm => ?_⟩, Nat.le_trans hp.le hf.le, by rw [List.length_map, ← hO, List.length_map], fun ρ j q hq => ?_⟩
  · obtain ⟨x, hx, rfl⟩ := List.mem_map.1 hpm
    have hx' := hx
    rw [← hO] at hx'
    obtain ⟨y, hy, rfl⟩ := List.mem_map.1 hx'
    exact hp.lt _ (hst y hy) (reachG_outs l O hx)
  · have hq2 : q ∈ n.2 := List.mem_of_getElem? hq
    refine ⟨num.getD (st.getD q 0) 0, ?_, ?_⟩
    · rw [List.getElem?_map, ← hO, List.getElem?_map, hq]
      rfl
    · rw [pack_vl hf.ok hcl hp ρ _ _ (Nat.lt_succ_self _) (hst q hq2) (reachG_outs l O (hOm q hq2)), hf.val ρ q (h.2 q hq2)]
end Go.Proofs.YtlnedapimmabdaaGreatDoor

namespace Go.Proofs.YtlnedapimmabdaaGreatDoor
set_option linter.unusedVariables false
set_option linter.unusedSimpArgs false

theorem sorted_ext : ∀ {l m : List Nat}, l.Pairwise (· < ·) → m.Pairwise (· < ·) → (∀ x, x ∈ l ↔ x ∈ m) → l = m
  | [], [], _, _, _ => rfl
  | [], b :: m, _, _, h => by have := (h b).2 (List.mem_cons_self ..); cases this
  | a :: l, [], _, _, h => by have := (h a).1 (List.mem_cons_self ..); cases this
  | a :: l, b :: m, hl, hm, h => by
    obtain ⟨l1, l2⟩ := List.pairwise_cons.1 hl
    obtain ⟨m1, m2⟩ := List.pairwise_cons.1 hm
    have hab : a = b := by
      rcases List.mem_cons.1 ((h a).1 (List.mem_cons_self ..)) with e | e
      · exact e
      · rcases List.mem_cons.1 ((h b).2 (List.mem_cons_self ..)) with e' | e'
        · exact e'.symm
        · have := m1 a e; have := l1 b e'; omega
    subst hab
    rw [sorted_ext l2 m2 fun x => ⟨fun hx => ?_, fun hx => ?_⟩]
    · rcases List.mem_cons.1 ((h x).1 (List.mem_cons_of_mem _ hx)) with e | e
      · have := l1 x hx; omega
      · exact e
    · rcases List.mem_cons.1 ((h x).2 (List.mem_cons_of_mem _ hx)) with e | e
      · have := m1 x hx; omega
      · exact e
structure Clean (v : Nat) (n : Nt) : Prop where
  ok : okN v n
  nd : n.1.Nodup
  irr : Irr n.1
  all : ∀ (i : Nat), i < n.1.length → reachG n.1 n.2 i = true
theorem num_inj {v : Nat} {on : Nat → Bool} {G o : List Gt} {num : List Nat} (h : PackOk v on G o num) {i j : Nat} (hi : i < G.length) (hj : j < G.length) (hoi : on i = true) (hoj : on j = true) (e : num.getD i 0 = num.getD j 0) : i = j := by
  rcases Nat.lt_trichotomy i j with hl | hl | hl
  · have := h.mono i j hl hj hoi hoj; omega
  · exact hl
  · have := h.mono j i hl hi hoj hoi; omega
theorem map_inj {f : Nat → Nat} : ∀ {a b : List Nat}, (∀ x ∈ a, ∀ y ∈ b, f x = f y → x = y) → a.map f = b.map f → a = b
  | [], [], _, _ => rfl
  | [], _ :: _, _, h => by simp at h
  | _ :: _, [], _, h => by simp at h
  | x :: a, y :: b, hf, h => by
    rw [List.map_cons, List.map_cons] at h
    injection h with h1 h2
    rw [hf x (List.mem_cons_self ..) y (List.mem_cons_self ..) h1, map_inj (fun p hp q hq => hf p (List.mem_cons_of_mem _ hp) q (List.mem_cons_of_mem _ hq)) h2]
theorem nodup_at {l : List Gt} (h : l.Nodup) {i j : Nat} (hi : i < l.length) (hj : j < l.length) (e : gtAt l i = gtAt l j) : i = j := by
  have h1 := gtAt_get hi
  have h2 := gtAt_get hj
  rw [e] at h1
  exact (List.getElem?_inj hi h).1 (h1.trans h2.symm)
theorem cleanG_clean {v : Nat} {n : Nt} (h : okN v n) : Clean v (cleanG n) := by
  obtain ⟨hok, _, _, _⟩ := cleanG_ok h
  have hf := foldG_ok h.1
  obtain ⟨s, hs⟩ : ∃ s, foldG n.1 ([], []) = s := ⟨_, rfl⟩
  revert hok
  unfold cleanG packG
  rw [hs] at hf ⊢
  obtain ⟨l, st⟩ := s
  dsimp only at hf ⊢
  have hst : ∀ o ∈ n.2, st.getD o 0 < l.length := fun o ho => by
    have hlt2 : o < st.length := by rw [hf.len]; exact h.2 o ho
    rw [List.getD_eq_getElem?_getD, List.getElem?_eq_getElem hlt2]
    exact hf.lt o _ (List.getElem?_eq_getElem hlt2)
  obtain ⟨O, hO⟩ : ∃ O, (n.2.map fun o => st.getD o 0) = O := ⟨_, rfl⟩
  have hOl : ∀ x ∈ O, x < l.length := fun x hx => by
    rw [← hO] at hx
    obtain ⟨y, hy, rfl⟩ := List.mem_map.1 hx
    exact hst y hy
  have hcl : ∀ i k, i < l.length → reachG l O i = true → k ∈ (gtAt l i).2.2 → reachG l O k = true := fun i k hi ho hk => reachG_closed hf.ok O hi ho hk
  have hp := packF_ok hf.ok hcl
  rw [hO]
  obtain ⟨t, ht⟩ : ∃ t, packF (reachG l O) l ([], []) = t := ⟨_, rfl⟩
  rw [ht] at hp ⊢
  obtain ⟨o, num⟩ := t
  dsimp only at hp ⊢
  intro hok
  have hat : ∀ p, p < o.length → ∃ i, i < l.length ∧ reachG l O i = true ∧ num.getD i 0 = p ∧ gtAt o p = ((gtAt l i).1, (gtAt l i).2.1, (gtAt l i).2.2.map fun k => num.getD k 0) := fun p hpl => by
    obtain ⟨i, hi, hoi, e⟩ := hp.onto p hpl
    exact ⟨i, hi, hoi, e, by rw [← e]; exact hp.at' i hi hoi⟩
  have hins : ∀ i, i < l.length → reachG l O i = true → ∀ k ∈ (gtAt l i).2.2, k < l.length ∧ reachG l O k = true := fun i hi hoi k hk => ⟨Nat.lt_trans (okG_ins (hf.ok i _ (gtAt_get hi)) k hk) hi, hcl i k hi hoi hk⟩
  have hkd : ∀ i, i < l.length → reachG l O i = true → kd o (num.getD i 0) = kd l i ∧ (kd l i = 2 → hd1 o (num.getD i 0) = num.getD (hd1 l i) 0 ∧ hd1 l i < l.length ∧ reachG l O (hd1 l i) = true) := fun i hi hoi => by
    unfold kd hd1
    rw [hp.at' i hi hoi]
    refine ⟨rfl, fun e => ?_⟩
    rcases hf.ok i _ (gtAt_get hi) with ⟨e1, _⟩ | ⟨_, _, k, e1, hk⟩ | ⟨e1, _⟩ | ⟨e1, _⟩
    · omega
    · have := hins i hi hoi k (by rw [e1]; exact List.mem_singleton.2 rfl)
      rw [e1]
      exact ⟨rfl, this⟩
    · omega
    · omega
  refine ⟨hok, ?_, ?_, ?_⟩
  · refine List.pairwise_iff_getElem.2 fun p q hpl hql hpq e => ?_
    obtain ⟨i, hi, hoi, ei, gi⟩ := hat p hpl
    obtain ⟨j, hj, hoj, ej, gj⟩ := hat q hql
    rw [← gtAt_some (List.getElem?_eq_getElem hpl), ← gtAt_some (List.getElem?_eq_getElem hql), gi, gj] at e
    injection e with e1 e2
    injection e2 with e2 e3
    have e4 : (gtAt l i).2.2 = (gtAt l j).2.2 := map_inj (fun x hx y hy hxy => by
      obtain ⟨a1, a2⟩ := hins i hi hoi x hx
      obtain ⟨b1, b2⟩ := hins j hj hoj y hy
      exact num_inj hp a1 b1 a2 b2 hxy) e3
    have e5 : gtAt l i = gtAt l j := Prod.ext e1 (Prod.ext e2 e4)
    have := nodup_at hf.nd hi hj e5
    rw [← ei, ← ej, this] at hpq
    omega
  · intro p g hg
    have hpl := (List.getElem?_eq_some_iff.1 hg).1
    obtain ⟨i, hi, hoi, ei, gi⟩ := hat p hpl
    have hgg : g = ((gtAt l i).1, (gtAt l i).2.1, (gtAt l i).2.2.map fun k => num.getD k 0) := by rw [← gi]; exact (gtAt_some hg).symm
    have hir := hf.irr i _ (gtAt_get hi)
    subst hgg
    refine ⟨fun e => ?_, fun e => ?_⟩
    · dsimp only at e ⊢
      have h1 := hir.1 e
      rcases hf.ok i _ (gtAt_get hi) with ⟨e1, _⟩ | ⟨_, _, k, e1, hk⟩ | ⟨e1, _⟩ | ⟨e1, _⟩
      · omega
      · obtain ⟨a1, a2⟩ := hins i hi hoi k (by rw [e1]; exact List.mem_singleton.2 rfl)
        rw [e1] at h1 ⊢
        rw [List.map_cons, List.headD_cons, (hkd k a1 a2).1]
        rw [List.headD_cons] at h1
        exact h1
      · omega
      · omega
    · dsimp only at e ⊢
      obtain ⟨h1, h2, h3, h4⟩ := hir.2 e
      refine ⟨?_, fun j hj => ?_, ?_, by rw [List.length_map]; exact h4⟩
      · rw [List.pairwise_map]
        refine h1.imp_of_mem fun {a b} ha hb hab => ?_
        obtain ⟨a1, a2⟩ := hins i hi hoi a ha
        obtain ⟨b1, b2⟩ := hins i hi hoi b hb
        exact hp.mono a b hab b1 a2 b2
      · obtain ⟨k, hk, rfl⟩ := List.mem_map.1 hj
        obtain ⟨a1, a2⟩ := hins i hi hoi k hk
        rw [(hkd k a1 a2).1]
        exact h2 k hk
      · rw [List.any_map]
        rw [any_congr (f := stopsG o (gtAt l i).1 ((gtAt l i).2.2.map fun k => num.getD k 0) ∘ fun k => num.getD k 0) (g := stopsG l (gtAt l i).1 (gtAt l i).2.2) fun k hk => ?_]
        · exact h3
        · obtain ⟨a1, a2⟩ := hins i hi hoi k hk
          obtain ⟨k1, k2⟩ := hkd k a1 a2
          show stopsG o (gtAt l i).1 ((gtAt l i).2.2.map fun k => num.getD k 0) (num.getD k 0) = _
          unfold stopsG
          rw [k1]
          congr 1
          by_cases hk2 : kd l k = 2
          · obtain ⟨e1, e2, e3⟩ := k2 hk2
            rw [e1]
            congr 1
            refine decide_eq_decide.2 ⟨fun hm => ?_, fun hm => List.mem_map.2 ⟨_, hm, rfl⟩⟩
            obtain ⟨y, hy, ey⟩ := List.mem_map.1 hm
            obtain ⟨b1, b2⟩ := hins i hi hoi y hy
            rw [← num_inj hp b1 e2 b2 e3 ey]
            exact hy
          · rw [decide_eq_false hk2, Bool.false_and, Bool.false_and]
  · intro p hpl
    obtain ⟨i, hi, hoi, ei, gi⟩ := hat p hpl
    rw [← ei]
    refine (backG_least (G := l) (P := fun i => i < l.length → reachG l O i = true ∧ reachG o (O.map fun o => num.getD o 0) (num.getD i 0) = true) (fun a k ha hk hkl => ?_) l.length (fun j => decide (j ∈ O)) (fun a ha hal => ?_) i hoi hi).2
    · rcases Nat.lt_or_ge a l.length with hal | hal
      · obtain ⟨a1, a2⟩ := ha hal
        refine ⟨hcl a k hal a1 hk, reachG_closed hp.ok _ (hp.lt a hal a1) a2 ?_⟩
        rw [hp.at' a hal a1]
        exact List.mem_map.2 ⟨k, hk, rfl⟩
      · unfold gtAt at hk
        rw [List.getD_eq_getElem?_getD, List.getElem?_eq_none hal] at hk
        cases hk
    · exact ⟨reachG_outs l O (of_decide_eq_true ha), reachG_outs o _ (List.mem_map.2 ⟨a, of_decide_eq_true ha, rfl⟩)⟩
end Go.Proofs.YtlnedapimmabdaaGreatDoor

namespace Go.Proofs.YtlnedapimmabdaaGreatDoor
set_option linter.unusedVariables false
set_option linter.unusedSimpArgs false

def fst1 (t : List Nat) (i : Nat) : Nat := t.idxOf (t.getD i 0)
def joinN (t : List Nat) (n : Nt) : Nt := (n.1.map fun g => (g.1, g.2.1, g.2.2.map (fst1 t)), n.2.map (fst1 t))
def reduceG (tb : List Gt → List Nat) (n : Nt) : Nt := cleanG (joinN (tb (cleanG n).1) (cleanG n))
structure TabOk (v : Nat) (E : (Nat → Bool) → Prop) (tb : List Gt → List Nat) : Prop where
  len : ∀ G, (tb G).length = G.length
  val : ∀ G H, okL v G → okL v H → ∀ i j, i < G.length → j < H.length → ((tb G).getD i 0 = (tb H).getD j 0 ↔ ∀ ρ, E ρ → vl ρ G i = vl ρ H j)
theorem fst1_spec {t : List Nat} {i : Nat} (h : i < t.length) : fst1 t i ≤ i ∧ t.getD (fst1 t i) 0 = t.getD i 0 := by
  unfold fst1
  have hg : t.getD i 0 = t[i] := by rw [List.getD_eq_getElem?_getD, List.getElem?_eq_getElem h]; rfl
  have hm : t.getD i 0 ∈ t := by rw [hg]; exact List.getElem_mem h
  have hlt := List.idxOf_lt_length_of_mem hm
  refine ⟨?_, ?_⟩
  · rcases Nat.lt_or_ge i (t.idxOf (t.getD i 0)) with hl | hl
    · have := List.not_of_lt_findIdx (p := (· == t.getD i 0)) (xs := t) (i := i) hl
      exact absurd hg.symm (beq_eq_false_iff_ne.1 this)
    · exact hl
  · rw [List.getD_eq_getElem?_getD, List.getElem?_eq_getElem hlt, List.getElem_idxOf hlt]
    rfl
theorem joinN_len (t : List Nat) (n : Nt) : (joinN t n).1.length = n.1.length := List.length_map ..
theorem joinN_at {t : List Nat} {n : Nt} {i : Nat} (h : i < n.1.length) : gtAt (joinN t n).1 i = ((gtAt n.1 i).1, (gtAt n.1 i).2.1, (gtAt n.1 i).2.2.map (fst1 t)) := by
  refine gtAt_some ?_
  unfold joinN
  dsimp only
  rw [List.getElem?_map, gtAt_get h]
  rfl
theorem joinN_ok {v : Nat} {t : List Nat} {n : Nt} (hl : t.length = n.1.length) (h : okN v n) : okN v (joinN t n) := by
  refine ⟨fun i g hg => ?_, fun o ho => ?_⟩
  · have hi := (List.getElem?_eq_some_iff.1 hg).1
    rw [joinN_len] at hi
    have hx := h.1 i _ (gtAt_get hi)
    have e : g = ((gtAt n.1 i).1, (gtAt n.1 i).2.1, (gtAt n.1 i).2.2.map (fst1 t)) := by rw [← joinN_at hi]; exact (gtAt_some hg).symm
    rw [e]
    have hle : ∀ k, k < i → fst1 t k < i := fun k hk => Nat.lt_of_le_of_lt (fst1_spec (by omega)).1 hk
    rcases hx with ⟨a, b, c⟩ | ⟨a, b, k, c, hk⟩ | ⟨a, b, c⟩ | ⟨a, b, c⟩
    · exact .inl ⟨a, b, by dsimp only; rw [c]; rfl⟩
    · exact .inr (.inl ⟨a, b, fst1 t k, by dsimp only; rw [c]; rfl, hle k hk⟩)
    · refine .inr (.inr (.inl ⟨a, b, fun j hj => ?_⟩))
      obtain ⟨k, hk, rfl⟩ := List.mem_map.1 hj
      exact hle k (c k hk)
    · exact .inr (.inr (.inr ⟨a, b, by dsimp only; rw [c]; rfl⟩))
  · obtain ⟨k, hk, rfl⟩ := List.mem_map.1 ho
    have := h.2 k hk
    rw [joinN_len]
    exact Nat.lt_of_le_of_lt (fst1_spec (by omega)).1 this
theorem joinN_vl {v : Nat} {E : (Nat → Bool) → Prop} {tb : List Gt → List Nat} (ht : TabOk v E tb) {n : Nt} (h : okN v n) (ρ : Nat → Bool) (hE : E ρ) :
    ∀ (m i : Nat), i < m → i < n.1.length → vl ρ (joinN (tb n.1) n).1 i = vl ρ n.1 i
  | 0, i, h0, _ => by omega
  | m + 1, i, him, hi => by
    have hj := joinN_ok (ht.len n.1) h
    have hgi := h.1 i _ (gtAt_get hi)
    rw [vl_at hj.1 ρ (by rw [joinN_len]; exact hi), joinN_at hi, vl_at h.1 ρ hi]
    have key : ∀ k ∈ (gtAt n.1 i).2.2, vl ρ (joinN (tb n.1) n).1 (fst1 (tb n.1) k) = vl ρ n.1 k := fun k hk => by
      have hki := okG_ins hgi k hk
      have hkl : k < n.1.length := by omega
      obtain ⟨f1, f2⟩ := fst1_spec (t := tb n.1) (i := k) (by rw [ht.len]; exact hkl)
      rw [joinN_vl ht h ρ hE m _ (by omega) (by omega)]
      exact (ht.val n.1 n.1 h.1 h.1 _ k (by omega) hkl).1 f2 ρ hE
    unfold ev1
    dsimp only
    rw [List.all_map, List.any_map]
    rw [all_congr (f := vl ρ (joinN (tb n.1) n).1 ∘ fst1 (tb n.1)) (g := vl ρ n.1) key, any_congr (f := vl ρ (joinN (tb n.1) n).1 ∘ fst1 (tb n.1)) (g := vl ρ n.1) key]
    by_cases h2 : (gtAt n.1 i).1 = 2
    · rcases hgi with ⟨e, _⟩ | ⟨_, _, k, e, _⟩ | ⟨e, _⟩ | ⟨e, _⟩
      · omega
      · rw [e] at key ⊢
        rw [List.map_cons, List.headD_cons, List.headD_cons, key k (List.mem_cons_self ..)]
      · omega
      · omega
    · rw [if_neg h2, if_neg h2]
theorem reduceG_ok {v : Nat} {E : (Nat → Bool) → Prop} {tb : List Gt → List Nat} (ht : TabOk v E tb) {n : Nt} (h : okN v n) : Clean v (reduceG tb n) ∧ (reduceG tb n).1.length ≤ (cleanG n).1.length ∧ (reduceG tb n).2.length = n.2.length ∧
    ∀ (ρ : Nat → Bool), E ρ → ∀ (j o : Nat), n.2[j]? = some o → ∃ p, (reduceG tb n).2[j]? = some p ∧ vl ρ (reduceG tb n).1 p = vl ρ n.1 o := by
  obtain ⟨c1, c2, c3, c4⟩ := cleanG_ok h
  have hj := joinN_ok (ht.len (cleanG n).1) c1
  obtain ⟨d1, d2, d3, d4⟩ := cleanG_ok hj
  refine ⟨cleanG_clean hj, by rw [joinN_len] at d2; exact d2, ?_, fun ρ hE j o ho => ?_⟩
  · unfold reduceG
    rw [d3, ← c3]
    exact List.length_map ..
  · obtain ⟨p, hp, ep⟩ := c4 ρ j o ho
    have hpl : p < (cleanG n).1.length := c1.2 p (List.mem_of_getElem? hp)
    obtain ⟨f1, f2⟩ := fst1_spec (t := tb (cleanG n).1) (i := p) (by rw [ht.len]; exact hpl)
    obtain ⟨q, hq, eq⟩ := d4 ρ j (fst1 (tb (cleanG n).1) p) (by
      show ((cleanG n).2.map (fst1 (tb (cleanG n).1)))[j]? = _
      rw [List.getElem?_map, hp]
      rfl)
    refine ⟨q, hq, ?_⟩
    unfold reduceG
    rw [eq, joinN_vl ht c1 ρ hE _ _ (Nat.lt_succ_self _) (by omega), (ht.val _ _ c1.1 c1.1 _ p (by omega) hpl).1 f2 ρ hE, ep]
end Go.Proofs.YtlnedapimmabdaaGreatDoor

namespace Go.Proofs.YtlnedapimmabdaaGreatDoor
set_option linter.unusedVariables false
set_option linter.unusedSimpArgs false

def srtG (l : List Gt) (ins : List Nat) : List Nat := (List.range l.length).filter fun i => decide (i ∈ ins)
theorem mem_srt {l : List Gt} {ins : List Nat} {i : Nat} : i ∈ srtG l ins ↔ i < l.length ∧ i ∈ ins := by
  unfold srtG
  rw [List.mem_filter, List.mem_range, decide_eq_true_eq]
theorem srt_sorted (l : List Gt) (ins : List Nat) : (srtG l ins).Pairwise (· < ·) := List.Pairwise.filter _ List.pairwise_lt_range
theorem rest_srt (l : List Gt) (k : Nat) (ins : List Nat) : restG l k ins = (srtG l ins).filter fun i => decide (kd l i ≠ neuK k) := by
  unfold restG srtG
  rw [List.filter_filter]
  congr 1
  funext i
  rw [Bool.and_comm]
theorem stops_srt {l : List Gt} (hi : Irr l) {k : Nat} (hk : k = 3 ∨ k = 4) (ins : List Nat) :
    (srtG l ins).any (stopsG l k (srtG l ins)) = (restG l k ins).any (stopsG l k (restG l k ins)) := by
  have hdn : decK k ≠ neuK k := by rcases hk with rfl | rfl <;> decide
  have h2n : 2 ≠ neuK k := by rcases hk with rfl | rfl <;> decide
  have hsub : ∀ i, i ∈ restG l k ins ↔ i ∈ srtG l ins ∧ kd l i ≠ neuK k := fun i => by rw [mem_rest, mem_srt]; exact ⟨fun h => ⟨⟨h.1, h.2.1⟩, h.2.2⟩, fun h => ⟨h.1.1, h.1.2, h.2⟩⟩
  rw [Bool.eq_iff_iff, List.any_eq_true, List.any_eq_true]
  constructor
  · rintro ⟨i, him, hs⟩
    unfold stopsG at hs ⊢
    rw [Bool.or_eq_true, Bool.and_eq_true, decide_eq_true_eq, decide_eq_true_eq, decide_eq_true_eq] at hs
    rcases hs with hs | ⟨hs, hm⟩
    · exact ⟨i, (hsub i).2 ⟨him, by rw [hs]; exact hdn⟩, by rw [decide_eq_true hs, Bool.true_or]⟩
    · have hil := (mem_srt.1 him).1
      refine ⟨i, (hsub i).2 ⟨him, by rw [hs]; exact h2n⟩, ?_⟩
      have hir := (hi i _ (gtAt_get hil)).1 hs
      have hnk : kd l (hd1 l i) ≠ neuK k := by
        have : neuK k = 5 ∨ neuK k = 6 := neuK_or k
        unfold hd1
        intro e
        rcases this with h5 | h5
        · exact hir.2.1 (e.trans h5)
        · exact hir.2.2 (e.trans h5)
      rw [decide_eq_true hs, decide_eq_true ((hsub _).2 ⟨hm, hnk⟩), Bool.true_and, Bool.or_true]
  · rintro ⟨i, him, hs⟩
    refine ⟨i, ((hsub i).1 him).1, ?_⟩
    unfold stopsG at hs ⊢
    rw [Bool.or_eq_true, Bool.and_eq_true, decide_eq_true_eq, decide_eq_true_eq, decide_eq_true_eq] at hs ⊢
    rcases hs with hs | ⟨hs, hm⟩
    · exact .inl hs
    · exact .inr ⟨hs, ((hsub _).1 hm).1⟩
theorem vl_congr {v : Nat} {l : List Gt} (ho : okL v l) {ρ σ : Nat → Bool} (h : ∀ x, x < v → ρ x = σ x) : ∀ (m i : Nat), i < m → i < l.length → vl ρ l i = vl σ l i
  | 0, i, h0, _ => by omega
  | m + 1, i, him, hi => by
    have hgi := ho i _ (gtAt_get hi)
    rw [vl_at ho ρ hi, vl_at ho σ hi]
    have key : ∀ k ∈ (gtAt l i).2.2, vl ρ l k = vl σ l k := fun k hk => by
      have hki := okG_ins hgi k hk
      exact vl_congr ho h m k (by omega) (by omega)
    rw [ev1_congr hgi key]
    unfold ev1
    by_cases h1 : (gtAt l i).1 = 1
    · rw [if_pos h1, if_pos h1]
      rcases hgi with ⟨_, e, _⟩ | ⟨e, _⟩ | ⟨e, _⟩ | ⟨e, _⟩
      · exact h _ e
      · omega
      · omega
      · omega
    · rw [if_neg h1, if_neg h1]
def tabI (G : List Gt) (i : Nat) : Nat := ofB (fun v => vl (fun x => v.testBit x) G i) 64
def tabsG (G : List Gt) : List Nat := (List.range G.length).map (tabI G)
theorem tabI_lt (G : List Gt) (i : Nat) : tabI G i < 2 ^ 64 := ofB_lt _ 64
theorem tabs_len (G : List Gt) : (tabsG G).length = G.length := by unfold tabsG; rw [List.length_map, List.length_range]
theorem tabs_get {G : List Gt} {i : Nat} (h : i < G.length) : (tabsG G)[i]? = some (tabI G i) := by
  unfold tabsG
  rw [List.getElem?_map, List.getElem?_range h]
  rfl
theorem tabs_getD {G : List Gt} {i : Nat} (h : i < G.length) : (tabsG G).getD i 0 = tabI G i := by
  rw [List.getD_eq_getElem?_getD, tabs_get h]
  rfl
theorem vl_tab {G : List Gt} (ho : okL 6 G) (ρ : Nat → Bool) {i : Nat} (h : i < G.length) : vl ρ G i = (tabI G i).testBit (idx6 ρ) := by
  unfold tabI
  rw [ofB_test, decide_eq_true (idx6_lt ρ), Bool.true_and]
  exact vl_congr ho (fun x hx => (idx6_test ρ x hx).symm) _ i (Nat.lt_succ_self i) h
theorem tabI_eq {G H : List Gt} (hG : okL 6 G) (hH : okL 6 H) {i j : Nat} (hi : i < G.length) (hj : j < H.length) : tabI G i = tabI H j ↔ ∀ ρ, vl ρ G i = vl ρ H j := by
  constructor
  · intro h ρ
    rw [vl_tab hG ρ hi, vl_tab hH ρ hj, h]
  · intro h
    refine table_eq (tabI_lt _ _) (tabI_lt _ _) fun v hv => ?_
    have e := h fun x => v.testBit x
    rw [vl_tab hG _ hi, vl_tab hH _ hj, idx6_row v hv] at e
    exact e
theorem tabs_ok : TabOk 6 (fun _ => True) tabsG := ⟨tabs_len, fun G H hG hH i j hi hj => by
  rw [tabs_getD hi, tabs_getD hj, tabI_eq hG hH hi hj]
  exact ⟨fun h ρ _ => h ρ, fun h ρ => h ρ trivial⟩⟩
end Go.Proofs.YtlnedapimmabdaaGreatDoor

namespace Go.Proofs.YtlnedapimmabdaaGreatDoor
set_option linter.unusedVariables false
set_option linter.unusedSimpArgs false

abbrev GZ := Int × Int × List Int
def gz (g : Gt) : GZ := ((g.1 : Int), (g.2.1 : Int), g.2.2.map fun k : Nat => (k : Int))
def gn (x : GZ) : Gt := (x.1.toNat, x.2.1.toNat, x.2.2.map Int.toNat)
def gErr (x : GZ) (i : Nat) (v : Int) : Nat :=
  if x.1 = 1 ∧ (x.2.1 < 0 ∨ v ≤ x.2.1) then 3
  else if x.1 < 1 ∨ 6 < x.1 then 12
  else if (x.1 ≠ 1 ∧ x.2.1 ≠ 0) ∨ (x.1 = 2 ∧ x.2.2.length ≠ 1) ∨ ((x.1 = 1 ∨ x.1 = 5 ∨ x.1 = 6) ∧ x.2.2.length ≠ 0) then 7
  else if x.2.2.any (fun k => decide (k < 0) || decide ((i : Int) ≤ k)) then 6 else 0
def gErrs (v : Int) : List GZ → Nat → Nat
  | [], _ => 0
  | x :: r, i => if gErr x i v = 0 then gErrs v r (i + 1) else gErr x i v
def nErr (L : List GZ) (O : List Int) (v : Int) : Nat :=
  if v < 0 then 3 else if 50000 < L.length then 4 else if gErrs v L 0 ≠ 0 then gErrs v L 0 else if O.any (fun o => decide (o < 0) || decide ((L.length : Int) ≤ o)) then 10 else 0
theorem gErrs_zero {v : Int} : ∀ {L : List GZ} {i : Nat}, gErrs v L i = 0 → ∀ (j : Nat) (x : GZ), L[j]? = some x → gErr x (i + j) v = 0
  | [], _, _, j, x, h => by simp at h
  | y :: r, i, h, 0, x, hx => by
    injection hx with hx
    subst hx
    rw [gErrs] at h
    split at h
    · rename_i h0; exact h0
    · rename_i h0; exact absurd h h0
  | y :: r, i, h, j + 1, x, hx => by
    rw [gErrs] at h
    split at h
    · rw [show i + (j + 1) = (i + 1) + j by omega]
      exact gErrs_zero h j x hx
    · rename_i h0; exact absurd h h0
theorem gErrs_of {v : Int} : ∀ {L : List GZ} {i : Nat}, (∀ (j : Nat) (x : GZ), L[j]? = some x → gErr x (i + j) v = 0) → gErrs v L i = 0
  | [], _, _ => rfl
  | y :: r, i, h => by
    rw [gErrs, if_pos (show gErr y i v = 0 from h 0 y rfl)]
    exact gErrs_of fun j x hx => by rw [show i + 1 + j = i + (j + 1) by omega]; exact h (j + 1) x hx
theorem natInts : ∀ {l : List Int}, (∀ k ∈ l, 0 ≤ k) → (l.map Int.toNat).map (fun k : Nat => (k : Int)) = l
  | [], _ => rfl
  | x :: r, h => by
    rw [List.map_cons, List.map_cons, natInts fun k hk => h k (List.mem_cons_of_mem _ hk), Int.toNat_of_nonneg (h x (List.mem_cons_self ..))]
theorem gErr_ok {x : GZ} {i : Nat} {v : Int} (h : gErr x i v = 0) : okG v.toNat i (gn x) ∧ gz (gn x) = x := by
  obtain ⟨k, a, l⟩ := x
  unfold gErr at h
  dsimp only at h
  split at h
  · cases h
  rename_i h1
  split at h
  · cases h
  rename_i h2
  split at h
  · cases h
  rename_i h3
  split at h
  · cases h
  rename_i h4
  have hk : ∀ j ∈ l, 0 ≤ j ∧ j < (i : Int) := fun j hj => by
    have h4' : (l.any fun k => decide (k < 0) || decide ((i : Int) ≤ k)) = false := by simpa using h4
    have := List.any_eq_false.1 h4' j hj
    simp at this
    exact this
  have hz : gz (gn (k, a, l)) = (k, a, l) := by
    unfold gz gn
    dsimp only
    rw [natInts fun j hj => (hk j hj).1, Int.toNat_of_nonneg (show 0 ≤ k by omega), Int.toNat_of_nonneg (show 0 ≤ a by
      by_cases e : k = 1
      · rw [e] at h1
        omega
      · have : a = 0 := by
          by_cases e0 : a = 0
          · exact e0
          · exact absurd (Or.inl ⟨e, e0⟩) h3
        omega)]
  refine ⟨?_, hz⟩
  have hins : ∀ j ∈ (gn (k, a, l)).2.2, j < i := fun j hj => by
    obtain ⟨y, hy, rfl⟩ := List.mem_map.1 hj
    have := hk y hy
    omega
  unfold gn at hins ⊢
  dsimp only at hins ⊢
  have hl0 : l.length = 0 → l.map Int.toNat = [] := fun e => by rw [List.length_eq_zero_iff.1 e]; rfl
  by_cases e1 : k = 1
  · subst e1
    refine .inl ⟨rfl, by dsimp only; omega, hl0 ?_⟩
    by_cases e : l.length = 0
    · exact e
    · exact absurd (Or.inr (Or.inr ⟨.inl rfl, e⟩)) h3
  have ha : a = 0 := by
    by_cases e0 : a = 0
    · exact e0
    · exact absurd (Or.inl ⟨e1, e0⟩) h3
  subst ha
  by_cases e2 : k = 2
  · subst e2
    have hl1 : l.length = 1 := by
      by_cases e : l.length = 1
      · exact e
      · exact absurd (Or.inr (Or.inl ⟨rfl, e⟩)) h3
    obtain ⟨y, rfl⟩ := List.length_eq_one_iff.1 hl1
    exact .inr (.inl ⟨rfl, rfl, y.toNat, rfl, hins _ (List.mem_singleton.2 rfl)⟩)
  by_cases e3 : k = 3 ∨ k = 4
  · exact .inr (.inr (.inl ⟨by dsimp only; omega, rfl, hins⟩))
  refine .inr (.inr (.inr ⟨by dsimp only; omega, rfl, hl0 ?_⟩))
  by_cases e : l.length = 0
  · exact e
  · exact absurd (Or.inr (Or.inr ⟨by omega, e⟩)) h3
theorem gErr_of {g : Gt} {i v : Nat} (h : okG v i g) : gErr (gz g) i (v : Int) = 0 := by
  obtain ⟨k, a, l⟩ := g
  have hins := okG_ins h
  unfold gErr gz
  dsimp only at hins ⊢
  have hany : ((l.map fun k : Nat => (k : Int)).any fun k => decide (k < 0) || decide ((i : Int) ≤ k)) = false := by
    refine List.any_eq_false.2 fun j hj => ?_
    obtain ⟨y, hy, rfl⟩ := List.mem_map.1 hj
    have := hins y hy
    simp
    omega
  rw [hany, List.length_map]
  rcases h with ⟨e1, e2, e3⟩ | ⟨e1, e2, j, e3, e4⟩ | ⟨e1, e2, e3⟩ | ⟨e1, e2, e3⟩ <;> dsimp only at e1 e2 e3
  · rw [if_neg (by omega), if_neg (by omega), if_neg (by rw [e3]; simp; omega)]; rfl
  · rw [if_neg (by omega), if_neg (by omega), if_neg (by rw [e3]; simp; omega)]; rfl
  · rw [if_neg (by omega), if_neg (by omega), if_neg (by omega)]; rfl
  · rw [if_neg (by omega), if_neg (by omega), if_neg (by rw [e3]; simp; omega)]; rfl
theorem nErr_ok {L : List GZ} {O : List Int} {v : Int} (h : nErr L O v = 0) : ∃ n : Nt, L = n.1.map gz ∧ O = n.2.map (fun k : Nat => (k : Int)) ∧ okN v.toNat n ∧ n.1.length ≤ 50000 ∧ 0 ≤ v := by
  unfold nErr at h
  split at h
  · cases h
  rename_i h1
  split at h
  · cases h
  rename_i h2
  split at h
  · rename_i h3; exact absurd h h3
  rename_i h3
  split at h
  · cases h
  rename_i h4
  have h0 : gErrs v L 0 = 0 := by
    by_cases e : gErrs v L 0 = 0
    · exact e
    · exact absurd e h3
  have hg : ∀ (j : Nat) (x : GZ), L[j]? = some x → okG v.toNat j (gn x) ∧ gz (gn x) = x := fun j x hx => by
    have := gErrs_zero h0 j x hx
    rw [Nat.zero_add] at this
    exact gErr_ok this
  have hO : ∀ o ∈ O, 0 ≤ o ∧ o < (L.length : Int) := fun o ho => by
    have h4' : (O.any fun o => decide (o < 0) || decide ((L.length : Int) ≤ o)) = false := by simpa using h4
    have := List.any_eq_false.1 h4' o ho
    simp at this
    exact this
  refine ⟨(L.map gn, O.map Int.toNat), ?_, (natInts fun o ho => (hO o ho).1).symm, ⟨fun i g hgi => ?_, fun o ho => ?_⟩, by dsimp only; rw [List.length_map]; omega, by omega⟩
  · dsimp only
    rw [List.map_map]
    conv => lhs; rw [← List.map_id L]
    refine List.map_congr_left fun x hx => ?_
    obtain ⟨j, hj⟩ := List.mem_iff_getElem?.1 hx
    exact (hg j x hj).2.symm
  · dsimp only at hgi
    rw [List.getElem?_map] at hgi
    obtain ⟨x, hx, rfl⟩ := Option.map_eq_some_iff.1 hgi
    exact (hg i x hx).1
  · dsimp only at ho ⊢
    obtain ⟨y, hy, rfl⟩ := List.mem_map.1 ho
    have := hO y hy
    rw [List.length_map]
    omega
theorem nErr_of {n : Nt} {v : Nat} (h : okN v n) (hl : n.1.length ≤ 50000) : nErr (n.1.map gz) (n.2.map fun k : Nat => (k : Int)) (v : Int) = 0 := by
  have hg : gErrs (v : Int) (n.1.map gz) 0 = 0 := gErrs_of fun j x hx => by
    rw [List.getElem?_map] at hx
    obtain ⟨g, hg, rfl⟩ := Option.map_eq_some_iff.1 hx
    rw [Nat.zero_add]
    exact gErr_of (h.1 j g hg)
  unfold nErr
  rw [if_neg (by omega), if_neg (by rw [List.length_map]; omega), if_neg (by rw [hg]; simp), if_neg]
  intro ha
  obtain ⟨o, ho, hb⟩ := List.any_eq_true.1 ha
  obtain ⟨k, hk, rfl⟩ := List.mem_map.1 ho
  have := h.2 k hk
  rw [List.length_map] at hb
  simp at hb
  omega
end Go.Proofs.YtlnedapimmabdaaGreatDoor

namespace Go.Proofs.YtlnedapimmabdaaGreatDoor
set_option linter.unusedVariables false
set_option linter.unusedSimpArgs false

end Go.Proofs.YtlnedapimmabdaaGreatDoor

namespace Go.Proofs.YtlnedapimmabdaaGreatDoor
set_option linter.unusedVariables false
set_option linter.unusedSimpArgs false

def isDg (c : UInt8) : Bool := decide (48 ≤ c.toNat) && decide (c.toNat ≤ 57)
theorem dv {d : Nat} (h : d < 10) : (UInt8.ofNat (48 + d)).toNat = 48 + d := by rw [UInt8.toNat_ofNat']; omega
theorem dec_all (u : Nat) : ∀ c ∈ Go.Lib.decDigits u, isDg c = true := by
  induction u using Nat.strongRecOn with
  | ind u ih =>
    intro c hc
    by_cases h : u < 10
    · rw [Go.Lib.decDigits_one h] at hc
      rw [List.mem_singleton.1 hc]
      unfold isDg
      rw [dv h, Bool.and_eq_true]
      exact ⟨decide_eq_true (by omega), decide_eq_true (by omega)⟩
    · rw [Go.Lib.decDigits, dif_neg h] at hc
      rcases List.mem_append.1 hc with h1 | h1
      · exact ih (u / 10) (by omega) c h1
      · rw [List.mem_singleton.1 h1]
        unfold isDg
        rw [dv (Nat.mod_lt _ (by decide)), Bool.and_eq_true]
        exact ⟨decide_eq_true (by omega), decide_eq_true (by omega)⟩
def dval (l : List UInt8) : Nat := l.foldl (fun a c => 10 * a + (c.toNat - 48)) 0
theorem dec_val (u : Nat) : dval (Go.Lib.decDigits u) = u := by
  induction u using Nat.strongRecOn with
  | ind u ih =>
    by_cases h : u < 10
    · rw [Go.Lib.decDigits_one h]
      simp only [dval, List.foldl_cons, List.foldl_nil, dv h]
      omega
    · have hi := ih (u / 10) (by omega)
      rw [Go.Lib.decDigits, dif_neg h]
      unfold dval at hi ⊢
      rw [List.foldl_append, hi]
      simp only [List.foldl_cons, List.foldl_nil, dv (Nat.mod_lt u (show 0 < 10 by decide))]
      omega
def stopD : List UInt8 → Bool | [] => true | c :: _ => !isDg c
theorem digs_split : ∀ {l m r s : List UInt8}, (∀ c ∈ l, isDg c = true) → (∀ c ∈ m, isDg c = true) → stopD r = true → stopD s = true → l ++ r = m ++ s → l = m ∧ r = s
  | [], [], r, s, _, _, _, _, h => ⟨rfl, h⟩
  | [], c :: m, r, s, _, hm, hr, _, h => by
    rw [List.nil_append] at h
    rw [h] at hr
    have := hm c (List.mem_cons_self ..)
    simp [stopD, this] at hr
  | c :: l, [], r, s, hl, _, _, hs, h => by
    rw [List.nil_append] at h
    rw [← h] at hs
    have := hl c (List.mem_cons_self ..)
    simp [stopD, this] at hs
  | c :: l, d :: m, r, s, hl, hm, hr, hs, h => by
    rw [List.cons_append, List.cons_append] at h
    injection h with h1 h2
    obtain ⟨e1, e2⟩ := digs_split (fun x hx => hl x (List.mem_cons_of_mem _ hx)) (fun x hx => hm x (List.mem_cons_of_mem _ hx)) hr hs h2
    exact ⟨by rw [h1, e1], e2⟩
def dg1 (n : Nat) : List UInt8 := Go.Lib.decDigits n
theorem dg1_itoa (n : Nat) : Go.Lib.itoa (n : Int) = dg1 n := by
  unfold dg1 Go.Lib.itoa
  rw [if_neg (by omega), Int.toNat_natCast]
theorem dg1_inj {a b : Nat} (h : dg1 a = dg1 b) : a = b := by
  rw [← dec_val a, ← dec_val b]
  unfold dg1 at h
  rw [h]
def sepT (c : UInt8) : List Nat → List UInt8
  | [] => []
  | x :: r => c :: (dg1 x ++ sepT c r)
def keyT (c : UInt8) (a : Nat) (l : List Nat) : List UInt8 := dg1 a ++ sepT c l
theorem sepT_app (c : UInt8) : ∀ (l m : List Nat), sepT c (l ++ m) = sepT c l ++ sepT c m
  | [], m => rfl
  | x :: r, m => by rw [List.cons_append, sepT, sepT, sepT_app c r, List.cons_append, List.append_assoc]
theorem sepT_stop {c : UInt8} (hc : isDg c = false) : ∀ l, stopD (sepT c l) = true
  | [] => rfl
  | _ :: _ => by rw [sepT, stopD, hc]; rfl
theorem sepT_inj {c : UInt8} (hc : isDg c = false) : ∀ {l m : List Nat}, sepT c l = sepT c m → l = m
  | [], [], _ => rfl
  | [], _ :: _, h => by rw [sepT, sepT] at h; cases h
  | _ :: _, [], h => by rw [sepT, sepT] at h; cases h
  | x :: l, y :: m, h => by
    rw [sepT, sepT] at h
    injection h with _ h
    obtain ⟨h1, h2⟩ := digs_split (dec_all x) (dec_all y) (sepT_stop hc l) (sepT_stop hc m) h
    rw [dg1_inj h1, sepT_inj hc h2]
theorem keyT_inj {c : UInt8} (hc : isDg c = false) {a b : Nat} {l m : List Nat} (h : keyT c a l = keyT c b m) : a = b ∧ l = m := by
  obtain ⟨h1, h2⟩ := digs_split (dec_all a) (dec_all b) (sepT_stop hc l) (sepT_stop hc m) h
  exact ⟨dg1_inj h1, sepT_inj hc h2⟩
def gateT (g : Gt) : List UInt8 := keyT 44 g.1 (g.2.1 :: g.2.2)
theorem gateT_inj {g h : Gt} (e : gateT g = gateT h) : g = h := by
  obtain ⟨h1, h2⟩ := keyT_inj (by decide) e
  injection h2 with h2 h3
  exact Prod.ext h1 (Prod.ext h2 h3)
def flat3 : List (Nat × Nat × Nat) → List Nat
  | [] => []
  | x :: r => x.1 :: x.2.1 :: x.2.2 :: flat3 r
theorem flat3_app : ∀ (l m : List (Nat × Nat × Nat)), flat3 (l ++ m) = flat3 l ++ flat3 m
  | [], _ => rfl
  | x :: r, m => by rw [List.cons_append, flat3, flat3, flat3_app r]; rfl
theorem flat3_inj : ∀ {l m : List (Nat × Nat × Nat)}, flat3 l = flat3 m → l = m
  | [], [], _ => rfl
  | [], _ :: _, h => by rw [flat3, flat3] at h; cases h
  | _ :: _, [], h => by rw [flat3, flat3] at h; cases h
  | x :: l, y :: m, h => by
    rw [flat3, flat3] at h
    injection h with h1 h
    injection h with h2 h
    injection h with h3 h
    rw [Prod.ext h1 (Prod.ext h2 h3), flat3_inj h]
def diagT (N : List (Nat × Nat × Nat)) (r : Nat) : List UInt8 := keyT 32 r (flat3 N)
theorem diagT_inj {N M : List (Nat × Nat × Nat)} {r s : Nat} (h : diagT N r = diagT M s) : N = M ∧ r = s := by
  obtain ⟨h1, h2⟩ := keyT_inj (by decide) h
  exact ⟨flat3_inj h2, h1⟩
end Go.Proofs.YtlnedapimmabdaaGreatDoor
