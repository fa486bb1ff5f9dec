/- What minimize.Reduce holds in memory while it joins gates. -/
import Derived.Test.YtlnedapimmabdaaGreatDoorV4
namespace Go.Proofs.YtlnedapimmabdaaGreatDoor
set_option linter.unusedVariables false
set_option linter.unusedSimpArgs false
open Go.RowKit Go.Maps

theorem funM_obj0 {P : Program} {kT eT : TypeId} {w : World} {b : Nat} (h : w.heap[b]? = some (.map #[] 0)) : FunM P kT eT w b 0 (fun _ => none) := by
  have h0 := funM_made w P kT eT
  obtain ⟨D, hD, hk⟩ := h0
  refine ⟨D, ?_, hk⟩
  obtain ⟨es, clock, h1, h2⟩ := hD
  rw [World.alloc_heap_new] at h1
  injection h1 with h1
  injection h1 with h1 h3
  subst h1 h3
  exact ⟨_, _, h, h2⟩
theorem sepT_len {c : UInt8} : ∀ {l : List Nat}, (∀ x ∈ l, x < 1000000000000000) → (sepT c l).length ≤ 21 * l.length
  | [], _ => by simp [sepT]
  | x :: r, h => by
    have h1 : (dg1 x).length ≤ 20 := dgB_size (h x (by simp))
    have h2 := sepT_len (c := c) (l := r) fun y hy => h y (List.mem_cons_of_mem _ hy)
    rw [sepT]
    simp only [List.length_append, List.length_cons] at h2 ⊢
    omega
theorem flat3_len : ∀ (N : List (Nat × Nat × Nat)), (flat3 N).length = 3 * N.length
  | [] => rfl
  | x :: r => by
    rw [show x :: r = [x] ++ r from rfl, flat3_app, List.length_append, flat3_len r]
    simp [flat3]
    omega
theorem flat3_lt : ∀ {N : List (Nat × Nat × Nat)}, (∀ x ∈ N, x.1 < 1000000000000000 ∧ x.2.1 < 1000000000000000 ∧ x.2.2 < 1000000000000000) → ∀ y ∈ flat3 N, y < 1000000000000000
  | [], _, y, hy => by simp [flat3] at hy
  | x :: r, h, y, hy => by
    rw [show x :: r = [x] ++ r from rfl, flat3_app] at hy
    obtain ⟨h1, h2, h3⟩ := h x (by simp)
    rcases List.mem_append.1 hy with hy | hy
    · simp [flat3] at hy
      rcases hy with rfl | rfl | rfl <;> assumption
    · exact flat3_lt (fun z hz => h z (List.mem_cons_of_mem _ hz)) y hy
theorem diagT_len {N : List (Nat × Nat × Nat)} {r : Nat} (hr : r < 1000000000000000) (hN : ∀ x ∈ N, x.1 < 1000000000000000 ∧ x.2.1 < 1000000000000000 ∧ x.2.2 < 1000000000000000) (hl : N.length ≤ 1000000) : (diagT N r).length ≤ maxLen := by
  have h1 : (dg1 r).length ≤ 20 := dgB_size hr
  have h2 := sepT_len (c := 32) (flat3_lt hN)
  have h3 := flat3_len N
  unfold diagT keyT maxLen
  rw [List.length_append]
  omega
structure KOk (R : Fn3 → Dg3 → Prop) (G : List Gt) (K : List Nat) : Prop where
  len : K.length = G.length
  cls : ∀ i j d e, i < G.length → j < G.length → R (fun ρ => vl ρ G i) d → R (fun ρ => vl ρ G j) e → (K.getD i 0 = K.getD j 0 ↔ d = e)
  sz : ∀ f d, R f d → d.2 < 1000000000000000 ∧ ∀ x ∈ d.1, x.1 < 1000000000000000 ∧ x.2.1 < 1000000000000000 ∧ x.2.2 < 1000000000000000
def kB (d : Dg3) : ByteArray := ⟨(diagT d.1 d.2).toArray⟩
theorem kB_inj {d e : Dg3} (h : Value.string (kB d) = .string (kB e)) : d = e := by
  injection h with h
  have := congrArg (fun b : ByteArray => b.data.toList) h
  obtain ⟨h1, h2⟩ := diagT_inj (show diagT d.1 d.2 = diagT e.1 e.2 by simpa [kB] using this)
  exact Prod.ext h1 h2
def MapUp (K : List Nat) (ds : List DN) (k : Nat) (m : Value → Option Int) : Prop :=
  (∀ (i : Nat) (x : DN), i < k → ds[i]? = some x → m (.string (kB x.2.2)) = some ((fst1 K i : Nat) : Int)) ∧ ∀ (s : ByteArray) (z : Int), m (.string s) = some z → ∃ (i : Nat) (x : DN), i < k ∧ ds[i]? = some x ∧ s = kB x.2.2
theorem fst1_congr {K : List Nat} {i j : Nat} (h : K.getD i 0 = K.getD j 0) : fst1 K i = fst1 K j := by unfold fst1; rw [h]
theorem fst1_self {K : List Nat} {k : Nat} (hk : k < K.length) (h : ∀ i, i < k → K.getD i 0 ≠ K.getD k 0) : fst1 K k = k := by
  obtain ⟨h1, h2⟩ := fst1_spec hk
  rcases Nat.lt_or_ge (fst1 K k) k with h3 | h3
  · exact absurd h2 (h _ h3)
  · omega
section
variable {R : Fn3 → Dg3 → Prop} {G : List Gt} {K : List Nat} {ds : List DN} {k : Nat} {m : Value → Option Int}
theorem MapUp.hit (hK : KOk R G K) (hR : ∀ (i : Nat) (x : DN), ds[i]? = some x → R (fun ρ => vl ρ G i) x.2.2) (hl : ds.length = G.length) (h : MapUp K ds k m) (hk : k < G.length) {x : DN} (hx : ds[k]? = some x) {z : Int} (hz : m (.string (kB x.2.2)) = some z) : z = ((fst1 K k : Nat) : Int) ∧ MapUp K ds (k + 1) m := by
  obtain ⟨i, y, hi, hy, he⟩ := h.2 _ _ hz
  have hxy : x.2.2 = y.2.2 := kB_inj (by rw [he])
  have hc := (hK.cls i k y.2.2 x.2.2 (by omega) hk (hR i y hy) (hR k x hx)).2 hxy.symm
  have hf := fst1_congr hc
  have hz2 := h.1 i y hi hy
  rw [← hxy, hz] at hz2
  injection hz2 with hz2
  refine ⟨by rw [hz2, hf], fun j w hj hw => ?_, fun s z hs => ?_⟩
  · rcases Nat.lt_or_ge j k with hjk | hjk
    · exact h.1 j w hjk hw
    · have : j = k := by omega
      subst this
      rw [hx] at hw
      injection hw with hw
      rw [← hw, hz, hz2, hf]
  · obtain ⟨i, y, hi, hy, he⟩ := h.2 s z hs
    exact ⟨i, y, by omega, hy, he⟩
theorem MapUp.miss (hK : KOk R G K) (hR : ∀ (i : Nat) (x : DN), ds[i]? = some x → R (fun ρ => vl ρ G i) x.2.2) (hl : ds.length = G.length) (h : MapUp K ds k m) (hk : k < G.length) {x : DN} (hx : ds[k]? = some x) (hz : m (.string (kB x.2.2)) = none) :
    fst1 K k = k ∧ ∀ m', m' (.string (kB x.2.2)) = some ((k : Nat) : Int) → (∀ j, j ≠ .string (kB x.2.2) → m' j = m j) → MapUp K ds (k + 1) m' := by
  have hne : ∀ i, i < k → ∀ y, ds[i]? = some y → y.2.2 ≠ x.2.2 := fun i hi y hy e => by
    have := h.1 i y hi hy
    rw [e, hz] at this
    cases this
  have hf : fst1 K k = k := fst1_self (by rw [hK.len]; exact hk) fun i hi e => by
    obtain ⟨y, hy⟩ : ∃ y, ds[i]? = some y := ⟨_, List.getElem?_eq_getElem (by omega)⟩
    exact hne i hi y hy ((hK.cls i k y.2.2 x.2.2 (by omega) hk (hR i y hy) (hR k x hx)).1 e)
  refine ⟨hf, fun m' h1 h2 => ⟨fun j w hj hw => ?_, fun s z hs => ?_⟩⟩
  · rcases Nat.lt_or_ge j k with hjk | hjk
    · rw [h2 _ fun e => hne j hjk w hw (kB_inj e)]
      exact h.1 j w hjk hw
    · have : j = k := by omega
      subst this
      rw [hx] at hw
      injection hw with hw
      rw [← hw, h1, hf]
  · by_cases e : Value.string s = .string (kB x.2.2)
    · injection e with e
      exact ⟨k, x, by omega, hx, e⟩
    · rw [h2 _ e] at hs
      obtain ⟨i, y, hi, hy, he⟩ := h.2 s z hs
      exact ⟨i, y, by omega, hy, he⟩
end
def trL {α : Type} (f : α → α) (l : List α) (j : Nat) : List α := (l.take j).map f ++ l.drop j
theorem trL_zero {α : Type} (f : α → α) (l : List α) : trL f l 0 = l := by simp [trL]
theorem trL_all {α : Type} (f : α → α) (l : List α) : trL f l l.length = l.map f := by simp [trL]
theorem trL_len {α : Type} (f : α → α) (l : List α) (j : Nat) : (trL f l j).length = l.length := by simp [trL]; omega
theorem trL_at {α : Type} {f : α → α} {l : List α} {j : Nat} {x : α} (h : l[j]? = some x) : (trL f l j)[j]? = some x := by
  have hj := (List.getElem?_eq_some_iff.1 h).1
  have hl : ((l.take j).map f).length = j := by rw [List.length_map, List.length_take]; omega
  unfold trL
  rw [List.getElem?_append_right (by omega), hl, Nat.sub_self, List.getElem?_drop, Nat.add_zero, h]
theorem trL_set {α : Type} {f : α → α} {l : List α} {j : Nat} {x : α} (h : l[j]? = some x) : (trL f l j).set j (f x) = trL f l (j + 1) := by
  have hj := (List.getElem?_eq_some_iff.1 h).1
  have hl : ((l.take j).map f).length = j := by rw [List.length_map, List.length_take]; omega
  unfold trL
  rw [List.set_append_right _ _ (by omega), hl, Nat.sub_self, List.take_add_one, h, List.map_append, List.append_assoc]
  congr 1
  rw [List.drop_eq_getElem_cons hj]
  have hx : l[j] = x := by rw [List.getElem?_eq_getElem hj] at h; injection h
  rw [hx]
  simp
def Tr (f : Int → Int) (us us' : List UG) (i j : Nat) : Prop := us'.length = us.length ∧ ∀ (p : Nat) (u : UG), us[p]? = some u → us'[p]? = some ((u.1.1, u.1.2.1, trL f u.1.2.2 (if p < i then u.1.2.2.length else if p = i then j else 0)), u.2)
theorem Tr.start (f : Int → Int) (us : List UG) : Tr f us us 0 0 := ⟨rfl, fun p u h => by rw [if_neg (by omega), ite_self, trL_zero]; exact h⟩
theorem Tr.at {f : Int → Int} {us us' : List UG} {i j : Nat} (h : Tr f us us' i j) {u : UG} (hu : us[i]? = some u) : us'[i]? = some ((u.1.1, u.1.2.1, trL f u.1.2.2 j), u.2) := by
  have := h.2 i u hu
  rwa [if_neg (by omega), if_pos rfl] at this
theorem Tr.next {f : Int → Int} {us us' : List UG} {i : Nat} {u : UG} (hu : us[i]? = some u) (h : Tr f us us' i u.1.2.2.length) : Tr f us us' (i + 1) 0 := by
  refine ⟨h.1, fun p w hw => ?_⟩
  have := h.2 p w hw
  rcases Nat.lt_trichotomy p i with h1 | h1 | h1
  · rw [if_pos h1] at this
    rw [if_pos (by omega)]
    exact this
  · subst h1
    rw [hu] at hw
    injection hw with hw
    subst hw
    rw [if_neg (by omega), if_pos rfl] at this
    rw [if_pos (by omega)]
    exact this
  · rw [if_neg (by omega), if_neg (by omega)] at this
    rw [if_neg (by omega), ite_self]
    exact this
theorem Tr.set {f : Int → Int} {us us' : List UG} {i j : Nat} (h : Tr f us us' i j) {u : UG} (hu : us[i]? = some u) {x : Int} (hx : u.1.2.2[j]? = some x) : Tr f us (us'.set i ((u.1.1, u.1.2.1, (trL f u.1.2.2 j).set j (f x)), u.2)) i (j + 1) := by
  refine ⟨by rw [List.length_set]; exact h.1, fun p w hw => ?_⟩
  have := h.2 p w hw
  by_cases hp : p = i
  · subst hp
    rw [hu] at hw
    injection hw with hw
    subst hw
    have hl := (List.getElem?_eq_some_iff.1 this).1
    rw [List.getElem?_set_self hl, if_neg (by omega), if_pos rfl, trL_set hx]
  · rw [List.getElem?_set_ne (fun e => hp e.symm), this, if_neg hp, if_neg hp]
theorem Tr.done {f : Int → Int} {us us' : List UG} (h : Tr f us us' us.length 0) : us'.map (·.1) = (us.map (·.1)).map fun x => (x.1, x.2.1, x.2.2.map f) := by
  apply List.ext_getElem?
  intro p
  rw [List.getElem?_map, List.getElem?_map, List.getElem?_map]
  rcases Nat.lt_or_ge p us.length with hp | hp
  · obtain ⟨u, hu⟩ : ∃ u, us[p]? = some u := ⟨_, List.getElem?_eq_getElem hp⟩
    have := h.2 p u hu
    rw [if_pos hp, trL_all] at this
    rw [this, hu]
    rfl
  · rw [List.getElem?_eq_none (by rw [h.1]; exact hp), List.getElem?_eq_none hp]
    rfl
theorem Kids.apart {w : World} {base : Nat} {v : Value} {us : List UG} (h : Kids w base v us) {p q : Nat} {x y : UG} (hx : us[p]? = some x) (hy : us[q]? = some y) (hpq : p ≠ q) {b : Nat} (hb : (inV x).ownBlock = some b) : (inV y).ownBlock ≠ some b := by
  obtain ⟨hp, rfl⟩ := List.getElem?_eq_some_iff.1 hx
  obtain ⟨hq, rfl⟩ := List.getElem?_eq_some_iff.1 hy
  have hw := List.pairwise_iff_getElem.1 h.2
  rcases Nat.lt_or_ge p q with hlt | hge
  · exact hw p q hp hq hlt b hb
  · intro e
    exact hw q p hq hp (by omega) b e hb
theorem cellsZ_hd : ∀ {us vs : List UG}, us.length = vs.length → (∀ (p : Nat) (u v : UG), us[p]? = some u → vs[p]? = some v → u.1.1 = v.1.1 ∧ u.1.2.1 = v.1.2.1 ∧ u.1.2.2.length = v.1.2.2.length ∧ u.2 = v.2) → cellsZ us = cellsZ vs
  | [], [], _, _ => rfl
  | [], _ :: _, h, _ => by simp at h
  | _ :: _, [], h, _ => by simp at h
  | x :: us, y :: vs, h, hh => by
    obtain ⟨h1, h2, h3, h4⟩ := hh 0 x y rfl rfl
    rw [cellsZ, cellsZ, h1, h2, h3, h4, cellsZ_hd (by simpa using h) fun p u v hu hv => hh (p + 1) u v (by simpa using hu) (by simpa using hv)]
theorem ownV_set {w : World} {base g n c : Nat} {l : List Int} (h : OwnV w base 3 (.slice (some ⟨g, 0, none⟩) n c) (intsV l)) (j : Nat) (y : Int) : OwnV (w.setCell ⟨g, j, none⟩ (.int .i64 y)) base 3 (.slice (some ⟨g, 0, none⟩) n c) (intsV (l.set j y)) := by
  have hn : n = l.length := by
    rcases h.2 with ⟨e1, _⟩ | ⟨g', cap', cur, e1, _⟩
    · cases e1
    · injection e1 with _ e1 _
      rw [e1]; exact List.length_map ..
  subst hn
  have hl : (intsV l).length = l.length := List.length_map ..
  have h1 : w.ownsRow base 3 1 (.slice (some ⟨g, 0, none⟩) l.length c) l.length (intsV l) := by have := h; unfold OwnV at this; rwa [hl] at this
  have h2 := (World.ownsRow.stored h1 j (.int .i64 y)).1
  unfold OwnV
  have hl2 : (intsV (l.set j y)).length = l.length := by unfold intsV; rw [List.length_map, List.length_set]
  rw [hl2]
  unfold intsV at h2 ⊢
  rw [List.map_set]
  exact h2
theorem ownV_cellsI {w : World} {base g n c : Nat} {l : List Int} (h : OwnV w base 3 (.slice (some ⟨g, 0, none⟩) n c) (intsV l)) {j : Nat} {p : Int} (hj : l[j]? = some p) : w.cell? ⟨g, j, none⟩ = some (.int .i64 p) ∧ w.frozen? ⟨g, j, none⟩ = false := by
  rcases h.2 with ⟨e1, e2⟩ | ⟨g', cap', cur, e1, hg, hh, hn, hc, hcs, hcur⟩
  · cases e1
  · injection e1 with e1 _ _
    injection e1 with e1
    injection e1 with e1 _ _
    subst e1
    have hjl := (List.getElem?_eq_some_iff.1 hj).1
    have hb : (intsV l)[j]? = some (.int .i64 p) := by unfold intsV; rw [List.getElem?_map, hj]; rfl
    have hl : (intsV l).length = l.length := List.length_map ..
    rw [← hcur, List.getElem?_take_of_lt (by omega)] at hb
    refine ⟨?_, ?_⟩
    · simp [World.cell?, hh]
      simpa using hb
    · simp [World.frozen?, hh]
theorem ownK_set {W : World} {base : Nat} {v : Value} {us : List UG} (h : OwnK W base v us) {i : Nat} {u : UG} (hu : us[i]? = some u) {g : Nat} {a : Option Addr} {n c : Nat} (hg : inV u = .slice (some ⟨g, 0, none⟩) n c) (j : Nat) (y : Int) :
    OwnK (W.setCell ⟨g, j, none⟩ (.int .i64 y)) base v (us.set i ((u.1.1, u.1.2.1, u.1.2.2.set j y), u.2)) := by
  have hgb : (inV u).ownBlock = some g := by rw [hg]; rfl
  have hul := (List.getElem?_eq_some_iff.1 hu).1
  have hiv : inV ((u.1.1, u.1.2.1, u.1.2.2.set j y), u.2) = inV u := by unfold inV; rw [List.length_set]
  have hsp : ∀ (p : Nat) (x : UG), (us.set i ((u.1.1, u.1.2.1, u.1.2.2.set j y), u.2))[p]? = some x → (p = i ∧ x = ((u.1.1, u.1.2.1, u.1.2.2.set j y), u.2)) ∨ (p ≠ i ∧ us[p]? = some x) := fun p x hx => by
    by_cases hp : p = i
    · subst hp
      rw [List.getElem?_set_self hul] at hx
      injection hx with hx
      exact .inl ⟨rfl, hx.symm⟩
    · rw [List.getElem?_set_ne (fun e => hp e.symm)] at hx
      exact .inr ⟨hp, hx⟩
  have hub : ∀ (p : Nat) (x : UG), (us.set i ((u.1.1, u.1.2.1, u.1.2.2.set j y), u.2))[p]? = some x → ∃ x', us[p]? = some x' ∧ inV x = inV x' := fun p x hx => by
    rcases hsp p x hx with ⟨rfl, rfl⟩ | ⟨_, hx⟩
    · exact ⟨u, hu, hiv⟩
    · exact ⟨x, hx, rfl⟩
  have hcz : cellsZ (us.set i ((u.1.1, u.1.2.1, u.1.2.2.set j y), u.2)) = cellsZ us := cellsZ_hd (by rw [List.length_set]) fun p x x' hx hx' => by
    rcases hsp p x hx with ⟨rfl, rfl⟩ | ⟨_, hx⟩
    · rw [hu] at hx'
      injection hx' with hx'
      subst hx'
      exact ⟨rfl, rfl, List.length_set .., rfl⟩
    · rw [hx] at hx'
      injection hx' with hx'
      subst hx'
      exact ⟨rfl, rfl, rfl, rfl⟩
  refine ⟨?_, fun x hx => ?_, ?_⟩
  · rw [hcz, List.length_set]
    exact ownsRow_heap h.1 fun b hb => set_heap_ne _ fun e => by subst e; exact (h.2.1 u (List.mem_of_getElem? hu)).2 _ hgb hb
  · obtain ⟨p, hp⟩ := List.getElem?_of_mem hx
    rcases hsp p x hp with ⟨rfl, rfl⟩ | ⟨hne, hxp⟩
    · refine ⟨?_, by rw [hiv]; exact (h.2.1 u (List.mem_of_getElem? hu)).2⟩
      rw [hiv, hg]
      have := (h.2.1 u (List.mem_of_getElem? hu)).1
      rw [hg] at this
      exact ownV_set this j y
    · obtain ⟨h1, h2⟩ := h.2.1 x (List.mem_of_getElem? hxp)
      exact ⟨ownV_heap h1 fun b hb => set_heap_ne _ fun e => by subst e; exact h.2.apart hu hxp (fun e => hne e.symm) hgb hb, h2⟩
  · rw [List.pairwise_iff_getElem]
    intro p q hp hq hpq b hb
    obtain ⟨x', hx', e1⟩ := hub p _ (List.getElem?_eq_getElem hp)
    obtain ⟨y', hy', e2⟩ := hub q _ (List.getElem?_eq_getElem hq)
    rw [e1] at hb
    rw [e2]
    exact h.2.apart hx' hy' (by omega) hb
structure Rs (lo base nb rb T n : Nat) (w : World) (num : List Nat) (us : List UG) (gv ov : Value) (outs : List Int) (W : World) : Prop where
  net : W.heap[nb]? = some (.cells #[gv, ov] 25 (0, 0))
  res : W.heap[rb]? = some (.cells #[.slice none 0 0, .slice none 0 0] 25 (0, 0))
  tos : ToS W lo T n n num
  gts : OwnK W base gv us
  ous : OwnV W base 3 ov (intsV outs)
  bel : Below w.heap.size w W
  og : ∀ b, ov.ownBlock = some b → (∀ u ∈ us, (inV u).ownBlock ≠ some b) ∧ gv.ownBlock ≠ some b
  gl : (∀ b, gv.ownBlock = some b → b < T) ∧ (∀ b, ov.ownBlock = some b → b < T) ∧ ∀ u ∈ us, ∀ b, (inV u).ownBlock = some b → b < T
  sz : w.heap.size ≤ base ∧ nb < base ∧ rb < base ∧ base ≤ T
section
variable {lo base nb rb T n : Nat} {w : World} {num : List Nat} {us : List UG} {gv ov : Value} {outs : List Int} {W : World}
theorem Rs.setIn (h : Rs lo base nb rb T n w num us gv ov outs W) {i : Nat} {u : UG} (hu : us[i]? = some u) {g m c : Nat} (hg : inV u = .slice (some ⟨g, 0, none⟩) m c) (j : Nat) (y : Int) :
    Rs lo base nb rb T n w num (us.set i ((u.1.1, u.1.2.1, u.1.2.2.set j y), u.2)) gv ov outs (W.setCell ⟨g, j, none⟩ (.int .i64 y)) := by
  have hgb : (inV u).ownBlock = some g := by rw [hg]; rfl
  have hum := List.mem_of_getElem? hu
  obtain ⟨g1, g2⟩ := ownV_lt (h.gts.2.1 u hum).1 hgb
  have g3 := h.gl.2.2 u hum g hgb
  obtain ⟨s1, s2, s3, s4⟩ := h.sz
  have hiv : inV ((u.1.1, u.1.2.1, u.1.2.2.set j y), u.2) = inV u := by unfold inV; rw [List.length_set]
  refine ⟨obj_neD _ (by omega) h.net, obj_neD _ (by omega) h.res, h.tos.heap (set_heap_ne _ (by omega)), ownK_set (a := none) h.gts hu hg j y, ownV_heap h.ous fun b hb => set_heap_ne _ fun e => by subst e; exact (h.og _ hb).1 u hum hgb, h.bel.setCell (p := ⟨g, j, none⟩) (by dsimp only; omega) _, fun b hb => ⟨fun x hx => ?_, (h.og b hb).2⟩, ⟨h.gl.1, h.gl.2.1, fun x hx => ?_⟩, h.sz⟩
  · rcases List.mem_or_eq_of_mem_set hx with hx | rfl
    · exact (h.og b hb).1 x hx
    · rw [hiv]; exact (h.og b hb).1 u hum
  · rcases List.mem_or_eq_of_mem_set hx with hx | rfl
    · exact h.gl.2.2 x hx
    · rw [hiv]; exact h.gl.2.2 u hum
theorem Rs.setOut (h : Rs lo base nb rb T n w num us gv ov outs W) {g m c : Nat} (hg : ov = .slice (some ⟨g, 0, none⟩) m c) (j : Nat) (y : Int) :
    Rs lo base nb rb T n w num us gv ov (outs.set j y) (W.setCell ⟨g, j, none⟩ (.int .i64 y)) := by
  have hgb : ov.ownBlock = some g := by rw [hg]; rfl
  obtain ⟨g1, g2⟩ := ownV_lt h.ous hgb
  have g3 := h.gl.2.1 g hgb
  obtain ⟨s1, s2, s3, s4⟩ := h.sz
  obtain ⟨o1, o2⟩ := h.og g hgb
  have hous : OwnV (W.setCell ⟨g, j, none⟩ (.int .i64 y)) base 3 ov (intsV (outs.set j y)) := by
    have := h.ous
    rw [hg] at this ⊢
    exact ownV_set this j y
  refine ⟨obj_neD _ (by omega) h.net, obj_neD _ (by omega) h.res, h.tos.heap (set_heap_ne _ (by omega)), ⟨ownsRow_heap h.gts.1 fun b hb => set_heap_ne _ fun e => by subst e; exact o2 hb, fun x hx => ⟨ownV_heap (h.gts.2.1 x hx).1 fun b hb => set_heap_ne _ fun e => by subst e; exact o1 x hx hb, (h.gts.2.1 x hx).2⟩, h.gts.2.2⟩, hous, h.bel.setCell (p := ⟨g, j, none⟩) (by dsimp only; omega) _, h.og, h.gl, h.sz⟩
theorem Rs.of (h : Rs lo base nb rb T n w num us gv ov outs W) {W' : World} (hb : Below W.heap.size W W') : Rs lo base nb rb T n w num us gv ov outs W' :=
  ⟨obj_in hb h.net, obj_in hb h.res, h.tos.heap (hb.block _ h.tos.lt.2), ownK_bel h.gts hb, ownV_heap h.ous fun g hg => hb.block g (ownV_lt h.ous hg).2, h.bel.trans (hb.mono (h.bel.size)), h.og, h.gl, h.sz⟩
end
theorem ownK_cell {w : World} {base : Nat} {v : Value} {us : List UG} (h : OwnK w base v us) {i : Nat} {u : UG} (hu : us[i]? = some u) : ∃ g cap, v = .slice (some ⟨g, 0, none⟩) us.length cap ∧ w.cell? ⟨g, i * 3, none⟩ = some (.int .i64 u.1.1) ∧ w.cell? ⟨g, i * 3 + 1, none⟩ = some (.int .i64 u.1.2.1) ∧ w.cell? ⟨g, i * 3 + 2, none⟩ = some (inV u) := by
  have hil := (List.getElem?_eq_some_iff.1 hu).1
  rcases h.1.2 with ⟨rfl, h0⟩ | ⟨g, cap, cur, rfl, hg, hh, hn, hc, hcs, hcur⟩
  · omega
  · obtain ⟨k0, k1, k2⟩ := cellsZ_at us i _ hu
    have hcell : ∀ (i : Nat) (y : Value), i < us.length * 3 → (cellsZ us)[i]? = some y → w.cell? ⟨g, i, none⟩ = some y := fun i y hi hx => by
      rw [← hcur, List.getElem?_take_of_lt hi] at hx
      simp [World.cell?, hh]
      simpa using hx
    exact ⟨g, cap, rfl, hcell _ _ (by omega) k0, hcell _ _ (by omega) k1, hcell _ _ (by omega) k2⟩
def joF (K : List Nat) (z : Int) : Int := ((fst1 K z.toNat : Nat) : Int)
theorem join_gz (K : List Nat) (N : Nt) : ((N.1.map gz).map fun x => (x.1, x.2.1, x.2.2.map (joF K))) = (joinN K N).1.map gz := by
  unfold joinN
  rw [List.map_map, List.map_map]
  refine List.map_congr_left fun g _ => ?_
  simp only [Function.comp, gz, List.map_map]
  refine Prod.ext rfl (Prod.ext rfl (List.map_congr_left fun k _ => ?_))
  simp [joF]
theorem join_out (K : List Nat) (N : Nt) : (intsN N.2).map (joF K) = intsN (joinN K N).2 := by
  unfold joinN intsN
  rw [List.map_map, List.map_map]
  refine List.map_congr_left fun k _ => ?_
  simp [joF]
theorem range_getD {n p : Nat} (f : Nat → Nat) (h : p < n) : ((List.range n).map f).getD p 0 = f p := by
  rw [List.getD_eq_getElem?_getD, List.getElem?_map, List.getElem?_range h]
  rfl
theorem ownV_addr {w : World} {base : Nat} {a : Option Addr} {n c : Nat} {l : List Int} (h : OwnV w base 3 (.slice a n c) (intsV l)) (h0 : 0 < l.length) : ∃ g, a = some ⟨g, 0, none⟩ := by
  have hl : (intsV l).length = l.length := List.length_map ..
  rcases h.2 with ⟨_, e2⟩ | ⟨g, cap, cur, e1, _⟩
  · omega
  · injection e1 with e1 _ _
    exact ⟨g, e1⟩
theorem gz_in {v : Nat} {G : List Gt} (ho : okL v G) {us : List UG} (hus : us.map (·.1) = G.map gz) {i : Nat} {u : UG} (hu : us[i]? = some u) {j : Nat} {x : Int} (hx : u.1.2.2[j]? = some x) : ∃ p : Nat, x = (p : Int) ∧ p < i := by
  have h1 : (us.map (·.1))[i]? = some u.1 := by rw [List.getElem?_map, hu]; rfl
  rw [hus, List.getElem?_map] at h1
  obtain ⟨g, hg, hgu⟩ := Option.map_eq_some_iff.1 h1
  rw [← hgu] at hx
  dsimp only [gz] at hx
  rw [List.getElem?_map] at hx
  obtain ⟨p, hp, rfl⟩ := Option.map_eq_some_iff.1 hx
  exact ⟨p, rfl, okG_ins (ho i g hg) p (List.mem_of_getElem? hp)⟩
theorem gz_row {G : List Gt} {us : List UG} (hus : us.map (·.1) = G.map gz) {i : Nat} {u : UG} (hu : us[i]? = some u) : ∃ g, G[i]? = some g ∧ gz g = u.1 := by
  have h1 : (us.map (·.1))[i]? = some u.1 := by rw [List.getElem?_map, hu]; rfl
  rw [hus, List.getElem?_map] at h1
  obtain ⟨g, hg, hgu⟩ := Option.map_eq_some_iff.1 h1
  exact ⟨g, hg, hgu⟩
end Go.Proofs.YtlnedapimmabdaaGreatDoor
