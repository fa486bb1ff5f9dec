/- Networks in a world, and what the functions return for them (six variables). Equal and Compare for networks of six variables. -/
import Derived.Test.YtlnedapimmabdaaGreatDoorVs
import Derived.Test.YtlnedapimmabdaaGreatDoorY1
namespace Go.Proofs.YtlnedapimmabdaaGreatDoor
set_option linter.unusedVariables false
set_option linter.unusedSimpArgs false
open Go.RowKit Go.Maps
attribute [local go_sem low] Bel.cell Bel.frozen alloc_cell alloc_frozen

structure NWs (v : Nat) (w : World) (x : NW) : Prop where
  ok : NWok v w x
  l1 : x.1.1.length ≤ 50000
  l2 : x.1.2.length ≤ 1000000
  l3 : ∀ g ∈ x.1.1, g.2.2.length ≤ 1000000
theorem NWs.l3w {v : Nat} {w : World} {x : NW} (h : NWs v w x) : ∀ g ∈ x.1.1, g.2.2.length ≤ 17592186044416 := fun g hg => by have := h.l3 g hg; omega
theorem NWs.of {v : Nat} {w w' : World} {x : NW} (h : NWs v w x) (hb : Below w.heap.size w w') : NWs v w' x := ⟨h.ok.of hb, h.l1, h.l2, h.l3⟩
theorem nws_of {v : Nat} {w : World} {base : Nat} {us : List UG} {ga : Option Addr} {gc : Nat} {ov : Value} {N : Nt} (hu : us.map (·.1) = N.1.map gz) (hk : OwnK w base (.slice ga us.length gc) us) (hov : OwnV w base 3 ov (intsV (intsN N.2))) (hok : okN v N) (l1 : N.1.length ≤ 50000) (l2 : N.2.length ≤ 1000000) (l3 : ∀ g ∈ N.1, g.2.2.length ≤ 1000000) :
    ∃ y : NW, y.1 = N ∧ NWs v w y ∧ nwV y = .agg #[.slice ga us.length gc, ov] := by
  have hul : us.length = N.1.length := by have := congrArg List.length hu; simpa using this
  have hol : (intsV (intsN N.2)).length = N.2.length := by simp [intsV, intsN]
  have hg : InGt (fun b => b < w.heap.size) w ga (N.1.map gz) := by
    obtain ⟨a', c', h1, h2⟩ := ownK_in hk
    injection h1 with h1 h3 h4
    subst h1
    rw [hu] at h2
    exact h2.imp fun b hb _ => hb
  obtain ⟨oa, oc, cl⟩ : ∃ oa oc, ov = .slice oa N.2.length oc ∧ N.2.length ≤ oc ∧ oc ≤ 9223372036854775807 := by
    rcases hov.2 with ⟨rfl, h0⟩ | ⟨g, cap, cur, rfl, hg', hh, hn, hc, _⟩
    · rw [hol] at h0
      exact ⟨none, 0, by rw [h0], by omega, by omega⟩
    · rw [hol] at hn
      unfold maxLen at hc
      exact ⟨_, cap, by rw [hol], hn, by omega⟩
  obtain ⟨rfl, c1, c2⟩ := cl
  have hinl : (intsN N.2).length = N.2.length := List.length_map ..
  have ho : InS (fun b => b < w.heap.size) w oa (intsN N.2) := by
    have h := hov
    rw [← hinl] at h
    exact (inS_of_ownV h).imp fun b hb _ => hb
  exact ⟨(N, ga, gc, oa, oc), rfl, ⟨⟨hok, hg, ho, by show N.1.length ≤ _; omega, by show N.2.length ≤ _; omega, c1, c2, fun g h => by have := l3 g h; omega⟩, l1, l2, l3⟩, by unfold nwV nV; dsimp only; rw [hul]⟩
def RetN1 (v : Nat) (N : Nt) (w : World) (e : Ending) (w' : World) : Prop := ∃ y : NW, y.1 = N ∧ NWs v w' y ∧ e = .returned (nwV y) ∧ Below w.heap.size w w'
def RetN2 (v : Nat) (N : Nt) (w : World) (e : Ending) (w' : World) : Prop := ∃ y : NW, y.1 = N ∧ NWs v w' y ∧ e = .returned (.tuple #[nwV y, .int .i64 0]) ∧ Below w.heap.size w w'
theorem clean_sz {v : Nat} {N : Nt} (h : okN v N) (l1 : N.1.length ≤ 50000) (l2 : N.2.length ≤ 1000000) : okN v (cleanG N) ∧ (cleanG N).1.length ≤ 50000 ∧ (cleanG N).2.length ≤ 1000000 ∧ ∀ g ∈ (cleanG N).1, g.2.2.length ≤ 1000000 := by
  obtain ⟨h1, h2, h3, -⟩ := cleanG_ok h
  exact ⟨h1, by omega, by omega, fun g hg => by have := irr_ins h1.1 (cleanG_clean h).irr g hg; omega⟩
theorem reduce_sz {N : Nt} (h : okN 6 N) (l1 : N.1.length ≤ 50000) (l2 : N.2.length ≤ 1000000) : okN 6 (reduceG tabsG N) ∧ (reduceG tabsG N).1.length ≤ 50000 ∧ (reduceG tabsG N).2.length ≤ 1000000 ∧ ∀ g ∈ (reduceG tabsG N).1, g.2.2.length ≤ 1000000 := by
  obtain ⟨h1, h2, h3, -⟩ := reduceG_ok tabs_ok h
  have h4 := (cleanG_ok h).2.1
  exact ⟨h1.ok, by omega, by omega, fun g hg => by have := irr_ins h1.ok.1 h1.irr g hg; omega⟩
theorem RetNt.nw {v : Nat} {N : Nt} {w w' : World} {e : Ending} (hok : okN v N) (l1 : N.1.length ≤ 50000) (l2 : N.2.length ≤ 1000000) (l3 : ∀ g ∈ N.1, g.2.2.length ≤ 1000000) (h : RetNt N w e w') : RetN1 v N w e w' := by
  obtain ⟨us, ga, gc, ov, hu, rfl, hk, hov, _, _, hb⟩ := h
  obtain ⟨y, h1, h2, h3⟩ := nws_of hu hk hov hok l1 l2 l3
  exact ⟨y, h1, h2, by rw [h3], hb⟩
theorem RetNe.nw {v : Nat} {N : Nt} {w w' : World} {e : Ending} (hok : okN v N) (l1 : N.1.length ≤ 50000) (l2 : N.2.length ≤ 1000000) (l3 : ∀ g ∈ N.1, g.2.2.length ≤ 1000000) (h : RetNe N w e w') : RetN2 v N w e w' := by
  obtain ⟨us, ga, gc, ov, hu, rfl, hk, hov, _, _, hb⟩ := h
  obtain ⟨y, h1, h2, h3⟩ := nws_of hu hk hov hok l1 l2 l3
  exact ⟨y, h1, h2, by rw [h3], hb⟩
theorem Clean_nw {v : Nat} (hv : v ≤ 100000000) (x : NW) (w : World) (h : NWs v w x) (hT : Tab w) : Calls Tryz.prog 13 #[nwV x, .int .i64 (v : Int)] w (RetN2 v (cleanG x.1) w) := by
  obtain ⟨c1, c2, c3, c4⟩ := clean_sz h.ok.ok h.l1 h.l2
  exact (Clean_ok x.1.1 x.1.2 v _ x.2.1 x.2.2.2.1 x.2.2.1 x.2.2.2.2 w h.ok.ok.1 h.ok.hg h.ok.ho h.ok.ok.2 h.l1 h.l2 h.l3w hv hT).mono fun e w' hr => hr.nw c1 c2 c3 c4
theorem map_injG {α β : Type} {f : α → β} (hf : ∀ x y, f x = f y → x = y) : ∀ {a b : List α}, a.map f = b.map f → a = b
  | [], [], _ => rfl
  | [], _ :: _, h => by simp at h
  | _ :: _, [], h => by simp at h
  | x :: a, y :: b, h => by
    rw [List.map_cons, List.map_cons] at h
    injection h with h1 h2
    rw [hf x y h1, map_injG hf h2]
theorem cast_inj (x y : Nat) (h : (x : Int) = (y : Int)) : x = y := by omega
theorem gz_ne (g h : Gt) (e : gz g = gz h) : g = h := by
  unfold gz at e
  injection e with e1 e2
  injection e2 with e2 e3
  exact Prod.ext (by omega) (Prod.ext (by omega) (map_injG cast_inj e3))
theorem net_eq {M N : Nt} : (M.1.map gz = N.1.map gz ∧ intsN M.2 = intsN N.2) ↔ M = N := by
  constructor
  · rintro ⟨h1, h2⟩
    exact Prod.ext (map_injG gz_ne h1) (map_injG cast_inj h2)
  · rintro rfl
    exact ⟨rfl, rfl⟩
theorem relEq_nw {v v' : Nat} (x y : NW) (w : World) (h : NWs v w x) (h' : NWs v' w y) : Calls Tryz.prog 14 #[nwV x, nwV y] w (Ret (.bool (decide (x.1 = y.1))) w) := by
  have gi : ∀ {G : List Gt}, (∀ g ∈ G, g.2.2.length ≤ 1000000) → ∀ x ∈ G.map gz, x.2.2.length ≤ 9223372036854775807 := fun hG x hx => gz_ins (fun g hg => by have := hG g hg; omega) x hx
  have hh := relayEqual_any (x.1.1.map gz) (y.1.1.map gz) (intsN x.1.2) (intsN y.1.2) _ _ _ _ x.2.1 y.2.1 x.2.2.2.1 y.2.2.2.1 x.2.2.1 y.2.2.1 x.2.2.2.2 y.2.2.2.2 w h.ok.hg h'.ok.hg h.ok.ho h'.ok.ho (by rw [List.length_map]; have := h.l1; omega) (by rw [List.length_map]; have := h'.l1; omega) (gi h.l3) (gi h'.l3) (by unfold intsN; rw [List.length_map]; have := h.l2; omega) (by unfold intsN; rw [List.length_map]; have := h'.l2; omega)
  rw [List.length_map, List.length_map, show (intsN x.1.2).length = x.1.2.length from List.length_map .., show (intsN y.1.2).length = y.1.2.length from List.length_map .., show decide (x.1.1.map gz = y.1.1.map gz ∧ intsN x.1.2 = intsN y.1.2) = decide (x.1 = y.1) from by rw [decide_eq_decide]; exact net_eq] at hh
  exact hh
theorem check_nw {v : Nat} (x : NW) (w : World) (h : NWs v w x) : Calls Tryz.prog 29 #[nwV x, .int .i64 (v : Int)] w (Ret (.int .i64 0) w) := by
  have hz : nErr (x.1.1.map gz) (intsN x.1.2) (v : Int) = 0 := nErr_of h.ok.ok h.l1
  have hh := check_any (x.1.1.map gz) (intsN x.1.2) v _ x.2.1 x.2.2.2.1 x.2.2.1 x.2.2.2.2 w h.ok.hg h.ok.ho (by rw [List.length_map]; have := h.l1; omega) (gz_ins h.l3w) (by unfold intsN; rw [List.length_map]; have := h.l2; omega)
  rw [List.length_map, show (intsN x.1.2).length = x.1.2.length from List.length_map .., hz] at hh
  exact hh
theorem supG_spec (G : List Gt) (outs : List Nat) : (supG G outs).Pairwise (· < ·) ∧ ∀ z, z ∈ supG G outs ↔ ∃ j, j < G.length ∧ reachG G outs j = true ∧ (gtAt G j).1 = 1 ∧ z = ((gtAt G j).2.1 : Int) := by
  have hs : ((supL G (reachG G outs) G.length).mergeSort fun x y => decide (x ≤ y)).Pairwise (· ≤ ·) := by
    have := List.pairwise_mergeSort (le := fun x y : Int => decide (x ≤ y)) (fun a b c h1 h2 => by simp at *; omega) (fun a b => by simp; omega) (supL G (reachG G outs) G.length)
    exact this.imp fun h => by simpa using h
  obtain ⟨h1, h2⟩ := compact_sorted _ hs
  refine ⟨h1, fun z => ?_⟩
  unfold supG
  rw [h2 z, List.mem_mergeSort]
  unfold supL
  simp only [List.mem_map, List.mem_filter, List.mem_range, Bool.and_eq_true, decide_eq_true_eq]
  constructor
  · rintro ⟨j, ⟨h1, h2, h3⟩, rfl⟩
    exact ⟨j, h1, h2, h3, rfl⟩
  · rintro ⟨j, h1, h2, h3, rfl⟩
    exact ⟨j, ⟨h1, h2, h3⟩, rfl⟩
theorem supG_len {v : Nat} {G : List Gt} (ho : okL v G) (outs : List Nat) : (supG G outs).length ≤ v := by
  obtain ⟨h1, h2⟩ := supG_spec G outs
  have hm : ∀ z ∈ supG G outs, 0 ≤ z ∧ z < v := fun z hz => by
    obtain ⟨j, hj, _, hk, rfl⟩ := (h2 z).1 hz
    have := ho j _ (gtAt_get hj)
    rcases this with h | h | h | h
    · exact ⟨by omega, by omega⟩
    all_goals omega
  refine inj_le (f := Int.toNat) (h1.imp fun {a b} h => by omega) (fun z hz => by have := hm z hz; omega) fun a ha b hb e => by have := hm a ha; have := hm b hb; omega
theorem bErr_zero {v : Nat} (hv : v ≤ 20) {ns : List NW} (h : ∀ x ∈ ns, okL v x.1.1) : bErr v ns = 0 := by
  unfold bErr
  rw [if_neg (by omega), if_neg]
  rw [Bool.not_eq_true, List.any_eq_false]
  intro x hx
  rw [Bool.not_eq_true, List.any_eq_false]
  intro o _
  unfold bigO
  have := supG_len (h x hx) [o]
  simp
  omega
theorem kok6 {G : List Gt} (hok : okL 6 G) : KOk R6 G (tabsG G) where
  len := tabs_len G
  cls := fun i j d e hi hj h1 h2 => by
    rw [R6_eq h1 h2, tabs_getD hi, tabs_getD hj, tabI_eq hok hok hi hj]
    exact ⟨fun h => funext h, fun h ρ => congrFun h ρ⟩
  sz := fun f d ⟨t, ht, _, hd⟩ => by
    obtain ⟨hD, _⟩ := dgm_bld ht
    have hl := bld_len ht
    have hr := hD.root
    rw [hd]
    refine ⟨by dsimp only; omega, fun x hx => ?_⟩
    obtain ⟨i, hi⟩ := List.mem_iff_getElem?.1 hx
    have hil := (List.getElem?_eq_some_iff.1 hi).1
    obtain ⟨a1, a2, a3, _⟩ := hD.good i x hi
    dsimp only at hil
    exact ⟨by omega, by omega, by omega⟩
theorem okL_mono {v u : Nat} {G : List Gt} (h : okL v G) (hu : v ≤ u) : okL u G := fun i g hg => by
  rcases h i g hg with ⟨a, b, c⟩ | h | h | h
  · exact .inl ⟨a, by omega, c⟩
  · exact .inr (.inl h)
  · exact .inr (.inr (.inl h))
  · exact .inr (.inr (.inr h))
theorem Reduce_nw {v : Nat} (hv : v ≤ 6) (x : NW) (w : World) (h : NWs v w x) (hT : Tab w) : Calls Tryz.prog 16 #[nwV x, .int .i64 (v : Int)] w (RetN2 6 (reduceG tabsG x.1) w) := by
  have ok6 : okN 6 x.1 := ⟨okL_mono h.ok.ok.1 hv, h.ok.ok.2⟩
  obtain ⟨c1, c2, c3, c4⟩ := reduce_sz ok6 h.l1 h.l2
  have hcl := (cleanG_ok ok6).1
  exact (Reduce_ok R6 (tabsG (cleanG x.1).1) x.1.1 x.1.2 v x.2.1 x.2.2.2.1 x.2.2.1 x.2.2.2.2 w h.ok.ok.1 h.ok.hg h.ok.ho h.ok.ok.2 h.l1 h.l2 h.ok.hoc h.ok.hoc2 h.l3w (bErr_zero (by omega) fun y hy => by rw [List.mem_singleton.1 hy]; exact h.ok.ok.1) (by omega) hT (net6 hcl.1 _) (kok6 hcl.1)).mono fun e w' hr => hr.nw c1 c2 c3 c4
end Go.Proofs.YtlnedapimmabdaaGreatDoor

namespace Go.Proofs.YtlnedapimmabdaaGreatDoor
set_option linter.unusedVariables false
set_option linter.unusedSimpArgs false
open Go.RowKit Go.Maps
attribute [local go_sem low] Bel.cell Bel.frozen alloc_cell alloc_frozen

theorem inNs_two {W : World} {T : Nat} {x y : NW} {e : TypeId} (h : W.heap[T]? = some (.cells #[.slice x.2.1 x.1.1.length x.2.2.1, .slice x.2.2.2.1 x.1.2.length x.2.2.2.2, .slice y.2.1 y.1.1.length y.2.2.1, .slice y.2.2.2.1 y.1.2.length y.2.2.2.2] e (0, 0))) : InNs W (some ⟨T, 0, none⟩) [x, y] := fun _ => ⟨T, 0, rfl, fun j z hj => by
  match j, hj with
  | 0, hj =>
    simp at hj
    subst hj
    constructor <;> simp [World.cell?, h]
  | 1, hj =>
    simp at hj
    subst hj
    constructor <;> simp [World.cell?, h]
  | j + 2, hj => simp at hj⟩
theorem pair_nw {v : Nat} (hv : v ≤ 6) (x y : NW) (w : World) (h : NWs v w x) (h' : NWs v w y) (hl : x.1.2.length = y.1.2.length) : Calls Tryz.prog 41 #[nwV x, nwV y, .int .i64 (v : Int)] w (RetP R6 (outF x.1.1 x.1.2) (outF y.1.1 y.1.2) w) :=
  pair_any (RetP R6 (outF x.1.1 x.1.2) (outF y.1.1 y.1.2) w) R6 (outF x.1.1 x.1.2) (outF y.1.1 y.1.2) 0 0 0 x.1.1.length y.1.1.length x.1.2.length y.1.2.length v x.2.1 x.2.2.2.1 y.2.1 y.2.2.2.1 x.2.2.1 x.2.2.2.2 y.2.2.1 y.2.2.2.2 w (by have := h.l2; omega) (by have := h'.l2; omega)
    (fun w' hb => check_nw x w' (h.of hb)) (fun w' hb => check_nw y w' (h'.of hb))
    (fun _ _ _ w' hb T hT => by
      have hh := bounded_any v [x, y] (some ⟨T, 0, none⟩) 2 v w' (fun z hz => by
        rcases List.mem_cons.1 hz with rfl | hz
        · exact (h.of hb).ok
        · rw [List.mem_singleton.1 hz]; exact (h'.of hb).ok) (inNs_two hT) (by simp)
      rw [bErr_zero (by omega) fun z hz => by
        rcases List.mem_cons.1 hz with rfl | hz
        · exact h.ok.ok.1
        · rw [List.mem_singleton.1 hz]; exact h'.ok.ok.1] at hh
      exact hh)
    (fun _ _ _ _ w' hb => outputs_any R6 x.1.1 x.1.2 v _ _ x.2.1 x.2.2.2.1 x.2.2.1 x.2.2.2.2 w' (net6 (okL_mono h.ok.ok.1 hv) _) h.ok.ok.1 (h.of hb).ok.hg (h.of hb).ok.ho h.ok.ok.2 (by have := h.l1; omega) h.l2 (fun g hg => by have := h.l3 g hg; omega))
    (fun _ _ _ _ w' hb => outputs_any R6 y.1.1 y.1.2 v _ _ y.2.1 y.2.2.2.1 y.2.2.1 y.2.2.2.2 w' (net6 (okL_mono h'.ok.ok.1 hv) _) h'.ok.ok.1 (h'.of hb).ok.hg (h'.of hb).ok.ho h'.ok.ok.2 (by have := h'.l1; omega) h'.l2 (fun g hg => by have := h'.l3 g hg; omega))
    (fun h0 => absurd rfl h0) (fun _ h0 => absurd rfl h0) (fun _ _ h0 => absurd hl h0) (fun _ _ _ h0 => absurd rfl h0) (fun _ _ _ _ e w' hr => hr)
theorem nwV_is (x : NW) : ∃ ga n gc oa m oc, nwV x = .agg #[.slice ga n gc, .slice oa m oc] := ⟨_, _, _, _, _, _, rfl⟩
theorem dec_funs {R : Fn3 → Dg3 → Prop} (he : ∀ f g d e, R f d → R g e → (d = e ↔ f = g)) : ∀ {fs gs : List Fn3} {ds es : List Dg3}, ds.length = fs.length → es.length = gs.length → (∀ (j : Nat) d f, ds[j]? = some d → fs[j]? = some f → R f d) → (∀ (j : Nat) d f, es[j]? = some d → gs[j]? = some f → R f d) → (ds = es ↔ fs = gs)
  | [], [], ds, es, h1, h2, _, _ => by
    rw [List.length_eq_zero_iff.1 h1, List.length_eq_zero_iff.1 h2]
    exact ⟨fun _ => rfl, fun _ => rfl⟩
  | [], g :: gs, ds, es, h1, h2, _, _ => by
    rw [List.length_eq_zero_iff.1 h1]
    constructor
    · intro e; rw [← e] at h2; simp at h2
    · intro e; cases e
  | f :: fs, [], ds, es, h1, h2, _, _ => by
    rw [List.length_eq_zero_iff.1 h2]
    constructor
    · intro e; rw [e] at h1; simp at h1
    · intro e; cases e
  | f :: fs, g :: gs, [], _, h1, _, _, _ => by simp at h1
  | f :: fs, g :: gs, _ :: _, [], _, h2, _, _ => by simp at h2
  | f :: fs, g :: gs, d :: ds, e :: es, h1, h2, h3, h4 => by
    have ih := dec_funs he (fs := fs) (gs := gs) (ds := ds) (es := es) (by simpa using h1) (by simpa using h2) (fun j d f hd hf => h3 (j + 1) d f (by simpa using hd) (by simpa using hf)) (fun j d f hd hf => h4 (j + 1) d f (by simpa using hd) (by simpa using hf))
    have hd := he f g d e (h3 0 d f rfl rfl) (h4 0 e g rfl rfl)
    rw [List.cons.injEq, List.cons.injEq, hd, ih]
def Wt6 (v : Nat) (f g : Fn3) (l : List Bool) : Prop := ∃ X, X < 2 ^ 64 ∧ X ≠ 0 ∧ (fun ρ => X.testBit (idx6 ρ)) = xorF f g ∧ l = wantL X 0 (min v 6) ++ List.replicate (v - 6) false
theorem cmp6 {v : Nat} (hv : v ≤ 6) {fs gs : List Fn3} (hd : ∀ (k : Nat) f g, fs[k]? = some f → gs[k]? = some g → ∀ ρ σ : Nat → Bool, (∀ x, x < v → ρ x = σ x) → xorF f g ρ = xorF f g σ) : CmpNet R6 fs gs v (Wt6 v) where
  len := fun f d ⟨t, ht, _, hd⟩ => by rw [hd]; have := bld_len ht; dsimp only; omega
  eqv := fun f g d e h1 h2 => R6_eq h1 h2
  neg := fun k f g _ _ _ d ad cap w ⟨t, ht, hf, hd⟩ hin => by
    subst hd
    refine (Not_tab t ht ad cap w hin).mono fun e w' h => ⟨(bldN (notT t), bldR (notT t)), ⟨notT t, notT_lt t, ?_, rfl⟩, h⟩
    funext ρ
    rw [notT_test ht (idx6_lt ρ), hf]
    simp [negF]
  cho := fun k f g _ _ _ d d1 d2 a0 a1 a2 c0 c1 c2 w ⟨t, ht, hf, hd⟩ ⟨u, hu, hu2, hd1⟩ ⟨s, hs, hg, hd2⟩ h0 h1 h2 => by
    subst hd hd1 hd2
    refine (Choose_tab t u s ht hu hs a0 a1 a2 c0 c1 c2 w h0 h1 h2).mono fun e w' h => ⟨_, ⟨(t &&& u) ||| (notT t &&& s), Nat.or_lt_two_pow (Nat.and_lt_two_pow _ hu) (Nat.and_lt_two_pow _ hs), ?_, rfl⟩, h⟩
    funext ρ
    have e1 := congrFun hf ρ
    have e2 := congrFun hu2 ρ
    have e3 := congrFun hg ρ
    rw [Nat.testBit_or, Nat.testBit_and, Nat.testBit_and, notT_test ht (idx6_lt ρ)]
    unfold negF at e2
    unfold xorF
    rw [← e1, ← e2, ← e3]
    cases f ρ <;> cases g ρ <;> rfl
  wit := fun k f g hf hg hne d ad cap w ⟨X, hX, hfx, hdX⟩ hin => by
    subst hdX
    have h0 : X ≠ 0 := fun h0 => hne (by
      funext ρ
      have := congrFun hfx ρ
      rw [h0] at this
      unfold xorF at this
      cases hq : f ρ <;> cases hp : g ρ <;> simp [hq, hp] at this ⊢)
    have hl : leastT X 6 ≤ v := (leastT_iff X v 6).2 fun y hy hdep => by
      rcases Nat.lt_or_ge y v with h | h
      · exact h
      · have : dep6 X y = false := dep6_false fun u hu => by
          have e1 := congrFun hfx fun i => (setb u y false).testBit i
          have e2 := congrFun hfx fun i => (setb u y true).testBit i
          obtain ⟨s1, _, s3⟩ := setb_row u hu y hy false
          obtain ⟨t1, _, t3⟩ := setb_row u hu y hy true
          rw [idx6_row _ s1] at e1
          rw [idx6_row _ t1] at e2
          rw [← e1, ← e2]
          refine hd k f g hf hg _ _ fun x hx => ?_
          rw [s3 x (by omega) (by omega), t3 x (by omega) (by omega)]
        rw [this] at hdep
        cases hdep
    exact (Witness_tab X v hX h0 (by omega) hl ad cap w hin).mono fun e w' h => ⟨_, ⟨X, hX, h0, hfx.symm, rfl⟩, h⟩
theorem Compare_nw {v : Nat} (hv : v ≤ 6) (x y : NW) (w : World) (h : NWs v w x) (h' : NWs v w y) (hl : x.1.2.length = y.1.2.length) : Calls Tryz.prog 19 #[nwV x, nwV y, .int .i64 (v : Int)] w (RetCmp (outF x.1.1 x.1.2) (outF y.1.1 y.1.2) (Wt6 v) w) :=
  Compare_ok R6 (outF x.1.1 x.1.2) (outF y.1.1 y.1.2) v (Wt6 v) (nwV x) (nwV y) w (nwV_is x) (nwV_is y) (by unfold outF; rw [List.length_map, List.length_map]; exact hl) (by unfold outF; rw [List.length_map]; exact h.l2)
    (cmp6 hv fun k f g hf hg ρ σ hs => by
      unfold outF at hf hg
      rw [List.getElem?_map] at hf hg
      obtain ⟨o, ho, rfl⟩ := Option.map_eq_some_iff.1 hf
      obtain ⟨p, hp, rfl⟩ := Option.map_eq_some_iff.1 hg
      unfold xorF
      dsimp only
      rw [vl_congr h.ok.ok.1 hs (o + 1) o (Nat.lt_succ_self o) (h.ok.ok.2 o (List.mem_of_getElem? ho)), vl_congr h'.ok.ok.1 hs (p + 1) p (Nat.lt_succ_self p) (h'.ok.ok.2 p (List.mem_of_getElem? hp))])
    (fun w' hb => pair_nw hv x y w' (h.of hb) (h'.of hb) hl)
end Go.Proofs.YtlnedapimmabdaaGreatDoor
