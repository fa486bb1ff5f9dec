/- Networks of at most sixteen gates: their diagrams, and what the package does with them; its errors. -/
import Derived.Test.YtlnedapimmabdaaGreatDoorY3
import Derived.Test.YtlnedapimmabdaaGreatDoorUb
namespace Go.Proofs.YtlnedapimmabdaaGreatDoor
set_option linter.unusedVariables false
set_option linter.unusedSimpArgs false
open Go.RowKit Go.Maps

def varsG (G : List Gt) : List Nat := (G.filter fun g => decide (g.1 = 1)).map fun g => g.2.1
theorem varsG_mem {G : List Gt} {i : Nat} {g : Gt} (h : G[i]? = some g) (h1 : g.1 = 1) : g.2.1 ∈ varsG G :=
  List.mem_map.2 ⟨g, List.mem_filter.2 ⟨List.mem_of_getElem? h, by simpa using h1⟩, rfl⟩
theorem varsG_lt {v : Nat} {G : List Gt} (ho : okL v G) : ∀ a ∈ varsG G, a < v := fun a ha => by
  obtain ⟨g, hg, rfl⟩ := List.mem_map.1 ha
  obtain ⟨hm, h1⟩ := List.mem_filter.1 hg
  obtain ⟨i, hi⟩ := List.mem_iff_getElem?.1 hm
  have h1 : g.1 = 1 := by simpa using h1
  rcases ho i g hi with ⟨_, h, _⟩ | ⟨h, _⟩ | ⟨h, _⟩ | ⟨h, _⟩
  · exact h
  · omega
  · omega
  · omega
theorem varsG_len (G : List Gt) : (varsG G).length ≤ G.length := by
  unfold varsG
  rw [List.length_map]
  exact List.length_filter_le ..
theorem rkL_mem {vs : List Nat} {a : Nat} (h : rkL vs (a + 1) < rkL vs a) : a ∈ vs := by
  refine Classical.byContradiction fun hn => ?_
  have e : rkL vs (a + 1) = rkL vs a := by
    unfold rkL
    congr 1
    refine List.filter_congr fun x hx => ?_
    have hxa : x ≠ a := fun e => hn (e ▸ hx)
    rw [decide_eq_decide]
    omega
  omega
theorem few16 {v : Nat} {G : List Gt} (ho : okL v G) (hv : v ≤ 4096) (hl : G.length ≤ 16) {vs : List Nat} (hvs : ∀ a ∈ varsG G, a ∈ vs) : FewG (rkL vs) 1100 G where
  var := fun i g hg h1 => ⟨by have := varsG_lt ho _ (varsG_mem hg h1); omega, fun y hy => rkL_lt (hvs _ (varsG_mem hg h1)) hy⟩
  gate := fun i hi => her_gate ho (by omega) hi (.inl hl)
  allP := fun i g hg h3 j => by
    have hil := (List.getElem?_eq_some_iff.1 hg).1
    obtain ⟨P, h1, h2⟩ := her_all ho hl hil (.inl rfl) (ins := g.2.2.take j) fun x hx => okG_ins (ho i g hg) x (List.mem_of_mem_take hx)
    exact ⟨P, h1, h2⟩
  anyP := fun i g hg h4 j => by
    have hil := (List.getElem?_eq_some_iff.1 hg).1
    obtain ⟨P, h1, h2⟩ := her_all ho hl hil (.inr rfl) (ins := g.2.2.take j) fun x hx => okG_ins (ho i g hg) x (List.mem_of_mem_take hx)
    exact ⟨P, h1, h2⟩
theorem sup_few (G : List Gt) (outs : List Nat) : (supG G outs).length ≤ G.length := by
  obtain ⟨h1, h2⟩ := supG_spec G outs
  have key : ∀ z, ∃ j, z ∈ supG G outs → j < G.length ∧ z = ((gtAt G j).2.1 : Int) := fun z => by
    by_cases hz : z ∈ supG G outs
    · obtain ⟨j, hj, _, _, e⟩ := (h2 z).1 hz
      exact ⟨j, fun _ => ⟨hj, e⟩⟩
    · exact ⟨0, fun h => absurd h hz⟩
  obtain ⟨f, hf⟩ := Classical.axiomOfChoice key
  exact inj_le (f := f) (h1.imp fun h => by omega) (fun x hx => (hf x hx).1) fun x hx y hy e => by rw [(hf x hx).2, (hf y hy).2, e]
theorem bErr_few {v : Nat} (hv : v ≤ 4096) {ns : List NW} (h : ∀ x ∈ ns, x.1.1.length ≤ 16) : bErr v ns = 0 := by
  unfold bErr
  rw [if_neg (by omega), if_neg]
  rw [Bool.not_eq_true, List.any_eq_false]
  intro x hx
  rw [Bool.not_eq_true, List.any_eq_false]
  intro o _
  unfold bigO
  have := sup_few x.1.1 [o]
  have := h x hx
  simp
  omega
theorem least_exists {P : Nat → Prop} : (∃ k, P k) → ∃ k, P k ∧ ∀ j, j < k → ¬P j := by
  rintro ⟨k, hk⟩
  induction k using Nat.strongRecOn with
  | ind k ih =>
    by_cases h : ∃ j, j < k ∧ P j
    · obtain ⟨j, hj, hp⟩ := h
      exact ih j hj hp
    · exact ⟨k, hk, fun j hj hp => h ⟨j, hj, hp⟩⟩
theorem classes (G : List Gt) : ∃ K : List Nat, K.length = G.length ∧ ∀ i j, i < G.length → j < G.length → (K.getD i 0 = K.getD j 0 ↔ (fun ρ => vl ρ G i) = fun ρ => vl ρ G j) := by
  have key : ∀ i, ∃ m, ((fun ρ => vl ρ G m) = fun ρ => vl ρ G i) ∧ ∀ j, j < m → ¬ ((fun ρ => vl ρ G j) = fun ρ => vl ρ G i) := fun i => by
    obtain ⟨m, h1, h2⟩ := least_exists (P := fun m => (fun ρ => vl ρ G m) = fun ρ => vl ρ G i) ⟨i, rfl⟩
    exact ⟨m, h1, h2⟩
  obtain ⟨f, hf⟩ := Classical.axiomOfChoice key
  refine ⟨(List.range G.length).map f, by simp, fun i j hi hj => ?_⟩
  have hg : ∀ i, i < G.length → ((List.range G.length).map f).getD i 0 = f i := fun i hi => by
    rw [List.getD_eq_getElem?_getD, List.getElem?_map, List.getElem?_range hi]
    rfl
  rw [hg i hi, hg j hj]
  constructor
  · intro h
    rw [← (hf i).1, ← (hf j).1, h]
  · intro h
    rcases Nat.lt_trichotomy (f i) (f j) with h1 | h1 | h1
    · exact absurd ((hf i).1.trans h) ((hf j).2 _ h1)
    · exact h1
    · exact absurd ((hf j).1.trans h.symm) ((hf i).2 _ h1)
theorem rh_sz {rk : Nat → Nat} {f : Fn3} {d : Dg3} (h : RH rk f d) : d.2 < 1000000000000000 ∧ ∀ x ∈ d.1, x.1 < 1000000000000000 ∧ x.2.1 < 1000000000000000 ∧ x.2.2 < 1000000000000000 := by
  obtain ⟨h1, h2, h3, h4⟩ := h
  have hr := h1.root
  refine ⟨by omega, fun x hx => ?_⟩
  obtain ⟨i, hi⟩ := List.mem_iff_getElem?.1 hx
  have hil := (List.getElem?_eq_some_iff.1 hi).1
  have hn := h1.good i x hi
  have h5 := h2 x hx
  obtain ⟨_, h6, h7, _⟩ := hn
  exact ⟨by have := h5.1; omega, by omega, by omega⟩
theorem kok_few (rk : Nat → Nat) (G : List Gt) : ∃ K, KOk (RH rk) G K := by
  obtain ⟨K, h1, h2⟩ := classes G
  exact ⟨K, ⟨h1, fun i j d e hi hj hd he => by rw [h2 i j hi hj, hd.eqv he], fun f d h => rh_sz h⟩⟩
section
variable {rk : Nat → Nat} {K : Nat}
theorem rh_cho (hK : K ≤ 60) (hrk : ∀ v, rk v ≤ K) {f g h : Fn3} {d d1 d2 : Dg3} (hd : RH rk f d) (hd1 : RH rk g d1) (hd2 : RH rk h d2) (hf : HerC 1100 f) (hg : HerC 1100 g) (hh : HerC 1100 h) (hS : HerC 34000 fun ρ => if f ρ then g ρ else h ρ) (a0 a1 a2 : Option Addr) (c0 c1 c2 : Nat) (w : World) (h0 : InD w.heap.size w a0 (d.1.map z3)) (h1 : InD w.heap.size w a1 (d1.1.map z3)) (h2 : InD w.heap.size w a2 (d2.1.map z3)) :
    Calls Tryz.prog 44 #[dnV (a0, c0, d), dnV (a1, c1, d1), dnV (a2, c2, d2)] w (RetF (RH rk) (fun ρ => if f ρ then g ρ else h ρ) w) := by
  have hfe : (fun ρ => val3 ρ d.1 d.2) = f := funext hd.2.2.1
  have hge : (fun ρ => val3 ρ d1.1 d1.2) = g := funext hd1.2.2.1
  have hhe : (fun ρ => val3 ρ d2.1 d2.2) = h := funext hd2.2.2.1
  have l0 := hd.few hf
  have l1 := hd1.few hg
  have l2 := hd2.few hh
  have hr := Choose_okF (rk := rk) (c := 34000 + 1) (c2 := 2 ^ K - 1) (a0, c0, d) (a1, c1, d1) (a2, c2, d2) w (hd.dnok h0) (hd1.dnok h1) (hd2.dnok h2) (by
    show ChC rk _ _ (fun ρ => val3 ρ d.1 d.2) (fun ρ => val3 ρ d1.1 d1.2) (fun ρ => val3 ρ d2.1 d2.2)
    rw [hfe, hge, hhe]
    exact hS.cho hK hrk rfl) (by show d.1.length + d1.1.length + d2.1.length + _ ≤ _; omega)
  refine hr.mono fun e w' hr => ?_
  have hr' : RetC rk (d.1.length + d1.1.length + d2.1.length + (34000 + 1)) (fun ρ => if f ρ then g ρ else h ρ) w e w' := by
    have : (fun ρ => if val3 ρ d.1 d.2 then val3 ρ d1.1 d1.2 else val3 ρ d2.1 d2.2) = fun ρ => if f ρ then g ρ else h ρ := by funext ρ; rw [hd.2.2.1, hd1.2.2.1, hd2.2.2.1]
    rw [← this]
    exact hr
  exact rh_of hr' hS (by omega)
end
theorem cmp_few {v : Nat} {G H : List Gt} {O Q : List Nat} (hG : okN v (G, O)) (hH : okN v (H, Q)) (hv : v ≤ 4096) (hl : G.length ≤ 16) (hl' : H.length ≤ 16) :
    CmpNet (RH (rkL (varsG G ++ varsG H))) (outF G O) (outF H Q) v (fun _ _ _ => True) := by
  have hrk : ∀ y, rkL (varsG G ++ varsG H) y ≤ 32 := fun y => by
    have := rkL_le (varsG G ++ varsG H) y
    rw [List.length_append] at this
    have := varsG_len G
    have := varsG_len H
    omega
  have fo : ∀ {k : Nat} {f : Fn3}, (outF G O)[k]? = some f → ∃ o, o < G.length ∧ f = fun ρ => vl ρ G o := fun {k f} hf => by
    unfold outF at hf
    rw [List.getElem?_map] at hf
    obtain ⟨o, ho, rfl⟩ := Option.map_eq_some_iff.1 hf
    exact ⟨o, hG.2 o (List.mem_of_getElem? ho), rfl⟩
  have go : ∀ {k : Nat} {f : Fn3}, (outF H Q)[k]? = some f → ∃ o, o < H.length ∧ f = fun ρ => vl ρ H o := fun {k f} hf => by
    unfold outF at hf
    rw [List.getElem?_map] at hf
    obtain ⟨o, ho, rfl⟩ := Option.map_eq_some_iff.1 hf
    exact ⟨o, hH.2 o (List.mem_of_getElem? ho), rfl⟩
  exact {
    len := fun f d hd => by have := hd.2.2.2; omega
    eqv := fun f g d e h1 h2 => h1.eqv h2
    neg := fun k f g hf hg hne d ad cap w hd hin => by
      obtain ⟨p, hp, rfl⟩ := go hg
      exact rh_not (c := 1100) (K := 32) (by omega) (by omega) hrk hd (her_gate (G := H) hH.1 (Nat.le_trans hl' (by decide)) hp (.inl hl')) (her_neg hH.1 hl' hp) ad cap w hin
    cho := fun k f g hf hg hne d d1 d2 a0 a1 a2 c0 c1 c2 w hd hd1 hd2 h0 h1 h2 => by
      obtain ⟨o, ho, rfl⟩ := fo hf
      obtain ⟨p, hp, rfl⟩ := go hg
      have e : xorF (fun ρ => vl ρ G o) (fun ρ => vl ρ H p) = fun ρ => if vl ρ G o then (negF fun ρ => vl ρ H p) ρ else vl ρ H p := by
        funext ρ
        show (vl ρ G o != vl ρ H p) = if vl ρ G o then !vl ρ H p else vl ρ H p
        cases vl ρ G o <;> cases vl ρ H p <;> rfl
      have hS : HerC 34000 (xorF (fun ρ => vl ρ G o) (fun ρ => vl ρ H p)) := by
        obtain ⟨P, q1, q2⟩ := her_pair hG.1 hH.1 (fun a b => a != b) ho hp hl hl'
        refine ⟨P, q1, ?_⟩
        have : xorF (fun ρ => vl ρ G o) (fun ρ => vl ρ H p) = fun ρ => (vl ρ G o != vl ρ H p) := by
          rfl
        rw [this]
        exact q2
      rw [e] at hS ⊢
      exact rh_cho (K := 32) (by omega) hrk hd hd1 hd2 (her_gate (G := G) hG.1 (Nat.le_trans hl (by decide)) ho (.inl hl)) (her_neg hH.1 hl' hp) (her_gate (G := H) hH.1 (Nat.le_trans hl' (by decide)) hp (.inl hl')) hS a0 a1 a2 c0 c1 c2 w h0 h1 h2
    wit := fun k f g hf hg hne d ad cap w hd hin => by
      have hvar : ∀ y ∈ d.1, y.1 < v := fun y hy => by
        have hm := rkL_mem ((hd.2.1 y hy).2 (y.1 + 1) (Nat.lt_succ_self _))
        rcases List.mem_append.1 hm with hm | hm
        · exact varsG_lt hG.1 _ hm
        · exact varsG_lt hH.1 _ hm
      have hr0 : d.2 ≠ 0 := fun h0 => hne (by
        funext ρ
        have h1 := hd.2.2.1 ρ
        rw [h0, val3_0] at h1
        unfold xorF at h1
        cases hq : f ρ <;> cases hp : g ρ <;> simp [hq, hp] at h1 ⊢)
      refine (Witness_ok (ad, cap, d) v w (hd.dnok hin) hv ((enoughD_iff _ _).2 fun x hx => ?_) hr0).mono fun e w' h => ⟨_, trivial, h⟩
      obtain ⟨y, hy, rfl⟩ := List.mem_map.1 hx
      have := hvar y hy
      show ((y.1 : Nat) : Int) < v
      omega }
theorem net_few {v : Nat} {G : List Gt} (ho : okL v G) (hv : v ≤ 4096) (hl : G.length ≤ 16) {vs : List Nat} (hvs : ∀ a ∈ varsG G, a ∈ vs) (hn : vs.length ≤ 32) (on : Nat → Bool) : DgNet (RH (rkL vs)) G on :=
  netF ho (few16 ho hv hl hvs) (c := 1100) (K := 32) (by omega) (by omega) (fun y => by have := rkL_le vs y; omega) on
attribute [local go_sem low] Bel.cell Bel.frozen alloc_cell alloc_frozen

set_option maxRecDepth 100000 in
theorem Size_err (L : List GZ) (O : List Int) (v : Int) (P : Nat → Prop) (ga oa : Option Addr) (gc oc : Nat) (w : World) (hg : InGt P w ga L) (ho : InS P w oa O) (hl : L.length ≤ 1000000000) (hcl : ∀ x ∈ L, x.2.2.length ≤ 9223372036854775807) (hol : O.length ≤ 9223372036854775807) (he : nErr L O v ≠ 0) :
    Calls Tryz.prog 25 #[nV ga L.length gc oa O.length oc, .int .i64 v] w (Ret (.tuple #[.agg #[.int .i64 0, .int .i64 0, .int .i64 0, .int .i64 0, .int .i64 0, .int .i64 0, .int .i64 0], .int .i64 (nErr L O v : Int)]) w) := by
  have CK := fun w' (hb : Below w.heap.size w w') => check_any L O v P ga oa gc oc w' (hg.of hb) (ho.of hb) hl hcl hol
  obtain ⟨r, hr⟩ : ∃ r, nErr L O v = r := ⟨_, rfl⟩
  rw [hr] at CK he ⊢
  obtain ⟨n, hn⟩ : ∃ n, L.length = n := ⟨_, rfl⟩
  obtain ⟨m, hm⟩ : ∃ m, O.length = m := ⟨_, rfl⟩
  rw [hn, hm] at CK
  rw [hn, hm]
  have HC := Lib.hid CK
  have fr : ((r : Int) != 0) = true := by simp; omega
  clear CK hg ho hl hcl hol he hr hn hm
  unfold nV
  go_enter Tryz.func25, Tryz.ntmps25
  go_wp2_with fail
  have hx2 := newAt1 w (.cells #[.slice ga n gc, .slice oa m oc] 25 (0, 0)) (.cells #[.int .i64 0, .int .i64 0, .int .i64 0, .int .i64 0, .int .i64 0, .int .i64 0, .int .i64 0] 57 (0, 0))
  refine (HC.out _ (by (repeat' (first | (with_reducible first | apply Zl1 | apply Zl2 | apply Zl3 | apply Zl4 | apply Zl5 | apply Zl6 | apply Zl7 | apply Zl8 | apply Zl9 | apply Zla | apply Zlb | apply Zlc) | (dsimp only; with_reducible first | apply Zl8 | apply Zl2 | apply Zld) | with_reducible assumption | omega | (dsimp only; omega))))).mono ?_
  rintro _ _ ⟨rfl, y, rfl⟩
  replace hx2 := obj_in y.below hx2
  have hBV : Below w.heap.size w y.w := by (repeat' (first | (with_reducible first | apply Zl1 | apply Zl2 | apply Zl3 | apply Zl4 | apply Zl5 | apply Zl6 | apply Zl7 | apply Zl8 | apply Zl9 | apply Zla | apply Zlb | apply Zlc) | (dsimp only; with_reducible first | apply Zl8 | apply Zl2 | apply Zld) | with_reducible assumption | omega | (dsimp only; omega)))
  obtain ⟨V, hV⟩ : ∃ V, y.w = V := ⟨_, rfl⟩
  rw [hV] at hx2 hBV ⊢
  clear hV
  obtain ⟨⟨q0, q1, q2, q3, q4, q5, q6⟩, r0, r1, r2, r3, r4, r5, r6⟩ := cell7 hx2
  dsimp only
  go_wp2_with fail
  have hFN : (((((((V.setCell ⟨w.heap.size + 1, 0, none⟩ (.int .i64 0)).setCell ⟨w.heap.size + 1, 1, none⟩ (.int .i64 0)).setCell ⟨w.heap.size + 1, 2, none⟩ (.int .i64 0)).setCell ⟨w.heap.size + 1, 3, none⟩ (.int .i64 0)).setCell ⟨w.heap.size + 1, 4, none⟩ (.int .i64 0)).setCell ⟨w.heap.size + 1, 5, none⟩ (.int .i64 0)).setCell ⟨w.heap.size + 1, 6, none⟩ (.int .i64 0)).heap[w.heap.size + 1]? = some (.cells #[.int .i64 0, .int .i64 0, .int .i64 0, .int .i64 0, .int .i64 0, .int .i64 0, .int .i64 0] 57 (0, 0)) := (obj_setD (i := 6) (.int .i64 0) (obj_setD (i := 5) (.int .i64 0) (obj_setD (i := 4) (.int .i64 0) (obj_setD (i := 3) (.int .i64 0) (obj_setD (i := 2) (.int .i64 0) (obj_setD (i := 1) (.int .i64 0) (obj_setD (i := 0) (.int .i64 0) hx2)))))))
  have hBF : Below w.heap.size w (((((((V.setCell ⟨w.heap.size + 1, 0, none⟩ (.int .i64 0)).setCell ⟨w.heap.size + 1, 1, none⟩ (.int .i64 0)).setCell ⟨w.heap.size + 1, 2, none⟩ (.int .i64 0)).setCell ⟨w.heap.size + 1, 3, none⟩ (.int .i64 0)).setCell ⟨w.heap.size + 1, 4, none⟩ (.int .i64 0)).setCell ⟨w.heap.size + 1, 5, none⟩ (.int .i64 0)).setCell ⟨w.heap.size + 1, 6, none⟩ (.int .i64 0)) := (Below.setCell (p := ⟨w.heap.size + 1, 6, none⟩) (Below.setCell (p := ⟨w.heap.size + 1, 5, none⟩) (Below.setCell (p := ⟨w.heap.size + 1, 4, none⟩) (Below.setCell (p := ⟨w.heap.size + 1, 3, none⟩) (Below.setCell (p := ⟨w.heap.size + 1, 2, none⟩) (Below.setCell (p := ⟨w.heap.size + 1, 1, none⟩) (Below.setCell (p := ⟨w.heap.size + 1, 0, none⟩) hBV (by simp) (.int .i64 0)) (by simp) (.int .i64 0)) (by simp) (.int .i64 0)) (by simp) (.int .i64 0)) (by simp) (.int .i64 0)) (by simp) (.int .i64 0)) (by simp) (.int .i64 0))
  obtain ⟨WF, hWF⟩ : ∃ WF, (((((((V.setCell ⟨w.heap.size + 1, 0, none⟩ (.int .i64 0)).setCell ⟨w.heap.size + 1, 1, none⟩ (.int .i64 0)).setCell ⟨w.heap.size + 1, 2, none⟩ (.int .i64 0)).setCell ⟨w.heap.size + 1, 3, none⟩ (.int .i64 0)).setCell ⟨w.heap.size + 1, 4, none⟩ (.int .i64 0)).setCell ⟨w.heap.size + 1, 5, none⟩ (.int .i64 0)).setCell ⟨w.heap.size + 1, 6, none⟩ (.int .i64 0)) = WF := ⟨_, rfl⟩
  rw [hWF] at hFN hBF ⊢
  clear hWF q0 q1 q2 q3 q4 q5 q6 r0 r1 r2 r3 r4 r5 r6
  obtain ⟨⟨q0, q1, q2, q3, q4, q5, q6⟩, r0, r1, r2, r3, r4, r5, r6⟩ := cell7 hFN
  refine bodyPost_ret (v := .tuple #[.agg #[.int .i64 0, .int .i64 0, .int .i64 0, .int .i64 0, .int .i64 0, .int .i64 0, .int .i64 0], .int .i64 (r : Int)]) (by simp [results, Tryz.results25, go_sem, q0, q1, q2, q3, q4, q5, q6]) rfl (Ret.mk rfl hBF)

structure ArN (w : World) (ga : Option Addr) (L : List GZ) (oa : Option Addr) (O : List Int) (oc : Nat) : Prop where
  hg : InGt (fun b => b < w.heap.size) w ga L
  ho : InS (fun b => b < w.heap.size) w oa O
  l1 : L.length ≤ 16
  l2 : O.length ≤ 8
  l3 : ∀ x ∈ L, x.2.2.length ≤ 17592186044416
  hoc : O.length ≤ oc
  hoc2 : oc ≤ 9223372036854775807
structure NWb (v : Nat) (w : World) (x : NW) : Prop where
  ok : NWok v w x
  l1 : x.1.1.length ≤ 50000
  l2 : x.1.2.length ≤ 1000000
  l3 : ∀ g ∈ x.1.1, g.2.2.length ≤ 17592186044416
theorem NWb.of {v : Nat} {w w' : World} {x : NW} (h : NWb v w x) (hb : Below w.heap.size w w') : NWb v w' x := ⟨h.ok.of hb, h.l1, h.l2, h.l3⟩
theorem NWb.check {v : Nat} {w : World} {x : NW} (h : NWb v w x) : Calls Tryz.prog 29 #[nwV x, .int .i64 (v : Int)] w (Ret (.int .i64 0) w) := by
  have hh := check_any (x.1.1.map gz) (intsN x.1.2) v _ x.2.1 x.2.2.2.1 x.2.2.1 x.2.2.2.2 w h.ok.hg h.ok.ho (by have := h.l1; rw [List.length_map]; omega) (gz_ins h.l3) (by have := h.l2; rw [show (intsN x.1.2).length = x.1.2.length by simp [intsN]]; omega)
  have hz : nErr (x.1.1.map gz) (intsN x.1.2) (v : Int) = 0 := nErr_of h.ok.ok h.l1
  rw [List.length_map, show (intsN x.1.2).length = x.1.2.length by simp [intsN], hz] at hh
  exact hh
section
variable {w : World} {ga oa gb ob : Option Addr} {L M : List GZ} {O Q : List Int} {oc od : Nat}
theorem ArN.of (h : ArN w ga L oa O oc) {w' : World} (hb : Below w.heap.size w w') : ArN w' ga L oa O oc :=
  ⟨(h.hg.of hb).imp fun b hb' _ => hb', (h.ho.of hb).imp fun b hb' _ => hb', h.l1, h.l2, h.l3, h.hoc, h.hoc2⟩
theorem ArN.check (h : ArN w ga L oa O oc) (gc : Nat) (v : Int) : Calls Tryz.prog 29 #[nV ga L.length gc oa O.length oc, .int .i64 v] w (Ret (.int .i64 (nErr L O v : Int)) w) :=
  check_any L O v _ ga oa gc oc w h.hg h.ho (by have := h.l1; omega) (fun x hx => by have := h.l3 x hx; omega) (by have := h.l2; omega)
theorem ArN.nw (h : ArN w ga L oa O oc) (gc : Nat) {v : Int} (hz : nErr L O v = 0) : ∃ (x : NW) (n : Nat), v = (n : Int) ∧ NWb n w x ∧ x.1.1.length ≤ 16 ∧ x.1.2.length = O.length ∧ nwV x = nV ga L.length gc oa O.length oc := by
  obtain ⟨N, rfl, rfl, hok, _, hv⟩ := nErr_ok hz
  have e1 := h.l1
  have e2 := h.l2
  rw [List.length_map] at e1 e2
  have e3 : ∀ g ∈ N.1, g.2.2.length ≤ 17592186044416 := fun g hg => by
    have := h.l3 (gz g) (List.mem_map.2 ⟨g, hg, rfl⟩)
    simpa [gz] using this
  refine ⟨(N, ga, gc, oa, oc), v.toNat, by omega, ⟨⟨hok, h.hg, h.ho, by show N.1.length ≤ _; omega, by show N.2.length ≤ _; omega, ?_, h.hoc2, fun g hg => by have := e3 g hg; omega⟩, by show N.1.length ≤ _; omega, by show N.2.length ≤ _; omega, fun g hg => by have := e3 g hg; omega⟩, e1, by rw [List.length_map], by unfold nwV nV; rw [List.length_map, List.length_map]⟩
  have := h.hoc
  rw [List.length_map] at this
  exact this
def RetSz (r : Nat) (w : World) (e : Ending) (w' : World) : Prop := ∃ a0 a1 a2 a3 a4 a5 a6 : Int, e = .returned (.tuple #[.agg #[.int .i64 a0, .int .i64 a1, .int .i64 a2, .int .i64 a3, .int .i64 a4, .int .i64 a5, .int .i64 a6], .int .i64 (r : Int)]) ∧ (r ≠ 0 → a0 = 0 ∧ a1 = 0 ∧ a2 = 0 ∧ a3 = 0 ∧ a4 = 0 ∧ a5 = 0 ∧ a6 = 0) ∧ Below w.heap.size w w'
def RetDi (r : Nat) (w : World) (e : Ending) (w' : World) : Prop := ∃ (a : Option Addr) (n c : Nat), e = .returned (.tuple #[.slice a n c, .int .i64 (r : Int)]) ∧ (r ≠ 0 → n = 0) ∧ Below w.heap.size w w'
def RetNr (r : Nat) (w : World) (e : Ending) (w' : World) : Prop := ∃ (a : Option Addr) (n c : Nat) (b : Option Addr) (m d : Nat), e = .returned (.tuple #[.agg #[.slice a n c, .slice b m d], .int .i64 (r : Int)]) ∧ (r ≠ 0 → n = 0) ∧ Below w.heap.size w w'
def RetEr (t : Nat) (w : World) (e : Ending) (w' : World) : Prop := ∃ q : Bool, e = .returned (.tuple #[.bool q, .int .i64 (t : Int)]) ∧ (t ≠ 0 → q = false) ∧ Below w.heap.size w w'
def RetCr (t : Nat) (w : World) (e : Ending) (w' : World) : Prop := ∃ (k : Int) (a : Option Addr) (n c : Nat) (q : Bool), e = .returned (.tuple #[.agg #[.int .i64 k, .slice a n c], .bool q, .int .i64 (t : Int)]) ∧ (t ≠ 0 → q = false ∧ n = 0) ∧ Below w.heap.size w w'
theorem ArN.size (h : ArN w ga L oa O oc) (gc : Nat) (v : Int) : Calls Tryz.prog 25 #[nV ga L.length gc oa O.length oc, .int .i64 v] w (RetSz (nErr L O v) w) := by
  by_cases hz : nErr L O v = 0
  · obtain ⟨x, n, rfl, hx, hl, _, e⟩ := h.nw gc hz
    rw [hz, ← e]
    refine (Size_ok x.1.1 x.1.2 n _ _ x.2.1 x.2.2.2.1 x.2.2.1 x.2.2.2.2 w hx.ok.ok hx.ok.hg hx.ok.ho hx.l1 (by have := hx.l2; omega) hx.l3).mono ?_
    rintro _ _ ⟨rfl, y, rfl⟩
    exact ⟨_, _, _, _, _, _, _, rfl, fun h0 => absurd rfl h0, y.below⟩
  · refine (Size_err L O v _ ga oa gc oc w h.hg h.ho (by have := h.l1; omega) (fun x hx => by have := h.l3 x hx; omega) (by have := h.l2; omega) hz).mono ?_
    rintro _ _ ⟨rfl, y, rfl⟩
    exact ⟨_, _, _, _, _, _, _, rfl, fun _ => ⟨rfl, rfl, rfl, rfl, rfl, rfl, rfl⟩, y.below⟩
theorem ArN.support (h : ArN w ga L oa O oc) (gc : Nat) (v : Int) : Calls Tryz.prog 23 #[nV ga L.length gc oa O.length oc, .int .i64 v, .int .i64 (-1)] w (Ret (.tuple #[.slice none 0 0, .int .i64 ((if nErr L O v = 0 then 3 else nErr L O v : Nat) : Int)]) w) := by
  by_cases hz : nErr L O v = 0
  · rw [if_pos hz]
    exact Support_range L O v (-1) _ ga oa gc oc w h.hg h.ho (by have := h.l1; omega) (fun x hx => by have := h.l3 x hx; omega) (by have := h.l2; omega) hz (.inl (by decide))
  · rw [if_neg hz]
    exact Support_err L O v (-1) _ ga oa gc oc w h.hg h.ho (by have := h.l1; omega) (fun x hx => by have := h.l3 x hx; omega) (by have := h.l2; omega) hz
theorem ArN.diagrams (h : ArN w ga L oa O oc) (gc : Nat) {v : Int} (hv : v ≤ 4096) : Calls Tryz.prog 22 #[nV ga L.length gc oa O.length oc, .int .i64 v] w (RetDi (nErr L O v) w) := by
  by_cases hz : nErr L O v = 0
  · obtain ⟨x, n, rfl, hx, hl, _, e⟩ := h.nw gc hz
    rw [hz, ← e]
    refine (Diagrams_ok (RH (rkL (varsG x.1.1))) x.1.1 x.1.2 n x.2.1 x.2.2.2.1 x.2.2.1 x.2.2.2.2 w (net_few hx.ok.ok.1 (by omega) hl (fun a ha => ha) (by have := varsG_len x.1.1; omega) _) hx.ok.ok.1 hx.ok.hg hx.ok.ho hx.ok.ok.2 hx.l1 hx.l2 hx.ok.hoc hx.ok.hoc2 hx.l3 (bErr_few (by omega) fun y hy => by rw [List.mem_singleton.1 hy]; exact hl)).mono ?_
    rintro _ _ ⟨v, l, rfl, hd, _, _, hb⟩
    obtain ⟨a, c, rfl⟩ := hd.val
    exact ⟨_, _, _, rfl, fun h0 => absurd rfl h0, hb⟩
  · refine (Diagrams_err L O v _ ga oa gc oc w h.hg h.ho (by have := h.l1; omega) (fun x hx => by have := h.l3 x hx; omega) (by have := h.l2; omega) hz).mono ?_
    rintro _ _ ⟨rfl, y, rfl⟩
    exact ⟨_, _, _, rfl, fun _ => rfl, y.below⟩
theorem retNe_nr {N : Nt} {w w' : World} {e : Ending} (h : RetNe N w e w') : RetNr 0 w e w' := by
  obtain ⟨us, a, c, ov, _, rfl, _, ho, _, _, hb⟩ := h
  obtain ⟨b, m, d, rfl⟩ : ∃ b m d, ov = .slice b m d := by
    rcases ho.2 with ⟨rfl, _⟩ | ⟨g, cap, cur, rfl, _⟩
    · exact ⟨_, _, _, rfl⟩
    · exact ⟨_, _, _, rfl⟩
  exact ⟨_, _, _, _, _, _, rfl, fun h0 => absurd rfl h0, hb⟩
theorem ArN.clean (h : ArN w ga L oa O oc) (gc : Nat) {v : Int} (hv : v ≤ 4096) (hT : Tab w) : Calls Tryz.prog 13 #[nV ga L.length gc oa O.length oc, .int .i64 v] w (RetNr (nErr L O v) w) := by
  by_cases hz : nErr L O v = 0
  · obtain ⟨x, n, rfl, hx, hl, _, e⟩ := h.nw gc hz
    rw [hz, ← e]
    exact (Clean_ok x.1.1 x.1.2 n _ x.2.1 x.2.2.2.1 x.2.2.1 x.2.2.2.2 w hx.ok.ok.1 hx.ok.hg hx.ok.ho hx.ok.ok.2 hx.l1 hx.l2 hx.l3 (by omega) hT).mono fun _ _ hr => retNe_nr hr
  · refine (Clean_err L O v _ ga oa gc oc w h.hg h.ho (by have := h.l1; omega) (fun x hx => by have := h.l3 x hx; omega) (by have := h.l2; omega) hz).mono ?_
    rintro _ _ ⟨rfl, y, rfl⟩
    exact ⟨_, _, _, _, _, _, rfl, fun _ => rfl, y.below⟩
theorem ArN.reduce (h : ArN w ga L oa O oc) (gc : Nat) {v : Int} (hv : v ≤ 4096) (hT : Tab w) : Calls Tryz.prog 16 #[nV ga L.length gc oa O.length oc, .int .i64 v] w (RetNr (nErr L O v) w) := by
  by_cases hz : nErr L O v = 0
  · obtain ⟨x, n, rfl, hx, hl, _, e⟩ := h.nw gc hz
    rw [hz, ← e]
    obtain ⟨c1, c2, c3, _⟩ := cleanG_ok hx.ok.ok
    obtain ⟨K, hK⟩ := kok_few (rkL (varsG (cleanG x.1).1)) (cleanG x.1).1
    exact (Reduce_ok (RH (rkL (varsG (cleanG x.1).1))) K x.1.1 x.1.2 n x.2.1 x.2.2.2.1 x.2.2.1 x.2.2.2.2 w hx.ok.ok.1 hx.ok.hg hx.ok.ho hx.ok.ok.2 hx.l1 hx.l2 hx.ok.hoc hx.ok.hoc2 hx.l3 (bErr_few (by omega) fun y hy => by rw [List.mem_singleton.1 hy]; exact hl) (by omega) hT (net_few c1.1 (by omega) (by omega) (fun a ha => ha) (by have := varsG_len (cleanG x.1).1; omega) _) hK).mono fun _ _ hr => retNe_nr hr
  · refine (Reduce_err L O v _ ga oa gc oc w h.hg h.ho (by have := h.l1; omega) (fun x hx => by have := h.l3 x hx; omega) (by have := h.l2; omega) hz).mono ?_
    rintro _ _ ⟨rfl, y, rfl⟩
    exact ⟨_, _, _, _, _, _, rfl, fun _ => rfl, y.below⟩
def twoE (L : List GZ) (O : List Int) (M : List GZ) (Q : List Int) (v : Int) : Nat := if nErr L O v ≠ 0 then nErr L O v else if nErr M Q v ≠ 0 then nErr M Q v else if O.length ≠ Q.length then 5 else 0
theorem pair_twoE (h : ArN w ga L oa O oc) (h' : ArN w gb M ob Q od) (gc gd : Nat) (v : Int) (ht : twoE L O M Q v ≠ 0) : Calls Tryz.prog 41 #[nV ga L.length gc oa O.length oc, nV gb M.length gd ob Q.length od, .int .i64 v] w (Ret (.tuple #[.slice none 0 0, .slice none 0 0, .int .i64 (twoE L O M Q v : Int)]) w) :=
  pair_any _ (fun _ _ => False) [] [] (nErr L O v) (nErr M Q v) 0 L.length M.length O.length Q.length v ga oa gb ob gc oc gd od w (by have := h.l2; omega) (by have := h'.l2; omega)
    (fun w' hb => (h.of hb).check gc v) (fun w' hb => (h'.of hb).check gd v)
    (fun q1 q2 q3 => absurd (by unfold twoE; rw [if_neg (by rw [q1]; decide), if_neg (by rw [q2]; decide), if_neg (by rw [q3]; simp)]) ht)
    (fun q1 q2 q3 => absurd (by unfold twoE; rw [if_neg (by rw [q1]; decide), if_neg (by rw [q2]; decide), if_neg (by rw [q3]; simp)]) ht)
    (fun q1 q2 q3 => absurd (by unfold twoE; rw [if_neg (by rw [q1]; decide), if_neg (by rw [q2]; decide), if_neg (by rw [q3]; simp)]) ht)
    (fun q1 w' hb => by
      rw [show twoE L O M Q v = nErr L O v from if_pos q1]
      exact Ret.mk rfl hb)
    (fun q1 q2 w' hb => by
      rw [show twoE L O M Q v = nErr M Q v by unfold twoE; rw [if_neg (by rw [q1]; decide), if_pos q2]]
      exact Ret.mk rfl hb)
    (fun q1 q2 q3 w' hb => by
      rw [show twoE L O M Q v = 5 by unfold twoE; rw [if_neg (by rw [q1]; decide), if_neg (by rw [q2]; decide), if_pos q3]]
      exact Ret.mk rfl hb)
    (fun _ _ _ h0 => absurd rfl h0)
    (fun q1 q2 q3 => absurd (by unfold twoE; rw [if_neg (by rw [q1]; decide), if_neg (by rw [q2]; decide), if_neg (by rw [q3]; simp)]) ht)
theorem pair_few {n : Nat} {x y : NW} (hx : NWb n w x) (hy : NWb n w y) (hn : n ≤ 4096) (hl : x.1.1.length ≤ 16) (hl' : y.1.1.length ≤ 16) (he : x.1.2.length = y.1.2.length) : Calls Tryz.prog 41 #[nwV x, nwV y, .int .i64 (n : Int)] w (RetP (RH (rkL (varsG x.1.1 ++ varsG y.1.1))) (outF x.1.1 x.1.2) (outF y.1.1 y.1.2) w) := by
  have hvl : (varsG x.1.1 ++ varsG y.1.1).length ≤ 32 := by
    rw [List.length_append]
    have := varsG_len x.1.1
    have := varsG_len y.1.1
    omega
  exact pair_any _ (RH (rkL (varsG x.1.1 ++ varsG y.1.1))) (outF x.1.1 x.1.2) (outF y.1.1 y.1.2) 0 0 0 x.1.1.length y.1.1.length x.1.2.length y.1.2.length n x.2.1 x.2.2.2.1 y.2.1 y.2.2.2.1 x.2.2.1 x.2.2.2.2 y.2.2.1 y.2.2.2.2 w (by have := hx.l2; omega) (by have := hy.l2; omega)
    (fun w' hb => (hx.of hb).check) (fun w' hb => (hy.of hb).check)
    (fun _ _ _ w' hb T hT => by
      have hh := bounded_any n [x, y] (some ⟨T, 0, none⟩) 2 n w' (fun z hz => by
        rcases List.mem_cons.1 hz with rfl | hz
        · exact (hx.of hb).ok
        · rw [List.mem_singleton.1 hz]; exact (hy.of hb).ok) (inNs_two hT) (by simp)
      have e : bErr n [x, y] = 0 := bErr_few hn fun z hz => by
        rcases List.mem_cons.1 hz with rfl | hz
        · exact hl
        · rw [List.mem_singleton.1 hz]; exact hl'
      rw [e] at hh
      exact hh)
    (fun _ _ _ _ w' hb => outputs_any _ x.1.1 x.1.2 n _ _ x.2.1 x.2.2.2.1 x.2.2.1 x.2.2.2.2 w' (net_few hx.ok.ok.1 hn hl (fun a ha => List.mem_append.2 (.inl ha)) hvl _) hx.ok.ok.1 (hx.of hb).ok.hg (hx.of hb).ok.ho hx.ok.ok.2 (by have := hx.l1; omega) hx.l2 (fun g hg => by have := hx.l3 g hg; omega))
    (fun _ _ _ _ w' hb => outputs_any _ y.1.1 y.1.2 n _ _ y.2.1 y.2.2.2.1 y.2.2.1 y.2.2.2.2 w' (net_few hy.ok.ok.1 hn hl' (fun a ha => List.mem_append.2 (.inr ha)) hvl _) hy.ok.ok.1 (hy.of hb).ok.hg (hy.of hb).ok.ho hy.ok.ok.2 (by have := hy.l1; omega) hy.l2 (fun g hg => by have := hy.l3 g hg; omega))
    (fun h0 => absurd rfl h0) (fun _ h0 => absurd rfl h0) (fun _ _ h0 => absurd he h0) (fun _ _ _ h0 => absurd rfl h0) (fun _ _ _ _ e w' hr => hr)
theorem nV_is (ga : Option Addr) (n gc : Nat) (oa : Option Addr) (m oc : Nat) : ∃ a b c d e f, nV ga n gc oa m oc = .agg #[.slice a b c, .slice d e f] := ⟨_, _, _, _, _, _, rfl⟩
theorem two_right (h : ArN w ga L oa O oc) (h' : ArN w gb M ob Q od) (gc gd : Nat) {v : Int} (ht : twoE L O M Q v = 0) : ∃ (x y : NW) (n : Nat), v = (n : Int) ∧ NWb n w x ∧ NWb n w y ∧ x.1.1.length ≤ 16 ∧ y.1.1.length ≤ 16 ∧ x.1.2.length = y.1.2.length ∧ nwV x = nV ga L.length gc oa O.length oc ∧ nwV y = nV gb M.length gd ob Q.length od := by
  unfold twoE at ht
  by_cases q1 : nErr L O v = 0
  · rw [if_neg (by rw [q1]; decide)] at ht
    by_cases q2 : nErr M Q v = 0
    · rw [if_neg (by rw [q2]; decide)] at ht
      by_cases q3 : O.length = Q.length
      · obtain ⟨x, n, rfl, hx, hl, e1, e2⟩ := h.nw gc q1
        obtain ⟨y, m, hm, hy, hl', e3, e4⟩ := h'.nw gd q2
        obtain rfl : n = m := by omega
        exact ⟨x, y, n, rfl, hx, hy, hl, hl', by omega, e2, e4⟩
      · rw [if_pos q3] at ht; omega
    · rw [if_pos q2] at ht; omega
  · rw [if_pos q1] at ht; omega
theorem ArN.equal (h : ArN w ga L oa O oc) (h' : ArN w gb M ob Q od) (gc gd : Nat) {v : Int} (hv : v ≤ 4096) : Calls Tryz.prog 18 #[nV ga L.length gc oa O.length oc, nV gb M.length gd ob Q.length od, .int .i64 v] w (RetEr (twoE L O M Q v) w) := by
  by_cases ht : twoE L O M Q v = 0
  · obtain ⟨x, y, n, rfl, hx, hy, hl, hl', he, e1, e2⟩ := two_right h h' gc gd ht
    rw [ht, ← e1, ← e2]
    obtain ⟨q, hq⟩ : ∃ q : Bool, (q = true ↔ outF x.1.1 x.1.2 = outF y.1.1 y.1.2) := by
      by_cases h0 : outF x.1.1 x.1.2 = outF y.1.1 y.1.2
      · exact ⟨true, fun _ => h0, fun _ => rfl⟩
      · exact ⟨false, fun h1 => (by cases h1), fun h1 => absurd h1 h0⟩
    refine (Equal_ok (RH (rkL (varsG x.1.1 ++ varsG y.1.1))) (outF x.1.1 x.1.2) (outF y.1.1 y.1.2) q (nwV x) (nwV y) n w (nwV_is x) (nwV_is y) (by unfold outF; rw [List.length_map]; exact hx.l2) (by unfold outF; rw [List.length_map]; exact hy.l2) (fun f d hd => by have := hd.2.2.2; omega)
      (fun ds es h1 h2 h3 h4 => Bool.eq_iff_iff.2 (by rw [decide_eq_true_iff, hq]; exact dec_funs (fun f g d e h1 h2 => h1.eqv h2) h1 h2 h3 h4))
      (fun w' hb => pair_few (hx.of hb) (hy.of hb) (by omega) hl hl' he)).mono ?_
    rintro _ _ ⟨rfl, z, rfl⟩
    exact ⟨_, rfl, fun h0 => absurd rfl h0, z.below⟩
  · refine (Equal_err (twoE L O M Q v) _ _ v w (nV_is _ _ _ _ _ _) (nV_is _ _ _ _ _ _) (by omega) fun w' hb => pair_twoE (h.of hb) (h'.of hb) gc gd v ht).mono ?_
    rintro _ _ ⟨rfl, z, rfl⟩
    exact ⟨_, rfl, fun _ => rfl, z.below⟩
theorem ArN.compare (h : ArN w ga L oa O oc) (h' : ArN w gb M ob Q od) (gc gd : Nat) {v : Int} (hv : v ≤ 4096) : Calls Tryz.prog 19 #[nV ga L.length gc oa O.length oc, nV gb M.length gd ob Q.length od, .int .i64 v] w (RetCr (twoE L O M Q v) w) := by
  by_cases ht : twoE L O M Q v = 0
  · obtain ⟨x, y, n, rfl, hx, hy, hl, hl', he, e1, e2⟩ := two_right h h' gc gd ht
    rw [ht, ← e1, ← e2]
    refine (Compare_ok (RH (rkL (varsG x.1.1 ++ varsG y.1.1))) (outF x.1.1 x.1.2) (outF y.1.1 y.1.2) n (fun _ _ _ => True) (nwV x) (nwV y) w (nwV_is x) (nwV_is y) (by unfold outF; rw [List.length_map, List.length_map]; exact he) (by unfold outF; rw [List.length_map]; exact hx.l2) (cmp_few hx.ok.ok hy.ok.ok (by omega) hl hl') fun w' hb => pair_few (hx.of hb) (hy.of hb) (by omega) hl hl' he).mono ?_
    rintro e w' (⟨_, rfl, hb⟩ | ⟨k, f, g, l, b, cap, _, _, _, _, _, rfl, _, hb⟩)
    · exact ⟨_, _, _, _, _, rfl, fun h0 => absurd rfl h0, hb⟩
    · exact ⟨_, _, _, _, _, rfl, fun h0 => absurd rfl h0, hb⟩
  · refine (Compare_err (twoE L O M Q v) _ _ v w (nV_is _ _ _ _ _ _) (nV_is _ _ _ _ _ _) (by omega) fun w' hb => pair_twoE (h.of hb) (h'.of hb) gc gd v ht).mono ?_
    rintro _ _ ⟨rfl, z, rfl⟩
    exact ⟨_, _, _, _, _, rfl, fun _ => ⟨rfl, rfl⟩, z.below⟩
end
end Go.Proofs.YtlnedapimmabdaaGreatDoor
