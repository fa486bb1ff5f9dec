/- relay.Evaluate. -/
import Derived.Test.YtlnedapimmabdaaGreatDoorW2
import Derived.Test.YtlnedapimmabdaaGreatDoorW1
namespace Go.Proofs.YtlnedapimmabdaaGreatDoor
set_option linter.unusedVariables false
set_option linter.unusedSimpArgs false
open Go.RowKit
attribute [local go_sem low] Bel.cell Bel.frozen alloc_cell alloc_frozen

theorem wpList_appBo {P : Program} {ops : Array Oper} {rest : List Oper} {o : Oper} {a : Act} {Q : Exit → Act → World → Prop} (hgd : o.guard = none) (s x : Operand) (T : TypeId)
    (ho : o.op = .call { callee := .builtin .append, args := #[s, x], argTypes := #[T, T] }) (i : TypeInfo) (ht : P.underlying T = some (.slice 4)) (hi : P.info? 4 = some i)
    (hz : i.zero = some (.bool false)) (hsize : i.size = 1) (hby : i.bytes = 1) (W : World) (base : Nat) (v : Value) (l : List Bool) (u : Bool) (g0 : Nat)
    (hs : a.eval s = v) (hown : W.ownsRow base 4 1 v l.length (boolsD l)) (hx : a.eval x = .slice (some ⟨g0, 0, none⟩) 1 1) (hsrc : W.heap[g0]? = some (.cells #[.bool u] 4 (0, 0))) (hn : l.length ≤ 100000000) (hbase : base ≤ W.heap.size)
    (h : ∀ g c w1, w1.ownsRow base 4 1 (.slice (some ⟨g, 0, none⟩) (l.length + 1) c) (l ++ [u]).length (boolsD (l ++ [u])) → Below base W w1 → W.heap.size ≤ w1.heap.size → wpList P ops Q rest (a.put o.dst (.slice (some ⟨g, 0, none⟩) (l.length + 1) c)) w1) :
    wpList P ops Q (o :: rest) a W := by
  refine wpList_append_own_at _ hgd s x T ho base 4 i _ 1 1 ht hi hz hsize hby rfl (by decide) v l.length (boolsD l) hs hown ⟨g0, 0, none⟩ 1 1 [.bool u] hx rfl ?_ ?_ (by unfold maxLen; omega) (by omega) hbase ?_
  · intro j z hj
    match j, hj with
    | 0, hj => simp at hj; subst hj; simp [Addr.add, World.cell?, hsrc]
  · intro z hz
    simp at hz
    rw [hz]
    rfl
  · intro v' w1 hrow hg hnil h5
    obtain ⟨g, c, rfl⟩ : ∃ g c, v' = .slice (some ⟨g, 0, none⟩) (l.length + 1) c := by
      rcases hrow.2 with ⟨_, h0⟩ | ⟨g, cp, cur, hv, _⟩
      · omega
      · exact ⟨g, cp, hv⟩
    refine h g c w1 ?_ ((Below.refl _ W).grown hg hbase (fun k hk => (World.ownsRow.lt hown k hk).1)) hg.size
    rw [show boolsD (l ++ [u]) = boolsD l ++ [.bool u] by simp [boolsD], List.length_append]
    exact hrow
def OwnBv (w : World) (base : Nat) (v : Value) (l : List Bool) : Prop := w.ownsRow base 4 1 v l.length (boolsD l)
theorem ownBv_sl {w : World} {base : Nat} {v : Value} {l : List Bool} (h : OwnBv w base v l) : ∃ a c, v = .slice a l.length c ∧ (0 < l.length → ∃ g, a = some ⟨g, 0, none⟩ ∧ base ≤ g ∧ g < w.heap.size ∧ ∀ (j : Nat) b, l[j]? = some b → w.cell? ⟨g, j, none⟩ = some (.bool b)) := by
  obtain ⟨hxl, ⟨e1, e2⟩ | ⟨g, cap, cur, e1, hg, hh, hn, hc, hcs, hcur⟩⟩ := h
  · exact ⟨none, 0, by rw [e1, e2], fun h => by omega⟩
  · refine ⟨_, _, e1, fun _ => ⟨g, rfl, hg, (Array.getElem?_eq_some_iff.1 hh).1, fun j b hj => ?_⟩⟩
    have hjl := (List.getElem?_eq_some_iff.1 hj).1
    have hb : (boolsD l)[j]? = some (.bool b) := by unfold boolsD; rw [List.getElem?_map, hj]; rfl
    rw [← hcur, List.getElem?_take_of_lt (by omega)] at hb
    simp [World.cell?, hh]
    simpa using hb
theorem ownBv_bel {w w' : World} {base : Nat} {v : Value} {l : List Bool} (h : OwnBv w base v l) (hb : Below w.heap.size w w') : OwnBv w' base v l := by
  obtain ⟨hxl, ⟨e1, e2⟩ | ⟨g', cap', cur, e1, hg, hh, hn, hc, hcs, hcur⟩⟩ := h
  · exact ⟨hxl, .inl ⟨e1, e2⟩⟩
  · exact ⟨hxl, .inr ⟨g', cap', cur, e1, hg, obj_in hb hh, hn, hc, hcs, hcur⟩⟩
theorem ownBv_low {w : World} {base base' : Nat} {v : Value} {l : List Bool} (h : OwnBv w base v l) (hb : base' ≤ base) : OwnBv w base' v l := by
  obtain ⟨hxl, ⟨e1, e2⟩ | ⟨g', cap', cur, e1, hg, hh, hn, hc, hcs, hcur⟩⟩ := h
  · exact ⟨hxl, .inl ⟨e1, e2⟩⟩
  · exact ⟨hxl, .inr ⟨g', cap', cur, e1, by omega, hh, hn, hc, hcs, hcur⟩⟩
def RetEv (l : List Bool) (w : World) (e : Ending) (w' : World) : Prop := ∃ v, e = .returned (.tuple #[v, .int .i64 0]) ∧ OwnBv w' w.heap.size v l ∧ Below w.heap.size w w'

structure EvS (V : World) (NB BO n : Nat) (nv : Array Value) (m : Nat → Bool) (W : World) : Prop where
  net : W.heap[NB]? = some (.cells nv 25 (0, 0))
  box : W.heap[BO]? = some (.cells #[.slice (some ⟨V.heap.size, 0, none⟩) n n] 35 (0, 0))
  own : OwnB W V.heap.size V.heap.size n (bsOf n m)
  bel : Below V.heap.size V W
  lt : V.heap.size < BO
theorem EvS.of {V W W' : World} {NB BO n : Nat} {nv : Array Value} {m : Nat → Bool} (h : EvS V NB BO n nv m W) (hb : Below W.heap.size W W') : EvS V NB BO n nv m W' :=
  ⟨obj_in hb h.net, obj_in hb h.box, ownB_bel h.own hb, h.bel.trans (hb.mono h.bel.size), h.lt⟩
theorem EvS.congr {V W : World} {NB BO n : Nat} {nv : Array Value} {m m' : Nat → Bool} (h : EvS V NB BO n nv m W) (he : ∀ j, j < n → m j = m' j) : EvS V NB BO n nv m' W :=
  ⟨h.net, h.box, by rw [← bsOf_congr he]; exact h.own, h.bel, h.lt⟩
theorem bsOf_put (n : Nat) (m : Nat → Bool) (k : Nat) (b : Bool) : (bsOf n m).set k b = bsOf n (fun j => if j = k then b else m j) := by
  apply List.ext_getElem?
  intro j
  rw [List.getElem?_set]
  rcases Nat.lt_or_ge j n with h | h
  · rw [bsOf_at h, bsOf_at h]
    by_cases e : k = j
    · subst e
      rw [if_pos rfl, if_pos (by rw [bsOf_len]; exact h), if_pos rfl]
    · rw [if_neg e, if_neg (fun h => e h.symm)]
  · rw [List.getElem?_eq_none (by rw [bsOf_len]; exact h), List.getElem?_eq_none (by rw [bsOf_len]; exact h)]
    by_cases e : k = j
    · rw [if_pos e, if_neg (by rw [bsOf_len]; omega)]
    · rw [if_neg e]
theorem EvS.put {V W : World} {NB BO n : Nat} {nv : Array Value} {m : Nat → Bool} (h : EvS V NB BO n nv m W) (hNB : NB < V.heap.size) (k : Nat) (b : Bool) : EvS V NB BO n nv (fun j => if j = k then b else m j) (W.setCell ⟨V.heap.size, k, none⟩ (.bool b)) := by
  obtain ⟨h1, h2, h3, h4, h5⟩ := h
  refine ⟨obj_neD _ (by omega) h1, obj_neD _ (by omega) h2, ?_, h4.setCell (p := ⟨V.heap.size, k, none⟩) (by simp) _, h5⟩
  rw [← bsOf_put]
  exact ownB_store h3 k b
theorem EvS.cells {V W : World} {NB BO n : Nat} {nv : Array Value} {m : Nat → Bool} (h : EvS V NB BO n nv m W) {k : Nat} (hk : k < n) : W.cell? ⟨V.heap.size, k, none⟩ = some (.bool (m k)) ∧ W.frozen? ⟨V.heap.size, k, none⟩ = false := by
  obtain ⟨b, hb, hf⟩ := ownB_at h.own (j := k) (by rw [bsOf_len]; exact hk)
  exact ⟨ownB_is h.own (bsOf_at hk), hf⟩
theorem egEv1 : ∀ args w, (callFunc 50 args).run Tryz.prog w = .ok (.enter 50 args) w := fun args w => by kernel_rfl
theorem egEv2 : ∀ args w, (callFunc 51 args).run Tryz.prog w = .ok (.enter 51 args) w := fun args w => by kernel_rfl
set_option maxRecDepth 100000 in
theorem testEv1 (l : List Nat) (V : World) (NB BO n : Nat) (nv : Array Value) (m : Nat → Bool) (w : World) (h : EvS V NB BO n nv m w) (hl : ∀ k ∈ l, k < n) : TestI 50 #[.pointer (some ⟨BO, 0, none⟩)] (fun k => !m k.toNat) (intsN l) w := by
  intro x hx W hW
  unfold intsN at hx
  obtain ⟨k, hk, rfl⟩ := List.mem_map.1 hx
  have hkn := hl k hk
  have h2 := h.of hW
  have c0 := box1 h2.box
  obtain ⟨c1, c2⟩ := h2.cells hkn
  have hib : (0 ≤ (k : Int) ∧ (k : Int) < (n : Int)) := ⟨by omega, by omega⟩
  clear h hx hl hk h2
  show Calls _ _ #[.int .i64 (k : Int), .pointer (some ⟨BO, 0, none⟩)] _ (Ret (.bool (!m (k : Int).toNat)) W)
  obtain ⟨b, hb⟩ : ∃ b, m k = b := ⟨_, rfl⟩
  rw [Int.toNat_natCast, hb]
  rw [hb] at c1
  clear hb
  go_enter Tryz.func50, Tryz.ntmps50
  go_wp2
  go_ret
  exact Ret.mk (by (first | rfl | (cases b <;> rfl))) (by (repeat' (first | (with_reducible first | apply Zl1 | apply Zl2 | apply Zl3 | apply Zl4 | apply Zl5 | apply Zl6 | apply Zl7 | apply Zl8 | apply Zl9 | apply Zla | apply Zlb | apply Zlc) | (dsimp only; with_reducible first | apply Zl8 | apply Zl2 | apply Zld) | with_reducible assumption | omega | (dsimp only; omega))))
set_option maxRecDepth 100000 in
theorem testEv2 (l : List Nat) (V : World) (NB BO n : Nat) (nv : Array Value) (m : Nat → Bool) (w : World) (h : EvS V NB BO n nv m w) (hl : ∀ k ∈ l, k < n) : TestI 51 #[.pointer (some ⟨BO, 0, none⟩)] (fun k => m k.toNat) (intsN l) w := by
  intro x hx W hW
  unfold intsN at hx
  obtain ⟨k, hk, rfl⟩ := List.mem_map.1 hx
  have hkn := hl k hk
  have h2 := h.of hW
  have c0 := box1 h2.box
  obtain ⟨c1, c2⟩ := h2.cells hkn
  have hib : (0 ≤ (k : Int) ∧ (k : Int) < (n : Int)) := ⟨by omega, by omega⟩
  clear h hx hl hk h2
  show Calls _ _ #[.int .i64 (k : Int), .pointer (some ⟨BO, 0, none⟩)] _ (Ret (.bool (m (k : Int).toNat)) W)
  obtain ⟨b, hb⟩ : ∃ b, m k = b := ⟨_, rfl⟩
  rw [Int.toNat_natCast, hb]
  rw [hb] at c1
  clear hb
  go_enter Tryz.func51, Tryz.ntmps51
  go_wp2
  go_ret
  exact Ret.mk (by (first | rfl | (cases b <;> rfl))) (by (repeat' (first | (with_reducible first | apply Zl1 | apply Zl2 | apply Zl3 | apply Zl4 | apply Zl5 | apply Zl6 | apply Zl7 | apply Zl8 | apply Zl9 | apply Zla | apply Zlb | apply Zlc) | (dsimp only; with_reducible first | apply Zl8 | apply Zl2 | apply Zld) | with_reducible assumption | omega | (dsimp only; omega))))
theorem evm (f : Nat → Bool) (k j : Nat) : (if j = k then f k else decide (j < k) && f j) = (decide (j < k + 1) && f j) := by
  by_cases h : j = k
  · subst h
    rw [if_pos rfl, decide_eq_true (by omega)]
    rfl
  · rw [if_neg h]
    congr 1
    exact decide_eq_decide.2 (by omega)
set_option maxRecDepth 100000 in
set_option maxHeartbeats 12800000 in
theorem evaluate_any (G : List Gt) (O : List Nat) (vals : List Bool) (P Q : Nat → Prop) (ga oa : Option Addr) (gc oc vb vc : Nat) (w : World) (hok : okN vals.length (G, O)) (hg : InGt P w ga (G.map gz)) (ho : InS Q w oa (intsN O)) (hl : G.length ≤ 50000) (hol : O.length ≤ 100000000) (hil : ∀ g ∈ G, g.2.2.length ≤ 100000000) (hv : ∀ (j : Nat) b, vals[j]? = some b → w.cell? ⟨vb, j, none⟩ = some (.bool b)) :
    Calls Tryz.prog 24 #[nV ga G.length gc oa O.length oc, .slice (some ⟨vb, 0, none⟩) vals.length vc] w (RetEv (O.map (vl (fun i => vals.getD i false) G)) w) := by
  obtain ⟨i0, hi0, hz0, hz1, hz2⟩ := info_parts Tryz.infoBo
  have HG := Lib.hid hg
  have HOK := Lib.hid hok
  have HOI := Lib.hid ho
  have HIL := Lib.hid hil
  have HVL := Lib.hid hv
  have hz : nErr (G.map gz) (intsN O) vals.length = 0 := nErr_of hok (by omega)
  have hck := fun W (hb : Below w.heap.size w W) => check_any (G.map gz) (intsN O) vals.length (fun _ => True) ga oa gc oc W ((hg.of hb).imp fun _ _ _ => trivial) ((ho.of hb).imp fun _ _ _ => trivial) (by rw [List.length_map]; omega) (fun x hx => by obtain ⟨g, hg, rfl⟩ := List.mem_map.1 hx; have := hil g hg; simp [gz]; omega) (by unfold intsN; rw [List.length_map]; omega)
  rw [hz, List.length_map, show (intsN O).length = O.length from List.length_map ..] at hck
  have HCK := Lib.hid hck
  have HLT := Lib.hid hok.2
  obtain ⟨n, hn⟩ : ∃ n, G.length = n := ⟨_, rfl⟩
  have HN := Lib.hid hn
  have hev := fun i (h : i < n) => vl_at hok.1 (fun i => vals.getD i false) (show i < G.length by rw [hn]; exact h)
  obtain ⟨f, hf⟩ : ∃ f, vl (fun i => vals.getD i false) G = f := ⟨_, rfl⟩
  rw [hf] at hev ⊢
  have HEV := Lib.hid hev
  rw [hn] at hl HCK HLT ⊢
  clear hok hg ho hil hv hz hck hn hf hev
  unfold nV
  go_enter Tryz.func24, Tryz.ntmps24
  go_wp2_with fail
  have hx0 := World.alloc_heap_new w (.cells #[.slice ga n gc, .slice oa O.length oc] 25 (0, 0))
  refine (HCK.out _ (by (repeat' (first | (with_reducible first | apply Zl1 | apply Zl2 | apply Zl3 | apply Zl4 | apply Zl5 | apply Zl6 | apply Zl7 | apply Zl8 | apply Zl9 | apply Zla | apply Zlb | apply Zlc) | (dsimp only; with_reducible first | apply Zl8 | apply Zl2 | apply Zld) | with_reducible assumption | omega | (dsimp only; omega))))).mono ?_
  rintro _ _ ⟨rfl, y, rfl⟩
  have hx1 := obj_in y.below hx0
  have hBV : Below w.heap.size w y.w := by (repeat' (first | (with_reducible first | apply Zl1 | apply Zl2 | apply Zl3 | apply Zl4 | apply Zl5 | apply Zl6 | apply Zl7 | apply Zl8 | apply Zl9 | apply Zla | apply Zlb | apply Zlc) | (dsimp only; with_reducible first | apply Zl8 | apply Zl2 | apply Zld) | with_reducible assumption | omega | (dsimp only; omega)))
  have hNB := (Array.getElem?_eq_some_iff.1 hx1).1
  obtain ⟨V, hV⟩ : ∃ V, y.w = V := ⟨_, rfl⟩
  rw [hV] at hx1 hBV hNB ⊢
  have HX1 := Lib.hid hx1
  have HBV := Lib.hid hBV
  have hws := hBV.size
  obtain ⟨n0, n1, -⟩ := box2 hx1
  clear hx0 hx1 hBV hV HCK
  dsimp only
  go_wp2_with (at_make; refine wpList_make_full _ rfl _ _ 35 rfl (V.heap.size) 4 i0 (.bool false) 1 Tryz.underlying35 hi0 hz0 hz1 _ _ _ _ (n) rfl rfl (by first | rfl | omega | (simp <;> omega)) (by first | rfl | omega | (simp <;> omega)) (by rw [hz2] <;> omega) (by unfold maxLen; omega) (by first | omega | (simp <;> omega)) ?_; intro wM hownM hgrowM; have HOM := Lib.hid hownM; have HGM := Lib.hid hgrowM; clear hownM hgrowM; have hnm := (HGM.out.block w.heap.size hNB (by simp)).trans HX1.out; obtain ⟨m0, m1, -⟩ := box2 hnm; have HNM := Lib.hid hnm; clear n0 n1 hnm)
  have hsM := HGM.out.size
  have hob : OwnB wM V.heap.size V.heap.size n (bsOf n fun j => decide (j < 0) && f j) := by
    have hbs : bsOf n (fun j => decide (j < 0) && f j) = List.replicate n false := by
      rw [bsOf_congr (m' := fun _ => false) (fun j _ => by simp)]
      unfold bsOf
      rw [List.map_const', List.length_range]
    rw [hbs]
    unfold OwnB boolsD
    rw [List.length_replicate, List.map_replicate]
    have := HOM.out
    rw [Nat.mul_one, show (Value.bool false).cells = #[Value.bool false] from rfl, toList_madeCells_one] at this
    exact this
  have hlt := (ownB_lt hob).2
  have hBM : Below V.heap.size V wM := (Below.refl _ V).grown HGM.out (Nat.le_refl _) (fun k e => by cases e)
  have hst : EvS V w.heap.size wM.heap.size n #[.slice ga n gc, .slice oa O.length oc] (fun j => decide (j < 0) && f j) (wM.alloc (.cells #[.slice (some ⟨V.heap.size, 0, none⟩) n n] 35 (0, 0))) :=
    ⟨obj_alloc _ HNM.out, World.alloc_heap_new wM _, ownB_bel hob ((Below.refl _ wM).alloc (Nat.le_refl _) _), hBM.alloc (by omega) _, hlt⟩
  have HST := Lib.hid hst
  obtain ⟨BO, hBO⟩ : ∃ b, wM.heap.size = b := ⟨_, rfl⟩
  rw [hBO] at HST hlt ⊢
  clear hob hBM hst HNM HX1 HOM HGM m0 m1 hBO
  go_loopw [27] (fun iv wr => ∃ k : Nat, iv = .int .i64 (k : Int) ∧ k ≤ n ∧ EvS V w.heap.size BO n #[.slice ga n gc, .slice oa O.length oc] (fun j => decide (j < k) && f j) wr) (fun iv _ => n - (intOf iv).toNat)
  case atStart => exact ⟨0, rfl, Nat.zero_le _, HST.out⟩
  case round =>
    rename World => wo
    obtain ⟨k, rfl, hk, hS⟩ := hrel
    have hbw := HBV.out.trans (hS.bel.mono hws)
    have HS := Lib.hid hS
    have HBW := Lib.hid hbw
    obtain ⟨m0, m1, -⟩ := box2 hS.net
    have hVs := hS.bel.size
    rcases Nat.lt_or_ge k n with hkl | hkl
    · obtain ⟨gg, hgg⟩ : ∃ gg, G[k]? = some gg := ⟨_, List.getElem?_eq_getElem (by rw [HN.out]; exact hkl)⟩
      obtain ⟨b2, o2, hadd, hb2, ax, cx, y0, y1, y2, hiy⟩ := (HG.out.of hbw).at (show (G.map gz)[k]? = some (gz gg) by rw [List.getElem?_map, hgg]; rfl)
      subst hadd
      dsimp only [gz] at y0 y1 y2 hiy
      rw [List.length_map] at y2
      have HOG := Lib.hid (HOK.out.1 k gg hgg)
      have hgl := HIL.out gg (List.mem_of_getElem? hgg)
      have hins := okG_ins HOG.out
      have hev := HEV.out k hkl
      rw [gtAt_some hgg] at hev
      have HE := Lib.hid hev
      have f1 : decide ((k : Int) < (n : Int)) = true := decide_eq_true (by omega)
      have hib : (0 ≤ (k : Int) ∧ (k : Int) < (n : Int)) := ⟨by omega, by omega⟩
      have hbx := World.alloc_heap_new wo (.cells #[.int .i64 (gg.1 : Int), .int .i64 (gg.2.1 : Int), .slice ax gg.2.2.length cx] 45 (0, 0))
      have hb2w : Below wo.heap.size wo (wo.alloc (.cells #[.int .i64 (gg.1 : Int), .int .i64 (gg.2.1 : Int), .slice ax gg.2.2.length cx] 45 (0, 0))) := (Below.refl _ _).alloc (Nat.le_refl _) _
      have hsz := hS.of hb2w
      have hbz := hbw.trans (hb2w.mono hbw.size)
      have HI2 := Lib.hid (hiy.of hb2w)
      clear hgg hiy hev hb2w hS hbw
      by_cases h1 : gg.1 = 1
      · have f2 : ((gg.1 : Int) == 1) = true := by simp [h1]
        have harg : gg.2.1 < vals.length := by
          rcases HOG.out with ⟨_, h, _⟩ | ⟨h, _⟩ | ⟨h, _⟩ | ⟨h, _⟩ <;> omega
        obtain ⟨b, hb⟩ := some_at harg
        have HFK := Lib.hid (show f k = b by rw [HE.out, ev1, if_pos h1, List.getD_eq_getElem?_getD, hb]; rfl)
        have HVB := Lib.hid (HVL.out _ _ hb)
        have hia : (0 ≤ (gg.2.1 : Int) ∧ (gg.2.1 : Int) < (vals.length : Int)) := ⟨by omega, by omega⟩
        clear h1 hb
        go_wp2_with fail
        obtain ⟨Z, hZ⟩ : ∃ Z, wo.alloc (.cells #[.int .i64 (gg.1 : Int), .int .i64 (gg.2.1 : Int), .slice ax gg.2.2.length cx] 45 (0, 0)) = Z := ⟨_, rfl⟩
        rw [hZ] at hbx hbz hsz HI2 ⊢
        obtain ⟨GB, hGB⟩ : ∃ b, wo.heap.size = b := ⟨_, rfl⟩
        rw [hGB] at hbx ⊢
        clear hZ y0 y1 y2 m0 m1
        obtain ⟨p0, p1, p2⟩ := box3 hbx
        have c0 := box1 hsz.box
        obtain ⟨c1, c2⟩ := hsz.cells hkl
        have HSZ := Lib.hid hsz
        have HBZ := Lib.hid hbz
        have hZs := hbz.size
        clear hsz hbz hbx hGB
        have v0 := below_cell HBZ.out _ _ _ HVB.out
        go_region
        go_wp2
        go_roundw
        case measure => simp [intOf]; omega
        case rel =>
          refine ⟨k + 1, by go_num, by omega, ?_⟩
          have hh := (HSZ.out.put hNB k (f k)).congr (m' := fun j => decide (j < k + 1) && f j) (fun j _ => evm f k j)
          rw [HFK.out] at hh
          first | exact hh | exact hh.of (Below.drew (Below.refl _ _))
      have f2 : ((gg.1 : Int) == 1) = false := by simp; omega
      by_cases h2 : gg.1 = 2
      · have f3 : ((gg.1 : Int) == 2) = true := by simp [h2]
        obtain ⟨k0, hk0, hki⟩ : ∃ k0, gg.2.2 = [k0] ∧ k0 < k := by
          rcases HOG.out with ⟨h, _⟩ | ⟨_, _, k0, h, h'⟩ | ⟨h, _⟩ | ⟨h, _⟩
          · omega
          · exact ⟨k0, h, h'⟩
          · omega
          · omega
        obtain ⟨b, hb⟩ : ∃ b, f k0 = b := ⟨_, rfl⟩
        have HFK := Lib.hid (show f k = !b by rw [HE.out, ev1, if_neg h1, if_pos h2, hk0, ← hb]; rfl)
        have HB := Lib.hid hb
        have HK0 := Lib.hid hk0
        have hln : gg.2.2.length = 1 := by rw [hk0]; rfl
        have hia : (0 ≤ (0 : Int) ∧ (0 : Int) < (gg.2.2.length : Int)) := ⟨by omega, by omega⟩
        have hic : (0 ≤ (k0 : Int) ∧ (k0 : Int) < (n : Int)) := ⟨by omega, by omega⟩
        clear h1 h2 hb hk0 hln
        go_wp2_with fail
        obtain ⟨Z, hZ⟩ : ∃ Z, wo.alloc (.cells #[.int .i64 (gg.1 : Int), .int .i64 (gg.2.1 : Int), .slice ax gg.2.2.length cx] 45 (0, 0)) = Z := ⟨_, rfl⟩
        rw [hZ] at hbx hbz hsz HI2 ⊢
        obtain ⟨GB, hGB⟩ : ∃ b, wo.heap.size = b := ⟨_, rfl⟩
        rw [hGB] at hbx ⊢
        clear hZ y0 y1 y2 m0 m1
        obtain ⟨p0, p1, p2⟩ := box3 hbx
        have c0 := box1 hsz.box
        obtain ⟨c1, c2⟩ := hsz.cells hkl
        have HSZ := Lib.hid hsz
        have HBZ := Lib.hid hbz
        have hZs := hbz.size
        clear hsz hbz hbx hGB
        obtain ⟨b3, o3, hadd, hb3, z0⟩ := HI2.out.at (show (gg.2.2.map fun k : Nat => (k : Int))[0]? = some (k0 : Int) by rw [HK0.out]; rfl)
        subst hadd
        rw [Nat.add_zero] at z0
        obtain ⟨e1, e2⟩ := HSZ.out.cells (show k0 < n by omega)
        rw [decide_eq_true hki, Bool.true_and, HB.out] at e1
        go_region
        go_wp2
        go_roundw
        case measure => simp [intOf]; omega
        case rel =>
          refine ⟨k + 1, by go_num, by omega, ?_⟩
          have hh := (HSZ.out.put hNB k (f k)).congr (m' := fun j => decide (j < k + 1) && f j) (fun j _ => evm f k j)
          rw [HFK.out] at hh
          first | exact hh | exact hh.of (Below.drew (Below.refl _ _))
      have f3 : ((gg.1 : Int) == 2) = false := by simp; omega
      by_cases h3 : gg.1 = 3
      · have f4 : ((gg.1 : Int) == 3) = true := by simp [h3]
        have HFK0 := Lib.hid (show f k = gg.2.2.all f by rw [HE.out, ev1, if_neg h1, if_neg h2, if_pos h3])
        clear h1 h2 h3
        go_wp2_with fail
        obtain ⟨Z, hZ⟩ : ∃ Z, wo.alloc (.cells #[.int .i64 (gg.1 : Int), .int .i64 (gg.2.1 : Int), .slice ax gg.2.2.length cx] 45 (0, 0)) = Z := ⟨_, rfl⟩
        rw [hZ] at hbx hbz hsz HI2 ⊢
        obtain ⟨GB, hGB⟩ : ∃ b, wo.heap.size = b := ⟨_, rfl⟩
        rw [hGB] at hbx ⊢
        clear hZ y0 y1 y2 m0 m1
        obtain ⟨p0, p1, p2⟩ := box3 hbx
        have c0 := box1 hsz.box
        obtain ⟨c1, c2⟩ := hsz.cells hkl
        have HSZ := Lib.hid hsz
        have HBZ := Lib.hid hbz
        have hZs := hbz.size
        clear hsz hbz hbx hGB
        have hcf := fun (x : Bel Z) => containsI_any 50 _ egEv1 _ (intsN gg.2.2) _ ax cx x.w (HI2.out.of x.below) (by unfold intsN; rw [List.length_map]; omega) (testEv1 gg.2.2 V w.heap.size BO n _ _ x.w (HSZ.out.of x.below) (fun j hj => by have := hins j hj; omega))
        obtain ⟨q, hq⟩ : ∃ q, (intsN gg.2.2).any (fun k' => !(decide (k'.toNat < k) && f k'.toNat)) = q := ⟨_, rfl⟩
        rw [hq, show (intsN gg.2.2).length = gg.2.2.length from List.length_map ..] at hcf
        have HCF := Lib.hid hcf
        have HFK := Lib.hid (show f k = !q by
          rw [HFK0.out, ← hq]
          unfold intsN
          rw [List.any_map, List.all_eq_not_any_not]
          refine congrArg (fun x => !x) (any_congr fun j hj => ?_)
          show (!f j) = !(decide ((j : Int).toNat < k) && f (j : Int).toNat)
          rw [Int.toNat_natCast, decide_eq_true (hins j hj), Bool.true_and])
        clear hcf hq
        refine wp_region_belT 8 (by kernel_rfl) (by kernel_rfl) ?_
        simp only [List.take_succ_cons, List.take_zero, List.drop_succ_cons, List.drop_zero]
        repeat (go_big_quiet_step ((go_at_call 49; with_reducible exact bel_of (HCF.out _))))
        refine wpQuiet_nil ?_
        rintro _ ⟨z, rfl⟩
        go_wp2
        go_roundw
        case measure => simp [intOf]; omega
        case rel =>
          refine ⟨k + 1, by go_num, by omega, ?_⟩
          have hh := ((HSZ.out.of z.below).put hNB k (f k)).congr (m' := fun j => decide (j < k + 1) && f j) (fun j _ => evm f k j)
          rw [HFK.out] at hh
          first | exact hh | exact hh.of (Below.drew (Below.refl _ _))
      have f4 : ((gg.1 : Int) == 3) = false := by simp; omega
      by_cases h4 : gg.1 = 4
      · have f5 : ((gg.1 : Int) == 4) = true := by simp [h4]
        have HFK0 := Lib.hid (show f k = gg.2.2.any f by rw [HE.out, ev1, if_neg h1, if_neg h2, if_neg h3, if_pos h4])
        clear h1 h2 h3 h4
        go_wp2_with fail
        obtain ⟨Z, hZ⟩ : ∃ Z, wo.alloc (.cells #[.int .i64 (gg.1 : Int), .int .i64 (gg.2.1 : Int), .slice ax gg.2.2.length cx] 45 (0, 0)) = Z := ⟨_, rfl⟩
        rw [hZ] at hbx hbz hsz HI2 ⊢
        obtain ⟨GB, hGB⟩ : ∃ b, wo.heap.size = b := ⟨_, rfl⟩
        rw [hGB] at hbx ⊢
        clear hZ y0 y1 y2 m0 m1
        obtain ⟨p0, p1, p2⟩ := box3 hbx
        have c0 := box1 hsz.box
        obtain ⟨c1, c2⟩ := hsz.cells hkl
        have HSZ := Lib.hid hsz
        have HBZ := Lib.hid hbz
        have hZs := hbz.size
        clear hsz hbz hbx hGB
        have hcf := fun (x : Bel Z) => containsI_any 51 _ egEv2 _ (intsN gg.2.2) _ ax cx x.w (HI2.out.of x.below) (by unfold intsN; rw [List.length_map]; omega) (testEv2 gg.2.2 V w.heap.size BO n _ _ x.w (HSZ.out.of x.below) (fun j hj => by have := hins j hj; omega))
        obtain ⟨q, hq⟩ : ∃ q, (intsN gg.2.2).any (fun k' => (decide (k'.toNat < k) && f k'.toNat)) = q := ⟨_, rfl⟩
        rw [hq, show (intsN gg.2.2).length = gg.2.2.length from List.length_map ..] at hcf
        have HCF := Lib.hid hcf
        have HFK := Lib.hid (show f k = q by
          rw [HFK0.out, ← hq]
          unfold intsN
          rw [List.any_map]
          refine any_congr fun j hj => ?_
          show f j = (decide ((j : Int).toNat < k) && f (j : Int).toNat)
          rw [Int.toNat_natCast, decide_eq_true (hins j hj), Bool.true_and])
        clear hcf hq
        refine wp_region_belT 7 (by kernel_rfl) (by kernel_rfl) ?_
        simp only [List.take_succ_cons, List.take_zero, List.drop_succ_cons, List.drop_zero]
        repeat (go_big_quiet_step ((go_at_call 49; with_reducible exact bel_of (HCF.out _))))
        refine wpQuiet_nil ?_
        rintro _ ⟨z, rfl⟩
        go_wp2
        go_roundw
        case measure => simp [intOf]; omega
        case rel =>
          refine ⟨k + 1, by go_num, by omega, ?_⟩
          have hh := ((HSZ.out.of z.below).put hNB k (f k)).congr (m' := fun j => decide (j < k + 1) && f j) (fun j _ => evm f k j)
          rw [HFK.out] at hh
          first | exact hh | exact hh.of (Below.drew (Below.refl _ _))
      have f5 : ((gg.1 : Int) == 4) = false := by simp; omega
      have c0 := box1 HS.out.box
      obtain ⟨c1, c2⟩ := HS.out.cells hkl
      have HSZ := Lib.hid hsz
      by_cases h6 : gg.1 = 6
      · have f6 : ((gg.1 : Int) == 6) = true := by simp [h6]
        have HFK := Lib.hid (show f k = true by rw [HE.out, ev1, if_neg h1, if_neg h2, if_neg h3, if_neg h4, decide_eq_true h6])
        clear h1 h2 h3 h4 h6 hsz
        go_wp2
        go_roundw
        case measure => simp [intOf]; omega
        case rel =>
          refine ⟨k + 1, by go_num, by omega, ?_⟩
          have hh := (HSZ.out.put hNB k (f k)).congr (m' := fun j => decide (j < k + 1) && f j) (fun j _ => evm f k j)
          rw [HFK.out] at hh
          first | exact hh | exact hh.of (Below.drew (Below.refl _ _))
      · have f6 : ((gg.1 : Int) == 6) = false := by simp; omega
        have HFK := Lib.hid (show f k = false by rw [HE.out, ev1, if_neg h1, if_neg h2, if_neg h3, if_neg h4, decide_eq_false h6])
        clear h1 h2 h3 h4 h6 hsz
        go_wp2
        go_roundw
        case measure => simp [intOf]; omega
        case rel =>
          refine ⟨k + 1, by go_num, by omega, HSZ.out.congr fun j _ => ?_⟩
          rw [← evm f k j]
          split
          · rename_i h; subst h; rw [HFK.out, Bool.and_false]
          · rfl
    · have hke : k = n := by omega
      subst hke
      have f1 : decide ((k : Int) < (k : Int)) = false := decide_eq_false (by omega)
      clear hS hbw
      go_wp2_with fail
      go_loopw [10, 85] (fun ov iv wr => ∃ j : Nat, iv = .int .i64 (j : Int) ∧ j ≤ O.length ∧ OwnBv wr wo.heap.size ov ((O.take j).map f) ∧ Below wo.heap.size wo wr) (fun _ iv _ => O.length - (intOf iv).toNat)
      case atStart => exact ⟨0, rfl, Nat.zero_le _, World.ownsRow_nil _ _ _ _, Below.refl _ _⟩
      case round =>
        rename World => wi
        obtain ⟨j, rfl, hj, hou, hbe⟩ := hrel
        obtain ⟨ta, tc, htv, -⟩ := ownBv_sl hou
        have hll : ((O.take j).map f).length = j := by rw [List.length_map, List.length_take]; omega
        rw [hll] at htv
        subst htv
        have HOU := Lib.hid hou
        have HBE := Lib.hid hbe
        have HLL := Lib.hid hll
        have hbs := hbe.size
        clear hou hbe hll
        rcases Nat.lt_or_ge j O.length with hjl | hjl
        · obtain ⟨o, ho⟩ := some_at hjl
          have hok := HLT.out o (List.mem_of_getElem? ho)
          obtain ⟨b3, o3, hadd, hb3, z0⟩ := (HOI.out.of (HBW.out.trans (HBE.out.mono HBW.out.size))).at (show (intsN O)[j]? = some (o : Int) by unfold intsN; rw [List.getElem?_map, ho]; rfl)
          subst hadd
          have hSi := HS.out.of HBE.out
          have c0 := box1 hSi.box
          obtain ⟨c1, c2⟩ := hSi.cells hok
          rw [decide_eq_true hok, Bool.true_and] at c1
          have f2 : decide ((j : Int) < (O.length : Int)) = true := decide_eq_true (by omega)
          have hia : (0 ≤ (j : Int) ∧ (j : Int) < (O.length : Int)) := ⟨by omega, by omega⟩
          have hic : (0 ≤ (o : Int) ∧ (o : Int) < (k : Int)) := ⟨by omega, by omega⟩
          have HTK := Lib.hid (show (O.take (j + 1)).map f = (O.take j).map f ++ [f o] by rw [List.take_add_one, ho, List.map_append]; rfl)
          obtain ⟨b, hb⟩ : ∃ b, f o = b := ⟨_, rfl⟩
          rw [hb] at c1 HTK
          clear ho hb hSi
          go_wp2_with (at_builtin; refine wpList_appBo rfl _ _ 35 rfl i0 Tryz.underlying35 hi0 hz0 hz1 hz2 _ wo.heap.size (.slice ta j tc) ((O.take j).map f) b wi.heap.size rfl (ownBv_bel HOU.out ((Below.refl _ _).alloc (Nat.le_refl _) _)) rfl (World.alloc_heap_new wi _) (by rw [HLL.out]; omega) (by simp; omega) ?_; intro g1 c1' w1 ho1 hb1 hs1; rw [HLL.out] at ho1 ⊢; have HO1 := Lib.hid ho1; have HB1 := Lib.hid hb1; simp only [World.size_alloc] at hs1; clear ho1 hb1)
          have hbf : Below wo.heap.size wi w1 := ((Below.refl _ wi).alloc (by omega) _).trans HB1.out
          refine ⟨⟨j + 1, by go_num, by omega, ?_, HBE.out.trans (hbf.mono (by omega))⟩, by simp [intOf]; omega⟩
          rw [HTK.out]
          exact HO1.out
        · have hke : j = O.length := by omega
          subst hke
          have f2 : decide ((O.length : Int) < (O.length : Int)) = false := decide_eq_false (by omega)
          go_wp2
          refine bodyPost_ret (v := .tuple #[.slice ta O.length tc, .int .i64 0]) (by simp [results, Tryz.results24, go_sem]) rfl ⟨_, rfl, ?_, HBW.out.trans (HBE.out.mono HBW.out.size)⟩
          have := ownBv_low HOU.out HBW.out.size
          rwa [List.take_length] at this
end Go.Proofs.YtlnedapimmabdaaGreatDoor
