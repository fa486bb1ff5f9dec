/- minimize.Size: the numbers of gates of each kind, of inputs, and the levels. -/
import Derived.Test.YtlnedapimmabdaaGreatDoorW5
namespace Go.Proofs.YtlnedapimmabdaaGreatDoor
set_option linter.unusedVariables false
set_option linter.unusedSimpArgs false
open Go.RowKit
attribute [local go_sem low] Bel.cell Bel.frozen alloc_cell alloc_frozen

def mxL (L : List Nat) (ins : List Nat) : Nat := ins.foldl (fun m k => max m (L.getD k 0 + 1)) 0
def lvK (G : List Gt) (k : Nat) : List Nat := (G.take k).foldl (fun L g => L ++ [mxL L g.2.2]) []
theorem mxL_snoc (L l : List Nat) (x : Nat) : mxL L (l ++ [x]) = max (mxL L l) (L.getD x 0 + 1) := by unfold mxL; rw [List.foldl_append]; rfl
theorem takeS {α : Type} {l : List α} {k : Nat} {x : α} (h : l[k]? = some x) : l.take (k + 1) = l.take k ++ [x] := by
  rw [List.take_add_one, h]
  rfl
theorem lvK_succ {G : List Gt} {k : Nat} {g : Gt} (h : G[k]? = some g) : lvK G (k + 1) = lvK G k ++ [mxL (lvK G k) g.2.2] := by
  unfold lvK
  rw [takeS h, List.foldl_append]
  rfl
theorem lvK_len (G : List Gt) : ∀ k, k ≤ G.length → (lvK G k).length = k
  | 0, _ => rfl
  | k + 1, h => by
    rw [lvK_succ (List.getElem?_eq_getElem (show k < G.length by omega)), List.length_append, lvK_len G k (by omega)]
    rfl
theorem mxL_le {L ins : List Nat} {b : Nat} (h : ∀ k ∈ ins, L.getD k 0 + 1 ≤ b) : mxL L ins ≤ b := by
  have key : ∀ (l : List Nat) (m : Nat), m ≤ b → (∀ k ∈ l, L.getD k 0 + 1 ≤ b) → l.foldl (fun m k => max m (L.getD k 0 + 1)) m ≤ b := by
    intro l
    induction l with
    | nil => intro m hm _; exact hm
    | cons x r ih => intro m hm hh; exact ih _ (Nat.max_le.2 ⟨hm, hh x (List.mem_cons_self ..)⟩) fun k hk => hh k (List.mem_cons_of_mem _ hk)
  exact key ins 0 (Nat.zero_le _) h
theorem lvK_le {v : Nat} {G : List Gt} (ho : okL v G) : ∀ k, k ≤ G.length → ∀ j, (lvK G k).getD j 0 ≤ j
  | 0, _, j => by simp [lvK]
  | k + 1, h, j => by
    have hg := List.getElem?_eq_getElem (show k < G.length by omega)
    rw [lvK_succ hg, List.getD_eq_getElem?_getD]
    have hl := lvK_len G k (by omega)
    have ih := lvK_le ho k (by omega)
    rcases Nat.lt_trichotomy j k with h1 | h1 | h1
    · rw [List.getElem?_append_left (by omega), ← List.getD_eq_getElem?_getD]
      exact ih j
    · subst h1
      rw [List.getElem?_append_right (by omega), hl, Nat.sub_self]
      refine mxL_le fun i hi => ?_
      have := okG_ins (ho _ _ hg) i hi
      have := ih i
      omega
    · rw [List.getElem?_eq_none (by rw [List.length_append, hl]; simp; omega)]
      exact Nat.zero_le _
def clsG (g : Gt) : Nat := if g.1 = 1 then 0 else if g.1 = 2 then 1 else if g.1 = 3 then 2 else if g.1 = 4 then 3 else 4
def cntK (G : List Gt) (c k : Nat) : Nat := ((G.take k).filter fun g => decide (clsG g = c)).length
def inpK (G : List Gt) (k : Nat) : Nat := (G.take k).foldl (fun n g => n + g.2.2.length) 0
def topK (G : List Gt) (k : Nat) : Nat := (lvK G k).foldl max 0
theorem cntK_hit {G : List Gt} {k : Nat} {g : Gt} (h : G[k]? = some g) {c : Nat} (hc : clsG g = c) : cntK G c (k + 1) = cntK G c k + 1 := by
  unfold cntK
  rw [takeS h, List.filter_append, List.length_append, List.filter_cons, if_pos (decide_eq_true hc)]
  rfl
theorem cntK_miss {G : List Gt} {k : Nat} {g : Gt} (h : G[k]? = some g) {c : Nat} (hc : clsG g ≠ c) : cntK G c (k + 1) = cntK G c k := by
  unfold cntK
  rw [takeS h, List.filter_append, List.length_append, List.filter_cons, if_neg (by simpa using hc)]
  rfl
theorem cntK_le (G : List Gt) (c k : Nat) : cntK G c k ≤ k := by
  unfold cntK
  exact Nat.le_trans (List.length_filter_le ..) (by rw [List.length_take]; omega)
theorem inpK_succ {G : List Gt} {k : Nat} {g : Gt} (h : G[k]? = some g) : inpK G (k + 1) = inpK G k + g.2.2.length := by
  unfold inpK
  rw [takeS h, List.foldl_append]
  rfl
theorem inpK_le {G : List Gt} {b : Nat} (h : ∀ g ∈ G, g.2.2.length ≤ b) : ∀ k, k ≤ G.length → inpK G k ≤ k * b
  | 0, _ => by simp [inpK]
  | k + 1, hk => by
    have hg := List.getElem?_eq_getElem (show k < G.length by omega)
    rw [inpK_succ hg, Nat.succ_mul]
    exact Nat.add_le_add (inpK_le h k (by omega)) (h _ (List.mem_of_getElem? hg))
theorem topK_succ {G : List Gt} {k : Nat} {g : Gt} (h : G[k]? = some g) : topK G (k + 1) = max (topK G k) (mxL (lvK G k) g.2.2) := by
  unfold topK
  rw [lvK_succ h, List.foldl_append]
  rfl
theorem topK_le {v : Nat} {G : List Gt} (ho : okL v G) : ∀ k, k ≤ G.length → topK G k ≤ k
  | 0, _ => by simp [topK, lvK]
  | k + 1, h => by
    have hg := List.getElem?_eq_getElem (show k < G.length by omega)
    rw [topK_succ hg]
    have := topK_le ho k (by omega)
    have h2 : mxL (lvK G k) G[k].2.2 ≤ k + 1 := mxL_le fun i hi => by
      have := okG_ins (ho _ _ hg) i hi
      have := lvK_le ho k (by omega) i
      omega
    omega
theorem ToS.put {W : World} {lo T c n : Nat} {num : List Nat} {m : Nat} (h : ToS W lo T c n (num ++ [m])) (x : Nat) : ToS (W.setCell ⟨T, num.length, none⟩ (.int .i64 (x : Int))) lo T c n (num ++ [x]) := by
  have hn : num.length < n := by have := h.2; rw [List.length_append, List.length_singleton] at this; omega
  refine ⟨?_, by rw [List.length_append, List.length_singleton]; omega⟩
  have hl : ((num ++ [m]) ++ List.replicate (n - (num ++ [m]).length) 0).length = n := by simp; omega
  have h1 : W.ownsRow lo 3 1 (.slice (some ⟨T, 0, none⟩) n c) n (natsV ((num ++ [m]) ++ List.replicate (n - (num ++ [m]).length) 0)) := by have := h.1; unfold OwnN at this; rwa [hl] at this
  have h2 := (World.ownsRow.stored h1 num.length (.int .i64 (x : Int))).1
  have e : ((num ++ [m]) ++ List.replicate (n - (num ++ [m]).length) 0).set num.length x = (num ++ [x]) ++ List.replicate (n - (num ++ [x]).length) 0 := by
    rw [List.append_assoc, List.set_append_right _ _ (Nat.le_refl _), Nat.sub_self, List.append_assoc]
    simp
  unfold OwnN
  rw [← e, List.length_set, hl]
  unfold natsV at h2 ⊢
  rw [List.map_set]
  exact h2
def cntV (G : List Gt) (k : Nat) : Array Value := #[.int .i64 (cntK G 0 k : Int), .int .i64 (cntK G 1 k : Int), .int .i64 (cntK G 2 k : Int), .int .i64 (cntK G 3 k : Int), .int .i64 (cntK G 4 k : Int), .int .i64 (inpK G k : Int), .int .i64 (topK G k : Int)]
theorem cell7 {W : World} {b : Nat} {x0 x1 x2 x3 x4 x5 x6 : Value} {e : TypeId} (h : W.heap[b]? = some (.cells #[x0, x1, x2, x3, x4, x5, x6] e (0, 0))) : (W.cell? ⟨b, 0, none⟩ = some x0 ∧ W.cell? ⟨b, 1, none⟩ = some x1 ∧ W.cell? ⟨b, 2, none⟩ = some x2 ∧ W.cell? ⟨b, 3, none⟩ = some x3 ∧ W.cell? ⟨b, 4, none⟩ = some x4 ∧ W.cell? ⟨b, 5, none⟩ = some x5 ∧ W.cell? ⟨b, 6, none⟩ = some x6) ∧
    W.frozen? ⟨b, 0, none⟩ = false ∧ W.frozen? ⟨b, 1, none⟩ = false ∧ W.frozen? ⟨b, 2, none⟩ = false ∧ W.frozen? ⟨b, 3, none⟩ = false ∧ W.frozen? ⟨b, 4, none⟩ = false ∧ W.frozen? ⟨b, 5, none⟩ = false ∧ W.frozen? ⟨b, 6, none⟩ = false := by
  refine ⟨⟨?_, ?_, ?_, ?_, ?_, ?_, ?_⟩, ?_, ?_, ?_, ?_, ?_, ?_, ?_⟩ <;> simp [World.cell?, World.frozen?, h]
structure SzS (V : World) (T n : Nat) (c : Array Value) (L : List Nat) (W : World) : Prop where
  cnt : W.heap[V.heap.size]? = some (.cells c 57 (0, 0))
  lev : ToS W V.heap.size T n n L
  bel : Below V.heap.size V W
  ne : V.heap.size < T
theorem SzS.of {V W W' : World} {T n : Nat} {c : Array Value} {L : List Nat} (h : SzS V T n c L W) (hb : Below W.heap.size W W') : SzS V T n c L W' :=
  ⟨obj_in hb h.cnt, h.lev.heap (hb.block T h.lev.lt.2), h.bel.trans (hb.mono h.bel.size), h.ne⟩
theorem SzS.count {V W : World} {T n : Nat} {c : Array Value} {L : List Nat} (h : SzS V T n c L W) (j : Nat) (x : Value) : SzS V T n (c.setIfInBounds j x) L (W.setCell ⟨V.heap.size, j, none⟩ x) :=
  ⟨obj_setD x h.cnt, h.lev.heap (by rw [Below.heap_setCell _ _ _ _ (fun e => by have := h.ne; simp at e; omega)]), h.bel.setCell (p := ⟨V.heap.size, j, none⟩) (by simp) _, h.ne⟩
theorem SzS.level {V W : World} {T n : Nat} {c : Array Value} {L : List Nat} {m : Nat} (h : SzS V T n c (L ++ [m]) W) (x : Nat) : SzS V T n c (L ++ [x]) (W.setCell ⟨T, L.length, none⟩ (.int .i64 (x : Int))) :=
  ⟨obj_neD _ (by have := h.ne; omega) h.cnt, h.lev.put x, h.bel.setCell (p := ⟨T, L.length, none⟩) (by have := h.ne; simp; omega) _, h.ne⟩
set_option maxRecDepth 100000 in
set_option maxHeartbeats 12800000 in
theorem Size_ok (G : List Gt) (O : List Nat) (v : Nat) (P Q : Nat → Prop) (ga oa : Option Addr) (gc oc : Nat) (w : World) (hok : okN v (G, O)) (hg : InGt P w ga (G.map gz)) (ho : InS Q w oa (intsN O)) (hl : G.length ≤ 50000) (hol : O.length ≤ 100000000) (hil : ∀ g ∈ G, g.2.2.length ≤ 17592186044416) :
    Calls Tryz.prog 25 #[nV ga G.length gc oa O.length oc, .int .i64 (v : Int)] w (Ret (.tuple #[.agg (cntV G G.length), .int .i64 0]) w) := by
  obtain ⟨i0, hi0, hz0, hz1, hz2⟩ := info_parts Tryz.infoI
  have HG := Lib.hid hg
  have HOK := Lib.hid hok.1
  have HIL := Lib.hid hil
  have hz : nErr (G.map gz) (intsN O) v = 0 := nErr_of hok (by omega)
  have hck := fun W (hb : Below w.heap.size w W) => check_any (G.map gz) (intsN O) v (fun _ => True) ga oa gc oc W ((hg.of hb).imp fun _ _ _ => trivial) ((ho.of hb).imp fun _ _ _ => trivial) (by rw [List.length_map]; omega) (fun x hx => by obtain ⟨g, hg, rfl⟩ := List.mem_map.1 hx; have := hil g hg; simp [gz]; omega) (by unfold intsN; rw [List.length_map]; omega)
  rw [hz, List.length_map, show (intsN O).length = O.length from List.length_map ..] at hck
  have HCK := Lib.hid hck
  obtain ⟨n, hn⟩ : ∃ n, G.length = n := ⟨_, rfl⟩
  have HN := Lib.hid hn
  have hb0 := fun c k => cntK_le G c k
  have hb1 := fun k (h : k ≤ n) => inpK_le hil k (by rw [hn]; exact h)
  have hb2 := fun k (h : k ≤ n) => topK_le hok.1 k (by rw [hn]; exact h)
  have hb3 := fun k (h : k ≤ n) => lvK_le hok.1 k (by rw [hn]; exact h)
  have HB0 := Lib.hid hb0
  have HB1 := Lib.hid hb1
  have HB2 := Lib.hid hb2
  have HB3 := Lib.hid hb3
  rw [hn] at hl HCK ⊢
  clear hok hg ho hil hz hck hn hb0 hb1 hb2 hb3
  unfold nV
  go_enter Tryz.func25, Tryz.ntmps25
  go_wp2_with fail
  have hx0 := obj_alloc (.cells #[.int .i64 0, .int .i64 0, .int .i64 0, .int .i64 0, .int .i64 0, .int .i64 0, .int .i64 0] 57 (0, 0)) (World.alloc_heap_new w (.cells #[.slice ga n gc, .slice oa O.length oc] 25 (0, 0)))
  have hx2 := newAt1 w (.cells #[.slice ga n gc, .slice oa O.length oc] 25 (0, 0)) (.cells #[.int .i64 0, .int .i64 0, .int .i64 0, .int .i64 0, .int .i64 0, .int .i64 0, .int .i64 0] 57 (0, 0))
  refine (HCK.out _ (by (repeat' (first | (with_reducible first | apply Zl1 | apply Zl2 | apply Zl3 | apply Zl4 | apply Zl5 | apply Zl6 | apply Zl7 | apply Zl8 | apply Zl9 | apply Zla | apply Zlb | apply Zlc) | (dsimp only; with_reducible first | apply Zl8 | apply Zl2 | apply Zld) | with_reducible assumption | omega | (dsimp only; omega))))).mono ?_
  rintro _ _ ⟨rfl, y, rfl⟩
  have hx1 := obj_in y.below hx0
  replace hx2 := obj_in y.below hx2
  have hBV : Below w.heap.size w y.w := by (repeat' (first | (with_reducible first | apply Zl1 | apply Zl2 | apply Zl3 | apply Zl4 | apply Zl5 | apply Zl6 | apply Zl7 | apply Zl8 | apply Zl9 | apply Zla | apply Zlb | apply Zlc) | (dsimp only; with_reducible first | apply Zl8 | apply Zl2 | apply Zld) | with_reducible assumption | omega | (dsimp only; omega)))
  have hNB := (Array.getElem?_eq_some_iff.1 hx2).1
  obtain ⟨V, hV⟩ : ∃ V, y.w = V := ⟨_, rfl⟩
  rw [hV] at hx1 hx2 hBV hNB ⊢
  have HX1 := Lib.hid hx1
  have HX2 := Lib.hid hx2
  have HBV := Lib.hid hBV
  have hws := hBV.size
  obtain ⟨n0, n1, -⟩ := box2 hx1
  clear hx0 hx1 hx2 hBV hV HCK
  dsimp only
  go_wp2_with (at_make; refine wpList_make_full _ rfl _ _ 23 rfl (V.heap.size + 1) 3 i0 (.int .i64 0) 1 Tryz.underlying23 hi0 hz0 hz1 _ _ _ _ (n) rfl rfl (by first | rfl | omega | (simp <;> omega)) (by first | rfl | omega | (simp <;> omega)) (by rw [hz2] <;> omega) (by unfold maxLen; omega) (by first | omega | (simp <;> omega)) ?_; intro wM hownM hgrowM; have HOM := Lib.hid hownM; have HGM := Lib.hid hgrowM; have hnm := (HGM.out.block w.heap.size (by simp; omega) (by simp)).trans (obj_alloc (.cells #[.int .i64 0, .int .i64 0, .int .i64 0, .int .i64 0, .int .i64 0, .int .i64 0, .int .i64 0] 57 (0, 0)) HX1.out); obtain ⟨m0, m1, -⟩ := box2 hnm; clear n0 n1 hownM hgrowM hnm)
  have hst : SzS V (V.heap.size + 1) n (cntV G 0) (lvK G 0) wM := by
    have hB1 : Below V.heap.size V wM := (show Below V.heap.size V _ from (Below.refl _ _).alloc (Nat.le_refl _) (.cells #[.int .i64 0, .int .i64 0, .int .i64 0, .int .i64 0, .int .i64 0, .int .i64 0, .int .i64 0] 57 (0, 0))).grown HGM.out (by simp) (fun k e => by cases e)
    refine ⟨(HGM.out.block V.heap.size (by simp) (by simp)).trans (World.alloc_heap_new V _), ⟨?_, Nat.zero_le _⟩, hB1, Nat.lt_succ_self _⟩
    refine ownN_le (b := V.heap.size + 1) ?_ (by omega)
    have := HOM.out
    rw [Nat.mul_one, show (Value.int .i64 0).cells = #[Value.int .i64 0] from rfl, toList_madeCells_one] at this
    unfold OwnN natsV
    simpa [lvK] using this
  have HST := Lib.hid hst
  clear hst HOM HGM
  go_loopw [27] (fun iv wr => ∃ k : Nat, iv = .int .i64 (k : Int) ∧ k ≤ n ∧ SzS V (V.heap.size + 1) n (cntV G k) (lvK G k) wr) (fun iv _ => n - (intOf iv).toNat)
  case atStart => exact ⟨0, rfl, Nat.zero_le _, HST.out⟩
  case round =>
    rename World => wo
    obtain ⟨k, rfl, hk, hS⟩ := hrel
    have hbw := HBV.out.trans (hS.bel.mono hws)
    have HBW := Lib.hid hbw
    have hVs := hS.bel.size
    have k0 := HB0.out 0 k
    have k1 := HB0.out 1 k
    have k2 := HB0.out 2 k
    have k3 := HB0.out 3 k
    have k4 := HB0.out 4 k
    have k5 := HB1.out k hk
    have k6 := HB2.out k hk
    have k7 : k * 17592186044416 ≤ 879609302220800000 := by omega
    rcases Nat.lt_or_ge k n with hkl | hkl
    · obtain ⟨gg, hgg⟩ : ∃ gg, G[k]? = some gg := ⟨_, List.getElem?_eq_getElem (by rw [HN.out]; exact hkl)⟩
      obtain ⟨b2, o2, hadd, hb2, ax, cx, y0, y1, y2, hiy⟩ := HG.out.at (show (G.map gz)[k]? = some (gz gg) by rw [List.getElem?_map, hgg]; rfl)
      subst hadd
      dsimp only [gz] at y0 y1 y2 hiy
      rw [List.length_map] at y2
      replace y0 := below_cell hbw _ _ _ y0
      replace y1 := below_cell hbw _ _ _ y1
      replace y2 := below_cell hbw _ _ _ y2
      have HOG := Lib.hid (HOK.out k gg hgg)
      have hgl := HIL.out gg (List.mem_of_getElem? hgg)
      have hins := okG_ins HOG.out
      have HGG := Lib.hid hgg
      have f1 : decide ((k : Int) < (n : Int)) = true := decide_eq_true (by omega)
      have hib : (0 ≤ (k : Int) ∧ (k : Int) < (n : Int)) := ⟨by omega, by omega⟩
      have hll := lvK_len G k (by rw [HN.out]; exact hk)
      have hsz : SzS V (V.heap.size + 1) n (cntV G k) (lvK G k ++ [0]) wo := ⟨hS.cnt, hS.lev.skip (by rw [hll]; exact hkl), hS.bel, hS.ne⟩
      have HI2 := Lib.hid hiy
      have HLL := Lib.hid hll
      have hc0 := hS.cnt
      unfold cntV at hc0 hsz
      have hCB := (Array.getElem?_eq_some_iff.1 hc0).1
      obtain ⟨c0, e0⟩ : ∃ c, cntK G 0 k = c := ⟨_, rfl⟩
      obtain ⟨c1, e1⟩ : ∃ c, cntK G 1 k = c := ⟨_, rfl⟩
      obtain ⟨c2, e2⟩ : ∃ c, cntK G 2 k = c := ⟨_, rfl⟩
      obtain ⟨c3, e3⟩ : ∃ c, cntK G 3 k = c := ⟨_, rfl⟩
      obtain ⟨c4, e4⟩ : ∃ c, cntK G 4 k = c := ⟨_, rfl⟩
      obtain ⟨ip, e5⟩ : ∃ c, inpK G k = c := ⟨_, rfl⟩
      obtain ⟨tp, e6⟩ : ∃ c, topK G k = c := ⟨_, rfl⟩
      rw [e0, e1, e2, e3, e4, e5, e6] at hc0 hsz
      rw [e0] at k0
      rw [e1] at k1
      rw [e2] at k2
      rw [e3] at k3
      rw [e4] at k4
      rw [e5] at k5
      rw [e6] at k6
      have HCC := Lib.hid (show cntK G 0 k = c0 ∧ cntK G 1 k = c1 ∧ cntK G 2 k = c2 ∧ cntK G 3 k = c3 ∧ cntK G 4 k = c4 ∧ inpK G k = ip ∧ topK G k = tp from ⟨e0, e1, e2, e3, e4, e5, e6⟩)
      obtain ⟨⟨q0, q1, q2, q3, q4, q5, q6⟩, r0, r1, r2, r3, r4, r5, r6⟩ := cell7 hc0
      have HSZ := Lib.hid hsz
      clear hgg hiy hS hbw hll e0 e1 e2 e3 e4 e5 e6 hc0 hsz
      have HK0 := Lib.hid (show clsG gg = if gg.1 = 1 then 0 else if gg.1 = 2 then 1 else if gg.1 = 3 then 2 else if gg.1 = 4 then 3 else 4 from rfl)
      by_cases h1 : gg.1 = 1
      · have f2 : ((gg.1 : Int) == 1) = true := by simp [h1]
        have HK := Lib.hid h1
        clear h1
        have HC0 := Lib.hid (show clsG gg = 0 by rw [HK0.out, HK.out]; rfl)
        go_upto_region 19 with fail
        obtain ⟨d, hd⟩ : ∃ d : Nat, (d : Int) = (c0 : Int) + 1 := ⟨c0 + 1, by omega⟩
        have hs2 : SzS V (V.heap.size + 1) n #[.int .i64 (d : Int), .int .i64 (c1 : Int), .int .i64 (c2 : Int), .int .i64 (c3 : Int), .int .i64 (c4 : Int), .int .i64 (ip : Int), .int .i64 (tp : Int)] (lvK G k ++ [0]) ((wo.setCell ⟨V.heap.size, 0, none⟩ (.int .i64 (d : Int))).alloc (.cells #[.int .i64 (gg.1 : Int), .int .i64 (gg.2.1 : Int), .slice ax gg.2.2.length cx] 45 (0, 0))) := (HSZ.out.count 0 (.int .i64 (d : Int))).of ((Below.refl _ _).alloc (Nat.le_refl _) _)
        have hg2 : ((wo.setCell ⟨V.heap.size, 0, none⟩ (.int .i64 (d : Int))).alloc (.cells #[.int .i64 (gg.1 : Int), .int .i64 (gg.2.1 : Int), .slice ax gg.2.2.length cx] 45 (0, 0))).heap[wo.heap.size]? = some (.cells #[.int .i64 (gg.1 : Int), .int .i64 (gg.2.1 : Int), .slice ax gg.2.2.length cx] 45 (0, 0)) := by have := World.alloc_heap_new (wo.setCell ⟨V.heap.size, 0, none⟩ (.int .i64 (d : Int))) (.cells #[.int .i64 (gg.1 : Int), .int .i64 (gg.2.1 : Int), .slice ax gg.2.2.length cx] 45 (0, 0)); simpa using this
        have hz2 : Below w.heap.size w ((wo.setCell ⟨V.heap.size, 0, none⟩ (.int .i64 (d : Int))).alloc (.cells #[.int .i64 (gg.1 : Int), .int .i64 (gg.2.1 : Int), .slice ax gg.2.2.length cx] 45 (0, 0))) := (HBW.out.setCell (p := ⟨V.heap.size, 0, none⟩) (by simp; omega) (.int .i64 (d : Int))).alloc (by simp; omega) _
        have HC := Lib.hid (show cntK G 0 (k + 1) = d ∧ cntK G 1 (k + 1) = c1 ∧ cntK G 2 (k + 1) = c2 ∧ cntK G 3 (k + 1) = c3 ∧ cntK G 4 (k + 1) = c4 from by
          have h0 := HCC.out
          have hcl := HC0.out
          refine ⟨?_, ?_, ?_, ?_, ?_⟩
          · rw [cntK_hit HGG.out hcl]; omega
          · rw [cntK_miss HGG.out (by rw [hcl]; decide)]; omega
          · rw [cntK_miss HGG.out (by rw [hcl]; decide)]; omega
          · rw [cntK_miss HGG.out (by rw [hcl]; decide)]; omega
          · rw [cntK_miss HGG.out (by rw [hcl]; decide)]; omega
          )
        rw [← hd]
        clear hd
        obtain ⟨Z, hZ⟩ : ∃ Z, (wo.setCell ⟨V.heap.size, 0, none⟩ (.int .i64 (d : Int))).alloc (.cells #[.int .i64 (gg.1 : Int), .int .i64 (gg.2.1 : Int), .slice ax gg.2.2.length cx] 45 (0, 0)) = Z := ⟨_, rfl⟩
        rw [hZ] at hs2 hg2 hz2 ⊢
        clear HSZ hZ q0 q1 q2 q3 q4 q5 q6 r0 r1 r2 r3 r4 r5 r6 y0 y1 y2 m0 m1
        obtain ⟨GB, hGB⟩ : ∃ b, wo.heap.size = b := ⟨_, rfl⟩
        rw [hGB] at hg2 ⊢
        obtain ⟨⟨q0, q1, q2, q3, q4, q5, q6⟩, r0, r1, r2, r3, r4, r5, r6⟩ := cell7 hs2.cnt
        obtain ⟨p0, p1, p2⟩ := box3 hg2
        obtain ⟨ip2, hip⟩ : ∃ d : Nat, (d : Int) = (ip : Int) + (gg.2.2.length : Int) := ⟨ip + gg.2.2.length, by omega⟩
        have HS2 := Lib.hid hs2
        have HG2 := Lib.hid hg2
        have HZ2 := Lib.hid hz2
        have HIP := Lib.hid hip
        have hZs := hz2.size
        clear hs2 hg2 hz2 hGB hip
        go_wp2_with fail
        have hs3 : SzS V (V.heap.size + 1) n #[.int .i64 (d : Int), .int .i64 (c1 : Int), .int .i64 (c2 : Int), .int .i64 (c3 : Int), .int .i64 (c4 : Int), .int .i64 (ip2 : Int), .int .i64 (tp : Int)] (lvK G k ++ [0]) (Z.setCell ⟨V.heap.size, 5, none⟩ (.int .i64 (ip2 : Int))) := HS2.out.count 5 (.int .i64 (ip2 : Int))
        have hz3 := HZ2.out.setCell (p := ⟨V.heap.size, 5, none⟩) (by simp; omega) (.int .i64 (ip2 : Int))
        rw [← HIP.out]
        obtain ⟨Z2, hZ2⟩ : ∃ Z2, Z.setCell ⟨V.heap.size, 5, none⟩ (.int .i64 (ip2 : Int)) = Z2 := ⟨_, rfl⟩
        rw [hZ2] at hs3 hz3 ⊢
        have HS3 := Lib.hid hs3
        have HZ3 := Lib.hid hz3
        clear hZ2 hs3 hz3 q0 q1 q2 q3 q4 q5 q6 r0 r1 r2 r3 r4 r5 r6 p0 p1 p2
        go_loopw [72] (fun iv wi => ∃ j : Nat, iv = .int .i64 (j : Int) ∧ j ≤ gg.2.2.length ∧ SzS V (V.heap.size + 1) n #[.int .i64 (d : Int), .int .i64 (c1 : Int), .int .i64 (c2 : Int), .int .i64 (c3 : Int), .int .i64 (c4 : Int), .int .i64 (ip2 : Int), .int .i64 (tp : Int)] (lvK G k ++ [mxL (lvK G k) (gg.2.2.take j)]) wi ∧ Below w.heap.size w wi) (fun iv _ => gg.2.2.length - (intOf iv).toNat)
        case atStart => exact ⟨0, rfl, Nat.zero_le _, HS3.out, HZ3.out⟩
        case round =>
          rename World => wi
          obtain ⟨j, rfl, hj, hsi, hbi⟩ := hrel
          have HSI := Lib.hid hsi
          have HBI := Lib.hid hbi
          have hlv := hsi.lev.at hkl
          rw [show (lvK G k ++ [mxL (lvK G k) (gg.2.2.take j)]).getD k 0 = mxL (lvK G k) (gg.2.2.take j) by rw [List.getD_eq_getElem?_getD, List.getElem?_append_right (by rw [HLL.out]; exact Nat.le_refl _), HLL.out, Nat.sub_self]; rfl] at hlv
          have hmb : mxL (lvK G k) (gg.2.2.take j) ≤ k + 1 := mxL_le fun i hi => by
            have h1 := hins i (List.mem_of_mem_take hi)
            have h2 := HB3.out k (by omega) i
            omega
          obtain ⟨l0, l1⟩ := hlv
          obtain ⟨mm, hmm⟩ : ∃ m, mxL (lvK G k) (gg.2.2.take j) = m := ⟨_, rfl⟩
          rw [hmm] at l0 hmb
          rcases Nat.lt_or_ge j gg.2.2.length with hjl | hjl
          · obtain ⟨y, hy⟩ := some_at hjl
            have hyk := hins y (List.mem_of_getElem? hy)
            obtain ⟨b3, o3, hadd, hb3, z0⟩ := (HI2.out.of hbi).at (show (gg.2.2.map fun k : Nat => (k : Int))[j]? = some (y : Int) by rw [List.getElem?_map, hy]; rfl)
            subst hadd
            have hly := (hsi.lev.at (show y < n by omega)).1
            rw [show (lvK G k ++ [mxL (lvK G k) (gg.2.2.take j)]).getD y 0 = (lvK G k).getD y 0 by rw [List.getD_eq_getElem?_getD, List.getD_eq_getElem?_getD, List.getElem?_append_left (by rw [HLL.out]; exact hyk)]] at hly
            have hlb := HB3.out k (by omega) y
            obtain ⟨ly, hll2⟩ : ∃ m, (lvK G k).getD y 0 = m := ⟨_, rfl⟩
            rw [hll2] at hly hlb
            have HM := Lib.hid (show mxL (lvK G k) (gg.2.2.take (j + 1)) = max mm (ly + 1) by rw [takeS hy, mxL_snoc, hmm, hll2])
            obtain ⟨nm, hnm⟩ : ∃ m, max mm (ly + 1) = m := ⟨_, rfl⟩
            rw [hnm] at HM
            have hmx : max (mm : Int) ((ly : Int) + 1) = (nm : Int) := by omega
            have f7 : decide ((j : Int) < (gg.2.2.length : Int)) = true := decide_eq_true (by omega)
            have hia : (0 ≤ (j : Int) ∧ (j : Int) < (gg.2.2.length : Int)) := ⟨by omega, by omega⟩
            have hic : (0 ≤ (y : Int) ∧ (y : Int) < (n : Int)) := ⟨by omega, by omega⟩
            clear hy hmm hll2 hnm hsi hbi
            go_wp2_with fail
            go_region
            go_wp2
            go_roundw
            case measure => simp [intOf]; omega
            case rel =>
              refine ⟨j + 1, by go_num, by omega, ?_, ?_⟩
              · rw [HM.out]
                have h := HSI.out.level nm
                rw [HLL.out] at h
                first | exact h | exact h.of (Below.drew (Below.refl _ _))
              · have h := HBI.out.setCell (p := ⟨V.heap.size + 1, k, none⟩) (by simp; omega) (.int .i64 (nm : Int))
                first | exact h | exact h.drew
          · have hke : j = gg.2.2.length := by omega
            subst hke
            have f7 : decide ((gg.2.2.length : Int) < (gg.2.2.length : Int)) = false := decide_eq_false (by omega)
            rw [List.take_length] at hmm
            have HM := Lib.hid hmm
            obtain ⟨tp2, htp⟩ : ∃ m, max tp mm = m := ⟨_, rfl⟩
            have HTP := Lib.hid (show topK G (k + 1) = tp2 by rw [topK_succ HGG.out, HCC.out.2.2.2.2.2.2, hmm, htp])
            have hmx : max (tp : Int) (mm : Int) = (tp2 : Int) := by omega
            obtain ⟨⟨q0, q1, q2, q3, q4, q5, q6⟩, r0, r1, r2, r3, r4, r5, r6⟩ := cell7 hsi.cnt
            clear hmm htp hsi hbi
            go_wp2_with fail
            go_region
            go_wp2
            refine ⟨⟨k + 1, by go_num, by omega, ?_⟩, by simp [intOf]; omega⟩
            have h := HSI.out.count 6 (.int .i64 (tp2 : Int))
            rw [List.take_length, HM.out] at h
            unfold cntV
            rw [lvK_succ HGG.out, HM.out, HC.out.1, HC.out.2.1, HC.out.2.2.1, HC.out.2.2.2.1, HC.out.2.2.2.2, HTP.out, inpK_succ HGG.out, HCC.out.2.2.2.2.2.1, show ((ip + gg.2.2.length : Nat) : Int) = (ip2 : Int) by rw [HIP.out]; omega]
            first | exact h | exact h.of (Below.drew (Below.refl _ _))
      have f21 : ((gg.1 : Int) == 1) = false := by simp; omega
      by_cases h2 : gg.1 = 2
      · have f2 : ((gg.1 : Int) == 2) = true := by simp [h2]
        have HK := Lib.hid h2
        clear h2
        have HC0 := Lib.hid (show clsG gg = 1 by rw [HK0.out, HK.out]; rfl)
        go_upto_region 19 with fail
        obtain ⟨d, hd⟩ : ∃ d : Nat, (d : Int) = (c1 : Int) + 1 := ⟨c1 + 1, by omega⟩
        have hs2 : SzS V (V.heap.size + 1) n #[.int .i64 (c0 : Int), .int .i64 (d : Int), .int .i64 (c2 : Int), .int .i64 (c3 : Int), .int .i64 (c4 : Int), .int .i64 (ip : Int), .int .i64 (tp : Int)] (lvK G k ++ [0]) ((wo.setCell ⟨V.heap.size, 1, none⟩ (.int .i64 (d : Int))).alloc (.cells #[.int .i64 (gg.1 : Int), .int .i64 (gg.2.1 : Int), .slice ax gg.2.2.length cx] 45 (0, 0))) := (HSZ.out.count 1 (.int .i64 (d : Int))).of ((Below.refl _ _).alloc (Nat.le_refl _) _)
        have hg2 : ((wo.setCell ⟨V.heap.size, 1, none⟩ (.int .i64 (d : Int))).alloc (.cells #[.int .i64 (gg.1 : Int), .int .i64 (gg.2.1 : Int), .slice ax gg.2.2.length cx] 45 (0, 0))).heap[wo.heap.size]? = some (.cells #[.int .i64 (gg.1 : Int), .int .i64 (gg.2.1 : Int), .slice ax gg.2.2.length cx] 45 (0, 0)) := by have := World.alloc_heap_new (wo.setCell ⟨V.heap.size, 1, none⟩ (.int .i64 (d : Int))) (.cells #[.int .i64 (gg.1 : Int), .int .i64 (gg.2.1 : Int), .slice ax gg.2.2.length cx] 45 (0, 0)); simpa using this
        have hz2 : Below w.heap.size w ((wo.setCell ⟨V.heap.size, 1, none⟩ (.int .i64 (d : Int))).alloc (.cells #[.int .i64 (gg.1 : Int), .int .i64 (gg.2.1 : Int), .slice ax gg.2.2.length cx] 45 (0, 0))) := (HBW.out.setCell (p := ⟨V.heap.size, 1, none⟩) (by simp; omega) (.int .i64 (d : Int))).alloc (by simp; omega) _
        have HC := Lib.hid (show cntK G 0 (k + 1) = c0 ∧ cntK G 1 (k + 1) = d ∧ cntK G 2 (k + 1) = c2 ∧ cntK G 3 (k + 1) = c3 ∧ cntK G 4 (k + 1) = c4 from by
          have h0 := HCC.out
          have hcl := HC0.out
          refine ⟨?_, ?_, ?_, ?_, ?_⟩
          · rw [cntK_miss HGG.out (by rw [hcl]; decide)]; omega
          · rw [cntK_hit HGG.out hcl]; omega
          · rw [cntK_miss HGG.out (by rw [hcl]; decide)]; omega
          · rw [cntK_miss HGG.out (by rw [hcl]; decide)]; omega
          · rw [cntK_miss HGG.out (by rw [hcl]; decide)]; omega
          )
        rw [← hd]
        clear hd
        obtain ⟨Z, hZ⟩ : ∃ Z, (wo.setCell ⟨V.heap.size, 1, none⟩ (.int .i64 (d : Int))).alloc (.cells #[.int .i64 (gg.1 : Int), .int .i64 (gg.2.1 : Int), .slice ax gg.2.2.length cx] 45 (0, 0)) = Z := ⟨_, rfl⟩
        rw [hZ] at hs2 hg2 hz2 ⊢
        clear HSZ hZ q0 q1 q2 q3 q4 q5 q6 r0 r1 r2 r3 r4 r5 r6 y0 y1 y2 m0 m1
        obtain ⟨GB, hGB⟩ : ∃ b, wo.heap.size = b := ⟨_, rfl⟩
        rw [hGB] at hg2 ⊢
        obtain ⟨⟨q0, q1, q2, q3, q4, q5, q6⟩, r0, r1, r2, r3, r4, r5, r6⟩ := cell7 hs2.cnt
        obtain ⟨p0, p1, p2⟩ := box3 hg2
        obtain ⟨ip2, hip⟩ : ∃ d : Nat, (d : Int) = (ip : Int) + (gg.2.2.length : Int) := ⟨ip + gg.2.2.length, by omega⟩
        have HS2 := Lib.hid hs2
        have HG2 := Lib.hid hg2
        have HZ2 := Lib.hid hz2
        have HIP := Lib.hid hip
        have hZs := hz2.size
        clear hs2 hg2 hz2 hGB hip
        go_wp2_with fail
        have hs3 : SzS V (V.heap.size + 1) n #[.int .i64 (c0 : Int), .int .i64 (d : Int), .int .i64 (c2 : Int), .int .i64 (c3 : Int), .int .i64 (c4 : Int), .int .i64 (ip2 : Int), .int .i64 (tp : Int)] (lvK G k ++ [0]) (Z.setCell ⟨V.heap.size, 5, none⟩ (.int .i64 (ip2 : Int))) := HS2.out.count 5 (.int .i64 (ip2 : Int))
        have hz3 := HZ2.out.setCell (p := ⟨V.heap.size, 5, none⟩) (by simp; omega) (.int .i64 (ip2 : Int))
        rw [← HIP.out]
        obtain ⟨Z2, hZ2⟩ : ∃ Z2, Z.setCell ⟨V.heap.size, 5, none⟩ (.int .i64 (ip2 : Int)) = Z2 := ⟨_, rfl⟩
        rw [hZ2] at hs3 hz3 ⊢
        have HS3 := Lib.hid hs3
        have HZ3 := Lib.hid hz3
        clear hZ2 hs3 hz3 q0 q1 q2 q3 q4 q5 q6 r0 r1 r2 r3 r4 r5 r6 p0 p1 p2
        go_loopw [72] (fun iv wi => ∃ j : Nat, iv = .int .i64 (j : Int) ∧ j ≤ gg.2.2.length ∧ SzS V (V.heap.size + 1) n #[.int .i64 (c0 : Int), .int .i64 (d : Int), .int .i64 (c2 : Int), .int .i64 (c3 : Int), .int .i64 (c4 : Int), .int .i64 (ip2 : Int), .int .i64 (tp : Int)] (lvK G k ++ [mxL (lvK G k) (gg.2.2.take j)]) wi ∧ Below w.heap.size w wi) (fun iv _ => gg.2.2.length - (intOf iv).toNat)
        case atStart => exact ⟨0, rfl, Nat.zero_le _, HS3.out, HZ3.out⟩
        case round =>
          rename World => wi
          obtain ⟨j, rfl, hj, hsi, hbi⟩ := hrel
          have HSI := Lib.hid hsi
          have HBI := Lib.hid hbi
          have hlv := hsi.lev.at hkl
          rw [show (lvK G k ++ [mxL (lvK G k) (gg.2.2.take j)]).getD k 0 = mxL (lvK G k) (gg.2.2.take j) by rw [List.getD_eq_getElem?_getD, List.getElem?_append_right (by rw [HLL.out]; exact Nat.le_refl _), HLL.out, Nat.sub_self]; rfl] at hlv
          have hmb : mxL (lvK G k) (gg.2.2.take j) ≤ k + 1 := mxL_le fun i hi => by
            have h1 := hins i (List.mem_of_mem_take hi)
            have h2 := HB3.out k (by omega) i
            omega
          obtain ⟨l0, l1⟩ := hlv
          obtain ⟨mm, hmm⟩ : ∃ m, mxL (lvK G k) (gg.2.2.take j) = m := ⟨_, rfl⟩
          rw [hmm] at l0 hmb
          rcases Nat.lt_or_ge j gg.2.2.length with hjl | hjl
          · obtain ⟨y, hy⟩ := some_at hjl
            have hyk := hins y (List.mem_of_getElem? hy)
            obtain ⟨b3, o3, hadd, hb3, z0⟩ := (HI2.out.of hbi).at (show (gg.2.2.map fun k : Nat => (k : Int))[j]? = some (y : Int) by rw [List.getElem?_map, hy]; rfl)
            subst hadd
            have hly := (hsi.lev.at (show y < n by omega)).1
            rw [show (lvK G k ++ [mxL (lvK G k) (gg.2.2.take j)]).getD y 0 = (lvK G k).getD y 0 by rw [List.getD_eq_getElem?_getD, List.getD_eq_getElem?_getD, List.getElem?_append_left (by rw [HLL.out]; exact hyk)]] at hly
            have hlb := HB3.out k (by omega) y
            obtain ⟨ly, hll2⟩ : ∃ m, (lvK G k).getD y 0 = m := ⟨_, rfl⟩
            rw [hll2] at hly hlb
            have HM := Lib.hid (show mxL (lvK G k) (gg.2.2.take (j + 1)) = max mm (ly + 1) by rw [takeS hy, mxL_snoc, hmm, hll2])
            obtain ⟨nm, hnm⟩ : ∃ m, max mm (ly + 1) = m := ⟨_, rfl⟩
            rw [hnm] at HM
            have hmx : max (mm : Int) ((ly : Int) + 1) = (nm : Int) := by omega
            have f7 : decide ((j : Int) < (gg.2.2.length : Int)) = true := decide_eq_true (by omega)
            have hia : (0 ≤ (j : Int) ∧ (j : Int) < (gg.2.2.length : Int)) := ⟨by omega, by omega⟩
            have hic : (0 ≤ (y : Int) ∧ (y : Int) < (n : Int)) := ⟨by omega, by omega⟩
            clear hy hmm hll2 hnm hsi hbi
            go_wp2_with fail
            go_region
            go_wp2
            go_roundw
            case measure => simp [intOf]; omega
            case rel =>
              refine ⟨j + 1, by go_num, by omega, ?_, ?_⟩
              · rw [HM.out]
                have h := HSI.out.level nm
                rw [HLL.out] at h
                first | exact h | exact h.of (Below.drew (Below.refl _ _))
              · have h := HBI.out.setCell (p := ⟨V.heap.size + 1, k, none⟩) (by simp; omega) (.int .i64 (nm : Int))
                first | exact h | exact h.drew
          · have hke : j = gg.2.2.length := by omega
            subst hke
            have f7 : decide ((gg.2.2.length : Int) < (gg.2.2.length : Int)) = false := decide_eq_false (by omega)
            rw [List.take_length] at hmm
            have HM := Lib.hid hmm
            obtain ⟨tp2, htp⟩ : ∃ m, max tp mm = m := ⟨_, rfl⟩
            have HTP := Lib.hid (show topK G (k + 1) = tp2 by rw [topK_succ HGG.out, HCC.out.2.2.2.2.2.2, hmm, htp])
            have hmx : max (tp : Int) (mm : Int) = (tp2 : Int) := by omega
            obtain ⟨⟨q0, q1, q2, q3, q4, q5, q6⟩, r0, r1, r2, r3, r4, r5, r6⟩ := cell7 hsi.cnt
            clear hmm htp hsi hbi
            go_wp2_with fail
            go_region
            go_wp2
            refine ⟨⟨k + 1, by go_num, by omega, ?_⟩, by simp [intOf]; omega⟩
            have h := HSI.out.count 6 (.int .i64 (tp2 : Int))
            rw [List.take_length, HM.out] at h
            unfold cntV
            rw [lvK_succ HGG.out, HM.out, HC.out.1, HC.out.2.1, HC.out.2.2.1, HC.out.2.2.2.1, HC.out.2.2.2.2, HTP.out, inpK_succ HGG.out, HCC.out.2.2.2.2.2.1, show ((ip + gg.2.2.length : Nat) : Int) = (ip2 : Int) by rw [HIP.out]; omega]
            first | exact h | exact h.of (Below.drew (Below.refl _ _))
      have f22 : ((gg.1 : Int) == 2) = false := by simp; omega
      by_cases h3 : gg.1 = 3
      · have f2 : ((gg.1 : Int) == 3) = true := by simp [h3]
        have HK := Lib.hid h3
        clear h3
        have HC0 := Lib.hid (show clsG gg = 2 by rw [HK0.out, HK.out]; rfl)
        go_upto_region 19 with fail
        obtain ⟨d, hd⟩ : ∃ d : Nat, (d : Int) = (c2 : Int) + 1 := ⟨c2 + 1, by omega⟩
        have hs2 : SzS V (V.heap.size + 1) n #[.int .i64 (c0 : Int), .int .i64 (c1 : Int), .int .i64 (d : Int), .int .i64 (c3 : Int), .int .i64 (c4 : Int), .int .i64 (ip : Int), .int .i64 (tp : Int)] (lvK G k ++ [0]) ((wo.setCell ⟨V.heap.size, 2, none⟩ (.int .i64 (d : Int))).alloc (.cells #[.int .i64 (gg.1 : Int), .int .i64 (gg.2.1 : Int), .slice ax gg.2.2.length cx] 45 (0, 0))) := (HSZ.out.count 2 (.int .i64 (d : Int))).of ((Below.refl _ _).alloc (Nat.le_refl _) _)
        have hg2 : ((wo.setCell ⟨V.heap.size, 2, none⟩ (.int .i64 (d : Int))).alloc (.cells #[.int .i64 (gg.1 : Int), .int .i64 (gg.2.1 : Int), .slice ax gg.2.2.length cx] 45 (0, 0))).heap[wo.heap.size]? = some (.cells #[.int .i64 (gg.1 : Int), .int .i64 (gg.2.1 : Int), .slice ax gg.2.2.length cx] 45 (0, 0)) := by have := World.alloc_heap_new (wo.setCell ⟨V.heap.size, 2, none⟩ (.int .i64 (d : Int))) (.cells #[.int .i64 (gg.1 : Int), .int .i64 (gg.2.1 : Int), .slice ax gg.2.2.length cx] 45 (0, 0)); simpa using this
        have hz2 : Below w.heap.size w ((wo.setCell ⟨V.heap.size, 2, none⟩ (.int .i64 (d : Int))).alloc (.cells #[.int .i64 (gg.1 : Int), .int .i64 (gg.2.1 : Int), .slice ax gg.2.2.length cx] 45 (0, 0))) := (HBW.out.setCell (p := ⟨V.heap.size, 2, none⟩) (by simp; omega) (.int .i64 (d : Int))).alloc (by simp; omega) _
        have HC := Lib.hid (show cntK G 0 (k + 1) = c0 ∧ cntK G 1 (k + 1) = c1 ∧ cntK G 2 (k + 1) = d ∧ cntK G 3 (k + 1) = c3 ∧ cntK G 4 (k + 1) = c4 from by
          have h0 := HCC.out
          have hcl := HC0.out
          refine ⟨?_, ?_, ?_, ?_, ?_⟩
          · rw [cntK_miss HGG.out (by rw [hcl]; decide)]; omega
          · rw [cntK_miss HGG.out (by rw [hcl]; decide)]; omega
          · rw [cntK_hit HGG.out hcl]; omega
          · rw [cntK_miss HGG.out (by rw [hcl]; decide)]; omega
          · rw [cntK_miss HGG.out (by rw [hcl]; decide)]; omega
          )
        rw [← hd]
        clear hd
        obtain ⟨Z, hZ⟩ : ∃ Z, (wo.setCell ⟨V.heap.size, 2, none⟩ (.int .i64 (d : Int))).alloc (.cells #[.int .i64 (gg.1 : Int), .int .i64 (gg.2.1 : Int), .slice ax gg.2.2.length cx] 45 (0, 0)) = Z := ⟨_, rfl⟩
        rw [hZ] at hs2 hg2 hz2 ⊢
        clear HSZ hZ q0 q1 q2 q3 q4 q5 q6 r0 r1 r2 r3 r4 r5 r6 y0 y1 y2 m0 m1
        obtain ⟨GB, hGB⟩ : ∃ b, wo.heap.size = b := ⟨_, rfl⟩
        rw [hGB] at hg2 ⊢
        obtain ⟨⟨q0, q1, q2, q3, q4, q5, q6⟩, r0, r1, r2, r3, r4, r5, r6⟩ := cell7 hs2.cnt
        obtain ⟨p0, p1, p2⟩ := box3 hg2
        obtain ⟨ip2, hip⟩ : ∃ d : Nat, (d : Int) = (ip : Int) + (gg.2.2.length : Int) := ⟨ip + gg.2.2.length, by omega⟩
        have HS2 := Lib.hid hs2
        have HG2 := Lib.hid hg2
        have HZ2 := Lib.hid hz2
        have HIP := Lib.hid hip
        have hZs := hz2.size
        clear hs2 hg2 hz2 hGB hip
        go_wp2_with fail
        have hs3 : SzS V (V.heap.size + 1) n #[.int .i64 (c0 : Int), .int .i64 (c1 : Int), .int .i64 (d : Int), .int .i64 (c3 : Int), .int .i64 (c4 : Int), .int .i64 (ip2 : Int), .int .i64 (tp : Int)] (lvK G k ++ [0]) (Z.setCell ⟨V.heap.size, 5, none⟩ (.int .i64 (ip2 : Int))) := HS2.out.count 5 (.int .i64 (ip2 : Int))
        have hz3 := HZ2.out.setCell (p := ⟨V.heap.size, 5, none⟩) (by simp; omega) (.int .i64 (ip2 : Int))
        rw [← HIP.out]
        obtain ⟨Z2, hZ2⟩ : ∃ Z2, Z.setCell ⟨V.heap.size, 5, none⟩ (.int .i64 (ip2 : Int)) = Z2 := ⟨_, rfl⟩
        rw [hZ2] at hs3 hz3 ⊢
        have HS3 := Lib.hid hs3
        have HZ3 := Lib.hid hz3
        clear hZ2 hs3 hz3 q0 q1 q2 q3 q4 q5 q6 r0 r1 r2 r3 r4 r5 r6 p0 p1 p2
        go_loopw [72] (fun iv wi => ∃ j : Nat, iv = .int .i64 (j : Int) ∧ j ≤ gg.2.2.length ∧ SzS V (V.heap.size + 1) n #[.int .i64 (c0 : Int), .int .i64 (c1 : Int), .int .i64 (d : Int), .int .i64 (c3 : Int), .int .i64 (c4 : Int), .int .i64 (ip2 : Int), .int .i64 (tp : Int)] (lvK G k ++ [mxL (lvK G k) (gg.2.2.take j)]) wi ∧ Below w.heap.size w wi) (fun iv _ => gg.2.2.length - (intOf iv).toNat)
        case atStart => exact ⟨0, rfl, Nat.zero_le _, HS3.out, HZ3.out⟩
        case round =>
          rename World => wi
          obtain ⟨j, rfl, hj, hsi, hbi⟩ := hrel
          have HSI := Lib.hid hsi
          have HBI := Lib.hid hbi
          have hlv := hsi.lev.at hkl
          rw [show (lvK G k ++ [mxL (lvK G k) (gg.2.2.take j)]).getD k 0 = mxL (lvK G k) (gg.2.2.take j) by rw [List.getD_eq_getElem?_getD, List.getElem?_append_right (by rw [HLL.out]; exact Nat.le_refl _), HLL.out, Nat.sub_self]; rfl] at hlv
          have hmb : mxL (lvK G k) (gg.2.2.take j) ≤ k + 1 := mxL_le fun i hi => by
            have h1 := hins i (List.mem_of_mem_take hi)
            have h2 := HB3.out k (by omega) i
            omega
          obtain ⟨l0, l1⟩ := hlv
          obtain ⟨mm, hmm⟩ : ∃ m, mxL (lvK G k) (gg.2.2.take j) = m := ⟨_, rfl⟩
          rw [hmm] at l0 hmb
          rcases Nat.lt_or_ge j gg.2.2.length with hjl | hjl
          · obtain ⟨y, hy⟩ := some_at hjl
            have hyk := hins y (List.mem_of_getElem? hy)
            obtain ⟨b3, o3, hadd, hb3, z0⟩ := (HI2.out.of hbi).at (show (gg.2.2.map fun k : Nat => (k : Int))[j]? = some (y : Int) by rw [List.getElem?_map, hy]; rfl)
            subst hadd
            have hly := (hsi.lev.at (show y < n by omega)).1
            rw [show (lvK G k ++ [mxL (lvK G k) (gg.2.2.take j)]).getD y 0 = (lvK G k).getD y 0 by rw [List.getD_eq_getElem?_getD, List.getD_eq_getElem?_getD, List.getElem?_append_left (by rw [HLL.out]; exact hyk)]] at hly
            have hlb := HB3.out k (by omega) y
            obtain ⟨ly, hll2⟩ : ∃ m, (lvK G k).getD y 0 = m := ⟨_, rfl⟩
            rw [hll2] at hly hlb
            have HM := Lib.hid (show mxL (lvK G k) (gg.2.2.take (j + 1)) = max mm (ly + 1) by rw [takeS hy, mxL_snoc, hmm, hll2])
            obtain ⟨nm, hnm⟩ : ∃ m, max mm (ly + 1) = m := ⟨_, rfl⟩
            rw [hnm] at HM
            have hmx : max (mm : Int) ((ly : Int) + 1) = (nm : Int) := by omega
            have f7 : decide ((j : Int) < (gg.2.2.length : Int)) = true := decide_eq_true (by omega)
            have hia : (0 ≤ (j : Int) ∧ (j : Int) < (gg.2.2.length : Int)) := ⟨by omega, by omega⟩
            have hic : (0 ≤ (y : Int) ∧ (y : Int) < (n : Int)) := ⟨by omega, by omega⟩
            clear hy hmm hll2 hnm hsi hbi
            go_wp2_with fail
            go_region
            go_wp2
            go_roundw
            case measure => simp [intOf]; omega
            case rel =>
              refine ⟨j + 1, by go_num, by omega, ?_, ?_⟩
              · rw [HM.out]
                have h := HSI.out.level nm
                rw [HLL.out] at h
                first | exact h | exact h.of (Below.drew (Below.refl _ _))
              · have h := HBI.out.setCell (p := ⟨V.heap.size + 1, k, none⟩) (by simp; omega) (.int .i64 (nm : Int))
                first | exact h | exact h.drew
          · have hke : j = gg.2.2.length := by omega
            subst hke
            have f7 : decide ((gg.2.2.length : Int) < (gg.2.2.length : Int)) = false := decide_eq_false (by omega)
            rw [List.take_length] at hmm
            have HM := Lib.hid hmm
            obtain ⟨tp2, htp⟩ : ∃ m, max tp mm = m := ⟨_, rfl⟩
            have HTP := Lib.hid (show topK G (k + 1) = tp2 by rw [topK_succ HGG.out, HCC.out.2.2.2.2.2.2, hmm, htp])
            have hmx : max (tp : Int) (mm : Int) = (tp2 : Int) := by omega
            obtain ⟨⟨q0, q1, q2, q3, q4, q5, q6⟩, r0, r1, r2, r3, r4, r5, r6⟩ := cell7 hsi.cnt
            clear hmm htp hsi hbi
            go_wp2_with fail
            go_region
            go_wp2
            refine ⟨⟨k + 1, by go_num, by omega, ?_⟩, by simp [intOf]; omega⟩
            have h := HSI.out.count 6 (.int .i64 (tp2 : Int))
            rw [List.take_length, HM.out] at h
            unfold cntV
            rw [lvK_succ HGG.out, HM.out, HC.out.1, HC.out.2.1, HC.out.2.2.1, HC.out.2.2.2.1, HC.out.2.2.2.2, HTP.out, inpK_succ HGG.out, HCC.out.2.2.2.2.2.1, show ((ip + gg.2.2.length : Nat) : Int) = (ip2 : Int) by rw [HIP.out]; omega]
            first | exact h | exact h.of (Below.drew (Below.refl _ _))
      have f23 : ((gg.1 : Int) == 3) = false := by simp; omega
      by_cases h4 : gg.1 = 4
      · have f2 : ((gg.1 : Int) == 4) = true := by simp [h4]
        have HK := Lib.hid h4
        clear h4
        have HC0 := Lib.hid (show clsG gg = 3 by rw [HK0.out, HK.out]; rfl)
        go_upto_region 19 with fail
        obtain ⟨d, hd⟩ : ∃ d : Nat, (d : Int) = (c3 : Int) + 1 := ⟨c3 + 1, by omega⟩
        have hs2 : SzS V (V.heap.size + 1) n #[.int .i64 (c0 : Int), .int .i64 (c1 : Int), .int .i64 (c2 : Int), .int .i64 (d : Int), .int .i64 (c4 : Int), .int .i64 (ip : Int), .int .i64 (tp : Int)] (lvK G k ++ [0]) ((wo.setCell ⟨V.heap.size, 3, none⟩ (.int .i64 (d : Int))).alloc (.cells #[.int .i64 (gg.1 : Int), .int .i64 (gg.2.1 : Int), .slice ax gg.2.2.length cx] 45 (0, 0))) := (HSZ.out.count 3 (.int .i64 (d : Int))).of ((Below.refl _ _).alloc (Nat.le_refl _) _)
        have hg2 : ((wo.setCell ⟨V.heap.size, 3, none⟩ (.int .i64 (d : Int))).alloc (.cells #[.int .i64 (gg.1 : Int), .int .i64 (gg.2.1 : Int), .slice ax gg.2.2.length cx] 45 (0, 0))).heap[wo.heap.size]? = some (.cells #[.int .i64 (gg.1 : Int), .int .i64 (gg.2.1 : Int), .slice ax gg.2.2.length cx] 45 (0, 0)) := by have := World.alloc_heap_new (wo.setCell ⟨V.heap.size, 3, none⟩ (.int .i64 (d : Int))) (.cells #[.int .i64 (gg.1 : Int), .int .i64 (gg.2.1 : Int), .slice ax gg.2.2.length cx] 45 (0, 0)); simpa using this
        have hz2 : Below w.heap.size w ((wo.setCell ⟨V.heap.size, 3, none⟩ (.int .i64 (d : Int))).alloc (.cells #[.int .i64 (gg.1 : Int), .int .i64 (gg.2.1 : Int), .slice ax gg.2.2.length cx] 45 (0, 0))) := (HBW.out.setCell (p := ⟨V.heap.size, 3, none⟩) (by simp; omega) (.int .i64 (d : Int))).alloc (by simp; omega) _
        have HC := Lib.hid (show cntK G 0 (k + 1) = c0 ∧ cntK G 1 (k + 1) = c1 ∧ cntK G 2 (k + 1) = c2 ∧ cntK G 3 (k + 1) = d ∧ cntK G 4 (k + 1) = c4 from by
          have h0 := HCC.out
          have hcl := HC0.out
          refine ⟨?_, ?_, ?_, ?_, ?_⟩
          · rw [cntK_miss HGG.out (by rw [hcl]; decide)]; omega
          · rw [cntK_miss HGG.out (by rw [hcl]; decide)]; omega
          · rw [cntK_miss HGG.out (by rw [hcl]; decide)]; omega
          · rw [cntK_hit HGG.out hcl]; omega
          · rw [cntK_miss HGG.out (by rw [hcl]; decide)]; omega
          )
        rw [← hd]
        clear hd
        obtain ⟨Z, hZ⟩ : ∃ Z, (wo.setCell ⟨V.heap.size, 3, none⟩ (.int .i64 (d : Int))).alloc (.cells #[.int .i64 (gg.1 : Int), .int .i64 (gg.2.1 : Int), .slice ax gg.2.2.length cx] 45 (0, 0)) = Z := ⟨_, rfl⟩
        rw [hZ] at hs2 hg2 hz2 ⊢
        clear HSZ hZ q0 q1 q2 q3 q4 q5 q6 r0 r1 r2 r3 r4 r5 r6 y0 y1 y2 m0 m1
        obtain ⟨GB, hGB⟩ : ∃ b, wo.heap.size = b := ⟨_, rfl⟩
        rw [hGB] at hg2 ⊢
        obtain ⟨⟨q0, q1, q2, q3, q4, q5, q6⟩, r0, r1, r2, r3, r4, r5, r6⟩ := cell7 hs2.cnt
        obtain ⟨p0, p1, p2⟩ := box3 hg2
        obtain ⟨ip2, hip⟩ : ∃ d : Nat, (d : Int) = (ip : Int) + (gg.2.2.length : Int) := ⟨ip + gg.2.2.length, by omega⟩
        have HS2 := Lib.hid hs2
        have HG2 := Lib.hid hg2
        have HZ2 := Lib.hid hz2
        have HIP := Lib.hid hip
        have hZs := hz2.size
        clear hs2 hg2 hz2 hGB hip
        go_wp2_with fail
        have hs3 : SzS V (V.heap.size + 1) n #[.int .i64 (c0 : Int), .int .i64 (c1 : Int), .int .i64 (c2 : Int), .int .i64 (d : Int), .int .i64 (c4 : Int), .int .i64 (ip2 : Int), .int .i64 (tp : Int)] (lvK G k ++ [0]) (Z.setCell ⟨V.heap.size, 5, none⟩ (.int .i64 (ip2 : Int))) := HS2.out.count 5 (.int .i64 (ip2 : Int))
        have hz3 := HZ2.out.setCell (p := ⟨V.heap.size, 5, none⟩) (by simp; omega) (.int .i64 (ip2 : Int))
        rw [← HIP.out]
        obtain ⟨Z2, hZ2⟩ : ∃ Z2, Z.setCell ⟨V.heap.size, 5, none⟩ (.int .i64 (ip2 : Int)) = Z2 := ⟨_, rfl⟩
        rw [hZ2] at hs3 hz3 ⊢
        have HS3 := Lib.hid hs3
        have HZ3 := Lib.hid hz3
        clear hZ2 hs3 hz3 q0 q1 q2 q3 q4 q5 q6 r0 r1 r2 r3 r4 r5 r6 p0 p1 p2
        go_loopw [72] (fun iv wi => ∃ j : Nat, iv = .int .i64 (j : Int) ∧ j ≤ gg.2.2.length ∧ SzS V (V.heap.size + 1) n #[.int .i64 (c0 : Int), .int .i64 (c1 : Int), .int .i64 (c2 : Int), .int .i64 (d : Int), .int .i64 (c4 : Int), .int .i64 (ip2 : Int), .int .i64 (tp : Int)] (lvK G k ++ [mxL (lvK G k) (gg.2.2.take j)]) wi ∧ Below w.heap.size w wi) (fun iv _ => gg.2.2.length - (intOf iv).toNat)
        case atStart => exact ⟨0, rfl, Nat.zero_le _, HS3.out, HZ3.out⟩
        case round =>
          rename World => wi
          obtain ⟨j, rfl, hj, hsi, hbi⟩ := hrel
          have HSI := Lib.hid hsi
          have HBI := Lib.hid hbi
          have hlv := hsi.lev.at hkl
          rw [show (lvK G k ++ [mxL (lvK G k) (gg.2.2.take j)]).getD k 0 = mxL (lvK G k) (gg.2.2.take j) by rw [List.getD_eq_getElem?_getD, List.getElem?_append_right (by rw [HLL.out]; exact Nat.le_refl _), HLL.out, Nat.sub_self]; rfl] at hlv
          have hmb : mxL (lvK G k) (gg.2.2.take j) ≤ k + 1 := mxL_le fun i hi => by
            have h1 := hins i (List.mem_of_mem_take hi)
            have h2 := HB3.out k (by omega) i
            omega
          obtain ⟨l0, l1⟩ := hlv
          obtain ⟨mm, hmm⟩ : ∃ m, mxL (lvK G k) (gg.2.2.take j) = m := ⟨_, rfl⟩
          rw [hmm] at l0 hmb
          rcases Nat.lt_or_ge j gg.2.2.length with hjl | hjl
          · obtain ⟨y, hy⟩ := some_at hjl
            have hyk := hins y (List.mem_of_getElem? hy)
            obtain ⟨b3, o3, hadd, hb3, z0⟩ := (HI2.out.of hbi).at (show (gg.2.2.map fun k : Nat => (k : Int))[j]? = some (y : Int) by rw [List.getElem?_map, hy]; rfl)
            subst hadd
            have hly := (hsi.lev.at (show y < n by omega)).1
            rw [show (lvK G k ++ [mxL (lvK G k) (gg.2.2.take j)]).getD y 0 = (lvK G k).getD y 0 by rw [List.getD_eq_getElem?_getD, List.getD_eq_getElem?_getD, List.getElem?_append_left (by rw [HLL.out]; exact hyk)]] at hly
            have hlb := HB3.out k (by omega) y
            obtain ⟨ly, hll2⟩ : ∃ m, (lvK G k).getD y 0 = m := ⟨_, rfl⟩
            rw [hll2] at hly hlb
            have HM := Lib.hid (show mxL (lvK G k) (gg.2.2.take (j + 1)) = max mm (ly + 1) by rw [takeS hy, mxL_snoc, hmm, hll2])
            obtain ⟨nm, hnm⟩ : ∃ m, max mm (ly + 1) = m := ⟨_, rfl⟩
            rw [hnm] at HM
            have hmx : max (mm : Int) ((ly : Int) + 1) = (nm : Int) := by omega
            have f7 : decide ((j : Int) < (gg.2.2.length : Int)) = true := decide_eq_true (by omega)
            have hia : (0 ≤ (j : Int) ∧ (j : Int) < (gg.2.2.length : Int)) := ⟨by omega, by omega⟩
            have hic : (0 ≤ (y : Int) ∧ (y : Int) < (n : Int)) := ⟨by omega, by omega⟩
            clear hy hmm hll2 hnm hsi hbi
            go_wp2_with fail
            go_region
            go_wp2
            go_roundw
            case measure => simp [intOf]; omega
            case rel =>
              refine ⟨j + 1, by go_num, by omega, ?_, ?_⟩
              · rw [HM.out]
                have h := HSI.out.level nm
                rw [HLL.out] at h
                first | exact h | exact h.of (Below.drew (Below.refl _ _))
              · have h := HBI.out.setCell (p := ⟨V.heap.size + 1, k, none⟩) (by simp; omega) (.int .i64 (nm : Int))
                first | exact h | exact h.drew
          · have hke : j = gg.2.2.length := by omega
            subst hke
            have f7 : decide ((gg.2.2.length : Int) < (gg.2.2.length : Int)) = false := decide_eq_false (by omega)
            rw [List.take_length] at hmm
            have HM := Lib.hid hmm
            obtain ⟨tp2, htp⟩ : ∃ m, max tp mm = m := ⟨_, rfl⟩
            have HTP := Lib.hid (show topK G (k + 1) = tp2 by rw [topK_succ HGG.out, HCC.out.2.2.2.2.2.2, hmm, htp])
            have hmx : max (tp : Int) (mm : Int) = (tp2 : Int) := by omega
            obtain ⟨⟨q0, q1, q2, q3, q4, q5, q6⟩, r0, r1, r2, r3, r4, r5, r6⟩ := cell7 hsi.cnt
            clear hmm htp hsi hbi
            go_wp2_with fail
            go_region
            go_wp2
            refine ⟨⟨k + 1, by go_num, by omega, ?_⟩, by simp [intOf]; omega⟩
            have h := HSI.out.count 6 (.int .i64 (tp2 : Int))
            rw [List.take_length, HM.out] at h
            unfold cntV
            rw [lvK_succ HGG.out, HM.out, HC.out.1, HC.out.2.1, HC.out.2.2.1, HC.out.2.2.2.1, HC.out.2.2.2.2, HTP.out, inpK_succ HGG.out, HCC.out.2.2.2.2.2.1, show ((ip + gg.2.2.length : Nat) : Int) = (ip2 : Int) by rw [HIP.out]; omega]
            first | exact h | exact h.of (Below.drew (Below.refl _ _))
      have f24 : ((gg.1 : Int) == 4) = false := by simp; omega
      have HK := Lib.hid (And.intro h1 (And.intro h2 (And.intro h3 h4)))
      clear h1 h2 h3 h4
      have HC0 := Lib.hid (show clsG gg = 4 by rw [HK0.out, if_neg HK.out.1, if_neg HK.out.2.1, if_neg HK.out.2.2.1, if_neg HK.out.2.2.2])
      go_upto_region 19 with fail
      obtain ⟨d, hd⟩ : ∃ d : Nat, (d : Int) = (c4 : Int) + 1 := ⟨c4 + 1, by omega⟩
      have hs2 : SzS V (V.heap.size + 1) n #[.int .i64 (c0 : Int), .int .i64 (c1 : Int), .int .i64 (c2 : Int), .int .i64 (c3 : Int), .int .i64 (d : Int), .int .i64 (ip : Int), .int .i64 (tp : Int)] (lvK G k ++ [0]) ((wo.setCell ⟨V.heap.size, 4, none⟩ (.int .i64 (d : Int))).alloc (.cells #[.int .i64 (gg.1 : Int), .int .i64 (gg.2.1 : Int), .slice ax gg.2.2.length cx] 45 (0, 0))) := (HSZ.out.count 4 (.int .i64 (d : Int))).of ((Below.refl _ _).alloc (Nat.le_refl _) _)
      have hg2 : ((wo.setCell ⟨V.heap.size, 4, none⟩ (.int .i64 (d : Int))).alloc (.cells #[.int .i64 (gg.1 : Int), .int .i64 (gg.2.1 : Int), .slice ax gg.2.2.length cx] 45 (0, 0))).heap[wo.heap.size]? = some (.cells #[.int .i64 (gg.1 : Int), .int .i64 (gg.2.1 : Int), .slice ax gg.2.2.length cx] 45 (0, 0)) := by have := World.alloc_heap_new (wo.setCell ⟨V.heap.size, 4, none⟩ (.int .i64 (d : Int))) (.cells #[.int .i64 (gg.1 : Int), .int .i64 (gg.2.1 : Int), .slice ax gg.2.2.length cx] 45 (0, 0)); simpa using this
      have hz2 : Below w.heap.size w ((wo.setCell ⟨V.heap.size, 4, none⟩ (.int .i64 (d : Int))).alloc (.cells #[.int .i64 (gg.1 : Int), .int .i64 (gg.2.1 : Int), .slice ax gg.2.2.length cx] 45 (0, 0))) := (HBW.out.setCell (p := ⟨V.heap.size, 4, none⟩) (by simp; omega) (.int .i64 (d : Int))).alloc (by simp; omega) _
      have HC := Lib.hid (show cntK G 0 (k + 1) = c0 ∧ cntK G 1 (k + 1) = c1 ∧ cntK G 2 (k + 1) = c2 ∧ cntK G 3 (k + 1) = c3 ∧ cntK G 4 (k + 1) = d from by
        have h0 := HCC.out
        have hcl := HC0.out
        refine ⟨?_, ?_, ?_, ?_, ?_⟩
        · rw [cntK_miss HGG.out (by rw [hcl]; decide)]; omega
        · rw [cntK_miss HGG.out (by rw [hcl]; decide)]; omega
        · rw [cntK_miss HGG.out (by rw [hcl]; decide)]; omega
        · rw [cntK_miss HGG.out (by rw [hcl]; decide)]; omega
        · rw [cntK_hit HGG.out hcl]; omega
        )
      rw [← hd]
      clear hd
      obtain ⟨Z, hZ⟩ : ∃ Z, (wo.setCell ⟨V.heap.size, 4, none⟩ (.int .i64 (d : Int))).alloc (.cells #[.int .i64 (gg.1 : Int), .int .i64 (gg.2.1 : Int), .slice ax gg.2.2.length cx] 45 (0, 0)) = Z := ⟨_, rfl⟩
      rw [hZ] at hs2 hg2 hz2 ⊢
      clear HSZ hZ q0 q1 q2 q3 q4 q5 q6 r0 r1 r2 r3 r4 r5 r6 y0 y1 y2 m0 m1
      obtain ⟨GB, hGB⟩ : ∃ b, wo.heap.size = b := ⟨_, rfl⟩
      rw [hGB] at hg2 ⊢
      obtain ⟨⟨q0, q1, q2, q3, q4, q5, q6⟩, r0, r1, r2, r3, r4, r5, r6⟩ := cell7 hs2.cnt
      obtain ⟨p0, p1, p2⟩ := box3 hg2
      obtain ⟨ip2, hip⟩ : ∃ d : Nat, (d : Int) = (ip : Int) + (gg.2.2.length : Int) := ⟨ip + gg.2.2.length, by omega⟩
      have HS2 := Lib.hid hs2
      have HG2 := Lib.hid hg2
      have HZ2 := Lib.hid hz2
      have HIP := Lib.hid hip
      have hZs := hz2.size
      clear hs2 hg2 hz2 hGB hip
      go_wp2_with fail
      have hs3 : SzS V (V.heap.size + 1) n #[.int .i64 (c0 : Int), .int .i64 (c1 : Int), .int .i64 (c2 : Int), .int .i64 (c3 : Int), .int .i64 (d : Int), .int .i64 (ip2 : Int), .int .i64 (tp : Int)] (lvK G k ++ [0]) (Z.setCell ⟨V.heap.size, 5, none⟩ (.int .i64 (ip2 : Int))) := HS2.out.count 5 (.int .i64 (ip2 : Int))
      have hz3 := HZ2.out.setCell (p := ⟨V.heap.size, 5, none⟩) (by simp; omega) (.int .i64 (ip2 : Int))
      rw [← HIP.out]
      obtain ⟨Z2, hZ2⟩ : ∃ Z2, Z.setCell ⟨V.heap.size, 5, none⟩ (.int .i64 (ip2 : Int)) = Z2 := ⟨_, rfl⟩
      rw [hZ2] at hs3 hz3 ⊢
      have HS3 := Lib.hid hs3
      have HZ3 := Lib.hid hz3
      clear hZ2 hs3 hz3 q0 q1 q2 q3 q4 q5 q6 r0 r1 r2 r3 r4 r5 r6 p0 p1 p2
      go_loopw [72] (fun iv wi => ∃ j : Nat, iv = .int .i64 (j : Int) ∧ j ≤ gg.2.2.length ∧ SzS V (V.heap.size + 1) n #[.int .i64 (c0 : Int), .int .i64 (c1 : Int), .int .i64 (c2 : Int), .int .i64 (c3 : Int), .int .i64 (d : Int), .int .i64 (ip2 : Int), .int .i64 (tp : Int)] (lvK G k ++ [mxL (lvK G k) (gg.2.2.take j)]) wi ∧ Below w.heap.size w wi) (fun iv _ => gg.2.2.length - (intOf iv).toNat)
      case atStart => exact ⟨0, rfl, Nat.zero_le _, HS3.out, HZ3.out⟩
      case round =>
        rename World => wi
        obtain ⟨j, rfl, hj, hsi, hbi⟩ := hrel
        have HSI := Lib.hid hsi
        have HBI := Lib.hid hbi
        have hlv := hsi.lev.at hkl
        rw [show (lvK G k ++ [mxL (lvK G k) (gg.2.2.take j)]).getD k 0 = mxL (lvK G k) (gg.2.2.take j) by rw [List.getD_eq_getElem?_getD, List.getElem?_append_right (by rw [HLL.out]; exact Nat.le_refl _), HLL.out, Nat.sub_self]; rfl] at hlv
        have hmb : mxL (lvK G k) (gg.2.2.take j) ≤ k + 1 := mxL_le fun i hi => by
          have h1 := hins i (List.mem_of_mem_take hi)
          have h2 := HB3.out k (by omega) i
          omega
        obtain ⟨l0, l1⟩ := hlv
        obtain ⟨mm, hmm⟩ : ∃ m, mxL (lvK G k) (gg.2.2.take j) = m := ⟨_, rfl⟩
        rw [hmm] at l0 hmb
        rcases Nat.lt_or_ge j gg.2.2.length with hjl | hjl
        · obtain ⟨y, hy⟩ := some_at hjl
          have hyk := hins y (List.mem_of_getElem? hy)
          obtain ⟨b3, o3, hadd, hb3, z0⟩ := (HI2.out.of hbi).at (show (gg.2.2.map fun k : Nat => (k : Int))[j]? = some (y : Int) by rw [List.getElem?_map, hy]; rfl)
          subst hadd
          have hly := (hsi.lev.at (show y < n by omega)).1
          rw [show (lvK G k ++ [mxL (lvK G k) (gg.2.2.take j)]).getD y 0 = (lvK G k).getD y 0 by rw [List.getD_eq_getElem?_getD, List.getD_eq_getElem?_getD, List.getElem?_append_left (by rw [HLL.out]; exact hyk)]] at hly
          have hlb := HB3.out k (by omega) y
          obtain ⟨ly, hll2⟩ : ∃ m, (lvK G k).getD y 0 = m := ⟨_, rfl⟩
          rw [hll2] at hly hlb
          have HM := Lib.hid (show mxL (lvK G k) (gg.2.2.take (j + 1)) = max mm (ly + 1) by rw [takeS hy, mxL_snoc, hmm, hll2])
          obtain ⟨nm, hnm⟩ : ∃ m, max mm (ly + 1) = m := ⟨_, rfl⟩
          rw [hnm] at HM
          have hmx : max (mm : Int) ((ly : Int) + 1) = (nm : Int) := by omega
          have f7 : decide ((j : Int) < (gg.2.2.length : Int)) = true := decide_eq_true (by omega)
          have hia : (0 ≤ (j : Int) ∧ (j : Int) < (gg.2.2.length : Int)) := ⟨by omega, by omega⟩
          have hic : (0 ≤ (y : Int) ∧ (y : Int) < (n : Int)) := ⟨by omega, by omega⟩
          clear hy hmm hll2 hnm hsi hbi
          go_wp2_with fail
          go_region
          go_wp2
          go_roundw
          case measure => simp [intOf]; omega
          case rel =>
            refine ⟨j + 1, by go_num, by omega, ?_, ?_⟩
            · rw [HM.out]
              have h := HSI.out.level nm
              rw [HLL.out] at h
              first | exact h | exact h.of (Below.drew (Below.refl _ _))
            · have h := HBI.out.setCell (p := ⟨V.heap.size + 1, k, none⟩) (by simp; omega) (.int .i64 (nm : Int))
              first | exact h | exact h.drew
        · have hke : j = gg.2.2.length := by omega
          subst hke
          have f7 : decide ((gg.2.2.length : Int) < (gg.2.2.length : Int)) = false := decide_eq_false (by omega)
          rw [List.take_length] at hmm
          have HM := Lib.hid hmm
          obtain ⟨tp2, htp⟩ : ∃ m, max tp mm = m := ⟨_, rfl⟩
          have HTP := Lib.hid (show topK G (k + 1) = tp2 by rw [topK_succ HGG.out, HCC.out.2.2.2.2.2.2, hmm, htp])
          have hmx : max (tp : Int) (mm : Int) = (tp2 : Int) := by omega
          obtain ⟨⟨q0, q1, q2, q3, q4, q5, q6⟩, r0, r1, r2, r3, r4, r5, r6⟩ := cell7 hsi.cnt
          clear hmm htp hsi hbi
          go_wp2_with fail
          go_region
          go_wp2
          refine ⟨⟨k + 1, by go_num, by omega, ?_⟩, by simp [intOf]; omega⟩
          have h := HSI.out.count 6 (.int .i64 (tp2 : Int))
          rw [List.take_length, HM.out] at h
          unfold cntV
          rw [lvK_succ HGG.out, HM.out, HC.out.1, HC.out.2.1, HC.out.2.2.1, HC.out.2.2.2.1, HC.out.2.2.2.2, HTP.out, inpK_succ HGG.out, HCC.out.2.2.2.2.2.1, show ((ip + gg.2.2.length : Nat) : Int) = (ip2 : Int) by rw [HIP.out]; omega]
          first | exact h | exact h.of (Below.drew (Below.refl _ _))
    · have hke : k = n := by omega
      subst hke
      have f1 : decide ((k : Int) < (k : Int)) = false := decide_eq_false (by omega)
      have hc0 := hS.cnt
      have hr := obj_in (hS.bel) HX2.out
      unfold cntV at hc0 ⊢
      obtain ⟨⟨q0, q1, q2, q3, q4, q5, q6⟩, r0, r1, r2, r3, r4, r5, r6⟩ := cell7 hc0
      obtain ⟨⟨t0, t1, t2, t3, t4, t5, t6⟩, u0, u1, u2, u3, u4, u5, u6⟩ := cell7 hr
      have hne1 : w.heap.size + 1 ≠ V.heap.size := by omega
      have hne2 : V.heap.size ≠ w.heap.size + 1 := by omega
      have hfin : (((((((wo.setCell ⟨w.heap.size + 1, 0, none⟩ (.int .i64 (cntK G 0 k : Int))).setCell ⟨w.heap.size + 1, 1, none⟩ (.int .i64 (cntK G 1 k : Int))).setCell ⟨w.heap.size + 1, 2, none⟩ (.int .i64 (cntK G 2 k : Int))).setCell ⟨w.heap.size + 1, 3, none⟩ (.int .i64 (cntK G 3 k : Int))).setCell ⟨w.heap.size + 1, 4, none⟩ (.int .i64 (cntK G 4 k : Int))).setCell ⟨w.heap.size + 1, 5, none⟩ (.int .i64 (inpK G k : Int))).setCell ⟨w.heap.size + 1, 6, none⟩ (.int .i64 (topK G k : Int))).heap[w.heap.size + 1]? = some (.cells #[.int .i64 (cntK G 0 k : Int), .int .i64 (cntK G 1 k : Int), .int .i64 (cntK G 2 k : Int), .int .i64 (cntK G 3 k : Int), .int .i64 (cntK G 4 k : Int), .int .i64 (inpK G k : Int), .int .i64 (topK G k : Int)] 57 (0, 0)) := (obj_setD (i := 6) (.int .i64 (topK G k : Int)) (obj_setD (i := 5) (.int .i64 (inpK G k : Int)) (obj_setD (i := 4) (.int .i64 (cntK G 4 k : Int)) (obj_setD (i := 3) (.int .i64 (cntK G 3 k : Int)) (obj_setD (i := 2) (.int .i64 (cntK G 2 k : Int)) (obj_setD (i := 1) (.int .i64 (cntK G 1 k : Int)) (obj_setD (i := 0) (.int .i64 (cntK G 0 k : Int)) hr)))))))
      have HBF := Lib.hid (show Below w.heap.size w (((((((wo.setCell ⟨w.heap.size + 1, 0, none⟩ (.int .i64 (cntK G 0 k : Int))).setCell ⟨w.heap.size + 1, 1, none⟩ (.int .i64 (cntK G 1 k : Int))).setCell ⟨w.heap.size + 1, 2, none⟩ (.int .i64 (cntK G 2 k : Int))).setCell ⟨w.heap.size + 1, 3, none⟩ (.int .i64 (cntK G 3 k : Int))).setCell ⟨w.heap.size + 1, 4, none⟩ (.int .i64 (cntK G 4 k : Int))).setCell ⟨w.heap.size + 1, 5, none⟩ (.int .i64 (inpK G k : Int))).setCell ⟨w.heap.size + 1, 6, none⟩ (.int .i64 (topK G k : Int))) from (Below.setCell (p := ⟨w.heap.size + 1, 6, none⟩) (Below.setCell (p := ⟨w.heap.size + 1, 5, none⟩) (Below.setCell (p := ⟨w.heap.size + 1, 4, none⟩) (Below.setCell (p := ⟨w.heap.size + 1, 3, none⟩) (Below.setCell (p := ⟨w.heap.size + 1, 2, none⟩) (Below.setCell (p := ⟨w.heap.size + 1, 1, none⟩) (Below.setCell (p := ⟨w.heap.size + 1, 0, none⟩) hbw (by simp) (.int .i64 (cntK G 0 k : Int))) (by simp) (.int .i64 (cntK G 1 k : Int))) (by simp) (.int .i64 (cntK G 2 k : Int))) (by simp) (.int .i64 (cntK G 3 k : Int))) (by simp) (.int .i64 (cntK G 4 k : Int))) (by simp) (.int .i64 (inpK G k : Int))) (by simp) (.int .i64 (topK G k : Int))))
      have HFIN := Lib.hid hfin
      clear hS hc0 hr hbw hfin
      go_wp2_with fail
      obtain ⟨WF, hWF⟩ : ∃ WF, (((((((wo.setCell ⟨w.heap.size + 1, 0, none⟩ (.int .i64 (cntK G 0 k : Int))).setCell ⟨w.heap.size + 1, 1, none⟩ (.int .i64 (cntK G 1 k : Int))).setCell ⟨w.heap.size + 1, 2, none⟩ (.int .i64 (cntK G 2 k : Int))).setCell ⟨w.heap.size + 1, 3, none⟩ (.int .i64 (cntK G 3 k : Int))).setCell ⟨w.heap.size + 1, 4, none⟩ (.int .i64 (cntK G 4 k : Int))).setCell ⟨w.heap.size + 1, 5, none⟩ (.int .i64 (inpK G k : Int))).setCell ⟨w.heap.size + 1, 6, none⟩ (.int .i64 (topK G k : Int))) = WF := ⟨_, rfl⟩
      rw [hWF] at HFIN HBF ⊢
      clear hWF q0 q1 q2 q3 q4 q5 q6 r0 r1 r2 r3 r4 r5 r6 t0 t1 t2 t3 t4 t5 t6 u0 u1 u2 u3 u4 u5 u6
      obtain ⟨⟨q0, q1, q2, q3, q4, q5, q6⟩, r0, r1, r2, r3, r4, r5, r6⟩ := cell7 HFIN.out
      refine bodyPost_ret (v := .tuple #[.agg (cntV G k), .int .i64 0]) (by simp [results, Tryz.results25, go_sem, cntV, q0, q1, q2, q3, q4, q5, q6]) rfl (Ret.mk rfl HBF.out)
end Go.Proofs.YtlnedapimmabdaaGreatDoor
