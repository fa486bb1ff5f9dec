/- Circles of fifths: stores of a circle and of a tempering; part, the closures of Named. -/
import Derived.Test.YtehgeoipbgpocaaGreatDoorTj
namespace Go.Proofs.YtehgeoipbgpocaaGreatDoor
set_option linter.unusedVariables false
set_option linter.unusedSimpArgs false
open Go.RowKit
attribute [local go_sem low] Bel.cell Bel.frozen alloc_cell alloc_frozen
attribute [local go_sem] calmOp chainOp yieldsC grows

/-- One block has become o, all else lies as it lay. -/
structure Chg (B : Nat) (o : Obj) (W W' : World) : Prop where
  b : W'.heap[B]? = some o
  oth : ∀ k, k ≠ B → W'.heap[k]? = W.heap[k]?
  bl : Below B W W'
  sz : W'.heap.size = W.heap.size
theorem Chg.obj {B k : Nat} {o ob : Obj} {W W' : World} (h : Chg B o W W') (hk : k ≠ B) (hw : W.heap[k]? = some ob) : W'.heap[k]? = some ob := (h.oth k hk).trans hw
theorem Chg.below {B n : Nat} {o : Obj} {w W W' : World} (h : Chg B o W W') (hb : Below n w W) (hn : n ≤ B) : Below n w W' := hb.trans (h.bl.mono hn)
def upd (c : Cir) (k : Nat) (t : Q × Q) : Cir := fun j => if j = k then t else c j
theorem cirA_one (c : Cir) : (cirA c).all (·.oneCell') = true := all_oneCell_toArray fun v hv => by
  obtain ⟨k, _, hv⟩ := List.mem_flatMap.1 hv
  simp only [List.mem_cons, List.not_mem_nil, or_false] at hv
  rcases hv with rfl | rfl | rfl | rfl <;> rfl
def put4 (cs : Array Value) (o : Nat) (v0 v1 v2 v3 : Value) : Array Value := (((cs.setIfInBounds o v0).setIfInBounds (o + 1) v1).setIfInBounds (o + 1 + 1) v2).setIfInBounds (o + 1 + 1 + 1) v3
theorem put4_cir (c : Cir) (k : Nat) (hk : k < 12) (t : Q × Q) : put4 (cirA c) (4 * k) (.int .i64 t.1.n) (.int .i64 t.1.d) (.int .i64 t.2.n) (.int .i64 t.2.d) = cirA (upd c k t) := by
  rcases (show k = 0 ∨ k = 1 ∨ k = 2 ∨ k = 3 ∨ k = 4 ∨ k = 5 ∨ k = 6 ∨ k = 7 ∨ k = 8 ∨ k = 9 ∨ k = 10 ∨ k = 11 by omega) with rfl | rfl | rfl | rfl | rfl | rfl | rfl | rfl | rfl | rfl | rfl | rfl <;> rfl
theorem chg_set4 {W : World} {B : Nat} {cs : Array Value} {T : TypeId} (h : W.heap[B]? = some (.cells cs T (0, 0))) (o : Nat) (v0 v1 v2 v3 : Value) : Chg B (.cells (put4 cs o v0 v1 v2 v3) T (0, 0)) W (W.setCells B o [v0, v1, v2, v3]) where
  b := obj_set (i := o + 1 + 1 + 1) _ (obj_set (i := o + 1 + 1) _ (obj_set (i := o + 1) _ (obj_set (i := o) _ h)))
  oth := fun k hk => by
    show (((((W.setCell ⟨B, o, none⟩ v0).setCell ⟨B, o + 1, none⟩ v1).setCell ⟨B, o + 1 + 1, none⟩ v2).setCell ⟨B, o + 1 + 1 + 1, none⟩ v3).heap[k]?) = _
    rw [Below.heap_setCell _ _ _ _ (by first | exact hk | exact hk.symm), Below.heap_setCell _ _ _ _ (by first | exact hk | exact hk.symm), Below.heap_setCell _ _ _ _ (by first | exact hk | exact hk.symm), Below.heap_setCell _ _ _ _ (by first | exact hk | exact hk.symm)]
  bl := ((((Below.refl B W).setCell (Nat.le_refl _) _).setCell (Nat.le_refl _) _).setCell (Nat.le_refl _) _).setCell (Nat.le_refl _) _
  sz := by simp [World.setCells, World.setCell]
theorem chg_row {W : World} {B : Nat} {cs cs' : Array Value} {T : TypeId} (h : W.heap[B]? = some (.cells cs T (0, 0))) : Chg B (.cells cs' T (0, 0)) W (W.setRow B cs') where
  b := setRow_heap W B cs cs' T (0, 0) h
  oth := fun k hk => by
    show (W.heap.modify B _)[k]? = _
    rw [Array.getElem?_modify]
    simp [Ne.symm hk]
  bl := ⟨rfl, rfl, rfl, by simp [World.setRow], fun k hk => by
    show (W.heap.modify B _)[k]? = _
    rw [Array.getElem?_modify]
    simp [show B ≠ k by omega]⟩
  sz := by simp [World.setRow]
theorem wpList_stC {ops : Array Oper} {rest : List Oper} {o : Oper} {a : Act} {w : World} {Q : Exit → Act → World → Prop} (hgd : o.guard = none) (x y : Operand) (ho : o.op = .store 36 x y)
    (B : Nat) (cs : Array Value) (hx : a.eval x = .pointer (some ⟨B, 0, none⟩)) (hy : a.eval y = .agg cs) (old : Array Value) (T : TypeId) (hob : w.heap[B]? = some (.cells old T)) (h1 : cs.size = 48) (h2 : old.size = 48) (h3 : cs.all (·.oneCell') = true)
    (h : ∀ W', Chg B (.cells cs T) w W' → wpList Tryz.prog ops Q rest (a.put o.dst undef) W') : wpList Tryz.prog ops Q (o :: rest) a w :=
  wpList_store_row hgd 36 x y ho B cs hx hy T old hob (by rw [cir_info, h1]) (by rw [h1, h2]) h3 (h _ (chg_row hob))
theorem cir_load {W : World} {B : Nat} {cs : Array Value} {T : TypeId} (h : W.heap[B]? = some (.cells cs T)) (hs : cs.size = 48 := by exact cirA_size _) : (loadVar 36 ⟨B, 0, none⟩).run Tryz.prog W = .ok (.agg cs) W :=
  run_loadVar_row W B T 36 cs (0, 0) _ h cir_under rfl (by rw [cir_info, hs])
theorem tem_info : (Tryz.prog.info? 34).map (·.size) = some 4 := by kernel_rfl
theorem wpList_stT {ops : Array Oper} {rest : List Oper} {o : Oper} {a : Act} {w : World} {Q : Exit → Act → World → Prop} (hgd : o.guard = none) (x y : Operand) (ho : o.op = .store 34 x y)
    (B k : Nat) (c : Cir) (T : TypeId) (n d m e : Int) (hk : k < 12) (of : Nat) (hof : of = 4 * k) (hx : a.eval x = .pointer (some ⟨B, of, none⟩)) (hy : a.eval y = .agg #[.int .i64 n, .int .i64 d, .int .i64 m, .int .i64 e])
    (hob : w.heap[B]? = some (.cells (cirA c) T))
    (h : ∀ W', Chg B (.cells (cirA (upd c k (⟨n, d⟩, ⟨m, e⟩))) T) w W' → wpList Tryz.prog ops Q rest (a.put o.dst undef) W') : wpList Tryz.prog ops Q (o :: rest) a w := by
  subst hof
  refine wpList_store_mid hgd 34 x y ho B (4 * k) #[.int .i64 n, .int .i64 d, .int .i64 m, .int .i64 e] hx hy (fun j hj => ?_) (by rw [tem_info]; rfl) (by simp [Value.oneCell']) ?_
  · have hj4 : j < 4 := hj
    have hlt : 4 * k + j < (cirA c).size := by rw [cirA_size]; omega
    have hm := made_cell hob (4 * k + j)
    rw [Array.getElem?_eq_getElem hlt] at hm
    exact ⟨by rw [hm.1]; rfl, hm.2⟩
  · have := h _ (by rw [← put4_cir c k hk (⟨n, d⟩, ⟨m, e⟩)]; exact chg_set4 hob (4 * k) (.int .i64 n) (.int .i64 d) (.int .i64 m) (.int .i64 e))
    exact this
def parS (n d : Int) : Q := ⟨F.mk1 n d, F.mk2 n d⟩
set_option maxHeartbeats 1600000 in
theorem part_any (n d : Int) (w : World) (h1 : -1000 ≤ n) (h2 : n ≤ 1000) (h3 : -1000 ≤ d) (h4 : d ≤ 1000) : Calls Tryz.prog 131 #[.int .i64 n, .int .i64 d] w (Ret (.agg #[.int .i64 (parS n d).n, .int .i64 (parS n d).d]) w) := by
  have HM := Lib.hid (fun w' => F.make_val n d w' (by omega) (by omega) (by omega) (by omega))
  have HP1 : Hid ((parS n d).n = F.mk1 n d) := Lib.hid rfl
  have HP2 : Hid ((parS n d).d = F.mk2 n d) := Lib.hid rfl
  generalize parS n d = r at *
  generalize F.mk1 n d = x1 at *
  generalize F.mk2 n d = x2 at *
  generalize F.mk3 n d = x3 at *
  go_enter Tryz.func131, Tryz.ntmps131
  go_wp2_with fail
  (with_reducible refine (HM.out _).mono ?_)
  rintro _ _ ⟨rfl, x, rfl⟩
  go_wp2
  refine bodyPost_ret (v := .agg #[.int .i64 x1, .int .i64 x2]) (by simp [results, Tryz.results131, go_sem]) rfl (Ret.mk (by rw [HP1.out, HP2.out]) (by (repeat' (first | (with_reducible first | apply Zl1 | apply Zl2 | apply Zl3 | apply Zl4 | apply Zl5 | apply Zl6 | apply Zl7 | apply Zl8 | apply Zl9 | apply Zla | apply Zlb | apply Zlc) | (dsimp only; with_reducible first | apply Zl8 | apply Zl2 | apply Zld) | with_reducible assumption | omega | (dsimp only; omega)))))
set_option maxHeartbeats 1600000 in
theorem named1_any (n d : Int) (w : World) (h1 : -1000 ≤ n) (h2 : n ≤ 1000) (h3 : -1000 ≤ d) (h4 : d ≤ 1000) : Calls Tryz.prog 130 #[.int .i64 n, .int .i64 d] w (Ret (.agg #[.int .i64 (parS n d).n, .int .i64 (parS n d).d, .int .i64 (parS 0 1).n, .int .i64 (parS 0 1).d]) w) := by
  have HM := Lib.hid (fun w' => part_any n d w' (by omega) (by omega) (by omega) (by omega))
  have HN := Lib.hid (fun w' => part_any 0 1 w' (by omega) (by omega) (by omega) (by omega))
  generalize parS n d = r at *
  generalize parS 0 1 = s at *
  go_enter Tryz.func130, Tryz.ntmps130
  go_wp2_with fail
  (with_reducible refine (HM.out _).mono ?_)
  rintro _ _ ⟨rfl, x, rfl⟩
  go_wp2_with fail
  (with_reducible refine (HN.out _).mono ?_)
  rintro _ _ ⟨rfl, y, rfl⟩
  go_wp2
  refine bodyPost_ret (v := .agg #[.int .i64 r.n, .int .i64 r.d, .int .i64 s.n, .int .i64 s.d]) (by simp [results, Tryz.results130, go_sem]) rfl (Ret.mk (by rfl) (by (repeat' (first | (with_reducible first | apply Zl1 | apply Zl2 | apply Zl3 | apply Zl4 | apply Zl5 | apply Zl6 | apply Zl7 | apply Zl8 | apply Zl9 | apply Zla | apply Zlb | apply Zlc) | (dsimp only; with_reducible first | apply Zl8 | apply Zl2 | apply Zld) | with_reducible assumption | omega | (dsimp only; omega)))))
set_option maxHeartbeats 1600000 in
theorem named2_any (n d : Int) (w : World) (h1 : -1000 ≤ n) (h2 : n ≤ 1000) (h3 : -1000 ≤ d) (h4 : d ≤ 1000) : Calls Tryz.prog 132 #[.int .i64 n, .int .i64 d] w (Ret (.agg #[.int .i64 (parS 0 1).n, .int .i64 (parS 0 1).d, .int .i64 (parS n d).n, .int .i64 (parS n d).d]) w) := by
  have HM := Lib.hid (fun w' => part_any n d w' (by omega) (by omega) (by omega) (by omega))
  have HN := Lib.hid (fun w' => part_any 0 1 w' (by omega) (by omega) (by omega) (by omega))
  generalize parS n d = r at *
  generalize parS 0 1 = s at *
  go_enter Tryz.func132, Tryz.ntmps132
  go_wp2_with fail
  (with_reducible refine (HN.out _).mono ?_)
  rintro _ _ ⟨rfl, y, rfl⟩
  go_wp2_with fail
  (with_reducible refine (HM.out _).mono ?_)
  rintro _ _ ⟨rfl, x, rfl⟩
  go_wp2
  refine bodyPost_ret (v := .agg #[.int .i64 s.n, .int .i64 s.d, .int .i64 r.n, .int .i64 r.d]) (by simp [results, Tryz.results132, go_sem]) rfl (Ret.mk (by rfl) (by (repeat' (first | (with_reducible first | apply Zl1 | apply Zl2 | apply Zl3 | apply Zl4 | apply Zl5 | apply Zl6 | apply Zl7 | apply Zl8 | apply Zl9 | apply Zla | apply Zlb | apply Zlc) | (dsimp only; with_reducible first | apply Zl8 | apply Zl2 | apply Zld) | with_reducible assumption | omega | (dsimp only; omega)))))
theorem upd_self (c : Cir) (k : Nat) (t : Q × Q) : upd c k t k = t := if_pos rfl
def zC : Cir := fun _ => (⟨0, 0⟩, ⟨0, 0⟩)
/-- The first k fifths have the tempering t. -/
def fillC (c : Cir) (t : Q × Q) : Nat → Cir
  | 0 => c
  | k + 1 => upd (fillC c t k) k t
/-- The fifths of a list have the tempering t. -/
def temC (c : Cir) (t : Q × Q) (l : List Nat) : Cir := l.foldl (fun c k => upd c k t) c
theorem temC_snoc (c : Cir) (t : Q × Q) (l : List Nat) (k : Nat) : temC c t (l ++ [k]) = upd (temC c t l) k t := by unfold temC; rw [List.foldl_append]; rfl
def teC (t : Q × Q) (l : List Nat) : Cir := temC (fillC zC (parS 0 1, parS 0 1) 12) t l
set_option maxRecDepth 100000 in
set_option maxHeartbeats 6400000 in
theorem tempered_any (t : Q × Q) (l : List Nat) (v : Value) (w : World) (hl : ∀ k, k ∈ l → k < 12) (hv : ShowsV w v (natVs l)) (hlen : l.length ≤ 1000) : Calls Tryz.prog 133 #[.agg #[.int .i64 t.1.n, .int .i64 t.1.d, .int .i64 t.2.n, .int .i64 t.2.d], v] w (Ret (cirV (teC t l)) w) := by
  have hVc : cirV (teC t l) = .agg (cirA (teC t l)) := rfl
  rw [hVc]
  obtain ⟨a, cap, rfl, hva⟩ := showsV_at hv
  rw [natVs_len] at hva ⊢
  have HVA := Lib.hid hva
  have HP := Lib.hid (fun w' => part_any 0 1 w' (by omega) (by omega) (by omega) (by omega))
  have HR : Hid (teC t l = temC (fillC zC (parS 0 1, parS 0 1) 12) t l) := Lib.hid rfl
  have HL := Lib.hid hl
  generalize teC t l = R at *
  generalize parS 0 1 = p0 at *
  obtain ⟨⟨t1, t2⟩, ⟨t3, t4⟩⟩ := t
  clear hVc hva hv hl
  dsimp only
  go_enter Tryz.func133, Tryz.ntmps133
  go_wp2_with fail
  have hz2 : (((w.alloc (.cells #[.int .i64 t1, .int .i64 t2, .int .i64 t3, .int .i64 t4] 34)).alloc (.cells (cirA zC) 36)).alloc (.cells (cirA zC) 36)).heap[w.heap.size + 2]? = _ := obj_new2 _ _ _ _
  have hz1 : (((w.alloc (.cells #[.int .i64 t1, .int .i64 t2, .int .i64 t3, .int .i64 t4] 34)).alloc (.cells (cirA zC) 36)).alloc (.cells (cirA zC) 36)).heap[w.heap.size + 1]? = _ := obj_alloc _ (obj_new1 _ _ _)
  have hz0 : (((w.alloc (.cells #[.int .i64 t1, .int .i64 t2, .int .i64 t3, .int .i64 t4] 34)).alloc (.cells (cirA zC) 36)).alloc (.cells (cirA zC) 36)).heap[w.heap.size]? = _ := obj_alloc _ (obj_alloc _ (obj_new _ _))
  have hzb : Below w.heap.size w (((w.alloc (.cells #[.int .i64 t1, .int .i64 t2, .int .i64 t3, .int .i64 t4] 34)).alloc (.cells (cirA zC) 36)).alloc (.cells (cirA zC) 36)) := by (repeat' (first | (with_reducible first | apply Zl1 | apply Zl2 | apply Zl3 | apply Zl4 | apply Zl5 | apply Zl6 | apply Zl7 | apply Zl8 | apply Zl9 | apply Zla | apply Zlb | apply Zlc) | (dsimp only; with_reducible first | apply Zl8 | apply Zl2 | apply Zld) | with_reducible assumption | omega | (dsimp only; omega)))
  have hcz : cirA zC = #[.int .i64 0, .int .i64 0, .int .i64 0, .int .i64 0, .int .i64 0, .int .i64 0, .int .i64 0, .int .i64 0, .int .i64 0, .int .i64 0, .int .i64 0, .int .i64 0, .int .i64 0, .int .i64 0, .int .i64 0, .int .i64 0, .int .i64 0, .int .i64 0, .int .i64 0, .int .i64 0, .int .i64 0, .int .i64 0, .int .i64 0, .int .i64 0, .int .i64 0, .int .i64 0, .int .i64 0, .int .i64 0, .int .i64 0, .int .i64 0, .int .i64 0, .int .i64 0, .int .i64 0, .int .i64 0, .int .i64 0, .int .i64 0, .int .i64 0, .int .i64 0, .int .i64 0, .int .i64 0, .int .i64 0, .int .i64 0, .int .i64 0, .int .i64 0, .int .i64 0, .int .i64 0, .int .i64 0, .int .i64 0] := rfl
  rw [← hcz]
  clear hcz
  generalize ((w.alloc (.cells #[.int .i64 t1, .int .i64 t2, .int .i64 t3, .int .i64 t4] 34)).alloc (.cells (cirA zC) 36)).alloc (.cells (cirA zC) 36) = Y at *
  go_loopw [9] (fun iv wr => ∃ k : Nat, k ≤ 12 ∧ iv = .int .i64 (k : Int) ∧ wr.heap[w.heap.size]? = some (.cells #[.int .i64 t1, .int .i64 t2, .int .i64 t3, .int .i64 t4] 34) ∧ wr.heap[w.heap.size + 1]? = some (.cells (cirA zC) 36) ∧
    wr.heap[w.heap.size + 2]? = some (.cells (cirA (fillC zC (p0, p0) k)) 36) ∧ Below w.heap.size w wr) (fun iv _ => 12 - (intOf iv).toNat)
  case atStart => exact ⟨0, by omega, rfl, hz0, hz1, hz2, hzb⟩
  case round =>
    obtain ⟨k, hk, rfl, ho0, ho1, ho2, hB⟩ := hrel
    have hbs := hB.size
    have hl2 := obj_lt ho2
    clear hz0 hz1 hz2 hzb
    by_cases hk12 : k < 12
    · have hki : (k : Int) < 12 := by omega
      have HO0 := Lib.hid ho0
      have HO1 := Lib.hid ho1
      have HO2 := Lib.hid ho2
      clear ho0 ho1 ho2
      go_wp2_with fail
      (with_reducible refine (HP.out _).mono ?_)
      rintro _ _ ⟨rfl, x, rfl⟩
      have hxs := x.size_le
      dsimp only
      go_wp2_with fail
      (with_reducible refine (HP.out _).mono ?_)
      rintro _ _ ⟨rfl, y, rfl⟩
      have hys := y.size_le
      have hyb : Below w.heap.size w y.w := by (repeat' (first | (with_reducible first | apply Zl1 | apply Zl2 | apply Zl3 | apply Zl4 | apply Zl5 | apply Zl6 | apply Zl7 | apply Zl8 | apply Zl9 | apply Zla | apply Zlb | apply Zlc) | (dsimp only; with_reducible first | apply Zl8 | apply Zl2 | apply Zld) | with_reducible assumption | omega | (dsimp only; omega)))
      have HY0 := Lib.hid (obj_bel y (obj_bel x HO0.out))
      have HY1 := Lib.hid (obj_bel y (obj_bel x HO1.out))
      have HY2 := Lib.hid (obj_bel y (obj_bel x HO2.out))
      generalize y.w = Y2 at *
      clear HO0 HO1 HO2
      dsimp only
      go_wp2_with (refine wpList_stT rfl _ _ rfl (w.heap.size + 2) k (fillC zC (p0, p0) k) _ p0.n p0.d p0.n p0.d hk12 _ (by omega) rfl rfl HY2.out (fun W' hW' => ?_))
      have hb' := hW'.below hyb (by omega)
      have ho0 := hW'.obj (by omega) HY0.out
      have ho1 := hW'.obj (by omega) HY1.out
      have ho2 := hW'.b
      clear HY0 HY1 HY2 hW' hyb
      go_wp2
      go_roundw
      case rel => exact ⟨k + 1, by omega, by go_num, ho0, ho1, ho2, hb'⟩
      case measure => simp [intOf]; omega
    · obtain rfl : k = 12 := by omega
      have HO0 := Lib.hid ho0
      have HO1 := Lib.hid ho1
      have HO2 := Lib.hid ho2
      obtain ⟨C, hC⟩ : ∃ C, fillC zC (p0, p0) 12 = C := ⟨_, rfl⟩
      rw [hC] at HO2 HR
      clear ho0 ho1 ho2 hk12 hk hC
      rw [show ((12 : Nat) : Int) = 12 from rfl]
      go_wp2_with fail
      go_loopw [20] (fun iv wr => ∃ k : Nat, k ≤ l.length ∧ iv = .int .i64 (k : Int) ∧ wr.heap[w.heap.size]? = some (.cells #[.int .i64 t1, .int .i64 t2, .int .i64 t3, .int .i64 t4] 34) ∧ wr.heap[w.heap.size + 1]? = some (.cells (cirA zC) 36) ∧
        wr.heap[w.heap.size + 2]? = some (.cells (cirA (temC C (⟨t1, t2⟩, ⟨t3, t4⟩) (l.take k))) 36) ∧ Below w.heap.size w wr) (fun iv _ => l.length - (intOf iv).toNat)
      case atStart => exact ⟨0, by omega, rfl, HO0.out, HO1.out, HO2.out, hB⟩
      case round =>
        obtain ⟨k, hk, rfl, ho0, ho1, ho2, hB2⟩ := hrel
        have hbs2 := hB2.size
        have hl22 := obj_lt ho2
        clear HO0 HO1 HO2 hB
        by_cases hkl : k < l.length
        · have f1 : decide ((k : Int) < (l.length : Int)) = true := decide_eq_true (by omega)
          have hib : (0 ≤ (k : Int) ∧ (k : Int) < (l.length : Int)) := ⟨by omega, by omega⟩
          obtain ⟨i, hi⟩ : ∃ i, l[k]? = some i := ⟨_, List.getElem?_eq_getElem hkl⟩
          have hi12 := HL.out i (List.mem_of_getElem? hi)
          have HTK : Hid (temC C (⟨t1, t2⟩, ⟨t3, t4⟩) (l.take (k + 1)) = upd (temC C (⟨t1, t2⟩, ⟨t3, t4⟩) (l.take k)) i (⟨t1, t2⟩, ⟨t3, t4⟩)) := Lib.hid (by rw [List.take_add_one, hi]; exact temC_snoc _ _ _ _)
          obtain ⟨b1, o1, e1, hc1⟩ := HVA.out (by omega)
          have x0 := cell_carry hB2 (hc1 k _ (natVs_get hi))
          subst e1
          have hii : (0 ≤ (i : Int) ∧ (i : Int) < 12) := ⟨by omega, by omega⟩
          have hii2 : (i : Int) < 12 := by omega
          generalize temC C (⟨t1, t2⟩, ⟨t3, t4⟩) (l.take k) = TC at *
          obtain ⟨q0, q1, q2, q3⟩ := cells4 ho0
          have HO0 := Lib.hid ho0
          have HO1 := Lib.hid ho1
          have HO2 := Lib.hid ho2
          clear ho0 ho1 ho2 hi hc1
          go_wp2_with (refine wpList_stT rfl _ _ rfl (w.heap.size + 2) i TC _ t1 t2 t3 t4 hi12 _ (by omega) rfl rfl HO2.out (fun W' hW' => ?_))
          have hb' := hW'.below hB2 (by omega)
          have ho0 := hW'.obj (by omega) HO0.out
          have ho1 := hW'.obj (by omega) HO1.out
          have ho2 := hW'.b
          clear HO0 HO1 HO2 hW' hB2 x0 q0 q1 q2 q3
          go_wp2
          go_roundw
          case rel => exact ⟨k + 1, by omega, by go_num, ho0, ho1, by rw [HTK.out]; exact ho2, hb'⟩
          case measure => simp [intOf]; omega
        · obtain rfl : k = l.length := by omega
          have f1 : decide ((l.length : Int) < (l.length : Int)) = false := decide_eq_false (by omega)
          rw [List.take_length] at ho2
          have HO0 := Lib.hid ho0
          have HO1 := Lib.hid ho1
          have HO2 := Lib.hid ho2
          rw [← HR.out] at HO2
          clear ho0 ho1 ho2
          go_wp2_with (first | refine wpList_ldC rfl _ rfl _ rfl (cirA R) HO2.out (cirA_size _) ?_ | refine wpList_stC rfl _ _ rfl (w.heap.size + 1) (cirA R) rfl rfl (cirA zC) _ HO1.out (cirA_size _) (cirA_size _) (cirA_one _) (fun W' hW' => ?_))
          have hb' := hW'.below hB2 (by omega)
          have hcr := hW'.b
          clear HO0 HO1 HO2 hW' hB2
          go_wp2_with fail
          refine ret_obj (b := w.heap.size + 1) hcr (fun W2 h2 => by
            have hl := cir_load h2
            simp [results, Tryz.results133, Act.put, Sem.run_bind, asAddr, hl]) rfl (Ret.mk rfl hb')
end Go.Proofs.YtehgeoipbgpocaaGreatDoor
