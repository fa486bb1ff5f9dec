/- The walk of MinimizeErrors. -/
import Derived.Test.YtlnedapimmabdaaGreatDoorYm
import Derived.Test.YtlnedapimmabdaaGreatDoorVw
import Derived.Laws.StructEq
namespace Go.Proofs.YtlnedapimmabdaaGreatDoor
set_option linter.unusedVariables false
set_option linter.unusedSimpArgs false
open Go.RowKit Go.Maps
attribute [local go_sem low] Bel.cell Bel.frozen alloc_cell alloc_frozen
attribute [local go_sem] calmOp chainOp yieldsC grows

theorem guard_cnt (x y : Operand) (xs ys : Array Value) (w : World) : (eqGuard .eql 57 x y (.agg xs) (.agg ys)).run Tryz.prog w = .ok () w := run_eqGuard_agg w _ _ _ _ _ _ (by kernel_rfl)
theorem cntE_stood : Tryz.prog.stoodInHeld 57 = false := by kernel_rfl
theorem cntE_under : Tryz.prog.underlying 57 = some (.struct (Tryz.prog.fieldsOf 57)) := by kernel_rfl
theorem cnt_same (w : World) : (binOp .eql 57 (.agg #[.int .i64 0, .int .i64 0, .int .i64 0, .int .i64 0, .int .i64 0, .int .i64 0, .int .i64 0]) (.agg #[.int .i64 0, .int .i64 0, .int .i64 0, .int .i64 0, .int .i64 0, .int .i64 0, .int .i64 0])).run Tryz.prog w = .ok (.bool true) w := by
  have e : ∀ (a b : Int) (w : World), (Op.equalIn 9999 3 (.int .i64 a) (.int .i64 b)).run Tryz.prog w = .ok (a == b) w := fun a b w => run_equalIn_int w 9998 3 .i64 .i64 a b Tryz.underlying3
  rw [run_eql_struct, run_equalIn_agg w 9999 57 _ _ cntE_under cntE_stood]
  simp [Program.fieldsOf, Tryz.underlying57, Op.eqFields, part, e]
set_option maxRecDepth 100000 in
set_option maxHeartbeats 12800000 in
theorem lawErrors_out (n m n2 m2 : Nat) (v : Int) (ga oa gb ob : Option Addr) (gc oc gd od : Nat) (w : World) (hT : Tab w) (hx : 16 < n ∨ 16 < n2 ∨ 8 < m ∨ 8 < m2 ∨ 4096 < v) : Calls Tryz.prog 10 #[.agg #[.slice ga n gc, .slice oa m oc], .agg #[.slice gb n2 gd, .slice ob m2 od], .int .i64 v] w (Ret (.bool true) w) := by
  have HT := Lib.hid hT
  clear hT
  go_enter Tryz.func10, Tryz.ntmps10
  go_wp2_with fail
  have hB : Below w.heap.size w ((w.alloc (.cells #[.slice ga n gc, .slice oa m oc] 25 (0, 0))).alloc (.cells #[.slice gb n2 gd, .slice ob m2 od] 25 (0, 0))) := (((Below.refl w.heap.size w).alloc (Nat.le_refl _) _).alloc (le_alloc (Nat.le_refl _)) _)
  have xb := obj_alloc (.cells #[.slice gb n2 gd, .slice ob m2 od] 25 (0, 0)) (World.alloc_heap_new w (.cells #[.slice ga n gc, .slice oa m oc] 25 (0, 0)))
  have yb := newAt1 w (.cells #[.slice ga n gc, .slice oa m oc] 25 (0, 0)) (.cells #[.slice gb n2 gd, .slice ob m2 od] 25 (0, 0))
  obtain ⟨V1, hV⟩ : ∃ V, ((w.alloc (.cells #[.slice ga n gc, .slice oa m oc] 25 (0, 0))).alloc (.cells #[.slice gb n2 gd, .slice ob m2 od] 25 (0, 0))) = V := ⟨_, rfl⟩
  rw [hV] at hB xb yb ⊢
  clear hV
  refine (known_any _ (HT.out.of hB)).mono ?_
  rintro _ _ ⟨rfl, y, rfl⟩
  have hbk := y.below
  replace xb := obj_in hbk xb
  replace yb := obj_in hbk yb
  replace hB := hB.trans (hbk.mono hB.size)
  clear hbk
  obtain ⟨V2, hV⟩ : ∃ V, y.w = V := ⟨_, rfl⟩
  rw [hV] at hB xb yb ⊢
  clear hV
  obtain ⟨x0, x1, -⟩ := box2 xb
  obtain ⟨y0, y1, -⟩ := box2 yb
  dsimp only
  by_cases h0 : 16 < n
  · have f0 : decide ((16 : Int) < (n : Int)) = true := decide_eq_true (by omega)
    clear hx h0
    go_wp2_with fail
    refine (known_any _ (HT.out.of hB)).mono ?_
    rintro _ _ ⟨rfl, yz, rfl⟩
    dsimp only
    go_wp2
    go_ret
    exact Ret.mk rfl (hB.trans (yz.below.mono hB.size))
  have f0 : decide ((16 : Int) < (n : Int)) = false := decide_eq_false (by omega)
  by_cases h1 : 16 < n2
  · have f1 : decide ((16 : Int) < (n2 : Int)) = true := decide_eq_true (by omega)
    clear hx h1
    go_wp2_with fail
    refine (known_any _ (HT.out.of hB)).mono ?_
    rintro _ _ ⟨rfl, yz, rfl⟩
    dsimp only
    go_wp2
    go_ret
    exact Ret.mk rfl (hB.trans (yz.below.mono hB.size))
  have f1 : decide ((16 : Int) < (n2 : Int)) = false := decide_eq_false (by omega)
  by_cases h2 : 8 < m
  · have f2 : decide ((8 : Int) < (m : Int)) = true := decide_eq_true (by omega)
    clear hx h2
    go_wp2_with fail
    refine (known_any _ (HT.out.of hB)).mono ?_
    rintro _ _ ⟨rfl, yz, rfl⟩
    dsimp only
    go_wp2
    go_ret
    exact Ret.mk rfl (hB.trans (yz.below.mono hB.size))
  have f2 : decide ((8 : Int) < (m : Int)) = false := decide_eq_false (by omega)
  by_cases h3 : 8 < m2
  · have f3 : decide ((8 : Int) < (m2 : Int)) = true := decide_eq_true (by omega)
    clear hx h3
    go_wp2_with fail
    refine (known_any _ (HT.out.of hB)).mono ?_
    rintro _ _ ⟨rfl, yz, rfl⟩
    dsimp only
    go_wp2
    go_ret
    exact Ret.mk rfl (hB.trans (yz.below.mono hB.size))
  have f3 : decide ((8 : Int) < (m2 : Int)) = false := decide_eq_false (by omega)
  have f4 : decide ((4096 : Int) < v) = true := decide_eq_true (by omega)
  clear hx h0 h1 h2 h3
  go_wp2_with fail
  refine (known_any _ (HT.out.of hB)).mono ?_
  rintro _ _ ⟨rfl, yz, rfl⟩
  dsimp only
  go_wp2
  go_ret
  exact Ret.mk rfl (hB.trans (yz.below.mono hB.size))
set_option maxRecDepth 100000 in
set_option maxHeartbeats 25600000 in
theorem lawErrors_walk (n m n2 m2 r r2 : Nat) (v : Int) (ga oa gb ob : Option Addr) (gc oc gd od : Nat) (w : World) (hT : Tab w) (h1 : n ≤ 16) (h2 : n2 ≤ 16) (h3 : m ≤ 8) (h4 : m2 ≤ 8) (h5 : v ≤ 4096)
    (ck : ∀ w', Below w.heap.size w w' → Calls Tryz.prog 29 #[.agg #[.slice ga n gc, .slice oa m oc], .int .i64 v] w' (Ret (.int .i64 (r : Int)) w'))
    (ck2 : ∀ w', Below w.heap.size w w' → Calls Tryz.prog 29 #[.agg #[.slice gb n2 gd, .slice ob m2 od], .int .i64 v] w' (Ret (.int .i64 (r2 : Int)) w'))
    (sz : ∀ w', Below w.heap.size w w' → Calls Tryz.prog 25 #[.agg #[.slice ga n gc, .slice oa m oc], .int .i64 v] w' (RetSz r w'))
    (su : ∀ w', Below w.heap.size w w' → Calls Tryz.prog 23 #[.agg #[.slice ga n gc, .slice oa m oc], .int .i64 v, .int .i64 (-1)] w' (Ret (.tuple #[.slice none 0 0, .int .i64 ((if r = 0 then 3 else r : Nat) : Int)]) w'))
    (di : ∀ w', Below w.heap.size w w' → Calls Tryz.prog 22 #[.agg #[.slice ga n gc, .slice oa m oc], .int .i64 v] w' (RetDi r w'))
    (cl : ∀ w', Below w.heap.size w w' → Calls Tryz.prog 13 #[.agg #[.slice ga n gc, .slice oa m oc], .int .i64 v] w' (RetNr r w'))
    (re : ∀ w', Below w.heap.size w w' → Calls Tryz.prog 16 #[.agg #[.slice ga n gc, .slice oa m oc], .int .i64 v] w' (RetNr r w'))
    (eq : ∀ w', Below w.heap.size w w' → Calls Tryz.prog 18 #[.agg #[.slice ga n gc, .slice oa m oc], .agg #[.slice gb n2 gd, .slice ob m2 od], .int .i64 v] w' (RetEr (if r ≠ 0 then r else if r2 ≠ 0 then r2 else if m ≠ m2 then 5 else 0) w'))
    (cm : ∀ w', Below w.heap.size w w' → Calls Tryz.prog 19 #[.agg #[.slice ga n gc, .slice oa m oc], .agg #[.slice gb n2 gd, .slice ob m2 od], .int .i64 v] w' (RetCr (if r ≠ 0 then r else if r2 ≠ 0 then r2 else if m ≠ m2 then 5 else 0) w')) : Calls Tryz.prog 10 #[.agg #[.slice ga n gc, .slice oa m oc], .agg #[.slice gb n2 gd, .slice ob m2 od], .int .i64 v] w (Ret (.bool true) w) := by
  have HT := Lib.hid hT
  have f0 : decide ((16 : Int) < (n : Int)) = false := decide_eq_false (by omega)
  have f1 : decide ((16 : Int) < (n2 : Int)) = false := decide_eq_false (by omega)
  have f2 : decide ((8 : Int) < (m : Int)) = false := decide_eq_false (by omega)
  have f3 : decide ((8 : Int) < (m2 : Int)) = false := decide_eq_false (by omega)
  have f4 : decide ((4096 : Int) < v) = false := decide_eq_false (by omega)
  clear hT h1 h2 h3 h4 h5
  have CK := Lib.hid ck
  have CK2 := Lib.hid ck2
  clear ck ck2
  go_enter Tryz.func10, Tryz.ntmps10
  go_wp2_with fail
  have hB : Below w.heap.size w ((w.alloc (.cells #[.slice ga n gc, .slice oa m oc] 25 (0, 0))).alloc (.cells #[.slice gb n2 gd, .slice ob m2 od] 25 (0, 0))) := (((Below.refl w.heap.size w).alloc (Nat.le_refl _) _).alloc (le_alloc (Nat.le_refl _)) _)
  have xb := obj_alloc (.cells #[.slice gb n2 gd, .slice ob m2 od] 25 (0, 0)) (World.alloc_heap_new w (.cells #[.slice ga n gc, .slice oa m oc] 25 (0, 0)))
  have yb := newAt1 w (.cells #[.slice ga n gc, .slice oa m oc] 25 (0, 0)) (.cells #[.slice gb n2 gd, .slice ob m2 od] 25 (0, 0))
  obtain ⟨V3, hV⟩ : ∃ V, ((w.alloc (.cells #[.slice ga n gc, .slice oa m oc] 25 (0, 0))).alloc (.cells #[.slice gb n2 gd, .slice ob m2 od] 25 (0, 0))) = V := ⟨_, rfl⟩
  rw [hV] at hB xb yb ⊢
  clear hV
  refine (known_any _ (HT.out.of hB)).mono ?_
  rintro _ _ ⟨rfl, y, rfl⟩
  have hbk := y.below
  replace xb := obj_in hbk xb
  replace yb := obj_in hbk yb
  replace hB := hB.trans (hbk.mono hB.size)
  clear hbk
  obtain ⟨V4, hV⟩ : ∃ V, y.w = V := ⟨_, rfl⟩
  rw [hV] at hB xb yb ⊢
  clear hV
  obtain ⟨x0, x1, -⟩ := box2 xb
  obtain ⟨y0, y1, -⟩ := box2 yb
  dsimp only
  go_wp2_with fail
  clear x0 x1 y0 y1
  refine (CK.out _ hB).mono ?_
  rintro _ _ ⟨rfl, y, rfl⟩
  have hbk := y.below
  replace xb := obj_in hbk xb
  replace yb := obj_in hbk yb
  replace hB := hB.trans (hbk.mono hB.size)
  clear hbk
  obtain ⟨V5, hV⟩ : ∃ V, y.w = V := ⟨_, rfl⟩
  rw [hV] at hB xb yb ⊢
  clear hV
  dsimp only
  obtain ⟨x0, x1, -⟩ := box2 xb
  obtain ⟨y0, y1, -⟩ := box2 yb
  by_cases hr : r ≠ 0
  · rw [if_pos hr] at eq cm
    rw [if_neg hr] at su
    have HR := Lib.hid hr
    have HZ := Lib.hid hr
    have g0 : ((r : Int) == 0) = false := by simp; omega
    clear hr
    have SZ := Lib.hid sz
    have SU := Lib.hid su
    have DI := Lib.hid di
    have CL := Lib.hid cl
    have RE := Lib.hid re
    have EQ := Lib.hid eq
    have CM := Lib.hid cm
    clear sz su di cl re eq cm
    go_wp2_with fail
    clear x0 x1 y0 y1
    refine (SZ.out _ hB).mono ?_
    rintro _ V6 ⟨a0, a1, a2, a3, a4, a5, a6, rfl, hz, hbk⟩
    replace xb := obj_in hbk xb
    replace yb := obj_in hbk yb
    replace hB := hB.trans (hbk.mono hB.size)
    clear hbk
    dsimp only
    obtain ⟨rfl, rfl, rfl, rfl, rfl, rfl, rfl⟩ := hz HR.out
    obtain ⟨x0, x1, -⟩ := box2 xb
    obtain ⟨y0, y1, -⟩ := box2 yb
    go_wp2_with fail
    clear x0 x1 y0 y1
    have hbk : Below V6.heap.size V6 (V6.alloc (.cells #[.int .i64 0, .int .i64 0, .int .i64 0, .int .i64 0, .int .i64 0, .int .i64 0, .int .i64 0] 57 (0, 0))) := (Below.refl _ _).alloc (Nat.le_refl _) _
    replace xb := obj_in hbk xb
    replace yb := obj_in hbk yb
    replace hB := hB.trans (hbk.mono hB.size)
    clear hbk
    have ab := World.alloc_heap_new V6 (.cells #[.int .i64 0, .int .i64 0, .int .i64 0, .int .i64 0, .int .i64 0, .int .i64 0, .int .i64 0] 57 (0, 0))
    obtain ⟨V7, hV⟩ : ∃ V, (V6.alloc (.cells #[.int .i64 0, .int .i64 0, .int .i64 0, .int .i64 0, .int .i64 0, .int .i64 0, .int .i64 0] 57 (0, 0))) = V := ⟨_, rfl⟩
    rw [hV] at hB xb yb ab ⊢
    clear hV
    refine (SU.out _ hB).mono ?_
    rintro _ _ ⟨rfl, y, rfl⟩
    have hbk := y.below
    replace xb := obj_in hbk xb
    replace yb := obj_in hbk yb
    replace ab := obj_in hbk ab
    replace hB := hB.trans (hbk.mono hB.size)
    clear hbk
    obtain ⟨V8, hV⟩ : ∃ V, y.w = V := ⟨_, rfl⟩
    rw [hV] at hB xb yb ab ⊢
    clear hV
    dsimp only
    obtain ⟨x0, x1, -⟩ := box2 xb
    obtain ⟨y0, y1, -⟩ := box2 yb
    go_wp2_with fail
    clear x0 x1 y0 y1
    refine (DI.out _ hB).mono ?_
    rintro _ V9 ⟨da, dn, dc, rfl, hz, hbk⟩
    replace xb := obj_in hbk xb
    replace yb := obj_in hbk yb
    replace ab := obj_in hbk ab
    replace hB := hB.trans (hbk.mono hB.size)
    clear hbk
    dsimp only
    obtain rfl := hz HR.out
    obtain ⟨x0, x1, -⟩ := box2 xb
    obtain ⟨y0, y1, -⟩ := box2 yb
    go_wp2_with fail
    clear x0 x1 y0 y1
    refine (CL.out _ hB).mono ?_
    rintro _ V10 ⟨ca, cn, cc, cb, cm, cd, rfl, hz, hbk⟩
    replace xb := obj_in hbk xb
    replace yb := obj_in hbk yb
    replace ab := obj_in hbk ab
    replace hB := hB.trans (hbk.mono hB.size)
    clear hbk
    dsimp only
    obtain rfl := hz HR.out
    obtain ⟨x0, x1, -⟩ := box2 xb
    obtain ⟨y0, y1, -⟩ := box2 yb
    go_wp2_with fail
    clear x0 x1 y0 y1
    have hbk : Below V10.heap.size V10 (V10.alloc (.cells #[.slice ca 0 cc, .slice cb cm cd] 25 (0, 0))) := (Below.refl _ _).alloc (Nat.le_refl _) _
    replace xb := obj_in hbk xb
    replace yb := obj_in hbk yb
    replace ab := obj_in hbk ab
    replace hB := hB.trans (hbk.mono hB.size)
    clear hbk
    have cb1 := World.alloc_heap_new V10 (.cells #[.slice ca 0 cc, .slice cb cm cd] 25 (0, 0))
    obtain ⟨V11, hV⟩ : ∃ V, (V10.alloc (.cells #[.slice ca 0 cc, .slice cb cm cd] 25 (0, 0))) = V := ⟨_, rfl⟩
    rw [hV] at hB xb yb ab cb1 ⊢
    clear hV
    refine (RE.out _ hB).mono ?_
    rintro _ V12 ⟨ea, en, ec, eb, em, ed, rfl, hz, hbk⟩
    replace xb := obj_in hbk xb
    replace yb := obj_in hbk yb
    replace ab := obj_in hbk ab
    replace cb1 := obj_in hbk cb1
    replace hB := hB.trans (hbk.mono hB.size)
    clear hbk
    dsimp only
    obtain rfl := hz HR.out
    obtain ⟨x0, x1, -⟩ := box2 xb
    obtain ⟨y0, y1, -⟩ := box2 yb
    go_wp2_with fail
    clear x0 x1 y0 y1
    have hbk : Below V12.heap.size V12 (V12.alloc (.cells #[.slice ea 0 ec, .slice eb em ed] 25 (0, 0))) := (Below.refl _ _).alloc (Nat.le_refl _) _
    replace xb := obj_in hbk xb
    replace yb := obj_in hbk yb
    replace ab := obj_in hbk ab
    replace cb1 := obj_in hbk cb1
    replace hB := hB.trans (hbk.mono hB.size)
    clear hbk
    have eb1 := World.alloc_heap_new V12 (.cells #[.slice ea 0 ec, .slice eb em ed] 25 (0, 0))
    obtain ⟨V13, hV⟩ : ∃ V, (V12.alloc (.cells #[.slice ea 0 ec, .slice eb em ed] 25 (0, 0))) = V := ⟨_, rfl⟩
    rw [hV] at hB xb yb ab cb1 eb1 ⊢
    clear hV
    refine (EQ.out _ hB).mono ?_
    rintro _ V14 ⟨q, rfl, hz, hbk⟩
    replace xb := obj_in hbk xb
    replace yb := obj_in hbk yb
    replace ab := obj_in hbk ab
    replace cb1 := obj_in hbk cb1
    replace eb1 := obj_in hbk eb1
    replace hB := hB.trans (hbk.mono hB.size)
    clear hbk
    dsimp only
    obtain rfl := hz HZ.out
    obtain ⟨x0, x1, -⟩ := box2 xb
    obtain ⟨y0, y1, -⟩ := box2 yb
    go_wp2_with fail
    clear x0 x1 y0 y1
    refine (CM.out _ hB).mono ?_
    rintro _ V15 ⟨ka, kb, kn, kc, q2, rfl, hz, hbk⟩
    replace xb := obj_in hbk xb
    replace yb := obj_in hbk yb
    replace ab := obj_in hbk ab
    replace cb1 := obj_in hbk cb1
    replace eb1 := obj_in hbk eb1
    replace hB := hB.trans (hbk.mono hB.size)
    clear hbk
    dsimp only
    obtain ⟨rfl, rfl⟩ := hz HZ.out
    have hbk : Below V15.heap.size V15 (V15.alloc (.cells #[.int .i64 ka, .slice kb 0 kc] 37 (0, 0))) := (Below.refl _ _).alloc (Nat.le_refl _) _
    have hBD := hB.trans (hbk.mono hB.size)
    have db := World.alloc_heap_new V15 (.cells #[.int .i64 ka, .slice kb 0 kc] 37 (0, 0))
    have ab2 := obj_in hbk ab
    have cb2 := obj_in hbk cb1
    have eb2 := obj_in hbk eb1
    clear hbk
    obtain ⟨d0, d1, -⟩ := box2 db
    obtain ⟨c0, c1, -⟩ := box2 cb2
    obtain ⟨e0, e1, -⟩ := box2 eb2
    obtain ⟨⟨q0, q1, q2, q3, q4, q5, q6⟩, p0, p1, p2, p3, p4, p5, p6⟩ := cell7 ab2
    have hcs := cnt_same
    have hgd := guard_cnt
    clear db ab2 cb2 eb2
    go_wp2_with fail
    go_ret
    exact Ret.mk rfl hBD
  obtain rfl : r = 0 := by omega
  rw [if_neg hr] at eq cm
  rw [if_pos rfl] at su
  clear hr
  by_cases hr2 : r2 ≠ 0
  · rw [if_pos hr2] at eq cm
    have g1 : ((r2 : Int) == 0) = false := by simp; omega
    have HZ := Lib.hid hr2
    clear hr2
    have SZ := Lib.hid sz
    have SU := Lib.hid su
    have DI := Lib.hid di
    have CL := Lib.hid cl
    have RE := Lib.hid re
    have EQ := Lib.hid eq
    have CM := Lib.hid cm
    clear sz su di cl re eq cm
    go_wp2_with fail
    clear x0 x1 y0 y1
    refine (CK2.out _ hB).mono ?_
    rintro _ _ ⟨rfl, y, rfl⟩
    have hbk := y.below
    replace xb := obj_in hbk xb
    replace yb := obj_in hbk yb
    replace hB := hB.trans (hbk.mono hB.size)
    clear hbk
    obtain ⟨V16, hV⟩ : ∃ V, y.w = V := ⟨_, rfl⟩
    rw [hV] at hB xb yb ⊢
    clear hV
    dsimp only
    obtain ⟨x0, x1, -⟩ := box2 xb
    obtain ⟨y0, y1, -⟩ := box2 yb
    go_wp2_with fail
    clear x0 x1 y0 y1
    refine (SZ.out _ hB).mono ?_
    rintro _ V17 ⟨a0, a1, a2, a3, a4, a5, a6, rfl, hz, hbk⟩
    replace xb := obj_in hbk xb
    replace yb := obj_in hbk yb
    replace hB := hB.trans (hbk.mono hB.size)
    clear hbk
    dsimp only
    clear hz
    obtain ⟨x0, x1, -⟩ := box2 xb
    obtain ⟨y0, y1, -⟩ := box2 yb
    go_wp2_with fail
    clear x0 x1 y0 y1
    have hbk : Below V17.heap.size V17 (V17.alloc (.cells #[.int .i64 a0, .int .i64 a1, .int .i64 a2, .int .i64 a3, .int .i64 a4, .int .i64 a5, .int .i64 a6] 57 (0, 0))) := (Below.refl _ _).alloc (Nat.le_refl _) _
    replace xb := obj_in hbk xb
    replace yb := obj_in hbk yb
    replace hB := hB.trans (hbk.mono hB.size)
    clear hbk
    have ab := World.alloc_heap_new V17 (.cells #[.int .i64 a0, .int .i64 a1, .int .i64 a2, .int .i64 a3, .int .i64 a4, .int .i64 a5, .int .i64 a6] 57 (0, 0))
    obtain ⟨V18, hV⟩ : ∃ V, (V17.alloc (.cells #[.int .i64 a0, .int .i64 a1, .int .i64 a2, .int .i64 a3, .int .i64 a4, .int .i64 a5, .int .i64 a6] 57 (0, 0))) = V := ⟨_, rfl⟩
    rw [hV] at hB xb yb ab ⊢
    clear hV
    refine (SU.out _ hB).mono ?_
    rintro _ _ ⟨rfl, y, rfl⟩
    have hbk := y.below
    replace xb := obj_in hbk xb
    replace yb := obj_in hbk yb
    replace ab := obj_in hbk ab
    replace hB := hB.trans (hbk.mono hB.size)
    clear hbk
    obtain ⟨V19, hV⟩ : ∃ V, y.w = V := ⟨_, rfl⟩
    rw [hV] at hB xb yb ab ⊢
    clear hV
    dsimp only
    obtain ⟨x0, x1, -⟩ := box2 xb
    obtain ⟨y0, y1, -⟩ := box2 yb
    go_wp2_with fail
    clear x0 x1 y0 y1
    refine (DI.out _ hB).mono ?_
    rintro _ V20 ⟨da, dn, dc, rfl, hz, hbk⟩
    replace xb := obj_in hbk xb
    replace yb := obj_in hbk yb
    replace ab := obj_in hbk ab
    replace hB := hB.trans (hbk.mono hB.size)
    clear hbk
    dsimp only
    clear hz
    obtain ⟨x0, x1, -⟩ := box2 xb
    obtain ⟨y0, y1, -⟩ := box2 yb
    go_wp2_with fail
    clear x0 x1 y0 y1
    refine (CL.out _ hB).mono ?_
    rintro _ V21 ⟨ca, cn, cc, cb, cm, cd, rfl, hz, hbk⟩
    replace xb := obj_in hbk xb
    replace yb := obj_in hbk yb
    replace ab := obj_in hbk ab
    replace hB := hB.trans (hbk.mono hB.size)
    clear hbk
    dsimp only
    clear hz
    obtain ⟨x0, x1, -⟩ := box2 xb
    obtain ⟨y0, y1, -⟩ := box2 yb
    go_wp2_with fail
    clear x0 x1 y0 y1
    have hbk : Below V21.heap.size V21 (V21.alloc (.cells #[.slice ca cn cc, .slice cb cm cd] 25 (0, 0))) := (Below.refl _ _).alloc (Nat.le_refl _) _
    replace xb := obj_in hbk xb
    replace yb := obj_in hbk yb
    replace ab := obj_in hbk ab
    replace hB := hB.trans (hbk.mono hB.size)
    clear hbk
    have cb1 := World.alloc_heap_new V21 (.cells #[.slice ca cn cc, .slice cb cm cd] 25 (0, 0))
    obtain ⟨V22, hV⟩ : ∃ V, (V21.alloc (.cells #[.slice ca cn cc, .slice cb cm cd] 25 (0, 0))) = V := ⟨_, rfl⟩
    rw [hV] at hB xb yb ab cb1 ⊢
    clear hV
    refine (RE.out _ hB).mono ?_
    rintro _ V23 ⟨ea, en, ec, eb, em, ed, rfl, hz, hbk⟩
    replace xb := obj_in hbk xb
    replace yb := obj_in hbk yb
    replace ab := obj_in hbk ab
    replace cb1 := obj_in hbk cb1
    replace hB := hB.trans (hbk.mono hB.size)
    clear hbk
    dsimp only
    clear hz
    obtain ⟨x0, x1, -⟩ := box2 xb
    obtain ⟨y0, y1, -⟩ := box2 yb
    go_wp2_with fail
    clear x0 x1 y0 y1
    have hbk : Below V23.heap.size V23 (V23.alloc (.cells #[.slice ea en ec, .slice eb em ed] 25 (0, 0))) := (Below.refl _ _).alloc (Nat.le_refl _) _
    replace xb := obj_in hbk xb
    replace yb := obj_in hbk yb
    replace ab := obj_in hbk ab
    replace cb1 := obj_in hbk cb1
    replace hB := hB.trans (hbk.mono hB.size)
    clear hbk
    have eb1 := World.alloc_heap_new V23 (.cells #[.slice ea en ec, .slice eb em ed] 25 (0, 0))
    obtain ⟨V24, hV⟩ : ∃ V, (V23.alloc (.cells #[.slice ea en ec, .slice eb em ed] 25 (0, 0))) = V := ⟨_, rfl⟩
    rw [hV] at hB xb yb ab cb1 eb1 ⊢
    clear hV
    refine (EQ.out _ hB).mono ?_
    rintro _ V25 ⟨q, rfl, hz, hbk⟩
    replace xb := obj_in hbk xb
    replace yb := obj_in hbk yb
    replace ab := obj_in hbk ab
    replace cb1 := obj_in hbk cb1
    replace eb1 := obj_in hbk eb1
    replace hB := hB.trans (hbk.mono hB.size)
    clear hbk
    dsimp only
    obtain rfl := hz HZ.out
    obtain ⟨x0, x1, -⟩ := box2 xb
    obtain ⟨y0, y1, -⟩ := box2 yb
    go_wp2_with fail
    clear x0 x1 y0 y1
    refine (CM.out _ hB).mono ?_
    rintro _ V26 ⟨ka, kb, kn, kc, q2, rfl, hz, hbk⟩
    replace xb := obj_in hbk xb
    replace yb := obj_in hbk yb
    replace ab := obj_in hbk ab
    replace cb1 := obj_in hbk cb1
    replace eb1 := obj_in hbk eb1
    replace hB := hB.trans (hbk.mono hB.size)
    clear hbk
    dsimp only
    obtain ⟨rfl, rfl⟩ := hz HZ.out
    have hbk : Below V26.heap.size V26 (V26.alloc (.cells #[.int .i64 ka, .slice kb 0 kc] 37 (0, 0))) := (Below.refl _ _).alloc (Nat.le_refl _) _
    have hBD := hB.trans (hbk.mono hB.size)
    have db := World.alloc_heap_new V26 (.cells #[.int .i64 ka, .slice kb 0 kc] 37 (0, 0))
    have ab2 := obj_in hbk ab
    have cb2 := obj_in hbk cb1
    have eb2 := obj_in hbk eb1
    clear hbk
    obtain ⟨d0, d1, -⟩ := box2 db
    obtain ⟨c0, c1, -⟩ := box2 cb2
    obtain ⟨e0, e1, -⟩ := box2 eb2
    clear db ab2 cb2 eb2
    go_wp2_with fail
    go_ret
    exact Ret.mk rfl hBD
  obtain rfl : r2 = 0 := by omega
  rw [if_neg hr2] at eq cm
  clear hr2
  by_cases hm : m ≠ m2
  · rw [if_pos hm] at eq cm
    have HZ := Lib.hid (show (5 : Nat) ≠ 0 by decide)
    have g1 : ((m : Int) != (m2 : Int)) = true := by simp; omega
    clear hm
    have SZ := Lib.hid sz
    have SU := Lib.hid su
    have DI := Lib.hid di
    have CL := Lib.hid cl
    have RE := Lib.hid re
    have EQ := Lib.hid eq
    have CM := Lib.hid cm
    clear sz su di cl re eq cm
    go_wp2_with fail
    clear x0 x1 y0 y1
    refine (CK2.out _ hB).mono ?_
    rintro _ _ ⟨rfl, y, rfl⟩
    have hbk := y.below
    replace xb := obj_in hbk xb
    replace yb := obj_in hbk yb
    replace hB := hB.trans (hbk.mono hB.size)
    clear hbk
    obtain ⟨V27, hV⟩ : ∃ V, y.w = V := ⟨_, rfl⟩
    rw [hV] at hB xb yb ⊢
    clear hV
    dsimp only
    obtain ⟨x0, x1, -⟩ := box2 xb
    obtain ⟨y0, y1, -⟩ := box2 yb
    go_wp2_with fail
    clear x0 x1 y0 y1
    refine (SZ.out _ hB).mono ?_
    rintro _ V28 ⟨a0, a1, a2, a3, a4, a5, a6, rfl, hz, hbk⟩
    replace xb := obj_in hbk xb
    replace yb := obj_in hbk yb
    replace hB := hB.trans (hbk.mono hB.size)
    clear hbk
    dsimp only
    clear hz
    obtain ⟨x0, x1, -⟩ := box2 xb
    obtain ⟨y0, y1, -⟩ := box2 yb
    go_wp2_with fail
    clear x0 x1 y0 y1
    have hbk : Below V28.heap.size V28 (V28.alloc (.cells #[.int .i64 a0, .int .i64 a1, .int .i64 a2, .int .i64 a3, .int .i64 a4, .int .i64 a5, .int .i64 a6] 57 (0, 0))) := (Below.refl _ _).alloc (Nat.le_refl _) _
    replace xb := obj_in hbk xb
    replace yb := obj_in hbk yb
    replace hB := hB.trans (hbk.mono hB.size)
    clear hbk
    have ab := World.alloc_heap_new V28 (.cells #[.int .i64 a0, .int .i64 a1, .int .i64 a2, .int .i64 a3, .int .i64 a4, .int .i64 a5, .int .i64 a6] 57 (0, 0))
    obtain ⟨V29, hV⟩ : ∃ V, (V28.alloc (.cells #[.int .i64 a0, .int .i64 a1, .int .i64 a2, .int .i64 a3, .int .i64 a4, .int .i64 a5, .int .i64 a6] 57 (0, 0))) = V := ⟨_, rfl⟩
    rw [hV] at hB xb yb ab ⊢
    clear hV
    refine (SU.out _ hB).mono ?_
    rintro _ _ ⟨rfl, y, rfl⟩
    have hbk := y.below
    replace xb := obj_in hbk xb
    replace yb := obj_in hbk yb
    replace ab := obj_in hbk ab
    replace hB := hB.trans (hbk.mono hB.size)
    clear hbk
    obtain ⟨V30, hV⟩ : ∃ V, y.w = V := ⟨_, rfl⟩
    rw [hV] at hB xb yb ab ⊢
    clear hV
    dsimp only
    obtain ⟨x0, x1, -⟩ := box2 xb
    obtain ⟨y0, y1, -⟩ := box2 yb
    go_wp2_with fail
    clear x0 x1 y0 y1
    refine (DI.out _ hB).mono ?_
    rintro _ V31 ⟨da, dn, dc, rfl, hz, hbk⟩
    replace xb := obj_in hbk xb
    replace yb := obj_in hbk yb
    replace ab := obj_in hbk ab
    replace hB := hB.trans (hbk.mono hB.size)
    clear hbk
    dsimp only
    clear hz
    obtain ⟨x0, x1, -⟩ := box2 xb
    obtain ⟨y0, y1, -⟩ := box2 yb
    go_wp2_with fail
    clear x0 x1 y0 y1
    refine (CL.out _ hB).mono ?_
    rintro _ V32 ⟨ca, cn, cc, cb, cm, cd, rfl, hz, hbk⟩
    replace xb := obj_in hbk xb
    replace yb := obj_in hbk yb
    replace ab := obj_in hbk ab
    replace hB := hB.trans (hbk.mono hB.size)
    clear hbk
    dsimp only
    clear hz
    obtain ⟨x0, x1, -⟩ := box2 xb
    obtain ⟨y0, y1, -⟩ := box2 yb
    go_wp2_with fail
    clear x0 x1 y0 y1
    have hbk : Below V32.heap.size V32 (V32.alloc (.cells #[.slice ca cn cc, .slice cb cm cd] 25 (0, 0))) := (Below.refl _ _).alloc (Nat.le_refl _) _
    replace xb := obj_in hbk xb
    replace yb := obj_in hbk yb
    replace ab := obj_in hbk ab
    replace hB := hB.trans (hbk.mono hB.size)
    clear hbk
    have cb1 := World.alloc_heap_new V32 (.cells #[.slice ca cn cc, .slice cb cm cd] 25 (0, 0))
    obtain ⟨V33, hV⟩ : ∃ V, (V32.alloc (.cells #[.slice ca cn cc, .slice cb cm cd] 25 (0, 0))) = V := ⟨_, rfl⟩
    rw [hV] at hB xb yb ab cb1 ⊢
    clear hV
    refine (RE.out _ hB).mono ?_
    rintro _ V34 ⟨ea, en, ec, eb, em, ed, rfl, hz, hbk⟩
    replace xb := obj_in hbk xb
    replace yb := obj_in hbk yb
    replace ab := obj_in hbk ab
    replace cb1 := obj_in hbk cb1
    replace hB := hB.trans (hbk.mono hB.size)
    clear hbk
    dsimp only
    clear hz
    obtain ⟨x0, x1, -⟩ := box2 xb
    obtain ⟨y0, y1, -⟩ := box2 yb
    go_wp2_with fail
    clear x0 x1 y0 y1
    have hbk : Below V34.heap.size V34 (V34.alloc (.cells #[.slice ea en ec, .slice eb em ed] 25 (0, 0))) := (Below.refl _ _).alloc (Nat.le_refl _) _
    replace xb := obj_in hbk xb
    replace yb := obj_in hbk yb
    replace ab := obj_in hbk ab
    replace cb1 := obj_in hbk cb1
    replace hB := hB.trans (hbk.mono hB.size)
    clear hbk
    have eb1 := World.alloc_heap_new V34 (.cells #[.slice ea en ec, .slice eb em ed] 25 (0, 0))
    obtain ⟨V35, hV⟩ : ∃ V, (V34.alloc (.cells #[.slice ea en ec, .slice eb em ed] 25 (0, 0))) = V := ⟨_, rfl⟩
    rw [hV] at hB xb yb ab cb1 eb1 ⊢
    clear hV
    refine (EQ.out _ hB).mono ?_
    rintro _ V36 ⟨q, rfl, hz, hbk⟩
    replace xb := obj_in hbk xb
    replace yb := obj_in hbk yb
    replace ab := obj_in hbk ab
    replace cb1 := obj_in hbk cb1
    replace eb1 := obj_in hbk eb1
    replace hB := hB.trans (hbk.mono hB.size)
    clear hbk
    dsimp only
    obtain rfl := hz HZ.out
    obtain ⟨x0, x1, -⟩ := box2 xb
    obtain ⟨y0, y1, -⟩ := box2 yb
    go_wp2_with fail
    clear x0 x1 y0 y1
    refine (CM.out _ hB).mono ?_
    rintro _ V37 ⟨ka, kb, kn, kc, q2, rfl, hz, hbk⟩
    replace xb := obj_in hbk xb
    replace yb := obj_in hbk yb
    replace ab := obj_in hbk ab
    replace cb1 := obj_in hbk cb1
    replace eb1 := obj_in hbk eb1
    replace hB := hB.trans (hbk.mono hB.size)
    clear hbk
    dsimp only
    obtain ⟨rfl, rfl⟩ := hz HZ.out
    have hbk : Below V37.heap.size V37 (V37.alloc (.cells #[.int .i64 ka, .slice kb 0 kc] 37 (0, 0))) := (Below.refl _ _).alloc (Nat.le_refl _) _
    have hBD := hB.trans (hbk.mono hB.size)
    have db := World.alloc_heap_new V37 (.cells #[.int .i64 ka, .slice kb 0 kc] 37 (0, 0))
    have ab2 := obj_in hbk ab
    have cb2 := obj_in hbk cb1
    have eb2 := obj_in hbk eb1
    clear hbk
    obtain ⟨d0, d1, -⟩ := box2 db
    obtain ⟨c0, c1, -⟩ := box2 cb2
    obtain ⟨e0, e1, -⟩ := box2 eb2
    clear db ab2 cb2 eb2
    go_wp2_with fail
    go_ret
    exact Ret.mk rfl hBD
  have g1 : ((m : Int) != (m2 : Int)) = false := by simp; omega
  rw [if_neg hm] at eq cm
  clear hm
  have SZ := Lib.hid sz
  have SU := Lib.hid su
  have DI := Lib.hid di
  have CL := Lib.hid cl
  have RE := Lib.hid re
  have EQ := Lib.hid eq
  have CM := Lib.hid cm
  clear sz su di cl re eq cm
  go_wp2_with fail
  clear x0 x1 y0 y1
  refine (CK2.out _ hB).mono ?_
  rintro _ _ ⟨rfl, y, rfl⟩
  have hbk := y.below
  replace xb := obj_in hbk xb
  replace yb := obj_in hbk yb
  replace hB := hB.trans (hbk.mono hB.size)
  clear hbk
  obtain ⟨V38, hV⟩ : ∃ V, y.w = V := ⟨_, rfl⟩
  rw [hV] at hB xb yb ⊢
  clear hV
  dsimp only
  obtain ⟨x0, x1, -⟩ := box2 xb
  obtain ⟨y0, y1, -⟩ := box2 yb
  go_wp2_with fail
  clear x0 x1 y0 y1
  refine (SZ.out _ hB).mono ?_
  rintro _ V39 ⟨a0, a1, a2, a3, a4, a5, a6, rfl, hz, hbk⟩
  replace xb := obj_in hbk xb
  replace yb := obj_in hbk yb
  replace hB := hB.trans (hbk.mono hB.size)
  clear hbk
  dsimp only
  clear hz
  obtain ⟨x0, x1, -⟩ := box2 xb
  obtain ⟨y0, y1, -⟩ := box2 yb
  go_wp2_with fail
  clear x0 x1 y0 y1
  have hbk : Below V39.heap.size V39 (V39.alloc (.cells #[.int .i64 a0, .int .i64 a1, .int .i64 a2, .int .i64 a3, .int .i64 a4, .int .i64 a5, .int .i64 a6] 57 (0, 0))) := (Below.refl _ _).alloc (Nat.le_refl _) _
  replace xb := obj_in hbk xb
  replace yb := obj_in hbk yb
  replace hB := hB.trans (hbk.mono hB.size)
  clear hbk
  have ab := World.alloc_heap_new V39 (.cells #[.int .i64 a0, .int .i64 a1, .int .i64 a2, .int .i64 a3, .int .i64 a4, .int .i64 a5, .int .i64 a6] 57 (0, 0))
  obtain ⟨V40, hV⟩ : ∃ V, (V39.alloc (.cells #[.int .i64 a0, .int .i64 a1, .int .i64 a2, .int .i64 a3, .int .i64 a4, .int .i64 a5, .int .i64 a6] 57 (0, 0))) = V := ⟨_, rfl⟩
  rw [hV] at hB xb yb ab ⊢
  clear hV
  refine (SU.out _ hB).mono ?_
  rintro _ _ ⟨rfl, y, rfl⟩
  have hbk := y.below
  replace xb := obj_in hbk xb
  replace yb := obj_in hbk yb
  replace ab := obj_in hbk ab
  replace hB := hB.trans (hbk.mono hB.size)
  clear hbk
  obtain ⟨V41, hV⟩ : ∃ V, y.w = V := ⟨_, rfl⟩
  rw [hV] at hB xb yb ab ⊢
  clear hV
  dsimp only
  obtain ⟨x0, x1, -⟩ := box2 xb
  obtain ⟨y0, y1, -⟩ := box2 yb
  go_wp2_with fail
  clear x0 x1 y0 y1
  refine (DI.out _ hB).mono ?_
  rintro _ V42 ⟨da, dn, dc, rfl, hz, hbk⟩
  replace xb := obj_in hbk xb
  replace yb := obj_in hbk yb
  replace ab := obj_in hbk ab
  replace hB := hB.trans (hbk.mono hB.size)
  clear hbk
  dsimp only
  clear hz
  obtain ⟨x0, x1, -⟩ := box2 xb
  obtain ⟨y0, y1, -⟩ := box2 yb
  go_wp2_with fail
  clear x0 x1 y0 y1
  refine (CL.out _ hB).mono ?_
  rintro _ V43 ⟨ca, cn, cc, cb, cm, cd, rfl, hz, hbk⟩
  replace xb := obj_in hbk xb
  replace yb := obj_in hbk yb
  replace ab := obj_in hbk ab
  replace hB := hB.trans (hbk.mono hB.size)
  clear hbk
  dsimp only
  clear hz
  obtain ⟨x0, x1, -⟩ := box2 xb
  obtain ⟨y0, y1, -⟩ := box2 yb
  go_wp2_with fail
  clear x0 x1 y0 y1
  have hbk : Below V43.heap.size V43 (V43.alloc (.cells #[.slice ca cn cc, .slice cb cm cd] 25 (0, 0))) := (Below.refl _ _).alloc (Nat.le_refl _) _
  replace xb := obj_in hbk xb
  replace yb := obj_in hbk yb
  replace ab := obj_in hbk ab
  replace hB := hB.trans (hbk.mono hB.size)
  clear hbk
  have cb1 := World.alloc_heap_new V43 (.cells #[.slice ca cn cc, .slice cb cm cd] 25 (0, 0))
  obtain ⟨V44, hV⟩ : ∃ V, (V43.alloc (.cells #[.slice ca cn cc, .slice cb cm cd] 25 (0, 0))) = V := ⟨_, rfl⟩
  rw [hV] at hB xb yb ab cb1 ⊢
  clear hV
  refine (RE.out _ hB).mono ?_
  rintro _ V45 ⟨ea, en, ec, eb, em, ed, rfl, hz, hbk⟩
  replace xb := obj_in hbk xb
  replace yb := obj_in hbk yb
  replace ab := obj_in hbk ab
  replace cb1 := obj_in hbk cb1
  replace hB := hB.trans (hbk.mono hB.size)
  clear hbk
  dsimp only
  clear hz
  obtain ⟨x0, x1, -⟩ := box2 xb
  obtain ⟨y0, y1, -⟩ := box2 yb
  go_wp2_with fail
  clear x0 x1 y0 y1
  have hbk : Below V45.heap.size V45 (V45.alloc (.cells #[.slice ea en ec, .slice eb em ed] 25 (0, 0))) := (Below.refl _ _).alloc (Nat.le_refl _) _
  replace xb := obj_in hbk xb
  replace yb := obj_in hbk yb
  replace ab := obj_in hbk ab
  replace cb1 := obj_in hbk cb1
  replace hB := hB.trans (hbk.mono hB.size)
  clear hbk
  have eb1 := World.alloc_heap_new V45 (.cells #[.slice ea en ec, .slice eb em ed] 25 (0, 0))
  obtain ⟨V46, hV⟩ : ∃ V, (V45.alloc (.cells #[.slice ea en ec, .slice eb em ed] 25 (0, 0))) = V := ⟨_, rfl⟩
  rw [hV] at hB xb yb ab cb1 eb1 ⊢
  clear hV
  refine (EQ.out _ hB).mono ?_
  rintro _ V47 ⟨q, rfl, hz, hbk⟩
  replace xb := obj_in hbk xb
  replace yb := obj_in hbk yb
  replace ab := obj_in hbk ab
  replace cb1 := obj_in hbk cb1
  replace eb1 := obj_in hbk eb1
  replace hB := hB.trans (hbk.mono hB.size)
  clear hbk
  dsimp only
  clear hz
  obtain ⟨x0, x1, -⟩ := box2 xb
  obtain ⟨y0, y1, -⟩ := box2 yb
  go_wp2_with fail
  clear x0 x1 y0 y1
  refine (CM.out _ hB).mono ?_
  rintro _ V48 ⟨ka, kb, kn, kc, q2, rfl, hz, hbk⟩
  replace xb := obj_in hbk xb
  replace yb := obj_in hbk yb
  replace ab := obj_in hbk ab
  replace cb1 := obj_in hbk cb1
  replace eb1 := obj_in hbk eb1
  replace hB := hB.trans (hbk.mono hB.size)
  clear hbk
  dsimp only
  clear hz
  have hbk : Below V48.heap.size V48 (V48.alloc (.cells #[.int .i64 ka, .slice kb kn kc] 37 (0, 0))) := (Below.refl _ _).alloc (Nat.le_refl _) _
  have hBD := hB.trans (hbk.mono hB.size)
  have db := World.alloc_heap_new V48 (.cells #[.int .i64 ka, .slice kb kn kc] 37 (0, 0))
  have ab2 := obj_in hbk ab
  have cb2 := obj_in hbk cb1
  have eb2 := obj_in hbk eb1
  clear hbk
  obtain ⟨d0, d1, -⟩ := box2 db
  obtain ⟨c0, c1, -⟩ := box2 cb2
  obtain ⟨e0, e1, -⟩ := box2 eb2
  clear db ab2 cb2 eb2
  go_wp2_with fail
  go_ret
  exact Ret.mk rfl hBD
theorem lawErrors_any (L M : List GZ) (O Q : List Int) (v : Int) (ga oa gb ob : Option Addr) (gc oc gd od : Nat) (w : World) (hT : Tab w) (hg : InGt (fun b => b < w.heap.size) w ga L) (ho : InS (fun b => b < w.heap.size) w oa O) (hg' : InGt (fun b => b < w.heap.size) w gb M) (ho' : InS (fun b => b < w.heap.size) w ob Q)
    (hl : ∀ x ∈ L, x.2.2.length ≤ 17592186044416) (hl' : ∀ x ∈ M, x.2.2.length ≤ 17592186044416) (hc : O.length ≤ oc) (hc2 : oc ≤ 9223372036854775807) (hd : Q.length ≤ od) (hd2 : od ≤ 9223372036854775807) :
    Calls Tryz.prog 10 #[.agg #[.slice ga L.length gc, .slice oa O.length oc], .agg #[.slice gb M.length gd, .slice ob Q.length od], .int .i64 v] w (Ret (.bool true) w) := by
  by_cases hx : 16 < L.length ∨ 16 < M.length ∨ 8 < O.length ∨ 8 < Q.length ∨ 4096 < v
  · exact lawErrors_out L.length O.length M.length Q.length v ga oa gb ob gc oc gd od w hT hx
  · have h : ArN w ga L oa O oc := ⟨hg, ho, by omega, by omega, hl, hc, hc2⟩
    have h' : ArN w gb M ob Q od := ⟨hg', ho', by omega, by omega, hl', hd, hd2⟩
    have hv : v ≤ 4096 := by omega
    exact lawErrors_walk L.length O.length M.length Q.length (nErr L O v) (nErr M Q v) v ga oa gb ob gc oc gd od w hT (by omega) (by omega) (by omega) (by omega) hv
      (fun w' hb => (h.of hb).check gc v) (fun w' hb => (h'.of hb).check gd v) (fun w' hb => (h.of hb).size gc v) (fun w' hb => (h.of hb).support gc v)
      (fun w' hb => (h.of hb).diagrams gc hv) (fun w' hb => (h.of hb).clean gc hv (hT.of hb)) (fun w' hb => (h.of hb).reduce gc hv (hT.of hb)) (fun w' hb => (h.of hb).equal (h'.of hb) gc gd hv) (fun w' hb => (h.of hb).compare (h'.of hb) gc gd hv)
end Go.Proofs.YtlnedapimmabdaaGreatDoor
