/- Sizes of intervals: a function for each exponent. -/
import Derived.Test.YtehgeoipbgpocaaGreatDoorId
import Derived.Deep.RegionHeld3
namespace Go.Proofs.YtehgeoipbgpocaaGreatDoor
set_option linter.unusedVariables false
set_option linter.unusedSimpArgs false
open Go.RowKit
attribute [local go_sem low] Bel.cell Bel.frozen alloc_cell alloc_frozen
attribute [local go_sem] calmOp chainOp yieldsC grows

abbrev QF := Q → Q → Q × Int
def eachU (F : QF) (s t : Sz) : Sz := ⟨(F s.a t.a).1, (F s.b t.b).1, (F s.c t.c).1⟩
def eachB (F : QF) (s t : Sz) : Bool := decide ((F s.a t.a).2 = 0) && decide ((F s.b t.b).2 = 0) && decide ((F s.c t.c).2 = 0)
def eachS (F : QF) (s t : Sz) : Sz := if eachB F s t = true then resS (eachU F s t) else zS
def eachE (F : QF) (s t : Sz) : Int := if eachB F s t = true then resE (eachU F s t) else 4

/-- What a round keeps of the memory: the pair of pointers, the result, the row, and of the sum two cells that are written. -/
structure KeepE (w : World) (B : Nat) (ob : Obj) (O0 : Nat) (o0 : Obj) (O1 : Nat) (mk : Value → Value → Obj) (O2 : Nat) (o2 : Obj) (V : World) : Prop where
  bl : Below w.heap.size w V
  b : V.heap[B]? = some ob
  c0 : V.heap[O0]? = some o0
  c1 : ∃ x y, V.heap[O1]? = some (mk x y)
  c2 : V.heap[O2]? = some o2
theorem KeepE.bel {w : World} {B : Nat} {ob : Obj} {O0 : Nat} {o0 : Obj} {O1 : Nat} {mk : Value → Value → Obj} {O2 : Nat} {o2 : Obj} {V : World} (z : Bel V) (hw : w.heap.size ≤ V.heap.size) (h : KeepE w B ob O0 o0 O1 mk O2 o2 V) : KeepE w B ob O0 o0 O1 mk O2 o2 z.w :=
  ⟨Below.bel h.bl hw, obj_bel z h.b, obj_bel z h.c0, (by obtain ⟨x, y, hx⟩ := h.c1; exact ⟨x, y, obj_bel z hx⟩), obj_bel z h.c2⟩
theorem KeepE.drew {w : World} {B : Nat} {ob : Obj} {O0 : Nat} {o0 : Obj} {O1 : Nat} {mk : Value → Value → Obj} {O2 : Nat} {o2 : Obj} {V : World} (h : KeepE w B ob O0 o0 O1 mk O2 o2 V) : KeepE w B ob O0 o0 O1 mk O2 o2 V.drew :=
  ⟨h.bl.drew, h.b, h.c0, h.c1, h.c2⟩
theorem KeepE.set {w : World} {B : Nat} {ob : Obj} {O0 : Nat} {o0 : Obj} {O1 : Nat} {mk : Value → Value → Obj} {O2 : Nat} {o2 : Obj} {V : World} {i : Nat} {v : Value} (h : KeepE w B ob O0 o0 O1 mk O2 o2 V)
    (hs : ∀ x y, ∃ cs t, mk x y = .cells cs t (0, 0) ∧ ∃ x' y', Obj.cells (cs.setIfInBounds i v) t (0, 0) = mk x' y') (hw : w.heap.size ≤ O1) (n1 : B ≠ O1) (n2 : O0 ≠ O1) (n3 : O2 ≠ O1) : KeepE w B ob O0 o0 O1 mk O2 o2 (V.setCell ⟨O1, i, none⟩ v) :=
  ⟨h.bl.setCell hw v, obj_ne _ n1 h.b, obj_ne _ n2 h.c0, (by
    obtain ⟨x, y, hx⟩ := h.c1
    obtain ⟨cs, t, e1, x', y', e2⟩ := hs x y
    rw [e1] at hx
    exact ⟨x', y', by rw [← e2]; exact obj_set v hx⟩), obj_ne _ n3 h.c2⟩
theorem obj_new3 (w : World) (a b c d : Obj) : ((((w.alloc a).alloc b).alloc c).alloc d).heap[w.heap.size + 1 + 1 + 1]? = some d := by
  have h := World.alloc_heap_new (((w.alloc a).alloc b).alloc c) d
  rwa [World.size_alloc, World.size_alloc, World.size_alloc] at h
theorem obj_new4 (w : World) (a b c d e : Obj) : (((((w.alloc a).alloc b).alloc c).alloc d).alloc e).heap[w.heap.size + 1 + 1 + 1 + 1]? = some e := by
  have h := World.alloc_heap_new ((((w.alloc a).alloc b).alloc c).alloc d) e
  rwa [World.size_alloc, World.size_alloc, World.size_alloc, World.size_alloc] at h
set_option maxRecDepth 100000 in
set_option maxHeartbeats 6400000 in
theorem each_core (c : Nat) (s t : Sz) (fa fb fc : Q × Int) (rs : Sz) (re : Int) (w : World)
    (hcf : ∀ (v : World) (x y : Value), Sem.run Tryz.prog (callFunc c #[x, y]) v = .ok (.enter c #[x, y]) v)
    (hFa : ∀ v : World, Calls Tryz.prog c #[.agg #[.int .i64 s.a.n, .int .i64 s.a.d], .agg #[.int .i64 t.a.n, .int .i64 t.a.d]] v (Ret (.tuple #[.agg #[.int .i64 fa.1.n, .int .i64 fa.1.d], .int .i64 fa.2]) v))
    (hFb : ∀ v : World, Calls Tryz.prog c #[.agg #[.int .i64 s.b.n, .int .i64 s.b.d], .agg #[.int .i64 t.b.n, .int .i64 t.b.d]] v (Ret (.tuple #[.agg #[.int .i64 fb.1.n, .int .i64 fb.1.d], .int .i64 fb.2]) v))
    (hFc : ∀ v : World, Calls Tryz.prog c #[.agg #[.int .i64 s.c.n, .int .i64 s.c.d], .agg #[.int .i64 t.c.n, .int .i64 t.c.d]] v (Ret (.tuple #[.agg #[.int .i64 fc.1.n, .int .i64 fc.1.d], .int .i64 fc.2]) v))
    (hY : fa.2 = 0 → fb.2 = 0 → fc.2 = 0 → rs = resS ⟨fa.1, fb.1, fc.1⟩ ∧ re = resE ⟨fa.1, fb.1, fc.1⟩)
    (hN : ¬ (fa.2 = 0 ∧ fb.2 = 0 ∧ fc.2 = 0) → rs = zS ∧ re = 4) :
    Calls Tryz.prog 86 #[s.V, t.V, .func (.func c) #[] #[]] w (Ret (.tuple #[rs.V, .int .i64 re]) w) := by
  have HR := Lib.hid (fun w' => result_any ⟨fa.1, fb.1, fc.1⟩ w')
  have HY := Lib.hid hY
  have HN := Lib.hid hN
  have HFa := Lib.hid hFa
  have HFb := Lib.hid hFb
  have HFc := Lib.hid hFc
  have hV : ∀ s : Sz, s.V = .agg #[.int .i64 s.a.n, .int .i64 s.a.d, .int .i64 s.b.n, .int .i64 s.b.d, .int .i64 s.c.n, .int .i64 s.c.d] := fun _ => rfl
  rw [hV ⟨fa.1, fb.1, fc.1⟩] at HR
  dsimp only at HR
  rw [hV s, hV t]
  have hV0 := hV
  have HV0 := Lib.hid hV
  clear hV hV0 hFa hFb hFc hY hN
  go_enter Tryz.func86, Tryz.ntmps86
  go_wp2
  go_loopw [32] (fun y wr => ∃ k : Nat, k ≤ 3 ∧ (0 < k → fa.2 = 0) ∧ (1 < k → fb.2 = 0) ∧ (2 < k → fc.2 = 0) ∧ y = .int .i64 (k : Int) ∧ Below w.heap.size w wr ∧
      wr.heap[w.heap.size + 1 + 1]? = some (.cells #[.int .i64 0, .int .i64 0, .int .i64 0, .int .i64 0, .int .i64 0, .int .i64 0] 45) ∧
      wr.heap[w.heap.size + 1 + 1 + 1]? = some (.cells #[.int .i64 (if 0 < k then fa.1.n else 0), .int .i64 (if 0 < k then fa.1.d else 0), .int .i64 (if 1 < k then fb.1.n else 0), .int .i64 (if 1 < k then fb.1.d else 0), .int .i64 (if 2 < k then fc.1.n else 0), .int .i64 (if 2 < k then fc.1.d else 0)] 45) ∧
      wr.heap[w.heap.size + 1 + 1 + 1 + 1]? = some (.cells #[.pointer (some ⟨w.heap.size + 1 + 1 + 1, 0, none⟩), .int .i64 s.a.n, .int .i64 s.a.d, .int .i64 t.a.n, .int .i64 t.a.d, .pointer (some ⟨w.heap.size + 1 + 1 + 1, 2, none⟩), .int .i64 s.b.n, .int .i64 s.b.d, .int .i64 t.b.n, .int .i64 t.b.d, .pointer (some ⟨w.heap.size + 1 + 1 + 1, 4, none⟩), .int .i64 s.c.n, .int .i64 s.c.d, .int .i64 t.c.n, .int .i64 t.c.d] 252)) (fun y _ => 3 - (intOf y).toNat)
  case atStart => exact ⟨0, by omega, fun h => by omega, fun h => by omega, fun h => by omega, rfl, by (repeat' (first | (with_reducible first | apply Zl1 | apply Zl2 | apply Zl3 | apply Zl4 | apply Zl5 | apply Zl6 | apply Zl7 | apply Zl8 | apply Zl9 | apply Zla | apply Zlb | apply Zlc) | (dsimp only; with_reducible first | apply Zl8 | apply Zl2 | apply Zld) | with_reducible assumption | omega | (dsimp only; omega))), obj_alloc _ (obj_alloc _ (obj_new2 _ _ _ _)), obj_alloc _ (obj_new3 _ _ _ _ _), obj_new4 _ _ _ _ _ _⟩
  case round =>
    obtain ⟨k, hk, hk0, hk1, hk2, rfl, hB, ho0, ho1, ho2⟩ := hrel
    have HK0 := Lib.hid hk0
    have HK1 := Lib.hid hk1
    have HK2 := Lib.hid hk2
    have hbs := hB.size
    have hw2 := obj_lt ho2
    have HO0 := Lib.hid ho0
    have HO1 := Lib.hid ho1
    have HO2 := Lib.hid ho2
    clear hk0 hk1 hk2 ho0 ho1 ho2
    by_cases hk3 : k < 3
    · rcases (show k = 0 ∨ k = 1 ∨ k = 2 by omega) with rfl | rfl | rfl
      · clear hk3 hk
        have g0 := (made_cell HO2.out (5 * 0)).1
        have g1 := (made_cell HO2.out (5 * 0 + 1)).1
        have g2 := (made_cell HO2.out (5 * 0 + 2)).1
        have g3 := (made_cell HO2.out (5 * 0 + 3)).1
        have g4 := (made_cell HO2.out (5 * 0 + 4)).1
        simp at g0 g1 g2 g3 g4
        go_wp2_with fail
        generalize hY : wr.alloc _ = Y
        have hYb : Below w.heap.size w Y := by rw [← hY]; (repeat' (first | (with_reducible first | apply Zl1 | apply Zl2 | apply Zl3 | apply Zl4 | apply Zl5 | apply Zl6 | apply Zl7 | apply Zl8 | apply Zl9 | apply Zla | apply Zlb | apply Zlc) | (dsimp only; with_reducible first | apply Zl8 | apply Zl2 | apply Zld) | with_reducible assumption | omega | (dsimp only; omega)))
        have hY0 := obj_new wr (.cells #[.pointer (some ⟨w.heap.size + 1 + 1 + 1, 2 * 0, none⟩), .int .i64 (s.a).n, .int .i64 (s.a).d, .int .i64 (t.a).n, .int .i64 (t.a).d] 252)
        have hYs : Y.heap.size = wr.heap.size + 1 := by rw [← hY, World.size_alloc]
        have HZ0 := obj_alloc (.cells #[.pointer (some ⟨w.heap.size + 1 + 1 + 1, 2 * 0, none⟩), .int .i64 (s.a).n, .int .i64 (s.a).d, .int .i64 (t.a).n, .int .i64 (t.a).d] 252) HO0.out
        have HZ1 := obj_alloc (.cells #[.pointer (some ⟨w.heap.size + 1 + 1 + 1, 2 * 0, none⟩), .int .i64 (s.a).n, .int .i64 (s.a).d, .int .i64 (t.a).n, .int .i64 (t.a).d] 252) HO1.out
        have HZ2 := obj_alloc (.cells #[.pointer (some ⟨w.heap.size + 1 + 1 + 1, 2 * 0, none⟩), .int .i64 (s.a).n, .int .i64 (s.a).d, .int .i64 (t.a).n, .int .i64 (t.a).d] 252) HO2.out
        have hY' : wr.alloc (.cells #[.pointer (some ⟨w.heap.size + 1 + 1 + 1, 2 * 0, none⟩), .int .i64 (s.a).n, .int .i64 (s.a).d, .int .i64 (t.a).n, .int .i64 (t.a).d] 252) = Y := hY
        rw [hY'] at hY0 HZ0 HZ1 HZ2
        obtain ⟨B, hBB⟩ : ∃ B, wr.heap.size = B := ⟨_, rfl⟩
        rw [hBB] at hY0 hYs hw2 hbs ⊢
        have hwY : w.heap.size ≤ Y.heap.size := hYb.size
        obtain ⟨KE, hKE⟩ : ∃ KE : World → Prop, KE = KeepE w B (.cells #[.pointer (some ⟨w.heap.size + 1 + 1 + 1, 2 * 0, none⟩), .int .i64 (s.a).n, .int .i64 (s.a).d, .int .i64 (t.a).n, .int .i64 (t.a).d] 252) (w.heap.size + 1 + 1) (.cells #[.int .i64 0, .int .i64 0, .int .i64 0, .int .i64 0, .int .i64 0, .int .i64 0] 45) (w.heap.size + 1 + 1 + 1) ((fun x y => .cells #[x, y, .int .i64 0, .int .i64 0, .int .i64 0, .int .i64 0] 45)) (w.heap.size + 1 + 1 + 1 + 1) ((.cells #[.pointer (some ⟨w.heap.size + 1 + 1 + 1, 0, none⟩), .int .i64 s.a.n, .int .i64 s.a.d, .int .i64 t.a.n, .int .i64 t.a.d, .pointer (some ⟨w.heap.size + 1 + 1 + 1, 2, none⟩), .int .i64 s.b.n, .int .i64 s.b.d, .int .i64 t.b.n, .int .i64 t.b.d, .pointer (some ⟨w.heap.size + 1 + 1 + 1, 4, none⟩), .int .i64 s.c.n, .int .i64 s.c.d, .int .i64 t.c.n, .int .i64 t.c.d] 252)) := ⟨_, rfl⟩
        have hK0 : KE Y := by rw [hKE]; exact ⟨hYb, hY0, HZ0, ⟨_, _, HZ1⟩, HZ2⟩
        have KB := Lib.hid (show ∀ (V : World) (z : Bel V), KE V → Y.heap.size ≤ V.heap.size → KE z.w from fun V z h h2 => by rw [hKE] at h ⊢; exact KeepE.bel z (by omega) h)
        have KD := Lib.hid (show ∀ (V : World), KE V → KE V.drew from fun V h => by rw [hKE] at h ⊢; exact KeepE.drew h)
        have KS0 := Lib.hid (show ∀ (V : World) (v : Value), KE V → KE (V.setCell ⟨w.heap.size + 1 + 1 + 1, 2 * 0, none⟩ v) from fun V v h => by rw [hKE] at h ⊢; exact KeepE.set h (fun x y => ⟨_, _, rfl, v, y, rfl⟩) (by omega) (by omega) (by omega) (by omega))
        have KS1 := Lib.hid (show ∀ (V : World) (v : Value), KE V → KE (V.setCell ⟨w.heap.size + 1 + 1 + 1, 2 * 0 + 1, none⟩ v) from fun V v h => by rw [hKE] at h ⊢; exact KeepE.set h (fun x y => ⟨_, _, rfl, x, v, rfl⟩) (by omega) (by omega) (by omega) (by omega))
        have KO := Lib.hid (show ∀ (V : World), KE V → ∃ x y, V.heap[w.heap.size + 1 + 1 + 1]? = some (((fun x y => .cells #[x, y, .int .i64 0, .int .i64 0, .int .i64 0, .int .i64 0] 45)) x y) from fun V h => by rw [hKE] at h; exact h.c1)
        have KR := Lib.hid (show ∀ (V : World), KE V → KeepE w B (.cells #[.pointer (some ⟨w.heap.size + 1 + 1 + 1, 2 * 0, none⟩), .int .i64 (s.a).n, .int .i64 (s.a).d, .int .i64 (t.a).n, .int .i64 (t.a).d] 252) (w.heap.size + 1 + 1) (.cells #[.int .i64 0, .int .i64 0, .int .i64 0, .int .i64 0, .int .i64 0, .int .i64 0] 45) (w.heap.size + 1 + 1 + 1) ((fun x y => .cells #[x, y, .int .i64 0, .int .i64 0, .int .i64 0, .int .i64 0] 45)) (w.heap.size + 1 + 1 + 1 + 1) ((.cells #[.pointer (some ⟨w.heap.size + 1 + 1 + 1, 0, none⟩), .int .i64 s.a.n, .int .i64 s.a.d, .int .i64 t.a.n, .int .i64 t.a.d, .pointer (some ⟨w.heap.size + 1 + 1 + 1, 2, none⟩), .int .i64 s.b.n, .int .i64 s.b.d, .int .i64 t.b.n, .int .i64 t.b.d, .pointer (some ⟨w.heap.size + 1 + 1 + 1, 4, none⟩), .int .i64 s.c.n, .int .i64 s.c.d, .int .i64 t.c.n, .int .i64 t.c.d] 252)) V from fun V h => by rw [hKE] at h; exact h)
        have SK := Lib.hid (show ∀ V : World, KE V ∧ Y.heap.size ≤ V.heap.size → V.cell? ⟨B, 0, none⟩ = some (.pointer (some ⟨w.heap.size + 1 + 1 + 1, 2 * 0, none⟩)) ∧ V.cell? ⟨B, 1, none⟩ = some (.int .i64 (s.a).n) ∧ V.cell? ⟨B, 2, none⟩ = some (.int .i64 (s.a).d) ∧ V.cell? ⟨B, 3, none⟩ = some (.int .i64 (t.a).n) ∧ V.cell? ⟨B, 4, none⟩ = some (.int .i64 (t.a).d) ∧ KE V ∧ Y.heap.size ≤ V.heap.size from
          fun V h => have hb := (KR.out V h.1).b; ⟨(made_cell hb 0).1, (made_cell hb 1).1, (made_cell hb 2).1, (made_cell hb 3).1, (made_cell hb 4).1, h⟩)
        obtain ⟨i0, i1, i2, i3, i4, _⟩ := SK.out Y ⟨hK0, Nat.le_refl _⟩
        clear hY hY' hBB hB hY0 hYb g0 g1 g2 g3 g4 HO0 HO1 HO2 HZ0 HZ1 HZ2 hKE
        clear wr
        simp only [Nat.mul_zero, Nat.mul_one, Nat.reduceMul, Nat.zero_add, Nat.reduceAdd] at KS0 KS1 SK i0
        go_region_held3 (fun V => V.cell? ⟨B, 0, none⟩ = some (.pointer (some ⟨w.heap.size + 1 + 1 + 1, 2 * 0, none⟩)) ∧ V.cell? ⟨B, 1, none⟩ = some (.int .i64 (s.a).n) ∧ V.cell? ⟨B, 2, none⟩ = some (.int .i64 (s.a).d) ∧ V.cell? ⟨B, 3, none⟩ = some (.int .i64 (t.a).n) ∧ V.cell? ⟨B, 4, none⟩ = some (.int .i64 (t.a).d) ∧ KE V ∧ Y.heap.size ≤ V.heap.size) (exact SK.out _ (by (repeat' (first | with_reducible assumption | apply And.intro | (with_reducible apply KD.out) | (with_reducible apply KB.out) | (with_reducible apply KS0.out) | (with_reducible apply KS1.out) | (with_reducible first | apply Zl2 | apply Zlb | apply Zla | apply Zl8 | apply Zlc) | omega)))) ((refine (HFa.out _).mono ?_; rintro _ _ ⟨rfl, z, rfl⟩; have hzs := z.size_le; have hKz := KB.out _ z (by (repeat' (first | with_reducible assumption | (with_reducible apply KD.out) | (with_reducible apply KB.out) | (with_reducible first | apply Zl2 | apply Zlb | apply Zl8 | apply Zlc) | omega))) (by (repeat' (first | with_reducible assumption | (with_reducible apply KD.out) | (with_reducible apply KB.out) | (with_reducible first | apply Zl2 | apply Zlb | apply Zl8 | apply Zlc) | omega))); obtain ⟨ex, ey, hO1⟩ := KO.out _ hKz; obtain ⟨f0, f1, f2, f3, f4, f5⟩ := froz6 hO1; obtain ⟨e0, e1, e2, e3, e4, e5⟩ := cells6 hO1; have HO1 := Lib.hid hO1; clear hO1))
        rename_i hHeld
        have hE := KR.out _ hHeld.2.2.2.2.2.1
        have hN1 : ((z.w.setCell ⟨w.heap.size + 1 + 1 + 1, 0, none⟩ (.int .i64 (fa).1.n)).setCell ⟨w.heap.size + 1 + 1 + 1, 1, none⟩ (.int .i64 (fa).1.d)).heap[w.heap.size + 1 + 1 + 1]? = some (((fun x y => .cells #[x, y, .int .i64 0, .int .i64 0, .int .i64 0, .int .i64 0] 45)) (.int .i64 (fa).1.n) (.int .i64 (fa).1.d)) := obj_set (i := 1) (.int .i64 (fa).1.d) (obj_set (i := 0) (.int .i64 (fa).1.n) HO1.out)
        have HN1 := Lib.hid hN1
        have HE := Lib.hid hE
        clear hHeld hN1 e0 e1 e2 e3 e4 e5 f0 f1 f2 f3 f4 f5 i0 i1 i2 i3 i4 KB KD KS0 KS1 KO KR SK hK0 HO1
        generalize hX : (z.w.setCell ⟨w.heap.size + 1 + 1 + 1, 0, none⟩ (.int .i64 (fa).1.n)).setCell ⟨w.heap.size + 1 + 1 + 1, 1, none⟩ (.int .i64 (fa).1.d) = X at *
        clear hX
        have hXs := HE.out.bl.size
        have hX1 := obj_lt HE.out.c0
        by_cases he : (fa).2 = 0
        · have h0 : ((fa).2 != 0) = false := by simpa using he
          have H0 := Lib.hid he
          clear he
          go_wp2_with fail
          go_roundw
          case rel => exact ⟨0 + 1, by omega, (fun _ => H0.out), (fun h => by omega), (fun h => by omega), rfl, HE.out.bl, HE.out.c0, HN1.out, HE.out.c2⟩
          case measure => simp [intOf]
        · have h0 : ((fa).2 != 0) = true := by simpa using he
          obtain ⟨r1, r2⟩ := HN.out (fun hh => he (hh.1))
          have R2 := Lib.hid r2
          subst r1
          obtain ⟨d0, d1, d2, d3, d4, d5⟩ := froz6 HE.out.c0
          obtain ⟨c0, c1, c2, c3, c4, c5⟩ := cells6 HE.out.c0
          have hbl := HE.out.bl
          clear he r2
          go_wp2
          refine bodyPost_ret (v := .tuple #[.agg #[.int .i64 0, .int .i64 0, .int .i64 0, .int .i64 0, .int .i64 0, .int .i64 0], .int .i64 4]) (by simp [results, Tryz.results86, go_sem, c0, c1, c2, c3, c4, c5]) rfl (Ret.mk (by rw [R2.out]; rfl) (by (repeat' (first | (with_reducible first | apply Zl1 | apply Zl2 | apply Zl3 | apply Zl4 | apply Zl5 | apply Zl6 | apply Zl7 | apply Zl8 | apply Zl9 | apply Zla | apply Zlb | apply Zlc) | (dsimp only; with_reducible first | apply Zl8 | apply Zl2 | apply Zld) | with_reducible assumption | omega | (dsimp only; omega)))))
      · clear hk3 hk
        have g0 := (made_cell HO2.out (5 * 1)).1
        have g1 := (made_cell HO2.out (5 * 1 + 1)).1
        have g2 := (made_cell HO2.out (5 * 1 + 2)).1
        have g3 := (made_cell HO2.out (5 * 1 + 3)).1
        have g4 := (made_cell HO2.out (5 * 1 + 4)).1
        simp at g0 g1 g2 g3 g4
        go_wp2_with fail
        generalize hY : wr.alloc _ = Y
        have hYb : Below w.heap.size w Y := by rw [← hY]; (repeat' (first | (with_reducible first | apply Zl1 | apply Zl2 | apply Zl3 | apply Zl4 | apply Zl5 | apply Zl6 | apply Zl7 | apply Zl8 | apply Zl9 | apply Zla | apply Zlb | apply Zlc) | (dsimp only; with_reducible first | apply Zl8 | apply Zl2 | apply Zld) | with_reducible assumption | omega | (dsimp only; omega)))
        have hY0 := obj_new wr (.cells #[.pointer (some ⟨w.heap.size + 1 + 1 + 1, 2 * 1, none⟩), .int .i64 (s.b).n, .int .i64 (s.b).d, .int .i64 (t.b).n, .int .i64 (t.b).d] 252)
        have hYs : Y.heap.size = wr.heap.size + 1 := by rw [← hY, World.size_alloc]
        have HZ0 := obj_alloc (.cells #[.pointer (some ⟨w.heap.size + 1 + 1 + 1, 2 * 1, none⟩), .int .i64 (s.b).n, .int .i64 (s.b).d, .int .i64 (t.b).n, .int .i64 (t.b).d] 252) HO0.out
        have HZ1 := obj_alloc (.cells #[.pointer (some ⟨w.heap.size + 1 + 1 + 1, 2 * 1, none⟩), .int .i64 (s.b).n, .int .i64 (s.b).d, .int .i64 (t.b).n, .int .i64 (t.b).d] 252) HO1.out
        have HZ2 := obj_alloc (.cells #[.pointer (some ⟨w.heap.size + 1 + 1 + 1, 2 * 1, none⟩), .int .i64 (s.b).n, .int .i64 (s.b).d, .int .i64 (t.b).n, .int .i64 (t.b).d] 252) HO2.out
        have hY' : wr.alloc (.cells #[.pointer (some ⟨w.heap.size + 1 + 1 + 1, 2 * 1, none⟩), .int .i64 (s.b).n, .int .i64 (s.b).d, .int .i64 (t.b).n, .int .i64 (t.b).d] 252) = Y := hY
        rw [hY'] at hY0 HZ0 HZ1 HZ2
        obtain ⟨B, hBB⟩ : ∃ B, wr.heap.size = B := ⟨_, rfl⟩
        rw [hBB] at hY0 hYs hw2 hbs ⊢
        have hwY : w.heap.size ≤ Y.heap.size := hYb.size
        obtain ⟨KE, hKE⟩ : ∃ KE : World → Prop, KE = KeepE w B (.cells #[.pointer (some ⟨w.heap.size + 1 + 1 + 1, 2 * 1, none⟩), .int .i64 (s.b).n, .int .i64 (s.b).d, .int .i64 (t.b).n, .int .i64 (t.b).d] 252) (w.heap.size + 1 + 1) (.cells #[.int .i64 0, .int .i64 0, .int .i64 0, .int .i64 0, .int .i64 0, .int .i64 0] 45) (w.heap.size + 1 + 1 + 1) ((fun x y => .cells #[.int .i64 fa.1.n, .int .i64 fa.1.d, x, y, .int .i64 0, .int .i64 0] 45)) (w.heap.size + 1 + 1 + 1 + 1) ((.cells #[.pointer (some ⟨w.heap.size + 1 + 1 + 1, 0, none⟩), .int .i64 s.a.n, .int .i64 s.a.d, .int .i64 t.a.n, .int .i64 t.a.d, .pointer (some ⟨w.heap.size + 1 + 1 + 1, 2, none⟩), .int .i64 s.b.n, .int .i64 s.b.d, .int .i64 t.b.n, .int .i64 t.b.d, .pointer (some ⟨w.heap.size + 1 + 1 + 1, 4, none⟩), .int .i64 s.c.n, .int .i64 s.c.d, .int .i64 t.c.n, .int .i64 t.c.d] 252)) := ⟨_, rfl⟩
        have hK0 : KE Y := by rw [hKE]; exact ⟨hYb, hY0, HZ0, ⟨_, _, HZ1⟩, HZ2⟩
        have KB := Lib.hid (show ∀ (V : World) (z : Bel V), KE V → Y.heap.size ≤ V.heap.size → KE z.w from fun V z h h2 => by rw [hKE] at h ⊢; exact KeepE.bel z (by omega) h)
        have KD := Lib.hid (show ∀ (V : World), KE V → KE V.drew from fun V h => by rw [hKE] at h ⊢; exact KeepE.drew h)
        have KS0 := Lib.hid (show ∀ (V : World) (v : Value), KE V → KE (V.setCell ⟨w.heap.size + 1 + 1 + 1, 2 * 1, none⟩ v) from fun V v h => by rw [hKE] at h ⊢; exact KeepE.set h (fun x y => ⟨_, _, rfl, v, y, rfl⟩) (by omega) (by omega) (by omega) (by omega))
        have KS1 := Lib.hid (show ∀ (V : World) (v : Value), KE V → KE (V.setCell ⟨w.heap.size + 1 + 1 + 1, 2 * 1 + 1, none⟩ v) from fun V v h => by rw [hKE] at h ⊢; exact KeepE.set h (fun x y => ⟨_, _, rfl, x, v, rfl⟩) (by omega) (by omega) (by omega) (by omega))
        have KO := Lib.hid (show ∀ (V : World), KE V → ∃ x y, V.heap[w.heap.size + 1 + 1 + 1]? = some (((fun x y => .cells #[.int .i64 fa.1.n, .int .i64 fa.1.d, x, y, .int .i64 0, .int .i64 0] 45)) x y) from fun V h => by rw [hKE] at h; exact h.c1)
        have KR := Lib.hid (show ∀ (V : World), KE V → KeepE w B (.cells #[.pointer (some ⟨w.heap.size + 1 + 1 + 1, 2 * 1, none⟩), .int .i64 (s.b).n, .int .i64 (s.b).d, .int .i64 (t.b).n, .int .i64 (t.b).d] 252) (w.heap.size + 1 + 1) (.cells #[.int .i64 0, .int .i64 0, .int .i64 0, .int .i64 0, .int .i64 0, .int .i64 0] 45) (w.heap.size + 1 + 1 + 1) ((fun x y => .cells #[.int .i64 fa.1.n, .int .i64 fa.1.d, x, y, .int .i64 0, .int .i64 0] 45)) (w.heap.size + 1 + 1 + 1 + 1) ((.cells #[.pointer (some ⟨w.heap.size + 1 + 1 + 1, 0, none⟩), .int .i64 s.a.n, .int .i64 s.a.d, .int .i64 t.a.n, .int .i64 t.a.d, .pointer (some ⟨w.heap.size + 1 + 1 + 1, 2, none⟩), .int .i64 s.b.n, .int .i64 s.b.d, .int .i64 t.b.n, .int .i64 t.b.d, .pointer (some ⟨w.heap.size + 1 + 1 + 1, 4, none⟩), .int .i64 s.c.n, .int .i64 s.c.d, .int .i64 t.c.n, .int .i64 t.c.d] 252)) V from fun V h => by rw [hKE] at h; exact h)
        have SK := Lib.hid (show ∀ V : World, KE V ∧ Y.heap.size ≤ V.heap.size → V.cell? ⟨B, 0, none⟩ = some (.pointer (some ⟨w.heap.size + 1 + 1 + 1, 2 * 1, none⟩)) ∧ V.cell? ⟨B, 1, none⟩ = some (.int .i64 (s.b).n) ∧ V.cell? ⟨B, 2, none⟩ = some (.int .i64 (s.b).d) ∧ V.cell? ⟨B, 3, none⟩ = some (.int .i64 (t.b).n) ∧ V.cell? ⟨B, 4, none⟩ = some (.int .i64 (t.b).d) ∧ KE V ∧ Y.heap.size ≤ V.heap.size from
          fun V h => have hb := (KR.out V h.1).b; ⟨(made_cell hb 0).1, (made_cell hb 1).1, (made_cell hb 2).1, (made_cell hb 3).1, (made_cell hb 4).1, h⟩)
        obtain ⟨i0, i1, i2, i3, i4, _⟩ := SK.out Y ⟨hK0, Nat.le_refl _⟩
        clear hY hY' hBB hB hY0 hYb g0 g1 g2 g3 g4 HO0 HO1 HO2 HZ0 HZ1 HZ2 hKE
        clear wr
        simp only [Nat.mul_zero, Nat.mul_one, Nat.reduceMul, Nat.zero_add, Nat.reduceAdd] at KS0 KS1 SK i0
        go_region_held3 (fun V => V.cell? ⟨B, 0, none⟩ = some (.pointer (some ⟨w.heap.size + 1 + 1 + 1, 2 * 1, none⟩)) ∧ V.cell? ⟨B, 1, none⟩ = some (.int .i64 (s.b).n) ∧ V.cell? ⟨B, 2, none⟩ = some (.int .i64 (s.b).d) ∧ V.cell? ⟨B, 3, none⟩ = some (.int .i64 (t.b).n) ∧ V.cell? ⟨B, 4, none⟩ = some (.int .i64 (t.b).d) ∧ KE V ∧ Y.heap.size ≤ V.heap.size) (exact SK.out _ (by (repeat' (first | with_reducible assumption | apply And.intro | (with_reducible apply KD.out) | (with_reducible apply KB.out) | (with_reducible apply KS0.out) | (with_reducible apply KS1.out) | (with_reducible first | apply Zl2 | apply Zlb | apply Zla | apply Zl8 | apply Zlc) | omega)))) ((refine (HFb.out _).mono ?_; rintro _ _ ⟨rfl, z, rfl⟩; have hzs := z.size_le; have hKz := KB.out _ z (by (repeat' (first | with_reducible assumption | (with_reducible apply KD.out) | (with_reducible apply KB.out) | (with_reducible first | apply Zl2 | apply Zlb | apply Zl8 | apply Zlc) | omega))) (by (repeat' (first | with_reducible assumption | (with_reducible apply KD.out) | (with_reducible apply KB.out) | (with_reducible first | apply Zl2 | apply Zlb | apply Zl8 | apply Zlc) | omega))); obtain ⟨ex, ey, hO1⟩ := KO.out _ hKz; obtain ⟨f0, f1, f2, f3, f4, f5⟩ := froz6 hO1; obtain ⟨e0, e1, e2, e3, e4, e5⟩ := cells6 hO1; have HO1 := Lib.hid hO1; clear hO1))
        rename_i hHeld
        have hE := KR.out _ hHeld.2.2.2.2.2.1
        have hN1 : ((z.w.setCell ⟨w.heap.size + 1 + 1 + 1, 2, none⟩ (.int .i64 (fb).1.n)).setCell ⟨w.heap.size + 1 + 1 + 1, 3, none⟩ (.int .i64 (fb).1.d)).heap[w.heap.size + 1 + 1 + 1]? = some (((fun x y => .cells #[.int .i64 fa.1.n, .int .i64 fa.1.d, x, y, .int .i64 0, .int .i64 0] 45)) (.int .i64 (fb).1.n) (.int .i64 (fb).1.d)) := obj_set (i := 3) (.int .i64 (fb).1.d) (obj_set (i := 2) (.int .i64 (fb).1.n) HO1.out)
        have HN1 := Lib.hid hN1
        have HE := Lib.hid hE
        clear hHeld hN1 e0 e1 e2 e3 e4 e5 f0 f1 f2 f3 f4 f5 i0 i1 i2 i3 i4 KB KD KS0 KS1 KO KR SK hK0 HO1
        generalize hX : (z.w.setCell ⟨w.heap.size + 1 + 1 + 1, 2, none⟩ (.int .i64 (fb).1.n)).setCell ⟨w.heap.size + 1 + 1 + 1, 3, none⟩ (.int .i64 (fb).1.d) = X at *
        clear hX
        have hXs := HE.out.bl.size
        have hX1 := obj_lt HE.out.c0
        by_cases he : (fb).2 = 0
        · have h0 : ((fb).2 != 0) = false := by simpa using he
          have H0 := Lib.hid he
          clear he
          go_wp2_with fail
          go_roundw
          case rel => exact ⟨1 + 1, by omega, (fun _ => HK0.out (by decide)), (fun _ => H0.out), (fun h => by omega), rfl, HE.out.bl, HE.out.c0, HN1.out, HE.out.c2⟩
          case measure => simp [intOf]
        · have h0 : ((fb).2 != 0) = true := by simpa using he
          obtain ⟨r1, r2⟩ := HN.out (fun hh => he (hh.2.1))
          have R2 := Lib.hid r2
          subst r1
          obtain ⟨d0, d1, d2, d3, d4, d5⟩ := froz6 HE.out.c0
          obtain ⟨c0, c1, c2, c3, c4, c5⟩ := cells6 HE.out.c0
          have hbl := HE.out.bl
          clear he r2
          go_wp2
          refine bodyPost_ret (v := .tuple #[.agg #[.int .i64 0, .int .i64 0, .int .i64 0, .int .i64 0, .int .i64 0, .int .i64 0], .int .i64 4]) (by simp [results, Tryz.results86, go_sem, c0, c1, c2, c3, c4, c5]) rfl (Ret.mk (by rw [R2.out]; rfl) (by (repeat' (first | (with_reducible first | apply Zl1 | apply Zl2 | apply Zl3 | apply Zl4 | apply Zl5 | apply Zl6 | apply Zl7 | apply Zl8 | apply Zl9 | apply Zla | apply Zlb | apply Zlc) | (dsimp only; with_reducible first | apply Zl8 | apply Zl2 | apply Zld) | with_reducible assumption | omega | (dsimp only; omega)))))
      · clear hk3 hk
        have g0 := (made_cell HO2.out (5 * 2)).1
        have g1 := (made_cell HO2.out (5 * 2 + 1)).1
        have g2 := (made_cell HO2.out (5 * 2 + 2)).1
        have g3 := (made_cell HO2.out (5 * 2 + 3)).1
        have g4 := (made_cell HO2.out (5 * 2 + 4)).1
        simp at g0 g1 g2 g3 g4
        go_wp2_with fail
        generalize hY : wr.alloc _ = Y
        have hYb : Below w.heap.size w Y := by rw [← hY]; (repeat' (first | (with_reducible first | apply Zl1 | apply Zl2 | apply Zl3 | apply Zl4 | apply Zl5 | apply Zl6 | apply Zl7 | apply Zl8 | apply Zl9 | apply Zla | apply Zlb | apply Zlc) | (dsimp only; with_reducible first | apply Zl8 | apply Zl2 | apply Zld) | with_reducible assumption | omega | (dsimp only; omega)))
        have hY0 := obj_new wr (.cells #[.pointer (some ⟨w.heap.size + 1 + 1 + 1, 2 * 2, none⟩), .int .i64 (s.c).n, .int .i64 (s.c).d, .int .i64 (t.c).n, .int .i64 (t.c).d] 252)
        have hYs : Y.heap.size = wr.heap.size + 1 := by rw [← hY, World.size_alloc]
        have HZ0 := obj_alloc (.cells #[.pointer (some ⟨w.heap.size + 1 + 1 + 1, 2 * 2, none⟩), .int .i64 (s.c).n, .int .i64 (s.c).d, .int .i64 (t.c).n, .int .i64 (t.c).d] 252) HO0.out
        have HZ1 := obj_alloc (.cells #[.pointer (some ⟨w.heap.size + 1 + 1 + 1, 2 * 2, none⟩), .int .i64 (s.c).n, .int .i64 (s.c).d, .int .i64 (t.c).n, .int .i64 (t.c).d] 252) HO1.out
        have HZ2 := obj_alloc (.cells #[.pointer (some ⟨w.heap.size + 1 + 1 + 1, 2 * 2, none⟩), .int .i64 (s.c).n, .int .i64 (s.c).d, .int .i64 (t.c).n, .int .i64 (t.c).d] 252) HO2.out
        have hY' : wr.alloc (.cells #[.pointer (some ⟨w.heap.size + 1 + 1 + 1, 2 * 2, none⟩), .int .i64 (s.c).n, .int .i64 (s.c).d, .int .i64 (t.c).n, .int .i64 (t.c).d] 252) = Y := hY
        rw [hY'] at hY0 HZ0 HZ1 HZ2
        obtain ⟨B, hBB⟩ : ∃ B, wr.heap.size = B := ⟨_, rfl⟩
        rw [hBB] at hY0 hYs hw2 hbs ⊢
        have hwY : w.heap.size ≤ Y.heap.size := hYb.size
        obtain ⟨KE, hKE⟩ : ∃ KE : World → Prop, KE = KeepE w B (.cells #[.pointer (some ⟨w.heap.size + 1 + 1 + 1, 2 * 2, none⟩), .int .i64 (s.c).n, .int .i64 (s.c).d, .int .i64 (t.c).n, .int .i64 (t.c).d] 252) (w.heap.size + 1 + 1) (.cells #[.int .i64 0, .int .i64 0, .int .i64 0, .int .i64 0, .int .i64 0, .int .i64 0] 45) (w.heap.size + 1 + 1 + 1) ((fun x y => .cells #[.int .i64 fa.1.n, .int .i64 fa.1.d, .int .i64 fb.1.n, .int .i64 fb.1.d, x, y] 45)) (w.heap.size + 1 + 1 + 1 + 1) ((.cells #[.pointer (some ⟨w.heap.size + 1 + 1 + 1, 0, none⟩), .int .i64 s.a.n, .int .i64 s.a.d, .int .i64 t.a.n, .int .i64 t.a.d, .pointer (some ⟨w.heap.size + 1 + 1 + 1, 2, none⟩), .int .i64 s.b.n, .int .i64 s.b.d, .int .i64 t.b.n, .int .i64 t.b.d, .pointer (some ⟨w.heap.size + 1 + 1 + 1, 4, none⟩), .int .i64 s.c.n, .int .i64 s.c.d, .int .i64 t.c.n, .int .i64 t.c.d] 252)) := ⟨_, rfl⟩
        have hK0 : KE Y := by rw [hKE]; exact ⟨hYb, hY0, HZ0, ⟨_, _, HZ1⟩, HZ2⟩
        have KB := Lib.hid (show ∀ (V : World) (z : Bel V), KE V → Y.heap.size ≤ V.heap.size → KE z.w from fun V z h h2 => by rw [hKE] at h ⊢; exact KeepE.bel z (by omega) h)
        have KD := Lib.hid (show ∀ (V : World), KE V → KE V.drew from fun V h => by rw [hKE] at h ⊢; exact KeepE.drew h)
        have KS0 := Lib.hid (show ∀ (V : World) (v : Value), KE V → KE (V.setCell ⟨w.heap.size + 1 + 1 + 1, 2 * 2, none⟩ v) from fun V v h => by rw [hKE] at h ⊢; exact KeepE.set h (fun x y => ⟨_, _, rfl, v, y, rfl⟩) (by omega) (by omega) (by omega) (by omega))
        have KS1 := Lib.hid (show ∀ (V : World) (v : Value), KE V → KE (V.setCell ⟨w.heap.size + 1 + 1 + 1, 2 * 2 + 1, none⟩ v) from fun V v h => by rw [hKE] at h ⊢; exact KeepE.set h (fun x y => ⟨_, _, rfl, x, v, rfl⟩) (by omega) (by omega) (by omega) (by omega))
        have KO := Lib.hid (show ∀ (V : World), KE V → ∃ x y, V.heap[w.heap.size + 1 + 1 + 1]? = some (((fun x y => .cells #[.int .i64 fa.1.n, .int .i64 fa.1.d, .int .i64 fb.1.n, .int .i64 fb.1.d, x, y] 45)) x y) from fun V h => by rw [hKE] at h; exact h.c1)
        have KR := Lib.hid (show ∀ (V : World), KE V → KeepE w B (.cells #[.pointer (some ⟨w.heap.size + 1 + 1 + 1, 2 * 2, none⟩), .int .i64 (s.c).n, .int .i64 (s.c).d, .int .i64 (t.c).n, .int .i64 (t.c).d] 252) (w.heap.size + 1 + 1) (.cells #[.int .i64 0, .int .i64 0, .int .i64 0, .int .i64 0, .int .i64 0, .int .i64 0] 45) (w.heap.size + 1 + 1 + 1) ((fun x y => .cells #[.int .i64 fa.1.n, .int .i64 fa.1.d, .int .i64 fb.1.n, .int .i64 fb.1.d, x, y] 45)) (w.heap.size + 1 + 1 + 1 + 1) ((.cells #[.pointer (some ⟨w.heap.size + 1 + 1 + 1, 0, none⟩), .int .i64 s.a.n, .int .i64 s.a.d, .int .i64 t.a.n, .int .i64 t.a.d, .pointer (some ⟨w.heap.size + 1 + 1 + 1, 2, none⟩), .int .i64 s.b.n, .int .i64 s.b.d, .int .i64 t.b.n, .int .i64 t.b.d, .pointer (some ⟨w.heap.size + 1 + 1 + 1, 4, none⟩), .int .i64 s.c.n, .int .i64 s.c.d, .int .i64 t.c.n, .int .i64 t.c.d] 252)) V from fun V h => by rw [hKE] at h; exact h)
        have SK := Lib.hid (show ∀ V : World, KE V ∧ Y.heap.size ≤ V.heap.size → V.cell? ⟨B, 0, none⟩ = some (.pointer (some ⟨w.heap.size + 1 + 1 + 1, 2 * 2, none⟩)) ∧ V.cell? ⟨B, 1, none⟩ = some (.int .i64 (s.c).n) ∧ V.cell? ⟨B, 2, none⟩ = some (.int .i64 (s.c).d) ∧ V.cell? ⟨B, 3, none⟩ = some (.int .i64 (t.c).n) ∧ V.cell? ⟨B, 4, none⟩ = some (.int .i64 (t.c).d) ∧ KE V ∧ Y.heap.size ≤ V.heap.size from
          fun V h => have hb := (KR.out V h.1).b; ⟨(made_cell hb 0).1, (made_cell hb 1).1, (made_cell hb 2).1, (made_cell hb 3).1, (made_cell hb 4).1, h⟩)
        obtain ⟨i0, i1, i2, i3, i4, _⟩ := SK.out Y ⟨hK0, Nat.le_refl _⟩
        clear hY hY' hBB hB hY0 hYb g0 g1 g2 g3 g4 HO0 HO1 HO2 HZ0 HZ1 HZ2 hKE
        clear wr
        simp only [Nat.mul_zero, Nat.mul_one, Nat.reduceMul, Nat.zero_add, Nat.reduceAdd] at KS0 KS1 SK i0
        go_region_held3 (fun V => V.cell? ⟨B, 0, none⟩ = some (.pointer (some ⟨w.heap.size + 1 + 1 + 1, 2 * 2, none⟩)) ∧ V.cell? ⟨B, 1, none⟩ = some (.int .i64 (s.c).n) ∧ V.cell? ⟨B, 2, none⟩ = some (.int .i64 (s.c).d) ∧ V.cell? ⟨B, 3, none⟩ = some (.int .i64 (t.c).n) ∧ V.cell? ⟨B, 4, none⟩ = some (.int .i64 (t.c).d) ∧ KE V ∧ Y.heap.size ≤ V.heap.size) (exact SK.out _ (by (repeat' (first | with_reducible assumption | apply And.intro | (with_reducible apply KD.out) | (with_reducible apply KB.out) | (with_reducible apply KS0.out) | (with_reducible apply KS1.out) | (with_reducible first | apply Zl2 | apply Zlb | apply Zla | apply Zl8 | apply Zlc) | omega)))) ((refine (HFc.out _).mono ?_; rintro _ _ ⟨rfl, z, rfl⟩; have hzs := z.size_le; have hKz := KB.out _ z (by (repeat' (first | with_reducible assumption | (with_reducible apply KD.out) | (with_reducible apply KB.out) | (with_reducible first | apply Zl2 | apply Zlb | apply Zl8 | apply Zlc) | omega))) (by (repeat' (first | with_reducible assumption | (with_reducible apply KD.out) | (with_reducible apply KB.out) | (with_reducible first | apply Zl2 | apply Zlb | apply Zl8 | apply Zlc) | omega))); obtain ⟨ex, ey, hO1⟩ := KO.out _ hKz; obtain ⟨f0, f1, f2, f3, f4, f5⟩ := froz6 hO1; obtain ⟨e0, e1, e2, e3, e4, e5⟩ := cells6 hO1; have HO1 := Lib.hid hO1; clear hO1))
        rename_i hHeld
        have hE := KR.out _ hHeld.2.2.2.2.2.1
        have hN1 : ((z.w.setCell ⟨w.heap.size + 1 + 1 + 1, 4, none⟩ (.int .i64 (fc).1.n)).setCell ⟨w.heap.size + 1 + 1 + 1, 5, none⟩ (.int .i64 (fc).1.d)).heap[w.heap.size + 1 + 1 + 1]? = some (((fun x y => .cells #[.int .i64 fa.1.n, .int .i64 fa.1.d, .int .i64 fb.1.n, .int .i64 fb.1.d, x, y] 45)) (.int .i64 (fc).1.n) (.int .i64 (fc).1.d)) := obj_set (i := 5) (.int .i64 (fc).1.d) (obj_set (i := 4) (.int .i64 (fc).1.n) HO1.out)
        have HN1 := Lib.hid hN1
        have HE := Lib.hid hE
        clear hHeld hN1 e0 e1 e2 e3 e4 e5 f0 f1 f2 f3 f4 f5 i0 i1 i2 i3 i4 KB KD KS0 KS1 KO KR SK hK0 HO1
        generalize hX : (z.w.setCell ⟨w.heap.size + 1 + 1 + 1, 4, none⟩ (.int .i64 (fc).1.n)).setCell ⟨w.heap.size + 1 + 1 + 1, 5, none⟩ (.int .i64 (fc).1.d) = X at *
        clear hX
        have hXs := HE.out.bl.size
        have hX1 := obj_lt HE.out.c0
        by_cases he : (fc).2 = 0
        · have h0 : ((fc).2 != 0) = false := by simpa using he
          have H0 := Lib.hid he
          clear he
          go_wp2_with fail
          go_roundw
          case rel => exact ⟨2 + 1, by omega, (fun _ => HK0.out (by decide)), (fun _ => HK1.out (by decide)), (fun _ => H0.out), rfl, HE.out.bl, HE.out.c0, HN1.out, HE.out.c2⟩
          case measure => simp [intOf]
        · have h0 : ((fc).2 != 0) = true := by simpa using he
          obtain ⟨r1, r2⟩ := HN.out (fun hh => he (hh.2.2))
          have R2 := Lib.hid r2
          subst r1
          obtain ⟨d0, d1, d2, d3, d4, d5⟩ := froz6 HE.out.c0
          obtain ⟨c0, c1, c2, c3, c4, c5⟩ := cells6 HE.out.c0
          have hbl := HE.out.bl
          clear he r2
          go_wp2
          refine bodyPost_ret (v := .tuple #[.agg #[.int .i64 0, .int .i64 0, .int .i64 0, .int .i64 0, .int .i64 0, .int .i64 0], .int .i64 4]) (by simp [results, Tryz.results86, go_sem, c0, c1, c2, c3, c4, c5]) rfl (Ret.mk (by rw [R2.out]; rfl) (by (repeat' (first | (with_reducible first | apply Zl1 | apply Zl2 | apply Zl3 | apply Zl4 | apply Zl5 | apply Zl6 | apply Zl7 | apply Zl8 | apply Zl9 | apply Zla | apply Zlb | apply Zlc) | (dsimp only; with_reducible first | apply Zl8 | apply Zl2 | apply Zld) | with_reducible assumption | omega | (dsimp only; omega)))))
    · obtain rfl : k = 3 := by omega
      have y0 := HK0.out (by decide)
      have y1 := HK1.out (by decide)
      have y2 := HK2.out (by decide)
      obtain ⟨r1, r2⟩ := HY.out y0 y1 y2
      have R1 := Lib.hid r1
      have R2 := Lib.hid r2
      obtain ⟨d0, d1, d2, d3, d4, d5⟩ := froz6 HO0.out
      obtain ⟨c0, c1, c2, c3, c4, c5⟩ := cells6 HO0.out
      obtain ⟨e0, e1, e2, e3, e4, e5⟩ := cells6 HO1.out
      clear hk3 hk y0 y1 y2 r1 r2
      simp only [show (0 < 3) = True from by simp, show (1 < 3) = True from by simp, show (2 < 3) = True from by simp, if_true] at e0 e1 e2 e3 e4 e5
      generalize resS ⟨fa.1, fb.1, fc.1⟩ = rr at *
      generalize resE ⟨fa.1, fb.1, fc.1⟩ = ee at *
      rw [HV0.out rr] at HR
      go_wp2_with fail
      (with_reducible refine (HR.out _).mono ?_)
      rintro _ _ ⟨rfl, x, rfl⟩
      go_wp2
      refine bodyPost_ret (v := .tuple #[.agg #[.int .i64 rr.a.n, .int .i64 rr.a.d, .int .i64 rr.b.n, .int .i64 rr.b.d, .int .i64 rr.c.n, .int .i64 rr.c.d], .int .i64 ee]) (by simp [results, Tryz.results86, go_sem, c0, c1, c2, c3, c4, c5]) rfl (Ret.mk (by rw [R1.out, R2.out]; rfl) (by (repeat' (first | (with_reducible first | apply Zl1 | apply Zl2 | apply Zl3 | apply Zl4 | apply Zl5 | apply Zl6 | apply Zl7 | apply Zl8 | apply Zl9 | apply Zla | apply Zlb | apply Zlc) | (dsimp only; with_reducible first | apply Zl8 | apply Zl2 | apply Zld) | with_reducible assumption | omega | (dsimp only; omega)))))
end Go.Proofs.YtehgeoipbgpocaaGreatDoor
