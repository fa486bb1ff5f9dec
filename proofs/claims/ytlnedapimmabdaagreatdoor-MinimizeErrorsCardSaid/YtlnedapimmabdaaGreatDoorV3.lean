/- minimize.pair. slices.EqualFunc at diagrams; minimize.Equal. Diagrams of tables of six variables. minimize.Compare. -/
import Derived.Test.YtlnedapimmabdaaGreatDoorV2
namespace Go.Proofs.YtlnedapimmabdaaGreatDoor
set_option linter.unusedVariables false
set_option linter.unusedSimpArgs false
open Go.RowKit Go.Maps
attribute [local go_sem low] Bel.cell Bel.frozen alloc_cell alloc_frozen

def RetP (R : Fn3 → Dg3 → Prop) (fs gs : List Fn3) (w : World) (e : Ending) (w' : World) : Prop := ∃ (v1 v2 : Value) (l1 l2 : List DN), e = .returned (.tuple #[v1, v2, .int .i64 0]) ∧ DsO w' w.heap.size v1 l1 ∧ DsO w' w.heap.size v2 l2 ∧ l1.length = fs.length ∧ l2.length = gs.length ∧ (∀ (j : Nat) (x : DN) (f : Fn3), l1[j]? = some x → fs[j]? = some f → R f x.2.2) ∧ (∀ (j : Nat) (x : DN) (f : Fn3), l2[j]? = some x → gs[j]? = some f → R f x.2.2) ∧ Below w.heap.size w w'
set_option maxRecDepth 100000 in
set_option maxHeartbeats 6400000 in
theorem pair_any (Q : Ending → World → Prop) (R : Fn3 → Dg3 → Prop) (fs gs : List Fn3) (r1 r2 rb n1 n2 m1 m2 : Nat) (v : Int) (ga oa gb ob : Option Addr) (gc oc gd od : Nat) (w : World) (hm1 : m1 ≤ 9223372036854775807) (hm2 : m2 ≤ 9223372036854775807)
    (ck1 : ∀ w', Below w.heap.size w w' → Calls Tryz.prog 29 #[.agg #[.slice ga n1 gc, .slice oa m1 oc], .int .i64 v] w' (Ret (.int .i64 (r1 : Int)) w'))
    (ck2 : ∀ w', Below w.heap.size w w' → Calls Tryz.prog 29 #[.agg #[.slice gb n2 gd, .slice ob m2 od], .int .i64 v] w' (Ret (.int .i64 (r2 : Int)) w'))
    (bo : r1 = 0 → r2 = 0 → m1 = m2 → ∀ w', Below w.heap.size w w' → ∀ T, w'.heap[T]? = some (.cells #[.slice ga n1 gc, .slice oa m1 oc, .slice gb n2 gd, .slice ob m2 od] 25 (0, 0)) → Calls Tryz.prog 38 #[.int .i64 v, .slice (some ⟨T, 0, none⟩) 2 2] w' (Ret (.int .i64 (rb : Int)) w'))
    (ou1 : r1 = 0 → r2 = 0 → m1 = m2 → rb = 0 → ∀ w', Below w.heap.size w w' → Calls Tryz.prog 47 #[.agg #[.slice ga n1 gc, .slice oa m1 oc]] w' (RetO R fs w'))
    (ou2 : r1 = 0 → r2 = 0 → m1 = m2 → rb = 0 → ∀ w', Below w.heap.size w w' → Calls Tryz.prog 47 #[.agg #[.slice gb n2 gd, .slice ob m2 od]] w' (RetO R gs w'))
    (h1 : r1 ≠ 0 → ∀ w', Below w.heap.size w w' → Q (.returned (.tuple #[.slice none 0 0, .slice none 0 0, .int .i64 (r1 : Int)])) w')
    (h2 : r1 = 0 → r2 ≠ 0 → ∀ w', Below w.heap.size w w' → Q (.returned (.tuple #[.slice none 0 0, .slice none 0 0, .int .i64 (r2 : Int)])) w')
    (h3 : r1 = 0 → r2 = 0 → m1 ≠ m2 → ∀ w', Below w.heap.size w w' → Q (.returned (.tuple #[.slice none 0 0, .slice none 0 0, .int .i64 5])) w')
    (h4 : r1 = 0 → r2 = 0 → m1 = m2 → rb ≠ 0 → ∀ w', Below w.heap.size w w' → Q (.returned (.tuple #[.slice none 0 0, .slice none 0 0, .int .i64 (rb : Int)])) w')
    (h5 : r1 = 0 → r2 = 0 → m1 = m2 → rb = 0 → ∀ e w', RetP R fs gs w e w' → Q e w') :
    Calls Tryz.prog 41 #[.agg #[.slice ga n1 gc, .slice oa m1 oc], .agg #[.slice gb n2 gd, .slice ob m2 od], .int .i64 v] w Q := by
  have CK1 := Lib.hid ck1
  have CK2 := Lib.hid ck2
  have BO := Lib.hid bo
  have OU1 := Lib.hid ou1
  have OU2 := Lib.hid ou2
  have H1 := Lib.hid h1
  have H2 := Lib.hid h2
  have H3 := Lib.hid h3
  have H4 := Lib.hid h4
  have H5 := Lib.hid h5
  have hb0 : Below w.heap.size w ((w.alloc (.cells #[.slice ga n1 gc, .slice oa m1 oc] 25)).alloc (.cells #[.slice gb n2 gd, .slice ob m2 od] 25)) := ((Below.refl _ w).alloc (Nat.le_refl _) _).alloc (by simp) _
  have hx2 := World.alloc_heap_new (w.alloc (.cells #[.slice ga n1 gc, .slice oa m1 oc] 25)) (.cells #[.slice gb n2 gd, .slice ob m2 od] 25 (0, 0))
  have hx1 := obj_in ((Below.refl _ (w.alloc (.cells #[.slice ga n1 gc, .slice oa m1 oc] 25))).alloc (Nat.le_refl _) (.cells #[.slice gb n2 gd, .slice ob m2 od] 25 (0, 0))) (World.alloc_heap_new w (.cells #[.slice ga n1 gc, .slice oa m1 oc] 25 (0, 0)))
  rw [World.size_alloc] at hx2
  have HX1 := Lib.hid hx1
  have HX2 := Lib.hid hx2
  have HB0 := Lib.hid hb0
  clear hb0 hx1 hx2 ck1 ck2 bo ou1 ou2 h1 h2 h3 h4 h5
  have i0 : ∀ w : World, (Instr.index 115 (.agg #[.slice ga n1 gc, .slice oa m1 oc, .slice gb n2 gd, .slice ob m2 od]) (.int .i64 0)).run Tryz.prog w = .ok (.agg #[.slice ga n1 gc, .slice oa m1 oc]) w := fun w => by kernel_rfl
  have i1 : ∀ w : World, (Instr.index 115 (.agg #[.slice ga n1 gc, .slice oa m1 oc, .slice gb n2 gd, .slice ob m2 od]) (.int .i64 1)).run Tryz.prog w = .ok (.agg #[.slice gb n2 gd, .slice ob m2 od]) w := fun w => by kernel_rfl
  go_enter Tryz.func41, Tryz.ntmps41
  go_wp2_with fail
  go_loopw [16] (fun iv wr => ∃ k : Int, iv = .int .i64 k ∧ (k = 0 ∨ k = 1 ∨ k = 2) ∧ (0 < k → r1 = 0) ∧ (1 < k → r2 = 0) ∧ wr.heap[w.heap.size]? = some (.cells #[.slice ga n1 gc, .slice oa m1 oc] 25 (0, 0)) ∧ wr.heap[w.heap.size + 1]? = some (.cells #[.slice gb n2 gd, .slice ob m2 od] 25 (0, 0)) ∧ Below w.heap.size w wr ∧ w.heap.size + 2 ≤ wr.heap.size) (fun iv _ => 2 - (intOf iv).toNat)
  case atStart => exact ⟨0, rfl, Or.inl rfl, fun h => by omega, fun h => by omega, HX1.out, HX2.out, HB0.out, by simp⟩
  case round =>
    rename World => wo
    obtain ⟨k, rfl, hk, hr1, hr2, hx1, hx2, hbw, hws⟩ := hrel
    rcases hk with rfl | rfl | rfl
    · have hr : True := trivial
      clear hr1 hr2
      have hal : Below wo.heap.size wo (wo.alloc (.cells #[.slice ga n1 gc, .slice oa m1 oc] 25)) := (Below.refl _ _).alloc (Nat.le_refl _) _
      have HAL := Lib.hid hal
      have HCK := Lib.hid (CK1.out _ (hbw.trans (hal.mono hbw.size)))
      have HHR := Lib.hid hr
      have HY1 := Lib.hid hx1
      have HY2 := Lib.hid hx2
      clear hal hx1 hx2 hr
      by_cases hz : r1 = 0
      · have HZ := Lib.hid hz
        have fr : ((r1 : Int) != 0) = false := by simp; omega
        clear hz
        go_wp2_with fail
        refine HCK.out.mono ?_
        rintro _ _ ⟨rfl, x, rfl⟩
        dsimp only
        go_wp2
        have hbx := hbw.trans ((HAL.out.trans (x.below.mono HAL.out.size)).mono hbw.size)
        have hsx := (HAL.out.trans (x.below.mono HAL.out.size)).size
        refine ⟨⟨1, rfl, by omega, fun _ => HZ.out, fun h => by omega, obj_in x.below (obj_in HAL.out HY1.out), obj_in x.below (obj_in HAL.out HY2.out), hbx, by omega⟩, by simp [intOf]⟩
      · have HZ := Lib.hid hz
        have fr : ((r1 : Int) != 0) = true := by simp; omega
        clear hz
        go_wp2_with fail
        refine HCK.out.mono ?_
        rintro _ _ ⟨rfl, x, rfl⟩
        dsimp only
        go_wp2
        refine bodyPost_ret (v := .tuple #[.slice none 0 0, .slice none 0 0, .int .i64 (r1 : Int)]) (by simp [results, Tryz.results41, go_sem]) rfl ?_
        exact H1.out HZ.out _ (hbw.trans ((HAL.out.trans (x.below.mono HAL.out.size)).mono hbw.size))
    · have hr : r1 = 0 := hr1 (by omega)
      clear hr1 hr2
      have hal : Below wo.heap.size wo (wo.alloc (.cells #[.slice gb n2 gd, .slice ob m2 od] 25)) := (Below.refl _ _).alloc (Nat.le_refl _) _
      have HAL := Lib.hid hal
      have HCK := Lib.hid (CK2.out _ (hbw.trans (hal.mono hbw.size)))
      have HHR := Lib.hid hr
      have HY1 := Lib.hid hx1
      have HY2 := Lib.hid hx2
      clear hal hx1 hx2 hr
      by_cases hz : r2 = 0
      · have HZ := Lib.hid hz
        have fr : ((r2 : Int) != 0) = false := by simp; omega
        clear hz
        go_wp2_with fail
        refine HCK.out.mono ?_
        rintro _ _ ⟨rfl, x, rfl⟩
        dsimp only
        go_wp2
        have hbx := hbw.trans ((HAL.out.trans (x.below.mono HAL.out.size)).mono hbw.size)
        have hsx := (HAL.out.trans (x.below.mono HAL.out.size)).size
        refine ⟨⟨2, rfl, by omega, fun _ => HHR.out, fun h => HZ.out, obj_in x.below (obj_in HAL.out HY1.out), obj_in x.below (obj_in HAL.out HY2.out), hbx, by omega⟩, by simp [intOf]⟩
      · have HZ := Lib.hid hz
        have fr : ((r2 : Int) != 0) = true := by simp; omega
        clear hz
        go_wp2_with fail
        refine HCK.out.mono ?_
        rintro _ _ ⟨rfl, x, rfl⟩
        dsimp only
        go_wp2
        refine bodyPost_ret (v := .tuple #[.slice none 0 0, .slice none 0 0, .int .i64 (r2 : Int)]) (by simp [results, Tryz.results41, go_sem]) rfl ?_
        exact H2.out HHR.out HZ.out _ (hbw.trans ((HAL.out.trans (x.below.mono HAL.out.size)).mono hbw.size))
    · have hr := hr1 (by omega)
      have hrr := hr2 (by omega)
      clear hr1 hr2
      obtain ⟨a1, a2, -⟩ := box2 hx1
      obtain ⟨c1, c2, -⟩ := box2 hx2
      have HR := Lib.hid hr
      have HRR := Lib.hid hrr
      have HY1 := Lib.hid hx1
      have HY2 := Lib.hid hx2
      clear hr hrr hx1 hx2
      by_cases hm : m1 = m2
      · have HM := Lib.hid hm
        have hal : Below wo.heap.size wo (wo.alloc (.cells #[.slice ga n1 gc, .slice oa m1 oc, .slice gb n2 gd, .slice ob m2 od] 25)) := (Below.refl _ _).alloc (Nat.le_refl _) _
        have hnx := World.alloc_heap_new wo (.cells #[.slice ga n1 gc, .slice oa m1 oc, .slice gb n2 gd, .slice ob m2 od] 25 (0, 0))
        have hb2 := hbw.trans (hal.mono hbw.size)
        have HC := Lib.hid (BO.out HR.out HRR.out hm _ hb2 _ hnx)
        have HB2 := Lib.hid hb2
        have HZ1 := Lib.hid (obj_in hal HY1.out)
        have HZ2 := Lib.hid (obj_in hal HY2.out)
        have fm : ((m1 : Int) != (m2 : Int)) = false := by simp; omega
        clear hal hnx hb2 hm
        go_wp2_with fail
        refine HC.out.mono ?_
        rintro _ _ ⟨rfl, y, rfl⟩
        dsimp only
        have hby := HB2.out.trans (y.below.mono HB2.out.size)
        have hy1 := obj_in y.below HZ1.out
        have hy2 := obj_in y.below HZ2.out
        obtain ⟨e1, e2, -⟩ := box2 hy1
        obtain ⟨e3, e4, -⟩ := box2 hy2
        have HBY := Lib.hid hby
        have HW1 := Lib.hid hy1
        have HW2 := Lib.hid hy2
        clear hby hy1 hy2
        by_cases hq : rb = 0
        · have HQ := Lib.hid hq
          have fq : ((rb : Int) != 0) = false := by simp; omega
          clear hq
          go_wp2_with fail
          refine (OU1.out HR.out HRR.out HM.out HQ.out _ HBY.out).mono ?_
          rintro _ W1 ⟨u1, l1, rfl, h11, h12, h13, h14⟩
          dsimp only
          have hb1 := HBY.out.trans (h14.mono HBY.out.size)
          obtain ⟨g1, g2, -⟩ := box2 (obj_in h14 HW2.out)
          have HP1 := Lib.hid h11
          have HP2 := Lib.hid h12
          have HP3 := Lib.hid h13
          have HB1 := Lib.hid hb1
          clear h11 h12 h13 h14 hb1
          go_wp2_with fail
          refine (OU2.out HR.out HRR.out HM.out HQ.out _ HB1.out).mono ?_
          rintro _ W2 ⟨u2, l2, rfl, h21, h22, h23, h24⟩
          dsimp only
          have HP4 := Lib.hid h21
          have HP5 := Lib.hid h22
          have HP6 := Lib.hid h23
          have HP7 := Lib.hid h24
          clear h21 h22 h23 h24
          go_wp2
          refine bodyPost_ret (v := .tuple #[u1, u2, .int .i64 0]) (by simp [results, Tryz.results41, go_sem]) rfl ?_
          exact H5.out HR.out HRR.out HM.out HQ.out _ _ ⟨u1, u2, l1, l2, rfl, dsO_lo (HP1.out.of HP7.out) HBY.out.size, dsO_lo HP4.out HB1.out.size, HP2.out, HP5.out, HP3.out, HP6.out, HB1.out.trans (HP7.out.mono HB1.out.size)⟩
        · have HQ := Lib.hid hq
          have fq : ((rb : Int) != 0) = true := by simp; omega
          clear hq
          go_wp2
          refine bodyPost_ret (v := .tuple #[.slice none 0 0, .slice none 0 0, .int .i64 (rb : Int)]) (by simp [results, Tryz.results41, go_sem]) rfl ?_
          exact H4.out HR.out HRR.out HM.out HQ.out _ HBY.out
      · have HM := Lib.hid hm
        have fm : ((m1 : Int) != (m2 : Int)) = true := by simp; omega
        clear hm
        go_wp2
        refine bodyPost_ret (v := .tuple #[.slice none 0 0, .slice none 0 0, .int .i64 5]) (by simp [results, Tryz.results41, go_sem]) rfl ?_
        exact H3.out HR.out HRR.out HM.out _ hbw
end Go.Proofs.YtlnedapimmabdaaGreatDoor

namespace Go.Proofs.YtlnedapimmabdaaGreatDoor
set_option linter.unusedVariables false
set_option linter.unusedSimpArgs false
open Go.RowKit Go.Maps
attribute [local go_sem low] Bel.cell Bel.frozen alloc_cell alloc_frozen

theorem z3_inj : ∀ {L M : List (Nat × Nat × Nat)}, L.map z3 = M.map z3 → L = M
  | [], [], _ => rfl
  | [], _ :: _, h => by simp at h
  | _ :: _, [], h => by simp at h
  | (a, b, c) :: L, (a', b', c') :: M, h => by
    rw [List.map_cons, List.map_cons] at h
    injection h with h0 h4
    have h5 := z3_inj h4
    subst h5
    simp [z3] at h0
    obtain ⟨h1, h2, h3⟩ := h0
    have h1 : a = a' := by omega
    have h2 : b = b' := by omega
    have h3 : c = c' := by omega
    rw [h1, h2, h3]
theorem dgEq (x y : DN) : decide ((x.2.2.2 : Int) = (y.2.2.2 : Int) ∧ x.2.2.1.map z3 = y.2.2.1.map z3) = decide (x.2.2 = y.2.2) := by
  by_cases h : x.2.2 = y.2.2
  · rw [h]; simp
  · rw [decide_eq_false h]
    refine decide_eq_false fun ⟨h1, h2⟩ => h ?_
    have h3 := z3_inj h2
    have h4 : x.2.2.2 = y.2.2.2 := by omega
    obtain ⟨x1, x2, x3, x4⟩ := x
    obtain ⟨y1, y2, y3, y4⟩ := y
    simp_all
set_option maxRecDepth 100000 in
set_option maxHeartbeats 6400000 in
theorem eqFuncD_any (L M : List DN) (v1 v2 : Value) (B1 B2 : Nat) (w : World) (h1 : DsO w B1 v1 L) (h2 : DsO w B2 v2 M) (hl : L.length ≤ 100000000) (hm : M.length ≤ 100000000)
    (hL : ∀ x ∈ L, x.2.2.1.length ≤ 1000000) (hM : ∀ x ∈ M, x.2.2.1.length ≤ 1000000) :
    Calls Tryz.prog 42 #[v1, v2, .func (.func 26) #[] #[]] w (Ret (.bool (decide (L.map (fun x => x.2.2) = M.map (fun x => x.2.2)))) w) := by
  obtain ⟨a1, c1, rfl⟩ := h1.val
  obtain ⟨a2, c2, rfl⟩ := h2.val
  by_cases hlm : L.length = M.length
  · have HEQ := Lib.hid hlm
    have H1 := Lib.hid h1
    have H2 := Lib.hid h2
    have HL := Lib.hid hL
    have HM := Lib.hid hM
    have f0 : ((L.length : Int) != (M.length : Int)) = false := by simp; omega
    obtain ⟨q, hq⟩ : ∃ q, decide (L.map (fun x => x.2.2) = M.map (fun x => x.2.2)) = q := ⟨_, rfl⟩
    rw [hq]
    have HQ := Lib.hid hq
    clear h1 h2 hlm hq hL hM
    go_enter Tryz.func42, Tryz.ntmps42
    go_wp2
    go_loopw [17] (fun iv wr => ∃ k : Nat, iv = .int .i64 (k : Int) ∧ k ≤ L.length ∧ (L.map (fun x => x.2.2)).take k = (M.map (fun x => x.2.2)).take k ∧ Below w.heap.size w wr) (fun iv _ => L.length - (intOf iv).toNat)
    case atStart => exact ⟨0, rfl, by omega, by simp, Below.refl _ _⟩
    case round =>
      obtain ⟨k, rfl, hk, htk, hb⟩ := hrel
      have HTK := Lib.hid htk
      have hbs := hb.size
      clear htk
      rcases Nat.lt_or_ge k L.length with hkl | hkl
      · have hkm : k < M.length := by have := HEQ.out; omega
        obtain ⟨x, hx⟩ : ∃ x, L[k]? = some x := ⟨_, List.getElem?_eq_getElem hkl⟩
        obtain ⟨z, hz⟩ : ∃ z, M[k]? = some z := ⟨_, List.getElem?_eq_getElem hkm⟩
        obtain ⟨b1, o1, e1, hb1, x0, x1⟩ := (H1.out.of hb).at hx
        obtain ⟨b2, o2, e2, hb2, z0, z1⟩ := (H2.out.of hb).at hz
        injection e1 with e1 _ e11
        injection e2 with e2 _ e22
        subst e1 e2
        have f1 : decide ((k : Int) < (L.length : Int)) = true := decide_eq_true (by omega)
        have hib : (0 ≤ (k : Int) ∧ (k : Int) < (L.length : Int)) := ⟨by omega, by omega⟩
        have hib2 : (0 ≤ (k : Int) ∧ (k : Int) < (M.length : Int)) := ⟨by omega, by omega⟩
        have hxi := ((H1.out.of hb).2 x (List.mem_of_getElem? hx)).1
        have hzi := ((H2.out.of hb).2 z (List.mem_of_getElem? hz)).1
        have HC := fun W (hW : Below wr.heap.size wr W) => dEqual_any (x.1, x.2.1, x.2.2.1.map z3, (x.2.2.2 : Int)) (z.1, z.2.1, z.2.2.1.map z3, (z.2.2.2 : Int)) W ((hxi.of hW).up hW.size) ((hzi.of hW).up hW.size) (by rw [List.length_map]; exact HL.out x (List.mem_of_getElem? hx)) (by rw [List.length_map]; exact HM.out z (List.mem_of_getElem? hz))
        dsimp only at HC
        simp only [dgEq, List.length_map] at HC
        have HX := Lib.hid (And.intro hx hz)
        clear hx hz hxi hzi e11 e22
        obtain ⟨r, hr⟩ : ∃ r, decide (x.2.2 = z.2.2) = r := ⟨_, rfl⟩
        rw [hr] at HC
        have HC := Lib.hid HC
        cases r
        · have he : ¬ x.2.2 = z.2.2 := of_decide_eq_false hr
          have hq0 : q = false := by
            rw [← HQ.out]
            refine decide_eq_false fun e => ?_
            have h1 : (L.map (fun x => x.2.2))[k]? = some x.2.2 := by rw [List.getElem?_map, HX.out.1]; rfl
            rw [e, List.getElem?_map, HX.out.2] at h1
            injection h1 with h1
            exact he h1.symm
          subst hq0
          clear he hr
          go_wp2_with fail
          refine (HC.out _ (by (repeat' (first | (with_reducible first | apply Zl1 | apply Zl2 | apply Zl3 | apply Zl4 | apply Zl5 | apply Zl6 | apply Zl7 | apply Zl8 | apply Zl9 | apply Zla | apply Zlb | apply Zlc) | (dsimp only; with_reducible first | apply Zl8 | apply Zl2 | apply Zld) | with_reducible assumption | omega | (dsimp only; omega))))).mono ?_
          rintro _ _ ⟨rfl, y, rfl⟩
          dsimp only
          go_wp2
          go_ret
          exact Ret.mk (by rfl) (by (repeat' (first | (with_reducible first | apply Zl1 | apply Zl2 | apply Zl3 | apply Zl4 | apply Zl5 | apply Zl6 | apply Zl7 | apply Zl8 | apply Zl9 | apply Zla | apply Zlb | apply Zlc) | (dsimp only; with_reducible first | apply Zl8 | apply Zl2 | apply Zld) | with_reducible assumption | omega | (dsimp only; omega))))
        · have HE := Lib.hid (of_decide_eq_true hr)
          clear hr
          go_wp2_with fail
          refine (HC.out _ (by (repeat' (first | (with_reducible first | apply Zl1 | apply Zl2 | apply Zl3 | apply Zl4 | apply Zl5 | apply Zl6 | apply Zl7 | apply Zl8 | apply Zl9 | apply Zla | apply Zlb | apply Zlc) | (dsimp only; with_reducible first | apply Zl8 | apply Zl2 | apply Zld) | with_reducible assumption | omega | (dsimp only; omega))))).mono ?_
          rintro _ _ ⟨rfl, y, rfl⟩
          dsimp only
          go_wp2
          go_roundw
          case rel =>
            refine ⟨k + 1, by go_num, by omega, ?_, by (repeat' (first | (with_reducible first | apply Zl1 | apply Zl2 | apply Zl3 | apply Zl4 | apply Zl5 | apply Zl6 | apply Zl7 | apply Zl8 | apply Zl9 | apply Zla | apply Zlb | apply Zlc) | (dsimp only; with_reducible first | apply Zl8 | apply Zl2 | apply Zld) | with_reducible assumption | omega | (dsimp only; omega)))⟩
            rw [List.take_add_one, List.take_add_one, List.getElem?_map, List.getElem?_map, HX.out.1, HX.out.2, HTK.out, Option.map_some, Option.map_some, HE.out]
          case measure => simp [intOf]; omega
      · have hke : k = L.length := by omega
        subst hke
        have f1 : decide ((L.length : Int) < (L.length : Int)) = false := decide_eq_false (by omega)
        have hq1 : q = true := by
          rw [← HQ.out]
          have h := HTK.out
          rw [List.take_of_length_le (by rw [List.length_map]; omega), List.take_of_length_le (by rw [List.length_map]; have := HEQ.out; omega)] at h
          exact decide_eq_true h
        subst hq1
        go_wp2
        go_ret
        exact Ret.mk (by rfl) (by (repeat' (first | (with_reducible first | apply Zl1 | apply Zl2 | apply Zl3 | apply Zl4 | apply Zl5 | apply Zl6 | apply Zl7 | apply Zl8 | apply Zl9 | apply Zla | apply Zlb | apply Zlc) | (dsimp only; with_reducible first | apply Zl8 | apply Zl2 | apply Zld) | with_reducible assumption | omega | (dsimp only; omega))))
  · have f0 : ((L.length : Int) != (M.length : Int)) = true := by simp; omega
    rw [decide_eq_false (fun e => hlm (by have := congrArg List.length e; rwa [List.length_map, List.length_map] at this))]
    clear h1 h2 hlm hL hM
    go_enter Tryz.func42, Tryz.ntmps42
    go_wp2
    go_ret
    exact Ret.mk (by rfl) (by (repeat' (first | (with_reducible first | apply Zl1 | apply Zl2 | apply Zl3 | apply Zl4 | apply Zl5 | apply Zl6 | apply Zl7 | apply Zl8 | apply Zl9 | apply Zla | apply Zlb | apply Zlc) | (dsimp only; with_reducible first | apply Zl8 | apply Zl2 | apply Zld) | with_reducible assumption | omega | (dsimp only; omega))))
set_option maxRecDepth 100000 in
set_option maxHeartbeats 1600000 in
theorem Equal_err (e0 : Int) (x y : Value) (v : Int) (w : World) (hx : ∃ ga n gc oa m oc, x = .agg #[.slice ga n gc, .slice oa m oc]) (hy : ∃ ga n gc oa m oc, y = .agg #[.slice ga n gc, .slice oa m oc]) (he : e0 ≠ 0)
    (hp : ∀ w', Below w.heap.size w w' → Calls Tryz.prog 41 #[x, y, .int .i64 v] w' (Ret (.tuple #[.slice none 0 0, .slice none 0 0, .int .i64 e0]) w')) :
    Calls Tryz.prog 18 #[x, y, .int .i64 v] w (Ret (.tuple #[.bool false, .int .i64 e0]) w) := by
  obtain ⟨ga, n, gc, oa, m, oc, rfl⟩ := hx
  obtain ⟨gb, n2, gd, ob, m2, od, rfl⟩ := hy
  have hb0 : Below w.heap.size w ((w.alloc (.cells #[.slice ga n gc, .slice oa m oc] 25)).alloc (.cells #[.slice gb n2 gd, .slice ob m2 od] 25)) := ((Below.refl _ w).alloc (Nat.le_refl _) _).alloc (by simp) _
  have HP := Lib.hid (hp _ hb0)
  have fr : (e0 != 0) = true := by simp; omega
  clear hp hb0 he
  go_enter Tryz.func18, Tryz.ntmps18
  go_wp2_with fail
  refine HP.out.mono ?_
  rintro _ _ ⟨rfl, y, rfl⟩
  dsimp only
  go_wp2
  refine bodyPost_ret (v := .tuple #[.bool false, .int .i64 e0]) (by simp [results, Tryz.results18, go_sem]) rfl (Ret.mk rfl (by (repeat' (first | (with_reducible first | apply Zl1 | apply Zl2 | apply Zl3 | apply Zl4 | apply Zl5 | apply Zl6 | apply Zl7 | apply Zl8 | apply Zl9 | apply Zla | apply Zlb | apply Zlc) | (dsimp only; with_reducible first | apply Zl8 | apply Zl2 | apply Zld) | with_reducible assumption | omega | (dsimp only; omega)))))
set_option maxRecDepth 100000 in
set_option maxHeartbeats 1600000 in
theorem Equal_ok (R : Fn3 → Dg3 → Prop) (fs gs : List Fn3) (q : Bool) (x y : Value) (v : Int) (w : World) (hx : ∃ ga n gc oa m oc, x = .agg #[.slice ga n gc, .slice oa m oc]) (hy : ∃ ga n gc oa m oc, y = .agg #[.slice ga n gc, .slice oa m oc]) (hfl : fs.length ≤ 1000000) (hgl : gs.length ≤ 1000000)
    (hR : ∀ f d, R f d → d.1.length ≤ 1000000) (hq : ∀ ds es : List Dg3, ds.length = fs.length → es.length = gs.length → (∀ (j : Nat) d f, ds[j]? = some d → fs[j]? = some f → R f d) → (∀ (j : Nat) d f, es[j]? = some d → gs[j]? = some f → R f d) → decide (ds = es) = q)
    (hp : ∀ w', Below w.heap.size w w' → Calls Tryz.prog 41 #[x, y, .int .i64 v] w' (RetP R fs gs w')) :
    Calls Tryz.prog 18 #[x, y, .int .i64 v] w (Ret (.tuple #[.bool q, .int .i64 0]) w) := by
  obtain ⟨ga, n, gc, oa, m, oc, rfl⟩ := hx
  obtain ⟨gb, n2, gd, ob, m2, od, rfl⟩ := hy
  have hb0 : Below w.heap.size w ((w.alloc (.cells #[.slice ga n gc, .slice oa m oc] 25)).alloc (.cells #[.slice gb n2 gd, .slice ob m2 od] 25)) := ((Below.refl _ w).alloc (Nat.le_refl _) _).alloc (by simp) _
  have HP := Lib.hid (hp _ hb0)
  have HB0 := Lib.hid hb0
  have HR := Lib.hid hR
  have HQ := Lib.hid hq
  have HF := Lib.hid hfl
  have HG := Lib.hid hgl
  clear hp hb0 hR hq hfl hgl
  go_enter Tryz.func18, Tryz.ntmps18
  go_wp2_with fail
  refine HP.out.mono ?_
  rintro _ W1 ⟨v1, v2, l1, l2, rfl, p1, p2, p3, p4, p5, p6, p7⟩
  have hb1 := HB0.out.trans (p7.mono HB0.out.size)
  have sz : ∀ (l : List DN) (fs : List Fn3), l.length = fs.length → (∀ (j : Nat) (x : DN) (f : Fn3), l[j]? = some x → fs[j]? = some f → R f x.2.2) → ∀ x ∈ l, x.2.2.1.length ≤ 1000000 := fun l fs hlen h x hx => by
    obtain ⟨j, hj, hjx⟩ := List.getElem_of_mem hx
    exact HR.out _ _ (h j x (fs[j]'(by omega)) (by rw [List.getElem?_eq_getElem hj, hjx]) (List.getElem?_eq_getElem (by omega)))
  have hEQ := fun W (hW : Below W1.heap.size W1 W) => eqFuncD_any l1 l2 v1 v2 _ _ W (p1.of hW) (p2.of hW) (by have := HF.out; omega) (by have := HG.out; omega) (sz l1 fs p3 p5) (sz l2 gs p4 p6)
  have hdq := HQ.out (l1.map fun x => x.2.2) (l2.map fun x => x.2.2) (by rw [List.length_map]; exact p3) (by rw [List.length_map]; exact p4) (fun j d f hd hf => by rw [List.getElem?_map] at hd; obtain ⟨z, hz, rfl⟩ := Option.map_eq_some_iff.1 hd; exact p5 j z f hz hf) (fun j d f hd hf => by rw [List.getElem?_map] at hd; obtain ⟨z, hz, rfl⟩ := Option.map_eq_some_iff.1 hd; exact p6 j z f hz hf)
  rw [hdq] at hEQ
  have HE := Lib.hid hEQ
  have HB1 := Lib.hid hb1
  clear p1 p2 p3 p4 p5 p6 p7 hb1 sz hEQ hdq
  dsimp only
  go_wp2_with fail
  refine (HE.out _ (Below.refl _ _)).mono ?_
  rintro _ _ ⟨rfl, y, rfl⟩
  dsimp only
  go_wp2
  refine bodyPost_ret (v := .tuple #[.bool q, .int .i64 0]) (by simp [results, Tryz.results18, go_sem]) rfl (Ret.mk rfl (HB1.out.trans (y.below.mono HB1.out.size)))
end Go.Proofs.YtlnedapimmabdaaGreatDoor

namespace Go.Proofs.YtlnedapimmabdaaGreatDoor
set_option linter.unusedVariables false
set_option linter.unusedSimpArgs false
open Go.RowKit Go.Maps
attribute [local go_sem low] Bel.cell Bel.frozen alloc_cell alloc_frozen

def R6 (f : Fn3) (d : Dg3) : Prop := ∃ t, t < 2 ^ 64 ∧ f = (fun ρ => t.testBit (idx6 ρ)) ∧ d = (bldN t, bldR t)
theorem litB6 {k : Nat} (hk : k < 6) : litN k true = bldN (mask6 k) ∧ 2 = bldR (mask6 k) := by
  have h : ∀ k, k < 6 → litN k true = bldN (mask6 k) ∧ 2 = bldR (mask6 k) := by decide +kernel
  exact h k hk
theorem con6 : (bldN 0 = [] ∧ bldR 0 = 0) ∧ bldN 18446744073709551615 = [] ∧ bldR 18446744073709551615 = 1 := by decide +kernel
theorem R6_eq {f g : Fn3} {d e : Dg3} (h1 : R6 f d) (h2 : R6 g e) : d = e ↔ f = g := by
  obtain ⟨t, ht, rfl, rfl⟩ := h1
  obtain ⟨u, hu, rfl, rfl⟩ := h2
  constructor
  · intro h
    injection h with h3 h4
    funext ρ
    rw [← bld_val ht, ← bld_val hu, h3, h4]
  · intro h
    have : t = u := table_eq ht hu fun v hv => by
      have := congrFun h (asg 0 v)
      rwa [idx6_bits v, Nat.mod_eq_of_lt hv] at this
    rw [this]
theorem net6 {G : List Gt} (hok : okL 6 G) (on : Nat → Bool) : DgNet R6 G on where
  len := fun f d ⟨t, ht, _, h⟩ => by
    rw [h]
    have := bld_len ht
    dsimp only
    omega
  con := fun b => by
    obtain ⟨⟨h1, h2⟩, h3, h4⟩ := con6
    cases b
    · exact ⟨0, by decide, by funext ρ; simp, by rw [h1, h2]; rfl⟩
    · refine ⟨18446744073709551615, by decide, ?_, by rw [h3, h4]; rfl⟩
      funext ρ
      have h := idx6_lt ρ
      rw [show 18446744073709551615 = 2 ^ 64 - 1 by decide, Nat.testBit_two_pow_sub_one, decide_eq_true h]
  lit := fun i g hi hon h1 w => by
    have hil := (List.getElem?_eq_some_iff.1 hi).1
    have hv : g.2.1 < 6 := by rcases hok i g hi with h | h | h | h <;> omega
    obtain ⟨e1, e2⟩ := litB6 hv
    refine (Literal_ok g.2.1 true (by omega) w).mono fun e w' h => ⟨(litN g.2.1 true, 2), ⟨mask6 g.2.1, mask6_lt _, ?_, by rw [e1, ← e2]⟩, h⟩
    funext ρ
    rw [vl_at hok ρ hil, gtAt_some hi, ev1, if_pos h1, mask6_test (idx6_lt ρ), idx6_test ρ _ hv]
  neg := fun i g k hi hon h2 hk d ad cap w ⟨t, ht, hf, hd⟩ hin => by
    have hil := (List.getElem?_eq_some_iff.1 hi).1
    subst hd
    refine (Not_tab t ht ad cap w hin).mono fun e w' h => ⟨(bldN (notT t), bldR (notT t)), ⟨notT t, notT_lt t, ?_, rfl⟩, h⟩
    funext ρ
    have := congrFun hf ρ
    replace this : vl ρ G k = t.testBit (idx6 ρ) := this
    rw [vl_at hok ρ hil, gtAt_some hi, ev1, if_neg (by omega), if_pos h2, hk, notT_test ht (idx6_lt ρ), ← this]
    simp
  conj := fun i g hi hon h3 j k hj d d' ad ad' cap cap' w ⟨t, ht, hf, hd⟩ ⟨u, hu, hg, hd'⟩ hin hin' => by
    subst hd hd'
    refine (And_tab t u ht hu ad ad' cap cap' w hin hin').mono fun e w' h => ⟨(bldN (t &&& u), bldR (t &&& u)), ⟨t &&& u, Nat.and_lt_two_pow _ hu, ?_, rfl⟩, h⟩
    funext ρ
    have h1 := congrFun hf ρ
    have h2 := congrFun hg ρ
    rw [take_snoc hj, List.all_append, h1, Nat.testBit_and, ← h2]
    simp
  disj := fun i g hi hon h3 j k hj d d' ad ad' cap cap' w ⟨t, ht, hf, hd⟩ ⟨u, hu, hg, hd'⟩ hin hin' => by
    subst hd hd'
    refine (Or_tab t u ht hu ad ad' cap cap' w hin hin').mono fun e w' h => ⟨(bldN (t ||| u), bldR (t ||| u)), ⟨t ||| u, Nat.or_lt_two_pow ht hu, ?_, rfl⟩, h⟩
    funext ρ
    have h1 := congrFun hf ρ
    have h2 := congrFun hg ρ
    rw [take_snoc hj, List.any_append, h1, Nat.testBit_or, ← h2]
    simp
end Go.Proofs.YtlnedapimmabdaaGreatDoor

namespace Go.Proofs.YtlnedapimmabdaaGreatDoor
set_option linter.unusedVariables false
set_option linter.unusedSimpArgs false
open Go.RowKit Go.Maps
attribute [local go_sem low] Bel.cell Bel.frozen alloc_cell alloc_frozen

set_option maxRecDepth 100000 in
set_option maxHeartbeats 1600000 in
theorem Compare_err (e0 : Int) (x y : Value) (v : Int) (w : World) (hx : ∃ ga n gc oa m oc, x = .agg #[.slice ga n gc, .slice oa m oc]) (hy : ∃ ga n gc oa m oc, y = .agg #[.slice ga n gc, .slice oa m oc]) (he : e0 ≠ 0)
    (hp : ∀ w', Below w.heap.size w w' → Calls Tryz.prog 41 #[x, y, .int .i64 v] w' (Ret (.tuple #[.slice none 0 0, .slice none 0 0, .int .i64 e0]) w')) :
    Calls Tryz.prog 19 #[x, y, .int .i64 v] w (Ret (.tuple #[.agg #[.int .i64 0, .slice none 0 0], .bool false, .int .i64 e0]) w) := by
  obtain ⟨ga, n, gc, oa, m, oc, rfl⟩ := hx
  obtain ⟨gb, n2, gd, ob, m2, od, rfl⟩ := hy
  have hb0 : Below w.heap.size w (((w.alloc (.cells #[.slice ga n gc, .slice oa m oc] 25)).alloc (.cells #[.slice gb n2 gd, .slice ob m2 od] 25)).alloc (.cells #[.int .i64 0, .slice none 0 0] 37)) := (((Below.refl _ w).alloc (Nat.le_refl _) _).alloc (by simp) _).alloc (by simp; omega) _
  have HP := Lib.hid (hp _ hb0)
  have fr : (e0 != 0) = true := by simp; omega
  clear hp hb0 he
  go_enter Tryz.func19, Tryz.ntmps19
  go_wp2_with fail
  refine HP.out.mono ?_
  rintro _ _ ⟨rfl, y, rfl⟩
  dsimp only
  go_wp2
  refine bodyPost_ret (v := .tuple #[.agg #[.int .i64 0, .slice none 0 0], .bool false, .int .i64 e0]) ?_ rfl (Ret.mk rfl (by (repeat' (first | (with_reducible first | apply Zl1 | apply Zl2 | apply Zl3 | apply Zl4 | apply Zl5 | apply Zl6 | apply Zl7 | apply Zl8 | apply Zl9 | apply Zla | apply Zlb | apply Zlc) | (dsimp only; with_reducible first | apply Zl8 | apply Zl2 | apply Zld) | with_reducible assumption | omega | (dsimp only; omega)))))
  simp [results, Tryz.results19, go_sem]
end Go.Proofs.YtlnedapimmabdaaGreatDoor
