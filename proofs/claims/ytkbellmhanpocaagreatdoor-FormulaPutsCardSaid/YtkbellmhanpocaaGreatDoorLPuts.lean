/- The walk of FormulaPuts. -/
import Derived.Test.YtkbellmhanpocaaGreatDoorK1
import Derived.Test.YtkbellmhanpocaaGreatDoorK2
import Derived.Test.YtkbellmhanpocaaGreatDoorY1
import Derived.Test.YtkbellmhanpocaaGreatDoorY2
namespace Go.Proofs.YtkbellmhanpocaaGreatDoor
set_option linter.unusedVariables false
set_option linter.unusedSimpArgs false
open Go.RowKit F
attribute [local go_sem low] Bel.cell Bel.frozen alloc_cell alloc_frozen
attribute [local go_sem] calmOp chainOp yieldsC grows

set_option maxRecDepth 100000 in
theorem lawPuts_long (p q : Option Addr) (n m cap cap' : Nat) (x : Int) (w : World) (hT : Tab w) (hn : 30 < n ∨ 30 < m) : Calls Tryz.prog 3 #[.slice p n cap, .slice q m cap', .int .i64 x] w (Ret (.bool true) w) := by
  have HT := Lib.hid hT
  clear hT
  by_cases h : 30 < n
  · have f0 : decide ((30 : Int) < (n : Int)) = true := decide_eq_true (by omega)
    go_enter Tryz.func3, Tryz.ntmps3
    go_wp2_with fail
    (with_reducible refine (known_any _ (HT.out.of (by (repeat' (first | (with_reducible exact Below.refl _ _) | (with_reducible exact Nat.le_refl _) | (with_reducible refine Below.bel ?_ ?_) | (with_reducible refine Below.alloc ?_ ?_ _) | (with_reducible refine Below.drew ?_) | (with_reducible refine Below.drawsN ?_ _) | (with_reducible refine Below.setCell ?_ ?_ _) | (with_reducible refine le_bel ?_) | (with_reducible refine le_alloc ?_) | (with_reducible refine le_setCell ?_) | (with_reducible refine le_drew ?_) | (with_reducible refine le_drawsN ?_) | (dsimp only; with_reducible refine le_bel ?_) | (dsimp only; with_reducible refine Nat.le_refl _) | (dsimp only; with_reducible refine le_bel_add ?_) | (with_reducible assumption) | omega | (dsimp only; omega)))))).mono ?_)
    rintro _ _ ⟨rfl, y1, rfl⟩
    go_wp2_with fail
    (with_reducible refine (known_any _ (HT.out.of (by (repeat' (first | (with_reducible exact Below.refl _ _) | (with_reducible exact Nat.le_refl _) | (with_reducible refine Below.bel ?_ ?_) | (with_reducible refine Below.alloc ?_ ?_ _) | (with_reducible refine Below.drew ?_) | (with_reducible refine Below.drawsN ?_ _) | (with_reducible refine Below.setCell ?_ ?_ _) | (with_reducible refine le_bel ?_) | (with_reducible refine le_alloc ?_) | (with_reducible refine le_setCell ?_) | (with_reducible refine le_drew ?_) | (with_reducible refine le_drawsN ?_) | (dsimp only; with_reducible refine le_bel ?_) | (dsimp only; with_reducible refine Nat.le_refl _) | (dsimp only; with_reducible refine le_bel_add ?_) | (with_reducible assumption) | omega | (dsimp only; omega)))))).mono ?_)
    rintro _ _ ⟨rfl, y2, rfl⟩
    go_wp2
    go_ret
    exact Ret.mk (by rfl) (by (repeat' (first | (with_reducible exact Below.refl _ _) | (with_reducible exact Nat.le_refl _) | (with_reducible refine Below.bel ?_ ?_) | (with_reducible refine Below.alloc ?_ ?_ _) | (with_reducible refine Below.drew ?_) | (with_reducible refine Below.drawsN ?_ _) | (with_reducible refine Below.setCell ?_ ?_ _) | (with_reducible refine le_bel ?_) | (with_reducible refine le_alloc ?_) | (with_reducible refine le_setCell ?_) | (with_reducible refine le_drew ?_) | (with_reducible refine le_drawsN ?_) | (dsimp only; with_reducible refine le_bel ?_) | (dsimp only; with_reducible refine Nat.le_refl _) | (dsimp only; with_reducible refine le_bel_add ?_) | (with_reducible assumption) | omega | (dsimp only; omega))))
  · have f0 : decide ((30 : Int) < (n : Int)) = false := decide_eq_false (by omega)
    have f1 : decide ((30 : Int) < (m : Int)) = true := decide_eq_true (by omega)
    go_enter Tryz.func3, Tryz.ntmps3
    go_wp2_with fail
    (with_reducible refine (known_any _ (HT.out.of (by (repeat' (first | (with_reducible exact Below.refl _ _) | (with_reducible exact Nat.le_refl _) | (with_reducible refine Below.bel ?_ ?_) | (with_reducible refine Below.alloc ?_ ?_ _) | (with_reducible refine Below.drew ?_) | (with_reducible refine Below.drawsN ?_ _) | (with_reducible refine Below.setCell ?_ ?_ _) | (with_reducible refine le_bel ?_) | (with_reducible refine le_alloc ?_) | (with_reducible refine le_setCell ?_) | (with_reducible refine le_drew ?_) | (with_reducible refine le_drawsN ?_) | (dsimp only; with_reducible refine le_bel ?_) | (dsimp only; with_reducible refine Nat.le_refl _) | (dsimp only; with_reducible refine le_bel_add ?_) | (with_reducible assumption) | omega | (dsimp only; omega)))))).mono ?_)
    rintro _ _ ⟨rfl, y1, rfl⟩
    go_wp2_with fail
    (with_reducible refine (known_any _ (HT.out.of (by (repeat' (first | (with_reducible exact Below.refl _ _) | (with_reducible exact Nat.le_refl _) | (with_reducible refine Below.bel ?_ ?_) | (with_reducible refine Below.alloc ?_ ?_ _) | (with_reducible refine Below.drew ?_) | (with_reducible refine Below.drawsN ?_ _) | (with_reducible refine Below.setCell ?_ ?_ _) | (with_reducible refine le_bel ?_) | (with_reducible refine le_alloc ?_) | (with_reducible refine le_setCell ?_) | (with_reducible refine le_drew ?_) | (with_reducible refine le_drawsN ?_) | (dsimp only; with_reducible refine le_bel ?_) | (dsimp only; with_reducible refine Nat.le_refl _) | (dsimp only; with_reducible refine le_bel_add ?_) | (with_reducible assumption) | omega | (dsimp only; omega)))))).mono ?_)
    rintro _ _ ⟨rfl, y2, rfl⟩
    go_wp2
    go_ret
    exact Ret.mk (by rfl) (by (repeat' (first | (with_reducible exact Below.refl _ _) | (with_reducible exact Nat.le_refl _) | (with_reducible refine Below.bel ?_ ?_) | (with_reducible refine Below.alloc ?_ ?_ _) | (with_reducible refine Below.drew ?_) | (with_reducible refine Below.drawsN ?_ _) | (with_reducible refine Below.setCell ?_ ?_ _) | (with_reducible refine le_bel ?_) | (with_reducible refine le_alloc ?_) | (with_reducible refine le_setCell ?_) | (with_reducible refine le_drew ?_) | (with_reducible refine le_drawsN ?_) | (dsimp only; with_reducible refine le_bel ?_) | (dsimp only; with_reducible refine Nat.le_refl _) | (dsimp only; with_reducible refine le_bel_add ?_) | (with_reducible assumption) | omega | (dsimp only; omega))))
set_option maxRecDepth 100000 in
set_option maxHeartbeats 12800000 in
theorem lawPuts_in (code other : List UInt8) (ca oa : Option Addr) (cc oc : Nat) (x : Int) (hx : 0 ≤ x ∧ x < 4096) (w : World) (hT : Tab w) (hs : ShowsV w (.slice ca code.length cc) (bytesV code)) (hs' : ShowsV w (.slice oa other.length oc) (bytesV other)) (hl : code.length ≤ 30) (hl' : other.length ≤ 30) : Calls Tryz.prog 3 #[.slice ca code.length cc, .slice oa other.length oc, .int .i64 x] w (Ret (.bool true) w) := by
  have f0 : decide ((30 : Int) < (code.length : Int)) = false := decide_eq_false (by omega)
  have f1 : decide ((30 : Int) < (other.length : Int)) = false := decide_eq_false (by omega)
  have HT := Lib.hid hT
  have HM := Lib.hid (fun W (hW : Below w.heap.size w W) => Make_any code ca cc W (showsV_of hs hW) hl)
  have HM2 := Lib.hid (fun W (hW : Below w.heap.size w W) => Make_any other oa oc W (showsV_of hs' hW) hl')
  obtain ⟨g1, g2, g3, g4⟩ := mkF_good code
  have g5 := mkF_levels code
  obtain ⟨t, ht⟩ : ∃ t, mkF code = t := ⟨_, rfl⟩
  rw [ht] at HM g1 g2 g3 g4 g5
  obtain ⟨k1, k2, k3, k4⟩ := mkF_good other
  have k5 := mkF_levels other
  obtain ⟨u, hu⟩ : ∃ u, mkF other = u := ⟨_, rfl⟩
  rw [hu] at HM2 k1 k2 k3 k4 k5
  have hps := put_size x u t
  have hcs := fun v => put_size x (cst v) t
  have hbn := Nat.mul_le_mul g3 k3
  have hc1 : ∀ v, nodes (put x (cst v) t) ≤ 61 ∧ levels (put x (cst v) t) ≤ 33 := fun v => by
    have h := hcs v
    have e1 : nodes (cst v) = 1 := rfl
    have e2 : levels (cst v) = 1 := by cases v <;> rfl
    rw [e1, e2] at h
    omega
  have HSU := Lib.hid (fun (P P' : Nat → Prop) ad ad' cap cap' w' hi hi' => Substitute_ok x hx P P' t u ad ad' cap cap' w' hi hi' g1 k1 (by omega) (by omega) (by omega) (by omega) (by omega) (by omega))
  have HRT := Lib.hid (fun (P : Nat → Prop) ad cap w' hi => Restrict_ok x hx true P t ad cap w' hi g1 (by omega) (by omega) (by have := hc1 true; omega) (by have := hc1 true; omega))
  have HRF := Lib.hid (fun (P : Nat → Prop) ad cap w' hi => Restrict_ok x hx false P t ad cap w' hi g1 (by omega) (by omega) (by have := hc1 false; omega) (by have := hc1 false; omega))
  have HTR := Lib.hid (fun (P : Nat → Prop) ad cap w' hi => Tree_any (nodes t) t (Nat.le_refl _) P ad cap w' hi (by omega))
  have HTU := Lib.hid (fun (P : Nat → Prop) ad cap w' hi => Tree_any (nodes u) u (Nat.le_refl _) P ad cap w' hi (by omega))
  have HPU := Lib.hid (fun (B0 : Nat) adb capb (P : Nat → Prop) ad cap w' hi hib hB0 => refPut_any x u B0 adb capb (nodes t) t (Nat.le_refl _) P ad cap w' hi hib hB0 (by omega))
  have HPC := fun v => Lib.hid (fun (B0 : Nat) adb capb (P : Nat → Prop) ad cap w' hi hib hB0 => refPut_any x (cst v) B0 adb capb (nodes t) t (Nat.le_refl _) P ad cap w' hi hib hB0 (by omega))
  have HPT := HPC true
  have HPF := HPC false
  have HCT := Lib.hid (refConstant_any true)
  have HCF := Lib.hid (refConstant_any false)
  have n1 := (hc1 true).1
  have n2 := (hc1 false).1
  have n0 := hps.1
  clear HPC hcs hc1
  obtain ⟨CT, hCT⟩ : ∃ CT, cst true = CT := ⟨_, rfl⟩
  obtain ⟨CF, hCF⟩ : ∃ CF, cst false = CF := ⟨_, rfl⟩
  rw [hCT] at HRT HPT HCT n1
  rw [hCF] at HRF HPF HCF n2
  obtain ⟨ra, hra⟩ : ∃ ra, put x u t = ra := ⟨_, rfl⟩
  obtain ⟨rb, hrb⟩ : ∃ rb, put x CT t = rb := ⟨_, rfl⟩
  obtain ⟨rc, hrc⟩ : ∃ rc, put x CF t = rc := ⟨_, rfl⟩
  rw [hra] at HSU HPU n0
  rw [hrb] at HRT HPT n1
  rw [hrc] at HRF HPF n2
  have HIA := Lib.hid (fun (P P' : Nat → Prop) ad ad' cap cap' w' hi hi' => is_any ra ra P P' ad ad' cap cap' w' hi hi' (by omega) (by omega))
  have HIBB := Lib.hid (fun (P P' : Nat → Prop) ad ad' cap cap' w' hi hi' => is_any rb rb P P' ad ad' cap cap' w' hi hi' (by omega) (by omega))
  have HIC := Lib.hid (fun (P P' : Nat → Prop) ad ad' cap cap' w' hi hi' => is_any rc rc P P' ad ad' cap cap' w' hi hi' (by omega) (by omega))
  rw [(eqF_iff ra ra).2 rfl] at HIA
  rw [(eqF_iff rb rb).2 rfl] at HIBB
  rw [(eqF_iff rc rc).2 rfl] at HIC
  have f2 : decide (x < 0) = false := decide_eq_false (by omega)
  have f3 : decide (4096 ≤ x) = false := decide_eq_false (by omega)
  clear hT hs hs' ht hu g1 g2 g3 g4 g5 k1 k2 k3 k4 k5 hps hbn hra hrb hrc hCT hCF n0 n1 n2 hx
  go_enter Tryz.func3, Tryz.ntmps3
  go_wp2_with fail
  (with_reducible refine (known_any _ (HT.out.of (by (repeat' (first | (with_reducible exact Below.refl _ _) | (with_reducible exact Nat.le_refl _) | (with_reducible refine Below.bel ?_ ?_) | (with_reducible refine Below.alloc ?_ ?_ _) | (with_reducible refine Below.drew ?_) | (with_reducible refine Below.drawsN ?_ _) | (with_reducible refine Below.setCell ?_ ?_ _) | (with_reducible refine le_bel ?_) | (with_reducible refine le_alloc ?_) | (with_reducible refine le_setCell ?_) | (with_reducible refine le_drew ?_) | (with_reducible refine le_drawsN ?_) | (dsimp only; with_reducible refine le_bel ?_) | (dsimp only; with_reducible refine Nat.le_refl _) | (dsimp only; with_reducible refine le_bel_add ?_) | (with_reducible assumption) | omega | (dsimp only; omega)))))).mono ?_)
  rintro _ _ ⟨rfl, y1, rfl⟩
  go_wp2_with fail
  refine (HM.out _ (by (repeat' (first | (with_reducible exact Below.refl _ _) | (with_reducible exact Nat.le_refl _) | (with_reducible refine Below.bel ?_ ?_) | (with_reducible refine Below.alloc ?_ ?_ _) | (with_reducible refine Below.drew ?_) | (with_reducible refine Below.drawsN ?_ _) | (with_reducible refine Below.setCell ?_ ?_ _) | (with_reducible refine le_bel ?_) | (with_reducible refine le_alloc ?_) | (with_reducible refine le_setCell ?_) | (with_reducible refine le_drew ?_) | (with_reducible refine le_drawsN ?_) | (dsimp only; with_reducible refine le_bel ?_) | (dsimp only; with_reducible refine Nat.le_refl _) | (dsimp only; with_reducible refine le_bel_add ?_) | (with_reducible assumption) | omega | (dsimp only; omega))))).mono ?_
  rintro _ _ ⟨_, rfl, y2, rfl, ad2, cap2, rfl, hi2⟩
  have HJ2 := Lib.hid hi2
  clear hi2
  dsimp only
  go_wp2_with fail
  refine (HM2.out _ (by (repeat' (first | (with_reducible exact Below.refl _ _) | (with_reducible exact Nat.le_refl _) | (with_reducible refine Below.bel ?_ ?_) | (with_reducible refine Below.alloc ?_ ?_ _) | (with_reducible refine Below.drew ?_) | (with_reducible refine Below.drawsN ?_ _) | (with_reducible refine Below.setCell ?_ ?_ _) | (with_reducible refine le_bel ?_) | (with_reducible refine le_alloc ?_) | (with_reducible refine le_setCell ?_) | (with_reducible refine le_drew ?_) | (with_reducible refine le_drawsN ?_) | (dsimp only; with_reducible refine le_bel ?_) | (dsimp only; with_reducible refine Nat.le_refl _) | (dsimp only; with_reducible refine le_bel_add ?_) | (with_reducible assumption) | omega | (dsimp only; omega))))).mono ?_
  rintro _ _ ⟨_, rfl, y3, rfl, ad3, cap3, rfl, hi3⟩
  have hs1 := y1.size_le
  have hs2 := y2.size_le
  have hs3 := y3.size_le
  have hbW : Below w.heap.size w y3.w := by (repeat' (first | (with_reducible exact Below.refl _ _) | (with_reducible exact Nat.le_refl _) | (with_reducible refine Below.bel ?_ ?_) | (with_reducible refine Below.alloc ?_ ?_ _) | (with_reducible refine Below.drew ?_) | (with_reducible refine Below.drawsN ?_ _) | (with_reducible refine Below.setCell ?_ ?_ _) | (with_reducible refine le_bel ?_) | (with_reducible refine le_alloc ?_) | (with_reducible refine le_setCell ?_) | (with_reducible refine le_drew ?_) | (with_reducible refine le_drawsN ?_) | (dsimp only; with_reducible refine le_bel ?_) | (dsimp only; with_reducible refine Nat.le_refl _) | (dsimp only; with_reducible refine le_bel_add ?_) | (with_reducible assumption) | omega | (dsimp only; omega)))
  have hIt := HJ2.out.of y3.below
  obtain ⟨W3, hW3⟩ : ∃ W3, y3.w = W3 := ⟨_, rfl⟩
  rw [hW3] at hbW hIt hi3 ⊢
  have h0 := heap2_0 W3 (.cells #[.int .i64 t.k, .int .i64 t.a, .slice ad2 t.l.length cap2] 26) (.cells #[.int .i64 u.k, .int .i64 u.a, .slice ad3 u.l.length cap3] 26)
  have h1 := heap2_1 W3 (.cells #[.int .i64 t.k, .int .i64 t.a, .slice ad2 t.l.length cap2] 26) (.cells #[.int .i64 u.k, .int .i64 u.a, .slice ad3 u.l.length cap3] 26)
  have hb4 : Below W3.heap.size W3 ((W3.alloc (.cells #[.int .i64 t.k, .int .i64 t.a, .slice ad2 t.l.length cap2] 26)).alloc (.cells #[.int .i64 u.k, .int .i64 u.a, .slice ad3 u.l.length cap3] 26)) := by (repeat' (first | (with_reducible exact Below.refl _ _) | (with_reducible exact Nat.le_refl _) | (with_reducible refine Below.bel ?_ ?_) | (with_reducible refine Below.alloc ?_ ?_ _) | (with_reducible refine Below.drew ?_) | (with_reducible refine Below.drawsN ?_ _) | (with_reducible refine Below.setCell ?_ ?_ _) | (with_reducible refine le_bel ?_) | (with_reducible refine le_alloc ?_) | (with_reducible refine le_setCell ?_) | (with_reducible refine le_drew ?_) | (with_reducible refine le_drawsN ?_) | (dsimp only; with_reducible refine le_bel ?_) | (dsimp only; with_reducible refine Nat.le_refl _) | (dsimp only; with_reducible refine le_bel_add ?_) | (with_reducible assumption) | omega | (dsimp only; omega)))
  have HI2 := Lib.hid ((hIt.imp fun _ _ _ => trivial : InsF (fun _ => True) _ _ _).of hb4)
  have HI3 := Lib.hid ((hi3.imp fun _ _ _ => trivial : InsF (fun _ => True) _ _ _).of hb4)
  have hB := hbW.trans (hb4.mono hbW.size)
  have hszV : ((W3.alloc (.cells #[.int .i64 t.k, .int .i64 t.a, .slice ad2 t.l.length cap2] 26)).alloc (.cells #[.int .i64 u.k, .int .i64 u.a, .slice ad3 u.l.length cap3] 26)).heap.size = W3.heap.size + 2 := by simp
  obtain ⟨V, hV⟩ : ∃ V, ((W3.alloc (.cells #[.int .i64 t.k, .int .i64 t.a, .slice ad2 t.l.length cap2] 26)).alloc (.cells #[.int .i64 u.k, .int .i64 u.a, .slice ad3 u.l.length cap3] 26)) = V := ⟨_, rfl⟩
  rw [hV] at h0 h1 hB HI2 HI3 hszV
  have o7 : V.heap[W3.heap.size]? = _ := h0
  have o8 : V.heap[W3.heap.size + 1]? = _ := h1
  obtain ⟨b0, b1, b2⟩ := box3 o7
  obtain ⟨c0, c1, c2⟩ := box3 o8
  clear h0 h1 hIt hi3 hW3 HJ2 hs1 hs2 hs3 hbW hb4 y3 y2 y1
  dsimp only
  go_wp2_with fail
  clear hV b0 b1 b2 c0 c1 c2
  obtain ⟨B7, hB7⟩ : ∃ B7, W3.heap.size = B7 := ⟨_, rfl⟩
  rw [hB7] at o7 o8 hszV ⊢
  clear hB7
  refine (HSU.out _ _ _ _ _ _ _ HI2.out HI3.out).mono ?_
  rintro _ _ ⟨_, rfl, y, rfl, ad9, cap9, rfl, hi9⟩
  have hsy := y.size_le
  have hbn : Below V.heap.size V (y.w.alloc (.cells #[.int .i64 ra.k, .int .i64 ra.a, .slice ad9 ra.l.length cap9] 26)) := by (repeat' (first | (with_reducible exact Below.refl _ _) | (with_reducible exact Nat.le_refl _) | (with_reducible refine Below.bel ?_ ?_) | (with_reducible refine Below.alloc ?_ ?_ _) | (with_reducible refine Below.drew ?_) | (with_reducible refine Below.drawsN ?_ _) | (with_reducible refine Below.setCell ?_ ?_ _) | (with_reducible refine le_bel ?_) | (with_reducible refine le_alloc ?_) | (with_reducible refine le_setCell ?_) | (with_reducible refine le_drew ?_) | (with_reducible refine le_drawsN ?_) | (dsimp only; with_reducible refine le_bel ?_) | (dsimp only; with_reducible refine Nat.le_refl _) | (dsimp only; with_reducible refine le_bel_add ?_) | (with_reducible assumption) | omega | (dsimp only; omega)))
  have oN := World.alloc_heap_new y.w (.cells #[.int .i64 ra.k, .int .i64 ra.a, .slice ad9 ra.l.length cap9] 26)
  have HI9 := Lib.hid ((hi9.imp fun _ _ _ => trivial : InsF (fun _ => True) _ _ _).of ((Below.refl _ _).alloc (Nat.le_refl _) (.cells #[.int .i64 ra.k, .int .i64 ra.a, .slice ad9 ra.l.length cap9] 26)))
  have o7' := obj_below hbn (Array.getElem?_eq_some_iff.1 o7).1 o7
  have o8' := obj_below hbn (Array.getElem?_eq_some_iff.1 o8).1 o8
  have HI2' := Lib.hid (HI2.out.of hbn)
  have HI3' := Lib.hid (HI3.out.of hbn)
  have hB' := hB.trans (hbn.mono hB.size)
  have hszn : (y.w.alloc (.cells #[.int .i64 ra.k, .int .i64 ra.a, .slice ad9 ra.l.length cap9] 26)).heap.size = y.w.heap.size + 1 := by simp
  obtain ⟨V1, hV⟩ : ∃ V1, y.w.alloc (.cells #[.int .i64 ra.k, .int .i64 ra.a, .slice ad9 ra.l.length cap9] 26) = V1 := ⟨_, rfl⟩
  rw [hV] at oN hB' hszn o7' o8' HI2' HI3' HI9
  clear o7 o8 HI2 HI3 hi9 hB hbn
  have o7 := o7'
  have o8 := o8'
  have HI2 := HI2'
  have HI3 := HI3'
  have hB := hB'
  clear o7' o8' HI2' HI3' hB'
  obtain ⟨p0, q0, r0⟩ := box3 o7
  obtain ⟨p1, q1, r1⟩ := box3 o8
  obtain ⟨p2, q2, r2⟩ := box3 oN
  dsimp only
  go_wp2_with fail
  clear hV p0 q0 r0 p1 q1 r1 p2 q2 r2
  obtain ⟨B9, hBi⟩ : ∃ B9, y.w.heap.size = B9 := ⟨_, rfl⟩
  rw [hBi] at oN hszn ⊢
  have o9 := oN
  clear oN hBi hszn hsy y
  refine (HRT.out _ _ _ _ HI2.out).mono ?_
  rintro _ _ ⟨_, rfl, y, rfl, ad11, cap11, rfl, hi11⟩
  have hsy := y.size_le
  have hbn : Below V1.heap.size V1 (y.w.alloc (.cells #[.int .i64 rb.k, .int .i64 rb.a, .slice ad11 rb.l.length cap11] 26)) := by (repeat' (first | (with_reducible exact Below.refl _ _) | (with_reducible exact Nat.le_refl _) | (with_reducible refine Below.bel ?_ ?_) | (with_reducible refine Below.alloc ?_ ?_ _) | (with_reducible refine Below.drew ?_) | (with_reducible refine Below.drawsN ?_ _) | (with_reducible refine Below.setCell ?_ ?_ _) | (with_reducible refine le_bel ?_) | (with_reducible refine le_alloc ?_) | (with_reducible refine le_setCell ?_) | (with_reducible refine le_drew ?_) | (with_reducible refine le_drawsN ?_) | (dsimp only; with_reducible refine le_bel ?_) | (dsimp only; with_reducible refine Nat.le_refl _) | (dsimp only; with_reducible refine le_bel_add ?_) | (with_reducible assumption) | omega | (dsimp only; omega)))
  have oN := World.alloc_heap_new y.w (.cells #[.int .i64 rb.k, .int .i64 rb.a, .slice ad11 rb.l.length cap11] 26)
  have HI11 := Lib.hid ((hi11.imp fun _ _ _ => trivial : InsF (fun _ => True) _ _ _).of ((Below.refl _ _).alloc (Nat.le_refl _) (.cells #[.int .i64 rb.k, .int .i64 rb.a, .slice ad11 rb.l.length cap11] 26)))
  have o7' := obj_below hbn (Array.getElem?_eq_some_iff.1 o7).1 o7
  have o8' := obj_below hbn (Array.getElem?_eq_some_iff.1 o8).1 o8
  have o9' := obj_below hbn (Array.getElem?_eq_some_iff.1 o9).1 o9
  have HI2' := Lib.hid (HI2.out.of hbn)
  have HI3' := Lib.hid (HI3.out.of hbn)
  have HI9' := Lib.hid (HI9.out.of hbn)
  have hB' := hB.trans (hbn.mono hB.size)
  have hszn : (y.w.alloc (.cells #[.int .i64 rb.k, .int .i64 rb.a, .slice ad11 rb.l.length cap11] 26)).heap.size = y.w.heap.size + 1 := by simp
  obtain ⟨V2, hV⟩ : ∃ V2, y.w.alloc (.cells #[.int .i64 rb.k, .int .i64 rb.a, .slice ad11 rb.l.length cap11] 26) = V2 := ⟨_, rfl⟩
  rw [hV] at oN hB' hszn o7' o8' o9' HI2' HI3' HI9' HI11
  clear o7 o8 o9 HI2 HI3 HI9 hi11 hB hbn
  have o7 := o7'
  have o8 := o8'
  have o9 := o9'
  have HI2 := HI2'
  have HI3 := HI3'
  have HI9 := HI9'
  have hB := hB'
  clear o7' o8' o9' HI2' HI3' HI9' hB'
  obtain ⟨p0, q0, r0⟩ := box3 o7
  obtain ⟨p1, q1, r1⟩ := box3 o8
  obtain ⟨p2, q2, r2⟩ := box3 o9
  obtain ⟨p3, q3, r3⟩ := box3 oN
  dsimp only
  go_wp2_with fail
  clear hV p0 q0 r0 p1 q1 r1 p2 q2 r2 p3 q3 r3
  obtain ⟨B11, hBi⟩ : ∃ B11, y.w.heap.size = B11 := ⟨_, rfl⟩
  rw [hBi] at oN hszn ⊢
  have o11 := oN
  clear oN hBi hszn hsy y
  refine (HRF.out _ _ _ _ HI2.out).mono ?_
  rintro _ _ ⟨_, rfl, y, rfl, ad13, cap13, rfl, hi13⟩
  have hsy := y.size_le
  have hbn : Below V2.heap.size V2 (y.w.alloc (.cells #[.int .i64 rc.k, .int .i64 rc.a, .slice ad13 rc.l.length cap13] 26)) := by (repeat' (first | (with_reducible exact Below.refl _ _) | (with_reducible exact Nat.le_refl _) | (with_reducible refine Below.bel ?_ ?_) | (with_reducible refine Below.alloc ?_ ?_ _) | (with_reducible refine Below.drew ?_) | (with_reducible refine Below.drawsN ?_ _) | (with_reducible refine Below.setCell ?_ ?_ _) | (with_reducible refine le_bel ?_) | (with_reducible refine le_alloc ?_) | (with_reducible refine le_setCell ?_) | (with_reducible refine le_drew ?_) | (with_reducible refine le_drawsN ?_) | (dsimp only; with_reducible refine le_bel ?_) | (dsimp only; with_reducible refine Nat.le_refl _) | (dsimp only; with_reducible refine le_bel_add ?_) | (with_reducible assumption) | omega | (dsimp only; omega)))
  have oN := World.alloc_heap_new y.w (.cells #[.int .i64 rc.k, .int .i64 rc.a, .slice ad13 rc.l.length cap13] 26)
  have HI13 := Lib.hid ((hi13.imp fun _ _ _ => trivial : InsF (fun _ => True) _ _ _).of ((Below.refl _ _).alloc (Nat.le_refl _) (.cells #[.int .i64 rc.k, .int .i64 rc.a, .slice ad13 rc.l.length cap13] 26)))
  have o7' := obj_below hbn (Array.getElem?_eq_some_iff.1 o7).1 o7
  have o8' := obj_below hbn (Array.getElem?_eq_some_iff.1 o8).1 o8
  have o9' := obj_below hbn (Array.getElem?_eq_some_iff.1 o9).1 o9
  have o11' := obj_below hbn (Array.getElem?_eq_some_iff.1 o11).1 o11
  have HI2' := Lib.hid (HI2.out.of hbn)
  have HI3' := Lib.hid (HI3.out.of hbn)
  have HI9' := Lib.hid (HI9.out.of hbn)
  have HI11' := Lib.hid (HI11.out.of hbn)
  have hB' := hB.trans (hbn.mono hB.size)
  have hszn : (y.w.alloc (.cells #[.int .i64 rc.k, .int .i64 rc.a, .slice ad13 rc.l.length cap13] 26)).heap.size = y.w.heap.size + 1 := by simp
  obtain ⟨V3, hV⟩ : ∃ V3, y.w.alloc (.cells #[.int .i64 rc.k, .int .i64 rc.a, .slice ad13 rc.l.length cap13] 26) = V3 := ⟨_, rfl⟩
  rw [hV] at oN hB' hszn o7' o8' o9' o11' HI2' HI3' HI9' HI11' HI13
  clear o7 o8 o9 o11 HI2 HI3 HI9 HI11 hi13 hB hbn
  have o7 := o7'
  have o8 := o8'
  have o9 := o9'
  have o11 := o11'
  have HI2 := HI2'
  have HI3 := HI3'
  have HI9 := HI9'
  have HI11 := HI11'
  have hB := hB'
  clear o7' o8' o9' o11' HI2' HI3' HI9' HI11' hB'
  obtain ⟨p0, q0, r0⟩ := box3 o7
  obtain ⟨p1, q1, r1⟩ := box3 o8
  obtain ⟨p2, q2, r2⟩ := box3 o9
  obtain ⟨p3, q3, r3⟩ := box3 o11
  obtain ⟨p4, q4, r4⟩ := box3 oN
  dsimp only
  go_wp2_with fail
  clear hV p0 q0 r0 p1 q1 r1 p2 q2 r2 p3 q3 r3 p4 q4 r4
  obtain ⟨B13, hBi⟩ : ∃ B13, y.w.heap.size = B13 := ⟨_, rfl⟩
  rw [hBi] at oN hszn ⊢
  have o13 := oN
  clear oN hBi hszn hsy y
  refine (HTR.out _ _ _ _ HI2.out).mono ?_
  rintro _ _ ⟨_, rfl, y, rfl, ad15, cap15, rfl, hi15⟩
  have hsy := y.size_le
  have hbn : Below V3.heap.size V3 (y.w.alloc (.cells #[.int .i64 t.k, .int .i64 t.a, .slice ad15 t.l.length cap15] 35)) := by (repeat' (first | (with_reducible exact Below.refl _ _) | (with_reducible exact Nat.le_refl _) | (with_reducible refine Below.bel ?_ ?_) | (with_reducible refine Below.alloc ?_ ?_ _) | (with_reducible refine Below.drew ?_) | (with_reducible refine Below.drawsN ?_ _) | (with_reducible refine Below.setCell ?_ ?_ _) | (with_reducible refine le_bel ?_) | (with_reducible refine le_alloc ?_) | (with_reducible refine le_setCell ?_) | (with_reducible refine le_drew ?_) | (with_reducible refine le_drawsN ?_) | (dsimp only; with_reducible refine le_bel ?_) | (dsimp only; with_reducible refine Nat.le_refl _) | (dsimp only; with_reducible refine le_bel_add ?_) | (with_reducible assumption) | omega | (dsimp only; omega)))
  have oN := World.alloc_heap_new y.w (.cells #[.int .i64 t.k, .int .i64 t.a, .slice ad15 t.l.length cap15] 35)
  have HI15 := Lib.hid ((hi15.imp fun _ _ _ => trivial : InsF (fun _ => True) _ _ _).of ((Below.refl _ _).alloc (Nat.le_refl _) (.cells #[.int .i64 t.k, .int .i64 t.a, .slice ad15 t.l.length cap15] 35)))
  have o7' := obj_below hbn (Array.getElem?_eq_some_iff.1 o7).1 o7
  have o8' := obj_below hbn (Array.getElem?_eq_some_iff.1 o8).1 o8
  have o9' := obj_below hbn (Array.getElem?_eq_some_iff.1 o9).1 o9
  have o11' := obj_below hbn (Array.getElem?_eq_some_iff.1 o11).1 o11
  have o13' := obj_below hbn (Array.getElem?_eq_some_iff.1 o13).1 o13
  have HI2' := Lib.hid (HI2.out.of hbn)
  have HI3' := Lib.hid (HI3.out.of hbn)
  have HI9' := Lib.hid (HI9.out.of hbn)
  have HI11' := Lib.hid (HI11.out.of hbn)
  have HI13' := Lib.hid (HI13.out.of hbn)
  have hB' := hB.trans (hbn.mono hB.size)
  have hszn : (y.w.alloc (.cells #[.int .i64 t.k, .int .i64 t.a, .slice ad15 t.l.length cap15] 35)).heap.size = y.w.heap.size + 1 := by simp
  obtain ⟨V4, hV⟩ : ∃ V4, y.w.alloc (.cells #[.int .i64 t.k, .int .i64 t.a, .slice ad15 t.l.length cap15] 35) = V4 := ⟨_, rfl⟩
  rw [hV] at oN hB' hszn o7' o8' o9' o11' o13' HI2' HI3' HI9' HI11' HI13' HI15
  clear o7 o8 o9 o11 o13 HI2 HI3 HI9 HI11 HI13 hi15 hB hbn
  have o7 := o7'
  have o8 := o8'
  have o9 := o9'
  have o11 := o11'
  have o13 := o13'
  have HI2 := HI2'
  have HI3 := HI3'
  have HI9 := HI9'
  have HI11 := HI11'
  have HI13 := HI13'
  have hB := hB'
  clear o7' o8' o9' o11' o13' HI2' HI3' HI9' HI11' HI13' hB'
  obtain ⟨p0, q0, r0⟩ := box3 o7
  obtain ⟨p1, q1, r1⟩ := box3 o8
  obtain ⟨p2, q2, r2⟩ := box3 o9
  obtain ⟨p3, q3, r3⟩ := box3 o11
  obtain ⟨p4, q4, r4⟩ := box3 o13
  obtain ⟨p5, q5, r5⟩ := box3 oN
  dsimp only
  go_wp2_with fail
  clear hV p0 q0 r0 p1 q1 r1 p2 q2 r2 p3 q3 r3 p4 q4 r4 p5 q5 r5
  obtain ⟨B15, hBi⟩ : ∃ B15, y.w.heap.size = B15 := ⟨_, rfl⟩
  rw [hBi] at oN hszn ⊢
  have o15 := oN
  clear oN hBi hszn hsy y
  obtain ⟨p0, q0, r0⟩ := box3 o7
  obtain ⟨p1, q1, r1⟩ := box3 o8
  obtain ⟨p2, q2, r2⟩ := box3 o9
  obtain ⟨p3, q3, r3⟩ := box3 o11
  obtain ⟨p4, q4, r4⟩ := box3 o13
  obtain ⟨p5, q5, r5⟩ := box3 o15
  refine wp_region_plan 35 (.calm 0 (.calm 1 (.calm 2 (.calm 3 (.calm 4 (.calm 5 (.calm 6 (.fork 7 (.fork 8 (.fork 9 (.calm 10 (.calm 11 (.calm 12 (.calm 13 (.calm 14 (.calm 15 (.calm 16 (.calm 17 (.calm 18 (.fork 19 (.fork 20 (.fork 21 (.calm 22 (.calm 23 (.calm 24 (.calm 25 (.calm 26 (.calm 27 (.calm 28 (.calm 29 (.calm 30 (.fork 31 (.fork 32 (.fork 33 (.calm 34 .tail) .none) .none) .none)))))))))) .none) .none) .none)))))))))) .none) .none) .none)))))))) (by kernel_rfl) (by kernel_rfl) ?_
  simp only [Plan.walk, operAt, List.getElem?_cons_succ, List.getElem?_cons_zero, Option.getD_some, List.drop_succ_cons, List.drop_zero]
  repeat (refine wpX_calm (fun K hK => ?_); go_simp; first | (refine hK _ _ ?_; clear hK K) | (apply Exists.intro; refine ⟨fun _ => ?_, hK _ _ ?_⟩; (fail); clear hK K))
  have hacc : Below V4.heap.size V4 V4 := Below.refl _ _
  refine wpX_only (fun K hK => ?_)
  go_simp
  intro x1
  have hac1 : Below V4.heap.size V4 x1.w := hacc.trans (x1.below.mono hacc.size)
  refine (HTU.out _ _ _ _ (HI3.out.of hac1)).mono ?_
  rintro _ _ ⟨_, rfl, y1, rfl, ad21, cap21, rfl, hi21⟩
  have HJ1 := Lib.hid (hi21.imp fun b hb _ => hb : InsF (fun b => b < y1.w.heap.size) _ _ _)
  clear hi21
  refine ⟨_, rfl, y1.below, hK _ _ ?_⟩
  clear hK K
  clear hacc
  have hacc : Below V4.heap.size V4 y1.w := hac1.trans (y1.below.mono hac1.size)
  repeat (refine wpX_calm (fun K hK => ?_); go_simp; first | (refine hK _ _ ?_; clear hK K) | (apply Exists.intro; refine ⟨fun _ => ?_, hK _ _ ?_⟩; (fail); clear hK K))
  refine wpX_only (fun K hK => ?_)
  go_simp
  intro x2
  have hac2 : Below V4.heap.size V4 x2.w := hacc.trans (x2.below.mono hacc.size)
  refine (HPU.out y1.w.heap.size _ _ _ _ _ _ (HI15.out.of hac2) (HJ1.out.of x2.below) x2.size_le).mono ?_
  rintro _ _ ⟨_, rfl, y2, rfl, ad22, cap22, rfl, hi22⟩
  have HJ2 := Lib.hid hi22
  clear hi22
  refine ⟨_, rfl, y2.below, hK _ _ ?_⟩
  clear hK K
  clear hacc
  have hacc : Below V4.heap.size V4 y2.w := hac2.trans (y2.below.mono hac2.size)
  repeat (refine wpX_calm (fun K hK => ?_); go_simp; first | (refine hK _ _ ?_; clear hK K) | (apply Exists.intro; refine ⟨fun _ => ?_, hK _ _ ?_⟩; (fail); clear hK K))
  refine wpX_only (fun K hK => ?_)
  go_simp
  intro x3
  have hac3 : Below V4.heap.size V4 x3.w := hacc.trans (x3.below.mono hacc.size)
  refine (HIA.out _ _ _ _ _ _ _ (HI9.out.of hac3) (HJ2.out.of x3.below)).mono ?_
  rintro _ _ ⟨rfl, y3, rfl⟩
  refine ⟨_, rfl, y3.below, hK _ _ ?_⟩
  clear hK K
  clear hacc
  have hacc : Below V4.heap.size V4 y3.w := hac3.trans (y3.below.mono hac3.size)
  repeat (refine wpX_calm (fun K hK => ?_); go_simp; first | (refine hK _ _ ?_; clear hK K) | (apply Exists.intro; refine ⟨fun _ => ?_, hK _ _ ?_⟩; (fail); clear hK K))
  refine wpX_only (fun K hK => ?_)
  go_simp
  intro x4
  have hac4 : Below V4.heap.size V4 x4.w := hacc.trans (x4.below.mono hacc.size)
  refine (HCT.out _).mono ?_
  rintro _ _ ⟨_, rfl, y4, rfl, ad24, cap24, rfl, hi24⟩
  have HJ4 := Lib.hid (hi24.imp fun b hb _ => hb : InsF (fun b => b < y4.w.heap.size) _ _ _)
  clear hi24
  refine ⟨_, rfl, y4.below, hK _ _ ?_⟩
  clear hK K
  clear hacc
  have hacc : Below V4.heap.size V4 y4.w := hac4.trans (y4.below.mono hac4.size)
  repeat (refine wpX_calm (fun K hK => ?_); go_simp; first | (refine hK _ _ ?_; clear hK K) | (apply Exists.intro; refine ⟨fun _ => ?_, hK _ _ ?_⟩; (fail); clear hK K))
  refine wpX_only (fun K hK => ?_)
  go_simp
  intro x5
  have hac5 : Below V4.heap.size V4 x5.w := hacc.trans (x5.below.mono hacc.size)
  refine (HPT.out y4.w.heap.size _ _ _ _ _ _ (HI15.out.of hac5) (HJ4.out.of x5.below) x5.size_le).mono ?_
  rintro _ _ ⟨_, rfl, y5, rfl, ad25, cap25, rfl, hi25⟩
  have HJ5 := Lib.hid hi25
  clear hi25
  refine ⟨_, rfl, y5.below, hK _ _ ?_⟩
  clear hK K
  clear hacc
  have hacc : Below V4.heap.size V4 y5.w := hac5.trans (y5.below.mono hac5.size)
  repeat (refine wpX_calm (fun K hK => ?_); go_simp; first | (refine hK _ _ ?_; clear hK K) | (apply Exists.intro; refine ⟨fun _ => ?_, hK _ _ ?_⟩; (fail); clear hK K))
  refine wpX_only (fun K hK => ?_)
  go_simp
  intro x6
  have hac6 : Below V4.heap.size V4 x6.w := hacc.trans (x6.below.mono hacc.size)
  refine (HIBB.out _ _ _ _ _ _ _ (HI11.out.of hac6) (HJ5.out.of x6.below)).mono ?_
  rintro _ _ ⟨rfl, y6, rfl⟩
  refine ⟨_, rfl, y6.below, hK _ _ ?_⟩
  clear hK K
  clear hacc
  have hacc : Below V4.heap.size V4 y6.w := hac6.trans (y6.below.mono hac6.size)
  repeat (refine wpX_calm (fun K hK => ?_); go_simp; first | (refine hK _ _ ?_; clear hK K) | (apply Exists.intro; refine ⟨fun _ => ?_, hK _ _ ?_⟩; (fail); clear hK K))
  refine wpX_only (fun K hK => ?_)
  go_simp
  intro x7
  have hac7 : Below V4.heap.size V4 x7.w := hacc.trans (x7.below.mono hacc.size)
  refine (HCF.out _).mono ?_
  rintro _ _ ⟨_, rfl, y7, rfl, ad27, cap27, rfl, hi27⟩
  have HJ7 := Lib.hid (hi27.imp fun b hb _ => hb : InsF (fun b => b < y7.w.heap.size) _ _ _)
  clear hi27
  refine ⟨_, rfl, y7.below, hK _ _ ?_⟩
  clear hK K
  clear hacc
  have hacc : Below V4.heap.size V4 y7.w := hac7.trans (y7.below.mono hac7.size)
  repeat (refine wpX_calm (fun K hK => ?_); go_simp; first | (refine hK _ _ ?_; clear hK K) | (apply Exists.intro; refine ⟨fun _ => ?_, hK _ _ ?_⟩; (fail); clear hK K))
  refine wpX_only (fun K hK => ?_)
  go_simp
  intro x8
  have hac8 : Below V4.heap.size V4 x8.w := hacc.trans (x8.below.mono hacc.size)
  refine (HPF.out y7.w.heap.size _ _ _ _ _ _ (HI15.out.of hac8) (HJ7.out.of x8.below) x8.size_le).mono ?_
  rintro _ _ ⟨_, rfl, y8, rfl, ad28, cap28, rfl, hi28⟩
  have HJ8 := Lib.hid hi28
  clear hi28
  refine ⟨_, rfl, y8.below, hK _ _ ?_⟩
  clear hK K
  clear hacc
  have hacc : Below V4.heap.size V4 y8.w := hac8.trans (y8.below.mono hac8.size)
  repeat (refine wpX_calm (fun K hK => ?_); go_simp; first | (refine hK _ _ ?_; clear hK K) | (apply Exists.intro; refine ⟨fun _ => ?_, hK _ _ ?_⟩; (fail); clear hK K))
  refine wpX_only (fun K hK => ?_)
  go_simp
  intro x9
  have hac9 : Below V4.heap.size V4 x9.w := hacc.trans (x9.below.mono hacc.size)
  refine (HIC.out _ _ _ _ _ _ _ (HI13.out.of hac9) (HJ8.out.of x9.below)).mono ?_
  rintro _ _ ⟨rfl, y9, rfl⟩
  refine ⟨_, rfl, y9.below, hK _ _ ?_⟩
  clear hK K
  clear hacc
  have hacc : Below V4.heap.size V4 y9.w := hac9.trans (y9.below.mono hac9.size)
  repeat (refine wpX_calm (fun K hK => ?_); go_simp; first | (refine hK _ _ ?_; clear hK K) | (apply Exists.intro; refine ⟨fun _ => ?_, hK _ _ ?_⟩; (fail); clear hK K))
  refine wpX_tail ?_
  intro z
  have hbz := hB.trans ((hacc.trans (z.below.mono hacc.size)).mono hB.size)
  go_wp2
  go_ret
  exact Ret.mk (by rfl) hbz
set_option maxRecDepth 100000 in
set_option maxHeartbeats 12800000 in
theorem lawPuts_out (code other : List UInt8) (ca oa : Option Addr) (cc oc : Nat) (x : Int) (hx : x < 0 ∨ 4096 ≤ x) (w : World) (hT : Tab w) (hs : ShowsV w (.slice ca code.length cc) (bytesV code)) (hs' : ShowsV w (.slice oa other.length oc) (bytesV other)) (hl : code.length ≤ 30) (hl' : other.length ≤ 30) : Calls Tryz.prog 3 #[.slice ca code.length cc, .slice oa other.length oc, .int .i64 x] w (Ret (.bool true) w) := by
  have f0 : decide ((30 : Int) < (code.length : Int)) = false := decide_eq_false (by omega)
  have f1 : decide ((30 : Int) < (other.length : Int)) = false := decide_eq_false (by omega)
  have HT := Lib.hid hT
  have HM := Lib.hid (fun W (hW : Below w.heap.size w W) => Make_any code ca cc W (showsV_of hs hW) hl)
  have HM2 := Lib.hid (fun W (hW : Below w.heap.size w W) => Make_any other oa oc W (showsV_of hs' hW) hl')
  obtain ⟨g1, g2, g3, g4⟩ := mkF_good code
  have g5 := mkF_levels code
  obtain ⟨t, ht⟩ : ∃ t, mkF code = t := ⟨_, rfl⟩
  rw [ht] at HM g1 g2 g3 g4 g5
  obtain ⟨k1, k2, k3, k4⟩ := mkF_good other
  have k5 := mkF_levels other
  obtain ⟨u, hu⟩ : ∃ u, mkF other = u := ⟨_, rfl⟩
  rw [hu] at HM2 k1 k2 k3 k4 k5
  have e1 : checkF t = 0 := checkF_ok.2 ⟨decide_eq_true (by omega), g1⟩
  have e2 : checkF u = 0 := checkF_ok.2 ⟨decide_eq_true (by omega), k1⟩
  have e3 : chkL [t, u] = 0 := by rw [chkL, chkL, chkL, e1, e2]; rfl
  have HSU := Lib.hid (fun (P P' : Nat → Prop) ad ad' cap cap' w' hi hi' => Substitute_err x 3 P P' t u ad ad' cap cap' w' hi hi' (by omega) (by omega) (by rw [e3]; rfl) (fun _ => hx))
  have HRT := Lib.hid (fun v (P : Nat → Prop) ad cap w' hi => Restrict_err x 3 v P t ad cap w' hi (by omega) (by rw [e1]; rfl) (fun _ => hx))
  unfold zeroE at HSU HRT
  clear hT hs hs' ht hu g1 g2 g3 g4 g5 k1 k2 k3 k4 k5 e1 e2 e3
  go_enter Tryz.func3, Tryz.ntmps3
  go_wp2_with fail
  (with_reducible refine (known_any _ (HT.out.of (by (repeat' (first | (with_reducible exact Below.refl _ _) | (with_reducible exact Nat.le_refl _) | (with_reducible refine Below.bel ?_ ?_) | (with_reducible refine Below.alloc ?_ ?_ _) | (with_reducible refine Below.drew ?_) | (with_reducible refine Below.drawsN ?_ _) | (with_reducible refine Below.setCell ?_ ?_ _) | (with_reducible refine le_bel ?_) | (with_reducible refine le_alloc ?_) | (with_reducible refine le_setCell ?_) | (with_reducible refine le_drew ?_) | (with_reducible refine le_drawsN ?_) | (dsimp only; with_reducible refine le_bel ?_) | (dsimp only; with_reducible refine Nat.le_refl _) | (dsimp only; with_reducible refine le_bel_add ?_) | (with_reducible assumption) | omega | (dsimp only; omega)))))).mono ?_)
  rintro _ _ ⟨rfl, y1, rfl⟩
  go_wp2_with fail
  refine (HM.out _ (by (repeat' (first | (with_reducible exact Below.refl _ _) | (with_reducible exact Nat.le_refl _) | (with_reducible refine Below.bel ?_ ?_) | (with_reducible refine Below.alloc ?_ ?_ _) | (with_reducible refine Below.drew ?_) | (with_reducible refine Below.drawsN ?_ _) | (with_reducible refine Below.setCell ?_ ?_ _) | (with_reducible refine le_bel ?_) | (with_reducible refine le_alloc ?_) | (with_reducible refine le_setCell ?_) | (with_reducible refine le_drew ?_) | (with_reducible refine le_drawsN ?_) | (dsimp only; with_reducible refine le_bel ?_) | (dsimp only; with_reducible refine Nat.le_refl _) | (dsimp only; with_reducible refine le_bel_add ?_) | (with_reducible assumption) | omega | (dsimp only; omega))))).mono ?_
  rintro _ _ ⟨_, rfl, y2, rfl, ad2, cap2, rfl, hi2⟩
  have HJ2 := Lib.hid hi2
  clear hi2
  dsimp only
  go_wp2_with fail
  refine (HM2.out _ (by (repeat' (first | (with_reducible exact Below.refl _ _) | (with_reducible exact Nat.le_refl _) | (with_reducible refine Below.bel ?_ ?_) | (with_reducible refine Below.alloc ?_ ?_ _) | (with_reducible refine Below.drew ?_) | (with_reducible refine Below.drawsN ?_ _) | (with_reducible refine Below.setCell ?_ ?_ _) | (with_reducible refine le_bel ?_) | (with_reducible refine le_alloc ?_) | (with_reducible refine le_setCell ?_) | (with_reducible refine le_drew ?_) | (with_reducible refine le_drawsN ?_) | (dsimp only; with_reducible refine le_bel ?_) | (dsimp only; with_reducible refine Nat.le_refl _) | (dsimp only; with_reducible refine le_bel_add ?_) | (with_reducible assumption) | omega | (dsimp only; omega))))).mono ?_
  rintro _ _ ⟨_, rfl, y3, rfl, ad3, cap3, rfl, hi3⟩
  have hs1 := y1.size_le
  have hs2 := y2.size_le
  have hs3 := y3.size_le
  have hbW : Below w.heap.size w y3.w := by (repeat' (first | (with_reducible exact Below.refl _ _) | (with_reducible exact Nat.le_refl _) | (with_reducible refine Below.bel ?_ ?_) | (with_reducible refine Below.alloc ?_ ?_ _) | (with_reducible refine Below.drew ?_) | (with_reducible refine Below.drawsN ?_ _) | (with_reducible refine Below.setCell ?_ ?_ _) | (with_reducible refine le_bel ?_) | (with_reducible refine le_alloc ?_) | (with_reducible refine le_setCell ?_) | (with_reducible refine le_drew ?_) | (with_reducible refine le_drawsN ?_) | (dsimp only; with_reducible refine le_bel ?_) | (dsimp only; with_reducible refine Nat.le_refl _) | (dsimp only; with_reducible refine le_bel_add ?_) | (with_reducible assumption) | omega | (dsimp only; omega)))
  have hIt := HJ2.out.of y3.below
  obtain ⟨W3, hW3⟩ : ∃ W3, y3.w = W3 := ⟨_, rfl⟩
  rw [hW3] at hbW hIt hi3 ⊢
  have h0 := heap2_0 W3 (.cells #[.int .i64 t.k, .int .i64 t.a, .slice ad2 t.l.length cap2] 26) (.cells #[.int .i64 u.k, .int .i64 u.a, .slice ad3 u.l.length cap3] 26)
  have h1 := heap2_1 W3 (.cells #[.int .i64 t.k, .int .i64 t.a, .slice ad2 t.l.length cap2] 26) (.cells #[.int .i64 u.k, .int .i64 u.a, .slice ad3 u.l.length cap3] 26)
  have hb4 : Below W3.heap.size W3 ((W3.alloc (.cells #[.int .i64 t.k, .int .i64 t.a, .slice ad2 t.l.length cap2] 26)).alloc (.cells #[.int .i64 u.k, .int .i64 u.a, .slice ad3 u.l.length cap3] 26)) := by (repeat' (first | (with_reducible exact Below.refl _ _) | (with_reducible exact Nat.le_refl _) | (with_reducible refine Below.bel ?_ ?_) | (with_reducible refine Below.alloc ?_ ?_ _) | (with_reducible refine Below.drew ?_) | (with_reducible refine Below.drawsN ?_ _) | (with_reducible refine Below.setCell ?_ ?_ _) | (with_reducible refine le_bel ?_) | (with_reducible refine le_alloc ?_) | (with_reducible refine le_setCell ?_) | (with_reducible refine le_drew ?_) | (with_reducible refine le_drawsN ?_) | (dsimp only; with_reducible refine le_bel ?_) | (dsimp only; with_reducible refine Nat.le_refl _) | (dsimp only; with_reducible refine le_bel_add ?_) | (with_reducible assumption) | omega | (dsimp only; omega)))
  have HI2 := Lib.hid ((hIt.imp fun _ _ _ => trivial : InsF (fun _ => True) _ _ _).of hb4)
  have HI3 := Lib.hid ((hi3.imp fun _ _ _ => trivial : InsF (fun _ => True) _ _ _).of hb4)
  have hB := hbW.trans (hb4.mono hbW.size)
  have hszV : ((W3.alloc (.cells #[.int .i64 t.k, .int .i64 t.a, .slice ad2 t.l.length cap2] 26)).alloc (.cells #[.int .i64 u.k, .int .i64 u.a, .slice ad3 u.l.length cap3] 26)).heap.size = W3.heap.size + 2 := by simp
  obtain ⟨V, hV⟩ : ∃ V, ((W3.alloc (.cells #[.int .i64 t.k, .int .i64 t.a, .slice ad2 t.l.length cap2] 26)).alloc (.cells #[.int .i64 u.k, .int .i64 u.a, .slice ad3 u.l.length cap3] 26)) = V := ⟨_, rfl⟩
  rw [hV] at h0 h1 hB HI2 HI3 hszV
  have o7 : V.heap[W3.heap.size]? = _ := h0
  have o8 : V.heap[W3.heap.size + 1]? = _ := h1
  obtain ⟨b0, b1, b2⟩ := box3 o7
  obtain ⟨c0, c1, c2⟩ := box3 o8
  clear h0 h1 hIt hi3 hW3 HJ2 hs1 hs2 hs3 hbW hb4 y3 y2 y1
  dsimp only
  go_wp2_with fail
  clear hV b0 b1 b2 c0 c1 c2
  obtain ⟨B7, hB7⟩ : ∃ B7, W3.heap.size = B7 := ⟨_, rfl⟩
  rw [hB7] at o7 o8 hszV ⊢
  clear hB7
  refine (HSU.out _ _ _ _ _ _ _ HI2.out HI3.out).mono ?_
  rintro _ _ ⟨rfl, y, rfl⟩
  have hsy := y.size_le
  have hbn : Below V.heap.size V (y.w.alloc (.cells #[.int .i64 0, .int .i64 0, .slice none 0 0] 26)) := by (repeat' (first | (with_reducible exact Below.refl _ _) | (with_reducible exact Nat.le_refl _) | (with_reducible refine Below.bel ?_ ?_) | (with_reducible refine Below.alloc ?_ ?_ _) | (with_reducible refine Below.drew ?_) | (with_reducible refine Below.drawsN ?_ _) | (with_reducible refine Below.setCell ?_ ?_ _) | (with_reducible refine le_bel ?_) | (with_reducible refine le_alloc ?_) | (with_reducible refine le_setCell ?_) | (with_reducible refine le_drew ?_) | (with_reducible refine le_drawsN ?_) | (dsimp only; with_reducible refine le_bel ?_) | (dsimp only; with_reducible refine Nat.le_refl _) | (dsimp only; with_reducible refine le_bel_add ?_) | (with_reducible assumption) | omega | (dsimp only; omega)))
  have oN := World.alloc_heap_new y.w (.cells #[.int .i64 0, .int .i64 0, .slice none 0 0] 26)
  have o7' := obj_below hbn (Array.getElem?_eq_some_iff.1 o7).1 o7
  have o8' := obj_below hbn (Array.getElem?_eq_some_iff.1 o8).1 o8
  have HI2' := Lib.hid (HI2.out.of hbn)
  have HI3' := Lib.hid (HI3.out.of hbn)
  have hB' := hB.trans (hbn.mono hB.size)
  have hszn : (y.w.alloc (.cells #[.int .i64 0, .int .i64 0, .slice none 0 0] 26)).heap.size = y.w.heap.size + 1 := by simp
  obtain ⟨p0, q0, r0⟩ := box3 o7'
  obtain ⟨p1, q1, r1⟩ := box3 o8'
  obtain ⟨p2, q2, r2⟩ := box3 oN
  dsimp only
  go_wp2_with fail
  clear p0 q0 r0 p1 q1 r1 p2 q2 r2
  obtain ⟨V1, hV⟩ : ∃ V1, y.w.alloc (.cells #[.int .i64 0, .int .i64 0, .slice none 0 0] 26) = V1 := ⟨_, rfl⟩
  rw [hV] at oN hB' hszn o7' o8' HI2' HI3' ⊢
  clear o7 o8 HI2 HI3 hB hbn
  have o7 := o7'
  have o8 := o8'
  have HI2 := HI2'
  have HI3 := HI3'
  have hB := hB'
  clear o7' o8' HI2' HI3' hB'
  clear hV
  obtain ⟨B9, hBi⟩ : ∃ B9, y.w.heap.size = B9 := ⟨_, rfl⟩
  rw [hBi] at oN hszn ⊢
  have o9 := oN
  clear oN hBi hszn hsy y
  refine (HRT.out _ _ _ _ _ HI2.out).mono ?_
  rintro _ _ ⟨rfl, y, rfl⟩
  have hsy := y.size_le
  have hbn : Below V1.heap.size V1 (y.w.alloc (.cells #[.int .i64 0, .int .i64 0, .slice none 0 0] 26)) := by (repeat' (first | (with_reducible exact Below.refl _ _) | (with_reducible exact Nat.le_refl _) | (with_reducible refine Below.bel ?_ ?_) | (with_reducible refine Below.alloc ?_ ?_ _) | (with_reducible refine Below.drew ?_) | (with_reducible refine Below.drawsN ?_ _) | (with_reducible refine Below.setCell ?_ ?_ _) | (with_reducible refine le_bel ?_) | (with_reducible refine le_alloc ?_) | (with_reducible refine le_setCell ?_) | (with_reducible refine le_drew ?_) | (with_reducible refine le_drawsN ?_) | (dsimp only; with_reducible refine le_bel ?_) | (dsimp only; with_reducible refine Nat.le_refl _) | (dsimp only; with_reducible refine le_bel_add ?_) | (with_reducible assumption) | omega | (dsimp only; omega)))
  have oN := World.alloc_heap_new y.w (.cells #[.int .i64 0, .int .i64 0, .slice none 0 0] 26)
  have o7' := obj_below hbn (Array.getElem?_eq_some_iff.1 o7).1 o7
  have o8' := obj_below hbn (Array.getElem?_eq_some_iff.1 o8).1 o8
  have o9' := obj_below hbn (Array.getElem?_eq_some_iff.1 o9).1 o9
  have HI2' := Lib.hid (HI2.out.of hbn)
  have HI3' := Lib.hid (HI3.out.of hbn)
  have hB' := hB.trans (hbn.mono hB.size)
  have hszn : (y.w.alloc (.cells #[.int .i64 0, .int .i64 0, .slice none 0 0] 26)).heap.size = y.w.heap.size + 1 := by simp
  obtain ⟨p0, q0, r0⟩ := box3 o7'
  obtain ⟨p1, q1, r1⟩ := box3 o8'
  obtain ⟨p2, q2, r2⟩ := box3 o9'
  obtain ⟨p3, q3, r3⟩ := box3 oN
  dsimp only
  go_wp2_with fail
  clear p0 q0 r0 p1 q1 r1 p2 q2 r2 p3 q3 r3
  obtain ⟨V2, hV⟩ : ∃ V2, y.w.alloc (.cells #[.int .i64 0, .int .i64 0, .slice none 0 0] 26) = V2 := ⟨_, rfl⟩
  rw [hV] at oN hB' hszn o7' o8' o9' HI2' HI3' ⊢
  clear o7 o8 o9 HI2 HI3 hB hbn
  have o7 := o7'
  have o8 := o8'
  have o9 := o9'
  have HI2 := HI2'
  have HI3 := HI3'
  have hB := hB'
  clear o7' o8' o9' HI2' HI3' hB'
  clear hV
  obtain ⟨B11, hBi⟩ : ∃ B11, y.w.heap.size = B11 := ⟨_, rfl⟩
  rw [hBi] at oN hszn ⊢
  have o11 := oN
  clear oN hBi hszn hsy y
  refine (HRT.out _ _ _ _ _ HI2.out).mono ?_
  rintro _ _ ⟨rfl, y, rfl⟩
  have hsy := y.size_le
  have hbn : Below V2.heap.size V2 (y.w.alloc (.cells #[.int .i64 0, .int .i64 0, .slice none 0 0] 26)) := by (repeat' (first | (with_reducible exact Below.refl _ _) | (with_reducible exact Nat.le_refl _) | (with_reducible refine Below.bel ?_ ?_) | (with_reducible refine Below.alloc ?_ ?_ _) | (with_reducible refine Below.drew ?_) | (with_reducible refine Below.drawsN ?_ _) | (with_reducible refine Below.setCell ?_ ?_ _) | (with_reducible refine le_bel ?_) | (with_reducible refine le_alloc ?_) | (with_reducible refine le_setCell ?_) | (with_reducible refine le_drew ?_) | (with_reducible refine le_drawsN ?_) | (dsimp only; with_reducible refine le_bel ?_) | (dsimp only; with_reducible refine Nat.le_refl _) | (dsimp only; with_reducible refine le_bel_add ?_) | (with_reducible assumption) | omega | (dsimp only; omega)))
  have oN := World.alloc_heap_new y.w (.cells #[.int .i64 0, .int .i64 0, .slice none 0 0] 26)
  have o7' := obj_below hbn (Array.getElem?_eq_some_iff.1 o7).1 o7
  have o8' := obj_below hbn (Array.getElem?_eq_some_iff.1 o8).1 o8
  have o9' := obj_below hbn (Array.getElem?_eq_some_iff.1 o9).1 o9
  have o11' := obj_below hbn (Array.getElem?_eq_some_iff.1 o11).1 o11
  have HI2' := Lib.hid (HI2.out.of hbn)
  have HI3' := Lib.hid (HI3.out.of hbn)
  have hB' := hB.trans (hbn.mono hB.size)
  have hszn : (y.w.alloc (.cells #[.int .i64 0, .int .i64 0, .slice none 0 0] 26)).heap.size = y.w.heap.size + 1 := by simp
  rcases hx with hx | hx
  · have f2 : decide (x < 0) = true := decide_eq_true hx
    obtain ⟨p0, q0, r0⟩ := box3 o9'
    obtain ⟨p1, q1, r1⟩ := box3 o11'
    obtain ⟨p2, q2, r2⟩ := box3 oN
    dsimp only
    go_wp2_with fail
    (with_reducible refine (none_any _).mono ?_)
    rintro _ _ ⟨rfl, z1, rfl⟩
    obtain ⟨s0, s1, s2⟩ := box3 (obj_bel z1 o11')
    have o131 := obj_bel z1 oN
    obtain ⟨n0, n1, n2⟩ := box3 o131
    dsimp only
    go_wp2_with fail
    (with_reducible refine (none_any _).mono ?_)
    rintro _ _ ⟨rfl, z2, rfl⟩
    obtain ⟨n0, n1, n2⟩ := box3 (obj_bel z2 o131)
    dsimp only
    go_wp2_with fail
    (with_reducible refine (none_any _).mono ?_)
    rintro _ _ ⟨rfl, z3, rfl⟩
    have hBs := hB.size
    dsimp only
    go_wp2
    go_ret
    exact Ret.mk (by rfl) (by (repeat' (first | (with_reducible exact Below.refl _ _) | (with_reducible exact Nat.le_refl _) | (with_reducible refine Below.bel ?_ ?_) | (with_reducible refine Below.alloc ?_ ?_ _) | (with_reducible refine Below.drew ?_) | (with_reducible refine Below.drawsN ?_ _) | (with_reducible refine Below.setCell ?_ ?_ _) | (with_reducible refine le_bel ?_) | (with_reducible refine le_alloc ?_) | (with_reducible refine le_setCell ?_) | (with_reducible refine le_drew ?_) | (with_reducible refine le_drawsN ?_) | (dsimp only; with_reducible refine le_bel ?_) | (dsimp only; with_reducible refine Nat.le_refl _) | (dsimp only; with_reducible refine le_bel_add ?_) | (with_reducible assumption) | omega | (dsimp only; omega))))
  · by_cases hx0 : x < 0
    · omega
    · have f2 : decide (x < 0) = false := decide_eq_false hx0
      have f3 : decide (4096 ≤ x) = true := decide_eq_true hx
      obtain ⟨p0, q0, r0⟩ := box3 o9'
      obtain ⟨p1, q1, r1⟩ := box3 o11'
      obtain ⟨p2, q2, r2⟩ := box3 oN
      dsimp only
      go_wp2_with fail
      (with_reducible refine (none_any _).mono ?_)
      rintro _ _ ⟨rfl, z1, rfl⟩
      obtain ⟨s0, s1, s2⟩ := box3 (obj_bel z1 o11')
      have o131 := obj_bel z1 oN
      obtain ⟨n0, n1, n2⟩ := box3 o131
      dsimp only
      go_wp2_with fail
      (with_reducible refine (none_any _).mono ?_)
      rintro _ _ ⟨rfl, z2, rfl⟩
      obtain ⟨n0, n1, n2⟩ := box3 (obj_bel z2 o131)
      dsimp only
      go_wp2_with fail
      (with_reducible refine (none_any _).mono ?_)
      rintro _ _ ⟨rfl, z3, rfl⟩
      have hBs := hB.size
      dsimp only
      go_wp2
      go_ret
      exact Ret.mk (by rfl) (by (repeat' (first | (with_reducible exact Below.refl _ _) | (with_reducible exact Nat.le_refl _) | (with_reducible refine Below.bel ?_ ?_) | (with_reducible refine Below.alloc ?_ ?_ _) | (with_reducible refine Below.drew ?_) | (with_reducible refine Below.drawsN ?_ _) | (with_reducible refine Below.setCell ?_ ?_ _) | (with_reducible refine le_bel ?_) | (with_reducible refine le_alloc ?_) | (with_reducible refine le_setCell ?_) | (with_reducible refine le_drew ?_) | (with_reducible refine le_drawsN ?_) | (dsimp only; with_reducible refine le_bel ?_) | (dsimp only; with_reducible refine Nat.le_refl _) | (dsimp only; with_reducible refine le_bel_add ?_) | (with_reducible assumption) | omega | (dsimp only; omega))))
end Go.Proofs.YtkbellmhanpocaaGreatDoor
