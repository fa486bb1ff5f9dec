/- The walk of FormulaSplits. -/
import Derived.Deep.RegionHeld3
import Derived.Test.YtkbellmhanpocaaDoorK1
import Derived.Test.YtkbellmhanpocaaDoorK2
import Derived.Test.YtkbellmhanpocaaDoorR1
import Derived.Test.YtkbellmhanpocaaDoorQ1
import Derived.Test.YtkbellmhanpocaaDoorQ4
import Derived.Test.YtkbellmhanpocaaDoorFp
namespace Go.Proofs.YtkbellmhanpocaaDoor
set_option linter.unusedVariables false
set_option linter.unusedSimpArgs false
open Go.RowKit F
attribute [local go_sem low] Bel.cell Bel.frozen alloc_cell alloc_frozen
attribute [local go_sem] calmOp chainOp yieldsC grows

set_option maxRecDepth 100000 in
theorem lawSplits_long (p : Option Addr) (n cap : Nat) (X : Int) (bs : Array Value) (w : World) (hT : Tab w) (hn : 30 < n) : Calls Tryd.prog 10 #[.slice p n cap, .int .u8 X, .agg bs] w (Ret (.bool true) w) := by
  have f0 : decide ((30 : Int) < (n : Int)) = true := decide_eq_true (by omega)
  have HT := Lib.hid hT
  clear hT
  go_enter Tryd.func10, Tryd.ntmps10
  go_wp2_with fail
  (with_reducible refine (known_any _ (HT.out.of (by (repeat' (first | (with_reducible exact Below.refl _ _) | (with_reducible exact Nat.le_refl _) | (with_reducible refine Below.bel ?_ ?_) | (with_reducible refine Below.alloc ?_ ?_ _) | (with_reducible refine Below.drew ?_) | (with_reducible refine Below.drawsN ?_ _) | (with_reducible refine Below.setCell ?_ ?_ _) | (with_reducible refine le_bel ?_) | (with_reducible refine le_alloc ?_) | (with_reducible refine le_setCell ?_) | (with_reducible refine le_drew ?_) | (with_reducible refine le_drawsN ?_) | (dsimp only; with_reducible refine le_bel ?_) | (dsimp only; with_reducible refine Nat.le_refl _) | (dsimp only; with_reducible refine le_bel_add ?_) | (with_reducible assumption) | omega | (dsimp only; omega)))))).mono ?_)
  rintro _ _ ⟨rfl, y1, rfl⟩
  go_wp2_with fail
  (with_reducible refine (known_any _ (HT.out.of (by (repeat' (first | (with_reducible exact Below.refl _ _) | (with_reducible exact Nat.le_refl _) | (with_reducible refine Below.bel ?_ ?_) | (with_reducible refine Below.alloc ?_ ?_ _) | (with_reducible refine Below.drew ?_) | (with_reducible refine Below.drawsN ?_ _) | (with_reducible refine Below.setCell ?_ ?_ _) | (with_reducible refine le_bel ?_) | (with_reducible refine le_alloc ?_) | (with_reducible refine le_setCell ?_) | (with_reducible refine le_drew ?_) | (with_reducible refine le_drawsN ?_) | (dsimp only; with_reducible refine le_bel ?_) | (dsimp only; with_reducible refine Nat.le_refl _) | (dsimp only; with_reducible refine le_bel_add ?_) | (with_reducible assumption) | omega | (dsimp only; omega)))))).mono ?_)
  rintro _ _ ⟨rfl, y2, rfl⟩
  go_wp2
  go_ret
  exact Ret.mk (by rfl) (by (repeat' (first | (with_reducible exact Below.refl _ _) | (with_reducible exact Nat.le_refl _) | (with_reducible refine Below.bel ?_ ?_) | (with_reducible refine Below.alloc ?_ ?_ _) | (with_reducible refine Below.drew ?_) | (with_reducible refine Below.drawsN ?_ _) | (with_reducible refine Below.setCell ?_ ?_ _) | (with_reducible refine le_bel ?_) | (with_reducible refine le_alloc ?_) | (with_reducible refine le_setCell ?_) | (with_reducible refine le_drew ?_) | (with_reducible refine le_drawsN ?_) | (dsimp only; with_reducible refine le_bel ?_) | (dsimp only; with_reducible refine Nat.le_refl _) | (dsimp only; with_reducible refine le_bel_add ?_) | (with_reducible assumption) | omega | (dsimp only; omega))))
theorem row_cells {w : World} {b : Nat} {T : TypeId} {bl : List Bool} (h : w.heap[b]? = some (.cells (boolsV bl).toArray T (0, 0))) : ∀ (j : Nat) x, (boolsV bl)[j]? = some x → w.cell? ⟨b, 0 + j, none⟩ = some x := by
  intro j x hj
  simp [World.cell?, h, hj]
set_option maxRecDepth 100000 in
set_option maxHeartbeats 12800000 in
theorem lawSplits_any (code : List UInt8) (ca : Option Addr) (cc : Nat) (X : Nat) (bl : List Bool) (hX : X < 256) (hbl : bl.length = 8) (w : World) (hT : Tab w) (hs : ShowsV w (.slice ca code.length cc) (bytesV code)) (hl : code.length ≤ 30) : Calls Tryd.prog 10 #[.slice ca code.length cc, .int .u8 (X : Int), .agg (boolsV bl).toArray] w (Ret (.bool true) w) := by
  have f0 : decide ((30 : Int) < (code.length : Int)) = false := decide_eq_false (by omega)
  have HT := Lib.hid hT
  have HM := Lib.hid (fun W (hW : Below w.heap.size w W) => Make_any code ca cc W (showsV_of hs hW) hl)
  obtain ⟨g1, g2, g3, g4⟩ := mkF_good code
  obtain ⟨t, ht⟩ : ∃ t, mkF code = t := ⟨_, rfl⟩
  rw [ht] at HM g1 g2 g3 g4
  obtain ⟨x, hx⟩ : ∃ x : Nat, X % 8 = x := ⟨_, rfl⟩
  have hx8 : x < 8 := by omega
  have hmod : (X : Int) % 8 = (x : Int) := by omega
  obtain ⟨v, hv⟩ : ∃ v, bl[x]? = some v := some_at (by omega)
  have hev : envL bl (x : Int) = v := by unfold envL; rw [Int.toNat_natCast, List.getD_eq_getElem?_getD, hv]; rfl
  obtain ⟨k1, k2, k3, k4, k5, k6, k7⟩ := splits_law t (envL bl) (x : Int) g1 g2
  rw [hev] at k1 k2 k3 k5 k6 k7
  have hen : enough bl t := fun y hy => by have := k4 y hy; omega
  have HRS := Lib.hid (fun (P : Nat → Prop) ad cap w' hi => Restrict_ok (x : Int) (by omega) v P t ad cap w' hi g1 (by omega) (by omega) (by omega) (by omega))
  have HV1 := Lib.hid (fun (P : Nat → Prop) ad cap va vc w' hi hv => Value_ok P t ad cap w' bl va vc hi g1 (by omega) (by omega) hv (by omega) hen)
  obtain ⟨r, hr⟩ : ∃ r, put (x : Int) (cst v) t = r := ⟨_, rfl⟩
  rw [hr] at k1 k2 k3 k5 k6 k7 HRS
  have henr : enough bl r := fun y hy => by have := (k5 y hy).1; omega
  have HV2 := Lib.hid (fun (P : Nat → Prop) ad cap va vc w' hi hv => Value_ok P r ad cap w' bl va vc hi k1 (by omega) (by omega) hv (by omega) henr)
  have HSP := Lib.hid (fun (P : Nat → Prop) ad cap w' hi => Support_ok P r ad cap w' hi k1 (by omega) (by omega))
  have HSB := Lib.hid (fun (P P' : Nat → Prop) ad ad' cap cap' w' hi hi' => Substitute_ok (x : Int) (by omega) P P' r t ad ad' cap cap' w' hi hi' k1 g1 (by omega) (by omega) (by omega) (by omega) (by rw [k7]; omega) (by rw [k7]; omega))
  rw [k7] at HSB
  have HEQ := Lib.hid (fun (P P' : Nat → Prop) ad ad' cap cap' w' hi hi' => Equal_any (nodes r) r (Nat.le_refl _) r P P' ad ad' cap cap' w' hi hi' (by omega) (by omega))
  rw [(eqF_iff r r).2 rfl] at HEQ
  rw [k6] at HV2
  obtain ⟨vv, hvv⟩ : ∃ vv, val (envL bl) t = vv := ⟨_, rfl⟩
  rw [hvv] at HV1 HV2
  have hls := supF_len [r]
  rw [nodesL, nodesL] at hls
  have hls2 : (supF [r]).length ≤ 100 := by omega
  obtain ⟨ls, hlse⟩ : ∃ ls, supF [r] = ls := ⟨_, rfl⟩
  rw [hlse] at HSP k5 hls2
  have HLS := Lib.hid (show ∀ y ∈ ls, y ≠ (x : Int) from fun y hy => (k5 y hy).2)
  have HBL := Lib.hid (show (boolsV bl).length = 8 by simp [boolsV, hbl])
  have HVX := Lib.hid (show (boolsV bl)[x]? = some (.bool v) by unfold boolsV; rw [List.getElem?_map, hv]; rfl)
  have hib : (0 ≤ (x : Int) ∧ (x : Int) < 8) := ⟨by omega, by omega⟩
  rw [hbl] at HV1 HV2
  clear hT hs ht g1 g2 g3 g4 hev k1 k2 k3 k4 k5 k6 k7 hen henr hr hvv hls hlse hv hbl hx
  go_enter Tryd.func10, Tryd.ntmps10
  go_wp2_with fail
  (with_reducible refine (known_any _ (HT.out.of (by (repeat' (first | (with_reducible exact Below.refl _ _) | (with_reducible exact Nat.le_refl _) | (with_reducible refine Below.bel ?_ ?_) | (with_reducible refine Below.alloc ?_ ?_ _) | (with_reducible refine Below.drew ?_) | (with_reducible refine Below.drawsN ?_ _) | (with_reducible refine Below.setCell ?_ ?_ _) | (with_reducible refine le_bel ?_) | (with_reducible refine le_alloc ?_) | (with_reducible refine le_setCell ?_) | (with_reducible refine le_drew ?_) | (with_reducible refine le_drawsN ?_) | (dsimp only; with_reducible refine le_bel ?_) | (dsimp only; with_reducible refine Nat.le_refl _) | (dsimp only; with_reducible refine le_bel_add ?_) | (with_reducible assumption) | omega | (dsimp only; omega)))))).mono ?_)
  rintro _ _ ⟨rfl, y1, rfl⟩
  go_wp2_with fail
  refine (HM.out _ (by (repeat' (first | (with_reducible exact Below.refl _ _) | (with_reducible exact Nat.le_refl _) | (with_reducible refine Below.bel ?_ ?_) | (with_reducible refine Below.alloc ?_ ?_ _) | (with_reducible refine Below.drew ?_) | (with_reducible refine Below.drawsN ?_ _) | (with_reducible refine Below.setCell ?_ ?_ _) | (with_reducible refine le_bel ?_) | (with_reducible refine le_alloc ?_) | (with_reducible refine le_setCell ?_) | (with_reducible refine le_drew ?_) | (with_reducible refine le_drawsN ?_) | (dsimp only; with_reducible refine le_bel ?_) | (dsimp only; with_reducible refine Nat.le_refl _) | (dsimp only; with_reducible refine le_bel_add ?_) | (with_reducible assumption) | omega | (dsimp only; omega))))).mono ?_
  rintro _ _ ⟨_, rfl, y2, rfl, ad2, cap2, rfl, hi2⟩
  have hs1 := y1.size_le
  have hs2 := y2.size_le
  simp at hs1
  have hA2 : y2.w.heap[w.heap.size]? = some (.cells (boolsV bl).toArray 60 (0, 0)) := obj_bel ⟨y2.w, (by (repeat' (first | (with_reducible exact Below.refl _ _) | (with_reducible exact Nat.le_refl _) | (with_reducible refine Below.bel ?_ ?_) | (with_reducible refine Below.alloc ?_ ?_ _) | (with_reducible refine Below.drew ?_) | (with_reducible refine Below.drawsN ?_ _) | (with_reducible refine Below.setCell ?_ ?_ _) | (with_reducible refine le_bel ?_) | (with_reducible refine le_alloc ?_) | (with_reducible refine le_setCell ?_) | (with_reducible refine le_drew ?_) | (with_reducible refine le_drawsN ?_) | (dsimp only; with_reducible refine le_bel ?_) | (dsimp only; with_reducible refine Nat.le_refl _) | (dsimp only; with_reducible refine le_bel_add ?_) | (with_reducible assumption) | omega | (dsimp only; omega))) : Below (w.alloc (.cells (boolsV bl).toArray 60)).heap.size _ y2.w)⟩ (World.alloc_heap_new w (.cells (boolsV bl).toArray 60))
  have hF2 := World.alloc_heap_new y2.w (.cells #[.int .i64 t.k, .int .i64 t.a, .slice ad2 t.l.length cap2] 25)
  have hb2 : Below w.heap.size w y2.w := by (repeat' (first | (with_reducible exact Below.refl _ _) | (with_reducible exact Nat.le_refl _) | (with_reducible refine Below.bel ?_ ?_) | (with_reducible refine Below.alloc ?_ ?_ _) | (with_reducible refine Below.drew ?_) | (with_reducible refine Below.drawsN ?_ _) | (with_reducible refine Below.setCell ?_ ?_ _) | (with_reducible refine le_bel ?_) | (with_reducible refine le_alloc ?_) | (with_reducible refine le_setCell ?_) | (with_reducible refine le_drew ?_) | (with_reducible refine le_drawsN ?_) | (dsimp only; with_reducible refine le_bel ?_) | (dsimp only; with_reducible refine Nat.le_refl _) | (dsimp only; with_reducible refine le_bel_add ?_) | (with_reducible assumption) | omega | (dsimp only; omega)))
  obtain ⟨Y, hY⟩ : ∃ Y, y2.w.alloc (.cells #[.int .i64 t.k, .int .i64 t.a, .slice ad2 t.l.length cap2] 25) = Y := ⟨_, rfl⟩
  have hY1 : Below y2.w.heap.size y2.w Y := by rw [← hY]; exact (Below.refl _ _).alloc (Nat.le_refl _) _
  have hAY := obj_below hY1 (by omega) hA2
  have hszY : Y.heap.size = y2.w.heap.size + 1 := by rw [← hY]; simp
  have HIY := Lib.hid (show InsF (fun c => c < y2.w.heap.size) Y ad2 t.l from (hi2.imp fun b hb _ => hb).of hY1)
  have HBY := Lib.hid (hb2.trans (hY1.mono hb2.size))
  rw [hY] at hF2
  obtain ⟨b0, b1, b2⟩ := box3 hF2
  have hcx := row_cells hAY x _ HVX.out
  rw [Nat.zero_add] at hcx
  clear hi2 hA2 hb2
  dsimp only
  go_wp2_with fail
  clear hY hY1 
  obtain ⟨B7, hB7⟩ : ∃ B7, y2.w.heap.size = B7 := ⟨_, rfl⟩
  have hw7 : w.heap.size + 1 ≤ y2.w.heap.size := by omega
  rw [hB7] at hw7 hF2 hszY HIY b0 b1 b2 ⊢
  clear hB7 hs2 hs1 y2 y1
  have SK := Lib.hid (show ∀ V : World, Below Y.heap.size Y V → V.cell? ⟨B7, 0, none⟩ = some (.int .i64 t.k) ∧ V.cell? ⟨B7, 1, none⟩ = some (.int .i64 t.a) ∧ V.cell? ⟨B7, 2, none⟩ = some (.slice ad2 t.l.length cap2) ∧ V.cell? ⟨w.heap.size, x, none⟩ = some (.bool v) ∧ Below Y.heap.size Y V from
    fun V h => ⟨below_cell h _ _ _ b0, below_cell h _ _ _ b1, below_cell h _ _ _ b2, below_cell h _ _ _ hcx, h⟩)
  have hRf : Below Y.heap.size Y Y := Below.refl _ _
  go_region_held3 (fun V => V.cell? ⟨B7, 0, none⟩ = some (.int .i64 t.k) ∧ V.cell? ⟨B7, 1, none⟩ = some (.int .i64 t.a) ∧ V.cell? ⟨B7, 2, none⟩ = some (.slice ad2 t.l.length cap2) ∧ V.cell? ⟨w.heap.size, x, none⟩ = some (.bool v) ∧ Below Y.heap.size Y V) (exact SK.out _ (by (repeat' (first | (with_reducible exact Below.refl _ _) | (with_reducible exact Nat.le_refl _) | (with_reducible refine Below.bel ?_ ?_) | (with_reducible refine Below.alloc ?_ ?_ _) | (with_reducible refine Below.drew ?_) | (with_reducible refine Below.drawsN ?_ _) | (with_reducible refine Below.setCell ?_ ?_ _) | (with_reducible refine le_bel ?_) | (with_reducible refine le_alloc ?_) | (with_reducible refine le_setCell ?_) | (with_reducible refine le_drew ?_) | (with_reducible refine le_drawsN ?_) | (dsimp only; with_reducible refine le_bel ?_) | (dsimp only; with_reducible refine Nat.le_refl _) | (dsimp only; with_reducible refine le_bel_add ?_) | (with_reducible assumption) | omega | (dsimp only; omega))))) (first | (go_at_call 32; refine (HRS.out _ _ _ _ (HIY.out.of (by (repeat' (first | (with_reducible exact Below.refl _ _) | (with_reducible exact Nat.le_refl _) | (with_reducible refine Below.bel ?_ ?_) | (with_reducible refine Below.alloc ?_ ?_ _) | (with_reducible refine Below.drew ?_) | (with_reducible refine Below.drawsN ?_ _) | (with_reducible refine Below.setCell ?_ ?_ _) | (with_reducible refine le_bel ?_) | (with_reducible refine le_alloc ?_) | (with_reducible refine le_setCell ?_) | (with_reducible refine le_drew ?_) | (with_reducible refine le_drawsN ?_) | (dsimp only; with_reducible refine le_bel ?_) | (dsimp only; with_reducible refine Nat.le_refl _) | (dsimp only; with_reducible refine le_bel_add ?_) | (with_reducible assumption) | omega | (dsimp only; omega)))))).mono ?_; rintro _ _ ⟨_, rfl, y3, rfl, ad3, cap3, rfl, hi3⟩; have HI3 := Lib.hid hi3; have hy3 := y3.size_le; clear hi3))
  · rename_i hHeld
    have hbZ := hHeld.2.2.2.2
    clear hHeld
    have hyd := hy3
    simp at hyd
    have hO9 := World.alloc_heap_new y3.w (.cells #[.int .i64 r.k, .int .i64 r.a, .slice ad3 r.l.length cap3] 25)
    have HI9 := (HI3.out.of ((Below.refl _ _).alloc (Nat.le_refl _) (.cells #[.int .i64 r.k, .int .i64 r.a, .slice ad3 r.l.length cap3] 25))).imp fun b hb hp => (show Y.heap.size ≤ b by simp at hp; omega)
    obtain ⟨Z, hZ⟩ : ∃ Z, y3.w.alloc (.cells #[.int .i64 r.k, .int .i64 r.a, .slice ad3 r.l.length cap3] 25) = Z := ⟨_, rfl⟩
    obtain ⟨B9, hB9⟩ : ∃ B9, y3.w.heap.size = B9 := ⟨_, rfl⟩
    have h99 : B7 + 1 ≤ B9 := by omega
    rw [hZ, hB9] at hO9
    rw [hZ] at HI9 hbZ ⊢
    rw [hB9]
    clear hZ hB9 hyd hy3 HI3 y3
    have HIR := Lib.hid (HI9)
    have hA9 := obj_below hbZ (by omega) hAY
    have hF9 := obj_below hbZ (by omega) hF2
    have HITZ := Lib.hid (HIY.out.of hbZ)
    have hszZ := hbZ.size
    have HBZ := Lib.hid (HBY.out.trans (hbZ.mono HBY.out.size))
    have HSV := Lib.hid (fun V (h : Below Z.heap.size Z V) => (show ShowsV V (.slice (some ⟨w.heap.size, 0, none⟩) 8 8) (boolsV bl) from showsV_of (.inr ⟨w.heap.size, 0, 8, by rw [HBL.out], by rw [HBL.out]; decide, row_cells hA9⟩) h))
    obtain ⟨p0, p1, p2⟩ := box3 hF9
    obtain ⟨q0, q1, q2⟩ := box3 hO9
    clear HI9 hbZ SK hRf
    go_wp2_with fail
    refine wp_region_bel (by kernel_rfl) (by kernel_rfl) ?_
    repeat (go_big_quiet_step ((go_at_call 24; with_reducible refine bel_of (HV1.out _ _ _ _ _ _ (HITZ.out.of ?_) (HSV.out _ ?_)) <;> (repeat' (first | (with_reducible exact Below.refl _ _) | (with_reducible exact Nat.le_refl _) | (with_reducible refine Below.bel ?_ ?_) | (with_reducible refine Below.alloc ?_ ?_ _) | (with_reducible refine Below.drew ?_) | (with_reducible refine Below.drawsN ?_ _) | (with_reducible refine Below.setCell ?_ ?_ _) | (with_reducible refine le_bel ?_) | (with_reducible refine le_alloc ?_) | (with_reducible refine le_setCell ?_) | (with_reducible refine le_drew ?_) | (with_reducible refine le_drawsN ?_) | (dsimp only; with_reducible refine le_bel ?_) | (dsimp only; with_reducible refine Nat.le_refl _) | (dsimp only; with_reducible refine le_bel_add ?_) | (with_reducible assumption) | omega | (dsimp only; omega))))))
    refine wpQuiet_nil ?_
    rintro _ ⟨z1, rfl⟩
    have u1 := z1.size_le
    obtain ⟨q0, q1, q2⟩ := box3 (obj_bel z1 hO9)
    go_wp2_with fail
    refine wp_region_bel (by kernel_rfl) (by kernel_rfl) ?_
    repeat (go_big_quiet_step ((go_at_call 24; with_reducible refine bel_of (HV2.out _ _ _ _ _ _ (HIR.out.of ?_) (HSV.out _ ?_)) <;> (repeat' (first | (with_reducible exact Below.refl _ _) | (with_reducible exact Nat.le_refl _) | (with_reducible refine Below.bel ?_ ?_) | (with_reducible refine Below.alloc ?_ ?_ _) | (with_reducible refine Below.drew ?_) | (with_reducible refine Below.drawsN ?_ _) | (with_reducible refine Below.setCell ?_ ?_ _) | (with_reducible refine le_bel ?_) | (with_reducible refine le_alloc ?_) | (with_reducible refine le_setCell ?_) | (with_reducible refine le_drew ?_) | (with_reducible refine le_drawsN ?_) | (dsimp only; with_reducible refine le_bel ?_) | (dsimp only; with_reducible refine Nat.le_refl _) | (dsimp only; with_reducible refine le_bel_add ?_) | (with_reducible assumption) | omega | (dsimp only; omega))))))
    refine wpQuiet_nil ?_
    rintro _ ⟨z2, rfl⟩
    have u2 := z2.size_le
    have hO92 := obj_bel z2 (obj_bel z1 hO9)
    obtain ⟨q0, q1, q2⟩ := box3 hO92
    have fvv : (vv != vv) = false := by cases vv <;> rfl
    go_wp2_with fail
    refine (HSP.out _ _ _ _ (HIR.out.of (by (repeat' (first | (with_reducible exact Below.refl _ _) | (with_reducible exact Nat.le_refl _) | (with_reducible refine Below.bel ?_ ?_) | (with_reducible refine Below.alloc ?_ ?_ _) | (with_reducible refine Below.drew ?_) | (with_reducible refine Below.drawsN ?_ _) | (with_reducible refine Below.setCell ?_ ?_ _) | (with_reducible refine le_bel ?_) | (with_reducible refine le_alloc ?_) | (with_reducible refine le_setCell ?_) | (with_reducible refine le_drew ?_) | (with_reducible refine le_drawsN ?_) | (dsimp only; with_reducible refine le_bel ?_) | (dsimp only; with_reducible refine Nat.le_refl _) | (dsimp only; with_reducible refine le_bel_add ?_) | (with_reducible assumption) | omega | (dsimp only; omega)))))).mono ?_
    rintro _ _ ⟨v5, rfl, y5, rfl, hown⟩
    have u5 := y5.size_le
    have HOW := Lib.hid hown
    have hbZ5 : Below Z.heap.size Z y5.w := by (repeat' (first | (with_reducible exact Below.refl _ _) | (with_reducible exact Nat.le_refl _) | (with_reducible refine Below.bel ?_ ?_) | (with_reducible refine Below.alloc ?_ ?_ _) | (with_reducible refine Below.drew ?_) | (with_reducible refine Below.drawsN ?_ _) | (with_reducible refine Below.setCell ?_ ?_ _) | (with_reducible refine le_bel ?_) | (with_reducible refine le_alloc ?_) | (with_reducible refine le_setCell ?_) | (with_reducible refine le_drew ?_) | (with_reducible refine le_drawsN ?_) | (dsimp only; with_reducible refine le_bel ?_) | (dsimp only; with_reducible refine Nat.le_refl _) | (dsimp only; with_reducible refine le_bel_add ?_) | (with_reducible assumption) | omega | (dsimp only; omega)))
    have HO95 := Lib.hid (obj_below hbZ5 (Array.getElem?_eq_some_iff.1 hO9).1 hO9)
    have HF95 := Lib.hid (obj_below hbZ5 (Array.getElem?_eq_some_iff.1 hF9).1 hF9)
    have HIR5 := Lib.hid (HIR.out.of hbZ5)
    have HIT5 := Lib.hid (HITZ.out.of hbZ5)
    have HB5 := Lib.hid (HBZ.out.trans (hbZ5.mono HBZ.out.size))
    obtain ⟨W5, hW5⟩ : ∃ W5, y5.w = W5 := ⟨_, rfl⟩
    rw [hW5] at HO95 HF95 HIR5 HIT5 HB5 HOW ⊢
    clear hown hbZ5 hW5 u5 y5
    obtain ⟨a5, c5, rfl, hcl⟩ := showsV_at (ownV_shows HOW.out)
    have hil : (intsV ls).length = ls.length := by simp [intsV]
    rw [hil] at hcl ⊢
    have HCL := Lib.hid hcl
    clear hcl hil HOW
    dsimp only
    go_wp2
    go_loopw [17] (fun i wr => ∃ k : Nat, i = .int .i64 (k : Int) ∧ k ≤ ls.length ∧ Below W5.heap.size W5 wr) (fun i _ => ls.length - (intOf i).toNat)
    case atStart => exact ⟨0, rfl, by omega, Below.refl _ _⟩
    case round =>
      obtain ⟨k, rfl, hk, hb⟩ := hrel
      rcases Nat.lt_or_ge k ls.length with hkl | hkl
      · obtain ⟨y, hy⟩ := some_at hkl
        have hne := HLS.out y (List.mem_of_getElem? hy)
        have f1 : (y == (x : Int)) = false := beq_eq_false_iff_ne.2 hne
        have f2 : decide ((k : Int) < (ls.length : Int)) = true := decide_eq_true (by omega)
        obtain ⟨gb, go, hadd, hcc⟩ := HCL.out (by omega)
        subst hadd
        have hcell := below_cell hb _ _ _ (hcc k (.int .i64 y) (by unfold intsV; rw [List.getElem?_map, hy]; rfl))
        have hib2 : (0 ≤ (k : Int) ∧ (k : Int) < (ls.length : Int)) := ⟨by omega, by omega⟩
        clear hcc hy hne
        go_wp2
        go_roundw
        case rel => exact ⟨k + 1, by go_num, by omega, hb⟩
        case measure => simp [intOf]; omega
      · have hke : k = ls.length := by omega
        subst hke
        have f2 : decide ((ls.length : Int) < (ls.length : Int)) = false := decide_eq_false (by omega)
        have hO9w := obj_below hb (Array.getElem?_eq_some_iff.1 HO95.out).1 HO95.out
        have hF9w := obj_below hb (Array.getElem?_eq_some_iff.1 HF95.out).1 HF95.out
        obtain ⟨r0, r1, r2⟩ := box3 hO9w
        obtain ⟨l0, l1, l2⟩ := box3 hF9w
        have HIRw := Lib.hid (HIR5.out.of hb)
        have HITw := Lib.hid (HIT5.out.of hb)
        have HBw := Lib.hid (HB5.out.trans (hb.mono HB5.out.size))
        clear hb
        go_wp2_with fail
        refine (HSB.out _ _ _ _ _ _ _ HIRw.out HITw.out).mono ?_
        rintro _ _ ⟨_, rfl, y6, rfl, ad6, cap6, rfl, hi6⟩
        have HI6 := Lib.hid hi6
        have u6 := y6.size_le
        have hO6 := World.alloc_heap_new y6.w (.cells #[.int .i64 r.k, .int .i64 r.a, .slice ad6 r.l.length cap6] 25)
        obtain ⟨m0, m1, m2⟩ := box3 hO6
        obtain ⟨r0, r1, r2⟩ := box3 (obj_below (by (repeat' (first | (with_reducible exact Below.refl _ _) | (with_reducible exact Nat.le_refl _) | (with_reducible refine Below.bel ?_ ?_) | (with_reducible refine Below.alloc ?_ ?_ _) | (with_reducible refine Below.drew ?_) | (with_reducible refine Below.drawsN ?_ _) | (with_reducible refine Below.setCell ?_ ?_ _) | (with_reducible refine le_bel ?_) | (with_reducible refine le_alloc ?_) | (with_reducible refine le_setCell ?_) | (with_reducible refine le_drew ?_) | (with_reducible refine le_drawsN ?_) | (dsimp only; with_reducible refine le_bel ?_) | (dsimp only; with_reducible refine Nat.le_refl _) | (dsimp only; with_reducible refine le_bel_add ?_) | (with_reducible assumption) | omega | (dsimp only; omega))) : Below wr.heap.size wr (y6.w.alloc (.cells #[.int .i64 r.k, .int .i64 r.a, .slice ad6 r.l.length cap6] 25))) (Array.getElem?_eq_some_iff.1 hO9w).1 hO9w)
        clear hi6
        dsimp only
        go_wp2_with fail
        refine (HEQ.out _ _ _ _ _ _ _ (HI6.out.of (by (repeat' (first | (with_reducible exact Below.refl _ _) | (with_reducible exact Nat.le_refl _) | (with_reducible refine Below.bel ?_ ?_) | (with_reducible refine Below.alloc ?_ ?_ _) | (with_reducible refine Below.drew ?_) | (with_reducible refine Below.drawsN ?_ _) | (with_reducible refine Below.setCell ?_ ?_ _) | (with_reducible refine le_bel ?_) | (with_reducible refine le_alloc ?_) | (with_reducible refine le_setCell ?_) | (with_reducible refine le_drew ?_) | (with_reducible refine le_drawsN ?_) | (dsimp only; with_reducible refine le_bel ?_) | (dsimp only; with_reducible refine Nat.le_refl _) | (dsimp only; with_reducible refine le_bel_add ?_) | (with_reducible assumption) | omega | (dsimp only; omega))))) (HIRw.out.of (by (repeat' (first | (with_reducible exact Below.refl _ _) | (with_reducible exact Nat.le_refl _) | (with_reducible refine Below.bel ?_ ?_) | (with_reducible refine Below.alloc ?_ ?_ _) | (with_reducible refine Below.drew ?_) | (with_reducible refine Below.drawsN ?_ _) | (with_reducible refine Below.setCell ?_ ?_ _) | (with_reducible refine le_bel ?_) | (with_reducible refine le_alloc ?_) | (with_reducible refine le_setCell ?_) | (with_reducible refine le_drew ?_) | (with_reducible refine le_drawsN ?_) | (dsimp only; with_reducible refine le_bel ?_) | (dsimp only; with_reducible refine Nat.le_refl _) | (dsimp only; with_reducible refine le_bel_add ?_) | (with_reducible assumption) | omega | (dsimp only; omega)))))).mono ?_
        rintro _ _ ⟨rfl, y7, rfl⟩
        have hbw := HBw.out
        have hbws := hbw.size
        dsimp only
        go_wp2
        go_ret
        exact Ret.mk (by rfl) (by (repeat' (first | (with_reducible exact Below.refl _ _) | (with_reducible exact Nat.le_refl _) | (with_reducible refine Below.bel ?_ ?_) | (with_reducible refine Below.alloc ?_ ?_ _) | (with_reducible refine Below.drew ?_) | (with_reducible refine Below.drawsN ?_ _) | (with_reducible refine Below.setCell ?_ ?_ _) | (with_reducible refine le_bel ?_) | (with_reducible refine le_alloc ?_) | (with_reducible refine le_setCell ?_) | (with_reducible refine le_drew ?_) | (with_reducible refine le_drawsN ?_) | (dsimp only; with_reducible refine le_bel ?_) | (dsimp only; with_reducible refine Nat.le_refl _) | (dsimp only; with_reducible refine le_bel_add ?_) | (with_reducible assumption) | omega | (dsimp only; omega))))
  · rename_i hHeld
    have hbZ := hHeld.2.2.2.2
    clear hHeld
    have hz : y3.w.heap[Y.heap.size]? = _ := obj_bel y3 (show (Y.alloc (.cells #[.int .i64 0, .int .i64 0, .slice none 0 0] 25)).drew.heap[Y.heap.size]? = _ from World.alloc_heap_new Y _)
    rw [hszY] at hz
    have hO9 := obj_set3 (.int .i64 r.k) (.int .i64 r.a) (.slice ad3 r.l.length cap3) hz
    have HI9 := (HI3.out.move (w' := (((y3.w.setCell ⟨B7 + 1, 0, none⟩ (.int .i64 r.k)).setCell ⟨B7 + 1, 1, none⟩ (.int .i64 r.a)).setCell ⟨B7 + 1, 2, none⟩ (.slice ad3 r.l.length cap3))) (fun c o u hc hu => (by
      have hne : c ≠ B7 + 1 := by simp at hc; omega
      rw [World.cell?_of_block (Below.heap_setCell _ _ _ c hne), World.cell?_of_block (Below.heap_setCell _ _ _ c hne), World.cell?_of_block (Below.heap_setCell _ _ _ c hne)]
      exact hu)) (fun b _ h => h)).imp fun b hb hp => (show Y.heap.size ≤ b by simp at hp; omega)
    obtain ⟨Z, hZ⟩ : ∃ Z, (((y3.w.setCell ⟨B7 + 1, 0, none⟩ (.int .i64 r.k)).setCell ⟨B7 + 1, 1, none⟩ (.int .i64 r.a)).setCell ⟨B7 + 1, 2, none⟩ (.slice ad3 r.l.length cap3)) = Z := ⟨_, rfl⟩
    obtain ⟨B9, hB9⟩ : ∃ B9, B7 + 1 = B9 := ⟨_, rfl⟩
    have h99 : B7 + 1 ≤ B9 := by omega
    rw [hZ] at hO9 HI9 hbZ ⊢
    rw [hB9] at hO9 ⊢
    clear hZ hB9 hy3 HI3 hz y3
    have HIR := Lib.hid (HI9)
    have hA9 := obj_below hbZ (by omega) hAY
    have hF9 := obj_below hbZ (by omega) hF2
    have HITZ := Lib.hid (HIY.out.of hbZ)
    have hszZ := hbZ.size
    have HBZ := Lib.hid (HBY.out.trans (hbZ.mono HBY.out.size))
    have HSV := Lib.hid (fun V (h : Below Z.heap.size Z V) => (show ShowsV V (.slice (some ⟨w.heap.size, 0, none⟩) 8 8) (boolsV bl) from showsV_of (.inr ⟨w.heap.size, 0, 8, by rw [HBL.out], by rw [HBL.out]; decide, row_cells hA9⟩) h))
    obtain ⟨p0, p1, p2⟩ := box3 hF9
    obtain ⟨q0, q1, q2⟩ := box3 hO9
    clear HI9 hbZ SK hRf
    go_wp2_with fail
    refine wp_region_bel (by kernel_rfl) (by kernel_rfl) ?_
    repeat (go_big_quiet_step ((go_at_call 24; with_reducible refine bel_of (HV1.out _ _ _ _ _ _ (HITZ.out.of ?_) (HSV.out _ ?_)) <;> (repeat' (first | (with_reducible exact Below.refl _ _) | (with_reducible exact Nat.le_refl _) | (with_reducible refine Below.bel ?_ ?_) | (with_reducible refine Below.alloc ?_ ?_ _) | (with_reducible refine Below.drew ?_) | (with_reducible refine Below.drawsN ?_ _) | (with_reducible refine Below.setCell ?_ ?_ _) | (with_reducible refine le_bel ?_) | (with_reducible refine le_alloc ?_) | (with_reducible refine le_setCell ?_) | (with_reducible refine le_drew ?_) | (with_reducible refine le_drawsN ?_) | (dsimp only; with_reducible refine le_bel ?_) | (dsimp only; with_reducible refine Nat.le_refl _) | (dsimp only; with_reducible refine le_bel_add ?_) | (with_reducible assumption) | omega | (dsimp only; omega))))))
    refine wpQuiet_nil ?_
    rintro _ ⟨z1, rfl⟩
    have u1 := z1.size_le
    obtain ⟨q0, q1, q2⟩ := box3 (obj_bel z1 hO9)
    go_wp2_with fail
    refine wp_region_bel (by kernel_rfl) (by kernel_rfl) ?_
    repeat (go_big_quiet_step ((go_at_call 24; with_reducible refine bel_of (HV2.out _ _ _ _ _ _ (HIR.out.of ?_) (HSV.out _ ?_)) <;> (repeat' (first | (with_reducible exact Below.refl _ _) | (with_reducible exact Nat.le_refl _) | (with_reducible refine Below.bel ?_ ?_) | (with_reducible refine Below.alloc ?_ ?_ _) | (with_reducible refine Below.drew ?_) | (with_reducible refine Below.drawsN ?_ _) | (with_reducible refine Below.setCell ?_ ?_ _) | (with_reducible refine le_bel ?_) | (with_reducible refine le_alloc ?_) | (with_reducible refine le_setCell ?_) | (with_reducible refine le_drew ?_) | (with_reducible refine le_drawsN ?_) | (dsimp only; with_reducible refine le_bel ?_) | (dsimp only; with_reducible refine Nat.le_refl _) | (dsimp only; with_reducible refine le_bel_add ?_) | (with_reducible assumption) | omega | (dsimp only; omega))))))
    refine wpQuiet_nil ?_
    rintro _ ⟨z2, rfl⟩
    have u2 := z2.size_le
    have hO92 := obj_bel z2 (obj_bel z1 hO9)
    obtain ⟨q0, q1, q2⟩ := box3 hO92
    have fvv : (vv != vv) = false := by cases vv <;> rfl
    go_wp2_with fail
    refine (HSP.out _ _ _ _ (HIR.out.of (by (repeat' (first | (with_reducible exact Below.refl _ _) | (with_reducible exact Nat.le_refl _) | (with_reducible refine Below.bel ?_ ?_) | (with_reducible refine Below.alloc ?_ ?_ _) | (with_reducible refine Below.drew ?_) | (with_reducible refine Below.drawsN ?_ _) | (with_reducible refine Below.setCell ?_ ?_ _) | (with_reducible refine le_bel ?_) | (with_reducible refine le_alloc ?_) | (with_reducible refine le_setCell ?_) | (with_reducible refine le_drew ?_) | (with_reducible refine le_drawsN ?_) | (dsimp only; with_reducible refine le_bel ?_) | (dsimp only; with_reducible refine Nat.le_refl _) | (dsimp only; with_reducible refine le_bel_add ?_) | (with_reducible assumption) | omega | (dsimp only; omega)))))).mono ?_
    rintro _ _ ⟨v5, rfl, y5, rfl, hown⟩
    have u5 := y5.size_le
    have HOW := Lib.hid hown
    have hbZ5 : Below Z.heap.size Z y5.w := by (repeat' (first | (with_reducible exact Below.refl _ _) | (with_reducible exact Nat.le_refl _) | (with_reducible refine Below.bel ?_ ?_) | (with_reducible refine Below.alloc ?_ ?_ _) | (with_reducible refine Below.drew ?_) | (with_reducible refine Below.drawsN ?_ _) | (with_reducible refine Below.setCell ?_ ?_ _) | (with_reducible refine le_bel ?_) | (with_reducible refine le_alloc ?_) | (with_reducible refine le_setCell ?_) | (with_reducible refine le_drew ?_) | (with_reducible refine le_drawsN ?_) | (dsimp only; with_reducible refine le_bel ?_) | (dsimp only; with_reducible refine Nat.le_refl _) | (dsimp only; with_reducible refine le_bel_add ?_) | (with_reducible assumption) | omega | (dsimp only; omega)))
    have HO95 := Lib.hid (obj_below hbZ5 (Array.getElem?_eq_some_iff.1 hO9).1 hO9)
    have HF95 := Lib.hid (obj_below hbZ5 (Array.getElem?_eq_some_iff.1 hF9).1 hF9)
    have HIR5 := Lib.hid (HIR.out.of hbZ5)
    have HIT5 := Lib.hid (HITZ.out.of hbZ5)
    have HB5 := Lib.hid (HBZ.out.trans (hbZ5.mono HBZ.out.size))
    obtain ⟨W5, hW5⟩ : ∃ W5, y5.w = W5 := ⟨_, rfl⟩
    rw [hW5] at HO95 HF95 HIR5 HIT5 HB5 HOW ⊢
    clear hown hbZ5 hW5 u5 y5
    obtain ⟨a5, c5, rfl, hcl⟩ := showsV_at (ownV_shows HOW.out)
    have hil : (intsV ls).length = ls.length := by simp [intsV]
    rw [hil] at hcl ⊢
    have HCL := Lib.hid hcl
    clear hcl hil HOW
    dsimp only
    go_wp2
    go_loopw [17] (fun i wr => ∃ k : Nat, i = .int .i64 (k : Int) ∧ k ≤ ls.length ∧ Below W5.heap.size W5 wr) (fun i _ => ls.length - (intOf i).toNat)
    case atStart => exact ⟨0, rfl, by omega, Below.refl _ _⟩
    case round =>
      obtain ⟨k, rfl, hk, hb⟩ := hrel
      rcases Nat.lt_or_ge k ls.length with hkl | hkl
      · obtain ⟨y, hy⟩ := some_at hkl
        have hne := HLS.out y (List.mem_of_getElem? hy)
        have f1 : (y == (x : Int)) = false := beq_eq_false_iff_ne.2 hne
        have f2 : decide ((k : Int) < (ls.length : Int)) = true := decide_eq_true (by omega)
        obtain ⟨gb, go, hadd, hcc⟩ := HCL.out (by omega)
        subst hadd
        have hcell := below_cell hb _ _ _ (hcc k (.int .i64 y) (by unfold intsV; rw [List.getElem?_map, hy]; rfl))
        have hib2 : (0 ≤ (k : Int) ∧ (k : Int) < (ls.length : Int)) := ⟨by omega, by omega⟩
        clear hcc hy hne
        go_wp2
        go_roundw
        case rel => exact ⟨k + 1, by go_num, by omega, hb⟩
        case measure => simp [intOf]; omega
      · have hke : k = ls.length := by omega
        subst hke
        have f2 : decide ((ls.length : Int) < (ls.length : Int)) = false := decide_eq_false (by omega)
        have hO9w := obj_below hb (Array.getElem?_eq_some_iff.1 HO95.out).1 HO95.out
        have hF9w := obj_below hb (Array.getElem?_eq_some_iff.1 HF95.out).1 HF95.out
        obtain ⟨r0, r1, r2⟩ := box3 hO9w
        obtain ⟨l0, l1, l2⟩ := box3 hF9w
        have HIRw := Lib.hid (HIR5.out.of hb)
        have HITw := Lib.hid (HIT5.out.of hb)
        have HBw := Lib.hid (HB5.out.trans (hb.mono HB5.out.size))
        clear hb
        go_wp2_with fail
        refine (HSB.out _ _ _ _ _ _ _ HIRw.out HITw.out).mono ?_
        rintro _ _ ⟨_, rfl, y6, rfl, ad6, cap6, rfl, hi6⟩
        have HI6 := Lib.hid hi6
        have u6 := y6.size_le
        have hO6 := World.alloc_heap_new y6.w (.cells #[.int .i64 r.k, .int .i64 r.a, .slice ad6 r.l.length cap6] 25)
        obtain ⟨m0, m1, m2⟩ := box3 hO6
        obtain ⟨r0, r1, r2⟩ := box3 (obj_below (by (repeat' (first | (with_reducible exact Below.refl _ _) | (with_reducible exact Nat.le_refl _) | (with_reducible refine Below.bel ?_ ?_) | (with_reducible refine Below.alloc ?_ ?_ _) | (with_reducible refine Below.drew ?_) | (with_reducible refine Below.drawsN ?_ _) | (with_reducible refine Below.setCell ?_ ?_ _) | (with_reducible refine le_bel ?_) | (with_reducible refine le_alloc ?_) | (with_reducible refine le_setCell ?_) | (with_reducible refine le_drew ?_) | (with_reducible refine le_drawsN ?_) | (dsimp only; with_reducible refine le_bel ?_) | (dsimp only; with_reducible refine Nat.le_refl _) | (dsimp only; with_reducible refine le_bel_add ?_) | (with_reducible assumption) | omega | (dsimp only; omega))) : Below wr.heap.size wr (y6.w.alloc (.cells #[.int .i64 r.k, .int .i64 r.a, .slice ad6 r.l.length cap6] 25))) (Array.getElem?_eq_some_iff.1 hO9w).1 hO9w)
        clear hi6
        dsimp only
        go_wp2_with fail
        refine (HEQ.out _ _ _ _ _ _ _ (HI6.out.of (by (repeat' (first | (with_reducible exact Below.refl _ _) | (with_reducible exact Nat.le_refl _) | (with_reducible refine Below.bel ?_ ?_) | (with_reducible refine Below.alloc ?_ ?_ _) | (with_reducible refine Below.drew ?_) | (with_reducible refine Below.drawsN ?_ _) | (with_reducible refine Below.setCell ?_ ?_ _) | (with_reducible refine le_bel ?_) | (with_reducible refine le_alloc ?_) | (with_reducible refine le_setCell ?_) | (with_reducible refine le_drew ?_) | (with_reducible refine le_drawsN ?_) | (dsimp only; with_reducible refine le_bel ?_) | (dsimp only; with_reducible refine Nat.le_refl _) | (dsimp only; with_reducible refine le_bel_add ?_) | (with_reducible assumption) | omega | (dsimp only; omega))))) (HIRw.out.of (by (repeat' (first | (with_reducible exact Below.refl _ _) | (with_reducible exact Nat.le_refl _) | (with_reducible refine Below.bel ?_ ?_) | (with_reducible refine Below.alloc ?_ ?_ _) | (with_reducible refine Below.drew ?_) | (with_reducible refine Below.drawsN ?_ _) | (with_reducible refine Below.setCell ?_ ?_ _) | (with_reducible refine le_bel ?_) | (with_reducible refine le_alloc ?_) | (with_reducible refine le_setCell ?_) | (with_reducible refine le_drew ?_) | (with_reducible refine le_drawsN ?_) | (dsimp only; with_reducible refine le_bel ?_) | (dsimp only; with_reducible refine Nat.le_refl _) | (dsimp only; with_reducible refine le_bel_add ?_) | (with_reducible assumption) | omega | (dsimp only; omega)))))).mono ?_
        rintro _ _ ⟨rfl, y7, rfl⟩
        have hbw := HBw.out
        have hbws := hbw.size
        dsimp only
        go_wp2
        go_ret
        exact Ret.mk (by rfl) (by (repeat' (first | (with_reducible exact Below.refl _ _) | (with_reducible exact Nat.le_refl _) | (with_reducible refine Below.bel ?_ ?_) | (with_reducible refine Below.alloc ?_ ?_ _) | (with_reducible refine Below.drew ?_) | (with_reducible refine Below.drawsN ?_ _) | (with_reducible refine Below.setCell ?_ ?_ _) | (with_reducible refine le_bel ?_) | (with_reducible refine le_alloc ?_) | (with_reducible refine le_setCell ?_) | (with_reducible refine le_drew ?_) | (with_reducible refine le_drawsN ?_) | (dsimp only; with_reducible refine le_bel ?_) | (dsimp only; with_reducible refine Nat.le_refl _) | (dsimp only; with_reducible refine le_bel_add ?_) | (with_reducible assumption) | omega | (dsimp only; omega))))
end Go.Proofs.YtkbellmhanpocaaDoor
