/- The walk of DiagramChecks. -/
import Derived.Test.YtkdmhjlcgpnjpaaGreatDoorX28
import Derived.Deep.CutRange
import Derived.Deep.RegionHeld3
import Derived.Test.YtkdmhjlcgpnjpaaGreatDoorXZ
import Derived.Test.YtkdmhjlcgpnjpaaGreatDoorX24
namespace Go.Proofs.YtkdmhjlcgpnjpaaGreatDoor
set_option linter.unusedVariables false
set_option linter.unusedSimpArgs false
open Go.RowKit Go.Maps
attribute [local go_sem low] Bel.cell Bel.frozen alloc_cell alloc_frozen
attribute [local go_sem] calmOp chainOp yieldsC grows

theorem drewNew (w : World) (o : Obj) : (w.alloc o).drew.heap[w.heap.size]? = some o := World.alloc_heap_new w o
theorem obSet2 {W : World} {b : Nat} {x y : Value} {t : TypeId} (x' y' : Value) (h : W.heap[b]? = some (.cells #[x, y] t (0, 0))) :
    ((W.setCell ⟨b, 0, none⟩ x').setCell ⟨b, 1, none⟩ y').heap[b]? = some (.cells #[x', y'] t (0, 0)) := obj_setD y' (obj_setD x' h)
set_option maxRecDepth 100000 in
set_option maxHeartbeats 12800000 in
theorem lawChecks_long (n : Nat) (hn : 8 < n) (r : Int) (ad : Option Addr) (cap : Nat) (w : World) (hT : Tab w) : Calls Tryz.prog 12 #[.agg #[.slice ad n cap, .int .i64 r]] w (Ret (.bool true) w) := by
  have HT := Lib.hid hT
  have f1 : decide ((8 : Int) < (n : Int)) = true := decide_eq_true (by omega)
  have f1n : decide (8 < n) = true := decide_eq_true (by omega)
  clear hT
  go_enter Tryz.func12, Tryz.ntmps12
  go_wp2_with fail
  (with_reducible refine (known_any _ (HT.out.of (by (repeat' (first | (with_reducible first | exact Below.refl _ _ | exact Nat.le_refl _ | refine Below.bel ?_ ?_ | refine Below.alloc ?_ ?_ _ | refine Below.drew ?_ | refine Below.drawsN ?_ _ | refine Below.setCell ?_ ?_ _ | refine le_bel ?_ | refine le_alloc ?_ | refine le_setCell ?_ | refine le_drew ?_ | refine le_drawsN ?_) | (dsimp only; with_reducible first | refine le_bel ?_ | refine Nat.le_refl _ | refine le_bel_add ?_) | (with_reducible assumption) | omega | (dsimp only; omega)))))).mono ?_)
  rintro _ _ ⟨rfl, y1, rfl⟩
  have hB : Below w.heap.size w y1.w := by (repeat' (first | (with_reducible first | exact Below.refl _ _ | exact Nat.le_refl _ | refine Below.bel ?_ ?_ | refine Below.alloc ?_ ?_ _ | refine Below.drew ?_ | refine Below.drawsN ?_ _ | refine Below.setCell ?_ ?_ _ | refine le_bel ?_ | refine le_alloc ?_ | refine le_setCell ?_ | refine le_drew ?_ | refine le_drawsN ?_) | (dsimp only; with_reducible first | refine le_bel ?_ | refine Nat.le_refl _ | refine le_bel_add ?_) | (with_reducible assumption) | omega | (dsimp only; omega)))
  have oD := obj_bel y1 (World.alloc_heap_new w (.cells #[.slice ad n cap, .int .i64 r] 30))
  obtain ⟨p0, q0, -⟩ := cells2 oD
  dsimp only
  go_wp2_with fail
  (with_reducible refine (known_any _ (HT.out.of (by (repeat' (first | (with_reducible first | exact Below.refl _ _ | exact Nat.le_refl _ | refine Below.bel ?_ ?_ | refine Below.alloc ?_ ?_ _ | refine Below.drew ?_ | refine Below.drawsN ?_ _ | refine Below.setCell ?_ ?_ _ | refine le_bel ?_ | refine le_alloc ?_ | refine le_setCell ?_ | refine le_drew ?_ | refine le_drawsN ?_) | (dsimp only; with_reducible first | refine le_bel ?_ | refine Nat.le_refl _ | refine le_bel_add ?_) | (with_reducible assumption) | omega | (dsimp only; omega)))))).mono ?_)
  rintro _ _ ⟨rfl, y2, rfl⟩
  dsimp only
  go_wp2
  go_ret
  exact Ret.mk (by rfl) (by (repeat' (first | (with_reducible first | exact Below.refl _ _ | exact Nat.le_refl _ | refine Below.bel ?_ ?_ | refine Below.alloc ?_ ?_ _ | refine Below.drew ?_ | refine Below.drawsN ?_ _ | refine Below.setCell ?_ ?_ _ | refine le_bel ?_ | refine le_alloc ?_ | refine le_setCell ?_ | refine le_drew ?_ | refine le_drawsN ?_) | (dsimp only; with_reducible first | refine le_bel ?_ | refine Nat.le_refl _ | refine le_bel_add ?_) | (with_reducible assumption) | omega | (dsimp only; omega))))
set_option maxRecDepth 100000 in
set_option maxHeartbeats 12800000 in
theorem lawChecks_ok (L : List (Int × Int × Int)) (hL : InI L) (r : Int) (hr : inI r) (ad : Option Addr) (cap : Nat) (w : World) (hT : Tab w) (hi : InD w.heap.size w ad L) (hlen : L.length ≤ 8) (hq : chkD L r = 0) : Calls Tryz.prog 12 #[.agg #[.slice ad L.length cap, .int .i64 r]] w (Ret (.bool true) w) := by
  have HT := Lib.hid hT
  have HI := Lib.hid hi
  have f1 : decide ((8 : Int) < (L.length : Int)) = false := decide_eq_false (by omega)
  have f1n : decide (8 < L.length) = false := decide_eq_false (by omega)
  have HK1 := Lib.hid (fun w' (h : InD w'.heap.size w' ad L) => lcheck_any L hlen r ad cap w' h)
  have HK2 := Lib.hid (fun w' (h : InD w'.heap.size w' ad L) => dCheck_any L hL (by omega) ad cap r hr w' h)
  have HEQ : Hid (∀ w' (h : InD w'.heap.size w' ad L), Calls Tryz.prog 34 #[.agg #[.slice ad L.length cap, .int .i64 r], .agg #[.slice ad L.length cap, .int .i64 r]] w' (Ret (.bool true) w')) := Lib.hid (fun w' h => by
    have := dEqual_any (ad, cap, L, r) (ad, cap, L, r) w' h h (by dsimp only; omega) (by dsimp only; omega)
    rwa [decide_eq_true (show r = r ∧ L = L from ⟨rfl, rfl⟩)] at this)
  rw [hq] at HK1 HK2
  have e0 : ((((0 : Nat) : Int)) != ((0 : Nat) : Int)) = false := rfl
  clear hT hi hq hL hr hlen
  go_enter Tryz.func12, Tryz.ntmps12
  go_wp2_with fail
  (with_reducible refine (known_any _ (HT.out.of (by (repeat' (first | (with_reducible first | exact Below.refl _ _ | exact Nat.le_refl _ | refine Below.bel ?_ ?_ | refine Below.alloc ?_ ?_ _ | refine Below.drew ?_ | refine Below.drawsN ?_ _ | refine Below.setCell ?_ ?_ _ | refine le_bel ?_ | refine le_alloc ?_ | refine le_setCell ?_ | refine le_drew ?_ | refine le_drawsN ?_) | (dsimp only; with_reducible first | refine le_bel ?_ | refine Nat.le_refl _ | refine le_bel_add ?_) | (with_reducible assumption) | omega | (dsimp only; omega)))))).mono ?_)
  rintro _ _ ⟨rfl, y1, rfl⟩
  have hB : Below w.heap.size w y1.w := by (repeat' (first | (with_reducible first | exact Below.refl _ _ | exact Nat.le_refl _ | refine Below.bel ?_ ?_ | refine Below.alloc ?_ ?_ _ | refine Below.drew ?_ | refine Below.drawsN ?_ _ | refine Below.setCell ?_ ?_ _ | refine le_bel ?_ | refine le_alloc ?_ | refine le_setCell ?_ | refine le_drew ?_ | refine le_drawsN ?_) | (dsimp only; with_reducible first | refine le_bel ?_ | refine Nat.le_refl _ | refine le_bel_add ?_) | (with_reducible assumption) | omega | (dsimp only; omega)))
  have oD := obj_bel y1 (World.alloc_heap_new w (.cells #[.slice ad L.length cap, .int .i64 r] 30))
  obtain ⟨p0, q0, -⟩ := cells2 oD
  dsimp only
  go_wp2_with fail
  clear p0 q0
  have HID := Lib.hid ((HI.out.of hB).up hB.size)
  obtain ⟨V0, hV⟩ : ∃ V0, y1.w = V0 := ⟨_, rfl⟩
  rw [hV] at hB oD HID ⊢
  clear hV y1
  refine (HK1.out _ HID.out).mono ?_
  rintro _ _ ⟨rfl, y1, rfl⟩
  have hbn := y1.below
  have hsn := hbn.size
  have hbz : Below V0.heap.size V0 y1.w := hbn
  have oD' := obj_in hbz oD
  have HID' := Lib.hid ((HID.out.of hbz).up hbz.size)
  have hB' := hB.trans (hbz.mono hB.size)
  clear hbn hbz hB oD HID
  obtain ⟨p0, q0, -⟩ := cells2 oD'
  dsimp only
  go_wp2_with fail
  clear p0 q0
  obtain ⟨V1, hV⟩ : ∃ V1, y1.w = V1 := ⟨_, rfl⟩
  rw [hV] at hB' oD' HID' ⊢
  clear hV hsn
  have oD := oD'
  have HID := HID'
  have hB := hB'
  clear hB' oD' HID'
  refine (HK2.out _ HID.out).mono ?_
  rintro _ _ ⟨rfl, y2, rfl⟩
  have hbn := y2.below
  have hsn := hbn.size
  have hbz : Below V1.heap.size V1 y2.w := hbn
  have oD' := obj_in hbz oD
  have HID' := Lib.hid ((HID.out.of hbz).up hbz.size)
  have hB' := hB.trans (hbz.mono hB.size)
  clear hbn hbz hB oD HID
  obtain ⟨p0, q0, -⟩ := cells2 oD'
  dsimp only
  go_wp2_with fail
  clear p0 q0
  obtain ⟨V2, hV⟩ : ∃ V2, y2.w = V2 := ⟨_, rfl⟩
  rw [hV] at hB' oD' HID' ⊢
  clear hV hsn
  have oD := oD'
  have HID := HID'
  have hB := hB'
  clear hB' oD' HID'
  refine (HEQ.out _ HID.out).mono ?_
  rintro _ _ ⟨rfl, y3, rfl⟩
  have hbn := y3.below
  have hsn := hbn.size
  have hbz : Below V2.heap.size V2 y3.w := hbn
  have oD' := obj_in hbz oD
  have HID' := Lib.hid ((HID.out.of hbz).up hbz.size)
  have hB' := hB.trans (hbz.mono hB.size)
  clear hbn hbz hB oD HID
  obtain ⟨p0, q0, -⟩ := cells2 oD'
  dsimp only
  obtain ⟨V3, hV⟩ : ∃ V3, y3.w = V3 := ⟨_, rfl⟩
  rw [hV] at hB' oD' HID' ⊢
  clear hV hsn
  have oD := oD'
  have HID := HID'
  have hB := hB'
  clear hB' oD' HID'
  have hBs := hB.size
  go_wp2
  go_ret
  exact Ret.mk (by rfl) (by (repeat' (first | (with_reducible first | exact Below.refl _ _ | exact Nat.le_refl _ | refine Below.bel ?_ ?_ | refine Below.alloc ?_ ?_ _ | refine Below.drew ?_ | refine Below.drawsN ?_ _ | refine Below.setCell ?_ ?_ _ | refine le_bel ?_ | refine le_alloc ?_ | refine le_setCell ?_ | refine le_drew ?_ | refine le_drawsN ?_) | (dsimp only; with_reducible first | refine le_bel ?_ | refine Nat.le_refl _ | refine le_bel_add ?_) | (with_reducible assumption) | omega | (dsimp only; omega))))
set_option maxRecDepth 100000 in
set_option maxHeartbeats 12800000 in
theorem lawChecks_bad (L : List (Int × Int × Int)) (hL : InI L) (r : Int) (hr : inI r) (ad : Option Addr) (cap : Nat) (w : World) (hT : Tab w) (hi : InD w.heap.size w ad L) (hlen : L.length ≤ 8) (hq : chkD L r ≠ 0) : Calls Tryz.prog 12 #[.agg #[.slice ad L.length cap, .int .i64 r]] w (Ret (.bool true) w) := by
  have HT := Lib.hid hT
  have HI := Lib.hid hi
  have f1 : decide ((8 : Int) < (L.length : Int)) = false := decide_eq_false (by omega)
  have f1n : decide (8 < L.length) = false := decide_eq_false (by omega)
  have HK1 := Lib.hid (fun w' (h : InD w'.heap.size w' ad L) => lcheck_any L hlen r ad cap w' h)
  have HK2 := Lib.hid (fun w' (h : InD w'.heap.size w' ad L) => dCheck_any L hL (by omega) ad cap r hr w' h)
  have HEQ : Hid (∀ w' (h : InD w'.heap.size w' ad L), Calls Tryz.prog 34 #[.agg #[.slice ad L.length cap, .int .i64 r], .agg #[.slice ad L.length cap, .int .i64 r]] w' (Ret (.bool true) w')) := Lib.hid (fun w' h => by
    have := dEqual_any (ad, cap, L, r) (ad, cap, L, r) w' h h (by dsimp only; omega) (by dsimp only; omega)
    rwa [decide_eq_true (show r = r ∧ L = L from ⟨rfl, rfl⟩)] at this)
  have hdi : ∀ w', InD w'.heap.size w' ad L → DIok w' (ad, cap, L, r) := fun w' h => ⟨h, hL, by dsimp only; omega, hr⟩
  have hd1 : ∀ w', DIok w' (none, 0, [], 1) := fun w' => ⟨fun h => absurd h (by simp), (fun x hx => by cases hx), by simp, by show inI 1; unfold inI; omega⟩
  obtain ⟨q, hqe⟩ : ∃ q, chkD L r = q := ⟨_, rfl⟩
  rw [hqe] at hq HK1 HK2
  have hc1 : chkD [] 1 = 0 := by decide +kernel
  have F1 : firstD [(ad, cap, L, r)] = q := by rw [firstD, hqe, if_neg hq]
  have F2 : firstD [(ad, cap, L, r), (ad, cap, L, r)] = q := by rw [firstD, hqe, if_neg hq]
  have F3 : firstD [(none, 0, [], 1), (ad, cap, L, r)] = q := by rw [firstD, if_pos hc1]; exact F1
  have F4 : firstD [(none, 0, [], 1), (none, 0, [], 1), (ad, cap, L, r)] = q := by rw [firstD, if_pos hc1]; exact F3
  have HNO : Hid (∀ w' (h : InD w'.heap.size w' ad L), Calls Tryz.prog 28 #[.agg #[.slice ad L.length cap, .int .i64 r]] w' (Ret (.tuple #[.agg #[.slice none 0 0, .int .i64 0], .int .i64 (q : Int)]) w')) := Lib.hid (fun w' h => Not_bad (ad, cap, L, r) w' q (hdi w' h) F1 hq)
  have HAN : Hid (∀ w' (h : InD w'.heap.size w' ad L), Calls Tryz.prog 29 #[.agg #[.slice ad L.length cap, .int .i64 r], .agg #[.slice ad L.length cap, .int .i64 r]] w' (Ret (.tuple #[.agg #[.slice none 0 0, .int .i64 0], .int .i64 (q : Int)]) w')) := Lib.hid (fun w' h => And_bad (ad, cap, L, r) (ad, cap, L, r) w' q (hdi w' h) (hdi w' h) F2 hq)
  have HCN : Hid (∀ w', Calls Tryz.prog 27 #[.bool true] w' (Ret (.agg #[.slice none 0 0, .int .i64 1]) w')) := Lib.hid (fun w' => Constant_any true w')
  have HOR : Hid (∀ w' (h : InD w'.heap.size w' ad L), Calls Tryz.prog 30 #[.agg #[.slice none 0 0, .int .i64 1], .agg #[.slice ad L.length cap, .int .i64 r]] w' (Ret (.tuple #[.agg #[.slice none 0 0, .int .i64 0], .int .i64 (q : Int)]) w')) := Lib.hid (fun w' h => Or_bad (none, 0, [], 1) (ad, cap, L, r) w' q (hd1 w') (hdi w' h) F3 hq)
  have HCH : Hid (∀ w' (h : InD w'.heap.size w' ad L), Calls Tryz.prog 31 #[.agg #[.slice none 0 0, .int .i64 1], .agg #[.slice none 0 0, .int .i64 1], .agg #[.slice ad L.length cap, .int .i64 r]] w' (Ret (.tuple #[.agg #[.slice none 0 0, .int .i64 0], .int .i64 (q : Int)]) w')) := Lib.hid (fun w' h => Choose_bad (none, 0, [], 1) (none, 0, [], 1) (ad, cap, L, r) w' q (hd1 w') (hd1 w') (hdi w' h) F4 hq)
  have HRS : Hid (∀ w' (h : InD w'.heap.size w' ad L), Calls Tryz.prog 32 #[.agg #[.slice ad L.length cap, .int .i64 r], .int .i64 (-1), .bool true] w' (Ret (.tuple #[.agg #[.slice none 0 0, .int .i64 0], .int .i64 (q : Int)]) w')) := Lib.hid (fun w' h => Restrict_bad (ad, cap, L, r) (-1) true w' q (hdi w' h) hqe hq)
  have HEX : Hid (∀ w' (h : InD w'.heap.size w' ad L), Calls Tryz.prog 33 #[.agg #[.slice ad L.length cap, .int .i64 r], .int .i64 (-1)] w' (Ret (.tuple #[.agg #[.slice none 0 0, .int .i64 0], .int .i64 (q : Int)]) w')) := Lib.hid (fun w' h => Exists_bad (ad, cap, L, r) (-1) w' q (hdi w' h) hqe hq)
  have HIM : Hid (∀ w' (h : InD w'.heap.size w' ad L), Calls Tryz.prog 40 #[.agg #[.slice ad L.length cap, .int .i64 r], .agg #[.slice ad L.length cap, .int .i64 r]] w' (Ret (.tuple #[.bool false, .int .i64 (q : Int)]) w')) := Lib.hid (fun w' h => Implies_bad (ad, cap, L, r) (ad, cap, L, r) w' q (hdi w' h) (hdi w' h) F2 hq)
  have HVA : Hid (∀ w' (h : InD w'.heap.size w' ad L), Calls Tryz.prog 38 #[.agg #[.slice ad L.length cap, .int .i64 r], .slice none 0 0] w' (Ret (.tuple #[.bool false, .int .i64 (q : Int)]) w')) := Lib.hid (fun w' h => dValue_bad (ad, cap, L, r) none 0 0 w' q (hdi w' h) hqe hq)
  have HSU : Hid (∀ w' (h : InD w'.heap.size w' ad L), Calls Tryz.prog 39 #[.agg #[.slice ad L.length cap, .int .i64 r]] w' (Ret (.tuple #[.slice none 0 0, .int .i64 (q : Int)]) w')) := Lib.hid (fun w' h => dSupport_bad (ad, cap, L, r) w' q (hdi w' h) hqe hq)
  have HCO : Hid (∀ w' (h : InD w'.heap.size w' ad L), Calls Tryz.prog 20 #[.agg #[.slice ad L.length cap, .int .i64 r], .int .i64 (-1)] w' (Ret (.tuple #[.string ⟨#[]⟩, .int .i64 (q : Int)]) w')) := Lib.hid (fun w' h => Count_bad (ad, cap, L, r) (-1) w' q (hdi w' h) hqe hq)
  have HWI : Hid (∀ w' (h : InD w'.heap.size w' ad L), Calls Tryz.prog 24 #[.agg #[.slice ad L.length cap, .int .i64 r], .int .i64 (-1)] w' (Ret (.tuple #[.slice none 0 0, .bool false, .int .i64 (q : Int)]) w')) := Lib.hid (fun w' h => Witness_bad (ad, cap, L, r) (-1) w' q (hdi w' h) hqe hq)
  have HNN := Lib.hid (fun w' => none_any w')
  have e0 : ((q : Int) == 0) = false := by simp; omega
  have e1 : ((q : Int) != (q : Int)) = false := by simp
  have e2 : ((q : Int) == (q : Int)) = true := by simp
  clear hT hi hq hL hr hlen hdi hd1 hqe hc1 F1 F2 F3 F4
  go_enter Tryz.func12, Tryz.ntmps12
  go_wp2_with fail
  (with_reducible refine (known_any _ (HT.out.of (by (repeat' (first | (with_reducible first | exact Below.refl _ _ | exact Nat.le_refl _ | refine Below.bel ?_ ?_ | refine Below.alloc ?_ ?_ _ | refine Below.drew ?_ | refine Below.drawsN ?_ _ | refine Below.setCell ?_ ?_ _ | refine le_bel ?_ | refine le_alloc ?_ | refine le_setCell ?_ | refine le_drew ?_ | refine le_drawsN ?_) | (dsimp only; with_reducible first | refine le_bel ?_ | refine Nat.le_refl _ | refine le_bel_add ?_) | (with_reducible assumption) | omega | (dsimp only; omega)))))).mono ?_)
  rintro _ _ ⟨rfl, y1, rfl⟩
  have hB : Below w.heap.size w y1.w := by (repeat' (first | (with_reducible first | exact Below.refl _ _ | exact Nat.le_refl _ | refine Below.bel ?_ ?_ | refine Below.alloc ?_ ?_ _ | refine Below.drew ?_ | refine Below.drawsN ?_ _ | refine Below.setCell ?_ ?_ _ | refine le_bel ?_ | refine le_alloc ?_ | refine le_setCell ?_ | refine le_drew ?_ | refine le_drawsN ?_) | (dsimp only; with_reducible first | refine le_bel ?_ | refine Nat.le_refl _ | refine le_bel_add ?_) | (with_reducible assumption) | omega | (dsimp only; omega)))
  have oD := obj_bel y1 (World.alloc_heap_new w (.cells #[.slice ad L.length cap, .int .i64 r] 30))
  obtain ⟨p0, q0, -⟩ := cells2 oD
  dsimp only
  go_wp2_with fail
  clear p0 q0
  have HID := Lib.hid ((HI.out.of hB).up hB.size)
  obtain ⟨V0, hV⟩ : ∃ V0, y1.w = V0 := ⟨_, rfl⟩
  rw [hV] at hB oD HID ⊢
  clear hV y1
  refine (HK1.out _ HID.out).mono ?_
  rintro _ _ ⟨rfl, y1, rfl⟩
  have hbn := y1.below
  have hsn := hbn.size
  have hbz : Below V0.heap.size V0 y1.w := hbn
  have oD' := obj_in hbz oD
  have HID' := Lib.hid ((HID.out.of hbz).up hbz.size)
  have hB' := hB.trans (hbz.mono hB.size)
  clear hbn hbz hB oD HID
  obtain ⟨p0, q0, -⟩ := cells2 oD'
  dsimp only
  go_wp2_with fail
  clear p0 q0
  obtain ⟨V1, hV⟩ : ∃ V1, y1.w = V1 := ⟨_, rfl⟩
  rw [hV] at hB' oD' HID' ⊢
  clear hV hsn
  have oD := oD'
  have HID := HID'
  have hB := hB'
  clear hB' oD' HID'
  refine (HK2.out _ HID.out).mono ?_
  rintro _ _ ⟨rfl, y2, rfl⟩
  have hbn := y2.below
  have hsn := hbn.size
  have hbz : Below V1.heap.size V1 y2.w := hbn
  have oD' := obj_in hbz oD
  have HID' := Lib.hid ((HID.out.of hbz).up hbz.size)
  have hB' := hB.trans (hbz.mono hB.size)
  clear hbn hbz hB oD HID
  obtain ⟨p0, q0, -⟩ := cells2 oD'
  dsimp only
  go_wp2_with fail
  clear p0 q0
  obtain ⟨V2, hV⟩ : ∃ V2, y2.w = V2 := ⟨_, rfl⟩
  rw [hV] at hB' oD' HID' ⊢
  clear hV hsn
  have oD := oD'
  have HID := HID'
  have hB := hB'
  clear hB' oD' HID'
  refine (HEQ.out _ HID.out).mono ?_
  rintro _ _ ⟨rfl, y3, rfl⟩
  have hbn := y3.below
  have hsn := hbn.size
  have hbz : Below V2.heap.size V2 y3.w := hbn
  have oD' := obj_in hbz oD
  have HID' := Lib.hid ((HID.out.of hbz).up hbz.size)
  have hB' := hB.trans (hbz.mono hB.size)
  clear hbn hbz hB oD HID
  obtain ⟨p0, q0, -⟩ := cells2 oD'
  dsimp only
  go_wp2_with fail
  clear p0 q0
  obtain ⟨V3, hV⟩ : ∃ V3, y3.w = V3 := ⟨_, rfl⟩
  rw [hV] at hB' oD' HID' ⊢
  clear hV hsn
  have oD := oD'
  have HID := HID'
  have hB := hB'
  clear hB' oD' HID'
  refine (HNO.out _ HID.out).mono ?_
  rintro _ _ ⟨rfl, y4, rfl⟩
  have hbn := y4.below
  have hsn := hbn.size
  have hbz : Below V3.heap.size V3 (y4.w.alloc (.cells #[.slice none 0 0, .int .i64 0] 30)) := (hbn.alloc hsn _)
  have oD' := obj_in hbz oD
  have HID' := Lib.hid ((HID.out.of hbz).up hbz.size)
  have oA' := World.alloc_heap_new y4.w (.cells #[.slice none 0 0, .int .i64 0] 30)
  have hB' := hB.trans (hbz.mono hB.size)
  clear hbn hbz hB oD HID
  obtain ⟨p0, q0, -⟩ := cells2 oD'
  obtain ⟨p1, q1, -⟩ := cells2 oA'
  dsimp only
  go_wp2_with fail
  clear p0 q0 p1 q1
  obtain ⟨V4, hV⟩ : ∃ V4, (y4.w.alloc (.cells #[.slice none 0 0, .int .i64 0] 30)) = V4 := ⟨_, rfl⟩
  rw [hV] at hB' oD' oA' HID' ⊢
  clear hV hsn
  have oD := oD'
  have oA := oA'
  have HID := HID'
  have hB := hB'
  clear hB' oD' oA' HID'
  refine (HAN.out _ HID.out).mono ?_
  rintro _ _ ⟨rfl, y5, rfl⟩
  have hbn := y5.below
  have hsn := hbn.size
  have hbz : Below V4.heap.size V4 (y5.w.alloc (.cells #[.slice none 0 0, .int .i64 0] 30)) := (hbn.alloc hsn _)
  have oD' := obj_in hbz oD
  have oA' := obj_in hbz oA
  have HID' := Lib.hid ((HID.out.of hbz).up hbz.size)
  have oB' := World.alloc_heap_new y5.w (.cells #[.slice none 0 0, .int .i64 0] 30)
  have hB' := hB.trans (hbz.mono hB.size)
  clear hbn hbz hB oD oA HID
  obtain ⟨p0, q0, -⟩ := cells2 oD'
  obtain ⟨p1, q1, -⟩ := cells2 oA'
  obtain ⟨p2, q2, -⟩ := cells2 oB'
  dsimp only
  go_wp2_with fail
  clear p0 q0 p1 q1 p2 q2
  obtain ⟨V5, hV⟩ : ∃ V5, (y5.w.alloc (.cells #[.slice none 0 0, .int .i64 0] 30)) = V5 := ⟨_, rfl⟩
  rw [hV] at hB' oD' oA' oB' HID' ⊢
  clear hV hsn
  have oD := oD'
  have oA := oA'
  have oB := oB'
  have HID := HID'
  have hB := hB'
  clear hB' oD' oA' oB' HID'
  obtain ⟨p0, q0, -⟩ := cells2 oD
  obtain ⟨p1, q1, -⟩ := cells2 oA
  obtain ⟨p2, q2, -⟩ := cells2 oB
  have SK := Lib.hid (show ∀ V : World, Below V5.heap.size V5 V → V.cell? ⟨w.heap.size, 0, none⟩ = some (.slice ad L.length cap) ∧ V.cell? ⟨w.heap.size, 1, none⟩ = some (.int .i64 r) ∧ Below V5.heap.size V5 V from fun V h => ⟨below_cell h _ _ _ p0, below_cell h _ _ _ q0, h⟩)
  have hRf : Below V5.heap.size V5 V5 := Below.refl _ _
  go_cut [8, 9] from 56 to 61 (fun v8 v9 wx => ∃ b : Nat, v8 = .pointer (some ⟨b, 0, none⟩) ∧ v9 = .int .i64 (q : Int) ∧ wx.heap[b]? = some (.cells #[.slice none 0 0, .int .i64 0] 30) ∧ Below V5.heap.size V5 wx)
  case first =>
    go_region_held3 (fun V => V.cell? ⟨w.heap.size, 0, none⟩ = some (.slice ad L.length cap) ∧ V.cell? ⟨w.heap.size, 1, none⟩ = some (.int .i64 r) ∧ Below V5.heap.size V5 V) (exact SK.out _ (by (repeat' (first | (with_reducible first | exact Below.refl _ _ | exact Nat.le_refl _ | refine Below.bel ?_ ?_ | refine Below.alloc ?_ ?_ _ | refine Below.drew ?_ | refine Below.drawsN ?_ _ | refine Below.setCell ?_ ?_ _ | refine le_bel ?_ | refine le_alloc ?_ | refine le_setCell ?_ | refine le_drew ?_ | refine le_drawsN ?_) | (dsimp only; with_reducible first | refine le_bel ?_ | refine Nat.le_refl _ | refine le_bel_add ?_) | (with_reducible assumption) | omega | (dsimp only; omega))))) (first | (go_at_call 27; refine (HCN.out _).mono ?_; rintro _ _ ⟨rfl, yc, rfl⟩; have hyc := yc.size_le) | (go_at_call 30; refine (HOR.out _ ((HID.out.of (by (repeat' (first | (with_reducible first | exact Below.refl _ _ | exact Nat.le_refl _ | refine Below.bel ?_ ?_ | refine Below.alloc ?_ ?_ _ | refine Below.drew ?_ | refine Below.drawsN ?_ _ | refine Below.setCell ?_ ?_ _ | refine le_bel ?_ | refine le_alloc ?_ | refine le_setCell ?_ | refine le_drew ?_ | refine le_drawsN ?_) | (dsimp only; with_reducible first | refine le_bel ?_ | refine Nat.le_refl _ | refine le_bel_add ?_) | (with_reducible assumption) | omega | (dsimp only; omega))))).up (by (repeat' (first | (with_reducible first | exact Below.refl _ _ | exact Nat.le_refl _ | refine Below.bel ?_ ?_ | refine Below.alloc ?_ ?_ _ | refine Below.drew ?_ | refine Below.drawsN ?_ _ | refine Below.setCell ?_ ?_ _ | refine le_bel ?_ | refine le_alloc ?_ | refine le_setCell ?_ | refine le_drew ?_ | refine le_drawsN ?_) | (dsimp only; with_reducible first | refine le_bel ?_ | refine Nat.le_refl _ | refine le_bel_add ?_) | (with_reducible assumption) | omega | (dsimp only; omega)))))).mono ?_; rintro _ _ ⟨rfl, yo, rfl⟩; have hyo := yo.size_le))
    all_goals (rename_i hHeld; go_wp2_with fail; go_meet; case rel => (refine ⟨_, rfl, rfl, ?_, hHeld.2.2⟩; first | with_reducible exact World.alloc_heap_new _ _ | with_reducible exact obSet2 _ _ (obj_bel _ (World.alloc_heap_new _ _)) | with_reducible exact obSet2 _ _ (obj_bel _ (obj_bel _ (World.alloc_heap_new _ _))) | with_reducible exact obSet2 _ _ (obj_bel _ (obj_bel _ (obj_bel _ (World.alloc_heap_new _ _)))) | with_reducible exact obSet2 _ _ (obj_bel _ (drewNew _ _)) | with_reducible exact obSet2 _ _ (obj_bel _ (obj_bel _ (drewNew _ _))) | with_reducible exact obSet2 _ _ (obj_bel _ (obj_bel _ (obj_bel _ (drewNew _ _))))))
  case rest =>
    obtain ⟨bk6, rfl, rfl, oC', hbz⟩ := hcut
    obtain ⟨V6, hV⟩ : ∃ V6, wc = V6 := ⟨_, rfl⟩
    rw [hV] at oC' hbz ⊢
    clear hV
    have oD' := obj_in hbz oD
    have oA' := obj_in hbz oA
    have oB' := obj_in hbz oB
    have HID' := Lib.hid ((HID.out.of hbz).up hbz.size)
    have hB' := hB.trans (hbz.mono hB.size)
    clear SK hRf hbz hB oD oA oB HID p0 q0 p1 q1 p2 q2
    have oD := oD'
    have oA := oA'
    have oB := oB'
    have oC := oC'
    have HID := HID'
    have hB := hB'
    clear hB' oD' oA' oB' oC' HID'
    obtain ⟨p0, q0, -⟩ := cells2 oD
    obtain ⟨p1, q1, -⟩ := cells2 oA
    obtain ⟨p2, q2, -⟩ := cells2 oB
    obtain ⟨p3, q3, -⟩ := cells2 oC
    go_wp2_with fail
    clear p0 q0 p1 q1 p2 q2 p3 q3
    obtain ⟨p0, q0, -⟩ := cells2 oD
    obtain ⟨p1, q1, -⟩ := cells2 oA
    obtain ⟨p2, q2, -⟩ := cells2 oB
    obtain ⟨p3, q3, -⟩ := cells2 oC
    have SK := Lib.hid (show ∀ V : World, Below V6.heap.size V6 V → V.cell? ⟨w.heap.size, 0, none⟩ = some (.slice ad L.length cap) ∧ V.cell? ⟨w.heap.size, 1, none⟩ = some (.int .i64 r) ∧ Below V6.heap.size V6 V from fun V h => ⟨below_cell h _ _ _ p0, below_cell h _ _ _ q0, h⟩)
    have hRf : Below V6.heap.size V6 V6 := Below.refl _ _
    go_cut [10, 11] from 62 to 68 (fun v10 v11 wx => ∃ b : Nat, v10 = .pointer (some ⟨b, 0, none⟩) ∧ v11 = .int .i64 (q : Int) ∧ wx.heap[b]? = some (.cells #[.slice none 0 0, .int .i64 0] 30) ∧ Below V6.heap.size V6 wx)
    case first =>
      go_region_held3 (fun V => V.cell? ⟨w.heap.size, 0, none⟩ = some (.slice ad L.length cap) ∧ V.cell? ⟨w.heap.size, 1, none⟩ = some (.int .i64 r) ∧ Below V6.heap.size V6 V) (exact SK.out _ (by (repeat' (first | (with_reducible first | exact Below.refl _ _ | exact Nat.le_refl _ | refine Below.bel ?_ ?_ | refine Below.alloc ?_ ?_ _ | refine Below.drew ?_ | refine Below.drawsN ?_ _ | refine Below.setCell ?_ ?_ _ | refine le_bel ?_ | refine le_alloc ?_ | refine le_setCell ?_ | refine le_drew ?_ | refine le_drawsN ?_) | (dsimp only; with_reducible first | refine le_bel ?_ | refine Nat.le_refl _ | refine le_bel_add ?_) | (with_reducible assumption) | omega | (dsimp only; omega))))) (first | (go_at_call 27; refine (HCN.out _).mono ?_; rintro _ _ ⟨rfl, yc, rfl⟩; have hyc := yc.size_le) | (go_at_call 31; refine (HCH.out _ ((HID.out.of (by (repeat' (first | (with_reducible first | exact Below.refl _ _ | exact Nat.le_refl _ | refine Below.bel ?_ ?_ | refine Below.alloc ?_ ?_ _ | refine Below.drew ?_ | refine Below.drawsN ?_ _ | refine Below.setCell ?_ ?_ _ | refine le_bel ?_ | refine le_alloc ?_ | refine le_setCell ?_ | refine le_drew ?_ | refine le_drawsN ?_) | (dsimp only; with_reducible first | refine le_bel ?_ | refine Nat.le_refl _ | refine le_bel_add ?_) | (with_reducible assumption) | omega | (dsimp only; omega))))).up (by (repeat' (first | (with_reducible first | exact Below.refl _ _ | exact Nat.le_refl _ | refine Below.bel ?_ ?_ | refine Below.alloc ?_ ?_ _ | refine Below.drew ?_ | refine Below.drawsN ?_ _ | refine Below.setCell ?_ ?_ _ | refine le_bel ?_ | refine le_alloc ?_ | refine le_setCell ?_ | refine le_drew ?_ | refine le_drawsN ?_) | (dsimp only; with_reducible first | refine le_bel ?_ | refine Nat.le_refl _ | refine le_bel_add ?_) | (with_reducible assumption) | omega | (dsimp only; omega)))))).mono ?_; rintro _ _ ⟨rfl, yo, rfl⟩; have hyo := yo.size_le))
      all_goals (rename_i hHeld; go_wp2_with fail; go_meet; case rel => (refine ⟨_, rfl, rfl, ?_, hHeld.2.2⟩; first | with_reducible exact World.alloc_heap_new _ _ | with_reducible exact obSet2 _ _ (obj_bel _ (World.alloc_heap_new _ _)) | with_reducible exact obSet2 _ _ (obj_bel _ (obj_bel _ (World.alloc_heap_new _ _))) | with_reducible exact obSet2 _ _ (obj_bel _ (obj_bel _ (obj_bel _ (World.alloc_heap_new _ _)))) | with_reducible exact obSet2 _ _ (obj_bel _ (drewNew _ _)) | with_reducible exact obSet2 _ _ (obj_bel _ (obj_bel _ (drewNew _ _))) | with_reducible exact obSet2 _ _ (obj_bel _ (obj_bel _ (obj_bel _ (drewNew _ _))))))
    case rest =>
      obtain ⟨bk7, rfl, rfl, oK', hbz⟩ := hcut
      obtain ⟨V7, hV⟩ : ∃ V7, wc = V7 := ⟨_, rfl⟩
      rw [hV] at oK' hbz ⊢
      clear hV
      have oD' := obj_in hbz oD
      have oA' := obj_in hbz oA
      have oB' := obj_in hbz oB
      have oC' := obj_in hbz oC
      have HID' := Lib.hid ((HID.out.of hbz).up hbz.size)
      have hB' := hB.trans (hbz.mono hB.size)
      clear SK hRf hbz hB oD oA oB oC HID p0 q0 p1 q1 p2 q2 p3 q3
      have oD := oD'
      have oA := oA'
      have oB := oB'
      have oC := oC'
      have oK := oK'
      have HID := HID'
      have hB := hB'
      clear hB' oD' oA' oB' oC' oK' HID'
      obtain ⟨p0, q0, -⟩ := cells2 oD
      obtain ⟨p1, q1, -⟩ := cells2 oA
      obtain ⟨p2, q2, -⟩ := cells2 oB
      obtain ⟨p3, q3, -⟩ := cells2 oC
      obtain ⟨p4, q4, -⟩ := cells2 oK
      go_wp2_with fail
      clear p0 q0 p1 q1 p2 q2 p3 q3 p4 q4
      refine (HRS.out _ HID.out).mono ?_
      rintro _ _ ⟨rfl, y8, rfl⟩
      have hbn := y8.below
      have hsn := hbn.size
      have hbz : Below V7.heap.size V7 (y8.w.alloc (.cells #[.slice none 0 0, .int .i64 0] 30)) := (hbn.alloc hsn _)
      have oD' := obj_in hbz oD
      have oA' := obj_in hbz oA
      have oB' := obj_in hbz oB
      have oC' := obj_in hbz oC
      have oK' := obj_in hbz oK
      have HID' := Lib.hid ((HID.out.of hbz).up hbz.size)
      have oL' := World.alloc_heap_new y8.w (.cells #[.slice none 0 0, .int .i64 0] 30)
      have hB' := hB.trans (hbz.mono hB.size)
      clear hbn hbz hB oD oA oB oC oK HID
      obtain ⟨p0, q0, -⟩ := cells2 oD'
      obtain ⟨p1, q1, -⟩ := cells2 oA'
      obtain ⟨p2, q2, -⟩ := cells2 oB'
      obtain ⟨p3, q3, -⟩ := cells2 oC'
      obtain ⟨p4, q4, -⟩ := cells2 oK'
      obtain ⟨p5, q5, -⟩ := cells2 oL'
      dsimp only
      go_wp2_with fail
      clear p0 q0 p1 q1 p2 q2 p3 q3 p4 q4 p5 q5
      obtain ⟨V8, hV⟩ : ∃ V8, (y8.w.alloc (.cells #[.slice none 0 0, .int .i64 0] 30)) = V8 := ⟨_, rfl⟩
      rw [hV] at hB' oD' oA' oB' oC' oK' oL' HID' ⊢
      clear hV hsn
      have oD := oD'
      have oA := oA'
      have oB := oB'
      have oC := oC'
      have oK := oK'
      have oL := oL'
      have HID := HID'
      have hB := hB'
      clear hB' oD' oA' oB' oC' oK' oL' HID'
      refine (HEX.out _ HID.out).mono ?_
      rintro _ _ ⟨rfl, y9, rfl⟩
      have hbn := y9.below
      have hsn := hbn.size
      have hbz : Below V8.heap.size V8 (y9.w.alloc (.cells #[.slice none 0 0, .int .i64 0] 30)) := (hbn.alloc hsn _)
      have oD' := obj_in hbz oD
      have oA' := obj_in hbz oA
      have oB' := obj_in hbz oB
      have oC' := obj_in hbz oC
      have oK' := obj_in hbz oK
      have oL' := obj_in hbz oL
      have HID' := Lib.hid ((HID.out.of hbz).up hbz.size)
      have oM' := World.alloc_heap_new y9.w (.cells #[.slice none 0 0, .int .i64 0] 30)
      have hB' := hB.trans (hbz.mono hB.size)
      clear hbn hbz hB oD oA oB oC oK oL HID
      obtain ⟨p0, q0, -⟩ := cells2 oD'
      obtain ⟨p1, q1, -⟩ := cells2 oA'
      obtain ⟨p2, q2, -⟩ := cells2 oB'
      obtain ⟨p3, q3, -⟩ := cells2 oC'
      obtain ⟨p4, q4, -⟩ := cells2 oK'
      obtain ⟨p5, q5, -⟩ := cells2 oL'
      obtain ⟨p6, q6, -⟩ := cells2 oM'
      dsimp only
      go_wp2_with fail
      clear p0 q0 p1 q1 p2 q2 p3 q3 p4 q4 p5 q5 p6 q6
      obtain ⟨V9, hV⟩ : ∃ V9, (y9.w.alloc (.cells #[.slice none 0 0, .int .i64 0] 30)) = V9 := ⟨_, rfl⟩
      rw [hV] at hB' oD' oA' oB' oC' oK' oL' oM' HID' ⊢
      clear hV hsn
      have oD := oD'
      have oA := oA'
      have oB := oB'
      have oC := oC'
      have oK := oK'
      have oL := oL'
      have oM := oM'
      have HID := HID'
      have hB := hB'
      clear hB' oD' oA' oB' oC' oK' oL' oM' HID'
      refine (HNN.out _).mono ?_
      rintro _ _ ⟨rfl, y10, rfl⟩
      have hbn := y10.below
      have hsn := hbn.size
      have hbz : Below V9.heap.size V9 y10.w := hbn
      have oD' := obj_in hbz oD
      have oA' := obj_in hbz oA
      have oB' := obj_in hbz oB
      have oC' := obj_in hbz oC
      have oK' := obj_in hbz oK
      have oL' := obj_in hbz oL
      have oM' := obj_in hbz oM
      have HID' := Lib.hid ((HID.out.of hbz).up hbz.size)
      have hB' := hB.trans (hbz.mono hB.size)
      clear hbn hbz hB oD oA oB oC oK oL oM HID
      obtain ⟨p0, q0, -⟩ := cells2 oD'
      obtain ⟨p1, q1, -⟩ := cells2 oA'
      obtain ⟨p2, q2, -⟩ := cells2 oB'
      obtain ⟨p3, q3, -⟩ := cells2 oC'
      obtain ⟨p4, q4, -⟩ := cells2 oK'
      obtain ⟨p5, q5, -⟩ := cells2 oL'
      obtain ⟨p6, q6, -⟩ := cells2 oM'
      dsimp only
      go_wp2_with fail
      clear p0 q0 p1 q1 p2 q2 p3 q3 p4 q4 p5 q5 p6 q6
      obtain ⟨V10, hV⟩ : ∃ V10, y10.w = V10 := ⟨_, rfl⟩
      rw [hV] at hB' oD' oA' oB' oC' oK' oL' oM' HID' ⊢
      clear hV hsn
      have oD := oD'
      have oA := oA'
      have oB := oB'
      have oC := oC'
      have oK := oK'
      have oL := oL'
      have oM := oM'
      have HID := HID'
      have hB := hB'
      clear hB' oD' oA' oB' oC' oK' oL' oM' HID'
      refine (HNN.out _).mono ?_
      rintro _ _ ⟨rfl, y11, rfl⟩
      have hbn := y11.below
      have hsn := hbn.size
      have hbz : Below V10.heap.size V10 y11.w := hbn
      have oD' := obj_in hbz oD
      have oA' := obj_in hbz oA
      have oB' := obj_in hbz oB
      have oC' := obj_in hbz oC
      have oK' := obj_in hbz oK
      have oL' := obj_in hbz oL
      have oM' := obj_in hbz oM
      have HID' := Lib.hid ((HID.out.of hbz).up hbz.size)
      have hB' := hB.trans (hbz.mono hB.size)
      clear hbn hbz hB oD oA oB oC oK oL oM HID
      obtain ⟨p0, q0, -⟩ := cells2 oD'
      obtain ⟨p1, q1, -⟩ := cells2 oA'
      obtain ⟨p2, q2, -⟩ := cells2 oB'
      obtain ⟨p3, q3, -⟩ := cells2 oC'
      obtain ⟨p4, q4, -⟩ := cells2 oK'
      obtain ⟨p5, q5, -⟩ := cells2 oL'
      obtain ⟨p6, q6, -⟩ := cells2 oM'
      dsimp only
      go_wp2_with fail
      clear p0 q0 p1 q1 p2 q2 p3 q3 p4 q4 p5 q5 p6 q6
      obtain ⟨V11, hV⟩ : ∃ V11, y11.w = V11 := ⟨_, rfl⟩
      rw [hV] at hB' oD' oA' oB' oC' oK' oL' oM' HID' ⊢
      clear hV hsn
      have oD := oD'
      have oA := oA'
      have oB := oB'
      have oC := oC'
      have oK := oK'
      have oL := oL'
      have oM := oM'
      have HID := HID'
      have hB := hB'
      clear hB' oD' oA' oB' oC' oK' oL' oM' HID'
      refine (HNN.out _).mono ?_
      rintro _ _ ⟨rfl, y12, rfl⟩
      have hbn := y12.below
      have hsn := hbn.size
      have hbz : Below V11.heap.size V11 y12.w := hbn
      have oD' := obj_in hbz oD
      have oA' := obj_in hbz oA
      have oB' := obj_in hbz oB
      have oC' := obj_in hbz oC
      have oK' := obj_in hbz oK
      have oL' := obj_in hbz oL
      have oM' := obj_in hbz oM
      have HID' := Lib.hid ((HID.out.of hbz).up hbz.size)
      have hB' := hB.trans (hbz.mono hB.size)
      clear hbn hbz hB oD oA oB oC oK oL oM HID
      obtain ⟨p0, q0, -⟩ := cells2 oD'
      obtain ⟨p1, q1, -⟩ := cells2 oA'
      obtain ⟨p2, q2, -⟩ := cells2 oB'
      obtain ⟨p3, q3, -⟩ := cells2 oC'
      obtain ⟨p4, q4, -⟩ := cells2 oK'
      obtain ⟨p5, q5, -⟩ := cells2 oL'
      obtain ⟨p6, q6, -⟩ := cells2 oM'
      dsimp only
      go_wp2_with fail
      clear p0 q0 p1 q1 p2 q2 p3 q3 p4 q4 p5 q5 p6 q6
      obtain ⟨V12, hV⟩ : ∃ V12, y12.w = V12 := ⟨_, rfl⟩
      rw [hV] at hB' oD' oA' oB' oC' oK' oL' oM' HID' ⊢
      clear hV hsn
      have oD := oD'
      have oA := oA'
      have oB := oB'
      have oC := oC'
      have oK := oK'
      have oL := oL'
      have oM := oM'
      have HID := HID'
      have hB := hB'
      clear hB' oD' oA' oB' oC' oK' oL' oM' HID'
      refine (HNN.out _).mono ?_
      rintro _ _ ⟨rfl, y13, rfl⟩
      have hbn := y13.below
      have hsn := hbn.size
      have hbz : Below V12.heap.size V12 y13.w := hbn
      have oD' := obj_in hbz oD
      have oA' := obj_in hbz oA
      have oB' := obj_in hbz oB
      have oC' := obj_in hbz oC
      have oK' := obj_in hbz oK
      have oL' := obj_in hbz oL
      have oM' := obj_in hbz oM
      have HID' := Lib.hid ((HID.out.of hbz).up hbz.size)
      have hB' := hB.trans (hbz.mono hB.size)
      clear hbn hbz hB oD oA oB oC oK oL oM HID
      obtain ⟨p0, q0, -⟩ := cells2 oD'
      obtain ⟨p1, q1, -⟩ := cells2 oA'
      obtain ⟨p2, q2, -⟩ := cells2 oB'
      obtain ⟨p3, q3, -⟩ := cells2 oC'
      obtain ⟨p4, q4, -⟩ := cells2 oK'
      obtain ⟨p5, q5, -⟩ := cells2 oL'
      obtain ⟨p6, q6, -⟩ := cells2 oM'
      dsimp only
      go_wp2_with fail
      clear p0 q0 p1 q1 p2 q2 p3 q3 p4 q4 p5 q5 p6 q6
      obtain ⟨V13, hV⟩ : ∃ V13, y13.w = V13 := ⟨_, rfl⟩
      rw [hV] at hB' oD' oA' oB' oC' oK' oL' oM' HID' ⊢
      clear hV hsn
      have oD := oD'
      have oA := oA'
      have oB := oB'
      have oC := oC'
      have oK := oK'
      have oL := oL'
      have oM := oM'
      have HID := HID'
      have hB := hB'
      clear hB' oD' oA' oB' oC' oK' oL' oM' HID'
      refine (HNN.out _).mono ?_
      rintro _ _ ⟨rfl, y14, rfl⟩
      have hbn := y14.below
      have hsn := hbn.size
      have hbz : Below V13.heap.size V13 y14.w := hbn
      have oD' := obj_in hbz oD
      have oA' := obj_in hbz oA
      have oB' := obj_in hbz oB
      have oC' := obj_in hbz oC
      have oK' := obj_in hbz oK
      have oL' := obj_in hbz oL
      have oM' := obj_in hbz oM
      have HID' := Lib.hid ((HID.out.of hbz).up hbz.size)
      have hB' := hB.trans (hbz.mono hB.size)
      clear hbn hbz hB oD oA oB oC oK oL oM HID
      obtain ⟨p0, q0, -⟩ := cells2 oD'
      obtain ⟨p1, q1, -⟩ := cells2 oA'
      obtain ⟨p2, q2, -⟩ := cells2 oB'
      obtain ⟨p3, q3, -⟩ := cells2 oC'
      obtain ⟨p4, q4, -⟩ := cells2 oK'
      obtain ⟨p5, q5, -⟩ := cells2 oL'
      obtain ⟨p6, q6, -⟩ := cells2 oM'
      dsimp only
      go_wp2_with fail
      clear p0 q0 p1 q1 p2 q2 p3 q3 p4 q4 p5 q5 p6 q6
      obtain ⟨V14, hV⟩ : ∃ V14, y14.w = V14 := ⟨_, rfl⟩
      rw [hV] at hB' oD' oA' oB' oC' oK' oL' oM' HID' ⊢
      clear hV hsn
      have oD := oD'
      have oA := oA'
      have oB := oB'
      have oC := oC'
      have oK := oK'
      have oL := oL'
      have oM := oM'
      have HID := HID'
      have hB := hB'
      clear hB' oD' oA' oB' oC' oK' oL' oM' HID'
      refine (HNN.out _).mono ?_
      rintro _ _ ⟨rfl, y15, rfl⟩
      have hbn := y15.below
      have hsn := hbn.size
      have hbz : Below V14.heap.size V14 y15.w := hbn
      have oD' := obj_in hbz oD
      have oA' := obj_in hbz oA
      have oB' := obj_in hbz oB
      have oC' := obj_in hbz oC
      have oK' := obj_in hbz oK
      have oL' := obj_in hbz oL
      have oM' := obj_in hbz oM
      have HID' := Lib.hid ((HID.out.of hbz).up hbz.size)
      have hB' := hB.trans (hbz.mono hB.size)
      clear hbn hbz hB oD oA oB oC oK oL oM HID
      obtain ⟨p0, q0, -⟩ := cells2 oD'
      obtain ⟨p1, q1, -⟩ := cells2 oA'
      obtain ⟨p2, q2, -⟩ := cells2 oB'
      obtain ⟨p3, q3, -⟩ := cells2 oC'
      obtain ⟨p4, q4, -⟩ := cells2 oK'
      obtain ⟨p5, q5, -⟩ := cells2 oL'
      obtain ⟨p6, q6, -⟩ := cells2 oM'
      dsimp only
      go_wp2_with fail
      clear p0 q0 p1 q1 p2 q2 p3 q3 p4 q4 p5 q5 p6 q6
      obtain ⟨V15, hV⟩ : ∃ V15, y15.w = V15 := ⟨_, rfl⟩
      rw [hV] at hB' oD' oA' oB' oC' oK' oL' oM' HID' ⊢
      clear hV hsn
      have oD := oD'
      have oA := oA'
      have oB := oB'
      have oC := oC'
      have oK := oK'
      have oL := oL'
      have oM := oM'
      have HID := HID'
      have hB := hB'
      clear hB' oD' oA' oB' oC' oK' oL' oM' HID'
      refine (HIM.out _ HID.out).mono ?_
      rintro _ _ ⟨rfl, y16, rfl⟩
      have hbn := y16.below
      have hsn := hbn.size
      have hbz : Below V15.heap.size V15 y16.w := hbn
      have oD' := obj_in hbz oD
      have HID' := Lib.hid ((HID.out.of hbz).up hbz.size)
      have hB' := hB.trans (hbz.mono hB.size)
      clear hbn hbz hB oD HID
      obtain ⟨p0, q0, -⟩ := cells2 oD'
      dsimp only
      go_wp2_with fail
      clear p0 q0
      obtain ⟨V16, hV⟩ : ∃ V16, y16.w = V16 := ⟨_, rfl⟩
      rw [hV] at hB' oD' HID' ⊢
      clear hV hsn
      have oD := oD'
      have HID := HID'
      have hB := hB'
      clear hB' oD' HID'
      refine (HVA.out _ HID.out).mono ?_
      rintro _ _ ⟨rfl, y17, rfl⟩
      have hbn := y17.below
      have hsn := hbn.size
      have hbz : Below V16.heap.size V16 y17.w := hbn
      have oD' := obj_in hbz oD
      have HID' := Lib.hid ((HID.out.of hbz).up hbz.size)
      have hB' := hB.trans (hbz.mono hB.size)
      clear hbn hbz hB oD HID
      obtain ⟨p0, q0, -⟩ := cells2 oD'
      dsimp only
      go_wp2_with fail
      clear p0 q0
      obtain ⟨V17, hV⟩ : ∃ V17, y17.w = V17 := ⟨_, rfl⟩
      rw [hV] at hB' oD' HID' ⊢
      clear hV hsn
      have oD := oD'
      have HID := HID'
      have hB := hB'
      clear hB' oD' HID'
      refine (HSU.out _ HID.out).mono ?_
      rintro _ _ ⟨rfl, y18, rfl⟩
      have hbn := y18.below
      have hsn := hbn.size
      have hbz : Below V17.heap.size V17 y18.w := hbn
      have oD' := obj_in hbz oD
      have HID' := Lib.hid ((HID.out.of hbz).up hbz.size)
      have hB' := hB.trans (hbz.mono hB.size)
      clear hbn hbz hB oD HID
      obtain ⟨p0, q0, -⟩ := cells2 oD'
      dsimp only
      go_wp2_with fail
      clear p0 q0
      obtain ⟨V18, hV⟩ : ∃ V18, y18.w = V18 := ⟨_, rfl⟩
      rw [hV] at hB' oD' HID' ⊢
      clear hV hsn
      have oD := oD'
      have HID := HID'
      have hB := hB'
      clear hB' oD' HID'
      refine (HCO.out _ HID.out).mono ?_
      rintro _ _ ⟨rfl, y19, rfl⟩
      have hbn := y19.below
      have hsn := hbn.size
      have hbz : Below V18.heap.size V18 y19.w := hbn
      have oD' := obj_in hbz oD
      have HID' := Lib.hid ((HID.out.of hbz).up hbz.size)
      have hB' := hB.trans (hbz.mono hB.size)
      clear hbn hbz hB oD HID
      obtain ⟨p0, q0, -⟩ := cells2 oD'
      dsimp only
      go_wp2_with fail
      clear p0 q0
      obtain ⟨V19, hV⟩ : ∃ V19, y19.w = V19 := ⟨_, rfl⟩
      rw [hV] at hB' oD' HID' ⊢
      clear hV hsn
      have oD := oD'
      have HID := HID'
      have hB := hB'
      clear hB' oD' HID'
      refine (HWI.out _ HID.out).mono ?_
      rintro _ _ ⟨rfl, y20, rfl⟩
      have hbn := y20.below
      have hsn := hbn.size
      have hbz : Below V19.heap.size V19 y20.w := hbn
      have oD' := obj_in hbz oD
      have HID' := Lib.hid ((HID.out.of hbz).up hbz.size)
      have hB' := hB.trans (hbz.mono hB.size)
      clear hbn hbz hB oD HID
      obtain ⟨p0, q0, -⟩ := cells2 oD'
      dsimp only
      obtain ⟨V20, hV⟩ : ∃ V20, y20.w = V20 := ⟨_, rfl⟩
      rw [hV] at hB' oD' HID' ⊢
      clear hV hsn
      have oD := oD'
      have HID := HID'
      have hB := hB'
      clear hB' oD' HID'
      have hBs := hB.size
      go_wp2
      go_ret
      exact Ret.mk (by rfl) (by (repeat' (first | (with_reducible first | exact Below.refl _ _ | exact Nat.le_refl _ | refine Below.bel ?_ ?_ | refine Below.alloc ?_ ?_ _ | refine Below.drew ?_ | refine Below.drawsN ?_ _ | refine Below.setCell ?_ ?_ _ | refine le_bel ?_ | refine le_alloc ?_ | refine le_setCell ?_ | refine le_drew ?_ | refine le_drawsN ?_) | (dsimp only; with_reducible first | refine le_bel ?_ | refine Nat.le_refl _ | refine le_bel_add ?_) | (with_reducible assumption) | omega | (dsimp only; omega))))
end Go.Proofs.YtkdmhjlcgpnjpaaGreatDoor
