/- The walk of DiagramRestricts. -/
import Derived.Test.YtkdmhjlcgpnjpaaGreatDoorX28
import Derived.Test.YtkdmhjlcgpnjpaaGreatDoorXI
import Derived.Test.YtkdmhjlcgpnjpaaGreatDoorXJ
namespace Go.Proofs.YtkdmhjlcgpnjpaaGreatDoor
set_option linter.unusedVariables false
set_option linter.unusedSimpArgs false
open Go.RowKit Go.Maps
attribute [local go_sem low] Bel.cell Bel.frozen alloc_cell alloc_frozen
attribute [local go_sem] calmOp chainOp yieldsC grows

set_option maxRecDepth 100000 in
set_option maxHeartbeats 12800000 in
theorem lawRestricts_low (t : Nat) (ht : t < 2 ^ 64) (v : Int) (b : Bool) (hv : v < 0) (w : World) (hT : Tab w) : Calls Tryz.prog 8 #[.int .u64 (t : Int), .int .i64 v, .bool b] w (Ret (.bool true) w) := by
  have HT := Lib.hid hT
  have HMA := Lib.hid (fun w' => lawMake_any t ht w')
  have HR1 := Lib.hid (fun ad cap w' (hi : InD w'.heap.size w' ad ((bldN t).map z3)) => Restrict_range (ad, cap, bldN t, bldR t) v b (by omega) w' (dnB ht hi))
  have HR2 := Lib.hid (fun ad cap w' (hi : InD w'.heap.size w' ad ((bldN t).map z3)) => Exists_range (ad, cap, bldN t, bldR t) v (by omega) w' (dnB ht hi))
  unfold RetBd at HMA
  unfold dnV at HR1 HR2
  obtain ⟨MA, hm_MA⟩ : ∃ M, bldN t = M := ⟨_, rfl⟩
  obtain ⟨RA, hm_RA⟩ : ∃ M, bldR t = M := ⟨_, rfl⟩
  rw [hm_MA, hm_RA] at HMA
  rw [hm_MA, hm_RA] at HR1
  rw [hm_MA, hm_RA] at HR2
  clear hm_MA hm_RA
  have f1 : decide (v < 0) = true := decide_eq_true hv
  clear hv ht hT
  go_enter Tryz.func8, Tryz.ntmps8
  go_wp2_with fail
  (with_reducible refine (known_any _ (HT.out.of (by (repeat' (first | (with_reducible first | exact Below.refl _ _ | exact Nat.le_refl _ | refine Below.bel ?_ ?_ | refine Below.alloc ?_ ?_ _ | refine Below.drew ?_ | refine Below.drawsN ?_ _ | refine Below.setCell ?_ ?_ _ | refine le_bel ?_ | refine le_alloc ?_ | refine le_setCell ?_ | refine le_drew ?_ | refine le_drawsN ?_) | (dsimp only; with_reducible first | refine le_bel ?_ | refine Nat.le_refl _ | refine le_bel_add ?_) | (with_reducible assumption) | omega | (dsimp only; omega)))))).mono ?_)
  rintro _ _ ⟨rfl, y1, rfl⟩
  have hB0 : Below w.heap.size w y1.w := y1.below
  dsimp only
  go_wp2_with fail
  obtain ⟨V0, hV⟩ : ∃ V0, y1.w = V0 := ⟨_, rfl⟩
  rw [hV] at hB0 ⊢
  have hB := hB0
  clear hV hB0
  refine (HMA.out _).mono ?_
  rintro _ W1 ⟨adA, capA, rfl, hiA, hbn⟩
  have hsn := hbn.size
  have hbz : Below V0.heap.size V0 (W1.alloc (.cells #[.slice adA MA.length capA, .int .i64 (RA : Int)] 30)) := (hbn.alloc hsn _)
  have hbe : Below W1.heap.size W1 (W1.alloc (.cells #[.slice adA MA.length capA, .int .i64 (RA : Int)] 30)) := ((Below.refl W1.heap.size W1).alloc (Nat.le_refl _) _)
  have HIA' := Lib.hid ((hiA.of hbe).up hbe.size)
  clear hbe
  have oA' := World.alloc_heap_new W1 (.cells #[.slice adA MA.length capA, .int .i64 (RA : Int)] 30)
  have hB' := hB.trans (hbz.mono hB.size)
  clear hbn hbz hB  hiA
  obtain ⟨p0, q0, -⟩ := cells2 oA'
  dsimp only
  go_wp2_with fail
  clear p0 q0
  obtain ⟨V1, hV⟩ : ∃ V1, (W1.alloc (.cells #[.slice adA MA.length capA, .int .i64 (RA : Int)] 30)) = V1 := ⟨_, rfl⟩
  rw [hV] at hB' oA' HIA' ⊢
  clear hV hsn
  have oA := oA'
  have HIA := HIA'
  have hB := hB'
  clear hB' oA' HIA'
  refine (HR1.out _ _ _ HIA.out).mono ?_
  rintro _ _ ⟨rfl, y2, rfl⟩
  have hbn := y2.below
  have hsn := hbn.size
  have hbz : Below V1.heap.size V1 (y2.w.alloc (.cells #[.slice none 0 0, .int .i64 0] 30)) := (hbn.alloc hsn _)
  have oA' := obj_in hbz oA
  have HIA' := Lib.hid ((HIA.out.of hbz).up hbz.size)
  have oR' := World.alloc_heap_new y2.w (.cells #[.slice none 0 0, .int .i64 0] 30)
  have hB' := hB.trans (hbz.mono hB.size)
  clear hbn hbz hB oA HIA
  obtain ⟨p0, q0, -⟩ := cells2 oA'
  obtain ⟨p1, q1, -⟩ := cells2 oR'
  dsimp only
  go_wp2_with fail
  clear p0 q0 p1 q1
  obtain ⟨V2, hV⟩ : ∃ V2, (y2.w.alloc (.cells #[.slice none 0 0, .int .i64 0] 30)) = V2 := ⟨_, rfl⟩
  rw [hV] at hB' oA' oR' HIA' ⊢
  clear hV hsn
  have oA := oA'
  have oR := oR'
  have HIA := HIA'
  have hB := hB'
  clear hB' oA' oR' HIA'
  refine (HR2.out _ _ _ HIA.out).mono ?_
  rintro _ _ ⟨rfl, y3, rfl⟩
  have hbn := y3.below
  have hsn := hbn.size
  have hbz : Below V2.heap.size V2 (y3.w.alloc (.cells #[.slice none 0 0, .int .i64 0] 30)) := (hbn.alloc hsn _)
  have oA' := obj_in hbz oA
  have oR' := obj_in hbz oR
  have HIA' := Lib.hid ((HIA.out.of hbz).up hbz.size)
  have oE' := World.alloc_heap_new y3.w (.cells #[.slice none 0 0, .int .i64 0] 30)
  have hB' := hB.trans (hbz.mono hB.size)
  clear hbn hbz hB oA oR HIA
  obtain ⟨p0, q0, -⟩ := cells2 oA'
  obtain ⟨p1, q1, -⟩ := cells2 oR'
  obtain ⟨p2, q2, -⟩ := cells2 oE'
  dsimp only
  go_wp2_with fail
  clear p0 q0 p1 q1 p2 q2
  obtain ⟨V3, hV⟩ : ∃ V3, (y3.w.alloc (.cells #[.slice none 0 0, .int .i64 0] 30)) = V3 := ⟨_, rfl⟩
  rw [hV] at hB' oA' oR' oE' HIA' ⊢
  clear hV hsn
  have oA := oA'
  have oR := oR'
  have oE := oE'
  have HIA := HIA'
  have hB := hB'
  clear hB' oA' oR' oE' HIA'
  refine (none_any _).mono ?_
  rintro _ _ ⟨rfl, y4, rfl⟩
  have hbn := y4.below
  have hsn := hbn.size
  have hbz : Below V3.heap.size V3 y4.w := hbn
  have oA' := obj_in hbz oA
  have oR' := obj_in hbz oR
  have oE' := obj_in hbz oE
  have HIA' := Lib.hid ((HIA.out.of hbz).up hbz.size)
  have hB' := hB.trans (hbz.mono hB.size)
  clear hbn hbz hB oA oR oE HIA
  obtain ⟨p0, q0, -⟩ := cells2 oA'
  obtain ⟨p1, q1, -⟩ := cells2 oR'
  obtain ⟨p2, q2, -⟩ := cells2 oE'
  dsimp only
  go_wp2_with fail
  clear p0 q0 p1 q1 p2 q2
  obtain ⟨V4, hV⟩ : ∃ V4, y4.w = V4 := ⟨_, rfl⟩
  rw [hV] at hB' oA' oR' oE' HIA' ⊢
  clear hV hsn
  have oA := oA'
  have oR := oR'
  have oE := oE'
  have HIA := HIA'
  have hB := hB'
  clear hB' oA' oR' oE' HIA'
  refine (none_any _).mono ?_
  rintro _ _ ⟨rfl, y5, rfl⟩
  have hbn := y5.below
  have hsn := hbn.size
  have hbz : Below V4.heap.size V4 y5.w := hbn
  have oA' := obj_in hbz oA
  have oR' := obj_in hbz oR
  have oE' := obj_in hbz oE
  have HIA' := Lib.hid ((HIA.out.of hbz).up hbz.size)
  have hB' := hB.trans (hbz.mono hB.size)
  clear hbn hbz hB oA oR oE HIA
  obtain ⟨p0, q0, -⟩ := cells2 oA'
  obtain ⟨p1, q1, -⟩ := cells2 oR'
  obtain ⟨p2, q2, -⟩ := cells2 oE'
  dsimp only
  obtain ⟨V5, hV⟩ : ∃ V5, y5.w = V5 := ⟨_, rfl⟩
  rw [hV] at hB' oA' oR' oE' HIA' ⊢
  clear hV hsn
  have oA := oA'
  have oR := oR'
  have oE := oE'
  have HIA := HIA'
  have hB := hB'
  clear hB' oA' oR' oE' HIA'
  have hBs := hB.size
  go_wp2
  go_ret
  exact Ret.mk (by rfl) (by (repeat' (first | (with_reducible first | exact Below.refl _ _ | exact Nat.le_refl _ | refine Below.bel ?_ ?_ | refine Below.alloc ?_ ?_ _ | refine Below.drew ?_ | refine Below.drawsN ?_ _ | refine Below.setCell ?_ ?_ _ | refine le_bel ?_ | refine le_alloc ?_ | refine le_setCell ?_ | refine le_drew ?_ | refine le_drawsN ?_) | (dsimp only; with_reducible first | refine le_bel ?_ | refine Nat.le_refl _ | refine le_bel_add ?_) | (with_reducible assumption) | omega | (dsimp only; omega))))
set_option maxRecDepth 100000 in
set_option maxHeartbeats 12800000 in
theorem lawRestricts_high (t : Nat) (ht : t < 2 ^ 64) (v : Int) (b : Bool) (hv : 4096 ≤ v) (w : World) (hT : Tab w) : Calls Tryz.prog 8 #[.int .u64 (t : Int), .int .i64 v, .bool b] w (Ret (.bool true) w) := by
  have HT := Lib.hid hT
  have HMA := Lib.hid (fun w' => lawMake_any t ht w')
  have HR1 := Lib.hid (fun ad cap w' (hi : InD w'.heap.size w' ad ((bldN t).map z3)) => Restrict_range (ad, cap, bldN t, bldR t) v b (by omega) w' (dnB ht hi))
  have HR2 := Lib.hid (fun ad cap w' (hi : InD w'.heap.size w' ad ((bldN t).map z3)) => Exists_range (ad, cap, bldN t, bldR t) v (by omega) w' (dnB ht hi))
  unfold RetBd at HMA
  unfold dnV at HR1 HR2
  obtain ⟨MA, hm_MA⟩ : ∃ M, bldN t = M := ⟨_, rfl⟩
  obtain ⟨RA, hm_RA⟩ : ∃ M, bldR t = M := ⟨_, rfl⟩
  rw [hm_MA, hm_RA] at HMA
  rw [hm_MA, hm_RA] at HR1
  rw [hm_MA, hm_RA] at HR2
  clear hm_MA hm_RA
  have f1 : decide (v < 0) = false := decide_eq_false (by omega)
  have f2 : decide (4096 ≤ v) = true := decide_eq_true hv
  clear hv ht hT
  go_enter Tryz.func8, Tryz.ntmps8
  go_wp2_with fail
  (with_reducible refine (known_any _ (HT.out.of (by (repeat' (first | (with_reducible first | exact Below.refl _ _ | exact Nat.le_refl _ | refine Below.bel ?_ ?_ | refine Below.alloc ?_ ?_ _ | refine Below.drew ?_ | refine Below.drawsN ?_ _ | refine Below.setCell ?_ ?_ _ | refine le_bel ?_ | refine le_alloc ?_ | refine le_setCell ?_ | refine le_drew ?_ | refine le_drawsN ?_) | (dsimp only; with_reducible first | refine le_bel ?_ | refine Nat.le_refl _ | refine le_bel_add ?_) | (with_reducible assumption) | omega | (dsimp only; omega)))))).mono ?_)
  rintro _ _ ⟨rfl, y1, rfl⟩
  have hB0 : Below w.heap.size w y1.w := y1.below
  dsimp only
  go_wp2_with fail
  obtain ⟨V0, hV⟩ : ∃ V0, y1.w = V0 := ⟨_, rfl⟩
  rw [hV] at hB0 ⊢
  have hB := hB0
  clear hV hB0
  refine (HMA.out _).mono ?_
  rintro _ W1 ⟨adA, capA, rfl, hiA, hbn⟩
  have hsn := hbn.size
  have hbz : Below V0.heap.size V0 (W1.alloc (.cells #[.slice adA MA.length capA, .int .i64 (RA : Int)] 30)) := (hbn.alloc hsn _)
  have hbe : Below W1.heap.size W1 (W1.alloc (.cells #[.slice adA MA.length capA, .int .i64 (RA : Int)] 30)) := ((Below.refl W1.heap.size W1).alloc (Nat.le_refl _) _)
  have HIA' := Lib.hid ((hiA.of hbe).up hbe.size)
  clear hbe
  have oA' := World.alloc_heap_new W1 (.cells #[.slice adA MA.length capA, .int .i64 (RA : Int)] 30)
  have hB' := hB.trans (hbz.mono hB.size)
  clear hbn hbz hB  hiA
  obtain ⟨p0, q0, -⟩ := cells2 oA'
  dsimp only
  go_wp2_with fail
  clear p0 q0
  obtain ⟨V1, hV⟩ : ∃ V1, (W1.alloc (.cells #[.slice adA MA.length capA, .int .i64 (RA : Int)] 30)) = V1 := ⟨_, rfl⟩
  rw [hV] at hB' oA' HIA' ⊢
  clear hV hsn
  have oA := oA'
  have HIA := HIA'
  have hB := hB'
  clear hB' oA' HIA'
  refine (HR1.out _ _ _ HIA.out).mono ?_
  rintro _ _ ⟨rfl, y2, rfl⟩
  have hbn := y2.below
  have hsn := hbn.size
  have hbz : Below V1.heap.size V1 (y2.w.alloc (.cells #[.slice none 0 0, .int .i64 0] 30)) := (hbn.alloc hsn _)
  have oA' := obj_in hbz oA
  have HIA' := Lib.hid ((HIA.out.of hbz).up hbz.size)
  have oR' := World.alloc_heap_new y2.w (.cells #[.slice none 0 0, .int .i64 0] 30)
  have hB' := hB.trans (hbz.mono hB.size)
  clear hbn hbz hB oA HIA
  obtain ⟨p0, q0, -⟩ := cells2 oA'
  obtain ⟨p1, q1, -⟩ := cells2 oR'
  dsimp only
  go_wp2_with fail
  clear p0 q0 p1 q1
  obtain ⟨V2, hV⟩ : ∃ V2, (y2.w.alloc (.cells #[.slice none 0 0, .int .i64 0] 30)) = V2 := ⟨_, rfl⟩
  rw [hV] at hB' oA' oR' HIA' ⊢
  clear hV hsn
  have oA := oA'
  have oR := oR'
  have HIA := HIA'
  have hB := hB'
  clear hB' oA' oR' HIA'
  refine (HR2.out _ _ _ HIA.out).mono ?_
  rintro _ _ ⟨rfl, y3, rfl⟩
  have hbn := y3.below
  have hsn := hbn.size
  have hbz : Below V2.heap.size V2 (y3.w.alloc (.cells #[.slice none 0 0, .int .i64 0] 30)) := (hbn.alloc hsn _)
  have oA' := obj_in hbz oA
  have oR' := obj_in hbz oR
  have HIA' := Lib.hid ((HIA.out.of hbz).up hbz.size)
  have oE' := World.alloc_heap_new y3.w (.cells #[.slice none 0 0, .int .i64 0] 30)
  have hB' := hB.trans (hbz.mono hB.size)
  clear hbn hbz hB oA oR HIA
  obtain ⟨p0, q0, -⟩ := cells2 oA'
  obtain ⟨p1, q1, -⟩ := cells2 oR'
  obtain ⟨p2, q2, -⟩ := cells2 oE'
  dsimp only
  go_wp2_with fail
  clear p0 q0 p1 q1 p2 q2
  obtain ⟨V3, hV⟩ : ∃ V3, (y3.w.alloc (.cells #[.slice none 0 0, .int .i64 0] 30)) = V3 := ⟨_, rfl⟩
  rw [hV] at hB' oA' oR' oE' HIA' ⊢
  clear hV hsn
  have oA := oA'
  have oR := oR'
  have oE := oE'
  have HIA := HIA'
  have hB := hB'
  clear hB' oA' oR' oE' HIA'
  refine (none_any _).mono ?_
  rintro _ _ ⟨rfl, y4, rfl⟩
  have hbn := y4.below
  have hsn := hbn.size
  have hbz : Below V3.heap.size V3 y4.w := hbn
  have oA' := obj_in hbz oA
  have oR' := obj_in hbz oR
  have oE' := obj_in hbz oE
  have HIA' := Lib.hid ((HIA.out.of hbz).up hbz.size)
  have hB' := hB.trans (hbz.mono hB.size)
  clear hbn hbz hB oA oR oE HIA
  obtain ⟨p0, q0, -⟩ := cells2 oA'
  obtain ⟨p1, q1, -⟩ := cells2 oR'
  obtain ⟨p2, q2, -⟩ := cells2 oE'
  dsimp only
  go_wp2_with fail
  clear p0 q0 p1 q1 p2 q2
  obtain ⟨V4, hV⟩ : ∃ V4, y4.w = V4 := ⟨_, rfl⟩
  rw [hV] at hB' oA' oR' oE' HIA' ⊢
  clear hV hsn
  have oA := oA'
  have oR := oR'
  have oE := oE'
  have HIA := HIA'
  have hB := hB'
  clear hB' oA' oR' oE' HIA'
  refine (none_any _).mono ?_
  rintro _ _ ⟨rfl, y5, rfl⟩
  have hbn := y5.below
  have hsn := hbn.size
  have hbz : Below V4.heap.size V4 y5.w := hbn
  have oA' := obj_in hbz oA
  have oR' := obj_in hbz oR
  have oE' := obj_in hbz oE
  have HIA' := Lib.hid ((HIA.out.of hbz).up hbz.size)
  have hB' := hB.trans (hbz.mono hB.size)
  clear hbn hbz hB oA oR oE HIA
  obtain ⟨p0, q0, -⟩ := cells2 oA'
  obtain ⟨p1, q1, -⟩ := cells2 oR'
  obtain ⟨p2, q2, -⟩ := cells2 oE'
  dsimp only
  obtain ⟨V5, hV⟩ : ∃ V5, y5.w = V5 := ⟨_, rfl⟩
  rw [hV] at hB' oA' oR' oE' HIA' ⊢
  clear hV hsn
  have oA := oA'
  have oR := oR'
  have oE := oE'
  have HIA := HIA'
  have hB := hB'
  clear hB' oA' oR' oE' HIA'
  have hBs := hB.size
  go_wp2
  go_ret
  exact Ret.mk (by rfl) (by (repeat' (first | (with_reducible first | exact Below.refl _ _ | exact Nat.le_refl _ | refine Below.bel ?_ ?_ | refine Below.alloc ?_ ?_ _ | refine Below.drew ?_ | refine Below.drawsN ?_ _ | refine Below.setCell ?_ ?_ _ | refine le_bel ?_ | refine le_alloc ?_ | refine le_setCell ?_ | refine le_drew ?_ | refine le_drawsN ?_) | (dsimp only; with_reducible first | refine le_bel ?_ | refine Nat.le_refl _ | refine le_bel_add ?_) | (with_reducible assumption) | omega | (dsimp only; omega))))
set_option maxRecDepth 100000 in
set_option maxHeartbeats 12800000 in
theorem lawRestricts_far (t : Nat) (ht : t < 2 ^ 64) (n : Nat) (b : Bool) (h6 : 6 ≤ n) (hn : n < 4096) (w : World) (hT : Tab w) : Calls Tryz.prog 8 #[.int .u64 (t : Int), .int .i64 (n : Int), .bool b] w (Ret (.bool true) w) := by
  have HT := Lib.hid hT
  have HMA := Lib.hid (fun w' => lawMake_any t ht w')
  have l1 := bld_len ht
  have HR1 := Lib.hid (fun ad cap w' hi => Restrict_far t n b ht h6 hn ad cap w' hi)
  have HR2 := Lib.hid (fun ad cap w' hi => Exists_far t n ht h6 hn ad cap w' hi)
  have HS := Lib.hid (fun M r a1 a2 c1 c2 w' h1 h2 hl => sameD_any M r a1 a2 c1 c2 w' h1 h2 hl)
  unfold RetBd at HMA
  unfold RetDg at HR1 HR2
  unfold dnV at HR1 HR2
  obtain ⟨MA, hm_MA⟩ : ∃ M, bldN t = M := ⟨_, rfl⟩
  obtain ⟨RA, hm_RA⟩ : ∃ M, bldR t = M := ⟨_, rfl⟩
  rw [hm_MA, hm_RA] at HMA
  rw [hm_MA, hm_RA] at HR1
  rw [hm_MA, hm_RA] at HR2
  rw [hm_MA] at l1
  clear hm_MA hm_RA
  have f1 : decide ((n : Int) < 0) = false := decide_eq_false (by omega)
  have f2 : decide (4096 ≤ (n : Int)) = false := decide_eq_false (by omega)
  have f3 : decide (5 < (n : Int)) = true := decide_eq_true (by omega)
  clear h6 hn ht hT
  go_enter Tryz.func8, Tryz.ntmps8
  go_wp2_with fail
  (with_reducible refine (known_any _ (HT.out.of (by (repeat' (first | (with_reducible first | exact Below.refl _ _ | exact Nat.le_refl _ | refine Below.bel ?_ ?_ | refine Below.alloc ?_ ?_ _ | refine Below.drew ?_ | refine Below.drawsN ?_ _ | refine Below.setCell ?_ ?_ _ | refine le_bel ?_ | refine le_alloc ?_ | refine le_setCell ?_ | refine le_drew ?_ | refine le_drawsN ?_) | (dsimp only; with_reducible first | refine le_bel ?_ | refine Nat.le_refl _ | refine le_bel_add ?_) | (with_reducible assumption) | omega | (dsimp only; omega)))))).mono ?_)
  rintro _ _ ⟨rfl, y1, rfl⟩
  have hB0 : Below w.heap.size w y1.w := y1.below
  dsimp only
  go_wp2_with fail
  obtain ⟨V0, hV⟩ : ∃ V0, y1.w = V0 := ⟨_, rfl⟩
  rw [hV] at hB0 ⊢
  have hB := hB0
  clear hV hB0
  refine (HMA.out _).mono ?_
  rintro _ W1 ⟨adA, capA, rfl, hiA, hbn⟩
  have hsn := hbn.size
  have hbz : Below V0.heap.size V0 (W1.alloc (.cells #[.slice adA MA.length capA, .int .i64 (RA : Int)] 30)) := (hbn.alloc hsn _)
  have hbe : Below W1.heap.size W1 (W1.alloc (.cells #[.slice adA MA.length capA, .int .i64 (RA : Int)] 30)) := ((Below.refl W1.heap.size W1).alloc (Nat.le_refl _) _)
  have HIA' := Lib.hid ((hiA.of hbe).up hbe.size)
  clear hbe
  have oA' := World.alloc_heap_new W1 (.cells #[.slice adA MA.length capA, .int .i64 (RA : Int)] 30)
  have hB' := hB.trans (hbz.mono hB.size)
  clear hbn hbz hB  hiA
  obtain ⟨p0, q0, -⟩ := cells2 oA'
  dsimp only
  go_wp2_with fail
  clear p0 q0
  obtain ⟨V1, hV⟩ : ∃ V1, (W1.alloc (.cells #[.slice adA MA.length capA, .int .i64 (RA : Int)] 30)) = V1 := ⟨_, rfl⟩
  rw [hV] at hB' oA' HIA' ⊢
  clear hV hsn
  have oA := oA'
  have HIA := HIA'
  have hB := hB'
  clear hB' oA' HIA'
  refine (HR1.out _ _ _ HIA.out).mono ?_
  rintro _ W2 ⟨adR, capR, rfl, hiR, -, hbn⟩
  have hsn := hbn.size
  have hbz : Below V1.heap.size V1 (W2.alloc (.cells #[.slice adR MA.length capR, .int .i64 (RA : Int)] 30)) := (hbn.alloc hsn _)
  have oA' := obj_in hbz oA
  have HIA' := Lib.hid ((HIA.out.of hbz).up hbz.size)
  have hbe : Below W2.heap.size W2 (W2.alloc (.cells #[.slice adR MA.length capR, .int .i64 (RA : Int)] 30)) := ((Below.refl W2.heap.size W2).alloc (Nat.le_refl _) _)
  have HIR' := Lib.hid ((hiR.of hbe).up hbe.size)
  clear hbe
  have oR' := World.alloc_heap_new W2 (.cells #[.slice adR MA.length capR, .int .i64 (RA : Int)] 30)
  have hB' := hB.trans (hbz.mono hB.size)
  clear hbn hbz hB oA HIA hiR
  obtain ⟨p0, q0, -⟩ := cells2 oA'
  obtain ⟨p1, q1, -⟩ := cells2 oR'
  dsimp only
  go_wp2_with fail
  clear p0 q0 p1 q1
  obtain ⟨V2, hV⟩ : ∃ V2, (W2.alloc (.cells #[.slice adR MA.length capR, .int .i64 (RA : Int)] 30)) = V2 := ⟨_, rfl⟩
  rw [hV] at hB' oA' oR' HIA' HIR' ⊢
  clear hV hsn
  have oA := oA'
  have oR := oR'
  have HIA := HIA'
  have HIR := HIR'
  have hB := hB'
  clear hB' oA' oR' HIA' HIR'
  refine (HR2.out _ _ _ HIA.out).mono ?_
  rintro _ W3 ⟨adE, capE, rfl, hiE, -, hbn⟩
  have hsn := hbn.size
  have hbz : Below V2.heap.size V2 (W3.alloc (.cells #[.slice adE MA.length capE, .int .i64 (RA : Int)] 30)) := (hbn.alloc hsn _)
  have oA' := obj_in hbz oA
  have oR' := obj_in hbz oR
  have HIA' := Lib.hid ((HIA.out.of hbz).up hbz.size)
  have HIR' := Lib.hid ((HIR.out.of hbz).up hbz.size)
  have hbe : Below W3.heap.size W3 (W3.alloc (.cells #[.slice adE MA.length capE, .int .i64 (RA : Int)] 30)) := ((Below.refl W3.heap.size W3).alloc (Nat.le_refl _) _)
  have HIE' := Lib.hid ((hiE.of hbe).up hbe.size)
  clear hbe
  have oE' := World.alloc_heap_new W3 (.cells #[.slice adE MA.length capE, .int .i64 (RA : Int)] 30)
  have hB' := hB.trans (hbz.mono hB.size)
  clear hbn hbz hB oA oR HIA HIR hiE
  obtain ⟨p0, q0, -⟩ := cells2 oA'
  obtain ⟨p1, q1, -⟩ := cells2 oR'
  obtain ⟨p2, q2, -⟩ := cells2 oE'
  dsimp only
  go_wp2_with fail
  clear p0 q0 p1 q1 p2 q2
  obtain ⟨V3, hV⟩ : ∃ V3, (W3.alloc (.cells #[.slice adE MA.length capE, .int .i64 (RA : Int)] 30)) = V3 := ⟨_, rfl⟩
  rw [hV] at hB' oA' oR' oE' HIA' HIR' HIE' ⊢
  clear hV hsn
  have oA := oA'
  have oR := oR'
  have oE := oE'
  have HIA := HIA'
  have HIR := HIR'
  have HIE := HIE'
  have hB := hB'
  clear hB' oA' oR' oE' HIA' HIR' HIE'
  refine (HS.out _ _ _ _ _ _ _ HIR.out HIA.out (by omega)).mono ?_
  rintro _ _ ⟨rfl, y4, rfl⟩
  have hbn := y4.below
  have hsn := hbn.size
  have hbz : Below V3.heap.size V3 y4.w := hbn
  have oA' := obj_in hbz oA
  have oR' := obj_in hbz oR
  have oE' := obj_in hbz oE
  have HIA' := Lib.hid ((HIA.out.of hbz).up hbz.size)
  have HIR' := Lib.hid ((HIR.out.of hbz).up hbz.size)
  have HIE' := Lib.hid ((HIE.out.of hbz).up hbz.size)
  have hB' := hB.trans (hbz.mono hB.size)
  clear hbn hbz hB oA oR oE HIA HIR HIE
  obtain ⟨p0, q0, -⟩ := cells2 oA'
  obtain ⟨p1, q1, -⟩ := cells2 oR'
  obtain ⟨p2, q2, -⟩ := cells2 oE'
  dsimp only
  go_wp2_with fail
  clear p0 q0 p1 q1 p2 q2
  obtain ⟨V4, hV⟩ : ∃ V4, y4.w = V4 := ⟨_, rfl⟩
  rw [hV] at hB' oA' oR' oE' HIA' HIR' HIE' ⊢
  clear hV hsn
  have oA := oA'
  have oR := oR'
  have oE := oE'
  have HIA := HIA'
  have HIR := HIR'
  have HIE := HIE'
  have hB := hB'
  clear hB' oA' oR' oE' HIA' HIR' HIE'
  refine (HS.out _ _ _ _ _ _ _ HIE.out HIA.out (by omega)).mono ?_
  rintro _ _ ⟨rfl, y5, rfl⟩
  have hbn := y5.below
  have hsn := hbn.size
  have hbz : Below V4.heap.size V4 y5.w := hbn
  have oA' := obj_in hbz oA
  have oR' := obj_in hbz oR
  have oE' := obj_in hbz oE
  have HIA' := Lib.hid ((HIA.out.of hbz).up hbz.size)
  have HIR' := Lib.hid ((HIR.out.of hbz).up hbz.size)
  have HIE' := Lib.hid ((HIE.out.of hbz).up hbz.size)
  have hB' := hB.trans (hbz.mono hB.size)
  clear hbn hbz hB oA oR oE HIA HIR HIE
  obtain ⟨p0, q0, -⟩ := cells2 oA'
  obtain ⟨p1, q1, -⟩ := cells2 oR'
  obtain ⟨p2, q2, -⟩ := cells2 oE'
  dsimp only
  obtain ⟨V5, hV⟩ : ∃ V5, y5.w = V5 := ⟨_, rfl⟩
  rw [hV] at hB' oA' oR' oE' HIA' HIR' HIE' ⊢
  clear hV hsn
  have oA := oA'
  have oR := oR'
  have oE := oE'
  have HIA := HIA'
  have HIR := HIR'
  have HIE := HIE'
  have hB := hB'
  clear hB' oA' oR' oE' HIA' HIR' HIE'
  have hBs := hB.size
  go_wp2
  go_ret
  exact Ret.mk (by rfl) (by (repeat' (first | (with_reducible first | exact Below.refl _ _ | exact Nat.le_refl _ | refine Below.bel ?_ ?_ | refine Below.alloc ?_ ?_ _ | refine Below.drew ?_ | refine Below.drawsN ?_ _ | refine Below.setCell ?_ ?_ _ | refine le_bel ?_ | refine le_alloc ?_ | refine le_setCell ?_ | refine le_drew ?_ | refine le_drawsN ?_) | (dsimp only; with_reducible first | refine le_bel ?_ | refine Nat.le_refl _ | refine le_bel_add ?_) | (with_reducible assumption) | omega | (dsimp only; omega))))
set_option maxRecDepth 100000 in
set_option maxHeartbeats 12800000 in
theorem lawRestricts_true (t : Nat) (ht : t < 2 ^ 64) (n : Nat) (hn : n < 6) (w : World) (hT : Tab w) : Calls Tryz.prog 8 #[.int .u64 (t : Int), .int .i64 (n : Int), .bool true] w (Ret (.bool true) w) := by
  have HT := Lib.hid hT
  have HMA := Lib.hid (fun w' => lawMake_any t ht w')
  have l1 := bld_len (cof_lt t n true)
  have ht2 : (cof t n false ||| cof t n true) < 2 ^ 64 := Nat.or_lt_two_pow (cof_lt _ _ _) (cof_lt _ _ _)
  have l2 := bld_len ht2
  have HR1 := Lib.hid (fun ad cap w' hi => Restrict_tab t n true ht hn ad cap w' hi)
  have HR2 := Lib.hid (fun ad cap w' hi => Exists_tab t n ht hn ad cap w' hi)
  have HF0 := Lib.hid (fun w' => refCof_any t n false ht hn w')
  have HF1 := Lib.hid (fun w' => refCof_any t n true ht hn w')
  have HM1 := Lib.hid (fun w' => lawMake_any (cof t n true) (cof_lt _ _ _) w')
  have HM2 := Lib.hid (fun w' => lawMake_any _ ht2 w')
  have HS := Lib.hid (fun M r a1 a2 c1 c2 w' h1 h2 hl => sameD_any M r a1 a2 c1 c2 w' h1 h2 hl)
  have x1 := u64_or_nat (cof t n false) (cof t n true) (cof_lt _ _ _) (cof_lt _ _ _)
  unfold RetBd at HMA HM1 HM2
  unfold RetDg at HR1 HR2
  unfold dnV at HR1 HR2
  obtain ⟨c0, e0⟩ : ∃ c0, cof t n false = c0 := ⟨_, rfl⟩
  obtain ⟨c1, e1⟩ : ∃ c1, cof t n true = c1 := ⟨_, rfl⟩
  rw [e0, e1] at x1
  rw [e0, e1] at HR2 HM2 l2
  rw [e0] at HF0
  rw [e1] at HF1
  rw [e1] at HR1 HM1 l1
  obtain ⟨c2, e2⟩ : ∃ c2, c0 ||| c1 = c2 := ⟨_, rfl⟩
  rw [e2] at x1 HR2 HM2 l2
  clear e0 e1 e2 ht2
  obtain ⟨MA, hm_MA⟩ : ∃ M, bldN t = M := ⟨_, rfl⟩
  obtain ⟨RA, hm_RA⟩ : ∃ M, bldR t = M := ⟨_, rfl⟩
  rw [hm_MA, hm_RA] at HMA
  rw [hm_MA, hm_RA] at HR1
  rw [hm_MA, hm_RA] at HR2
  clear hm_MA hm_RA
  obtain ⟨M1, hm_M1⟩ : ∃ M, bldN c1 = M := ⟨_, rfl⟩
  obtain ⟨R1, hm_R1⟩ : ∃ M, bldR c1 = M := ⟨_, rfl⟩
  rw [hm_M1, hm_R1] at HR1
  rw [hm_M1, hm_R1] at HM1
  rw [hm_M1] at l1
  clear hm_M1 hm_R1
  obtain ⟨M2, hm_M2⟩ : ∃ M, bldN c2 = M := ⟨_, rfl⟩
  obtain ⟨R2, hm_R2⟩ : ∃ M, bldR c2 = M := ⟨_, rfl⟩
  rw [hm_M2, hm_R2] at HR2
  rw [hm_M2, hm_R2] at HM2
  rw [hm_M2] at l2
  clear hm_M2 hm_R2
  have f1 : decide ((n : Int) < 0) = false := decide_eq_false (by omega)
  have f2 : decide (4096 ≤ (n : Int)) = false := decide_eq_false (by omega)
  have f3 : decide (5 < (n : Int)) = false := decide_eq_false (by omega)
  clear hn ht hT
  go_enter Tryz.func8, Tryz.ntmps8
  go_wp2_with fail
  (with_reducible refine (known_any _ (HT.out.of (by (repeat' (first | (with_reducible first | exact Below.refl _ _ | exact Nat.le_refl _ | refine Below.bel ?_ ?_ | refine Below.alloc ?_ ?_ _ | refine Below.drew ?_ | refine Below.drawsN ?_ _ | refine Below.setCell ?_ ?_ _ | refine le_bel ?_ | refine le_alloc ?_ | refine le_setCell ?_ | refine le_drew ?_ | refine le_drawsN ?_) | (dsimp only; with_reducible first | refine le_bel ?_ | refine Nat.le_refl _ | refine le_bel_add ?_) | (with_reducible assumption) | omega | (dsimp only; omega)))))).mono ?_)
  rintro _ _ ⟨rfl, y1, rfl⟩
  have hB0 : Below w.heap.size w y1.w := y1.below
  dsimp only
  go_wp2_with fail
  obtain ⟨V0, hV⟩ : ∃ V0, y1.w = V0 := ⟨_, rfl⟩
  rw [hV] at hB0 ⊢
  have hB := hB0
  clear hV hB0
  refine (HMA.out _).mono ?_
  rintro _ W1 ⟨adA, capA, rfl, hiA, hbn⟩
  have hsn := hbn.size
  have hbz : Below V0.heap.size V0 (W1.alloc (.cells #[.slice adA MA.length capA, .int .i64 (RA : Int)] 30)) := (hbn.alloc hsn _)
  have hbe : Below W1.heap.size W1 (W1.alloc (.cells #[.slice adA MA.length capA, .int .i64 (RA : Int)] 30)) := ((Below.refl W1.heap.size W1).alloc (Nat.le_refl _) _)
  have HIA' := Lib.hid ((hiA.of hbe).up hbe.size)
  clear hbe
  have oA' := World.alloc_heap_new W1 (.cells #[.slice adA MA.length capA, .int .i64 (RA : Int)] 30)
  have hB' := hB.trans (hbz.mono hB.size)
  clear hbn hbz hB  hiA
  obtain ⟨p0, q0, -⟩ := cells2 oA'
  dsimp only
  go_wp2_with fail
  clear p0 q0
  obtain ⟨V1, hV⟩ : ∃ V1, (W1.alloc (.cells #[.slice adA MA.length capA, .int .i64 (RA : Int)] 30)) = V1 := ⟨_, rfl⟩
  rw [hV] at hB' oA' HIA' ⊢
  clear hV hsn
  have oA := oA'
  have HIA := HIA'
  have hB := hB'
  clear hB' oA' HIA'
  refine (HR1.out _ _ _ HIA.out).mono ?_
  rintro _ W2 ⟨adR, capR, rfl, hiR, -, hbn⟩
  have hsn := hbn.size
  have hbz : Below V1.heap.size V1 (W2.alloc (.cells #[.slice adR M1.length capR, .int .i64 (R1 : Int)] 30)) := (hbn.alloc hsn _)
  have oA' := obj_in hbz oA
  have HIA' := Lib.hid ((HIA.out.of hbz).up hbz.size)
  have hbe : Below W2.heap.size W2 (W2.alloc (.cells #[.slice adR M1.length capR, .int .i64 (R1 : Int)] 30)) := ((Below.refl W2.heap.size W2).alloc (Nat.le_refl _) _)
  have HIR' := Lib.hid ((hiR.of hbe).up hbe.size)
  clear hbe
  have oR' := World.alloc_heap_new W2 (.cells #[.slice adR M1.length capR, .int .i64 (R1 : Int)] 30)
  have hB' := hB.trans (hbz.mono hB.size)
  clear hbn hbz hB oA HIA hiR
  obtain ⟨p0, q0, -⟩ := cells2 oA'
  obtain ⟨p1, q1, -⟩ := cells2 oR'
  dsimp only
  go_wp2_with fail
  clear p0 q0 p1 q1
  obtain ⟨V2, hV⟩ : ∃ V2, (W2.alloc (.cells #[.slice adR M1.length capR, .int .i64 (R1 : Int)] 30)) = V2 := ⟨_, rfl⟩
  rw [hV] at hB' oA' oR' HIA' HIR' ⊢
  clear hV hsn
  have oA := oA'
  have oR := oR'
  have HIA := HIA'
  have HIR := HIR'
  have hB := hB'
  clear hB' oA' oR' HIA' HIR'
  refine (HR2.out _ _ _ HIA.out).mono ?_
  rintro _ W3 ⟨adE, capE, rfl, hiE, -, hbn⟩
  have hsn := hbn.size
  have hbz : Below V2.heap.size V2 (W3.alloc (.cells #[.slice adE M2.length capE, .int .i64 (R2 : Int)] 30)) := (hbn.alloc hsn _)
  have oA' := obj_in hbz oA
  have oR' := obj_in hbz oR
  have HIA' := Lib.hid ((HIA.out.of hbz).up hbz.size)
  have HIR' := Lib.hid ((HIR.out.of hbz).up hbz.size)
  have hbe : Below W3.heap.size W3 (W3.alloc (.cells #[.slice adE M2.length capE, .int .i64 (R2 : Int)] 30)) := ((Below.refl W3.heap.size W3).alloc (Nat.le_refl _) _)
  have HIE' := Lib.hid ((hiE.of hbe).up hbe.size)
  clear hbe
  have oE' := World.alloc_heap_new W3 (.cells #[.slice adE M2.length capE, .int .i64 (R2 : Int)] 30)
  have hB' := hB.trans (hbz.mono hB.size)
  clear hbn hbz hB oA oR HIA HIR hiE
  obtain ⟨p0, q0, -⟩ := cells2 oA'
  obtain ⟨p1, q1, -⟩ := cells2 oR'
  obtain ⟨p2, q2, -⟩ := cells2 oE'
  dsimp only
  go_wp2_with fail
  clear p0 q0 p1 q1 p2 q2
  obtain ⟨V3, hV⟩ : ∃ V3, (W3.alloc (.cells #[.slice adE M2.length capE, .int .i64 (R2 : Int)] 30)) = V3 := ⟨_, rfl⟩
  rw [hV] at hB' oA' oR' oE' HIA' HIR' HIE' ⊢
  clear hV hsn
  have oA := oA'
  have oR := oR'
  have oE := oE'
  have HIA := HIA'
  have HIR := HIR'
  have HIE := HIE'
  have hB := hB'
  clear hB' oA' oR' oE' HIA' HIR' HIE'
  refine (HF0.out _).mono ?_
  rintro _ _ ⟨rfl, y4, rfl⟩
  have hbn := y4.below
  have hsn := hbn.size
  have hbz : Below V3.heap.size V3 y4.w := hbn
  have oA' := obj_in hbz oA
  have oR' := obj_in hbz oR
  have oE' := obj_in hbz oE
  have HIA' := Lib.hid ((HIA.out.of hbz).up hbz.size)
  have HIR' := Lib.hid ((HIR.out.of hbz).up hbz.size)
  have HIE' := Lib.hid ((HIE.out.of hbz).up hbz.size)
  have hB' := hB.trans (hbz.mono hB.size)
  clear hbn hbz hB oA oR oE HIA HIR HIE
  obtain ⟨p0, q0, -⟩ := cells2 oA'
  obtain ⟨p1, q1, -⟩ := cells2 oR'
  obtain ⟨p2, q2, -⟩ := cells2 oE'
  dsimp only
  go_wp2_with fail
  clear p0 q0 p1 q1 p2 q2
  obtain ⟨V4, hV⟩ : ∃ V4, y4.w = V4 := ⟨_, rfl⟩
  rw [hV] at hB' oA' oR' oE' HIA' HIR' HIE' ⊢
  clear hV hsn
  have oA := oA'
  have oR := oR'
  have oE := oE'
  have HIA := HIA'
  have HIR := HIR'
  have HIE := HIE'
  have hB := hB'
  clear hB' oA' oR' oE' HIA' HIR' HIE'
  refine (HF1.out _).mono ?_
  rintro _ _ ⟨rfl, y5, rfl⟩
  have hbn := y5.below
  have hsn := hbn.size
  have hbz : Below V4.heap.size V4 y5.w := hbn
  have oA' := obj_in hbz oA
  have oR' := obj_in hbz oR
  have oE' := obj_in hbz oE
  have HIA' := Lib.hid ((HIA.out.of hbz).up hbz.size)
  have HIR' := Lib.hid ((HIR.out.of hbz).up hbz.size)
  have HIE' := Lib.hid ((HIE.out.of hbz).up hbz.size)
  have hB' := hB.trans (hbz.mono hB.size)
  clear hbn hbz hB oA oR oE HIA HIR HIE
  obtain ⟨p0, q0, -⟩ := cells2 oA'
  obtain ⟨p1, q1, -⟩ := cells2 oR'
  obtain ⟨p2, q2, -⟩ := cells2 oE'
  dsimp only
  go_wp2_with fail
  clear p0 q0 p1 q1 p2 q2
  obtain ⟨V5, hV⟩ : ∃ V5, y5.w = V5 := ⟨_, rfl⟩
  rw [hV] at hB' oA' oR' oE' HIA' HIR' HIE' ⊢
  clear hV hsn
  have oA := oA'
  have oR := oR'
  have oE := oE'
  have HIA := HIA'
  have HIR := HIR'
  have HIE := HIE'
  have hB := hB'
  clear hB' oA' oR' oE' HIA' HIR' HIE'
  obtain ⟨V, hV⟩ : ∃ V, V5 = V := ⟨_, rfl⟩
  rw [hV] at hB HIR HIE oR oE ⊢
  clear hV HIA oA
  have hBs := hB.size
  obtain ⟨p0, q0, -⟩ := cells2 oR
  obtain ⟨p1, q1, -⟩ := cells2 oE
  have HoR := Lib.hid oR
  have HoE := Lib.hid oE
  clear oR oE
  refine wp_region_plan 20 (.calm 0 (.calm 1 (.calm 2 (.calm 3 (.calm 4 (.fork 5 (.calm 6 (.calm 7 (.calm 8 (.calm 9 (.calm 10 (.calm 11 (.calm 12 (.calm 13 (.calm 14 (.calm 15 (.calm 16 (.fork 17 (.calm 18 (.calm 19 .tail)) .none)))))))))))) .none)))))) (by kernel_rfl) (by kernel_rfl) ?_
  simp only [Plan.walk, operAt, List.getElem?_cons_succ, List.getElem?_cons_zero, Option.getD_some, List.drop_succ_cons, List.drop_zero]
  repeat (refine wpX_calm (fun K hK => ?_); go_simp; first | (refine hK _ _ ?_; clear hK K) | (apply Exists.intro; refine ⟨fun _ => ?_, hK _ _ ?_⟩; (fail); clear hK K))
  refine wpX_only (fun K hK => ?_)
  go_simp
  intro x0
  refine (HM1.out _).mono ?_
  rintro _ U0 ⟨au0, cu0, rfl, hu0, hbu0⟩
  refine ⟨_, rfl, hbu0, hK _ _ ?_⟩
  clear hK K
  have HU0 := Lib.hid hu0
  have hvx0 : Below V.heap.size V x0.w := x0.below
  have hvu0 : Below V.heap.size V U0 := hvx0.trans (hbu0.mono hvx0.size)
  have hsu0 := hvu0.size
  clear hu0
  obtain ⟨p0_0, q0_0, -⟩ := cells2 (obj_in hvu0 HoE.out)
  repeat (refine wpX_calm (fun K hK => ?_); go_simp; first | (refine hK _ _ ?_; clear hK K) | (apply Exists.intro; refine ⟨fun _ => ?_, hK _ _ ?_⟩; ((go_at_call 16; with_reducible exact HS.out _ _ _ _ _ _ _ ((HIR.out.of (hvu0.trans ((Bel.below _).mono hsu0))).up (hvu0.trans ((Bel.below _).mono hsu0)).size) ((HU0.out.of (Bel.below _)).up (Bel.below _).size) (by omega))); clear hK K))
  refine wpX_only (fun K hK => ?_)
  go_simp
  intro x1
  refine (HM2.out _).mono ?_
  rintro _ U1 ⟨au1, cu1, rfl, hu1, hbu1⟩
  refine ⟨_, rfl, hbu1, hK _ _ ?_⟩
  clear hK K
  have HU1 := Lib.hid hu1
  have hvx1 : Below V.heap.size V x1.w := hvu0.trans (x1.below.mono hsu0)
  have hvu1 : Below V.heap.size V U1 := hvx1.trans (hbu1.mono hvx1.size)
  have hsu1 := hvu1.size
  clear hu1
  repeat (refine wpX_calm (fun K hK => ?_); go_simp; first | (refine hK _ _ ?_; clear hK K) | (apply Exists.intro; refine ⟨fun _ => ?_, hK _ _ ?_⟩; ((go_at_call 16; with_reducible exact HS.out _ _ _ _ _ _ _ ((HIE.out.of (hvu1.trans ((Bel.below _).mono hsu1))).up (hvu1.trans ((Bel.below _).mono hsu1)).size) ((HU1.out.of (Bel.below _)).up (Bel.below _).size) (by omega))); clear hK K))
  have hbf := hB.trans (hvu1.mono hBs)
  have hsf := hbf.size
  refine wpX_tail ?_
  intro z
  go_wp2
  go_ret
  exact Ret.mk (by rfl) (by (repeat' (first | (with_reducible first | exact Below.refl _ _ | exact Nat.le_refl _ | refine Below.bel ?_ ?_ | refine Below.alloc ?_ ?_ _ | refine Below.drew ?_ | refine Below.drawsN ?_ _ | refine Below.setCell ?_ ?_ _ | refine le_bel ?_ | refine le_alloc ?_ | refine le_setCell ?_ | refine le_drew ?_ | refine le_drawsN ?_) | (dsimp only; with_reducible first | refine le_bel ?_ | refine Nat.le_refl _ | refine le_bel_add ?_) | (with_reducible assumption) | omega | (dsimp only; omega))))
set_option maxRecDepth 100000 in
set_option maxHeartbeats 12800000 in
theorem lawRestricts_false (t : Nat) (ht : t < 2 ^ 64) (n : Nat) (hn : n < 6) (w : World) (hT : Tab w) : Calls Tryz.prog 8 #[.int .u64 (t : Int), .int .i64 (n : Int), .bool false] w (Ret (.bool true) w) := by
  have HT := Lib.hid hT
  have HMA := Lib.hid (fun w' => lawMake_any t ht w')
  have l1 := bld_len (cof_lt t n false)
  have ht2 : (cof t n false ||| cof t n true) < 2 ^ 64 := Nat.or_lt_two_pow (cof_lt _ _ _) (cof_lt _ _ _)
  have l2 := bld_len ht2
  have HR1 := Lib.hid (fun ad cap w' hi => Restrict_tab t n false ht hn ad cap w' hi)
  have HR2 := Lib.hid (fun ad cap w' hi => Exists_tab t n ht hn ad cap w' hi)
  have HF0 := Lib.hid (fun w' => refCof_any t n false ht hn w')
  have HF1 := Lib.hid (fun w' => refCof_any t n true ht hn w')
  have HM1 := Lib.hid (fun w' => lawMake_any (cof t n false) (cof_lt _ _ _) w')
  have HM2 := Lib.hid (fun w' => lawMake_any _ ht2 w')
  have HS := Lib.hid (fun M r a1 a2 c1 c2 w' h1 h2 hl => sameD_any M r a1 a2 c1 c2 w' h1 h2 hl)
  have x1 := u64_or_nat (cof t n false) (cof t n true) (cof_lt _ _ _) (cof_lt _ _ _)
  unfold RetBd at HMA HM1 HM2
  unfold RetDg at HR1 HR2
  unfold dnV at HR1 HR2
  obtain ⟨c0, e0⟩ : ∃ c0, cof t n false = c0 := ⟨_, rfl⟩
  obtain ⟨c1, e1⟩ : ∃ c1, cof t n true = c1 := ⟨_, rfl⟩
  rw [e0, e1] at x1
  rw [e0, e1] at HR2 HM2 l2
  rw [e0] at HF0
  rw [e1] at HF1
  rw [e0] at HR1 HM1 l1
  obtain ⟨c2, e2⟩ : ∃ c2, c0 ||| c1 = c2 := ⟨_, rfl⟩
  rw [e2] at x1 HR2 HM2 l2
  clear e0 e1 e2 ht2
  obtain ⟨MA, hm_MA⟩ : ∃ M, bldN t = M := ⟨_, rfl⟩
  obtain ⟨RA, hm_RA⟩ : ∃ M, bldR t = M := ⟨_, rfl⟩
  rw [hm_MA, hm_RA] at HMA
  rw [hm_MA, hm_RA] at HR1
  rw [hm_MA, hm_RA] at HR2
  clear hm_MA hm_RA
  obtain ⟨M1, hm_M1⟩ : ∃ M, bldN c0 = M := ⟨_, rfl⟩
  obtain ⟨R1, hm_R1⟩ : ∃ M, bldR c0 = M := ⟨_, rfl⟩
  rw [hm_M1, hm_R1] at HR1
  rw [hm_M1, hm_R1] at HM1
  rw [hm_M1] at l1
  clear hm_M1 hm_R1
  obtain ⟨M2, hm_M2⟩ : ∃ M, bldN c2 = M := ⟨_, rfl⟩
  obtain ⟨R2, hm_R2⟩ : ∃ M, bldR c2 = M := ⟨_, rfl⟩
  rw [hm_M2, hm_R2] at HR2
  rw [hm_M2, hm_R2] at HM2
  rw [hm_M2] at l2
  clear hm_M2 hm_R2
  have f1 : decide ((n : Int) < 0) = false := decide_eq_false (by omega)
  have f2 : decide (4096 ≤ (n : Int)) = false := decide_eq_false (by omega)
  have f3 : decide (5 < (n : Int)) = false := decide_eq_false (by omega)
  clear hn ht hT
  go_enter Tryz.func8, Tryz.ntmps8
  go_wp2_with fail
  (with_reducible refine (known_any _ (HT.out.of (by (repeat' (first | (with_reducible first | exact Below.refl _ _ | exact Nat.le_refl _ | refine Below.bel ?_ ?_ | refine Below.alloc ?_ ?_ _ | refine Below.drew ?_ | refine Below.drawsN ?_ _ | refine Below.setCell ?_ ?_ _ | refine le_bel ?_ | refine le_alloc ?_ | refine le_setCell ?_ | refine le_drew ?_ | refine le_drawsN ?_) | (dsimp only; with_reducible first | refine le_bel ?_ | refine Nat.le_refl _ | refine le_bel_add ?_) | (with_reducible assumption) | omega | (dsimp only; omega)))))).mono ?_)
  rintro _ _ ⟨rfl, y1, rfl⟩
  have hB0 : Below w.heap.size w y1.w := y1.below
  dsimp only
  go_wp2_with fail
  obtain ⟨V0, hV⟩ : ∃ V0, y1.w = V0 := ⟨_, rfl⟩
  rw [hV] at hB0 ⊢
  have hB := hB0
  clear hV hB0
  refine (HMA.out _).mono ?_
  rintro _ W1 ⟨adA, capA, rfl, hiA, hbn⟩
  have hsn := hbn.size
  have hbz : Below V0.heap.size V0 (W1.alloc (.cells #[.slice adA MA.length capA, .int .i64 (RA : Int)] 30)) := (hbn.alloc hsn _)
  have hbe : Below W1.heap.size W1 (W1.alloc (.cells #[.slice adA MA.length capA, .int .i64 (RA : Int)] 30)) := ((Below.refl W1.heap.size W1).alloc (Nat.le_refl _) _)
  have HIA' := Lib.hid ((hiA.of hbe).up hbe.size)
  clear hbe
  have oA' := World.alloc_heap_new W1 (.cells #[.slice adA MA.length capA, .int .i64 (RA : Int)] 30)
  have hB' := hB.trans (hbz.mono hB.size)
  clear hbn hbz hB  hiA
  obtain ⟨p0, q0, -⟩ := cells2 oA'
  dsimp only
  go_wp2_with fail
  clear p0 q0
  obtain ⟨V1, hV⟩ : ∃ V1, (W1.alloc (.cells #[.slice adA MA.length capA, .int .i64 (RA : Int)] 30)) = V1 := ⟨_, rfl⟩
  rw [hV] at hB' oA' HIA' ⊢
  clear hV hsn
  have oA := oA'
  have HIA := HIA'
  have hB := hB'
  clear hB' oA' HIA'
  refine (HR1.out _ _ _ HIA.out).mono ?_
  rintro _ W2 ⟨adR, capR, rfl, hiR, -, hbn⟩
  have hsn := hbn.size
  have hbz : Below V1.heap.size V1 (W2.alloc (.cells #[.slice adR M1.length capR, .int .i64 (R1 : Int)] 30)) := (hbn.alloc hsn _)
  have oA' := obj_in hbz oA
  have HIA' := Lib.hid ((HIA.out.of hbz).up hbz.size)
  have hbe : Below W2.heap.size W2 (W2.alloc (.cells #[.slice adR M1.length capR, .int .i64 (R1 : Int)] 30)) := ((Below.refl W2.heap.size W2).alloc (Nat.le_refl _) _)
  have HIR' := Lib.hid ((hiR.of hbe).up hbe.size)
  clear hbe
  have oR' := World.alloc_heap_new W2 (.cells #[.slice adR M1.length capR, .int .i64 (R1 : Int)] 30)
  have hB' := hB.trans (hbz.mono hB.size)
  clear hbn hbz hB oA HIA hiR
  obtain ⟨p0, q0, -⟩ := cells2 oA'
  obtain ⟨p1, q1, -⟩ := cells2 oR'
  dsimp only
  go_wp2_with fail
  clear p0 q0 p1 q1
  obtain ⟨V2, hV⟩ : ∃ V2, (W2.alloc (.cells #[.slice adR M1.length capR, .int .i64 (R1 : Int)] 30)) = V2 := ⟨_, rfl⟩
  rw [hV] at hB' oA' oR' HIA' HIR' ⊢
  clear hV hsn
  have oA := oA'
  have oR := oR'
  have HIA := HIA'
  have HIR := HIR'
  have hB := hB'
  clear hB' oA' oR' HIA' HIR'
  refine (HR2.out _ _ _ HIA.out).mono ?_
  rintro _ W3 ⟨adE, capE, rfl, hiE, -, hbn⟩
  have hsn := hbn.size
  have hbz : Below V2.heap.size V2 (W3.alloc (.cells #[.slice adE M2.length capE, .int .i64 (R2 : Int)] 30)) := (hbn.alloc hsn _)
  have oA' := obj_in hbz oA
  have oR' := obj_in hbz oR
  have HIA' := Lib.hid ((HIA.out.of hbz).up hbz.size)
  have HIR' := Lib.hid ((HIR.out.of hbz).up hbz.size)
  have hbe : Below W3.heap.size W3 (W3.alloc (.cells #[.slice adE M2.length capE, .int .i64 (R2 : Int)] 30)) := ((Below.refl W3.heap.size W3).alloc (Nat.le_refl _) _)
  have HIE' := Lib.hid ((hiE.of hbe).up hbe.size)
  clear hbe
  have oE' := World.alloc_heap_new W3 (.cells #[.slice adE M2.length capE, .int .i64 (R2 : Int)] 30)
  have hB' := hB.trans (hbz.mono hB.size)
  clear hbn hbz hB oA oR HIA HIR hiE
  obtain ⟨p0, q0, -⟩ := cells2 oA'
  obtain ⟨p1, q1, -⟩ := cells2 oR'
  obtain ⟨p2, q2, -⟩ := cells2 oE'
  dsimp only
  go_wp2_with fail
  clear p0 q0 p1 q1 p2 q2
  obtain ⟨V3, hV⟩ : ∃ V3, (W3.alloc (.cells #[.slice adE M2.length capE, .int .i64 (R2 : Int)] 30)) = V3 := ⟨_, rfl⟩
  rw [hV] at hB' oA' oR' oE' HIA' HIR' HIE' ⊢
  clear hV hsn
  have oA := oA'
  have oR := oR'
  have oE := oE'
  have HIA := HIA'
  have HIR := HIR'
  have HIE := HIE'
  have hB := hB'
  clear hB' oA' oR' oE' HIA' HIR' HIE'
  refine (HF0.out _).mono ?_
  rintro _ _ ⟨rfl, y4, rfl⟩
  have hbn := y4.below
  have hsn := hbn.size
  have hbz : Below V3.heap.size V3 y4.w := hbn
  have oA' := obj_in hbz oA
  have oR' := obj_in hbz oR
  have oE' := obj_in hbz oE
  have HIA' := Lib.hid ((HIA.out.of hbz).up hbz.size)
  have HIR' := Lib.hid ((HIR.out.of hbz).up hbz.size)
  have HIE' := Lib.hid ((HIE.out.of hbz).up hbz.size)
  have hB' := hB.trans (hbz.mono hB.size)
  clear hbn hbz hB oA oR oE HIA HIR HIE
  obtain ⟨p0, q0, -⟩ := cells2 oA'
  obtain ⟨p1, q1, -⟩ := cells2 oR'
  obtain ⟨p2, q2, -⟩ := cells2 oE'
  dsimp only
  go_wp2_with fail
  clear p0 q0 p1 q1 p2 q2
  obtain ⟨V4, hV⟩ : ∃ V4, y4.w = V4 := ⟨_, rfl⟩
  rw [hV] at hB' oA' oR' oE' HIA' HIR' HIE' ⊢
  clear hV hsn
  have oA := oA'
  have oR := oR'
  have oE := oE'
  have HIA := HIA'
  have HIR := HIR'
  have HIE := HIE'
  have hB := hB'
  clear hB' oA' oR' oE' HIA' HIR' HIE'
  refine (HF1.out _).mono ?_
  rintro _ _ ⟨rfl, y5, rfl⟩
  have hbn := y5.below
  have hsn := hbn.size
  have hbz : Below V4.heap.size V4 y5.w := hbn
  have oA' := obj_in hbz oA
  have oR' := obj_in hbz oR
  have oE' := obj_in hbz oE
  have HIA' := Lib.hid ((HIA.out.of hbz).up hbz.size)
  have HIR' := Lib.hid ((HIR.out.of hbz).up hbz.size)
  have HIE' := Lib.hid ((HIE.out.of hbz).up hbz.size)
  have hB' := hB.trans (hbz.mono hB.size)
  clear hbn hbz hB oA oR oE HIA HIR HIE
  obtain ⟨p0, q0, -⟩ := cells2 oA'
  obtain ⟨p1, q1, -⟩ := cells2 oR'
  obtain ⟨p2, q2, -⟩ := cells2 oE'
  dsimp only
  go_wp2_with fail
  clear p0 q0 p1 q1 p2 q2
  obtain ⟨V5, hV⟩ : ∃ V5, y5.w = V5 := ⟨_, rfl⟩
  rw [hV] at hB' oA' oR' oE' HIA' HIR' HIE' ⊢
  clear hV hsn
  have oA := oA'
  have oR := oR'
  have oE := oE'
  have HIA := HIA'
  have HIR := HIR'
  have HIE := HIE'
  have hB := hB'
  clear hB' oA' oR' oE' HIA' HIR' HIE'
  obtain ⟨V, hV⟩ : ∃ V, V5 = V := ⟨_, rfl⟩
  rw [hV] at hB HIR HIE oR oE ⊢
  clear hV HIA oA
  have hBs := hB.size
  obtain ⟨p0, q0, -⟩ := cells2 oR
  obtain ⟨p1, q1, -⟩ := cells2 oE
  have HoR := Lib.hid oR
  have HoE := Lib.hid oE
  clear oR oE
  refine wp_region_plan 20 (.calm 0 (.calm 1 (.calm 2 (.calm 3 (.calm 4 (.fork 5 (.calm 6 (.calm 7 (.calm 8 (.calm 9 (.calm 10 (.calm 11 (.calm 12 (.calm 13 (.calm 14 (.calm 15 (.calm 16 (.fork 17 (.calm 18 (.calm 19 .tail)) .none)))))))))))) .none)))))) (by kernel_rfl) (by kernel_rfl) ?_
  simp only [Plan.walk, operAt, List.getElem?_cons_succ, List.getElem?_cons_zero, Option.getD_some, List.drop_succ_cons, List.drop_zero]
  repeat (refine wpX_calm (fun K hK => ?_); go_simp; first | (refine hK _ _ ?_; clear hK K) | (apply Exists.intro; refine ⟨fun _ => ?_, hK _ _ ?_⟩; (fail); clear hK K))
  refine wpX_only (fun K hK => ?_)
  go_simp
  intro x0
  refine (HM1.out _).mono ?_
  rintro _ U0 ⟨au0, cu0, rfl, hu0, hbu0⟩
  refine ⟨_, rfl, hbu0, hK _ _ ?_⟩
  clear hK K
  have HU0 := Lib.hid hu0
  have hvx0 : Below V.heap.size V x0.w := x0.below
  have hvu0 : Below V.heap.size V U0 := hvx0.trans (hbu0.mono hvx0.size)
  have hsu0 := hvu0.size
  clear hu0
  obtain ⟨p0_0, q0_0, -⟩ := cells2 (obj_in hvu0 HoE.out)
  repeat (refine wpX_calm (fun K hK => ?_); go_simp; first | (refine hK _ _ ?_; clear hK K) | (apply Exists.intro; refine ⟨fun _ => ?_, hK _ _ ?_⟩; ((go_at_call 16; with_reducible exact HS.out _ _ _ _ _ _ _ ((HIR.out.of (hvu0.trans ((Bel.below _).mono hsu0))).up (hvu0.trans ((Bel.below _).mono hsu0)).size) ((HU0.out.of (Bel.below _)).up (Bel.below _).size) (by omega))); clear hK K))
  refine wpX_only (fun K hK => ?_)
  go_simp
  intro x1
  refine (HM2.out _).mono ?_
  rintro _ U1 ⟨au1, cu1, rfl, hu1, hbu1⟩
  refine ⟨_, rfl, hbu1, hK _ _ ?_⟩
  clear hK K
  have HU1 := Lib.hid hu1
  have hvx1 : Below V.heap.size V x1.w := hvu0.trans (x1.below.mono hsu0)
  have hvu1 : Below V.heap.size V U1 := hvx1.trans (hbu1.mono hvx1.size)
  have hsu1 := hvu1.size
  clear hu1
  repeat (refine wpX_calm (fun K hK => ?_); go_simp; first | (refine hK _ _ ?_; clear hK K) | (apply Exists.intro; refine ⟨fun _ => ?_, hK _ _ ?_⟩; ((go_at_call 16; with_reducible exact HS.out _ _ _ _ _ _ _ ((HIE.out.of (hvu1.trans ((Bel.below _).mono hsu1))).up (hvu1.trans ((Bel.below _).mono hsu1)).size) ((HU1.out.of (Bel.below _)).up (Bel.below _).size) (by omega))); clear hK K))
  have hbf := hB.trans (hvu1.mono hBs)
  have hsf := hbf.size
  refine wpX_tail ?_
  intro z
  go_wp2
  go_ret
  exact Ret.mk (by rfl) (by (repeat' (first | (with_reducible first | exact Below.refl _ _ | exact Nat.le_refl _ | refine Below.bel ?_ ?_ | refine Below.alloc ?_ ?_ _ | refine Below.drew ?_ | refine Below.drawsN ?_ _ | refine Below.setCell ?_ ?_ _ | refine le_bel ?_ | refine le_alloc ?_ | refine le_setCell ?_ | refine le_drew ?_ | refine le_drawsN ?_) | (dsimp only; with_reducible first | refine le_bel ?_ | refine Nat.le_refl _ | refine le_bel_add ?_) | (with_reducible assumption) | omega | (dsimp only; omega))))
end Go.Proofs.YtkdmhjlcgpnjpaaGreatDoor
