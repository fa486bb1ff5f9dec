/- The walk of DiagramBuilds. -/
import Derived.Test.YtkdmhjlcgpnjpaaGreatDoorX28
import Derived.Test.YtkdmhjlcgpnjpaaGreatDoorXI
import Derived.Test.YtkdmhjlcgpnjpaaGreatDoorXJ
import Derived.Test.YtkdmhjlcgpnjpaaGreatDoorXT
import Derived.Test.YtkdmhjlcgpnjpaaGreatDoorK2
import Derived.Test.YtkdmhjlcgpnjpaaGreatDoorQz
namespace Go.Proofs.YtkdmhjlcgpnjpaaGreatDoor
set_option linter.unusedVariables false
set_option linter.unusedSimpArgs false
open Go.RowKit Go.Maps F
attribute [local go_sem low] Bel.cell Bel.frozen alloc_cell alloc_frozen
attribute [local go_sem] calmOp chainOp yieldsC grows

theorem Of_tab {t : F} (hok : okT t) (h6 : inV 6 (pre t)) (hn : nodes t ≤ 700) (hl : levels t ≤ 100) (P : Nat → Prop) (ad : Option Addr) (cap : Nat) (w : World) (hi : InsF P w ad t.l) :
    Calls Tryz.prog 15 #[.agg #[.int .i64 t.k, .int .i64 t.a, .slice ad t.l.length cap]] w (RetDg (bldN (tabF t)) (bldR (tabF t)) w) :=
  (Of_ok P t ad cap w hi hok h6 hn (checkF_ok.2 ⟨decide_eq_true (by omega), hok⟩)).mono fun _ _ h => retC_table h (tabF_lt t) (fun ρ => vt_tab hok h6 ρ)
theorem twice_err {t : F} (hok : okT t) (hn : nodes t ≤ 700) (hl : levels t ≤ 90) : nodes (nd 2 0 [t, t]) ≤ 1500 ∧ checkF (nd 2 0 [t, t]) = 7 := by
  have h1 : nodes (nd 2 0 [t, t]) ≤ 1500 := by rw [nodes, nodesL, nodesL, nodesL]; omega
  have h2 : levels (nd 2 0 [t, t]) ≤ 100 := by rw [levels, levelsL, levelsL, levelsL]; omega
  refine ⟨h1, ?_⟩
  rw [checkF, fitsF, if_pos (decide_eq_true ⟨by omega, h2⟩), pre, firstE, if_neg (by simp [single])]
  simp [single]
set_option maxRecDepth 100000 in
set_option maxHeartbeats 12800000 in
theorem lawBuilds_long (p : Option Addr) (n cap : Nat) (hn : 30 < n) (w : World) (hT : Tab w) : Calls Tryz.prog 3 #[.slice p n cap] w (Ret (.bool true) w) := by
  have HT := Lib.hid hT
  have f1 : decide ((30 : Int) < (n : Int)) = true := decide_eq_true (by omega)
  clear hT
  go_enter Tryz.func3, Tryz.ntmps3
  go_wp2_with fail
  (with_reducible refine (known_any _ (HT.out.of (by (repeat' (first | (with_reducible first | exact Below.refl _ _ | exact Nat.le_refl _ | refine Below.bel ?_ ?_ | refine Below.alloc ?_ ?_ _ | refine Below.drew ?_ | refine Below.drawsN ?_ _ | refine Below.setCell ?_ ?_ _ | refine le_bel ?_ | refine le_alloc ?_ | refine le_setCell ?_ | refine le_drew ?_ | refine le_drawsN ?_) | (dsimp only; with_reducible first | refine le_bel ?_ | refine Nat.le_refl _ | refine le_bel_add ?_) | (with_reducible assumption) | omega | (dsimp only; omega)))))).mono ?_)
  rintro _ _ ⟨rfl, y1, rfl⟩
  dsimp only
  go_wp2_with fail
  (with_reducible refine (known_any _ (HT.out.of (by (repeat' (first | (with_reducible first | exact Below.refl _ _ | exact Nat.le_refl _ | refine Below.bel ?_ ?_ | refine Below.alloc ?_ ?_ _ | refine Below.drew ?_ | refine Below.drawsN ?_ _ | refine Below.setCell ?_ ?_ _ | refine le_bel ?_ | refine le_alloc ?_ | refine le_setCell ?_ | refine le_drew ?_ | refine le_drawsN ?_) | (dsimp only; with_reducible first | refine le_bel ?_ | refine Nat.le_refl _ | refine le_bel_add ?_) | (with_reducible assumption) | omega | (dsimp only; omega)))))).mono ?_)
  rintro _ _ ⟨rfl, y2, rfl⟩
  dsimp only
  go_wp2
  go_ret
  exact Ret.mk (by rfl) (by (repeat' (first | (with_reducible first | exact Below.refl _ _ | exact Nat.le_refl _ | refine Below.bel ?_ ?_ | refine Below.alloc ?_ ?_ _ | refine Below.drew ?_ | refine Below.drawsN ?_ _ | refine Below.setCell ?_ ?_ _ | refine le_bel ?_ | refine le_alloc ?_ | refine le_setCell ?_ | refine le_drew ?_ | refine le_drawsN ?_) | (dsimp only; with_reducible first | refine le_bel ?_ | refine Nat.le_refl _ | refine le_bel_add ?_) | (with_reducible assumption) | omega | (dsimp only; omega))))
set_option maxRecDepth 100000 in
set_option maxHeartbeats 12800000 in
theorem lawBuilds_any (code : List UInt8) (ca : Option Addr) (cc : Nat) (w : World) (hT : Tab w) (hs : ShowsV w (.slice ca code.length cc) (bytesV code)) (hl : code.length ≤ 30) : Calls Tryz.prog 3 #[.slice ca code.length cc] w (Ret (.bool true) w) := by
  have f0 : decide ((30 : Int) < (code.length : Int)) = false := decide_eq_false (by omega)
  have HT := Lib.hid hT
  have HMK := Lib.hid (fun W (hW : Below w.heap.size w W) => Make_any code ca cc W (showsV_of hs hW) hl)
  obtain ⟨g1, g2, g3, g4⟩ := mkF_good code
  obtain ⟨t, ht⟩ : ∃ t, mkF code = t := ⟨_, rfl⟩
  rw [ht] at HMK g1 g2 g3 g4
  have tw := twice_err g1 (by omega) (by omega)
  have HOF := Lib.hid (fun (P : Nat → Prop) ad cap w' hi => Of_tab g1 g2 (by omega) (by omega) P ad cap w' hi)
  have HOE := Lib.hid (fun (P : Nat → Prop) ad cap w' hi => Of_err P (nd 2 0 [t, t]) ad cap 7 w' hi (by omega) tw.2 (by decide))
  have HTB := Lib.hid (fun (P : Nat → Prop) ad cap w' hi => Table_any P t ad cap w' hi g1 (by omega))
  have HM1 := Lib.hid (fun w' => lawMake_any (tabF t) (tabF_lt t) w')
  have l1 := bld_len (tabF_lt t)
  have HS := Lib.hid (fun M r a1 a2 c1 c2 w' h1 h2 hl => sameD_any M r a1 a2 c1 c2 w' h1 h2 hl)
  unfold RetF at HMK
  unfold RetBd at HM1
  unfold RetDg at HOF
  rw [nd_k, nd_a, nd_l] at HOE
  rw [show ([t, t] : List F).length = 2 from rfl] at HOE
  obtain ⟨T, hT2⟩ : ∃ T, tabF t = T := ⟨_, rfl⟩
  rw [hT2] at HOF HTB HM1 l1
  obtain ⟨M1, hm_M1⟩ : ∃ M, bldN T = M := ⟨_, rfl⟩
  obtain ⟨R1, hm_R1⟩ : ∃ M, bldR T = M := ⟨_, rfl⟩
  rw [hm_M1, hm_R1] at HOF
  rw [hm_M1, hm_R1] at HM1
  rw [hm_M1] at l1
  clear hm_M1 hm_R1
  clear hT hs ht tw hT2 g1 g2 g3 g4
  go_enter Tryz.func3, Tryz.ntmps3
  go_wp2_with fail
  (with_reducible refine (known_any _ (HT.out.of (by (repeat' (first | (with_reducible first | exact Below.refl _ _ | exact Nat.le_refl _ | refine Below.bel ?_ ?_ | refine Below.alloc ?_ ?_ _ | refine Below.drew ?_ | refine Below.drawsN ?_ _ | refine Below.setCell ?_ ?_ _ | refine le_bel ?_ | refine le_alloc ?_ | refine le_setCell ?_ | refine le_drew ?_ | refine le_drawsN ?_) | (dsimp only; with_reducible first | refine le_bel ?_ | refine Nat.le_refl _ | refine le_bel_add ?_) | (with_reducible assumption) | omega | (dsimp only; omega)))))).mono ?_)
  rintro _ _ ⟨rfl, y1, rfl⟩
  have hB0 : Below w.heap.size w y1.w := y1.below
  dsimp only
  go_wp2_with fail
  obtain ⟨V0, hV⟩ : ∃ V0, y1.w = V0 := ⟨_, rfl⟩
  rw [hV] at hB0 ⊢
  have hB := hB0
  clear hV hB0
  refine (HMK.out _ hB).mono ?_
  rintro _ _ ⟨_, rfl, y1, rfl, adF, capF, rfl, hiF⟩
  have hbn := y1.below
  have hsn := hbn.size
  have hbz : Below V0.heap.size V0 (y1.w.alloc (.cells #[.int .i64 t.k, .int .i64 t.a, .slice adF t.l.length capF] 26)) := (hbn.alloc hsn _)
  have hbe : Below y1.w.heap.size y1.w (y1.w.alloc (.cells #[.int .i64 t.k, .int .i64 t.a, .slice adF t.l.length capF] 26)) := ((Below.refl y1.w.heap.size y1.w).alloc (Nat.le_refl _) _)
  have HFF' := Lib.hid ((hiF.imp fun _ _ _ => trivial : InsF (fun _ => True) _ _ _).of hbe)
  clear hbe
  have fF' := World.alloc_heap_new y1.w (.cells #[.int .i64 t.k, .int .i64 t.a, .slice adF t.l.length capF] 26)
  have hB' := hB.trans (hbz.mono hB.size)
  clear hbn hbz hB  hiF
  obtain ⟨p0, q0, r0⟩ := box3 fF'
  dsimp only
  go_wp2_with fail
  clear p0 q0 r0
  obtain ⟨V1, hV⟩ : ∃ V1, (y1.w.alloc (.cells #[.int .i64 t.k, .int .i64 t.a, .slice adF t.l.length capF] 26)) = V1 := ⟨_, rfl⟩
  rw [hV] at hB' fF' HFF' ⊢
  clear hV hsn
  have fF := fF'
  have HFF := HFF'
  have hB := hB'
  clear hB' fF' HFF'
  refine (HOF.out _ _ _ _ HFF.out).mono ?_
  rintro _ W2 ⟨adA, capA, rfl, hiA, -, hbn⟩
  have hsn := hbn.size
  have hbz : Below V1.heap.size V1 (W2.alloc (.cells #[.slice adA M1.length capA, .int .i64 (R1 : Int)] 30)) := (hbn.alloc hsn _)
  have fF' := obj_in hbz fF
  have HFF' := Lib.hid (HFF.out.of hbz)
  have hbe : Below W2.heap.size W2 (W2.alloc (.cells #[.slice adA M1.length capA, .int .i64 (R1 : Int)] 30)) := ((Below.refl W2.heap.size W2).alloc (Nat.le_refl _) _)
  have HIA' := Lib.hid ((hiA.of hbe).up hbe.size)
  clear hbe
  have oA' := World.alloc_heap_new W2 (.cells #[.slice adA M1.length capA, .int .i64 (R1 : Int)] 30)
  have hB' := hB.trans (hbz.mono hB.size)
  clear hbn hbz hB fF HFF hiA
  obtain ⟨p0, q0, r0⟩ := box3 fF'
  obtain ⟨p1, q1, -⟩ := cells2 oA'
  dsimp only
  go_wp2_with fail
  clear p0 q0 r0 p1 q1
  obtain ⟨V2, hV⟩ : ∃ V2, (W2.alloc (.cells #[.slice adA M1.length capA, .int .i64 (R1 : Int)] 30)) = V2 := ⟨_, rfl⟩
  rw [hV] at hB' fF' oA' HFF' HIA' ⊢
  have HZ2 := Lib.hid (show V2.heap.size = W2.heap.size + 1 from by rw [← hV]; simp)
  clear hV hsn
  have fF := fF'
  have oA := oA'
  have HFF := HFF'
  have HIA := HIA'
  have hB := hB'
  clear hB' fF' oA' HFF' HIA'
  have hbz : Below V2.heap.size V2 (V2.alloc (.cells #[.int .i64 t.k, .int .i64 t.a, .slice adF t.l.length capF, .int .i64 t.k, .int .i64 t.a, .slice adF t.l.length capF] 26)) := (Below.refl _ _).alloc (Nat.le_refl _) _
  have fF' := obj_in hbz fF
  have oA' := obj_in hbz oA
  have HFF' := Lib.hid (HFF.out.of hbz)
  have HIA' := Lib.hid ((HIA.out.of hbz).up hbz.size)
  have xA' := World.alloc_heap_new V2 (.cells #[.int .i64 t.k, .int .i64 t.a, .slice adF t.l.length capF, .int .i64 t.k, .int .i64 t.a, .slice adF t.l.length capF] 26)
  rw [HZ2.out] at xA'
  have hB' := hB.trans (hbz.mono hB.size)
  clear hbz hB fF oA HFF HIA
  obtain ⟨V3, hV⟩ : ∃ V3, (V2.alloc (.cells #[.int .i64 t.k, .int .i64 t.a, .slice adF t.l.length capF, .int .i64 t.k, .int .i64 t.a, .slice adF t.l.length capF] 26)) = V3 := ⟨_, rfl⟩
  rw [hV] at hB' fF' oA' xA' HFF' HIA' ⊢
  clear hV
  have fF := fF'
  have oA := oA'
  have xA := xA'
  have HFF := HFF'
  have HIA := HIA'
  have hB := hB'
  clear hB' fF' oA' xA' HFF' HIA'
  refine (HOE.out (fun _ => True) _ _ _ (insF_two xA trivial HFF.out HFF.out)).mono ?_
  rintro _ _ ⟨rfl, y4, rfl⟩
  have hbn := y4.below
  have hsn := hbn.size
  have hbz : Below V3.heap.size V3 (y4.w.alloc (.cells #[.slice none 0 0, .int .i64 0] 30)) := (hbn.alloc hsn _)
  have fF' := obj_in hbz fF
  have oA' := obj_in hbz oA
  have HFF' := Lib.hid (HFF.out.of hbz)
  have HIA' := Lib.hid ((HIA.out.of hbz).up hbz.size)
  have oE' := World.alloc_heap_new y4.w (.cells #[.slice none 0 0, .int .i64 0] 30)
  have hB' := hB.trans (hbz.mono hB.size)
  clear hbn hbz hB fF oA HFF HIA
  obtain ⟨p0, q0, r0⟩ := box3 fF'
  obtain ⟨p1, q1, -⟩ := cells2 oA'
  obtain ⟨p2, q2, -⟩ := cells2 oE'
  dsimp only
  go_wp2_with fail
  clear p0 q0 r0 p1 q1 p2 q2
  obtain ⟨V4, hV⟩ : ∃ V4, (y4.w.alloc (.cells #[.slice none 0 0, .int .i64 0] 30)) = V4 := ⟨_, rfl⟩
  rw [hV] at hB' fF' oA' oE' HFF' HIA' ⊢
  clear hV hsn
  have fF := fF'
  have oA := oA'
  have oE := oE'
  have HFF := HFF'
  have HIA := HIA'
  have hB := hB'
  clear hB' fF' oA' oE' HFF' HIA'
  obtain ⟨V, hV⟩ : ∃ V, V4 = V := ⟨_, rfl⟩
  rw [hV] at hB HIA HFF oA oE fF ⊢
  clear hV
  have hBs := hB.size
  obtain ⟨p0, q0, -⟩ := cells2 oA
  obtain ⟨p1, q1, -⟩ := cells2 oE
  obtain ⟨p2, q2, r2⟩ := box3 fF
  have HoE := Lib.hid oE
  clear oA oE fF
  refine wp_region_plan 17 (.calm 0 (.calm 1 (.calm 2 (.calm 3 (.calm 4 (.calm 5 (.fork 6 (.calm 7 (.calm 8 (.calm 9 (.calm 10 (.calm 11 (.calm 12 (.calm 13 (.calm 14 (.calm 15 (.calm 16 .tail)))))))))) .none))))))) (by kernel_rfl) (by kernel_rfl) ?_
  simp only [Plan.walk, operAt, List.getElem?_cons_succ, List.getElem?_cons_zero, Option.getD_some, List.drop_succ_cons, List.drop_zero]
  repeat (refine wpX_calm (fun K hK => ?_); go_simp; first | (refine hK _ _ ?_; clear hK K) | (apply Exists.intro; refine ⟨fun _ => ?_, hK _ _ ?_⟩; ((go_at_call 18; with_reducible exact HTB.out _ _ _ _ (HFF.out.of (Bel.below _)))); clear hK K))
  refine wpX_only (fun K hK => ?_)
  go_simp
  intro x0
  refine (HM1.out _).mono ?_
  rintro _ U0 ⟨au0, cu0, rfl, hu0, hbu0⟩
  refine ⟨_, rfl, hbu0, hK _ _ ?_⟩
  clear hK K
  have HU0 := Lib.hid hu0
  have hvx0 : Below V.heap.size V x0.w := x0.below
  have hvu0 : Below V.heap.size V U0 := hvx0.trans (hbu0.mono hvx0.size)
  have hsu0 := hvu0.size
  clear hu0
  obtain ⟨p0_0, q0_0, -⟩ := cells2 (obj_in hvu0 HoE.out)
  repeat (refine wpX_calm (fun K hK => ?_); go_simp; first | (refine hK _ _ ?_; clear hK K) | (apply Exists.intro; refine ⟨fun _ => ?_, hK _ _ ?_⟩; (first | (go_at_call 16; with_reducible exact HS.out _ _ _ _ _ _ _ ((HIA.out.of (hvu0.trans ((Bel.below _).mono hsu0))).up (hvu0.trans ((Bel.below _).mono hsu0)).size) ((HU0.out.of (Bel.below _)).up (Bel.below _).size) (by omega)) | (go_at_call 19; with_reducible exact none_any _)); clear hK K))
  have hbf := hB.trans (hvu0.mono hBs)
  have hsf := hbf.size
  refine wpX_tail ?_
  intro z
  go_wp2
  go_ret
  exact Ret.mk (by rfl) (by (repeat' (first | (with_reducible first | exact Below.refl _ _ | exact Nat.le_refl _ | refine Below.bel ?_ ?_ | refine Below.alloc ?_ ?_ _ | refine Below.drew ?_ | refine Below.drawsN ?_ _ | refine Below.setCell ?_ ?_ _ | refine le_bel ?_ | refine le_alloc ?_ | refine le_setCell ?_ | refine le_drew ?_ | refine le_drawsN ?_) | (dsimp only; with_reducible first | refine le_bel ?_ | refine Nat.le_refl _ | refine le_bel_add ?_) | (with_reducible assumption) | omega | (dsimp only; omega))))
end Go.Proofs.YtkdmhjlcgpnjpaaGreatDoor
