/- same, and the walk of FormulaTexts. -/
import Derived.Test.YtkbellmhanpocaaDoorK1
import Derived.Test.YtkbellmhanpocaaDoorK2
import Derived.Test.YtkbellmhanpocaaDoorR2
namespace Go.Proofs.YtkbellmhanpocaaDoor
set_option linter.unusedVariables false
set_option linter.unusedSimpArgs false
open Go.RowKit F
attribute [local go_sem low] Bel.cell Bel.frozen alloc_cell alloc_frozen
attribute [local go_sem] calmOp chainOp yieldsC grows

set_option maxRecDepth 100000 in
set_option maxHeartbeats 6400000 in
theorem same_any (t u : F) (P P' : Nat → Prop) (ad ad' : Option Addr) (cap cap' : Nat) (w : World) (hi : InsF P w ad t.l) (hi' : InsF P' w ad' u.l) (hn : nodes t ≤ 100000000) (hn' : nodes u ≤ 100000000) :
    Calls Tryd.prog 23 #[.agg #[.int .i64 t.k, .int .i64 t.a, .slice ad t.l.length cap], .agg #[.int .i64 u.k, .int .i64 u.a, .slice ad' u.l.length cap']] w (Ret (.bool (eqF t u)) w) := by
  have HT := Lib.hid (fun w' (h : InsF P w' ad t.l) => Tree_any (nodes t) t (Nat.le_refl _) P ad cap w' h hn)
  have HU := Lib.hid (fun w' (h : InsF P' w' ad' u.l) => Tree_any (nodes u) u (Nat.le_refl _) P' ad' cap' w' h hn')
  have HS := Lib.hid (fun P1 P2 ad1 cap1 ad2 cap2 w' (h : InsF P1 w' ad1 t.l) (h' : InsF P2 w' ad2 u.l) => Same_any (nodes t) t (Nat.le_refl _) u P1 P2 ad1 ad2 cap1 cap2 w' h h' (by omega) (by omega))
  have HI := Lib.hid hi
  have HI' := Lib.hid hi'
  clear hi hi'
  go_enter Tryd.func23, Tryd.ntmps23
  go_wp2_with fail
  refine wp_region_plan 4 (.calm 0 (.calm 2 (.fork 1 (.fork 3 .tail .none) .none))) (by kernel_rfl) (by kernel_rfl) ?_
  simp only [Plan.walk, operAt, List.getElem?_cons_succ, List.getElem?_cons_zero, Option.getD_some, List.drop_succ_cons, List.drop_zero]
  repeat (refine wpX_calm (fun K hK => ?_); go_simp; first | (refine hK _ _ ?_; clear hK K) | (apply Exists.intro; refine ⟨fun _ => ?_, hK _ _ ?_⟩; (fail); clear hK K))
  refine wpX_only (fun K hK => ?_)
  go_simp
  intro x
  refine (HT.out _ (HI.out.of (by (repeat' (first | (with_reducible exact Below.refl _ _) | (with_reducible exact Nat.le_refl _) | (with_reducible refine Below.bel ?_ ?_) | (with_reducible refine Below.alloc ?_ ?_ _) | (with_reducible refine Below.drew ?_) | (with_reducible refine Below.drawsN ?_ _) | (with_reducible refine Below.setCell ?_ ?_ _) | (with_reducible refine le_bel ?_) | (with_reducible refine le_alloc ?_) | (with_reducible refine le_setCell ?_) | (with_reducible refine le_drew ?_) | (with_reducible refine le_drawsN ?_) | (dsimp only; with_reducible refine le_bel ?_) | (dsimp only; with_reducible refine Nat.le_refl _) | (dsimp only; with_reducible refine le_bel_add ?_) | (with_reducible assumption) | omega | (dsimp only; omega)))))).mono ?_
  rintro _ _ ⟨_, rfl, y, rfl, ad5, cap5, rfl, hi5⟩
  have HI5 := Lib.hid hi5
  clear hi5
  refine ⟨_, rfl, y.below, hK _ _ ?_⟩
  clear hK K
  repeat (refine wpX_calm (fun K hK => ?_); go_simp; first | (refine hK _ _ ?_; clear hK K) | (apply Exists.intro; refine ⟨fun _ => ?_, hK _ _ ?_⟩; (fail); clear hK K))
  refine wpX_only (fun K hK => ?_)
  go_simp
  intro x2
  refine (HU.out _ (HI'.out.of (by (repeat' (first | (with_reducible exact Below.refl _ _) | (with_reducible exact Nat.le_refl _) | (with_reducible refine Below.bel ?_ ?_) | (with_reducible refine Below.alloc ?_ ?_ _) | (with_reducible refine Below.drew ?_) | (with_reducible refine Below.drawsN ?_ _) | (with_reducible refine Below.setCell ?_ ?_ _) | (with_reducible refine le_bel ?_) | (with_reducible refine le_alloc ?_) | (with_reducible refine le_setCell ?_) | (with_reducible refine le_drew ?_) | (with_reducible refine le_drawsN ?_) | (dsimp only; with_reducible refine le_bel ?_) | (dsimp only; with_reducible refine Nat.le_refl _) | (dsimp only; with_reducible refine le_bel_add ?_) | (with_reducible assumption) | omega | (dsimp only; omega)))))).mono ?_
  rintro _ _ ⟨_, rfl, y2, rfl, ad6, cap6, rfl, hi6⟩
  have HI6 := Lib.hid hi6
  clear hi6
  refine ⟨_, rfl, y2.below, hK _ _ ?_⟩
  clear hK K
  repeat (refine wpX_calm (fun K hK => ?_); go_simp; first | (refine hK _ _ ?_; clear hK K) | (apply Exists.intro; refine ⟨fun _ => ?_, hK _ _ ?_⟩; (fail); clear hK K))
  refine wpX_tail ?_
  intro z
  go_wp2_with fail
  refine (HS.out _ _ _ _ _ _ _ (HI5.out.of (by (repeat' (first | (with_reducible exact Below.refl _ _) | (with_reducible exact Nat.le_refl _) | (with_reducible refine Below.bel ?_ ?_) | (with_reducible refine Below.alloc ?_ ?_ _) | (with_reducible refine Below.drew ?_) | (with_reducible refine Below.drawsN ?_ _) | (with_reducible refine Below.setCell ?_ ?_ _) | (with_reducible refine le_bel ?_) | (with_reducible refine le_alloc ?_) | (with_reducible refine le_setCell ?_) | (with_reducible refine le_drew ?_) | (with_reducible refine le_drawsN ?_) | (dsimp only; with_reducible refine le_bel ?_) | (dsimp only; with_reducible refine Nat.le_refl _) | (dsimp only; with_reducible refine le_bel_add ?_) | (with_reducible assumption) | omega | (dsimp only; omega))))) (HI6.out.of (by (repeat' (first | (with_reducible exact Below.refl _ _) | (with_reducible exact Nat.le_refl _) | (with_reducible refine Below.bel ?_ ?_) | (with_reducible refine Below.alloc ?_ ?_ _) | (with_reducible refine Below.drew ?_) | (with_reducible refine Below.drawsN ?_ _) | (with_reducible refine Below.setCell ?_ ?_ _) | (with_reducible refine le_bel ?_) | (with_reducible refine le_alloc ?_) | (with_reducible refine le_setCell ?_) | (with_reducible refine le_drew ?_) | (with_reducible refine le_drawsN ?_) | (dsimp only; with_reducible refine le_bel ?_) | (dsimp only; with_reducible refine Nat.le_refl _) | (dsimp only; with_reducible refine le_bel_add ?_) | (with_reducible assumption) | omega | (dsimp only; omega)))))).mono ?_
  rintro _ _ ⟨rfl, y3, rfl⟩
  dsimp only
  go_wp2
  go_ret
  exact Ret.mk (by rfl) (by (repeat' (first | (with_reducible exact Below.refl _ _) | (with_reducible exact Nat.le_refl _) | (with_reducible refine Below.bel ?_ ?_) | (with_reducible refine Below.alloc ?_ ?_ _) | (with_reducible refine Below.drew ?_) | (with_reducible refine Below.drawsN ?_ _) | (with_reducible refine Below.setCell ?_ ?_ _) | (with_reducible refine le_bel ?_) | (with_reducible refine le_alloc ?_) | (with_reducible refine le_setCell ?_) | (with_reducible refine le_drew ?_) | (with_reducible refine le_drawsN ?_) | (dsimp only; with_reducible refine le_bel ?_) | (dsimp only; with_reducible refine Nat.le_refl _) | (dsimp only; with_reducible refine le_bel_add ?_) | (with_reducible assumption) | omega | (dsimp only; omega))))
set_option maxRecDepth 100000 in
theorem lawTexts_long (p : Option Addr) (n cap : Nat) (w : World) (hT : Tab w) (hn : 30 < n) : Calls Tryd.prog 6 #[.slice p n cap] w (Ret (.bool true) w) := by
  have f0 : decide ((30 : Int) < (n : Int)) = true := decide_eq_true (by omega)
  have HT := Lib.hid hT
  clear hT
  go_enter Tryd.func6, Tryd.ntmps6
  go_wp2_with fail
  (with_reducible refine (known_any _ (HT.out.of (by (repeat' (first | (with_reducible exact Below.refl _ _) | (with_reducible exact Nat.le_refl _) | (with_reducible refine Below.bel ?_ ?_) | (with_reducible refine Below.alloc ?_ ?_ _) | (with_reducible refine Below.drew ?_) | (with_reducible refine Below.drawsN ?_ _) | (with_reducible refine Below.setCell ?_ ?_ _) | (with_reducible refine le_bel ?_) | (with_reducible refine le_alloc ?_) | (with_reducible refine le_setCell ?_) | (with_reducible refine le_drew ?_) | (with_reducible refine le_drawsN ?_) | (dsimp only; with_reducible refine le_bel ?_) | (dsimp only; with_reducible refine Nat.le_refl _) | (dsimp only; with_reducible refine le_bel_add ?_) | (with_reducible assumption) | omega | (dsimp only; omega)))))).mono ?_)
  rintro _ _ ⟨rfl, y1, rfl⟩
  go_wp2_with fail
  (with_reducible refine (known_any _ (HT.out.of (by (repeat' (first | (with_reducible exact Below.refl _ _) | (with_reducible exact Nat.le_refl _) | (with_reducible refine Below.bel ?_ ?_) | (with_reducible refine Below.alloc ?_ ?_ _) | (with_reducible refine Below.drew ?_) | (with_reducible refine Below.drawsN ?_ _) | (with_reducible refine Below.setCell ?_ ?_ _) | (with_reducible refine le_bel ?_) | (with_reducible refine le_alloc ?_) | (with_reducible refine le_setCell ?_) | (with_reducible refine le_drew ?_) | (with_reducible refine le_drawsN ?_) | (dsimp only; with_reducible refine le_bel ?_) | (dsimp only; with_reducible refine Nat.le_refl _) | (dsimp only; with_reducible refine le_bel_add ?_) | (with_reducible assumption) | omega | (dsimp only; omega)))))).mono ?_)
  rintro _ _ ⟨rfl, y2, rfl⟩
  go_wp2
  go_ret
  exact Ret.mk (by rfl) (by (repeat' (first | (with_reducible exact Below.refl _ _) | (with_reducible exact Nat.le_refl _) | (with_reducible refine Below.bel ?_ ?_) | (with_reducible refine Below.alloc ?_ ?_ _) | (with_reducible refine Below.drew ?_) | (with_reducible refine Below.drawsN ?_ _) | (with_reducible refine Below.setCell ?_ ?_ _) | (with_reducible refine le_bel ?_) | (with_reducible refine le_alloc ?_) | (with_reducible refine le_setCell ?_) | (with_reducible refine le_drew ?_) | (with_reducible refine le_drawsN ?_) | (dsimp only; with_reducible refine le_bel ?_) | (dsimp only; with_reducible refine Nat.le_refl _) | (dsimp only; with_reducible refine le_bel_add ?_) | (with_reducible assumption) | omega | (dsimp only; omega))))
set_option maxRecDepth 100000 in
set_option maxHeartbeats 12800000 in
theorem lawTexts_any (code : List UInt8) (ca : Option Addr) (cc : Nat) (w : World) (hT : Tab w) (hs : ShowsV w (.slice ca code.length cc) (bytesV code)) (hl : code.length ≤ 30) : Calls Tryd.prog 6 #[.slice ca code.length cc] w (Ret (.bool true) w) := by
  have f0 : decide ((30 : Int) < (code.length : Int)) = false := decide_eq_false (by omega)
  have HT := Lib.hid hT
  have HM := Lib.hid (fun W (hW : Below w.heap.size w W) => Make_any code ca cc W (showsV_of hs hW) hl)
  obtain ⟨g1, g2, g3, g4⟩ := mkF_good code
  obtain ⟨t, ht⟩ : ∃ t, mkF code = t := ⟨_, rfl⟩
  rw [ht] at HM g1 g2 g3 g4
  have htl := txt_len t g1
  have HX := Lib.hid (fun (P : Nat → Prop) ad cap w' hi hT => Text_ok P t ad cap w' hi g1 (by omega) (by omega) hT)
  have HP := Lib.hid (fun w' => Parse_ok t w' g1 (by omega) (by omega) (by omega))
  have HRX := Lib.hid (fun (P : Nat → Prop) ad cap w' hi => refText_any (nodes t) t (Nat.le_refl _) g1 P ad cap w' hi (by omega))
  have HTR := Lib.hid (fun (P : Nat → Prop) ad cap w' hi => Tree_any (nodes t) t (Nat.le_refl _) P ad cap w' hi (by omega))
  have HSM := Lib.hid (fun (P P' : Nat → Prop) ad ad' cap cap' w' hi hi' => same_any t t P P' ad ad' cap cap' w' hi hi' (by omega) (by omega))
  rw [(eqF_iff t t).2 rfl] at HSM
  obtain ⟨S, hS⟩ : ∃ S, txt t = S := ⟨_, rfl⟩
  rw [hS] at HX HP HRX
  clear hT hs ht g1 g2 g3 g4 htl hS
  go_enter Tryd.func6, Tryd.ntmps6
  go_wp2_with fail
  (with_reducible refine (known_any _ (HT.out.of (by (repeat' (first | (with_reducible exact Below.refl _ _) | (with_reducible exact Nat.le_refl _) | (with_reducible refine Below.bel ?_ ?_) | (with_reducible refine Below.alloc ?_ ?_ _) | (with_reducible refine Below.drew ?_) | (with_reducible refine Below.drawsN ?_ _) | (with_reducible refine Below.setCell ?_ ?_ _) | (with_reducible refine le_bel ?_) | (with_reducible refine le_alloc ?_) | (with_reducible refine le_setCell ?_) | (with_reducible refine le_drew ?_) | (with_reducible refine le_drawsN ?_) | (dsimp only; with_reducible refine le_bel ?_) | (dsimp only; with_reducible refine Nat.le_refl _) | (dsimp only; with_reducible refine le_bel_add ?_) | (with_reducible assumption) | omega | (dsimp only; omega)))))).mono ?_)
  rintro _ _ ⟨rfl, y1, rfl⟩
  go_wp2_with fail
  refine (HM.out _ (by (repeat' (first | (with_reducible exact Below.refl _ _) | (with_reducible exact Nat.le_refl _) | (with_reducible refine Below.bel ?_ ?_) | (with_reducible refine Below.alloc ?_ ?_ _) | (with_reducible refine Below.drew ?_) | (with_reducible refine Below.drawsN ?_ _) | (with_reducible refine Below.setCell ?_ ?_ _) | (with_reducible refine le_bel ?_) | (with_reducible refine le_alloc ?_) | (with_reducible refine le_setCell ?_) | (with_reducible refine le_drew ?_) | (with_reducible refine le_drawsN ?_) | (dsimp only; with_reducible refine le_bel ?_) | (dsimp only; with_reducible refine Nat.le_refl _) | (dsimp only; with_reducible refine le_bel_add ?_) | (with_reducible assumption) | omega | (dsimp only; omega))))).mono ?_
  rintro _ _ ⟨_, rfl, y2, rfl, ad2, cap2, rfl, hi2⟩
  have HI2 := Lib.hid hi2
  have hs2 := y2.size_le
  have hb2 := World.alloc_heap_new y2.w (.cells #[.int .i64 t.k, .int .i64 t.a, .slice ad2 t.l.length cap2] 25)
  clear hi2
  dsimp only
  go_wp2_with fail
  refine (HX.out _ _ _ _ (HI2.out.of (by (repeat' (first | (with_reducible exact Below.refl _ _) | (with_reducible exact Nat.le_refl _) | (with_reducible refine Below.bel ?_ ?_) | (with_reducible refine Below.alloc ?_ ?_ _) | (with_reducible refine Below.drew ?_) | (with_reducible refine Below.drawsN ?_ _) | (with_reducible refine Below.setCell ?_ ?_ _) | (with_reducible refine le_bel ?_) | (with_reducible refine le_alloc ?_) | (with_reducible refine le_setCell ?_) | (with_reducible refine le_drew ?_) | (with_reducible refine le_drawsN ?_) | (dsimp only; with_reducible refine le_bel ?_) | (dsimp only; with_reducible refine Nat.le_refl _) | (dsimp only; with_reducible refine le_bel_add ?_) | (with_reducible assumption) | omega | (dsimp only; omega))))) (HT.out.of (by (repeat' (first | (with_reducible exact Below.refl _ _) | (with_reducible exact Nat.le_refl _) | (with_reducible refine Below.bel ?_ ?_) | (with_reducible refine Below.alloc ?_ ?_ _) | (with_reducible refine Below.drew ?_) | (with_reducible refine Below.drawsN ?_ _) | (with_reducible refine Below.setCell ?_ ?_ _) | (with_reducible refine le_bel ?_) | (with_reducible refine le_alloc ?_) | (with_reducible refine le_setCell ?_) | (with_reducible refine le_drew ?_) | (with_reducible refine le_drawsN ?_) | (dsimp only; with_reducible refine le_bel ?_) | (dsimp only; with_reducible refine Nat.le_refl _) | (dsimp only; with_reducible refine le_bel_add ?_) | (with_reducible assumption) | omega | (dsimp only; omega)))))).mono ?_
  rintro _ _ ⟨rfl, y3, rfl⟩
  have hs3 := y3.size_le
  simp at hs3
  have hb3 := obj_bel y3 hb2
  obtain ⟨b0, b1, b2⟩ := box3 hb3
  dsimp only
  go_wp2_with fail
  refine (HP.out _).mono ?_
  rintro _ _ ⟨_, rfl, y4, rfl, ad4, cap4, rfl, hi4⟩
  have HI4 := Lib.hid hi4
  have hs4 := y4.size_le
  have hb4 := obj_bel ⟨_, (by (repeat' (first | (with_reducible exact Below.refl _ _) | (with_reducible exact Nat.le_refl _) | (with_reducible refine Below.bel ?_ ?_) | (with_reducible refine Below.alloc ?_ ?_ _) | (with_reducible refine Below.drew ?_) | (with_reducible refine Below.drawsN ?_ _) | (with_reducible refine Below.setCell ?_ ?_ _) | (with_reducible refine le_bel ?_) | (with_reducible refine le_alloc ?_) | (with_reducible refine le_setCell ?_) | (with_reducible refine le_drew ?_) | (with_reducible refine le_drawsN ?_) | (dsimp only; with_reducible refine le_bel ?_) | (dsimp only; with_reducible refine Nat.le_refl _) | (dsimp only; with_reducible refine le_bel_add ?_) | (with_reducible assumption) | omega | (dsimp only; omega))) : Below y3.w.heap.size y3.w (y4.w.alloc (.cells #[.int .i64 t.k, .int .i64 t.a, .slice ad4 t.l.length cap4] 25)))⟩ hb3
  have hn4 := World.alloc_heap_new y4.w (.cells #[.int .i64 t.k, .int .i64 t.a, .slice ad4 t.l.length cap4] 25)
  obtain ⟨c0, c1, c2⟩ := box3 hb4
  clear hi4
  dsimp only
  go_wp2_with fail
  refine (HTR.out _ _ _ _ (HI2.out.of (by (repeat' (first | (with_reducible exact Below.refl _ _) | (with_reducible exact Nat.le_refl _) | (with_reducible refine Below.bel ?_ ?_) | (with_reducible refine Below.alloc ?_ ?_ _) | (with_reducible refine Below.drew ?_) | (with_reducible refine Below.drawsN ?_ _) | (with_reducible refine Below.setCell ?_ ?_ _) | (with_reducible refine le_bel ?_) | (with_reducible refine le_alloc ?_) | (with_reducible refine le_setCell ?_) | (with_reducible refine le_drew ?_) | (with_reducible refine le_drawsN ?_) | (dsimp only; with_reducible refine le_bel ?_) | (dsimp only; with_reducible refine Nat.le_refl _) | (dsimp only; with_reducible refine le_bel_add ?_) | (with_reducible assumption) | omega | (dsimp only; omega)))))).mono ?_
  rintro _ _ ⟨_, rfl, y5, rfl, ad5, cap5, rfl, hi5⟩
  have HI5 := Lib.hid hi5
  have hb5 := obj_bel y5 hb4
  have hn5 := obj_bel y5 hn4
  clear hi5
  dsimp only
  go_wp2_with fail
  refine (HRX.out _ _ _ _ (HI5.out.of (by (repeat' (first | (with_reducible exact Below.refl _ _) | (with_reducible exact Nat.le_refl _) | (with_reducible refine Below.bel ?_ ?_) | (with_reducible refine Below.alloc ?_ ?_ _) | (with_reducible refine Below.drew ?_) | (with_reducible refine Below.drawsN ?_ _) | (with_reducible refine Below.setCell ?_ ?_ _) | (with_reducible refine le_bel ?_) | (with_reducible refine le_alloc ?_) | (with_reducible refine le_setCell ?_) | (with_reducible refine le_drew ?_) | (with_reducible refine le_drawsN ?_) | (dsimp only; with_reducible refine le_bel ?_) | (dsimp only; with_reducible refine Nat.le_refl _) | (dsimp only; with_reducible refine le_bel_add ?_) | (with_reducible assumption) | omega | (dsimp only; omega)))))).mono ?_
  rintro _ _ ⟨rfl, y6, rfl⟩
  have hb6 := obj_bel y6 hb5
  have hn6 := obj_bel y6 hn5
  obtain ⟨d0, d1, d2⟩ := box3 hb6
  obtain ⟨e0, e1, e2⟩ := box3 hn6
  dsimp only
  go_wp2_with fail
  refine (HSM.out _ _ _ _ _ _ _ (HI2.out.of (by (repeat' (first | (with_reducible exact Below.refl _ _) | (with_reducible exact Nat.le_refl _) | (with_reducible refine Below.bel ?_ ?_) | (with_reducible refine Below.alloc ?_ ?_ _) | (with_reducible refine Below.drew ?_) | (with_reducible refine Below.drawsN ?_ _) | (with_reducible refine Below.setCell ?_ ?_ _) | (with_reducible refine le_bel ?_) | (with_reducible refine le_alloc ?_) | (with_reducible refine le_setCell ?_) | (with_reducible refine le_drew ?_) | (with_reducible refine le_drawsN ?_) | (dsimp only; with_reducible refine le_bel ?_) | (dsimp only; with_reducible refine Nat.le_refl _) | (dsimp only; with_reducible refine le_bel_add ?_) | (with_reducible assumption) | omega | (dsimp only; omega))))) (HI4.out.of (by (repeat' (first | (with_reducible exact Below.refl _ _) | (with_reducible exact Nat.le_refl _) | (with_reducible refine Below.bel ?_ ?_) | (with_reducible refine Below.alloc ?_ ?_ _) | (with_reducible refine Below.drew ?_) | (with_reducible refine Below.drawsN ?_ _) | (with_reducible refine Below.setCell ?_ ?_ _) | (with_reducible refine le_bel ?_) | (with_reducible refine le_alloc ?_) | (with_reducible refine le_setCell ?_) | (with_reducible refine le_drew ?_) | (with_reducible refine le_drawsN ?_) | (dsimp only; with_reducible refine le_bel ?_) | (dsimp only; with_reducible refine Nat.le_refl _) | (dsimp only; with_reducible refine le_bel_add ?_) | (with_reducible assumption) | omega | (dsimp only; omega)))))).mono ?_
  rintro _ _ ⟨rfl, y7, rfl⟩
  dsimp only
  go_wp2
  go_ret
  exact Ret.mk (by rfl) (by (repeat' (first | (with_reducible exact Below.refl _ _) | (with_reducible exact Nat.le_refl _) | (with_reducible refine Below.bel ?_ ?_) | (with_reducible refine Below.alloc ?_ ?_ _) | (with_reducible refine Below.drew ?_) | (with_reducible refine Below.drawsN ?_ _) | (with_reducible refine Below.setCell ?_ ?_ _) | (with_reducible refine le_bel ?_) | (with_reducible refine le_alloc ?_) | (with_reducible refine le_setCell ?_) | (with_reducible refine le_drew ?_) | (with_reducible refine le_drawsN ?_) | (dsimp only; with_reducible refine le_bel ?_) | (dsimp only; with_reducible refine Nat.le_refl _) | (dsimp only; with_reducible refine le_bel_add ?_) | (with_reducible assumption) | omega | (dsimp only; omega))))
end Go.Proofs.YtkbellmhanpocaaDoor
