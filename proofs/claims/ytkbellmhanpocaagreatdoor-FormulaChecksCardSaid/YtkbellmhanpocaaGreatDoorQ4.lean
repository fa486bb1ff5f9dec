/- Substitute, Restrict. -/
import Derived.Test.YtkbellmhanpocaaGreatDoorQ3
namespace Go.Proofs.YtkbellmhanpocaaGreatDoor
set_option linter.unusedVariables false
set_option linter.unusedSimpArgs false
open Go.RowKit F
attribute [local go_sem low] Bel.cell Bel.frozen alloc_cell alloc_frozen
attribute [local go_sem] calmOp chainOp yieldsC grows

theorem insF_two {P : Nat → Prop} {w : World} {u v : F} {ad ad' : Option Addr} {cap cap' g0 : Nat} {E : TypeId} (hsrc : w.heap[g0]? = some (.cells #[.int .i64 u.k, .int .i64 u.a, .slice ad u.l.length cap, .int .i64 v.k, .int .i64 v.a, .slice ad' v.l.length cap'] E (0, 0))) (hp : P g0) (hi : InsF P w ad u.l) (hi' : InsF P w ad' v.l) : InsF P w (some ⟨g0, 0, none⟩) [u, v] := by
  refine insF_mk hp fun j t hj => ?_
  match j, hj with
  | 0, hj =>
    simp at hj
    subst hj
    refine cellF_mk (ad := ad) (cap := cap) ?_ ?_ ?_ hi <;> simp [World.cell?, hsrc]
  | 1, hj =>
    simp at hj
    subst hj
    refine cellF_mk (ad := ad') (cap := cap') ?_ ?_ ?_ hi' <;> simp [World.cell?, hsrc]
  | j + 2, hj => simp at hj
set_option maxRecDepth 100000 in
set_option maxHeartbeats 12800000 in
theorem Substitute_ok (x : Int) (hx : 0 ≤ x ∧ x < 4096) (P Pb : Nat → Prop) (t b : F) (ad adb : Option Addr) (cap capb : Nat) (w : World) (hi : InsF P w ad t.l) (hib : InsF Pb w adb b.l) (hok : okT t) (hokb : okT b) (hn : nodes t ≤ 10000) (hl : levels t ≤ 100) (hnb : nodes b ≤ 10000) (hlb : levels b ≤ 100)
    (hpn : nodes (put x b t) ≤ 10000) (hpl : levels (put x b t) ≤ 100) :
    Calls Tryz.prog 7 #[.agg #[.int .i64 t.k, .int .i64 t.a, .slice ad t.l.length cap], .int .i64 x, .agg #[.int .i64 b.k, .int .i64 b.a, .slice adb b.l.length capb]] w (RetFE (put x b t) w) := by
  have hc0 : checkF t = 0 := checkF_ok.2 ⟨decide_eq_true (by omega), hok⟩
  have hc1 : checkF b = 0 := checkF_ok.2 ⟨decide_eq_true (by omega), hokb⟩
  have hlt : InsF (fun c => c < w.heap.size) w ad t.l := hi.imp fun b hb _ => hb
  have hltb : InsF (fun c => c < w.heap.size) w adb b.l := hib.imp fun b hb _ => hb
  have HI := Lib.hid hlt
  have HIB := Lib.hid hltb
  have HC := Lib.hid (fun P' ad' cap' w' (h : InsF P' w' ad' [t, b]) => checks_any [t, b] P' ad' cap' w' h (by rw [nodesL, nodesL, nodesL]; omega))
  have hch : chkL [t, b] = 0 := by rw [chkL, chkL, chkL, hc0, hc1]; rfl
  rw [hch] at HC
  have hm := meas_ok b 1 0 0 (by omega) (by omega)
  have HM := Lib.hid (fun B w' (hi : InsF (fun c => c < B) w' adb b.l) (hs : SizeAt w' B (0 : Nat) (0 : Nat)) => measure_any (nodes b) b (Nat.le_refl _) adb capb 1 0 0 B 1 w' rfl hi hs (by omega) (by omega) (by omega) (by omega))
  rw [hm, show (0 : Nat) + nodes b = nodes b by omega, show max 0 (1 + levels b - 1) = levels b by omega] at HM
  have HG := Lib.hid (fun (P' : Nat → Prop) w' (h : InsF P' w' ad t.l) => grown_any x b (by omega) (by omega) (nodes t) t (Nat.le_refl _) P' ad cap w' h (by omega) (by omega) (by omega))
  have HR := Lib.hid (fun (P' Pb' : Nat → Prop) w' (h : InsF P' w' ad t.l) (hb : InsF Pb' w' adb b.l) => replace_any x b (by omega) (nodes t) t (Nat.le_refl _) P' Pb' ad adb cap capb w' h hb (by omega))
  obtain ⟨R, hR⟩ : ∃ R, put x b t = R := ⟨_, rfl⟩
  obtain ⟨NR, hNR⟩ : ∃ NR, nodes R = NR := ⟨_, rfl⟩
  obtain ⟨LR, hLR⟩ : ∃ LR, levels R = LR := ⟨_, rfl⟩
  obtain ⟨NB, hNB⟩ : ∃ NB, nodes b = NB := ⟨_, rfl⟩
  obtain ⟨LB, hLB⟩ : ∃ LB, levels b = LB := ⟨_, rfl⟩
  rw [hR, hNR, hLR, hNB, hLB] at HG
  rw [hNB, hLB] at HM
  rw [hR] at HR hpn hpl ⊢
  rw [hNR] at hpn
  rw [hLR] at hpl
  have f0 : decide (x < 0) = false := decide_eq_false (by omega)
  have f1 : decide (4096 ≤ x) = false := decide_eq_false (by omega)
  have f2 : decide ((10000 : Int) < (NR : Int)) = false := decide_eq_false (by omega)
  have f3 : decide ((100 : Int) < (LR : Int)) = false := decide_eq_false (by omega)
  clear hi hib hlt hltb hc0 hc1 hok hokb hch hm hR hNR hLR hNB hLB hn hl hnb hlb hpn hpl hx
  go_enter Tryz.func7, Tryz.ntmps7
  go_wp2_with fail
  have hrow := World.alloc_heap_new (((w.alloc (.cells #[.int .i64 t.k, .int .i64 t.a, .slice ad t.l.length cap] 26)).alloc (.cells #[.int .i64 b.k, .int .i64 b.a, .slice adb b.l.length capb] 26)).alloc (.cells #[.int .i64 0, .int .i64 0, .slice none 0 0] 26)) (.cells #[.int .i64 t.k, .int .i64 t.a, .slice ad t.l.length cap, .int .i64 b.k, .int .i64 b.a, .slice adb b.l.length capb] 26)
  rw [show (((w.alloc (.cells #[.int .i64 t.k, .int .i64 t.a, .slice ad t.l.length cap] 26)).alloc (.cells #[.int .i64 b.k, .int .i64 b.a, .slice adb b.l.length capb] 26)).alloc (.cells #[.int .i64 0, .int .i64 0, .slice none 0 0] 26)).heap.size = w.heap.size + 1 + 1 + 1 by simp] at hrow
  refine (HC.out (fun c => True) _ _ _ (insF_two (E := 26) (ad := ad) (cap := cap) (ad' := adb) (cap' := capb) hrow trivial ((HI.out.of (by (repeat' (first | (with_reducible exact Below.refl _ _) | (with_reducible exact Nat.le_refl _) | (with_reducible refine Below.bel ?_ ?_) | (with_reducible refine Below.alloc ?_ ?_ _) | (with_reducible refine Below.drew ?_) | (with_reducible refine Below.drawsN ?_ _) | (with_reducible refine Below.setCell ?_ ?_ _) | (with_reducible refine le_bel ?_) | (with_reducible refine le_alloc ?_) | (with_reducible refine le_setCell ?_) | (with_reducible refine le_drew ?_) | (with_reducible refine le_drawsN ?_) | (dsimp only; with_reducible refine le_bel ?_) | (dsimp only; with_reducible refine Nat.le_refl _) | (dsimp only; with_reducible refine le_bel_add ?_) | (with_reducible assumption) | omega | (dsimp only; omega))))).imp fun _ _ _ => trivial) ((HIB.out.of (by (repeat' (first | (with_reducible exact Below.refl _ _) | (with_reducible exact Nat.le_refl _) | (with_reducible refine Below.bel ?_ ?_) | (with_reducible refine Below.alloc ?_ ?_ _) | (with_reducible refine Below.drew ?_) | (with_reducible refine Below.drawsN ?_ _) | (with_reducible refine Below.setCell ?_ ?_ _) | (with_reducible refine le_bel ?_) | (with_reducible refine le_alloc ?_) | (with_reducible refine le_setCell ?_) | (with_reducible refine le_drew ?_) | (with_reducible refine le_drawsN ?_) | (dsimp only; with_reducible refine le_bel ?_) | (dsimp only; with_reducible refine Nat.le_refl _) | (dsimp only; with_reducible refine le_bel_add ?_) | (with_reducible assumption) | omega | (dsimp only; omega))))).imp fun _ _ _ => trivial))).mono ?_
  rintro _ _ ⟨rfl, y1, rfl⟩
  have hs1 := y1.size_le
  simp at hs1
  have hb1 : Below w.heap.size w y1.w := by (repeat' (first | (with_reducible exact Below.refl _ _) | (with_reducible exact Nat.le_refl _) | (with_reducible refine Below.bel ?_ ?_) | (with_reducible refine Below.alloc ?_ ?_ _) | (with_reducible refine Below.drew ?_) | (with_reducible refine Below.drawsN ?_ _) | (with_reducible refine Below.setCell ?_ ?_ _) | (with_reducible refine le_bel ?_) | (with_reducible refine le_alloc ?_) | (with_reducible refine le_setCell ?_) | (with_reducible refine le_drew ?_) | (with_reducible refine le_drawsN ?_) | (dsimp only; with_reducible refine le_bel ?_) | (dsimp only; with_reducible refine Nat.le_refl _) | (dsimp only; with_reducible refine le_bel_add ?_) | (with_reducible assumption) | omega | (dsimp only; omega)))
  have hO0 := obj_bel ⟨y1.w, (by (repeat' (first | (with_reducible exact Below.refl _ _) | (with_reducible exact Nat.le_refl _) | (with_reducible refine Below.bel ?_ ?_) | (with_reducible refine Below.alloc ?_ ?_ _) | (with_reducible refine Below.drew ?_) | (with_reducible refine Below.drawsN ?_ _) | (with_reducible refine Below.setCell ?_ ?_ _) | (with_reducible refine le_bel ?_) | (with_reducible refine le_alloc ?_) | (with_reducible refine le_setCell ?_) | (with_reducible refine le_drew ?_) | (with_reducible refine le_drawsN ?_) | (dsimp only; with_reducible refine le_bel ?_) | (dsimp only; with_reducible refine Nat.le_refl _) | (dsimp only; with_reducible refine le_bel_add ?_) | (with_reducible assumption) | omega | (dsimp only; omega))) : Below (((w.alloc (.cells #[.int .i64 t.k, .int .i64 t.a, .slice ad t.l.length cap] 26)).alloc (.cells #[.int .i64 b.k, .int .i64 b.a, .slice adb b.l.length capb] 26)).alloc (.cells #[.int .i64 0, .int .i64 0, .slice none 0 0] 26)).heap.size (((w.alloc (.cells #[.int .i64 t.k, .int .i64 t.a, .slice ad t.l.length cap] 26)).alloc (.cells #[.int .i64 b.k, .int .i64 b.a, .slice adb b.l.length capb] 26)).alloc (.cells #[.int .i64 0, .int .i64 0, .slice none 0 0] 26)) y1.w)⟩ (heap3_0 w (.cells #[.int .i64 t.k, .int .i64 t.a, .slice ad t.l.length cap] 26) (.cells #[.int .i64 b.k, .int .i64 b.a, .slice adb b.l.length capb] 26) (.cells #[.int .i64 0, .int .i64 0, .slice none 0 0] 26))
  have hO1 := obj_bel ⟨y1.w, (by (repeat' (first | (with_reducible exact Below.refl _ _) | (with_reducible exact Nat.le_refl _) | (with_reducible refine Below.bel ?_ ?_) | (with_reducible refine Below.alloc ?_ ?_ _) | (with_reducible refine Below.drew ?_) | (with_reducible refine Below.drawsN ?_ _) | (with_reducible refine Below.setCell ?_ ?_ _) | (with_reducible refine le_bel ?_) | (with_reducible refine le_alloc ?_) | (with_reducible refine le_setCell ?_) | (with_reducible refine le_drew ?_) | (with_reducible refine le_drawsN ?_) | (dsimp only; with_reducible refine le_bel ?_) | (dsimp only; with_reducible refine Nat.le_refl _) | (dsimp only; with_reducible refine le_bel_add ?_) | (with_reducible assumption) | omega | (dsimp only; omega))) : Below (((w.alloc (.cells #[.int .i64 t.k, .int .i64 t.a, .slice ad t.l.length cap] 26)).alloc (.cells #[.int .i64 b.k, .int .i64 b.a, .slice adb b.l.length capb] 26)).alloc (.cells #[.int .i64 0, .int .i64 0, .slice none 0 0] 26)).heap.size (((w.alloc (.cells #[.int .i64 t.k, .int .i64 t.a, .slice ad t.l.length cap] 26)).alloc (.cells #[.int .i64 b.k, .int .i64 b.a, .slice adb b.l.length capb] 26)).alloc (.cells #[.int .i64 0, .int .i64 0, .slice none 0 0] 26)) y1.w)⟩ (heap3_1 w (.cells #[.int .i64 t.k, .int .i64 t.a, .slice ad t.l.length cap] 26) (.cells #[.int .i64 b.k, .int .i64 b.a, .slice adb b.l.length capb] 26) (.cells #[.int .i64 0, .int .i64 0, .slice none 0 0] 26))
  have hO2 := obj_bel ⟨y1.w, (by (repeat' (first | (with_reducible exact Below.refl _ _) | (with_reducible exact Nat.le_refl _) | (with_reducible refine Below.bel ?_ ?_) | (with_reducible refine Below.alloc ?_ ?_ _) | (with_reducible refine Below.drew ?_) | (with_reducible refine Below.drawsN ?_ _) | (with_reducible refine Below.setCell ?_ ?_ _) | (with_reducible refine le_bel ?_) | (with_reducible refine le_alloc ?_) | (with_reducible refine le_setCell ?_) | (with_reducible refine le_drew ?_) | (with_reducible refine le_drawsN ?_) | (dsimp only; with_reducible refine le_bel ?_) | (dsimp only; with_reducible refine Nat.le_refl _) | (dsimp only; with_reducible refine le_bel_add ?_) | (with_reducible assumption) | omega | (dsimp only; omega))) : Below (((w.alloc (.cells #[.int .i64 t.k, .int .i64 t.a, .slice ad t.l.length cap] 26)).alloc (.cells #[.int .i64 b.k, .int .i64 b.a, .slice adb b.l.length capb] 26)).alloc (.cells #[.int .i64 0, .int .i64 0, .slice none 0 0] 26)).heap.size (((w.alloc (.cells #[.int .i64 t.k, .int .i64 t.a, .slice ad t.l.length cap] 26)).alloc (.cells #[.int .i64 b.k, .int .i64 b.a, .slice adb b.l.length capb] 26)).alloc (.cells #[.int .i64 0, .int .i64 0, .slice none 0 0] 26)) y1.w)⟩ (heap3_2 w (.cells #[.int .i64 t.k, .int .i64 t.a, .slice ad t.l.length cap] 26) (.cells #[.int .i64 b.k, .int .i64 b.a, .slice adb b.l.length capb] 26) (.cells #[.int .i64 0, .int .i64 0, .slice none 0 0] 26))
  obtain ⟨W1, hW1⟩ : ∃ W1, y1.w = W1 := ⟨_, rfl⟩
  rw [hW1] at hs1 hb1 hO0 hO1 hO2 ⊢
  clear hW1 y1
  obtain ⟨b0, b1, b2⟩ := box3 hO1
  have HB1 := Lib.hid hb1
  have hI1 := Lib.hid (HI.out.of hb1)
  have hIB1 := Lib.hid (HIB.out.of hb1)
  dsimp only
  go_wp2_with fail
  refine (HM.out W1.heap.size _ ((hIB1.out.of (by (repeat' (first | (with_reducible exact Below.refl _ _) | (with_reducible exact Nat.le_refl _) | (with_reducible refine Below.bel ?_ ?_) | (with_reducible refine Below.alloc ?_ ?_ _) | (with_reducible refine Below.drew ?_) | (with_reducible refine Below.drawsN ?_ _) | (with_reducible refine Below.setCell ?_ ?_ _) | (with_reducible refine le_bel ?_) | (with_reducible refine le_alloc ?_) | (with_reducible refine le_setCell ?_) | (with_reducible refine le_drew ?_) | (with_reducible refine le_drawsN ?_) | (dsimp only; with_reducible refine le_bel ?_) | (dsimp only; with_reducible refine Nat.le_refl _) | (dsimp only; with_reducible refine le_bel_add ?_) | (with_reducible assumption) | omega | (dsimp only; omega))))).imp fun c _ h => by omega) ⟨by simp [go_sem], by simp [go_sem], by simp [go_sem], by simp [go_sem]⟩).mono ?_
  rintro _ w2 ⟨rfl, hs2, hb2, hz2⟩
  simp at hz2
  dsimp only at hs2
  obtain ⟨c0, c1, c2, c3⟩ := hs2
  have hb2' : Below W1.heap.size W1 w2 := Below.trans ((Below.refl _ _).alloc (Nat.le_refl _) _) hb2
  have hO02 := obj_below hb2' (by omega) hO0
  have hO12 := obj_below hb2' (by omega) hO1
  have hO22 := obj_below hb2' (by omega) hO2
  obtain ⟨a0, a1, a2⟩ := box3 hO02
  have HB2 := Lib.hid (hb1.trans (hb2'.mono hb1.size))
  clear hb2 hb2' hb1 hO0 hO1 hO2 b0 b1 b2
  dsimp only
  go_wp2_with fail
  refine (HG.out _ _ (HI.out.of HB2.out)).mono ?_
  rintro _ _ ⟨rfl, y3, rfl⟩
  have hs3 := y3.size_le
  have hb3 : Below w2.heap.size w2 (y3.w.alloc (.cells #[.int .i64 (NR : Int), .int .i64 (LR : Int)] 60)) := by (repeat' (first | (with_reducible exact Below.refl _ _) | (with_reducible exact Nat.le_refl _) | (with_reducible refine Below.bel ?_ ?_) | (with_reducible refine Below.alloc ?_ ?_ _) | (with_reducible refine Below.drew ?_) | (with_reducible refine Below.drawsN ?_ _) | (with_reducible refine Below.setCell ?_ ?_ _) | (with_reducible refine le_bel ?_) | (with_reducible refine le_alloc ?_) | (with_reducible refine le_setCell ?_) | (with_reducible refine le_drew ?_) | (with_reducible refine le_drawsN ?_) | (dsimp only; with_reducible refine le_bel ?_) | (dsimp only; with_reducible refine Nat.le_refl _) | (dsimp only; with_reducible refine le_bel_add ?_) | (with_reducible assumption) | omega | (dsimp only; omega)))
  have hO03 := obj_below hb3 (by omega) hO02
  have hO13 := obj_below hb3 (by omega) hO12
  have hO23 := obj_below hb3 (by omega) hO22
  have hyo := World.alloc_heap_new y3.w (.cells #[.int .i64 (NR : Int), .int .i64 (LR : Int)] 60)
  obtain ⟨t0, t1⟩ := bx2 hyo
  obtain ⟨d0, d1, d2⟩ := box3 hO03
  obtain ⟨e0, e1, e2⟩ := box3 hO13
  have HB3 := Lib.hid (HB2.out.trans (hb3.mono HB2.out.size))
  clear hO02 hO12 hO22 a0 a1 a2 c0 c1 c2 c3 hb3 hyo
  dsimp only
  go_wp2_with fail
  refine (HR.out _ _ _ (HI.out.of HB3.out) (HIB.out.of HB3.out)).mono ?_
  rintro _ _ ⟨_, rfl, y4, rfl, ad5, cap5, rfl, hi5⟩
  have HI5 := Lib.hid hi5
  have hs4 := y4.size_le
  simp at hs4
  have hres := obj_bel y4 hO23
  obtain ⟨r0, r1, r2⟩ := box3 hres
  obtain ⟨g0, g1, g2⟩ := box3f hres
  have HB4 := Lib.hid (HB3.out.trans (y4.below.mono HB3.out.size))
  clear hi5 hO03 hO13 hO23 t0 t1 d0 d1 d2 e0 e1 e2
  dsimp only
  go_wp2
  have hRR := obj_set3 (.int .i64 R.k) (.int .i64 R.a) (.slice ad5 R.l.length cap5) hres
  obtain ⟨q0, q1, q2⟩ := box3 hRR
  have hBW := HB2.out
  refine bodyPost_ret (v := .tuple #[.agg #[.int .i64 R.k, .int .i64 R.a, .slice ad5 R.l.length cap5], .int .i64 0]) (by simp [results, Tryz.results7, go_sem, q0, q1, q2]) rfl (RetFE.mk ad5 cap5 rfl (by (repeat' (first | (with_reducible exact Below.refl _ _) | (with_reducible exact Nat.le_refl _) | (with_reducible refine Below.bel ?_ ?_) | (with_reducible refine Below.alloc ?_ ?_ _) | (with_reducible refine Below.drew ?_) | (with_reducible refine Below.drawsN ?_ _) | (with_reducible refine Below.setCell ?_ ?_ _) | (with_reducible refine le_bel ?_) | (with_reducible refine le_alloc ?_) | (with_reducible refine le_setCell ?_) | (with_reducible refine le_drew ?_) | (with_reducible refine le_drawsN ?_) | (dsimp only; with_reducible refine le_bel ?_) | (dsimp only; with_reducible refine Nat.le_refl _) | (dsimp only; with_reducible refine le_bel_add ?_) | (with_reducible assumption) | omega | (dsimp only; omega)))) ?_)
  refine (HI5.out.move (fun c o u hc hu => ?_) (fun b _ h => h)).imp (fun b _ h => by simp at h; omega)
  have hne : c ≠ w.heap.size + 2 := by simp at hc; omega
  rw [World.cell?_of_block (Below.heap_setCell _ _ _ c hne), World.cell?_of_block (Below.heap_setCell _ _ _ c hne), World.cell?_of_block (Below.heap_setCell _ _ _ c hne)]
  exact hu
/-- The zero formula, with an error. -/
def zeroE (q : Int) : Value := .tuple #[.agg #[.int .i64 0, .int .i64 0, .slice none 0 0], .int .i64 q]
set_option maxRecDepth 100000 in
set_option maxHeartbeats 12800000 in
theorem Substitute_err (x q : Int) (P Pb : Nat → Prop) (t b : F) (ad adb : Option Addr) (cap capb : Nat) (w : World) (hi : InsF P w ad t.l) (hib : InsF Pb w adb b.l) (hn : nodes t ≤ 400000000000) (hnb : nodes b ≤ 400000000000)
    (hq : (if chkL [t, b] = 0 then 3 else chkL [t, b]) = q) (hx : chkL [t, b] = 0 → x < 0 ∨ 4096 ≤ x) :
    Calls Tryz.prog 7 #[.agg #[.int .i64 t.k, .int .i64 t.a, .slice ad t.l.length cap], .int .i64 x, .agg #[.int .i64 b.k, .int .i64 b.a, .slice adb b.l.length capb]] w (Ret (zeroE q) w) := by
  have hlt : InsF (fun c => c < w.heap.size) w ad t.l := hi.imp fun b hb _ => hb
  have hltb : InsF (fun c => c < w.heap.size) w adb b.l := hib.imp fun b hb _ => hb
  have HI := Lib.hid hlt
  have HIB := Lib.hid hltb
  have HC := Lib.hid (fun P' ad' cap' w' (h : InsF P' w' ad' [t, b]) => checks_any [t, b] P' ad' cap' w' h (by rw [nodesL, nodesL, nodesL]; omega))
  obtain ⟨c, hc⟩ : ∃ c, chkL [t, b] = c := ⟨_, rfl⟩
  rw [hc] at HC hq hx
  clear hi hib hlt hltb hn hnb hc
  by_cases h0 : c = 0
  · subst h0
    rw [if_pos rfl] at hq
    subst hq
    have hx' := hx rfl
    clear hx
    rcases Int.lt_or_le x 0 with h | h
    · have f0 : decide (x < 0) = true := decide_eq_true h
      clear hx' h
      go_enter Tryz.func7, Tryz.ntmps7
      go_wp2_with fail
      have hrow := World.alloc_heap_new (((w.alloc (.cells #[.int .i64 t.k, .int .i64 t.a, .slice ad t.l.length cap] 26)).alloc (.cells #[.int .i64 b.k, .int .i64 b.a, .slice adb b.l.length capb] 26)).alloc (.cells #[.int .i64 0, .int .i64 0, .slice none 0 0] 26)) (.cells #[.int .i64 t.k, .int .i64 t.a, .slice ad t.l.length cap, .int .i64 b.k, .int .i64 b.a, .slice adb b.l.length capb] 26)
      rw [show (((w.alloc (.cells #[.int .i64 t.k, .int .i64 t.a, .slice ad t.l.length cap] 26)).alloc (.cells #[.int .i64 b.k, .int .i64 b.a, .slice adb b.l.length capb] 26)).alloc (.cells #[.int .i64 0, .int .i64 0, .slice none 0 0] 26)).heap.size = w.heap.size + 1 + 1 + 1 by simp] at hrow
      refine (HC.out (fun c => True) _ _ _ (insF_two (E := 26) (ad := ad) (cap := cap) (ad' := adb) (cap' := capb) hrow trivial ((HI.out.of (by (repeat' (first | (with_reducible exact Below.refl _ _) | (with_reducible exact Nat.le_refl _) | (with_reducible refine Below.bel ?_ ?_) | (with_reducible refine Below.alloc ?_ ?_ _) | (with_reducible refine Below.drew ?_) | (with_reducible refine Below.drawsN ?_ _) | (with_reducible refine Below.setCell ?_ ?_ _) | (with_reducible refine le_bel ?_) | (with_reducible refine le_alloc ?_) | (with_reducible refine le_setCell ?_) | (with_reducible refine le_drew ?_) | (with_reducible refine le_drawsN ?_) | (dsimp only; with_reducible refine le_bel ?_) | (dsimp only; with_reducible refine Nat.le_refl _) | (dsimp only; with_reducible refine le_bel_add ?_) | (with_reducible assumption) | omega | (dsimp only; omega))))).imp fun _ _ _ => trivial) ((HIB.out.of (by (repeat' (first | (with_reducible exact Below.refl _ _) | (with_reducible exact Nat.le_refl _) | (with_reducible refine Below.bel ?_ ?_) | (with_reducible refine Below.alloc ?_ ?_ _) | (with_reducible refine Below.drew ?_) | (with_reducible refine Below.drawsN ?_ _) | (with_reducible refine Below.setCell ?_ ?_ _) | (with_reducible refine le_bel ?_) | (with_reducible refine le_alloc ?_) | (with_reducible refine le_setCell ?_) | (with_reducible refine le_drew ?_) | (with_reducible refine le_drawsN ?_) | (dsimp only; with_reducible refine le_bel ?_) | (dsimp only; with_reducible refine Nat.le_refl _) | (dsimp only; with_reducible refine le_bel_add ?_) | (with_reducible assumption) | omega | (dsimp only; omega))))).imp fun _ _ _ => trivial))).mono ?_
      rintro _ _ ⟨rfl, y1, rfl⟩
      have hs1 := y1.size_le
      simp at hs1
      have hb1 : Below w.heap.size w y1.w := by (repeat' (first | (with_reducible exact Below.refl _ _) | (with_reducible exact Nat.le_refl _) | (with_reducible refine Below.bel ?_ ?_) | (with_reducible refine Below.alloc ?_ ?_ _) | (with_reducible refine Below.drew ?_) | (with_reducible refine Below.drawsN ?_ _) | (with_reducible refine Below.setCell ?_ ?_ _) | (with_reducible refine le_bel ?_) | (with_reducible refine le_alloc ?_) | (with_reducible refine le_setCell ?_) | (with_reducible refine le_drew ?_) | (with_reducible refine le_drawsN ?_) | (dsimp only; with_reducible refine le_bel ?_) | (dsimp only; with_reducible refine Nat.le_refl _) | (dsimp only; with_reducible refine le_bel_add ?_) | (with_reducible assumption) | omega | (dsimp only; omega)))
      have hO2 := obj_bel ⟨y1.w, (by (repeat' (first | (with_reducible exact Below.refl _ _) | (with_reducible exact Nat.le_refl _) | (with_reducible refine Below.bel ?_ ?_) | (with_reducible refine Below.alloc ?_ ?_ _) | (with_reducible refine Below.drew ?_) | (with_reducible refine Below.drawsN ?_ _) | (with_reducible refine Below.setCell ?_ ?_ _) | (with_reducible refine le_bel ?_) | (with_reducible refine le_alloc ?_) | (with_reducible refine le_setCell ?_) | (with_reducible refine le_drew ?_) | (with_reducible refine le_drawsN ?_) | (dsimp only; with_reducible refine le_bel ?_) | (dsimp only; with_reducible refine Nat.le_refl _) | (dsimp only; with_reducible refine le_bel_add ?_) | (with_reducible assumption) | omega | (dsimp only; omega))) : Below (((w.alloc (.cells #[.int .i64 t.k, .int .i64 t.a, .slice ad t.l.length cap] 26)).alloc (.cells #[.int .i64 b.k, .int .i64 b.a, .slice adb b.l.length capb] 26)).alloc (.cells #[.int .i64 0, .int .i64 0, .slice none 0 0] 26)).heap.size (((w.alloc (.cells #[.int .i64 t.k, .int .i64 t.a, .slice ad t.l.length cap] 26)).alloc (.cells #[.int .i64 b.k, .int .i64 b.a, .slice adb b.l.length capb] 26)).alloc (.cells #[.int .i64 0, .int .i64 0, .slice none 0 0] 26)) y1.w)⟩ (heap3_2 w (.cells #[.int .i64 t.k, .int .i64 t.a, .slice ad t.l.length cap] 26) (.cells #[.int .i64 b.k, .int .i64 b.a, .slice adb b.l.length capb] 26) (.cells #[.int .i64 0, .int .i64 0, .slice none 0 0] 26))
      obtain ⟨r0, r1, r2⟩ := box3 hO2
      obtain ⟨g0, g1, g2⟩ := box3f hO2
      dsimp only
      go_wp2
      have hRR := obj_set3 (.int .i64 0) (.int .i64 0) (.slice none 0 0) hO2
      obtain ⟨q0, q1, q2⟩ := box3 hRR
      refine bodyPost_ret (v := .tuple #[.agg #[.int .i64 0, .int .i64 0, .slice none 0 0], .int .i64 3]) (by simp [results, Tryz.results7, go_sem, q0, q1, q2]) rfl (Ret.mk (by rfl) (by (repeat' (first | (with_reducible exact Below.refl _ _) | (with_reducible exact Nat.le_refl _) | (with_reducible refine Below.bel ?_ ?_) | (with_reducible refine Below.alloc ?_ ?_ _) | (with_reducible refine Below.drew ?_) | (with_reducible refine Below.drawsN ?_ _) | (with_reducible refine Below.setCell ?_ ?_ _) | (with_reducible refine le_bel ?_) | (with_reducible refine le_alloc ?_) | (with_reducible refine le_setCell ?_) | (with_reducible refine le_drew ?_) | (with_reducible refine le_drawsN ?_) | (dsimp only; with_reducible refine le_bel ?_) | (dsimp only; with_reducible refine Nat.le_refl _) | (dsimp only; with_reducible refine le_bel_add ?_) | (with_reducible assumption) | omega | (dsimp only; omega)))))
    · have f0 : decide (x < 0) = false := decide_eq_false (by omega)
      have f1 : decide (4096 ≤ x) = true := decide_eq_true (by omega)
      clear hx' h
      go_enter Tryz.func7, Tryz.ntmps7
      go_wp2_with fail
      have hrow := World.alloc_heap_new (((w.alloc (.cells #[.int .i64 t.k, .int .i64 t.a, .slice ad t.l.length cap] 26)).alloc (.cells #[.int .i64 b.k, .int .i64 b.a, .slice adb b.l.length capb] 26)).alloc (.cells #[.int .i64 0, .int .i64 0, .slice none 0 0] 26)) (.cells #[.int .i64 t.k, .int .i64 t.a, .slice ad t.l.length cap, .int .i64 b.k, .int .i64 b.a, .slice adb b.l.length capb] 26)
      rw [show (((w.alloc (.cells #[.int .i64 t.k, .int .i64 t.a, .slice ad t.l.length cap] 26)).alloc (.cells #[.int .i64 b.k, .int .i64 b.a, .slice adb b.l.length capb] 26)).alloc (.cells #[.int .i64 0, .int .i64 0, .slice none 0 0] 26)).heap.size = w.heap.size + 1 + 1 + 1 by simp] at hrow
      refine (HC.out (fun c => True) _ _ _ (insF_two (E := 26) (ad := ad) (cap := cap) (ad' := adb) (cap' := capb) hrow trivial ((HI.out.of (by (repeat' (first | (with_reducible exact Below.refl _ _) | (with_reducible exact Nat.le_refl _) | (with_reducible refine Below.bel ?_ ?_) | (with_reducible refine Below.alloc ?_ ?_ _) | (with_reducible refine Below.drew ?_) | (with_reducible refine Below.drawsN ?_ _) | (with_reducible refine Below.setCell ?_ ?_ _) | (with_reducible refine le_bel ?_) | (with_reducible refine le_alloc ?_) | (with_reducible refine le_setCell ?_) | (with_reducible refine le_drew ?_) | (with_reducible refine le_drawsN ?_) | (dsimp only; with_reducible refine le_bel ?_) | (dsimp only; with_reducible refine Nat.le_refl _) | (dsimp only; with_reducible refine le_bel_add ?_) | (with_reducible assumption) | omega | (dsimp only; omega))))).imp fun _ _ _ => trivial) ((HIB.out.of (by (repeat' (first | (with_reducible exact Below.refl _ _) | (with_reducible exact Nat.le_refl _) | (with_reducible refine Below.bel ?_ ?_) | (with_reducible refine Below.alloc ?_ ?_ _) | (with_reducible refine Below.drew ?_) | (with_reducible refine Below.drawsN ?_ _) | (with_reducible refine Below.setCell ?_ ?_ _) | (with_reducible refine le_bel ?_) | (with_reducible refine le_alloc ?_) | (with_reducible refine le_setCell ?_) | (with_reducible refine le_drew ?_) | (with_reducible refine le_drawsN ?_) | (dsimp only; with_reducible refine le_bel ?_) | (dsimp only; with_reducible refine Nat.le_refl _) | (dsimp only; with_reducible refine le_bel_add ?_) | (with_reducible assumption) | omega | (dsimp only; omega))))).imp fun _ _ _ => trivial))).mono ?_
      rintro _ _ ⟨rfl, y1, rfl⟩
      have hs1 := y1.size_le
      simp at hs1
      have hb1 : Below w.heap.size w y1.w := by (repeat' (first | (with_reducible exact Below.refl _ _) | (with_reducible exact Nat.le_refl _) | (with_reducible refine Below.bel ?_ ?_) | (with_reducible refine Below.alloc ?_ ?_ _) | (with_reducible refine Below.drew ?_) | (with_reducible refine Below.drawsN ?_ _) | (with_reducible refine Below.setCell ?_ ?_ _) | (with_reducible refine le_bel ?_) | (with_reducible refine le_alloc ?_) | (with_reducible refine le_setCell ?_) | (with_reducible refine le_drew ?_) | (with_reducible refine le_drawsN ?_) | (dsimp only; with_reducible refine le_bel ?_) | (dsimp only; with_reducible refine Nat.le_refl _) | (dsimp only; with_reducible refine le_bel_add ?_) | (with_reducible assumption) | omega | (dsimp only; omega)))
      have hO2 := obj_bel ⟨y1.w, (by (repeat' (first | (with_reducible exact Below.refl _ _) | (with_reducible exact Nat.le_refl _) | (with_reducible refine Below.bel ?_ ?_) | (with_reducible refine Below.alloc ?_ ?_ _) | (with_reducible refine Below.drew ?_) | (with_reducible refine Below.drawsN ?_ _) | (with_reducible refine Below.setCell ?_ ?_ _) | (with_reducible refine le_bel ?_) | (with_reducible refine le_alloc ?_) | (with_reducible refine le_setCell ?_) | (with_reducible refine le_drew ?_) | (with_reducible refine le_drawsN ?_) | (dsimp only; with_reducible refine le_bel ?_) | (dsimp only; with_reducible refine Nat.le_refl _) | (dsimp only; with_reducible refine le_bel_add ?_) | (with_reducible assumption) | omega | (dsimp only; omega))) : Below (((w.alloc (.cells #[.int .i64 t.k, .int .i64 t.a, .slice ad t.l.length cap] 26)).alloc (.cells #[.int .i64 b.k, .int .i64 b.a, .slice adb b.l.length capb] 26)).alloc (.cells #[.int .i64 0, .int .i64 0, .slice none 0 0] 26)).heap.size (((w.alloc (.cells #[.int .i64 t.k, .int .i64 t.a, .slice ad t.l.length cap] 26)).alloc (.cells #[.int .i64 b.k, .int .i64 b.a, .slice adb b.l.length capb] 26)).alloc (.cells #[.int .i64 0, .int .i64 0, .slice none 0 0] 26)) y1.w)⟩ (heap3_2 w (.cells #[.int .i64 t.k, .int .i64 t.a, .slice ad t.l.length cap] 26) (.cells #[.int .i64 b.k, .int .i64 b.a, .slice adb b.l.length capb] 26) (.cells #[.int .i64 0, .int .i64 0, .slice none 0 0] 26))
      obtain ⟨r0, r1, r2⟩ := box3 hO2
      obtain ⟨g0, g1, g2⟩ := box3f hO2
      dsimp only
      go_wp2
      have hRR := obj_set3 (.int .i64 0) (.int .i64 0) (.slice none 0 0) hO2
      obtain ⟨q0, q1, q2⟩ := box3 hRR
      refine bodyPost_ret (v := .tuple #[.agg #[.int .i64 0, .int .i64 0, .slice none 0 0], .int .i64 3]) (by simp [results, Tryz.results7, go_sem, q0, q1, q2]) rfl (Ret.mk (by rfl) (by (repeat' (first | (with_reducible exact Below.refl _ _) | (with_reducible exact Nat.le_refl _) | (with_reducible refine Below.bel ?_ ?_) | (with_reducible refine Below.alloc ?_ ?_ _) | (with_reducible refine Below.drew ?_) | (with_reducible refine Below.drawsN ?_ _) | (with_reducible refine Below.setCell ?_ ?_ _) | (with_reducible refine le_bel ?_) | (with_reducible refine le_alloc ?_) | (with_reducible refine le_setCell ?_) | (with_reducible refine le_drew ?_) | (with_reducible refine le_drawsN ?_) | (dsimp only; with_reducible refine le_bel ?_) | (dsimp only; with_reducible refine Nat.le_refl _) | (dsimp only; with_reducible refine le_bel_add ?_) | (with_reducible assumption) | omega | (dsimp only; omega)))))
  · rw [if_neg h0] at hq
    subst hq
    have f0 : (c != 0) = true := bne_iff_ne.2 h0
    clear hx h0
    go_enter Tryz.func7, Tryz.ntmps7
    go_wp2_with fail
    have hrow := World.alloc_heap_new (((w.alloc (.cells #[.int .i64 t.k, .int .i64 t.a, .slice ad t.l.length cap] 26)).alloc (.cells #[.int .i64 b.k, .int .i64 b.a, .slice adb b.l.length capb] 26)).alloc (.cells #[.int .i64 0, .int .i64 0, .slice none 0 0] 26)) (.cells #[.int .i64 t.k, .int .i64 t.a, .slice ad t.l.length cap, .int .i64 b.k, .int .i64 b.a, .slice adb b.l.length capb] 26)
    rw [show (((w.alloc (.cells #[.int .i64 t.k, .int .i64 t.a, .slice ad t.l.length cap] 26)).alloc (.cells #[.int .i64 b.k, .int .i64 b.a, .slice adb b.l.length capb] 26)).alloc (.cells #[.int .i64 0, .int .i64 0, .slice none 0 0] 26)).heap.size = w.heap.size + 1 + 1 + 1 by simp] at hrow
    refine (HC.out (fun c => True) _ _ _ (insF_two (E := 26) (ad := ad) (cap := cap) (ad' := adb) (cap' := capb) hrow trivial ((HI.out.of (by (repeat' (first | (with_reducible exact Below.refl _ _) | (with_reducible exact Nat.le_refl _) | (with_reducible refine Below.bel ?_ ?_) | (with_reducible refine Below.alloc ?_ ?_ _) | (with_reducible refine Below.drew ?_) | (with_reducible refine Below.drawsN ?_ _) | (with_reducible refine Below.setCell ?_ ?_ _) | (with_reducible refine le_bel ?_) | (with_reducible refine le_alloc ?_) | (with_reducible refine le_setCell ?_) | (with_reducible refine le_drew ?_) | (with_reducible refine le_drawsN ?_) | (dsimp only; with_reducible refine le_bel ?_) | (dsimp only; with_reducible refine Nat.le_refl _) | (dsimp only; with_reducible refine le_bel_add ?_) | (with_reducible assumption) | omega | (dsimp only; omega))))).imp fun _ _ _ => trivial) ((HIB.out.of (by (repeat' (first | (with_reducible exact Below.refl _ _) | (with_reducible exact Nat.le_refl _) | (with_reducible refine Below.bel ?_ ?_) | (with_reducible refine Below.alloc ?_ ?_ _) | (with_reducible refine Below.drew ?_) | (with_reducible refine Below.drawsN ?_ _) | (with_reducible refine Below.setCell ?_ ?_ _) | (with_reducible refine le_bel ?_) | (with_reducible refine le_alloc ?_) | (with_reducible refine le_setCell ?_) | (with_reducible refine le_drew ?_) | (with_reducible refine le_drawsN ?_) | (dsimp only; with_reducible refine le_bel ?_) | (dsimp only; with_reducible refine Nat.le_refl _) | (dsimp only; with_reducible refine le_bel_add ?_) | (with_reducible assumption) | omega | (dsimp only; omega))))).imp fun _ _ _ => trivial))).mono ?_
    rintro _ _ ⟨rfl, y1, rfl⟩
    have hs1 := y1.size_le
    simp at hs1
    have hb1 : Below w.heap.size w y1.w := by (repeat' (first | (with_reducible exact Below.refl _ _) | (with_reducible exact Nat.le_refl _) | (with_reducible refine Below.bel ?_ ?_) | (with_reducible refine Below.alloc ?_ ?_ _) | (with_reducible refine Below.drew ?_) | (with_reducible refine Below.drawsN ?_ _) | (with_reducible refine Below.setCell ?_ ?_ _) | (with_reducible refine le_bel ?_) | (with_reducible refine le_alloc ?_) | (with_reducible refine le_setCell ?_) | (with_reducible refine le_drew ?_) | (with_reducible refine le_drawsN ?_) | (dsimp only; with_reducible refine le_bel ?_) | (dsimp only; with_reducible refine Nat.le_refl _) | (dsimp only; with_reducible refine le_bel_add ?_) | (with_reducible assumption) | omega | (dsimp only; omega)))
    have hO2 := obj_bel ⟨y1.w, (by (repeat' (first | (with_reducible exact Below.refl _ _) | (with_reducible exact Nat.le_refl _) | (with_reducible refine Below.bel ?_ ?_) | (with_reducible refine Below.alloc ?_ ?_ _) | (with_reducible refine Below.drew ?_) | (with_reducible refine Below.drawsN ?_ _) | (with_reducible refine Below.setCell ?_ ?_ _) | (with_reducible refine le_bel ?_) | (with_reducible refine le_alloc ?_) | (with_reducible refine le_setCell ?_) | (with_reducible refine le_drew ?_) | (with_reducible refine le_drawsN ?_) | (dsimp only; with_reducible refine le_bel ?_) | (dsimp only; with_reducible refine Nat.le_refl _) | (dsimp only; with_reducible refine le_bel_add ?_) | (with_reducible assumption) | omega | (dsimp only; omega))) : Below (((w.alloc (.cells #[.int .i64 t.k, .int .i64 t.a, .slice ad t.l.length cap] 26)).alloc (.cells #[.int .i64 b.k, .int .i64 b.a, .slice adb b.l.length capb] 26)).alloc (.cells #[.int .i64 0, .int .i64 0, .slice none 0 0] 26)).heap.size (((w.alloc (.cells #[.int .i64 t.k, .int .i64 t.a, .slice ad t.l.length cap] 26)).alloc (.cells #[.int .i64 b.k, .int .i64 b.a, .slice adb b.l.length capb] 26)).alloc (.cells #[.int .i64 0, .int .i64 0, .slice none 0 0] 26)) y1.w)⟩ (heap3_2 w (.cells #[.int .i64 t.k, .int .i64 t.a, .slice ad t.l.length cap] 26) (.cells #[.int .i64 b.k, .int .i64 b.a, .slice adb b.l.length capb] 26) (.cells #[.int .i64 0, .int .i64 0, .slice none 0 0] 26))
    obtain ⟨r0, r1, r2⟩ := box3 hO2
    obtain ⟨g0, g1, g2⟩ := box3f hO2
    dsimp only
    go_wp2
    have hRR := obj_set3 (.int .i64 0) (.int .i64 0) (.slice none 0 0) hO2
    obtain ⟨q0, q1, q2⟩ := box3 hRR
    refine bodyPost_ret (v := .tuple #[.agg #[.int .i64 0, .int .i64 0, .slice none 0 0], .int .i64 c]) (by simp [results, Tryz.results7, go_sem, q0, q1, q2]) rfl (Ret.mk (by rfl) (by (repeat' (first | (with_reducible exact Below.refl _ _) | (with_reducible exact Nat.le_refl _) | (with_reducible refine Below.bel ?_ ?_) | (with_reducible refine Below.alloc ?_ ?_ _) | (with_reducible refine Below.drew ?_) | (with_reducible refine Below.drawsN ?_ _) | (with_reducible refine Below.setCell ?_ ?_ _) | (with_reducible refine le_bel ?_) | (with_reducible refine le_alloc ?_) | (with_reducible refine le_setCell ?_) | (with_reducible refine le_drew ?_) | (with_reducible refine le_drawsN ?_) | (dsimp only; with_reducible refine le_bel ?_) | (dsimp only; with_reducible refine Nat.le_refl _) | (dsimp only; with_reducible refine le_bel_add ?_) | (with_reducible assumption) | omega | (dsimp only; omega)))))
set_option maxRecDepth 100000 in
set_option maxHeartbeats 12800000 in
theorem Restrict_ok (x : Int) (hx : 0 ≤ x ∧ x < 4096) (v : Bool) (P : Nat → Prop) (t : F) (ad : Option Addr) (cap : Nat) (w : World) (hi : InsF P w ad t.l) (hok : okT t) (hn : nodes t ≤ 10000) (hl : levels t ≤ 100)
    (hpn : nodes (put x (cst v) t) ≤ 10000) (hpl : levels (put x (cst v) t) ≤ 100) :
    Calls Tryz.prog 8 #[.agg #[.int .i64 t.k, .int .i64 t.a, .slice ad t.l.length cap], .int .i64 x, .bool v] w (RetFE (put x (cst v) t) w) := by
  have HI := Lib.hid hi
  have HCC := Lib.hid (constant_any v)
  have h1 : nodes (cst v) ≤ 10000 := by cases v <;> decide
  have h2 : levels (cst v) ≤ 100 := by cases v <;> decide
  have HS := Lib.hid (fun (P' Pb : Nat → Prop) adb cap' capb w' (h : InsF P' w' ad t.l) (hb : InsF Pb w' adb (cst v).l) => Substitute_ok x hx P' Pb t (cst v) ad adb cap' capb w' h hb hok (okT_cst v) hn hl h1 h2 hpn hpl)
  obtain ⟨R, hR⟩ : ∃ R, put x (cst v) t = R := ⟨_, rfl⟩
  rw [hR] at HS ⊢
  obtain ⟨B, hB⟩ : ∃ B, cst v = B := ⟨_, rfl⟩
  rw [hB] at HS HCC
  clear hi hx hok hn hl hpn hpl h1 h2 hR hB
  go_enter Tryz.func8, Tryz.ntmps8
  go_wp2_with fail
  refine wp_region_plan 7 (.calm 0 (.calm 1 (.calm 2 (.fork 3 (.fork 4 (.calm 5 (.calm 6 .tail)) .none) .none)))) (by kernel_rfl) (by kernel_rfl) ?_
  simp only [Plan.walk, operAt, List.getElem?_cons_succ, List.getElem?_cons_zero, Option.getD_some, List.drop_succ_cons, List.drop_zero]
  repeat (refine wpX_calm (fun K hK => ?_); go_simp; first | (refine hK _ _ ?_; clear hK K) | (apply Exists.intro; refine ⟨fun _ => ?_, hK _ _ ?_⟩; (fail); clear hK K))
  refine wpX_only (fun K hK => ?_)
  go_simp
  intro x0
  refine (HCC.out _).mono ?_
  rintro _ _ ⟨_, rfl, y, rfl, adb, capb, rfl, hib⟩
  have HIB := Lib.hid hib
  clear hib
  refine ⟨_, rfl, y.below, hK _ _ ?_⟩
  clear hK K
  repeat (refine wpX_calm (fun K hK => ?_); go_simp; first | (refine hK _ _ ?_; clear hK K) | (apply Exists.intro; refine ⟨fun _ => ?_, hK _ _ ?_⟩; (fail); clear hK K))
  refine wpX_only (fun K hK => ?_)
  go_simp
  intro x1
  refine (HS.out _ _ _ _ _ _ (HI.out.of (by (repeat' (first | (with_reducible exact Below.refl _ _) | (with_reducible exact Nat.le_refl _) | (with_reducible refine Below.bel ?_ ?_) | (with_reducible refine Below.alloc ?_ ?_ _) | (with_reducible refine Below.drew ?_) | (with_reducible refine Below.drawsN ?_ _) | (with_reducible refine Below.setCell ?_ ?_ _) | (with_reducible refine le_bel ?_) | (with_reducible refine le_alloc ?_) | (with_reducible refine le_setCell ?_) | (with_reducible refine le_drew ?_) | (with_reducible refine le_drawsN ?_) | (dsimp only; with_reducible refine le_bel ?_) | (dsimp only; with_reducible refine Nat.le_refl _) | (dsimp only; with_reducible refine le_bel_add ?_) | (with_reducible assumption) | omega | (dsimp only; omega))))) (HIB.out.of (by (repeat' (first | (with_reducible exact Below.refl _ _) | (with_reducible exact Nat.le_refl _) | (with_reducible refine Below.bel ?_ ?_) | (with_reducible refine Below.alloc ?_ ?_ _) | (with_reducible refine Below.drew ?_) | (with_reducible refine Below.drawsN ?_ _) | (with_reducible refine Below.setCell ?_ ?_ _) | (with_reducible refine le_bel ?_) | (with_reducible refine le_alloc ?_) | (with_reducible refine le_setCell ?_) | (with_reducible refine le_drew ?_) | (with_reducible refine le_drawsN ?_) | (dsimp only; with_reducible refine le_bel ?_) | (dsimp only; with_reducible refine Nat.le_refl _) | (dsimp only; with_reducible refine le_bel_add ?_) | (with_reducible assumption) | omega | (dsimp only; omega)))))).mono ?_
  rintro _ _ ⟨_, rfl, y2, rfl, ad5, cap5, rfl, hi5⟩
  have HI5 := Lib.hid hi5
  clear hi5
  refine ⟨_, rfl, y2.below, hK _ _ ?_⟩
  clear hK K
  repeat (refine wpX_calm (fun K hK => ?_); go_simp; first | (refine hK _ _ ?_; clear hK K) | (apply Exists.intro; refine ⟨fun _ => ?_, hK _ _ ?_⟩; (fail); clear hK K))
  refine wpX_tail ?_
  intro z
  have hb := heap2_1 w (.cells #[.int .i64 t.k, .int .i64 t.a, .slice ad t.l.length cap] 26) (.cells #[.int .i64 0, .int .i64 0, .slice none 0 0] 26)
  have hx0 := x0.size_le
  have hx1 := x1.size_le
  have hx2 := y.size_le
  have hx3 := y2.size_le
  have hx4 := z.size_le
  simp at hx0
  have hres : z.w.heap[w.heap.size + 1]? = _ := obj_below (show Below _ _ z.w from (x0.below.trans ((y.below.trans ((x1.below.trans ((y2.below.trans (z.below.mono y2.size_le)).mono x1.size_le)).mono y.size_le)).mono x0.size_le))) (by simp) hb
  obtain ⟨r0, r1, r2⟩ := box3 hres
  obtain ⟨g0, g1, g2⟩ := box3f hres
  clear hb
  go_wp2
  have hRR := obj_set3 (.int .i64 R.k) (.int .i64 R.a) (.slice ad5 R.l.length cap5) hres
  obtain ⟨q0, q1, q2⟩ := box3 hRR
  refine bodyPost_ret (v := .tuple #[.agg #[.int .i64 R.k, .int .i64 R.a, .slice ad5 R.l.length cap5], .int .i64 0]) (by simp [results, Tryz.results8, go_sem, q0, q1, q2]) rfl (RetFE.mk ad5 cap5 rfl (by (repeat' (first | (with_reducible exact Below.refl _ _) | (with_reducible exact Nat.le_refl _) | (with_reducible refine Below.bel ?_ ?_) | (with_reducible refine Below.alloc ?_ ?_ _) | (with_reducible refine Below.drew ?_) | (with_reducible refine Below.drawsN ?_ _) | (with_reducible refine Below.setCell ?_ ?_ _) | (with_reducible refine le_bel ?_) | (with_reducible refine le_alloc ?_) | (with_reducible refine le_setCell ?_) | (with_reducible refine le_drew ?_) | (with_reducible refine le_drawsN ?_) | (dsimp only; with_reducible refine le_bel ?_) | (dsimp only; with_reducible refine Nat.le_refl _) | (dsimp only; with_reducible refine le_bel_add ?_) | (with_reducible assumption) | omega | (dsimp only; omega)))) ?_)
  refine ((HI5.out.of z.below).move (fun c o u hc hu => ?_) (fun b _ h => h)).imp (fun b _ h => by omega)
  have hne : c ≠ w.heap.size + 1 := by omega
  rw [World.cell?_of_block (Below.heap_setCell _ _ _ c hne), World.cell?_of_block (Below.heap_setCell _ _ _ c hne), World.cell?_of_block (Below.heap_setCell _ _ _ c hne)]
  exact hu
set_option maxRecDepth 100000 in
set_option maxHeartbeats 12800000 in
theorem Restrict_err (x q : Int) (v : Bool) (P : Nat → Prop) (t : F) (ad : Option Addr) (cap : Nat) (w : World) (hi : InsF P w ad t.l) (hn : nodes t ≤ 400000000000) (hq : (if checkF t = 0 then 3 else checkF t) = q) (hx : checkF t = 0 → x < 0 ∨ 4096 ≤ x) :
    Calls Tryz.prog 8 #[.agg #[.int .i64 t.k, .int .i64 t.a, .slice ad t.l.length cap], .int .i64 x, .bool v] w (Ret (zeroE q) w) := by
  have HI := Lib.hid hi
  have HCC := Lib.hid (constant_any v)
  have h1 : nodes (cst v) ≤ 400000000000 := by cases v <;> decide
  have hc : chkL [t, cst v] = checkF t := by
    rw [chkL, chkL, chkL, show checkF (cst v) = 0 by cases v <;> rfl]
    split
    · rename_i h; rw [h]; rfl
    · rfl
  have HS := Lib.hid (fun (P' Pb : Nat → Prop) adb cap' capb w' (h : InsF P' w' ad t.l) (hb : InsF Pb w' adb (cst v).l) => Substitute_err x q P' Pb t (cst v) ad adb cap' capb w' h hb hn h1 (by rw [hc]; exact hq) (by rw [hc]; exact hx))
  obtain ⟨B, hB⟩ : ∃ B, cst v = B := ⟨_, rfl⟩
  rw [hB] at HS HCC
  clear hi hx hn h1 hB hc hq
  go_enter Tryz.func8, Tryz.ntmps8
  go_wp2_with fail
  refine wp_region_plan 7 (.calm 0 (.calm 1 (.calm 2 (.fork 3 (.fork 4 (.calm 5 (.calm 6 .tail)) .none) .none)))) (by kernel_rfl) (by kernel_rfl) ?_
  simp only [Plan.walk, operAt, List.getElem?_cons_succ, List.getElem?_cons_zero, Option.getD_some, List.drop_succ_cons, List.drop_zero]
  repeat (refine wpX_calm (fun K hK => ?_); go_simp; first | (refine hK _ _ ?_; clear hK K) | (apply Exists.intro; refine ⟨fun _ => ?_, hK _ _ ?_⟩; (fail); clear hK K))
  refine wpX_only (fun K hK => ?_)
  go_simp
  intro x0
  refine (HCC.out _).mono ?_
  rintro _ _ ⟨_, rfl, y, rfl, adb, capb, rfl, hib⟩
  have HIB := Lib.hid hib
  clear hib
  refine ⟨_, rfl, y.below, hK _ _ ?_⟩
  clear hK K
  repeat (refine wpX_calm (fun K hK => ?_); go_simp; first | (refine hK _ _ ?_; clear hK K) | (apply Exists.intro; refine ⟨fun _ => ?_, hK _ _ ?_⟩; (fail); clear hK K))
  refine wpX_only (fun K hK => ?_)
  go_simp
  intro x1
  refine (HS.out _ _ _ _ _ _ (HI.out.of (by (repeat' (first | (with_reducible exact Below.refl _ _) | (with_reducible exact Nat.le_refl _) | (with_reducible refine Below.bel ?_ ?_) | (with_reducible refine Below.alloc ?_ ?_ _) | (with_reducible refine Below.drew ?_) | (with_reducible refine Below.drawsN ?_ _) | (with_reducible refine Below.setCell ?_ ?_ _) | (with_reducible refine le_bel ?_) | (with_reducible refine le_alloc ?_) | (with_reducible refine le_setCell ?_) | (with_reducible refine le_drew ?_) | (with_reducible refine le_drawsN ?_) | (dsimp only; with_reducible refine le_bel ?_) | (dsimp only; with_reducible refine Nat.le_refl _) | (dsimp only; with_reducible refine le_bel_add ?_) | (with_reducible assumption) | omega | (dsimp only; omega))))) (HIB.out.of (by (repeat' (first | (with_reducible exact Below.refl _ _) | (with_reducible exact Nat.le_refl _) | (with_reducible refine Below.bel ?_ ?_) | (with_reducible refine Below.alloc ?_ ?_ _) | (with_reducible refine Below.drew ?_) | (with_reducible refine Below.drawsN ?_ _) | (with_reducible refine Below.setCell ?_ ?_ _) | (with_reducible refine le_bel ?_) | (with_reducible refine le_alloc ?_) | (with_reducible refine le_setCell ?_) | (with_reducible refine le_drew ?_) | (with_reducible refine le_drawsN ?_) | (dsimp only; with_reducible refine le_bel ?_) | (dsimp only; with_reducible refine Nat.le_refl _) | (dsimp only; with_reducible refine le_bel_add ?_) | (with_reducible assumption) | omega | (dsimp only; omega)))))).mono ?_
  rintro _ _ ⟨rfl, y2, rfl⟩
  refine ⟨_, rfl, y2.below, hK _ _ ?_⟩
  clear hK K
  unfold zeroE
  repeat (refine wpX_calm (fun K hK => ?_); go_simp; first | (refine hK _ _ ?_; clear hK K) | (apply Exists.intro; refine ⟨fun _ => ?_, hK _ _ ?_⟩; (fail); clear hK K))
  refine wpX_tail ?_
  intro z
  have hb := heap2_1 w (.cells #[.int .i64 t.k, .int .i64 t.a, .slice ad t.l.length cap] 26) (.cells #[.int .i64 0, .int .i64 0, .slice none 0 0] 26)
  have hx0 := x0.size_le
  have hx1 := x1.size_le
  have hx2 := y.size_le
  have hx3 := y2.size_le
  have hx4 := z.size_le
  simp at hx0
  have hres : z.w.heap[w.heap.size + 1]? = _ := obj_below (show Below _ _ z.w from (x0.below.trans ((y.below.trans ((x1.below.trans ((y2.below.trans (z.below.mono y2.size_le)).mono x1.size_le)).mono y.size_le)).mono x0.size_le))) (by simp) hb
  obtain ⟨r0, r1, r2⟩ := box3 hres
  obtain ⟨g0, g1, g2⟩ := box3f hres
  clear hb
  go_wp2
  have hRR := obj_set3 (.int .i64 0) (.int .i64 0) (.slice none 0 0) hres
  obtain ⟨q0, q1, q2⟩ := box3 hRR
  refine bodyPost_ret (v := .tuple #[.agg #[.int .i64 0, .int .i64 0, .slice none 0 0], .int .i64 q]) (by simp [results, Tryz.results8, go_sem, q0, q1, q2]) rfl (Ret.mk (by rfl) (by (repeat' (first | (with_reducible exact Below.refl _ _) | (with_reducible exact Nat.le_refl _) | (with_reducible refine Below.bel ?_ ?_) | (with_reducible refine Below.alloc ?_ ?_ _) | (with_reducible refine Below.drew ?_) | (with_reducible refine Below.drawsN ?_ _) | (with_reducible refine Below.setCell ?_ ?_ _) | (with_reducible refine le_bel ?_) | (with_reducible refine le_alloc ?_) | (with_reducible refine le_setCell ?_) | (with_reducible refine le_drew ?_) | (with_reducible refine le_drawsN ?_) | (dsimp only; with_reducible refine le_bel ?_) | (dsimp only; with_reducible refine Nat.le_refl _) | (dsimp only; with_reducible refine le_bel_add ?_) | (with_reducible assumption) | omega | (dsimp only; omega)))))
end Go.Proofs.YtkbellmhanpocaaGreatDoor
