/- result, Normal. -/
import Derived.Test.YtkbellmhanpocaaDoorG6
namespace Go.Proofs.YtkbellmhanpocaaDoor
set_option linter.unusedVariables false
set_option linter.unusedSimpArgs false
open Go.RowKit F
attribute [local go_sem low] Bel.cell Bel.frozen alloc_cell alloc_frozen

/-- A formula, and no error. -/
def RetFE (t : F) (w : World) (e : Ending) (w' : World) : Prop := ∃ v, e = .returned (.tuple #[v, .int .i64 0]) ∧ ∃ y : Bel w, w' = y.w ∧ FV (fun b => w.heap.size ≤ b) y.w v t
theorem RetFE.mk {t : F} {w w' : World} {v : Value} (ad : Option Addr) (cap : Nat) (hv : v = .agg #[.int .i64 t.k, .int .i64 t.a, .slice ad t.l.length cap]) (hb : Below w.heap.size w w') (hi : InsF (fun b => w.heap.size ≤ b) w' ad t.l) : RetFE t w (.returned (.tuple #[v, .int .i64 0])) w' :=
  ⟨v, rfl, ⟨w', hb⟩, rfl, ad, cap, hv, hi⟩
set_option maxRecDepth 100000 in
set_option maxHeartbeats 6400000 in
theorem result_any (P : Nat → Prop) (t : F) (ad : Option Addr) (cap : Nat) (w : World) (hi : InsF P w ad t.l) (hbig : nodes t ≤ 1000000000000) :
    Calls Tryd.prog 38 #[.agg #[.int .i64 t.k, .int .i64 t.a, .slice ad t.l.length cap]] w (Ret (.tuple #[if fitsF t then .agg #[.int .i64 t.k, .int .i64 t.a, .slice ad t.l.length cap] else .agg #[.int .i64 0, .int .i64 0, .slice none 0 0], .int .i64 (if fitsF t then 0 else 4)]) w) := by
  have hlt : InsF (fun c => c < w.heap.size) w ad t.l := hi.imp fun b hb _ => hb
  have HM := Lib.hid (fun w' (hi : InsF (fun c => c < w.heap.size + 2) w' ad t.l) (hs : SizeAt w' (w.heap.size + 2) (0 : Nat) (0 : Nat)) => measure_any (nodes t) t (Nat.le_refl _) ad cap 1 0 0 (w.heap.size + 2) 1 w' rfl hi hs hbig (by omega) (by omega) (by omega))
  have HF := meas_fits t
  obtain ⟨⟨qb, qn, qm⟩, hq⟩ : ∃ q, meas t 1 0 0 = q := ⟨_, rfl⟩
  rw [hq] at HM HF
  dsimp only at HF
  rw [← HF]
  clear hi hq HF
  have hw1 := hlt.of (w' := ((w.alloc (.cells #[.int .i64 t.k, .int .i64 t.a, .slice ad t.l.length cap] 25)).alloc (.cells #[.int .i64 0, .int .i64 0, .slice none 0 0] 25)).alloc (.cells #[.int .i64 0, .int .i64 0] 69)) (by (repeat' (first | (with_reducible exact Below.refl _ _) | (with_reducible exact Nat.le_refl _) | (with_reducible refine Below.bel ?_ ?_) | (with_reducible refine Below.alloc ?_ ?_ _) | (with_reducible refine Below.drew ?_) | (with_reducible refine Below.drawsN ?_ _) | (with_reducible refine Below.setCell ?_ ?_ _) | (with_reducible refine le_bel ?_) | (with_reducible refine le_alloc ?_) | (with_reducible refine le_setCell ?_) | (with_reducible refine le_drew ?_) | (with_reducible refine le_drawsN ?_) | (dsimp only; with_reducible refine le_bel ?_) | (dsimp only; with_reducible refine Nat.le_refl _) | (dsimp only; with_reducible refine le_bel_add ?_) | (with_reducible assumption) | omega | (dsimp only; omega))))
  cases qb
  · go_enter Tryd.func38, Tryd.ntmps38
    go_wp2_with fail
    refine (HM.out _ (hw1.imp fun b _ hb => by omega) ⟨by simp [go_sem], by simp [go_sem], by simp [go_sem], by simp [go_sem]⟩).mono ?_
    rintro _ w2 ⟨rfl, _, hb2, hz2⟩
    simp at hz2
    have hO0 := obj_below hb2 (by omega) (heap3_0 w _ _ _)
    have hO1 := obj_below hb2 (by omega) (heap3_1 w _ _ _)
    obtain ⟨c0, c1, c2⟩ := box3 hO0
    obtain ⟨r0, r1, r2⟩ := box3 hO1
    obtain ⟨g0, g1, g2⟩ := box3f hO1
    have hbw : Below w.heap.size w w2 := Below.trans (by (repeat' (first | (with_reducible exact Below.refl _ _) | (with_reducible exact Nat.le_refl _) | (with_reducible refine Below.bel ?_ ?_) | (with_reducible refine Below.alloc ?_ ?_ _) | (with_reducible refine Below.drew ?_) | (with_reducible refine Below.drawsN ?_ _) | (with_reducible refine Below.setCell ?_ ?_ _) | (with_reducible refine le_bel ?_) | (with_reducible refine le_alloc ?_) | (with_reducible refine le_setCell ?_) | (with_reducible refine le_drew ?_) | (with_reducible refine le_drawsN ?_) | (dsimp only; with_reducible refine le_bel ?_) | (dsimp only; with_reducible refine Nat.le_refl _) | (dsimp only; with_reducible refine le_bel_add ?_) | (with_reducible assumption) | omega | (dsimp only; omega)))) (hb2.mono (by omega))
    clear hb2
    dsimp only
    go_wp2
    have hR := obj_set3 (.int .i64 0) (.int .i64 0) (.slice none 0 0) hO1
    obtain ⟨q0, q1, q2⟩ := box3 hR
    refine bodyPost_ret (v := .tuple #[.agg #[.int .i64 0, .int .i64 0, .slice none 0 0], .int .i64 4]) (by simp [results, Tryd.results38, go_sem, q0, q1, q2]) rfl (Ret.mk (by rfl) (by (repeat' (first | (with_reducible exact Below.refl _ _) | (with_reducible exact Nat.le_refl _) | (with_reducible refine Below.bel ?_ ?_) | (with_reducible refine Below.alloc ?_ ?_ _) | (with_reducible refine Below.drew ?_) | (with_reducible refine Below.drawsN ?_ _) | (with_reducible refine Below.setCell ?_ ?_ _) | (with_reducible refine le_bel ?_) | (with_reducible refine le_alloc ?_) | (with_reducible refine le_setCell ?_) | (with_reducible refine le_drew ?_) | (with_reducible refine le_drawsN ?_) | (dsimp only; with_reducible refine le_bel ?_) | (dsimp only; with_reducible refine Nat.le_refl _) | (dsimp only; with_reducible refine le_bel_add ?_) | (with_reducible assumption) | omega | (dsimp only; omega)))))
  · go_enter Tryd.func38, Tryd.ntmps38
    go_wp2_with fail
    refine (HM.out _ (hw1.imp fun b _ hb => by omega) ⟨by simp [go_sem], by simp [go_sem], by simp [go_sem], by simp [go_sem]⟩).mono ?_
    rintro _ w2 ⟨rfl, _, hb2, hz2⟩
    simp at hz2
    have hO0 := obj_below hb2 (by omega) (heap3_0 w _ _ _)
    have hO1 := obj_below hb2 (by omega) (heap3_1 w _ _ _)
    obtain ⟨c0, c1, c2⟩ := box3 hO0
    obtain ⟨r0, r1, r2⟩ := box3 hO1
    obtain ⟨g0, g1, g2⟩ := box3f hO1
    have hbw : Below w.heap.size w w2 := Below.trans (by (repeat' (first | (with_reducible exact Below.refl _ _) | (with_reducible exact Nat.le_refl _) | (with_reducible refine Below.bel ?_ ?_) | (with_reducible refine Below.alloc ?_ ?_ _) | (with_reducible refine Below.drew ?_) | (with_reducible refine Below.drawsN ?_ _) | (with_reducible refine Below.setCell ?_ ?_ _) | (with_reducible refine le_bel ?_) | (with_reducible refine le_alloc ?_) | (with_reducible refine le_setCell ?_) | (with_reducible refine le_drew ?_) | (with_reducible refine le_drawsN ?_) | (dsimp only; with_reducible refine le_bel ?_) | (dsimp only; with_reducible refine Nat.le_refl _) | (dsimp only; with_reducible refine le_bel_add ?_) | (with_reducible assumption) | omega | (dsimp only; omega)))) (hb2.mono (by omega))
    clear hb2
    dsimp only
    go_wp2
    have hR := obj_set3 (.int .i64 t.k) (.int .i64 t.a) (.slice ad t.l.length cap) hO1
    obtain ⟨q0, q1, q2⟩ := box3 hR
    refine bodyPost_ret (v := .tuple #[.agg #[.int .i64 t.k, .int .i64 t.a, .slice ad t.l.length cap], .int .i64 0]) (by simp [results, Tryd.results38, go_sem, q0, q1, q2]) rfl (Ret.mk (by rfl) (by (repeat' (first | (with_reducible exact Below.refl _ _) | (with_reducible exact Nat.le_refl _) | (with_reducible refine Below.bel ?_ ?_) | (with_reducible refine Below.alloc ?_ ?_ _) | (with_reducible refine Below.drew ?_) | (with_reducible refine Below.drawsN ?_ _) | (with_reducible refine Below.setCell ?_ ?_ _) | (with_reducible refine le_bel ?_) | (with_reducible refine le_alloc ?_) | (with_reducible refine le_setCell ?_) | (with_reducible refine le_drew ?_) | (with_reducible refine le_drawsN ?_) | (dsimp only; with_reducible refine le_bel ?_) | (dsimp only; with_reducible refine Nat.le_refl _) | (dsimp only; with_reducible refine le_bel_add ?_) | (with_reducible assumption) | omega | (dsimp only; omega)))))
set_option maxRecDepth 100000 in
set_option maxHeartbeats 6400000 in
theorem Normal_ok (P : Nat → Prop) (t : F) (ad : Option Addr) (cap : Nat) (w : World) (hi : InsF P w ad t.l) (hok : okT t) (hn : nodes t ≤ 5000) (hl : levels t ≤ 99) :
    Calls Tryd.prog 14 #[.agg #[.int .i64 t.k, .int .i64 t.a, .slice ad t.l.length cap]] w (RetFE (nrm t false) w) := by
  have hc0 : checkF t = 0 := checkF_ok.2 ⟨decide_eq_true (by omega), hok⟩
  have hsz := nrm_size t false hok
  have hfit : fitsF (nrm t false) = true := decide_eq_true (by omega)
  have hlt : InsF (fun c => c < w.heap.size) w ad t.l := hi.imp fun b hb _ => hb
  have HI := Lib.hid hlt
  have HC := Lib.hid (fun w' (h : InsF (fun c => c < w.heap.size) w' ad t.l) => check_any (fun c => c < w.heap.size) t ad cap w' h (by omega))
  rw [hc0] at HC
  have HN := Lib.hid (fun w' (h : InsF (fun c => c < w.heap.size) w' ad t.l) => normal_any (nodes t) t (Nat.le_refl _) hok false (fun c => c < w.heap.size) ad cap w' h (by omega))
  obtain ⟨R, hR⟩ : ∃ R, nrm t false = R := ⟨_, rfl⟩
  rw [hR] at HN hfit hsz ⊢
  have HRS := Lib.hid (fun ad' cap' w' (P' : Nat → Prop) (h : InsF P' w' ad' R.l) => result_any P' R ad' cap' w' h (by omega))
  rw [hfit] at HRS
  clear hi hlt hc0 hR hok hsz hfit
  go_enter Tryd.func14, Tryd.ntmps14
  go_wp2_with fail
  refine (HC.out _ (HI.out.of (by (repeat' (first | (with_reducible exact Below.refl _ _) | (with_reducible exact Nat.le_refl _) | (with_reducible refine Below.bel ?_ ?_) | (with_reducible refine Below.alloc ?_ ?_ _) | (with_reducible refine Below.drew ?_) | (with_reducible refine Below.drawsN ?_ _) | (with_reducible refine Below.setCell ?_ ?_ _) | (with_reducible refine le_bel ?_) | (with_reducible refine le_alloc ?_) | (with_reducible refine le_setCell ?_) | (with_reducible refine le_drew ?_) | (with_reducible refine le_drawsN ?_) | (dsimp only; with_reducible refine le_bel ?_) | (dsimp only; with_reducible refine Nat.le_refl _) | (dsimp only; with_reducible refine le_bel_add ?_) | (with_reducible assumption) | omega | (dsimp only; omega)))))).mono ?_
  rintro _ _ ⟨rfl, y1, rfl⟩
  have hs1 := y1.size_le
  simp at hs1
  have hO1 := obj_bel y1 (heap2_1 w (.cells #[.int .i64 t.k, .int .i64 t.a, .slice ad t.l.length cap] 25) (.cells #[.int .i64 0, .int .i64 0, .slice none 0 0] 25))
  dsimp only
  go_wp2_with fail
  refine (HN.out _ (HI.out.of (by (repeat' (first | (with_reducible exact Below.refl _ _) | (with_reducible exact Nat.le_refl _) | (with_reducible refine Below.bel ?_ ?_) | (with_reducible refine Below.alloc ?_ ?_ _) | (with_reducible refine Below.drew ?_) | (with_reducible refine Below.drawsN ?_ _) | (with_reducible refine Below.setCell ?_ ?_ _) | (with_reducible refine le_bel ?_) | (with_reducible refine le_alloc ?_) | (with_reducible refine le_setCell ?_) | (with_reducible refine le_drew ?_) | (with_reducible refine le_drawsN ?_) | (dsimp only; with_reducible refine le_bel ?_) | (dsimp only; with_reducible refine Nat.le_refl _) | (dsimp only; with_reducible refine le_bel_add ?_) | (with_reducible assumption) | omega | (dsimp only; omega)))))).mono ?_
  rintro _ _ ⟨_, rfl, y2, rfl, ad5, cap5, rfl, hi5⟩
  have HI5 := Lib.hid hi5
  have hs2 := y2.size_le
  have hO2 := obj_bel y2 hO1
  clear hi5
  dsimp only
  go_wp2_with fail
  refine (HRS.out _ _ _ _ HI5.out).mono ?_
  rintro _ _ ⟨rfl, y3, rfl⟩
  have hO3 := obj_bel y3 hO2
  obtain ⟨r0, r1, r2⟩ := box3 hO3
  obtain ⟨g0, g1, g2⟩ := box3f hO3
  simp only [if_true]
  clear hO1 hO2
  go_wp2
  have hR := obj_set3 (.int .i64 R.k) (.int .i64 R.a) (.slice ad5 R.l.length cap5) hO3
  obtain ⟨q0, q1, q2⟩ := box3 hR
  refine bodyPost_ret (v := .tuple #[.agg #[.int .i64 R.k, .int .i64 R.a, .slice ad5 R.l.length cap5], .int .i64 0]) (by simp [results, Tryd.results14, go_sem, q0, q1, q2]) rfl (RetFE.mk ad5 cap5 rfl (by (repeat' (first | (with_reducible exact Below.refl _ _) | (with_reducible exact Nat.le_refl _) | (with_reducible refine Below.bel ?_ ?_) | (with_reducible refine Below.alloc ?_ ?_ _) | (with_reducible refine Below.drew ?_) | (with_reducible refine Below.drawsN ?_ _) | (with_reducible refine Below.setCell ?_ ?_ _) | (with_reducible refine le_bel ?_) | (with_reducible refine le_alloc ?_) | (with_reducible refine le_setCell ?_) | (with_reducible refine le_drew ?_) | (with_reducible refine le_drawsN ?_) | (dsimp only; with_reducible refine le_bel ?_) | (dsimp only; with_reducible refine Nat.le_refl _) | (dsimp only; with_reducible refine le_bel_add ?_) | (with_reducible assumption) | omega | (dsimp only; omega)))) ?_)
  refine ((HI5.out.of y3.below).move (fun c o u hc hu => ?_) (fun b _ h => h)).imp (fun b _ h => by omega)
  rw [World.cell?_of_block (Below.heap_setCell _ _ _ c (fun e => by have e : c = w.heap.size + 1 := e; omega)), World.cell?_of_block (Below.heap_setCell _ _ _ c (fun e => by have e : c = w.heap.size + 1 := e; omega)), World.cell?_of_block (Below.heap_setCell _ _ _ c (fun e => by have e : c = w.heap.size + 1 := e; omega))]
  exact hu
end Go.Proofs.YtkbellmhanpocaaDoor
