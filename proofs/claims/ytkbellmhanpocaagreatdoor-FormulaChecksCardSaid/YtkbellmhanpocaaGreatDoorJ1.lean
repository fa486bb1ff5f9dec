/- Parse of a formula's text. -/
import Derived.Test.YtkbellmhanpocaaGreatDoorI7
namespace Go.Proofs.YtkbellmhanpocaaGreatDoor
set_option linter.unusedVariables false
set_option linter.unusedSimpArgs false
open Go.RowKit Go.Shelf F
attribute [local go_sem low] Bel.cell Bel.frozen alloc_cell alloc_frozen

set_option maxRecDepth 100000 in
set_option maxHeartbeats 6400000 in
theorem Parse_ok (t : F) (w : World) (hok : okT t) (hn : nodes t ≤ 10000) (hl : levels t ≤ 100) (hlen : (txt t).length ≤ 65536) : Calls Tryz.prog 28 #[.string ⟨(txt t).toArray⟩] w (RetFE t w) := by
  have HF := Lib.hid (fun (b : Nat) (w' : World) (h : RdAt w' b (txt t) 0) => show Calls Tryz.prog 48 #[.pointer (some ⟨b, 0, none⟩)] w' (RdRet b (txt t) (txt t).length t w') from by
    have := formula_any b (nodes t) t (Nat.le_refl _) hok [] [] w' rfl (by simp; omega) (by simpa using h)
    simpa using this)
  have hc0 : checkF t = 0 := checkF_ok.2 ⟨decide_eq_true (by omega), hok⟩
  have HC := Lib.hid (fun (P : Nat → Prop) ad cap w' (h : InsF P w' ad t.l) => check_any P t ad cap w' h (by omega))
  rw [hc0] at HC
  obtain ⟨S, hS⟩ : ∃ S, txt t = S := ⟨_, rfl⟩
  rw [hS] at HF hlen ⊢
  have f0 : decide ((65536 : Int) < (S.length : Int)) = false := decide_eq_false (by omega)
  clear hS hc0
  go_enter Tryz.func28, Tryz.ntmps28
  go_wp2_with fail
  refine (HF.out (w.heap.size + 1) _ (heap2_1 w (.cells #[.int .i64 0, .int .i64 0, .slice none 0 0] 26) (.cells #[.string ⟨S.toArray⟩, .int .i64 0] 81))).mono ?_
  rintro _ w2 ⟨v2, rfl, ⟨ad5, cap5, rfl, hi5⟩, hrd2, hrk2⟩
  have hres2 := hrk2.2 w.heap.size _ (heap2_0 w (.cells #[.int .i64 0, .int .i64 0, .slice none 0 0] 26) (.cells #[.string ⟨S.toArray⟩, .int .i64 0] 81)) (by omega)
  obtain ⟨g0, g1, g2, g3⟩ := box2 hrd2
  have f1 : ((S.length : Int) != (S.length : Int)) = false := by simp
  have hbw : Below w.heap.size w w2 := Below.trans (by (repeat' (first | (with_reducible exact Below.refl _ _) | (with_reducible exact Nat.le_refl _) | (with_reducible refine Below.bel ?_ ?_) | (with_reducible refine Below.alloc ?_ ?_ _) | (with_reducible refine Below.drew ?_) | (with_reducible refine Below.drawsN ?_ _) | (with_reducible refine Below.setCell ?_ ?_ _) | (with_reducible refine le_bel ?_) | (with_reducible refine le_alloc ?_) | (with_reducible refine le_setCell ?_) | (with_reducible refine le_drew ?_) | (with_reducible refine le_drawsN ?_) | (dsimp only; with_reducible refine le_bel ?_) | (dsimp only; with_reducible refine Nat.le_refl _) | (dsimp only; with_reducible refine le_bel_add ?_) | (with_reducible assumption) | omega | (dsimp only; omega)))) (hrk2.1.mono (by omega))
  have hs2 := hbw.size
  have HI5 := Lib.hid hi5
  clear hi5 hrd2 hrk2 HF
  dsimp only
  go_wp2_with fail
  refine (HC.out _ _ _ _ (HI5.out.of (by (repeat' (first | (with_reducible exact Below.refl _ _) | (with_reducible exact Nat.le_refl _) | (with_reducible refine Below.bel ?_ ?_) | (with_reducible refine Below.alloc ?_ ?_ _) | (with_reducible refine Below.drew ?_) | (with_reducible refine Below.drawsN ?_ _) | (with_reducible refine Below.setCell ?_ ?_ _) | (with_reducible refine le_bel ?_) | (with_reducible refine le_alloc ?_) | (with_reducible refine le_setCell ?_) | (with_reducible refine le_drew ?_) | (with_reducible refine le_drawsN ?_) | (dsimp only; with_reducible refine le_bel ?_) | (dsimp only; with_reducible refine Nat.le_refl _) | (dsimp only; with_reducible refine le_bel_add ?_) | (with_reducible assumption) | omega | (dsimp only; omega)))))).mono ?_
  rintro _ _ ⟨rfl, y1, rfl⟩
  have hs1 := y1.size_le
  simp at hs1
  have hres3 := obj_bel ⟨y1.w, (by (repeat' (first | (with_reducible exact Below.refl _ _) | (with_reducible exact Nat.le_refl _) | (with_reducible refine Below.bel ?_ ?_) | (with_reducible refine Below.alloc ?_ ?_ _) | (with_reducible refine Below.drew ?_) | (with_reducible refine Below.drawsN ?_ _) | (with_reducible refine Below.setCell ?_ ?_ _) | (with_reducible refine le_bel ?_) | (with_reducible refine le_alloc ?_) | (with_reducible refine le_setCell ?_) | (with_reducible refine le_drew ?_) | (with_reducible refine le_drawsN ?_) | (dsimp only; with_reducible refine le_bel ?_) | (dsimp only; with_reducible refine Nat.le_refl _) | (dsimp only; with_reducible refine le_bel_add ?_) | (with_reducible assumption) | omega | (dsimp only; omega))) : Below w2.heap.size w2 y1.w)⟩ hres2
  obtain ⟨r0, r1, r2⟩ := box3 hres3
  obtain ⟨q0, q1, q2⟩ := box3f hres3
  have HY := Lib.hid (show Below w2.heap.size w2 y1.w by (repeat' (first | (with_reducible exact Below.refl _ _) | (with_reducible exact Nat.le_refl _) | (with_reducible refine Below.bel ?_ ?_) | (with_reducible refine Below.alloc ?_ ?_ _) | (with_reducible refine Below.drew ?_) | (with_reducible refine Below.drawsN ?_ _) | (with_reducible refine Below.setCell ?_ ?_ _) | (with_reducible refine le_bel ?_) | (with_reducible refine le_alloc ?_) | (with_reducible refine le_setCell ?_) | (with_reducible refine le_drew ?_) | (with_reducible refine le_drawsN ?_) | (dsimp only; with_reducible refine le_bel ?_) | (dsimp only; with_reducible refine Nat.le_refl _) | (dsimp only; with_reducible refine le_bel_add ?_) | (with_reducible assumption) | omega | (dsimp only; omega))))
  dsimp only
  go_wp2
  have hR := obj_set3 (.int .i64 t.k) (.int .i64 t.a) (.slice ad5 t.l.length cap5) hres3
  obtain ⟨s0, s1, s2⟩ := box3 hR
  refine bodyPost_ret (v := .tuple #[.agg #[.int .i64 t.k, .int .i64 t.a, .slice ad5 t.l.length cap5], .int .i64 0]) (by simp [results, Tryz.results28, go_sem, s0, s1, s2]) rfl (RetFE.mk ad5 cap5 rfl (by (repeat' (first | (with_reducible exact Below.refl _ _) | (with_reducible exact Nat.le_refl _) | (with_reducible refine Below.bel ?_ ?_) | (with_reducible refine Below.alloc ?_ ?_ _) | (with_reducible refine Below.drew ?_) | (with_reducible refine Below.drawsN ?_ _) | (with_reducible refine Below.setCell ?_ ?_ _) | (with_reducible refine le_bel ?_) | (with_reducible refine le_alloc ?_) | (with_reducible refine le_setCell ?_) | (with_reducible refine le_drew ?_) | (with_reducible refine le_drawsN ?_) | (dsimp only; with_reducible refine le_bel ?_) | (dsimp only; with_reducible refine Nat.le_refl _) | (dsimp only; with_reducible refine le_bel_add ?_) | (with_reducible assumption) | omega | (dsimp only; omega)))) ?_)
  refine ((HI5.out.of HY.out).move (fun c o u hc hu => ?_) (fun b _ h => h)).imp (fun b _ h => by simp at h; omega)
  have hne : c ≠ w.heap.size := by simp at hc; omega
  rw [World.cell?_of_block (Below.heap_setCell _ _ _ c hne), World.cell?_of_block (Below.heap_setCell _ _ _ c hne), World.cell?_of_block (Below.heap_setCell _ _ _ c hne)]
  exact hu
end Go.Proofs.YtkbellmhanpocaaGreatDoor
