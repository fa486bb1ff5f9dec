/- What the functions return for a formula that is not right. -/
import Derived.Test.YtkbellmhanpocaaGreatDoorW2
import Derived.Test.YtkbellmhanpocaaGreatDoorV2
import Derived.Test.YtkbellmhanpocaaGreatDoorG11
import Derived.Test.YtkbellmhanpocaaGreatDoorQ4
namespace Go.Proofs.YtkbellmhanpocaaGreatDoor
set_option linter.unusedVariables false
set_option linter.unusedSimpArgs false
open Go.RowKit F
attribute [local go_sem low] Bel.cell Bel.frozen alloc_cell alloc_frozen

set_option maxRecDepth 100000 in
set_option maxHeartbeats 6400000 in
theorem Size_err (P : Nat → Prop) (t : F) (ad : Option Addr) (cap : Nat) (q : Int) (w : World) (hi : InsF P w ad t.l) (hn : nodes t ≤ 100000000000) (hq : checkF t = q) (h0 : q ≠ 0) :
    Calls Tryz.prog 16 #[.agg #[.int .i64 t.k, .int .i64 t.a, .slice ad t.l.length cap]] w (Ret (.tuple #[.int .i64 0, .int .i64 0, .int .i64 q]) w) := by
  have hlt : InsF (fun c => c < w.heap.size) w ad t.l := hi.imp fun b hb _ => hb
  have HI := Lib.hid hlt
  have HC := Lib.hid (fun w' (h : InsF (fun c => c < w.heap.size) w' ad t.l) => check_any (fun c => c < w.heap.size) t ad cap w' h (by omega))
  rw [hq] at HC
  have f0 : (q != 0) = true := bne_iff_ne.2 h0
  clear hi hlt hq h0 hn
  go_enter Tryz.func16, Tryz.ntmps16
  go_wp2_with fail
  refine (HC.out _ (HI.out.of (by (repeat' (first | (with_reducible exact Below.refl _ _) | (with_reducible exact Nat.le_refl _) | (with_reducible refine Below.bel ?_ ?_) | (with_reducible refine Below.alloc ?_ ?_ _) | (with_reducible refine Below.drew ?_) | (with_reducible refine Below.drawsN ?_ _) | (with_reducible refine Below.setCell ?_ ?_ _) | (with_reducible refine le_bel ?_) | (with_reducible refine le_alloc ?_) | (with_reducible refine le_setCell ?_) | (with_reducible refine le_drew ?_) | (with_reducible refine le_drawsN ?_) | (dsimp only; with_reducible refine le_bel ?_) | (dsimp only; with_reducible refine Nat.le_refl _) | (dsimp only; with_reducible refine le_bel_add ?_) | (with_reducible assumption) | omega | (dsimp only; omega)))))).mono ?_
  rintro _ _ ⟨rfl, y1, rfl⟩
  have hs1 := y1.size_le
  simp at hs1
  dsimp only
  go_wp2
  refine bodyPost_ret (v := .tuple #[.int .i64 0, .int .i64 0, .int .i64 q]) (by simp [results, Tryz.results16, go_sem]) rfl (Ret.mk (by rfl) (by (repeat' (first | (with_reducible exact Below.refl _ _) | (with_reducible exact Nat.le_refl _) | (with_reducible refine Below.bel ?_ ?_) | (with_reducible refine Below.alloc ?_ ?_ _) | (with_reducible refine Below.drew ?_) | (with_reducible refine Below.drawsN ?_ _) | (with_reducible refine Below.setCell ?_ ?_ _) | (with_reducible refine le_bel ?_) | (with_reducible refine le_alloc ?_) | (with_reducible refine le_setCell ?_) | (with_reducible refine le_drew ?_) | (with_reducible refine le_drawsN ?_) | (dsimp only; with_reducible refine le_bel ?_) | (dsimp only; with_reducible refine Nat.le_refl _) | (dsimp only; with_reducible refine le_bel_add ?_) | (with_reducible assumption) | omega | (dsimp only; omega)))))
set_option maxRecDepth 100000 in
set_option maxHeartbeats 6400000 in
theorem Value_err (P : Nat → Prop) (t : F) (ad : Option Addr) (cap : Nat) (q : Int) (w : World) (hi : InsF P w ad t.l) (hn : nodes t ≤ 100000000000) (hq : checkF t = q) (h0 : q ≠ 0) :
    Calls Tryz.prog 23 #[.agg #[.int .i64 t.k, .int .i64 t.a, .slice ad t.l.length cap], .slice none 0 0] w (Ret (.tuple #[.bool false, .int .i64 q]) w) := by
  have hlt : InsF (fun c => c < w.heap.size) w ad t.l := hi.imp fun b hb _ => hb
  have HI := Lib.hid hlt
  have HC := Lib.hid (fun w' (h : InsF (fun c => c < w.heap.size) w' ad t.l) => check_any (fun c => c < w.heap.size) t ad cap w' h (by omega))
  rw [hq] at HC
  have f0 : (q != 0) = true := bne_iff_ne.2 h0
  clear hi hlt hq h0 hn
  go_enter Tryz.func23, Tryz.ntmps23
  go_wp2_with fail
  refine (HC.out _ (HI.out.of (by (repeat' (first | (with_reducible exact Below.refl _ _) | (with_reducible exact Nat.le_refl _) | (with_reducible refine Below.bel ?_ ?_) | (with_reducible refine Below.alloc ?_ ?_ _) | (with_reducible refine Below.drew ?_) | (with_reducible refine Below.drawsN ?_ _) | (with_reducible refine Below.setCell ?_ ?_ _) | (with_reducible refine le_bel ?_) | (with_reducible refine le_alloc ?_) | (with_reducible refine le_setCell ?_) | (with_reducible refine le_drew ?_) | (with_reducible refine le_drawsN ?_) | (dsimp only; with_reducible refine le_bel ?_) | (dsimp only; with_reducible refine Nat.le_refl _) | (dsimp only; with_reducible refine le_bel_add ?_) | (with_reducible assumption) | omega | (dsimp only; omega)))))).mono ?_
  rintro _ _ ⟨rfl, y1, rfl⟩
  have hs1 := y1.size_le
  simp at hs1
  dsimp only
  go_wp2
  refine bodyPost_ret (v := .tuple #[.bool false, .int .i64 q]) (by simp [results, Tryz.results23, go_sem]) rfl (Ret.mk (by rfl) (by (repeat' (first | (with_reducible exact Below.refl _ _) | (with_reducible exact Nat.le_refl _) | (with_reducible refine Below.bel ?_ ?_) | (with_reducible refine Below.alloc ?_ ?_ _) | (with_reducible refine Below.drew ?_) | (with_reducible refine Below.drawsN ?_ _) | (with_reducible refine Below.setCell ?_ ?_ _) | (with_reducible refine le_bel ?_) | (with_reducible refine le_alloc ?_) | (with_reducible refine le_setCell ?_) | (with_reducible refine le_drew ?_) | (with_reducible refine le_drawsN ?_) | (dsimp only; with_reducible refine le_bel ?_) | (dsimp only; with_reducible refine Nat.le_refl _) | (dsimp only; with_reducible refine le_bel_add ?_) | (with_reducible assumption) | omega | (dsimp only; omega)))))
set_option maxRecDepth 100000 in
set_option maxHeartbeats 6400000 in
theorem Support_err (P : Nat → Prop) (t : F) (ad : Option Addr) (cap : Nat) (q : Int) (w : World) (hi : InsF P w ad t.l) (hn : nodes t ≤ 100000000000) (hq : checkF t = q) (h0 : q ≠ 0) :
    Calls Tryz.prog 24 #[.agg #[.int .i64 t.k, .int .i64 t.a, .slice ad t.l.length cap]] w (Ret (.tuple #[.slice none 0 0, .int .i64 q]) w) := by
  have hlt : InsF (fun c => c < w.heap.size) w ad t.l := hi.imp fun b hb _ => hb
  have HI := Lib.hid hlt
  have HC := Lib.hid (fun w' (h : InsF (fun c => c < w.heap.size) w' ad t.l) => check_any (fun c => c < w.heap.size) t ad cap w' h (by omega))
  rw [hq] at HC
  have f0 : (q != 0) = true := bne_iff_ne.2 h0
  clear hi hlt hq h0 hn
  go_enter Tryz.func24, Tryz.ntmps24
  go_wp2_with fail
  refine (HC.out _ (HI.out.of (by (repeat' (first | (with_reducible exact Below.refl _ _) | (with_reducible exact Nat.le_refl _) | (with_reducible refine Below.bel ?_ ?_) | (with_reducible refine Below.alloc ?_ ?_ _) | (with_reducible refine Below.drew ?_) | (with_reducible refine Below.drawsN ?_ _) | (with_reducible refine Below.setCell ?_ ?_ _) | (with_reducible refine le_bel ?_) | (with_reducible refine le_alloc ?_) | (with_reducible refine le_setCell ?_) | (with_reducible refine le_drew ?_) | (with_reducible refine le_drawsN ?_) | (dsimp only; with_reducible refine le_bel ?_) | (dsimp only; with_reducible refine Nat.le_refl _) | (dsimp only; with_reducible refine le_bel_add ?_) | (with_reducible assumption) | omega | (dsimp only; omega)))))).mono ?_
  rintro _ _ ⟨rfl, y1, rfl⟩
  have hs1 := y1.size_le
  simp at hs1
  dsimp only
  go_wp2
  refine bodyPost_ret (v := .tuple #[.slice none 0 0, .int .i64 q]) (by simp [results, Tryz.results24, go_sem]) rfl (Ret.mk (by rfl) (by (repeat' (first | (with_reducible exact Below.refl _ _) | (with_reducible exact Nat.le_refl _) | (with_reducible refine Below.bel ?_ ?_) | (with_reducible refine Below.alloc ?_ ?_ _) | (with_reducible refine Below.drew ?_) | (with_reducible refine Below.drawsN ?_ _) | (with_reducible refine Below.setCell ?_ ?_ _) | (with_reducible refine le_bel ?_) | (with_reducible refine le_alloc ?_) | (with_reducible refine le_setCell ?_) | (with_reducible refine le_drew ?_) | (with_reducible refine le_drawsN ?_) | (dsimp only; with_reducible refine le_bel ?_) | (dsimp only; with_reducible refine Nat.le_refl _) | (dsimp only; with_reducible refine le_bel_add ?_) | (with_reducible assumption) | omega | (dsimp only; omega)))))
set_option maxRecDepth 100000 in
set_option maxHeartbeats 6400000 in
theorem Normal_err (P : Nat → Prop) (t : F) (ad : Option Addr) (cap : Nat) (q : Int) (w : World) (hi : InsF P w ad t.l) (hn : nodes t ≤ 100000000000) (hq : checkF t = q) (h0 : q ≠ 0) :
    Calls Tryz.prog 25 #[.agg #[.int .i64 t.k, .int .i64 t.a, .slice ad t.l.length cap]] w (Ret (zeroE q) w) := by
  have hlt : InsF (fun c => c < w.heap.size) w ad t.l := hi.imp fun b hb _ => hb
  have HI := Lib.hid hlt
  have HC := Lib.hid (fun w' (h : InsF (fun c => c < w.heap.size) w' ad t.l) => check_any (fun c => c < w.heap.size) t ad cap w' h (by omega))
  rw [hq] at HC
  have f0 : (q != 0) = true := bne_iff_ne.2 h0
  clear hi hlt hq h0 hn
  go_enter Tryz.func25, Tryz.ntmps25
  go_wp2_with fail
  refine (HC.out _ (HI.out.of (by (repeat' (first | (with_reducible exact Below.refl _ _) | (with_reducible exact Nat.le_refl _) | (with_reducible refine Below.bel ?_ ?_) | (with_reducible refine Below.alloc ?_ ?_ _) | (with_reducible refine Below.drew ?_) | (with_reducible refine Below.drawsN ?_ _) | (with_reducible refine Below.setCell ?_ ?_ _) | (with_reducible refine le_bel ?_) | (with_reducible refine le_alloc ?_) | (with_reducible refine le_setCell ?_) | (with_reducible refine le_drew ?_) | (with_reducible refine le_drawsN ?_) | (dsimp only; with_reducible refine le_bel ?_) | (dsimp only; with_reducible refine Nat.le_refl _) | (dsimp only; with_reducible refine le_bel_add ?_) | (with_reducible assumption) | omega | (dsimp only; omega)))))).mono ?_
  rintro _ _ ⟨rfl, y1, rfl⟩
  have hs1 := y1.size_le
  simp at hs1
  have hO1 := obj_bel y1 (heap2_1 w (.cells #[.int .i64 t.k, .int .i64 t.a, .slice ad t.l.length cap] 26) (.cells #[.int .i64 0, .int .i64 0, .slice none 0 0] 26))
  obtain ⟨r0, r1, r2⟩ := box3 hO1
  obtain ⟨g0, g1, g2⟩ := box3f hO1
  dsimp only
  go_wp2
  have hRR := obj_set3 (.int .i64 0) (.int .i64 0) (.slice none 0 0) hO1
  obtain ⟨q0, q1, q2⟩ := box3 hRR
  refine bodyPost_ret (v := .tuple #[.agg #[.int .i64 0, .int .i64 0, .slice none 0 0], .int .i64 q]) (by simp [results, Tryz.results25, go_sem, q0, q1, q2]) rfl (Ret.mk (by rfl) (by (repeat' (first | (with_reducible exact Below.refl _ _) | (with_reducible exact Nat.le_refl _) | (with_reducible refine Below.bel ?_ ?_) | (with_reducible refine Below.alloc ?_ ?_ _) | (with_reducible refine Below.drew ?_) | (with_reducible refine Below.drawsN ?_ _) | (with_reducible refine Below.setCell ?_ ?_ _) | (with_reducible refine le_bel ?_) | (with_reducible refine le_alloc ?_) | (with_reducible refine le_setCell ?_) | (with_reducible refine le_drew ?_) | (with_reducible refine le_drawsN ?_) | (dsimp only; with_reducible refine le_bel ?_) | (dsimp only; with_reducible refine Nat.le_refl _) | (dsimp only; with_reducible refine le_bel_add ?_) | (with_reducible assumption) | omega | (dsimp only; omega)))))
set_option maxRecDepth 100000 in
set_option maxHeartbeats 6400000 in
theorem Simplify_err (P : Nat → Prop) (t : F) (ad : Option Addr) (cap : Nat) (q : Int) (w : World) (hi : InsF P w ad t.l) (hn : nodes t ≤ 100000000000) (hq : checkF t = q) (h0 : q ≠ 0) :
    Calls Tryz.prog 26 #[.agg #[.int .i64 t.k, .int .i64 t.a, .slice ad t.l.length cap]] w (Ret (zeroE q) w) := by
  have hlt : InsF (fun c => c < w.heap.size) w ad t.l := hi.imp fun b hb _ => hb
  have HI := Lib.hid hlt
  have HC := Lib.hid (fun w' (h : InsF (fun c => c < w.heap.size) w' ad t.l) => check_any (fun c => c < w.heap.size) t ad cap w' h (by omega))
  rw [hq] at HC
  have f0 : (q != 0) = true := bne_iff_ne.2 h0
  clear hi hlt hq h0 hn
  go_enter Tryz.func26, Tryz.ntmps26
  go_wp2_with fail
  refine (HC.out _ (HI.out.of (by (repeat' (first | (with_reducible exact Below.refl _ _) | (with_reducible exact Nat.le_refl _) | (with_reducible refine Below.bel ?_ ?_) | (with_reducible refine Below.alloc ?_ ?_ _) | (with_reducible refine Below.drew ?_) | (with_reducible refine Below.drawsN ?_ _) | (with_reducible refine Below.setCell ?_ ?_ _) | (with_reducible refine le_bel ?_) | (with_reducible refine le_alloc ?_) | (with_reducible refine le_setCell ?_) | (with_reducible refine le_drew ?_) | (with_reducible refine le_drawsN ?_) | (dsimp only; with_reducible refine le_bel ?_) | (dsimp only; with_reducible refine Nat.le_refl _) | (dsimp only; with_reducible refine le_bel_add ?_) | (with_reducible assumption) | omega | (dsimp only; omega)))))).mono ?_
  rintro _ _ ⟨rfl, y1, rfl⟩
  have hs1 := y1.size_le
  simp at hs1
  have hO1 := obj_bel y1 (heap2_1 w (.cells #[.int .i64 t.k, .int .i64 t.a, .slice ad t.l.length cap] 26) (.cells #[.int .i64 0, .int .i64 0, .slice none 0 0] 26))
  obtain ⟨r0, r1, r2⟩ := box3 hO1
  obtain ⟨g0, g1, g2⟩ := box3f hO1
  dsimp only
  go_wp2
  have hRR := obj_set3 (.int .i64 0) (.int .i64 0) (.slice none 0 0) hO1
  obtain ⟨q0, q1, q2⟩ := box3 hRR
  refine bodyPost_ret (v := .tuple #[.agg #[.int .i64 0, .int .i64 0, .slice none 0 0], .int .i64 q]) (by simp [results, Tryz.results26, go_sem, q0, q1, q2]) rfl (Ret.mk (by rfl) (by (repeat' (first | (with_reducible exact Below.refl _ _) | (with_reducible exact Nat.le_refl _) | (with_reducible refine Below.bel ?_ ?_) | (with_reducible refine Below.alloc ?_ ?_ _) | (with_reducible refine Below.drew ?_) | (with_reducible refine Below.drawsN ?_ _) | (with_reducible refine Below.setCell ?_ ?_ _) | (with_reducible refine le_bel ?_) | (with_reducible refine le_alloc ?_) | (with_reducible refine le_setCell ?_) | (with_reducible refine le_drew ?_) | (with_reducible refine le_drawsN ?_) | (dsimp only; with_reducible refine le_bel ?_) | (dsimp only; with_reducible refine Nat.le_refl _) | (dsimp only; with_reducible refine le_bel_add ?_) | (with_reducible assumption) | omega | (dsimp only; omega)))))
set_option maxRecDepth 100000 in
set_option maxHeartbeats 6400000 in
theorem Text_err (P : Nat → Prop) (t : F) (ad : Option Addr) (cap : Nat) (q : Int) (w : World) (hi : InsF P w ad t.l) (hn : nodes t ≤ 100000000000) (hq : checkF t = q) (h0 : q ≠ 0) :
    Calls Tryz.prog 27 #[.agg #[.int .i64 t.k, .int .i64 t.a, .slice ad t.l.length cap]] w (Ret (.tuple #[.string ⟨#[]⟩, .int .i64 q]) w) := by
  have hlt : InsF (fun c => c < w.heap.size) w ad t.l := hi.imp fun b hb _ => hb
  have HI := Lib.hid hlt
  have HC := Lib.hid (fun w' (h : InsF (fun c => c < w.heap.size) w' ad t.l) => check_any (fun c => c < w.heap.size) t ad cap w' h (by omega))
  rw [hq] at HC
  have f0 : (q != 0) = true := bne_iff_ne.2 h0
  clear hi hlt hq h0 hn
  go_enter Tryz.func27, Tryz.ntmps27
  go_wp2_with fail
  refine (HC.out _ (HI.out.of (by (repeat' (first | (with_reducible exact Below.refl _ _) | (with_reducible exact Nat.le_refl _) | (with_reducible refine Below.bel ?_ ?_) | (with_reducible refine Below.alloc ?_ ?_ _) | (with_reducible refine Below.drew ?_) | (with_reducible refine Below.drawsN ?_ _) | (with_reducible refine Below.setCell ?_ ?_ _) | (with_reducible refine le_bel ?_) | (with_reducible refine le_alloc ?_) | (with_reducible refine le_setCell ?_) | (with_reducible refine le_drew ?_) | (with_reducible refine le_drawsN ?_) | (dsimp only; with_reducible refine le_bel ?_) | (dsimp only; with_reducible refine Nat.le_refl _) | (dsimp only; with_reducible refine le_bel_add ?_) | (with_reducible assumption) | omega | (dsimp only; omega)))))).mono ?_
  rintro _ _ ⟨rfl, y1, rfl⟩
  have hs1 := y1.size_le
  simp at hs1
  dsimp only
  go_wp2
  refine bodyPost_ret (v := .tuple #[.string ⟨#[]⟩, .int .i64 q]) (by simp [results, Tryz.results27, go_sem]) rfl (Ret.mk (by rfl) (by (repeat' (first | (with_reducible exact Below.refl _ _) | (with_reducible exact Nat.le_refl _) | (with_reducible refine Below.bel ?_ ?_) | (with_reducible refine Below.alloc ?_ ?_ _) | (with_reducible refine Below.drew ?_) | (with_reducible refine Below.drawsN ?_ _) | (with_reducible refine Below.setCell ?_ ?_ _) | (with_reducible refine le_bel ?_) | (with_reducible refine le_alloc ?_) | (with_reducible refine le_setCell ?_) | (with_reducible refine le_drew ?_) | (with_reducible refine le_drawsN ?_) | (dsimp only; with_reducible refine le_bel ?_) | (dsimp only; with_reducible refine Nat.le_refl _) | (dsimp only; with_reducible refine le_bel_add ?_) | (with_reducible assumption) | omega | (dsimp only; omega)))))
end Go.Proofs.YtkbellmhanpocaaGreatDoor
