/- Equivalent of formulas that are not right. -/
import Derived.Test.YtkbellmhanpocaaGreatDoorQ4
namespace Go.Proofs.YtkbellmhanpocaaGreatDoor
set_option linter.unusedVariables false
set_option linter.unusedSimpArgs false
open Go.RowKit F
attribute [local go_sem low] Bel.cell Bel.frozen alloc_cell alloc_frozen

set_option maxRecDepth 100000 in
set_option maxHeartbeats 12800000 in
theorem Equivalent_err (P P' : Nat → Prop) (t u : F) (ad ad' : Option Addr) (cap cap' : Nat) (q : Int) (w : World) (hi : InsF P w ad t.l) (hi' : InsF P' w ad' u.l) (hn : nodes t ≤ 400000000000) (hn' : nodes u ≤ 400000000000) (hq : chkL [t, u] = q) (h0 : q ≠ 0) :
    Calls Tryz.prog 17 #[.agg #[.int .i64 t.k, .int .i64 t.a, .slice ad t.l.length cap], .agg #[.int .i64 u.k, .int .i64 u.a, .slice ad' u.l.length cap']] w (Ret (.tuple #[.bool false, .int .i64 q]) w) := by
  have hlt : InsF (fun c => c < w.heap.size) w ad t.l := hi.imp fun b hb _ => hb
  have hlt' : InsF (fun c => c < w.heap.size) w ad' u.l := hi'.imp fun b hb _ => hb
  have HI := Lib.hid hlt
  have HI' := Lib.hid hlt'
  have HC := Lib.hid (fun P' ad' cap' w' (h : InsF P' w' ad' [t, u]) => checks_any [t, u] P' ad' cap' w' h (by rw [nodesL, nodesL, nodesL]; omega))
  rw [hq] at HC
  have f0 : (q != 0) = true := bne_iff_ne.2 h0
  clear hi hi' hlt hlt' hq h0 hn hn'
  go_enter Tryz.func17, Tryz.ntmps17
  go_wp2_with fail
  have hrow := World.alloc_heap_new ((w.alloc (.cells #[.int .i64 t.k, .int .i64 t.a, .slice ad t.l.length cap] 26)).alloc (.cells #[.int .i64 u.k, .int .i64 u.a, .slice ad' u.l.length cap'] 26)) (.cells #[.int .i64 t.k, .int .i64 t.a, .slice ad t.l.length cap, .int .i64 u.k, .int .i64 u.a, .slice ad' u.l.length cap'] 26)
  rw [show ((w.alloc (.cells #[.int .i64 t.k, .int .i64 t.a, .slice ad t.l.length cap] 26)).alloc (.cells #[.int .i64 u.k, .int .i64 u.a, .slice ad' u.l.length cap'] 26)).heap.size = w.heap.size + 1 + 1 by simp] at hrow
  refine (HC.out (fun c => True) _ _ _ (insF_two (E := 26) (ad := ad) (cap := cap) (ad' := ad') (cap' := cap') hrow trivial ((HI.out.of (by (repeat' (first | (with_reducible exact Below.refl _ _) | (with_reducible exact Nat.le_refl _) | (with_reducible refine Below.bel ?_ ?_) | (with_reducible refine Below.alloc ?_ ?_ _) | (with_reducible refine Below.drew ?_) | (with_reducible refine Below.drawsN ?_ _) | (with_reducible refine Below.setCell ?_ ?_ _) | (with_reducible refine le_bel ?_) | (with_reducible refine le_alloc ?_) | (with_reducible refine le_setCell ?_) | (with_reducible refine le_drew ?_) | (with_reducible refine le_drawsN ?_) | (dsimp only; with_reducible refine le_bel ?_) | (dsimp only; with_reducible refine Nat.le_refl _) | (dsimp only; with_reducible refine le_bel_add ?_) | (with_reducible assumption) | omega | (dsimp only; omega))))).imp fun _ _ _ => trivial) ((HI'.out.of (by (repeat' (first | (with_reducible exact Below.refl _ _) | (with_reducible exact Nat.le_refl _) | (with_reducible refine Below.bel ?_ ?_) | (with_reducible refine Below.alloc ?_ ?_ _) | (with_reducible refine Below.drew ?_) | (with_reducible refine Below.drawsN ?_ _) | (with_reducible refine Below.setCell ?_ ?_ _) | (with_reducible refine le_bel ?_) | (with_reducible refine le_alloc ?_) | (with_reducible refine le_setCell ?_) | (with_reducible refine le_drew ?_) | (with_reducible refine le_drawsN ?_) | (dsimp only; with_reducible refine le_bel ?_) | (dsimp only; with_reducible refine Nat.le_refl _) | (dsimp only; with_reducible refine le_bel_add ?_) | (with_reducible assumption) | omega | (dsimp only; omega))))).imp fun _ _ _ => trivial))).mono ?_
  rintro _ _ ⟨rfl, y1, rfl⟩
  dsimp only
  go_wp2
  refine bodyPost_ret (v := .tuple #[.bool false, .int .i64 q]) (by simp [results, Tryz.results17, go_sem]) rfl (Ret.mk (by rfl) (by (repeat' (first | (with_reducible exact Below.refl _ _) | (with_reducible exact Nat.le_refl _) | (with_reducible refine Below.bel ?_ ?_) | (with_reducible refine Below.alloc ?_ ?_ _) | (with_reducible refine Below.drew ?_) | (with_reducible refine Below.drawsN ?_ _) | (with_reducible refine Below.setCell ?_ ?_ _) | (with_reducible refine le_bel ?_) | (with_reducible refine le_alloc ?_) | (with_reducible refine le_setCell ?_) | (with_reducible refine le_drew ?_) | (with_reducible refine le_drawsN ?_) | (dsimp only; with_reducible refine le_bel ?_) | (dsimp only; with_reducible refine Nat.le_refl _) | (dsimp only; with_reducible refine le_bel_add ?_) | (with_reducible assumption) | omega | (dsimp only; omega)))))
end Go.Proofs.YtkbellmhanpocaaGreatDoor
