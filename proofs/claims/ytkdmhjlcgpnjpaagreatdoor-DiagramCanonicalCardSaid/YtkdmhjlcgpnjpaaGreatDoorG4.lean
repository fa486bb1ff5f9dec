/- single, and Check of a formula. Check of a formula. -/
import Derived.Test.YtkdmhjlcgpnjpaaGreatDoorG2
import Derived.RangeFuncWrites
namespace Go.Proofs.YtkdmhjlcgpnjpaaGreatDoor
set_option linter.unusedVariables false
set_option linter.unusedSimpArgs false
open Go.RowKit Go.Shelf F
attribute [local go_sem low] Bel.cell Bel.frozen alloc_cell alloc_frozen

set_option maxRecDepth 100000 in
set_option maxHeartbeats 6400000 in
theorem single_any (k a : Int) (l : List F) (n : Nat) (ad : Option Addr) (cap : Nat) (w : World) (hn : l.length = n) : Calls Tryz.prog 87 #[.agg #[.int .i64 k, .int .i64 a, .slice ad n cap]] w (Ret (.int .i64 (single (nd k a l))) w) := by
  rw [single, hn]
  clear hn
  have hn0 : decide ((n : Int) < 0) = false := decide_eq_false (by omega)
  by_cases h1 : k = 1
  · subst h1
    rw [if_pos rfl]
    by_cases h2 : a < 0
    · have f1 : decide (a < 0) = true := decide_eq_true h2
      rw [if_pos (.inl h2)]
      go_enter Tryz.func87, Tryz.ntmps87
      go_wp2
      go_ret
      exact Ret.mk (by rfl) (by (repeat' (first | (with_reducible first | exact Below.refl _ _ | exact Nat.le_refl _ | refine Below.bel ?_ ?_ | refine Below.alloc ?_ ?_ _ | refine Below.drew ?_ | refine Below.drawsN ?_ _ | refine Below.setCell ?_ ?_ _ | refine le_bel ?_ | refine le_alloc ?_ | refine le_setCell ?_ | refine le_drew ?_ | refine le_drawsN ?_) | (dsimp only; with_reducible first | refine le_bel ?_ | refine Nat.le_refl _ | refine le_bel_add ?_) | (with_reducible assumption) | omega | (dsimp only; omega))))
    · have f1 : decide (a < 0) = false := decide_eq_false h2
      by_cases h3 : 4096 ≤ a
      · have f2 : decide (4096 ≤ a) = true := decide_eq_true h3
        rw [if_pos (.inr h3)]
        go_enter Tryz.func87, Tryz.ntmps87
        go_wp2
        go_ret
        exact Ret.mk (by rfl) (by (repeat' (first | (with_reducible first | exact Below.refl _ _ | exact Nat.le_refl _ | refine Below.bel ?_ ?_ | refine Below.alloc ?_ ?_ _ | refine Below.drew ?_ | refine Below.drawsN ?_ _ | refine Below.setCell ?_ ?_ _ | refine le_bel ?_ | refine le_alloc ?_ | refine le_setCell ?_ | refine le_drew ?_ | refine le_drawsN ?_) | (dsimp only; with_reducible first | refine le_bel ?_ | refine Nat.le_refl _ | refine le_bel_add ?_) | (with_reducible assumption) | omega | (dsimp only; omega))))
      · have f2 : decide (4096 ≤ a) = false := decide_eq_false h3
        rw [if_neg (by omega)]
        by_cases h4 : n = 0
        · subst h4
          rw [if_pos rfl]
          go_enter Tryz.func87, Tryz.ntmps87
          go_wp2
          go_ret
          exact Ret.mk (by rfl) (by (repeat' (first | (with_reducible first | exact Below.refl _ _ | exact Nat.le_refl _ | refine Below.bel ?_ ?_ | refine Below.alloc ?_ ?_ _ | refine Below.drew ?_ | refine Below.drawsN ?_ _ | refine Below.setCell ?_ ?_ _ | refine le_bel ?_ | refine le_alloc ?_ | refine le_setCell ?_ | refine le_drew ?_ | refine le_drawsN ?_) | (dsimp only; with_reducible first | refine le_bel ?_ | refine Nat.le_refl _ | refine le_bel_add ?_) | (with_reducible assumption) | omega | (dsimp only; omega))))
        · have f3 : decide (0 < (n : Int)) = true := decide_eq_true (by omega)
          rw [if_neg h4]
          go_enter Tryz.func87, Tryz.ntmps87
          go_wp2
          go_ret
          exact Ret.mk (by rfl) (by (repeat' (first | (with_reducible first | exact Below.refl _ _ | exact Nat.le_refl _ | refine Below.bel ?_ ?_ | refine Below.alloc ?_ ?_ _ | refine Below.drew ?_ | refine Below.drawsN ?_ _ | refine Below.setCell ?_ ?_ _ | refine le_bel ?_ | refine le_alloc ?_ | refine le_setCell ?_ | refine le_drew ?_ | refine le_drawsN ?_) | (dsimp only; with_reducible first | refine le_bel ?_ | refine Nat.le_refl _ | refine le_bel_add ?_) | (with_reducible assumption) | omega | (dsimp only; omega))))
  · have e1 : (k == 1) = false := beq_eq_false_iff_ne.2 h1
    rw [if_neg h1]
    by_cases h2 : k = 2
    · subst h2
      rw [if_pos rfl]
      by_cases ha : a = 0
      · subst ha
        have g1 : ((0 : Int) == 0) = true := rfl
        by_cases hn1 : n = 1
        · subst hn1
          rw [if_pos ⟨rfl, rfl⟩]
          go_enter Tryz.func87, Tryz.ntmps87
          go_wp2
          go_ret
          exact Ret.mk (by rfl) (by (repeat' (first | (with_reducible first | exact Below.refl _ _ | exact Nat.le_refl _ | refine Below.bel ?_ ?_ | refine Below.alloc ?_ ?_ _ | refine Below.drew ?_ | refine Below.drawsN ?_ _ | refine Below.setCell ?_ ?_ _ | refine le_bel ?_ | refine le_alloc ?_ | refine le_setCell ?_ | refine le_drew ?_ | refine le_drawsN ?_) | (dsimp only; with_reducible first | refine le_bel ?_ | refine Nat.le_refl _ | refine le_bel_add ?_) | (with_reducible assumption) | omega | (dsimp only; omega))))
        · rw [if_neg (fun h => hn1 h.2)]
          by_cases hn2 : n = 0
          · subst hn2
            go_enter Tryz.func87, Tryz.ntmps87
            go_wp2
            go_ret
            exact Ret.mk (by rfl) (by (repeat' (first | (with_reducible first | exact Below.refl _ _ | exact Nat.le_refl _ | refine Below.bel ?_ ?_ | refine Below.alloc ?_ ?_ _ | refine Below.drew ?_ | refine Below.drawsN ?_ _ | refine Below.setCell ?_ ?_ _ | refine le_bel ?_ | refine le_alloc ?_ | refine le_setCell ?_ | refine le_drew ?_ | refine le_drawsN ?_) | (dsimp only; with_reducible first | refine le_bel ?_ | refine Nat.le_refl _ | refine le_bel_add ?_) | (with_reducible assumption) | omega | (dsimp only; omega))))
          · have f3 : decide (1 < (n : Int)) = true := decide_eq_true (by omega)
            have f4 : decide ((n : Int) < 1) = false := decide_eq_false (by omega)
            go_enter Tryz.func87, Tryz.ntmps87
            go_wp2
            go_ret
            exact Ret.mk (by rfl) (by (repeat' (first | (with_reducible first | exact Below.refl _ _ | exact Nat.le_refl _ | refine Below.bel ?_ ?_ | refine Below.alloc ?_ ?_ _ | refine Below.drew ?_ | refine Below.drawsN ?_ _ | refine Below.setCell ?_ ?_ _ | refine le_bel ?_ | refine le_alloc ?_ | refine le_setCell ?_ | refine le_drew ?_ | refine le_drawsN ?_) | (dsimp only; with_reducible first | refine le_bel ?_ | refine Nat.le_refl _ | refine le_bel_add ?_) | (with_reducible assumption) | omega | (dsimp only; omega))))
      · have g1 : (a == 0) = false := beq_eq_false_iff_ne.2 ha
        rw [if_neg (fun h => ha h.1)]
        go_enter Tryz.func87, Tryz.ntmps87
        go_wp2
        go_ret
        exact Ret.mk (by rfl) (by (repeat' (first | (with_reducible first | exact Below.refl _ _ | exact Nat.le_refl _ | refine Below.bel ?_ ?_ | refine Below.alloc ?_ ?_ _ | refine Below.drew ?_ | refine Below.drawsN ?_ _ | refine Below.setCell ?_ ?_ _ | refine le_bel ?_ | refine le_alloc ?_ | refine le_setCell ?_ | refine le_drew ?_ | refine le_drawsN ?_) | (dsimp only; with_reducible first | refine le_bel ?_ | refine Nat.le_refl _ | refine le_bel_add ?_) | (with_reducible assumption) | omega | (dsimp only; omega))))
    · have e2 : (k == 2) = false := beq_eq_false_iff_ne.2 h2
      rw [if_neg h2]
      by_cases h34 : k = 3 ∨ k = 4
      · rw [if_pos h34]
        by_cases ha : a = 0
        · subst ha
          by_cases hb : n ≤ 10000
          · have f3 : decide (10000 < (n : Int)) = false := decide_eq_false (by omega)
            rw [if_pos ⟨rfl, hb⟩]
            rcases h34 with rfl | rfl
            · go_enter Tryz.func87, Tryz.ntmps87
              go_wp2
              go_ret
              exact Ret.mk (by rfl) (by (repeat' (first | (with_reducible first | exact Below.refl _ _ | exact Nat.le_refl _ | refine Below.bel ?_ ?_ | refine Below.alloc ?_ ?_ _ | refine Below.drew ?_ | refine Below.drawsN ?_ _ | refine Below.setCell ?_ ?_ _ | refine le_bel ?_ | refine le_alloc ?_ | refine le_setCell ?_ | refine le_drew ?_ | refine le_drawsN ?_) | (dsimp only; with_reducible first | refine le_bel ?_ | refine Nat.le_refl _ | refine le_bel_add ?_) | (with_reducible assumption) | omega | (dsimp only; omega))))
            · go_enter Tryz.func87, Tryz.ntmps87
              go_wp2
              go_ret
              exact Ret.mk (by rfl) (by (repeat' (first | (with_reducible first | exact Below.refl _ _ | exact Nat.le_refl _ | refine Below.bel ?_ ?_ | refine Below.alloc ?_ ?_ _ | refine Below.drew ?_ | refine Below.drawsN ?_ _ | refine Below.setCell ?_ ?_ _ | refine le_bel ?_ | refine le_alloc ?_ | refine le_setCell ?_ | refine le_drew ?_ | refine le_drawsN ?_) | (dsimp only; with_reducible first | refine le_bel ?_ | refine Nat.le_refl _ | refine le_bel_add ?_) | (with_reducible assumption) | omega | (dsimp only; omega))))
          · have f3 : decide (10000 < (n : Int)) = true := decide_eq_true (by omega)
            rw [if_neg (fun h => hb h.2)]
            rcases h34 with rfl | rfl
            · go_enter Tryz.func87, Tryz.ntmps87
              go_wp2
              go_ret
              exact Ret.mk (by rfl) (by (repeat' (first | (with_reducible first | exact Below.refl _ _ | exact Nat.le_refl _ | refine Below.bel ?_ ?_ | refine Below.alloc ?_ ?_ _ | refine Below.drew ?_ | refine Below.drawsN ?_ _ | refine Below.setCell ?_ ?_ _ | refine le_bel ?_ | refine le_alloc ?_ | refine le_setCell ?_ | refine le_drew ?_ | refine le_drawsN ?_) | (dsimp only; with_reducible first | refine le_bel ?_ | refine Nat.le_refl _ | refine le_bel_add ?_) | (with_reducible assumption) | omega | (dsimp only; omega))))
            · go_enter Tryz.func87, Tryz.ntmps87
              go_wp2
              go_ret
              exact Ret.mk (by rfl) (by (repeat' (first | (with_reducible first | exact Below.refl _ _ | exact Nat.le_refl _ | refine Below.bel ?_ ?_ | refine Below.alloc ?_ ?_ _ | refine Below.drew ?_ | refine Below.drawsN ?_ _ | refine Below.setCell ?_ ?_ _ | refine le_bel ?_ | refine le_alloc ?_ | refine le_setCell ?_ | refine le_drew ?_ | refine le_drawsN ?_) | (dsimp only; with_reducible first | refine le_bel ?_ | refine Nat.le_refl _ | refine le_bel_add ?_) | (with_reducible assumption) | omega | (dsimp only; omega))))
        · have g1 : (a == 0) = false := beq_eq_false_iff_ne.2 ha
          rw [if_neg (fun h => ha h.1)]
          rcases h34 with rfl | rfl
          · go_enter Tryz.func87, Tryz.ntmps87
            go_wp2
            go_ret
            exact Ret.mk (by rfl) (by (repeat' (first | (with_reducible first | exact Below.refl _ _ | exact Nat.le_refl _ | refine Below.bel ?_ ?_ | refine Below.alloc ?_ ?_ _ | refine Below.drew ?_ | refine Below.drawsN ?_ _ | refine Below.setCell ?_ ?_ _ | refine le_bel ?_ | refine le_alloc ?_ | refine le_setCell ?_ | refine le_drew ?_ | refine le_drawsN ?_) | (dsimp only; with_reducible first | refine le_bel ?_ | refine Nat.le_refl _ | refine le_bel_add ?_) | (with_reducible assumption) | omega | (dsimp only; omega))))
          · go_enter Tryz.func87, Tryz.ntmps87
            go_wp2
            go_ret
            exact Ret.mk (by rfl) (by (repeat' (first | (with_reducible first | exact Below.refl _ _ | exact Nat.le_refl _ | refine Below.bel ?_ ?_ | refine Below.alloc ?_ ?_ _ | refine Below.drew ?_ | refine Below.drawsN ?_ _ | refine Below.setCell ?_ ?_ _ | refine le_bel ?_ | refine le_alloc ?_ | refine le_setCell ?_ | refine le_drew ?_ | refine le_drawsN ?_) | (dsimp only; with_reducible first | refine le_bel ?_ | refine Nat.le_refl _ | refine le_bel_add ?_) | (with_reducible assumption) | omega | (dsimp only; omega))))
      · have e3 : (k == 3) = false := beq_eq_false_iff_ne.2 (by omega)
        have e4 : (k == 4) = false := beq_eq_false_iff_ne.2 (by omega)
        rw [if_neg h34]
        by_cases h56 : k = 5 ∨ k = 6
        · rw [if_pos h56]
          by_cases ha : a = 0
          · subst ha
            by_cases hb : n = 0
            · subst hb
              rw [if_pos ⟨rfl, rfl⟩]
              rcases h56 with rfl | rfl
              · go_enter Tryz.func87, Tryz.ntmps87
                go_wp2
                go_ret
                exact Ret.mk (by rfl) (by (repeat' (first | (with_reducible first | exact Below.refl _ _ | exact Nat.le_refl _ | refine Below.bel ?_ ?_ | refine Below.alloc ?_ ?_ _ | refine Below.drew ?_ | refine Below.drawsN ?_ _ | refine Below.setCell ?_ ?_ _ | refine le_bel ?_ | refine le_alloc ?_ | refine le_setCell ?_ | refine le_drew ?_ | refine le_drawsN ?_) | (dsimp only; with_reducible first | refine le_bel ?_ | refine Nat.le_refl _ | refine le_bel_add ?_) | (with_reducible assumption) | omega | (dsimp only; omega))))
              · go_enter Tryz.func87, Tryz.ntmps87
                go_wp2
                go_ret
                exact Ret.mk (by rfl) (by (repeat' (first | (with_reducible first | exact Below.refl _ _ | exact Nat.le_refl _ | refine Below.bel ?_ ?_ | refine Below.alloc ?_ ?_ _ | refine Below.drew ?_ | refine Below.drawsN ?_ _ | refine Below.setCell ?_ ?_ _ | refine le_bel ?_ | refine le_alloc ?_ | refine le_setCell ?_ | refine le_drew ?_ | refine le_drawsN ?_) | (dsimp only; with_reducible first | refine le_bel ?_ | refine Nat.le_refl _ | refine le_bel_add ?_) | (with_reducible assumption) | omega | (dsimp only; omega))))
            · have f3 : decide (0 < (n : Int)) = true := decide_eq_true (by omega)
              rw [if_neg (fun h => hb h.2)]
              rcases h56 with rfl | rfl
              · go_enter Tryz.func87, Tryz.ntmps87
                go_wp2
                go_ret
                exact Ret.mk (by rfl) (by (repeat' (first | (with_reducible first | exact Below.refl _ _ | exact Nat.le_refl _ | refine Below.bel ?_ ?_ | refine Below.alloc ?_ ?_ _ | refine Below.drew ?_ | refine Below.drawsN ?_ _ | refine Below.setCell ?_ ?_ _ | refine le_bel ?_ | refine le_alloc ?_ | refine le_setCell ?_ | refine le_drew ?_ | refine le_drawsN ?_) | (dsimp only; with_reducible first | refine le_bel ?_ | refine Nat.le_refl _ | refine le_bel_add ?_) | (with_reducible assumption) | omega | (dsimp only; omega))))
              · go_enter Tryz.func87, Tryz.ntmps87
                go_wp2
                go_ret
                exact Ret.mk (by rfl) (by (repeat' (first | (with_reducible first | exact Below.refl _ _ | exact Nat.le_refl _ | refine Below.bel ?_ ?_ | refine Below.alloc ?_ ?_ _ | refine Below.drew ?_ | refine Below.drawsN ?_ _ | refine Below.setCell ?_ ?_ _ | refine le_bel ?_ | refine le_alloc ?_ | refine le_setCell ?_ | refine le_drew ?_ | refine le_drawsN ?_) | (dsimp only; with_reducible first | refine le_bel ?_ | refine Nat.le_refl _ | refine le_bel_add ?_) | (with_reducible assumption) | omega | (dsimp only; omega))))
          · have g1 : (a == 0) = false := beq_eq_false_iff_ne.2 ha
            rw [if_neg (fun h => ha h.1)]
            rcases h56 with rfl | rfl
            · go_enter Tryz.func87, Tryz.ntmps87
              go_wp2
              go_ret
              exact Ret.mk (by rfl) (by (repeat' (first | (with_reducible first | exact Below.refl _ _ | exact Nat.le_refl _ | refine Below.bel ?_ ?_ | refine Below.alloc ?_ ?_ _ | refine Below.drew ?_ | refine Below.drawsN ?_ _ | refine Below.setCell ?_ ?_ _ | refine le_bel ?_ | refine le_alloc ?_ | refine le_setCell ?_ | refine le_drew ?_ | refine le_drawsN ?_) | (dsimp only; with_reducible first | refine le_bel ?_ | refine Nat.le_refl _ | refine le_bel_add ?_) | (with_reducible assumption) | omega | (dsimp only; omega))))
            · go_enter Tryz.func87, Tryz.ntmps87
              go_wp2
              go_ret
              exact Ret.mk (by rfl) (by (repeat' (first | (with_reducible first | exact Below.refl _ _ | exact Nat.le_refl _ | refine Below.bel ?_ ?_ | refine Below.alloc ?_ ?_ _ | refine Below.drew ?_ | refine Below.drawsN ?_ _ | refine Below.setCell ?_ ?_ _ | refine le_bel ?_ | refine le_alloc ?_ | refine le_setCell ?_ | refine le_drew ?_ | refine le_drawsN ?_) | (dsimp only; with_reducible first | refine le_bel ?_ | refine Nat.le_refl _ | refine le_bel_add ?_) | (with_reducible assumption) | omega | (dsimp only; omega))))
        · have e5 : (k == 5) = false := beq_eq_false_iff_ne.2 (by omega)
          have e6 : (k == 6) = false := beq_eq_false_iff_ne.2 (by omega)
          rw [if_neg h56]
          go_enter Tryz.func87, Tryz.ntmps87
          go_wp2
          go_ret
          exact Ret.mk (by rfl) (by (repeat' (first | (with_reducible first | exact Below.refl _ _ | exact Nat.le_refl _ | refine Below.bel ?_ ?_ | refine Below.alloc ?_ ?_ _ | refine Below.drew ?_ | refine Below.drawsN ?_ _ | refine Below.setCell ?_ ?_ _ | refine le_bel ?_ | refine le_alloc ?_ | refine le_setCell ?_ | refine le_drew ?_ | refine le_drawsN ?_) | (dsimp only; with_reducible first | refine le_bel ?_ | refine Nat.le_refl _ | refine le_bel_add ?_) | (with_reducible assumption) | omega | (dsimp only; omega))))
end Go.Proofs.YtkdmhjlcgpnjpaaGreatDoor

namespace Go.Proofs.YtkdmhjlcgpnjpaaGreatDoor
set_option linter.unusedVariables false
set_option linter.unusedSimpArgs false
open Go.RowKit Go.Shelf F
attribute [local go_sem low] Bel.cell Bel.frozen alloc_cell alloc_frozen
attribute [local go_sem] Oper.semAt_some

theorem keepsB_bel {n₀ n₁ : Nat} {W : World} (x : Bel W) (hn : n₀ ≤ W.heap.size) : KeepsB n₀ n₁ W x.w :=
  ⟨x.below.mono hn, fun b vs e r _ _ hv => (x.below.block b (Array.getElem?_eq_some_iff.1 hv).1).trans hv⟩
theorem obj_own (B b : Nat) (o : Obj) (ho : o.isCells = true) {β : Type} : OwnFrom B (fun (_ : β) W => W.heap[b]? = some o) := fun s W W' row hs hg hr => by
  refine (hg.block b (Array.getElem?_eq_some_iff.1 hs).1 (fun hk => ?_)).trans hs
  obtain ⟨_, o', h1, h2⟩ := hr b hk.symm
  rw [hs] at h1
  injection h1 with h1
  rw [← h1, ho] at h2
  cases h2
theorem firstE_prefix {q l : List F} (h : q <+: l) {p : List F} {x : F} (hq : q = p ++ [x]) (h0 : firstE p = 0) (h1 : single x ≠ 0) : firstE l = single x := by
  obtain ⟨r, hr⟩ := h
  rw [← hr, hq, List.append_assoc, firstE_app, if_pos h0]
  show firstE (x :: r) = _
  rw [firstE, if_neg h1]
theorem firstE_snoc {p : List F} {x : F} (h0 : firstE p = 0) (h1 : single x = 0) : firstE (p ++ [x]) = 0 := by
  rw [firstE_app, if_pos h0, firstE, if_pos h1, firstE]
theorem heap3_0 (w : World) (a b c : Obj) : (((w.alloc a).alloc b).alloc c).heap[w.heap.size]? = some a := by
  have h1 : (w.alloc a).heap[w.heap.size]? = some a := World.alloc_heap_new w a
  have h2 := (Below.heap_alloc (w.alloc a) b w.heap.size (by simp)).trans h1
  exact (Below.heap_alloc _ c w.heap.size (by simp; omega)).trans h2
theorem heap3_1 (w : World) (a b c : Obj) : (((w.alloc a).alloc b).alloc c).heap[w.heap.size + 1]? = some b := by
  have h1 : ((w.alloc a).alloc b).heap[(w.alloc a).heap.size]? = some b := World.alloc_heap_new _ b
  rw [World.size_alloc] at h1
  exact (Below.heap_alloc _ c (w.heap.size + 1) (by simp)).trans h1
theorem heap2_0 (w : World) (a b : Obj) : ((w.alloc a).alloc b).heap[w.heap.size]? = some a := by
  have h1 : (w.alloc a).heap[w.heap.size]? = some a := World.alloc_heap_new w a
  exact (Below.heap_alloc (w.alloc a) b w.heap.size (by simp)).trans h1
theorem heap2_1 (w : World) (a b : Obj) : ((w.alloc a).alloc b).heap[w.heap.size + 1]? = some b := by
  have h1 : ((w.alloc a).alloc b).heap[(w.alloc a).heap.size]? = some b := World.alloc_heap_new _ b
  rwa [World.size_alloc] at h1
set_option maxRecDepth 100000 in
set_option maxHeartbeats 6400000 in
theorem check_any (P : Nat → Prop) (t : F) (ad : Option Addr) (cap : Nat) (w : World) (hi : InsF P w ad t.l) (hbig : nodes t ≤ 1000000000000) :
    Calls Tryz.prog 44 #[.agg #[.int .i64 t.k, .int .i64 t.a, .slice ad t.l.length cap]] w (Ret (.int .i64 (checkF t)) w) := by
  have hlt : InsF (fun c => c < w.heap.size) w ad t.l := hi.imp fun b hb _ => hb
  have HM := Lib.hid (fun w' (hi : InsF (fun c => c < w.heap.size + 2) w' ad t.l) (hs : SizeAt w' (w.heap.size + 2) (0 : Nat) (0 : Nat)) => measure_any (nodes t) t (Nat.le_refl _) ad cap 1 0 0 (w.heap.size + 2) 1 w' rfl hi hs hbig (by omega) (by omega) (by omega))
  have HF := Lib.hid (meas_fits t)
  obtain ⟨⟨qb, qn, qm⟩, hq⟩ : ∃ q, meas t 1 0 0 = q := ⟨_, rfl⟩
  rw [hq] at HM HF
  have HC : checkF t = if qb then firstE (pre t) else 4 := by
    have := HF.out
    dsimp only at this
    rw [this]
    rfl
  rw [HC]
  clear hi hq HC HF
  have hw1 := hlt.of (w' := ((w.alloc (.cells #[.int .i64 t.k, .int .i64 t.a, .slice ad t.l.length cap] 26)).alloc (.cells #[.int .i64 0] 31)).alloc (.cells #[.int .i64 0, .int .i64 0] 134)) (by (repeat' (first | (with_reducible first | exact Below.refl _ _ | exact Nat.le_refl _ | refine Below.bel ?_ ?_ | refine Below.alloc ?_ ?_ _ | refine Below.drew ?_ | refine Below.drawsN ?_ _ | refine Below.setCell ?_ ?_ _ | refine le_bel ?_ | refine le_alloc ?_ | refine le_setCell ?_ | refine le_drew ?_ | refine le_drawsN ?_) | (dsimp only; with_reducible first | refine le_bel ?_ | refine Nat.le_refl _ | refine le_bel_add ?_) | (with_reducible assumption) | omega | (dsimp only; omega))))
  cases qb
  · go_enter Tryz.func44, Tryz.ntmps44
    go_wp2_with fail
    refine (HM.out _ (hw1.imp fun b _ hb => by omega) ⟨by simp [go_sem], by simp [go_sem], by simp [go_sem], by simp [go_sem]⟩).mono ?_
    rintro _ w2 ⟨rfl, _, hb2, hz2⟩
    simp at hz2
    have hO1 := Lib.hid ((hb2.block (w.heap.size + 1) (by omega)).trans (heap3_1 w _ _ _))
    have r0 := Boxed.cell hO1.out
    have r1 := Boxed.frozen hO1.out
    have hbw : Below w.heap.size w w2 := Below.trans (by (repeat' (first | (with_reducible first | exact Below.refl _ _ | exact Nat.le_refl _ | refine Below.bel ?_ ?_ | refine Below.alloc ?_ ?_ _ | refine Below.drew ?_ | refine Below.drawsN ?_ _ | refine Below.setCell ?_ ?_ _ | refine le_bel ?_ | refine le_alloc ?_ | refine le_setCell ?_ | refine le_drew ?_ | refine le_drawsN ?_) | (dsimp only; with_reducible first | refine le_bel ?_ | refine Nat.le_refl _ | refine le_bel_add ?_) | (with_reducible assumption) | omega | (dsimp only; omega)))) (hb2.mono (by omega))
    dsimp only
    go_wp2
    have hrd : (w2.setCell ⟨w.heap.size + 1, 0, none⟩ (.int .i64 4)).cell? ⟨w.heap.size + 1, 0, none⟩ = some (.int .i64 4) := World.cell?_setCell_same' _ _ _ (by rw [r0]; rfl)
    refine bodyPost_ret (v := .int .i64 4) (by simp [results, Tryz.results44, go_sem, hrd]) rfl (Ret.mk (by rfl) (by (repeat' (first | (with_reducible first | exact Below.refl _ _ | exact Nat.le_refl _ | refine Below.bel ?_ ?_ | refine Below.alloc ?_ ?_ _ | refine Below.drew ?_ | refine Below.drawsN ?_ _ | refine Below.setCell ?_ ?_ _ | refine le_bel ?_ | refine le_alloc ?_ | refine le_setCell ?_ | refine le_drew ?_ | refine le_drawsN ?_) | (dsimp only; with_reducible first | refine le_bel ?_ | refine Nat.le_refl _ | refine le_bel_add ?_) | (with_reducible assumption) | omega | (dsimp only; omega)))))
  refine (callsIn_wide (n := 3)).1 ?_
  refine callsIn_of_wp_marks Tryz.func44 rfl trivial ?_ rfl
  simp only [Tryz.ntmps44, List.size_toArray, List.length_cons, List.length_nil, Nat.reduceAdd, Nat.reduceSub, Array.replicate_succ, Array.replicate_zero, List.push_toArray, List.append_toArray, List.nil_append, List.cons_append]
  · gi_wp2_with (first | (refine ⟨trivial, ?_⟩; gi_at_call 85; refine (callsIn_wide.2 (HM.out _ (hw1.imp fun b _ hb => by omega) ⟨by simp [go_sem], by simp [go_sem], by simp [go_sem], by simp [go_sem]⟩)).mono ?_; rintro _ w2 ⟨rfl, _, hb2, hz2⟩; simp at hz2; have hO0 := Lib.hid ((hb2.block w.heap.size (by omega)).trans (heap3_0 w _ _ _)); have hO1 := Lib.hid ((hb2.block (w.heap.size + 1) (by omega)).trans (heap3_1 w _ _ _)); obtain ⟨c0, c1, c2⟩ := box3 hO0.out; have r0 := Boxed.cell hO1.out; have r1 := Boxed.frozen hO1.out; have hbw := Lib.hid (show Below w.heap.size w w2 from Below.trans (by (repeat' (first | (with_reducible first | exact Below.refl _ _ | exact Nat.le_refl _ | refine Below.bel ?_ ?_ | refine Below.alloc ?_ ?_ _ | refine Below.drew ?_ | refine Below.drawsN ?_ _ | refine Below.setCell ?_ ?_ _ | refine le_bel ?_ | refine le_alloc ?_ | refine le_setCell ?_ | refine le_drew ?_ | refine le_drawsN ?_) | (dsimp only; with_reducible first | refine le_bel ?_ | refine Nat.le_refl _ | refine le_bel_add ?_) | (with_reducible assumption) | omega | (dsimp only; omega)))) (hb2.mono (by omega))); have hi2 := Lib.hid (hw1.move (P := fun c => c < w.heap.size) (w' := w2) (fun c off u hc hu => by rw [hb2.cell (p := ⟨c, off, none⟩) (show c < w.heap.size + 2 by omega)]; exact hu) (fun _ _ h => h)); clear hb2 hw1) | (refine ⟨trivial, ?_⟩; gi_at_call 86; refine (callsIn_wide.2 (nodes_any t ad cap _)).mono ?_; rintro _ _ ⟨rfl, rfl⟩))
    obtain ⟨W0, hW0⟩ : ∃ W0, ((w2.alloc (.cells #[.int .i64 t.k, .int .i64 t.a, .slice ad t.l.length cap] 26)).alloc (.cells #[walkV (w2.heap.size + 1)] 166)) = W0 := ⟨_, rfl⟩
    have hsz0 : W0.heap.size = w2.heap.size + 2 := by rw [← hW0]; simp
    have hwalk : WalkAt W0 (w2.heap.size + 1) := by rw [← hW0]; exact heap2_1 _ _ _
    have hbox : W0.heap[w2.heap.size]? = some (.cells #[.int .i64 t.k, .int .i64 t.a, .slice ad t.l.length cap] 26 (0, 0)) := by rw [← hW0]; exact heap2_0 _ _ _
    have hres : W0.heap[w.heap.size + 1]? = some (.cells #[.int .i64 0] 31 (0, 0)) := by
      rw [← hW0]
      exact (Below.heap_alloc _ _ (w.heap.size + 1) (by simp; omega)).trans ((Below.heap_alloc _ _ (w.heap.size + 1) (by omega)).trans hO1.out)
    have hB0 : Below w.heap.size w W0 := by rw [← hW0]; exact (hbw.out.alloc (by omega) _).alloc (by simp; omega) _
    have hi0 : InsF (fun c => c < w.heap.size) W0 ad t.l := by rw [← hW0]; exact hi2.out.of (by (repeat' (first | (with_reducible first | exact Below.refl _ _ | exact Nat.le_refl _ | refine Below.bel ?_ ?_ | refine Below.alloc ?_ ?_ _ | refine Below.drew ?_ | refine Below.drawsN ?_ _ | refine Below.setCell ?_ ?_ _ | refine le_bel ?_ | refine le_alloc ?_ | refine le_setCell ?_ | refine le_drew ?_ | refine le_drawsN ?_) | (dsimp only; with_reducible first | refine le_bel ?_ | refine Nat.le_refl _ | refine le_bel_add ?_) | (with_reducible assumption) | omega | (dsimp only; omega))))
    rw [hW0]
    refine wpIn_rangeFunc_ownH rfl (by omega : 1 ≤ 3) (gf := 114) (lb := #[.pointer (some ⟨w2.heap.size + 1, 0, none⟩), .pointer (some ⟨w2.heap.size, 0, none⟩)]) rfl trivial (enters_of Tryz.func114 (by kernel_rfl) rfl)
      (nodes_stops (3 - 1) w.heap.size w2.heap.size (w2.heap.size + 1) w2.heap.size t ad cap W0 (by omega) (Nat.le_refl _) (by omega) (by omega) hbig hi0 hwalk hbox) keepsB_t (keepsB_b (by omega)) (Below.refl _ _) (fun _ => rfl)
      (fun p W => (firstE (p.map (·.1)) = 0 ∧ W.heap[w.heap.size + 1]? = some (.cells #[.int .i64 0] 31 (0, 0))) ∧ Below w.heap.size w W)
      (fun c q W => (c = .ret ∧ ∃ (p : List Nd) (x : Nd), q = p ++ [x] ∧ firstE (p.map (·.1)) = 0 ∧ single x.1 ≠ 0 ∧ W.heap[w.heap.size + 1]? = some (.cells #[.int .i64 (single x.1)] 31 (0, 0))) ∧ Below w.heap.size w W)
      (OwnFrom.and (OwnFrom.and (ownFrom_pure _ _) (obj_own _ _ _ rfl)) (ownFrom_below (Nat.le_refl _) (by omega)))
      (fun c => OwnFrom.and (fun s A B row hs hg hr => by
        obtain ⟨hc, p, x, h1, h2, h3, h4⟩ := hs
        exact ⟨hc, p, x, h1, h2, h3, obj_own _ _ _ rfl () A B row h4 hg hr⟩) (ownFrom_below (Nat.le_refl _) (by omega)))
      ⟨⟨rfl, hres⟩, hB0⟩
      (fun x a' W => ∃ Bx, W.heap[Bx]? = some (.cells #[.int .i64 x.1.k, .int .i64 x.1.a, .slice x.2.1 x.1.l.length x.2.2] 26 (0, 0)) ∧ a' = { tmps := #[.agg #[.int .i64 t.k, .int .i64 t.a, .slice ad t.l.length cap], .pointer (some ⟨w.heap.size, 0, none⟩), .pointer (some ⟨w.heap.size + 1, 0, none⟩), .pointer (some ⟨Bx, 0, none⟩), undef,
        .agg #[.int .i64 t.k, .int .i64 t.a, .slice ad t.l.length cap], .agg #[.int .i64 0, .int .i64 0], .pointer (some ⟨w.heap.size + 1 + 1, 0, none⟩), .bool true, .bool false, .agg #[.int .i64 t.k, .int .i64 t.a, .slice ad t.l.length cap],
        .func (.func 114) #[] #[.pointer (some ⟨w2.heap.size + 1, 0, none⟩), .pointer (some ⟨w2.heap.size, 0, none⟩)], .agg #[.int .i64 x.1.k, .int .i64 x.1.a, .slice x.2.1 x.1.l.length x.2.2], undef, undef, undef, undef, undef], defers := [] })
      (fun x a' _ X Y row hs hg hr => by obtain ⟨Bx, e1, e2⟩ := hs; exact ⟨Bx, obj_own _ _ _ rfl () X Y row e1 hg hr, e2⟩)
      ?assign ?body ?done ?stop
    case assign =>
      rintro l p x W K ⟨⟨hp, hr⟩, hB⟩ hK
      have hBs := hB.size
      dsimp only [ndV]
      gi_wp2
      exact hK _ _ ((KeepsOthers.alloc _ _).from _) (keepsB_alloc (keepsB_refl _ _ _) (by omega) _) ⟨⟨hp, (Below.heap_alloc _ _ (w.heap.size + 1) (Array.getElem?_eq_some_iff.1 hr).1).trans hr⟩, hB.alloc (by omega) _⟩ ⟨W.heap.size, World.alloc_heap_new W _, rfl⟩
    case body =>
      rintro l p x a' W hl ⟨r, hrl⟩ ⟨⟨hp, hr⟩, hB⟩ ⟨Bx, hbx, rfl⟩ hlt
      obtain ⟨c0', c1', c2'⟩ := box3 hbx
      have hBs := hB.size
      have HS := Lib.hid (show single (nd x.1.k x.1.a x.1.l) = single x.1 by rw [← F_eta])
      by_cases hs : single x.1 = 0
      · have hs0 : (single x.1 == 0) = true := beq_iff_eq.2 hs
        have HSS := Lib.hid hs
        clear hs
        gi_wp2_with (refine ⟨trivial, ?_⟩; gi_at_call 87; refine (CallsIn.inRound l (callsIn_wide.2 (single_any _ _ x.1.l _ _ _ _ rfl))).mono ?_; rintro _ _ ⟨rfl, y, rfl⟩; rw [HS.out]; have hry := (bel_heap y hr); have r0 := Boxed.cell hry; have r1 := Boxed.frozen hry; have hys := y.size_le)
        exact ⟨(bel_keeps y).from _, keepsB_bel y hBs, ⟨by rw [List.map_append]; exact firstE_snoc hp HSS.out, hry⟩, hB.trans (y.below.mono hBs)⟩
      · have hs0 : (single x.1 == 0) = false := beq_eq_false_iff_ne.2 hs
        have HSS := Lib.hid hs
        clear hs
        gi_wp2_with (refine ⟨trivial, ?_⟩; gi_at_call 87; refine (CallsIn.inRound l (callsIn_wide.2 (single_any _ _ x.1.l _ _ _ _ rfl))).mono ?_; rintro _ _ ⟨rfl, y, rfl⟩; rw [HS.out]; have hry := (bel_heap y hr); have r0 := Boxed.cell hry; have r1 := Boxed.frozen hry; have hys := y.size_le)
        refine ⟨((bel_keeps y).trans (KeepsOthers.setCell _ _ _)).from _, ⟨⟨rfl, p, x, rfl, hp, HSS.out, ?_⟩, (hB.trans (y.below.mono hBs)).setCell (p := ⟨w.heap.size + 1, 0, none⟩) (by simp) _⟩⟩
        exact Boxed.set _ hry
    case done =>
      rintro D ys W hD hys ⟨⟨hp, hr⟩, hB⟩ hK
      have r0 := Boxed.cell hr
      have r1 := Boxed.frozen hr
      rw [hys] at hp
      have HP := Lib.hid hp
      clear hp
      gi_wp2
      have hK' := (KeepsOthers.setCell W ⟨w.heap.size + 1, 0, none⟩ (.int .i64 0)).same D _ hK rfl
      refine ⟨by simp, .inl ⟨_, _, rfl, run_takeDeferred hK', ?_⟩⟩
      have hc5 := cell_kept (Boxed.set (.int .i64 0) hr).cell (grownBy_putObj' _ D (.deferred none)) (fun r e => by cases e; exact ⟨_, hK', rfl⟩)
      refine ⟨.int .i64 0, ?_, Ret.mk (by rw [HP.out]) ((hB.setCell (p := ⟨w.heap.size + 1, 0, none⟩) (by simp) _).trans (belowK_b (w := w) (Nat.le_refl _) _ D _ _ (by omega) hK' rfl rfl))⟩
      simp [results, Tryz.f44, go_sem, hc5]
    case stop =>
      rintro D c q W hD hq ⟨⟨rfl, p, x, rfl, hp, hs, hr⟩, hB⟩ hK
      have r0 := Boxed.cell hr
      have HE := Lib.hid (firstE_prefix (p := p.map (·.1)) (x := x.1) hq (by rw [List.map_append]; rfl) hp hs)
      clear hq hp hs
      gi_wp2
      refine ⟨by simp, .inl ⟨_, _, rfl, run_takeDeferred hK, ?_⟩⟩
      have hc5 := cell_kept (Boxed.cell hr) (grownBy_putObj' _ D (.deferred none)) (fun r e => by cases e; exact ⟨_, hK, rfl⟩)
      refine ⟨.int .i64 (single x.1), ?_, Ret.mk (by rw [HE.out]) (hB.trans (belowK_b (w := w) (Nat.le_refl _) W D _ _ (by omega) hK rfl rfl))⟩
      simp [results, Tryz.f44, go_sem, hc5]
end Go.Proofs.YtkdmhjlcgpnjpaaGreatDoor
