/- Terms. -/
import Derived.RangeFuncNested
import Derived.RangeFuncBound
import Derived.RangeFuncCalls
import Derived.RangeFuncLeaves
import Derived.Shelf.Abstract
import Derived.Shelf.RegionOpen
import Derived.WalkKit
import Derived.OwnWalkIn
import Derived.TacticsInMore
import Derived.LoopNIn
import Derived.LoopIn
import Derived.Test.YtoncbkkhfblpdaaDoorS2
namespace Go.Proofs.YtoncbkkhfblpdaaDoor
open Go.RowKit Go.Shelf
attribute [local go_sem low] Bel.cell Bel.frozen alloc_cell alloc_frozen
attribute [local go_sem] Oper.semAt_some


theorem termsF_any (N D : Int) (w : World) : Calls Tryd.prog 60 #[.agg #[.int .i64 N, .int .i64 D]] w fun e w' => e = .returned (.func (.func 69) #[] #[.pointer (some ⟨w.heap.size, 0, none⟩)]) ∧ w' = w.alloc (.cells #[.int .i64 N, .int .i64 D] 24) := by
  go_enter Tryd.func60, Tryd.ntmps60
  go_wp2
  go_ret
  exact ⟨rfl, rfl⟩
theorem terms_stops (n : Nat) (hn : 1 ≤ n) (Bn n₀ : Nat) (N D : Int) (w : World) (hr : right N D = true) (hBn : Bn < w.heap.size)
    (hc0 : w.cell? ⟨Bn, 0, none⟩ = some (.int .i64 N)) (hc1 : w.cell? ⟨Bn, 1, none⟩ = some (.int .i64 D)) :
    SeqStopsK Fence.wide n Tryd.prog 69 #[.pointer (some ⟨Bn, 0, none⟩)] (fun x : Int => #[Value.int .i64 x]) (Below n₀) (fun ys => ys = termsL N D.toNat) (fun _ => True) 40 w := fun l J Jx W hW hJ _ hY h0 =>
  terms1_in n hn l Bn n₀ N D J Jx hr hY W ((hW.cell (p := ⟨Bn, 0, none⟩) hBn).trans hc0) ((hW.cell (p := ⟨Bn, 1, none⟩) hBn).trans hc1) hJ h0

set_option maxRecDepth 100000 in
set_option maxHeartbeats 4000000 in
theorem terms_any (N D : Int) (w : World) (hr : right N D = true) :
    Calls Tryd.prog 37 #[.agg #[.int .i64 N, .int .i64 D]] w fun e W' => ∃ v, e = .returned (.tuple #[v, .int .i64 0]) ∧ OwnI W' w.heap.size v (termsL N D.toNat) ∧ Below w.heap.size w W' := by
  have hlen := (terms_value hr).2.2
  have hk := Lib.hid (chk_ok hr)
  obtain ⟨i0, hi, hz0, hz1, hz2⟩ := info_parts Tryd.info3
  refine (callsIn_wide (n := 3)).1 ?_
  refine callsIn_of_wp_marks Tryd.func37 rfl trivial ?_ rfl
  simp only [Tryd.ntmps37, List.size_toArray, List.length_cons, List.length_nil, Nat.reduceAdd, Nat.reduceSub, Array.replicate_succ, Array.replicate_zero, List.push_toArray, List.append_toArray, List.nil_append, List.cons_append]
  gi_wp2_with (first | (refine ⟨trivial, ?_⟩; gi_at_call 43; refine (callsIn_wide.2 (check_any _ _ _)).mono ?_; rintro _ _ ⟨rfl, x1, rfl⟩; rw [hk.out]) | (refine ⟨trivial, ?_⟩; gi_at_call 60; refine (callsIn_wide.2 (termsF_any _ _ _)).mono ?_; rintro _ _ ⟨rfl, rfl⟩))
  have hxs := x1.size_le
  have hw0 : w.heap.size < x1.w.heap.size := by simp at hxs; omega
  have bO := Boxed.new x1.w 36 (.slice none 0 0)
  have hB0 : Below w.heap.size w ((x1.w.alloc (.cells #[.slice none 0 0] 36)).alloc (.cells #[.int .i64 N, .int .i64 D] 24)) := by (repeat' (first | (with_reducible exact Below.refl _ _) | (with_reducible exact Nat.le_refl _) | (with_reducible refine Below.bel ?_ ?_) | (with_reducible refine Below.alloc ?_ ?_ _) | (with_reducible refine Below.drew ?_) | (with_reducible refine Below.drawsN ?_ _) | (with_reducible refine Below.setCell ?_ ?_ _) | (with_reducible refine le_bel ?_) | (with_reducible refine le_alloc ?_) | (with_reducible refine le_setCell ?_) | (with_reducible refine le_drew ?_) | (with_reducible refine le_drawsN ?_) | (dsimp only; with_reducible refine le_bel ?_) | (dsimp only; with_reducible refine Nat.le_refl _) | (dsimp only; with_reducible refine le_bel_add ?_) | (with_reducible assumption) | omega | (dsimp only; omega)))
  refine wpIn_rangeFunc_ownG rfl (by omega : 1 ≤ 3) (gf := 69) (lb := #[.pointer (some ⟨x1.w.heap.size + 1, 0, none⟩)]) rfl trivial (enters_of Tryd.func69 (by kernel_rfl) rfl)
    (terms_stops (3 - 1) (by omega) (x1.w.heap.size + 1) w.heap.size N D _ hr (by simp) (by simp [go_sem]) (by simp [go_sem])) belowK_t (belowK_b (by simp; omega)) (Below.refl _ _) (fun _ => rfl)
    (fun pre W => (∃ v, Boxed W x1.w.heap.size 36 v ∧ W.ownsRow w.heap.size 3 1 v pre.length (intVs pre) ∧ True) ∧ Below w.heap.size w W)
    (fun _ _ _ => False)
    (OwnFrom.and (Own.from (holdsRow_own w.heap.size x1.w.heap.size 36 3 1 (fun pre => pre.length) (fun pre => intVs pre) (fun _ _ => True)) _) (ownFrom_below (Nat.le_refl _) (by simp; omega)))
    (fun _ _ _ _ _ hs _ _ => hs)
    ⟨⟨_, bO.alloc _, World.ownsRow_nil _ _ _ _, trivial⟩, hB0⟩
    (fun x => { tmps := #[.agg #[.int .i64 N, .int .i64 D], .pointer (some ⟨w.heap.size, 0, none⟩), .slice none 0 0, .int .i64 0, .int .i64 0, .pointer (some ⟨x1.w.heap.size, 0, none⟩), .int .i64 x, .agg #[.int .i64 N, .int .i64 D], .int .i64 0, .int .i64 0, .bool false, undef, .agg #[.int .i64 N, .int .i64 D], .func (.func 69) #[] #[.pointer (some ⟨x1.w.heap.size + 1, 0, none⟩)], .int .i64 x, undef, undef, undef, undef, undef], defers := [] }) ?assign ?body ?done ?stop
  case assign =>
    intro l x W K hK
    gi_wp2
    exact hK
  case body =>
    rintro l pre x W ⟨⟨v, hv, hrow, _⟩, hB⟩ hlt
    have hc := hv.cell
    have hBs := hB.size
    gi_wp2_with (gi_at_builtin; refine wpListIn_append_own _ rfl _ _ 36 rfl w.heap.size 3 i0 (.int .i64 0) 1 8 Tryd.underlying36 hi hz0 hz1 hz2 rfl (by decide) _ _ _ rfl (hrow.alloc _) ⟨W.heap.size, 0, none⟩ 1 1 [.int .i64 x] rfl rfl (cell_one_new _ _ _) (by simp [Value.oneCell']) (by unfold maxLen; omega) (by omega) (by simp; omega) ?_; intro v' w1 hown' hgrow _; obtain ⟨g', cap', rfl⟩ := ownsRow_succ hown'; obtain ⟨hv1, hv2, hr2, hk2, hb2⟩ := hv.appended (by decide) hrow hB.size (by omega) hown' hgrow; have hc1 := hv1.cell; have hf1 := hv1.frozen)
    exact ⟨hk2.from _, hb2, ⟨_, hv2, by simpa [intVs] using hr2, trivial⟩, hB.trans hb2⟩
  case done =>
    rintro D' ys W hD rfl ⟨⟨v, hv, hrow, _⟩, hB⟩ hK
    have hc := hv.cell
    gi_wp2
    refine ⟨by simp, .inl ⟨_, _, rfl, run_takeDeferred hK, ?_⟩⟩
    exact ⟨_, results_tmp2 rfl _ _ _, v, rfl, ownsRow_putObj hrow _ hK rfl, hB.trans (belowK_b (w := w) (Nat.le_refl _) W D' _ _ (by simp at hD; omega) hK rfl rfl)⟩
  case stop =>
    rintro D' c pre W _ _ h _
    exact h.elim

theorem terms_no (N D : Int) (w : World) (hr : right N D = false) : Calls Tryd.prog 37 #[.agg #[.int .i64 N, .int .i64 D]] w (Ret (.tuple #[.slice none 0 0, .int .i64 2]) w) := by
  have hk := Lib.hid (chk_no hr)
  go_enter Tryd.func37, Tryd.ntmps37
  go_wp2_with fail
  (with_reducible refine (check_any _ _ _).mono ?_)
  rintro _ _ ⟨rfl, x1, rfl⟩
  rw [hk.out]
  go_wp2
  go_ret2
  exact Ret.mk (by rfl) (by (repeat' (first | (with_reducible exact Below.refl _ _) | (with_reducible exact Nat.le_refl _) | (with_reducible refine Below.bel ?_ ?_) | (with_reducible refine Below.alloc ?_ ?_ _) | (with_reducible refine Below.drew ?_) | (with_reducible refine Below.drawsN ?_ _) | (with_reducible refine Below.setCell ?_ ?_ _) | (with_reducible refine le_bel ?_) | (with_reducible refine le_alloc ?_) | (with_reducible refine le_setCell ?_) | (with_reducible refine le_drew ?_) | (with_reducible refine le_drawsN ?_) | (dsimp only; with_reducible refine le_bel ?_) | (dsimp only; with_reducible refine Nat.le_refl _) | (dsimp only; with_reducible refine le_bel_add ?_) | (with_reducible assumption) | omega | (dsimp only; omega))))
end Go.Proofs.YtoncbkkhfblpdaaDoor
