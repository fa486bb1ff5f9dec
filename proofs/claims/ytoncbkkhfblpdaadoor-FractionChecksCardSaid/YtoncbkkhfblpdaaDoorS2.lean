/- Terms. -/
import Derived.RangeFuncNested
import Derived.RangeFuncBound
import Derived.RangeFuncCalls
import Derived.RangeFuncLeaves
import Derived.Shelf.Abstract
import Derived.Shelf.RegionOpen
import Derived.WalkKit
import Derived.OwnWalkIn
import Derived.TacticsInMore
import Derived.LoopNIn
import Derived.LoopIn
import Derived.Test.YtoncbkkhfblpdaaDoorS
namespace Go.Proofs.YtoncbkkhfblpdaaDoor
open Go.RowKit Go.Shelf
attribute [local go_sem low] Bel.cell Bel.frozen alloc_cell alloc_frozen
attribute [local go_sem] Oper.semAt_some

set_option maxRecDepth 100000 in
set_option maxHeartbeats 2000000 in
/-- The iterator: it yields the terms, for every loop body that keeps what lay. -/
theorem terms1_in (n : Nat) (hn : 1 ≤ n) (l Bn n₀ : Nat) (N D : Int) (J Jx : List Int → World → Prop) (hr : right N D = true)
    (hY : ∀ pre x W, J pre W → pre.length < 40 → YieldAt Fence.wide (n - 1) Tryd.prog l #[.int .i64 x] W fun e W' =>
      (e = .returned (.bool true) ∧ J (pre ++ [x]) W' ∧ Below n₀ W W') ∨ (e = .returned (.bool false) ∧ Jx (pre ++ [x]) W'))
    (W : World) (hc0 : W.cell? ⟨Bn, 0, none⟩ = some (.int .i64 N)) (hc1 : W.cell? ⟨Bn, 1, none⟩ = some (.int .i64 D)) (hJ : AbidesFrom W.heap.size J) (h0 : J [] W) :
    CallsIn Fence.wide n Tryd.prog 69 #[.func (.yield l) #[] #[], .pointer (some ⟨Bn, 0, none⟩)] W fun e W' => (∃ v, e = .returned v) ∧
      ((∃ ys, ys = termsL N D.toNat ∧ J ys W') ∨ (∃ pre, True ∧ Jx pre W')) := by
  obtain ⟨r1, r2, r3, r4, r5⟩ := right_spec hr
  have hlen := (terms_value hr).2.2
  have hd : (D.toNat : Int) = D := by omega
  obtain ⟨T, hT⟩ : ∃ T, T = termsL N D.toNat := ⟨_, rfl⟩
  rw [← hT] at hlen ⊢
  clear hr r5
  refine callsIn_wide.2 ?_
  go_enter Tryd.func69, Tryd.ntmps69
  go_wp2
  refine wp_region_bel (by kernel_rfl) (by kernel_rfl) ?_
  repeat (go_big_quiet_step (fail))
  refine wpQuiet_nil ?_
  rintro _ ⟨x, rfl⟩
  have hJx0 := hJ _ _ _ none h0 (bel_grown x) (fun r e => by cases e)
  go_wp2
  refine (wpIn_wide (n := n)).1 ?_
  gi_loopw [3, 4] (fun p q wr => ∃ (pre : List Int) (n' : Int) (d' : Nat), pre ++ termsL n' d' = T ∧ p = .int .i64 n' ∧ q = .int .i64 (d' : Int) ∧ -1000000 ≤ n' ∧ n' ≤ 1000000 ∧ d' ≤ 1000000 ∧ J pre wr) (fun p q _ => (intOf q).toNat)
  case atStart => exact ⟨[], N, D.toNat, hT.symm, rfl, by rw [hd], r3, r4, by omega, hJx0⟩
  case round =>
    obtain ⟨pre, n', d', hpre, rfl, rfl, b1, b2, b3, hJs⟩ := hrel
    have hpl : pre.length + (termsL n' d').length ≤ 40 := by rw [← List.length_append, hpre]; exact hlen
    by_cases hd0 : d' = 0
    · have HP := Lib.hid hpre
      subst hd0
      clear hpre
      gi_wp2
      go_end0
      exact ⟨⟨_, rfl⟩, .inl ⟨pre, by rw [← HP.out, termsL_zero, List.append_nil], hJs⟩⟩
    · have hpl2 : pre.length < 40 := by rw [termsL_pos _ hd0, List.length_cons] at hpl; omega
      have hq1 : -1000001 ≤ n' / (d' : Int) ∧ n' / (d' : Int) ≤ 1000000 := by
        have := Int.natAbs_ediv_le_natAbs n' d'
        omega
      have HM := Lib.hid (Int.ediv_mul_add_emod n' d')
      have hem := Int.ediv_mul_add_emod n' d'
      have hen := emod_nat (n := n') hd0
      have HR := Lib.hid (show pre ++ [n' / (d' : Int)] ++ termsL d' (n' % (d' : Int)).toNat = T by rw [← hpre, termsL_pos n' hd0, List.append_assoc]; rfl)
      have HF := fun w' => floor_any n' (d' : Int) w' (by omega) (by omega) (by omega) (by omega)
      obtain ⟨fn, tmps, assign, body, hy, hR⟩ := hY pre (n' / (d' : Int)) wr hJs hpl2
      clear hpre hpl
      generalize n' / (d' : Int) = q' at *
      gi_wp2_with (refine ⟨trivial, ?_⟩; gi_at_call 59; refine (callsIn_wide.2 (HF _)).mono ?_; rintro _ _ ⟨rfl, rfl⟩)
      refine hR.mono ?_
      rintro e W3 (⟨rfl, hJ3, hk3⟩ | ⟨rfl, hJx3⟩)
      · gi_wp2
        go_roundw
        case rel => exact ⟨pre ++ [q'], (d' : Int), (n' % (d' : Int)).toNat, HR.out, rfl, by go_num, by omega, by omega, by omega, hJ3⟩
        case measure => simp [intOf]; omega
      · gi_wp2
        refine bodyPost_ret (results_none rfl _ _ _) rfl ?_
        exact ⟨⟨_, rfl⟩, .inr ⟨pre ++ [q'], trivial, hJx3⟩⟩
end Go.Proofs.YtoncbkkhfblpdaaDoor
