/- The members of a set, one after the other: the iterator. -/
import Derived.RangeFuncNested
import Derived.RangeFuncBound
import Derived.RangeFuncCalls
import Derived.RangeFuncLeaves
import Derived.Shelf.Abstract
import Derived.Shelf.RegionOpen
import Derived.WalkKit
import Derived.OwnWalkIn
import Derived.TacticsInMore
import Derived.LoopNIn
import Derived.LoopIn
import Derived.Shelf.Spec.TrailingZeros
import Derived.Test.YtjojdkdpdlmahaaDoorD2
import Derived.Test.YtjojdkdpdlmahaaDoorPd
namespace Go.Proofs.YtjojdkdpdlmahaaDoor
open Go.RowKit Go.Shelf
attribute [local go_sem low] Bel.cell Bel.frozen alloc_cell alloc_frozen
attribute [local go_sem] Oper.semAt_some

/-- The library's table of places lies in the world. -/
def Tz (w : World) : Prop := ∀ j, j < 64 → w.cell? ⟨0, j, none⟩ = some (.int .u8 (Lib.deBruijn64tab.getD j 0 : Nat))
theorem Tz.lt {w : World} (h : Tz w) : 0 < w.heap.size := World.block_lt_of_cell? w _ (h 0 (by decide))
theorem Tz.of {B : Nat} {w w' : World} (h : Tz w) (hB : 0 < B) (hb : Below B w w') : Tz w' := fun j hj => by
  rw [hb.cell (p := ⟨0, j, none⟩) hB, h j hj]
set_option maxHeartbeats 1000000 in
theorem tz_core (x k idx : Nat) (w : World) (hx0 : ((x : Int) == 0) = false)
    (key : IntKind.u64.wrap (bits BinOp.and IntKind.u64 (x : Int) (IntKind.u64.wrap (-(x : Int))) * 285870213051353865) / 288230376151711744 = (idx : Int))
    (hi : idx < 64) (hk : k < 64) (hcell : w.cell? ⟨0, idx, none⟩ = some (.int .u8 (k : Nat))) :
    Calls Tryd.prog 65 #[.int .u64 (x : Int)] w fun e w' => e = .returned (.int .i64 (k : Nat)) ∧ w = w' := by
  go_enter Tryd.func65, Tryd.ntmps65
  go_wp2_with (simp only [key])
  go_ret
  exact ⟨rfl, rfl⟩
theorem tz_any (x : Nat) (w : World) (h0 : x ≠ 0) (h : x < 18446744073709551616) (hT : Tz w) : Calls Tryd.prog 65 #[.int .u64 (x : Int)] w fun e w' => e = .returned (.int .i64 (Lib.ctz 64 x : Nat)) ∧ w = w' := by
  obtain ⟨hlow, hk⟩ := Lib.lowest_bit 64 x h0 h
  obtain ⟨hi, htab⟩ := Lib.deBruijn64_at _ hk
  have hcell := hT _ hi
  rw [htab] at hcell
  exact tz_core x _ _ w (by simpa using h0) (tz64_key x _ h h0 hlow) hi hk hcell

/-- A note. -/
def fin (n : Nat) : Fin 128 := ⟨n % 128, Nat.mod_lt _ (by decide)⟩
theorem fin_val {n : Nat} (h : n < 128) : (fin n).val = n := Nat.mod_eq_of_lt h
def memF (lo hi : Nat) : List (Fin 128) := (mems lo hi).map fin
def lowL (x : Nat) : List (Fin 128) := (poss x).map fin
def highL (x : Nat) : List (Fin 128) := (poss x).map fun n : Nat => fin (64 + n)
theorem mems_start (lo hi : Nat) : memF lo hi = lowL lo ++ highL hi := by
  unfold memF lowL highL
  rw [mems_poss, List.map_append, List.map_map]
  congr 1
theorem memF_val (lo hi : Nat) : (memF lo hi).map (·.val) = mems lo hi := by
  unfold memF
  rw [List.map_map]
  have h : List.map ((fun x : Fin 128 => x.val) ∘ fin) (mems lo hi) = List.map id (mems lo hi) := List.map_congr_left fun n hn => fin_val (mem_mems.1 hn).1
  rw [h, List.map_id]
theorem lowL_step {x : Nat} (h0 : x ≠ 0) (h : x < 18446744073709551616) : lowL x = fin (Lib.ctz 64 x) :: lowL (x &&& (x - 1)) := by unfold lowL; rw [poss_step h0 h]; rfl
theorem highL_step {x : Nat} (h0 : x ≠ 0) (h : x < 18446744073709551616) : highL x = fin (64 + Lib.ctz 64 x) :: highL (x &&& (x - 1)) := by unfold highL; rw [poss_step h0 h]; rfl
theorem lowL_zero : lowL 0 = [] := by unfold lowL; rw [poss_zero]; rfl
theorem highL_zero : highL 0 = [] := by unfold highL; rw [poss_zero]; rfl
theorem low_val {c : Nat} (h : c < 64) : ((fin c).val : Int) = (c : Int) := by rw [fin_val (by omega)]
theorem high_val {c : Nat} (h : c < 64) : ((fin (64 + c)).val : Int) = 64 + (c : Int) := by rw [fin_val (by omega)]; omega

set_option maxRecDepth 100000 in
set_option maxHeartbeats 4000000 in
/-- The iterator: it yields the members, for every loop body that keeps what lay. -/
theorem all1_in (n : Nat) (hn : 1 ≤ n) (l Bn n₀ lo hi : Nat) (J Jx : List (Fin 128) → World → Prop) (h1 : lo < 18446744073709551616) (h2 : hi < 18446744073709551616)
    (hY : ∀ pre x W, J pre W → pre.length < 128 → YieldAt Fence.wide (n - 1) Tryd.prog l #[.int .i64 (x.val : Int)] W fun e W' =>
      (e = .returned (.bool true) ∧ J (pre ++ [x]) W' ∧ Below n₀ W W') ∨ (e = .returned (.bool false) ∧ Jx (pre ++ [x]) W'))
    (W : World) (hc0 : W.cell? ⟨Bn, 0, none⟩ = some (.int .u64 lo)) (hc1 : W.cell? ⟨Bn, 1, none⟩ = some (.int .u64 hi)) (hg : 0 < n₀) (hT : Tz W) (hJ : AbidesFrom W.heap.size J) (h0 : J [] W) :
    CallsIn Fence.wide n Tryd.prog 64 #[.func (.yield l) #[] #[], .pointer (some ⟨Bn, 0, none⟩)] W fun e W' => (∃ v, e = .returned v) ∧
      ((∃ ys, ys = memF lo hi ∧ J ys W') ∨ (∃ pre, pre <+: memF lo hi ∧ Jx pre W')) := by
  have hlen : (memF lo hi).length ≤ 128 := by
    unfold memF; rw [List.length_map, mems_len]
    have := popc_le lo
    have := popc_le hi
    omega
  obtain ⟨T, hTT⟩ : ∃ T, T = memF lo hi := ⟨_, rfl⟩
  have hst := mems_start lo hi
  rw [← hTT] at hlen hst ⊢
  have HT := Lib.hid hT
  clear hT
  have i0 : ∀ w, (Instr.index 84 (.agg #[.int .u64 (lo : Int), .int .u64 (hi : Int)]) (.int .i64 0)).run Tryd.prog w = .ok (.int .u64 (lo : Int)) w := fun _ => by kernel_rfl
  have i1 : ∀ w, (Instr.index 84 (.agg #[.int .u64 (lo : Int), .int .u64 (hi : Int)]) (.int .i64 1)).run Tryd.prog w = .ok (.int .u64 (hi : Int)) w := fun _ => by kernel_rfl
  refine callsIn_wide.2 ?_
  go_enter Tryd.func64, Tryd.ntmps64
  go_wp2
  refine (wpIn_wide (n := n)).1 ?_
  gi_loopw [10] (fun i wr => ∃ (pre : List (Fin 128)) (k : Nat), k ≤ 2 ∧ i = .int .i64 (k : Int) ∧ J pre wr ∧ Tz wr ∧
      (if k = 0 then pre = [] else if k = 1 then pre ++ highL hi = T else pre = T)) (fun i _ => 2 - (intOf i).toNat)
  case atStart => exact ⟨[], 0, by omega, rfl, h0, HT.out, by simp⟩
  case round =>
    obtain ⟨pre, k, hk, rfl, hJs, hTs, hpre⟩ := hrel
    rcases (show k = 0 ∨ k = 1 ∨ k = 2 by omega) with rfl | rfl | rfl
    · rw [Int.natCast_zero]
      have HP := Lib.hid (show pre ++ lowL lo ++ highL hi = T by simp at hpre; rw [hpre, hst]; rfl)
      have HTs := Lib.hid hTs
      clear hpre hTs
      obtain ⟨wo, rfl⟩ : ∃ wo : World, wo = wr := ⟨_, rfl⟩
      gi_wp2
      gi_loopw [4] (fun p wr => ∃ (pre : List (Fin 128)) (x : Nat), p = .int .u64 (x : Int) ∧ x < 18446744073709551616 ∧ pre ++ lowL x ++ highL hi = T ∧ J pre wr ∧ Tz wr) (fun p _ => (intOf p).toNat)
      case atStart => exact ⟨pre, lo, rfl, h1, HP.out, hJs, HTs.out⟩
      case round =>
        clear HP HTs hJs
        obtain ⟨pre, x, rfl, hx, hpre, hJs, hTs⟩ := hrel
        by_cases hx0 : x = 0
        · subst hx0
          have HP := Lib.hid hpre
          have HTs := Lib.hid hTs
          clear hpre hTs
          gi_wp2
          go_roundw
          case rel => exact ⟨pre, 1, by omega, rfl, hJs, HTs.out, by simpa [lowL_zero] using HP.out⟩
          case measure => simp [intOf]
        · rw [lowL_step hx0 hx] at hpre
          have hpl : pre.length < 128 := by
            have := congrArg List.length hpre
            simp only [List.length_append, List.length_cons] at this
            omega
          have hk64 := (ctz_bits hx0 hx).1
          have hlt := low_lt hx0
          have hand := u64_and_nat x (x - 1) hx (by omega)
          have hsub : ((x - 1 : Nat) : Int) = (x : Int) - 1 := by omega
          rw [hsub] at hand
          have hx1 : 0 ≤ (x : Int) - 1 := by omega
          have HA := Lib.hid hand
          obtain ⟨fn, tmps, assign, body, hy, hR⟩ := hY pre (fin (Lib.ctz 64 x)) wr hJs hpl
          rw [low_val hk64] at hy
          have hx0' : ((x : Int) != 0) = true := by simpa using hx0
          have HF := fun w' (hT : Tz w') => tz_any x w' hx0 hx hT
          have HTs := Lib.hid hTs
          have HP := Lib.hid hpre
          clear hpre hTs hand hsub hx0
          generalize Lib.ctz 64 x = c at *
          gi_wp2_with (refine ⟨trivial, ?_⟩; gi_at_call 65; refine (callsIn_wide.2 (HF _ HTs.out)).mono ?_; rintro _ _ ⟨rfl, rfl⟩)
          refine hR.mono ?_
          rintro e W3 (⟨rfl, hJ3, hk3⟩ | ⟨rfl, hJx3⟩)
          · have hT3 := Lib.hid (HTs.out.of hg hk3)
            gi_wp2
            go_roundw
            case rel => exact ⟨pre ++ [fin c], x &&& (x - 1), by rw [← HA.out], Nat.lt_trans hlt hx, by rw [← HP.out]; simp, hJ3, hT3.out⟩
            case measure => simp only [intOf]; rw [HA.out]; omega
          · gi_wp2
            refine bodyPost_ret (results_none rfl _ _ _) rfl ?_
            exact ⟨⟨_, rfl⟩, .inr ⟨pre ++ [fin c], ⟨lowL (x &&& (x - 1)) ++ highL hi, by rw [← HP.out]; simp⟩, hJx3⟩⟩
    · rw [Int.natCast_one]
      have HP := Lib.hid (show pre ++ highL hi ++ [] = T by simpa using hpre)
      have HTs := Lib.hid hTs
      clear hpre hTs
      obtain ⟨wo, rfl⟩ : ∃ wo : World, wo = wr := ⟨_, rfl⟩
      gi_wp2
      gi_loopw [4] (fun p wr => ∃ (pre : List (Fin 128)) (x : Nat), p = .int .u64 (x : Int) ∧ x < 18446744073709551616 ∧ pre ++ highL x ++ [] = T ∧ J pre wr ∧ Tz wr) (fun p _ => (intOf p).toNat)
      case atStart => exact ⟨pre, hi, rfl, h2, HP.out, hJs, HTs.out⟩
      case round =>
        clear HP HTs hJs
        obtain ⟨pre, x, rfl, hx, hpre, hJs, hTs⟩ := hrel
        by_cases hx0 : x = 0
        · subst hx0
          have HP := Lib.hid hpre
          have HTs := Lib.hid hTs
          clear hpre hTs
          gi_wp2
          go_roundw
          case rel => exact ⟨pre, 2, by omega, rfl, hJs, HTs.out, by simpa [highL_zero] using HP.out⟩
          case measure => simp [intOf]
        · rw [highL_step hx0 hx] at hpre
          have hpl : pre.length < 128 := by
            have := congrArg List.length hpre
            simp only [List.length_append, List.length_cons] at this
            omega
          have hk64 := (ctz_bits hx0 hx).1
          have hlt := low_lt hx0
          have hand := u64_and_nat x (x - 1) hx (by omega)
          have hsub : ((x - 1 : Nat) : Int) = (x : Int) - 1 := by omega
          rw [hsub] at hand
          have hx1 : 0 ≤ (x : Int) - 1 := by omega
          have HA := Lib.hid hand
          obtain ⟨fn, tmps, assign, body, hy, hR⟩ := hY pre (fin (64 + Lib.ctz 64 x)) wr hJs hpl
          rw [high_val hk64] at hy
          have hx0' : ((x : Int) != 0) = true := by simpa using hx0
          have HF := fun w' (hT : Tz w') => tz_any x w' hx0 hx hT
          have HTs := Lib.hid hTs
          have HP := Lib.hid hpre
          clear hpre hTs hand hsub hx0
          generalize Lib.ctz 64 x = c at *
          gi_wp2_with (refine ⟨trivial, ?_⟩; gi_at_call 65; refine (callsIn_wide.2 (HF _ HTs.out)).mono ?_; rintro _ _ ⟨rfl, rfl⟩)
          refine hR.mono ?_
          rintro e W3 (⟨rfl, hJ3, hk3⟩ | ⟨rfl, hJx3⟩)
          · have hT3 := Lib.hid (HTs.out.of hg hk3)
            gi_wp2
            go_roundw
            case rel => exact ⟨pre ++ [fin (64 + c)], x &&& (x - 1), by rw [← HA.out], Nat.lt_trans hlt hx, by rw [← HP.out]; simp, hJ3, hT3.out⟩
            case measure => simp only [intOf]; rw [HA.out]; omega
          · gi_wp2
            refine bodyPost_ret (results_none rfl _ _ _) rfl ?_
            exact ⟨⟨_, rfl⟩, .inr ⟨pre ++ [fin (64 + c)], ⟨highL (x &&& (x - 1)) ++ [], by rw [← HP.out]; simp⟩, hJx3⟩⟩
    · have HP := Lib.hid (show pre = T by simpa using hpre)
      clear hpre
      gi_wp2
      go_end0
      exact ⟨⟨_, rfl⟩, .inl ⟨pre, HP.out, hJs⟩⟩
end Go.Proofs.YtjojdkdpdlmahaaDoor
