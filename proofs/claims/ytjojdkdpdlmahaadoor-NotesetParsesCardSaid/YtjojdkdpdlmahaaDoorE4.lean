/- The reference's Shift and Same, the greatest note. -/
import Derived.Test.YtjojdkdpdlmahaaDoorA
import Derived.Test.YtjojdkdpdlmahaaDoorPe
import Derived.Test.YtjojdkdpdlmahaaDoorStrs
namespace Go.Proofs.YtjojdkdpdlmahaaDoor
open Go.RowKit
attribute [local go_sem low] Bel.cell Bel.frozen alloc_cell alloc_frozen

theorem memI_nat {lo hi k : Nat} : memI lo hi (k : Int) = mem lo hi k := by
  unfold memI
  rw [decide_eq_true (by omega), Bool.true_and, Int.toNat_natCast]
theorem sh_skip {c : Int} {lo hi k a b : Nat} (h : (a, b) = shN c 0 0 (upto lo hi k)) (hm : mem lo hi k = false) : (a, b) = shN c 0 0 (upto lo hi (k + 1)) := by
  rw [upto_succ, if_neg (by rw [hm]; decide)]; exact h
theorem sh_out {c : Int} {lo hi k a b : Nat} (h : (a, b) = shN c 0 0 (upto lo hi k)) (hm : mem lo hi k = true) (ho : okS c k = false) : (a, b) = shN c 0 0 (upto lo hi (k + 1)) := by
  rw [upto_succ, if_pos hm, shN_snoc, if_neg (by rw [ho]; decide)]; exact h
theorem sh_in {c : Int} {lo hi k a b n : Nat} (h : (a, b) = shN c 0 0 (upto lo hi k)) (hm : mem lo hi k = true) (ho : okS c k = true) (hn : (k : Int) + c = n) : (withLo a n, withHi b n) = shN c 0 0 (upto lo hi (k + 1)) := by
  rw [upto_succ, if_pos hm, shN_snoc, if_pos ho, ← h, hn]; rfl
theorem sh_end {z : Int} {lo hi a b : Nat} (h : (a, b) = shN (clampS z) 0 0 (upto lo hi 128)) : (shS z lo hi).1 = a ∧ (shS z lo hi).2 = b := by
  unfold shS; rw [← upto_all, ← h]; exact ⟨rfl, rfl⟩

set_option maxHeartbeats 3200000 in
theorem refshift_any (lo hi : Nat) (z : Int) (w : World) (h1 : lo < 18446744073709551616) (h2 : hi < 18446744073709551616) :
    Calls Tryd.prog 28 #[.agg #[.int .u64 (lo : Int), .int .u64 (hi : Int)], .int .i64 z] w (Ret (.agg #[.int .u64 ((shS z lo hi).1 : Nat), .int .u64 ((shS z lo hi).2 : Nat)]) w) := by
  by_cases hz : z < -127
  · have e : decide (z < -127) = true := by simpa using hz
    have H := Lib.hid (shS_far (lo := lo) (hi := hi) (.inl hz))
    go_enter Tryd.func28, Tryd.ntmps28
    go_wp2
    refine bodyPost_ret (v := .agg #[.int .u64 0, .int .u64 0]) (by simp [results, Tryd.results28, go_sem]) rfl (Ret.mk (by rw [H.out]; rfl) (by (repeat' (first | (with_reducible exact Below.refl _ _) | (with_reducible exact Nat.le_refl _) | (with_reducible refine Below.bel ?_ ?_) | (with_reducible refine Below.alloc ?_ ?_ _) | (with_reducible refine Below.drew ?_) | (with_reducible refine Below.drawsN ?_ _) | (with_reducible refine Below.setCell ?_ ?_ _) | (with_reducible refine le_bel ?_) | (with_reducible refine le_alloc ?_) | (with_reducible refine le_setCell ?_) | (with_reducible refine le_drew ?_) | (with_reducible refine le_drawsN ?_) | (dsimp only; with_reducible refine le_bel ?_) | (dsimp only; with_reducible refine Nat.le_refl _) | (dsimp only; with_reducible refine le_bel_add ?_) | (with_reducible assumption) | omega | (dsimp only; omega)))))
  have e : decide (z < -127) = false := by simpa using hz
  by_cases hz2 : 127 < z
  · have e2 : decide (127 < z) = true := by simpa using hz2
    have H := Lib.hid (shS_far (lo := lo) (hi := hi) (.inr hz2))
    go_enter Tryd.func28, Tryd.ntmps28
    go_wp2
    refine bodyPost_ret (v := .agg #[.int .u64 0, .int .u64 0]) (by simp [results, Tryd.results28, go_sem]) rfl (Ret.mk (by rw [H.out]; rfl) (by (repeat' (first | (with_reducible exact Below.refl _ _) | (with_reducible exact Nat.le_refl _) | (with_reducible refine Below.bel ?_ ?_) | (with_reducible refine Below.alloc ?_ ?_ _) | (with_reducible refine Below.drew ?_) | (with_reducible refine Below.drawsN ?_ _) | (with_reducible refine Below.setCell ?_ ?_ _) | (with_reducible refine le_bel ?_) | (with_reducible refine le_alloc ?_) | (with_reducible refine le_setCell ?_) | (with_reducible refine le_drew ?_) | (with_reducible refine le_drawsN ?_) | (dsimp only; with_reducible refine le_bel ?_) | (dsimp only; with_reducible refine Nat.le_refl _) | (dsimp only; with_reducible refine le_bel_add ?_) | (with_reducible assumption) | omega | (dsimp only; omega)))))
  have e2 : decide (127 < z) = false := by simpa using hz2
  have hc : clampS z = z := by unfold clampS; omega
  go_enter Tryd.func28, Tryd.ntmps28
  go_wp2
  clear e e2
  go_loopw [6] (fun i wr => ∃ (k a b : Nat), k ≤ 128 ∧ i = .int .i64 (k : Int) ∧ a < 18446744073709551616 ∧ b < 18446744073709551616 ∧ (a, b) = shN (clampS z) 0 0 (upto lo hi k) ∧
    Own2 wr w.heap.size (.int .u64 (lo : Int)) (.int .u64 (hi : Int)) ∧ Own2 wr (w.heap.size + 1) (.int .u64 0) (.int .u64 0) ∧ Own2 wr (w.heap.size + 2) (.int .u64 (a : Int)) (.int .u64 (b : Int)) ∧ Below w.heap.size w wr ∧ w.heap.size + 3 ≤ wr.heap.size) (fun i _ => 128 - (intOf i).toNat)
  case atStart =>
    refine ⟨0, 0, 0, by omega, rfl, by omega, by omega, rfl, ?_, ?_, ?_, by (repeat' (first | (with_reducible exact Below.refl _ _) | (with_reducible exact Nat.le_refl _) | (with_reducible refine Below.bel ?_ ?_) | (with_reducible refine Below.alloc ?_ ?_ _) | (with_reducible refine Below.drew ?_) | (with_reducible refine Below.drawsN ?_ _) | (with_reducible refine Below.setCell ?_ ?_ _) | (with_reducible refine le_bel ?_) | (with_reducible refine le_alloc ?_) | (with_reducible refine le_setCell ?_) | (with_reducible refine le_drew ?_) | (with_reducible refine le_drawsN ?_) | (dsimp only; with_reducible refine le_bel ?_) | (dsimp only; with_reducible refine Nat.le_refl _) | (dsimp only; with_reducible refine le_bel_add ?_) | (with_reducible assumption) | omega | (dsimp only; omega))), by simp⟩
    · unfold Own2; simp [go_sem]
    · unfold Own2; simp [go_sem]
    · unfold Own2; simp [go_sem]
  case round =>
    obtain ⟨k, a, b, hk, rfl, b1, b2, hs, ⟨c1, c2, c3, c4⟩, ⟨o1, o2, o3, o4⟩, ⟨s1, s2, s3, s4⟩, hb, hsz⟩ := hrel
    have hbs := hb.size
    by_cases hlt : k ≤ 127
    · have hlt' : (k : Int) ≤ 127 := by omega
      cases hm : mem lo hi k
      · have hmI := Lib.hid (memI_nat.trans hm)
        have HS := Lib.hid (sh_skip hs hm)
        clear hs hm hc
        go_wp2_with fail
        (with_reducible refine (refhas_any _ _ _ _ h1 h2 (by omega) (by omega)).mono ?_)
        rintro _ _ ⟨rfl, y, rfl⟩
        rw [hmI.out]
        have hys := y.size_le
        go_wp2
        go_roundw
        case rel =>
          refine ⟨k + 1, a, b, by omega, by go_num, b1, b2, HS.out, ?_, ?_, ?_, by (repeat' (first | (with_reducible exact Below.refl _ _) | (with_reducible exact Nat.le_refl _) | (with_reducible refine Below.bel ?_ ?_) | (with_reducible refine Below.alloc ?_ ?_ _) | (with_reducible refine Below.drew ?_) | (with_reducible refine Below.drawsN ?_ _) | (with_reducible refine Below.setCell ?_ ?_ _) | (with_reducible refine le_bel ?_) | (with_reducible refine le_alloc ?_) | (with_reducible refine le_setCell ?_) | (with_reducible refine le_drew ?_) | (with_reducible refine le_drawsN ?_) | (dsimp only; with_reducible refine le_bel ?_) | (dsimp only; with_reducible refine Nat.le_refl _) | (dsimp only; with_reducible refine le_bel_add ?_) | (with_reducible assumption) | omega | (dsimp only; omega))), by first | omega | (simp; omega)⟩
          · unfold Own2; simp [go_sem, c1, c2, c3, c4]
          · unfold Own2; simp [go_sem, o1, o2, o3, o4]
          · unfold Own2; simp [go_sem, s1, s2, s3, s4]
        case measure => simp [intOf]; omega
      · have hmI := Lib.hid (memI_nat.trans hm)
        by_cases q0 : 0 ≤ (k : Int) + z
        · obtain ⟨n, hn⟩ := Int.eq_ofNat_of_zero_le q0
          have t : IntKind.i64.wrap ((k : Int) + z) = (n : Int) := by rw [IntWalk.i64_in _ (by omega)]; omega
          by_cases q1 : n ≤ 127
          · have q1' : (n : Int) ≤ 127 := by omega
            have HS := Lib.hid (sh_in hs hm (by rw [hc]; unfold okS; rw [decide_eq_true_iff]; omega) (by rw [hc]; exact hn))
            have w1 := withLo_lt n b1
            have w2 := withHi_lt n b2 q1
            clear hs hm q0 hn hc
            go_wp2_with fail
            (with_reducible refine (refhas_any _ _ _ _ h1 h2 (by omega) (by omega)).mono ?_)
            rintro _ _ ⟨rfl, y, rfl⟩
            rw [hmI.out]
            have hys := y.size_le
            go_wp2_with fail
            (with_reducible refine (refwith_any _ _ _ _ b1 b2 q1).mono ?_)
            rintro _ _ ⟨rfl, x, rfl⟩
            have hxs := x.size_le
            generalize withLo a n = a' at *
            generalize withHi b n = b' at *
            go_wp2
            go_roundw
            case rel =>
              refine ⟨k + 1, a', b', by omega, by go_num, w1, w2, HS.out, ?_, ?_, ?_, by (repeat' (first | (with_reducible exact Below.refl _ _) | (with_reducible exact Nat.le_refl _) | (with_reducible refine Below.bel ?_ ?_) | (with_reducible refine Below.alloc ?_ ?_ _) | (with_reducible refine Below.drew ?_) | (with_reducible refine Below.drawsN ?_ _) | (with_reducible refine Below.setCell ?_ ?_ _) | (with_reducible refine le_bel ?_) | (with_reducible refine le_alloc ?_) | (with_reducible refine le_setCell ?_) | (with_reducible refine le_drew ?_) | (with_reducible refine le_drawsN ?_) | (dsimp only; with_reducible refine le_bel ?_) | (dsimp only; with_reducible refine Nat.le_refl _) | (dsimp only; with_reducible refine le_bel_add ?_) | (with_reducible assumption) | omega | (dsimp only; omega))), by first | omega | (simp; omega)⟩
              · unfold Own2; simp [go_sem, c1, c2, c3, c4]
              · unfold Own2; simp [go_sem, o1, o2, o3, o4]
              · unfold Own2; simp [go_sem, s1, s2, s3, s4]
            case measure => simp [intOf]; omega
          · have q1' : decide ((n : Int) ≤ 127) = false := by simp; omega
            have HS := Lib.hid (sh_out hs hm (by rw [hc]; unfold okS; rw [decide_eq_false_iff_not]; omega))
            clear hs hm q0 hn hc
            go_wp2_with fail
            (with_reducible refine (refhas_any _ _ _ _ h1 h2 (by omega) (by omega)).mono ?_)
            rintro _ _ ⟨rfl, y, rfl⟩
            rw [hmI.out]
            have hys := y.size_le
            go_wp2
            go_roundw
            case rel =>
              refine ⟨k + 1, a, b, by omega, by go_num, b1, b2, HS.out, ?_, ?_, ?_, by (repeat' (first | (with_reducible exact Below.refl _ _) | (with_reducible exact Nat.le_refl _) | (with_reducible refine Below.bel ?_ ?_) | (with_reducible refine Below.alloc ?_ ?_ _) | (with_reducible refine Below.drew ?_) | (with_reducible refine Below.drawsN ?_ _) | (with_reducible refine Below.setCell ?_ ?_ _) | (with_reducible refine le_bel ?_) | (with_reducible refine le_alloc ?_) | (with_reducible refine le_setCell ?_) | (with_reducible refine le_drew ?_) | (with_reducible refine le_drawsN ?_) | (dsimp only; with_reducible refine le_bel ?_) | (dsimp only; with_reducible refine Nat.le_refl _) | (dsimp only; with_reducible refine le_bel_add ?_) | (with_reducible assumption) | omega | (dsimp only; omega))), by first | omega | (simp; omega)⟩
              · unfold Own2; simp [go_sem, c1, c2, c3, c4]
              · unfold Own2; simp [go_sem, o1, o2, o3, o4]
              · unfold Own2; simp [go_sem, s1, s2, s3, s4]
            case measure => simp [intOf]; omega
        · have t : IntKind.i64.wrap ((k : Int) + z) = (k : Int) + z := IntWalk.i64_in _ (by omega)
          have q0' : decide (0 ≤ (k : Int) + z) = false := by simpa using q0
          have HS := Lib.hid (sh_out hs hm (by rw [hc]; unfold okS; rw [decide_eq_false_iff_not]; omega))
          clear hs hm q0 hc
          go_wp2_with fail
          (with_reducible refine (refhas_any _ _ _ _ h1 h2 (by omega) (by omega)).mono ?_)
          rintro _ _ ⟨rfl, y, rfl⟩
          rw [hmI.out]
          have hys := y.size_le
          go_wp2
          go_roundw
          case rel =>
            refine ⟨k + 1, a, b, by omega, by go_num, b1, b2, HS.out, ?_, ?_, ?_, by (repeat' (first | (with_reducible exact Below.refl _ _) | (with_reducible exact Nat.le_refl _) | (with_reducible refine Below.bel ?_ ?_) | (with_reducible refine Below.alloc ?_ ?_ _) | (with_reducible refine Below.drew ?_) | (with_reducible refine Below.drawsN ?_ _) | (with_reducible refine Below.setCell ?_ ?_ _) | (with_reducible refine le_bel ?_) | (with_reducible refine le_alloc ?_) | (with_reducible refine le_setCell ?_) | (with_reducible refine le_drew ?_) | (with_reducible refine le_drawsN ?_) | (dsimp only; with_reducible refine le_bel ?_) | (dsimp only; with_reducible refine Nat.le_refl _) | (dsimp only; with_reducible refine le_bel_add ?_) | (with_reducible assumption) | omega | (dsimp only; omega))), by first | omega | (simp; omega)⟩
            · unfold Own2; simp [go_sem, c1, c2, c3, c4]
            · unfold Own2; simp [go_sem, o1, o2, o3, o4]
            · unfold Own2; simp [go_sem, s1, s2, s3, s4]
          case measure => simp [intOf]; omega
    · obtain rfl : k = 128 := by omega
      have HS := Lib.hid (sh_end hs)
      clear hs hc
      go_wp2
      refine bodyPost_ret (v := .agg #[.int .u64 a, .int .u64 b]) (by simp [results, Tryd.results28, go_sem, o1, o2, o3, o4, s1, s2, s3, s4]) rfl (Ret.mk (by rw [HS.out.1, HS.out.2]) (by (repeat' (first | (with_reducible exact Below.refl _ _) | (with_reducible exact Nat.le_refl _) | (with_reducible refine Below.bel ?_ ?_) | (with_reducible refine Below.alloc ?_ ?_ _) | (with_reducible refine Below.drew ?_) | (with_reducible refine Below.drawsN ?_ _) | (with_reducible refine Below.setCell ?_ ?_ _) | (with_reducible refine le_bel ?_) | (with_reducible refine le_alloc ?_) | (with_reducible refine le_setCell ?_) | (with_reducible refine le_drew ?_) | (with_reducible refine le_drawsN ?_) | (dsimp only; with_reducible refine le_bel ?_) | (dsimp only; with_reducible refine Nat.le_refl _) | (dsimp only; with_reducible refine le_bel_add ?_) | (with_reducible assumption) | omega | (dsimp only; omega)))))
end Go.Proofs.YtjojdkdpdlmahaaDoor
