/- Range. -/
import Derived.Test.YtjojdkdpdlmahaaDoorD
namespace Go.Proofs.YtjojdkdpdlmahaaDoor
open Go.RowKit
attribute [local go_sem low] Bel.cell Bel.frozen alloc_cell alloc_frozen

/-- c notes from n on, on top of a set. -/
def rng : Nat → Nat → Nat → Nat → Nat × Nat
  | lo, hi, _, 0 => (lo, hi)
  | lo, hi, n, c + 1 => rng (withLo lo n) (withHi hi n) (n + 1) c
set_option maxHeartbeats 1600000 in
theorem range_ok (l h : Nat) (w : World) (h1 : l ≤ h) (h2 : h ≤ 127) :
    Calls Tryd.prog 30 #[.agg #[.int .i64 (l : Int), .int .i64 (h : Int)]] w (Ret (.tuple #[setV (rng 0 0 l (h + 1 - l)).1 (rng 0 0 l (h + 1 - l)).2, .int .i64 0]) w) := by
  have hc := Lib.hid (show cmpE l h = 0 by unfold cmpE; rw [if_neg (by omega), if_neg (by omega)])
  go_enter Tryd.func30, Tryd.ntmps30
  go_wp2_with fail
  (with_reducible refine (check_any _ _ _).mono ?_)
  rintro _ _ ⟨rfl, x, rfl⟩
  rw [hc.out]
  have hxs := x.size_le
  simp at hxs
  go_wp2
  go_loopw [6] (fun i wr => ∃ (k lo hi : Nat), l ≤ k ∧ k ≤ h + 1 ∧ i = .int .i64 (k : Int) ∧ lo < 18446744073709551616 ∧ hi < 18446744073709551616 ∧ rng lo hi k (h + 1 - k) = rng 0 0 l (h + 1 - l) ∧
    Own2 wr w.heap.size (.int .i64 (l : Int)) (.int .i64 (h : Int)) ∧ Own2 wr (w.heap.size + 1) (.int .u64 0) (.int .u64 0) ∧ Own2 wr (w.heap.size + 2) (.int .u64 (lo : Int)) (.int .u64 (hi : Int)) ∧ Below w.heap.size w wr ∧ w.heap.size + 3 ≤ wr.heap.size) (fun i _ => h + 1 - (intOf i).toNat)
  case atStart =>
    refine ⟨l, 0, 0, by omega, by omega, rfl, by omega, by omega, rfl, ?_, ?_, ?_, by (repeat' (first | (with_reducible exact Below.refl _ _) | (with_reducible exact Nat.le_refl _) | (with_reducible refine Below.bel ?_ ?_) | (with_reducible refine Below.alloc ?_ ?_ _) | (with_reducible refine Below.drew ?_) | (with_reducible refine Below.drawsN ?_ _) | (with_reducible refine Below.setCell ?_ ?_ _) | (with_reducible refine le_bel ?_) | (with_reducible refine le_alloc ?_) | (with_reducible refine le_setCell ?_) | (with_reducible refine le_drew ?_) | (with_reducible refine le_drawsN ?_) | (dsimp only; with_reducible refine le_bel ?_) | (dsimp only; with_reducible refine Nat.le_refl _) | (dsimp only; with_reducible refine le_bel_add ?_) | (with_reducible assumption) | omega | (dsimp only; omega))), by omega⟩
    · unfold Own2; simp [go_sem]
    · unfold Own2; simp [go_sem]
    · unfold Own2; simp [go_sem]
  case round =>
    obtain ⟨k, lo, hi, hlk, hk, rfl, b1, b2, hs, ⟨c1, c2, c3, c4⟩, ⟨o1, o2, o3, o4⟩, ⟨s1, s2, s3, s4⟩, hb, hsz⟩ := hrel
    have hbs := hb.size
    by_cases hlt : k ≤ h
    · rw [show h + 1 - k = (h + 1 - (k + 1)) + 1 by omega, rng] at hs
      have hn : k ≤ 127 := by omega
      have q1 := withLo_lt k b1
      have q2 := withHi_lt k b2 hn
      have HS := Lib.hid hs
      clear hs
      go_wp2_with fail
      (with_reducible refine (with_any _ _ _ _ b1 b2 hn).mono ?_)
      rintro _ _ ⟨rfl, y, rfl⟩
      have hys := y.size_le
      generalize withLo lo k = lo' at *
      generalize withHi hi k = hi' at *
      go_wp2
      go_roundw
      case rel =>
        refine ⟨k + 1, lo', hi', by omega, by omega, by go_num, q1, q2, HS.out, ?_, ?_, ?_, by (repeat' (first | (with_reducible exact Below.refl _ _) | (with_reducible exact Nat.le_refl _) | (with_reducible refine Below.bel ?_ ?_) | (with_reducible refine Below.alloc ?_ ?_ _) | (with_reducible refine Below.drew ?_) | (with_reducible refine Below.drawsN ?_ _) | (with_reducible refine Below.setCell ?_ ?_ _) | (with_reducible refine le_bel ?_) | (with_reducible refine le_alloc ?_) | (with_reducible refine le_setCell ?_) | (with_reducible refine le_drew ?_) | (with_reducible refine le_drawsN ?_) | (dsimp only; with_reducible refine le_bel ?_) | (dsimp only; with_reducible refine Nat.le_refl _) | (dsimp only; with_reducible refine le_bel_add ?_) | (with_reducible assumption) | omega | (dsimp only; omega))), by simp; omega⟩
        · unfold Own2; simp [go_sem, c1, c2, c3, c4]
        · unfold Own2; simp [go_sem, o1, o2, o3, o4]
        · unfold Own2; simp [go_sem, s1, s2, s3, s4]
      case measure => simp [intOf]; omega
    · obtain rfl : k = h + 1 := by omega
      rw [show h + 1 - (h + 1) = 0 by omega, rng] at hs
      have HS := Lib.hid hs
      clear hs
      go_wp2
      refine bodyPost_ret (v := .tuple #[.agg #[.int .u64 lo, .int .u64 hi], .int .i64 0]) (by simp [results, Tryd.results30, go_sem, o1, o2, o3, o4, s1, s2, s3, s4]) rfl (Ret.mk (by rw [← HS.out]; rfl) (by (repeat' (first | (with_reducible exact Below.refl _ _) | (with_reducible exact Nat.le_refl _) | (with_reducible refine Below.bel ?_ ?_) | (with_reducible refine Below.alloc ?_ ?_ _) | (with_reducible refine Below.drew ?_) | (with_reducible refine Below.drawsN ?_ _) | (with_reducible refine Below.setCell ?_ ?_ _) | (with_reducible refine le_bel ?_) | (with_reducible refine le_alloc ?_) | (with_reducible refine le_setCell ?_) | (with_reducible refine le_drew ?_) | (with_reducible refine le_drawsN ?_) | (dsimp only; with_reducible refine le_bel ?_) | (dsimp only; with_reducible refine Nat.le_refl _) | (dsimp only; with_reducible refine le_bel_add ?_) | (with_reducible assumption) | omega | (dsimp only; omega)))))
theorem range_no (l h : Int) (w : World) (hn : cmpE l h ≠ 0) :
    Calls Tryd.prog 30 #[.agg #[.int .i64 l, .int .i64 h]] w (Ret (.tuple #[.agg #[.int .u64 0, .int .u64 0], .int .i64 (cmpE l h)]) w) := by
  have he : (cmpE l h != 0) = true := by simpa using hn
  clear hn
  go_enter Tryd.func30, Tryd.ntmps30
  go_wp2_with fail
  (with_reducible refine (check_any _ _ _).mono ?_)
  rintro _ _ ⟨rfl, x, rfl⟩
  have hxs := x.size_le
  simp at hxs
  generalize cmpE l h = c at *
  go_wp2
  refine bodyPost_ret (v := .tuple #[.agg #[.int .u64 0, .int .u64 0], .int .i64 c]) (by simp [results, Tryd.results30, go_sem]) rfl (Ret.mk (by rfl) (by (repeat' (first | (with_reducible exact Below.refl _ _) | (with_reducible exact Nat.le_refl _) | (with_reducible refine Below.bel ?_ ?_) | (with_reducible refine Below.alloc ?_ ?_ _) | (with_reducible refine Below.drew ?_) | (with_reducible refine Below.drawsN ?_ _) | (with_reducible refine Below.setCell ?_ ?_ _) | (with_reducible refine le_bel ?_) | (with_reducible refine le_alloc ?_) | (with_reducible refine le_setCell ?_) | (with_reducible refine le_drew ?_) | (with_reducible refine le_drawsN ?_) | (dsimp only; with_reducible refine le_bel ?_) | (dsimp only; with_reducible refine Nat.le_refl _) | (dsimp only; with_reducible refine le_bel_add ?_) | (with_reducible assumption) | omega | (dsimp only; omega)))))
set_option maxHeartbeats 1600000 in
theorem refrange_any (l h : Nat) (w : World) (h1 : l ≤ h) (h2 : h ≤ 127) :
    Calls Tryd.prog 32 #[.agg #[.int .i64 (l : Int), .int .i64 (h : Int)]] w (Ret (setV (rng 0 0 l (h + 1 - l)).1 (rng 0 0 l (h + 1 - l)).2) w) := by
  go_enter Tryd.func32, Tryd.ntmps32
  go_wp2
  go_loopw [4] (fun i wr => ∃ (k lo hi : Nat), l ≤ k ∧ k ≤ h + 1 ∧ i = .int .i64 (k : Int) ∧ lo < 18446744073709551616 ∧ hi < 18446744073709551616 ∧ rng lo hi k (h + 1 - k) = rng 0 0 l (h + 1 - l) ∧
    Own2 wr w.heap.size (.int .i64 (l : Int)) (.int .i64 (h : Int)) ∧ Own2 wr (w.heap.size + 1) (.int .u64 0) (.int .u64 0) ∧ Own2 wr (w.heap.size + 2) (.int .u64 (lo : Int)) (.int .u64 (hi : Int)) ∧ Below w.heap.size w wr ∧ w.heap.size + 3 ≤ wr.heap.size) (fun i _ => h + 1 - (intOf i).toNat)
  case atStart =>
    refine ⟨l, 0, 0, by omega, by omega, rfl, by omega, by omega, rfl, ?_, ?_, ?_, by (repeat' (first | (with_reducible exact Below.refl _ _) | (with_reducible exact Nat.le_refl _) | (with_reducible refine Below.bel ?_ ?_) | (with_reducible refine Below.alloc ?_ ?_ _) | (with_reducible refine Below.drew ?_) | (with_reducible refine Below.drawsN ?_ _) | (with_reducible refine Below.setCell ?_ ?_ _) | (with_reducible refine le_bel ?_) | (with_reducible refine le_alloc ?_) | (with_reducible refine le_setCell ?_) | (with_reducible refine le_drew ?_) | (with_reducible refine le_drawsN ?_) | (dsimp only; with_reducible refine le_bel ?_) | (dsimp only; with_reducible refine Nat.le_refl _) | (dsimp only; with_reducible refine le_bel_add ?_) | (with_reducible assumption) | omega | (dsimp only; omega))), by simp⟩
    · unfold Own2; simp [go_sem]
    · unfold Own2; simp [go_sem]
    · unfold Own2; simp [go_sem]
  case round =>
    obtain ⟨k, lo, hi, hlk, hk, rfl, b1, b2, hs, ⟨c1, c2, c3, c4⟩, ⟨o1, o2, o3, o4⟩, ⟨s1, s2, s3, s4⟩, hb, hsz⟩ := hrel
    have hbs := hb.size
    by_cases hlt : k ≤ h
    · rw [show h + 1 - k = (h + 1 - (k + 1)) + 1 by omega, rng] at hs
      have hn : k ≤ 127 := by omega
      have q1 := withLo_lt k b1
      have q2 := withHi_lt k b2 hn
      have HS := Lib.hid hs
      clear hs
      go_wp2_with fail
      (with_reducible refine (refwith_any _ _ _ _ b1 b2 hn).mono ?_)
      rintro _ _ ⟨rfl, y, rfl⟩
      have hys := y.size_le
      generalize withLo lo k = lo' at *
      generalize withHi hi k = hi' at *
      go_wp2
      go_roundw
      case rel =>
        refine ⟨k + 1, lo', hi', by omega, by omega, by go_num, q1, q2, HS.out, ?_, ?_, ?_, by (repeat' (first | (with_reducible exact Below.refl _ _) | (with_reducible exact Nat.le_refl _) | (with_reducible refine Below.bel ?_ ?_) | (with_reducible refine Below.alloc ?_ ?_ _) | (with_reducible refine Below.drew ?_) | (with_reducible refine Below.drawsN ?_ _) | (with_reducible refine Below.setCell ?_ ?_ _) | (with_reducible refine le_bel ?_) | (with_reducible refine le_alloc ?_) | (with_reducible refine le_setCell ?_) | (with_reducible refine le_drew ?_) | (with_reducible refine le_drawsN ?_) | (dsimp only; with_reducible refine le_bel ?_) | (dsimp only; with_reducible refine Nat.le_refl _) | (dsimp only; with_reducible refine le_bel_add ?_) | (with_reducible assumption) | omega | (dsimp only; omega))), by simp; omega⟩
        · unfold Own2; simp [go_sem, c1, c2, c3, c4]
        · unfold Own2; simp [go_sem, o1, o2, o3, o4]
        · unfold Own2; simp [go_sem, s1, s2, s3, s4]
      case measure => simp [intOf]; omega
    · obtain rfl : k = h + 1 := by omega
      rw [show h + 1 - (h + 1) = 0 by omega, rng] at hs
      have HS := Lib.hid hs
      clear hs
      go_wp2
      refine bodyPost_ret (v := .agg #[.int .u64 lo, .int .u64 hi]) (by simp [results, Tryd.results32, go_sem, o1, o2, o3, o4, s1, s2, s3, s4]) rfl (Ret.mk (by rw [← HS.out]; rfl) (by (repeat' (first | (with_reducible exact Below.refl _ _) | (with_reducible exact Nat.le_refl _) | (with_reducible refine Below.bel ?_ ?_) | (with_reducible refine Below.alloc ?_ ?_ _) | (with_reducible refine Below.drew ?_) | (with_reducible refine Below.drawsN ?_ _) | (with_reducible refine Below.setCell ?_ ?_ _) | (with_reducible refine le_bel ?_) | (with_reducible refine le_alloc ?_) | (with_reducible refine le_setCell ?_) | (with_reducible refine le_drew ?_) | (with_reducible refine le_drawsN ?_) | (dsimp only; with_reducible refine le_bel ?_) | (dsimp only; with_reducible refine Nat.le_refl _) | (dsimp only; with_reducible refine le_bel_add ?_) | (with_reducible assumption) | omega | (dsimp only; omega)))))
end Go.Proofs.YtjojdkdpdlmahaaDoor
