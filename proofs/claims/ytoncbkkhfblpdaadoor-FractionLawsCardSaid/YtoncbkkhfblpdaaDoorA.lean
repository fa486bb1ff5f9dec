/- The two functions gcd and magnitude of the package fraction. -/
import Derived.Test.YtoncbkkhfblpdaaDoorProg
import Derived.Test.YtoncbkkhfblpdaaDoorBase
namespace Go.Proofs.YtoncbkkhfblpdaaDoor
open Go.RowKit
attribute [local go_sem] Bel.cell Bel.frozen
attribute [local go_sem low] alloc_cell alloc_frozen

theorem magnitude_any (n : Int) (w : World) (h1 : -9223372036854775808 ≤ n) (h2 : n ≤ 9223372036854775807) :
    Calls Tryd.prog 44 #[.int .i64 n] w fun e w' => e = .returned (.int .u64 (n.natAbs : Int)) ∧ w = w' := by
  go_enter Tryd.func44, Tryd.ntmps44
  go_wp2
  · go_ret
    exact ⟨ret_int (by rw [IntKind.wrap_u64, IntKind.wrap_u64]; omega), rfl⟩
  · go_ret
    exact ⟨ret_int (by omega), rfl⟩

set_option maxHeartbeats 400000 in
theorem gcd_nat (a b : Nat) (w : World) (ha : a < 18446744073709551616) (hb : b < 18446744073709551616) :
    Calls Tryd.prog 45 #[.int .u64 (a : Int), .int .u64 (b : Int)] w fun e w' => e = .returned (.int .u64 (Nat.gcd a b : Int)) ∧ ∃ n, w' = w.drewN n := by
  go_enter Tryd.func45, Tryd.ntmps45
  go_wp2
  go_loopw [0, 1] (fun x y wr => ∃ m n : Nat, m < 18446744073709551616 ∧ n < 18446744073709551616 ∧ Nat.gcd m n = Nat.gcd a b ∧ x = .int .u64 (m : Int) ∧ y = .int .u64 (n : Int) ∧ ∃ k, wr = w.drewN k) (fun _ y _ => (intOf y).toNat)
  case atStart => exact ⟨a, b, ha, hb, rfl, rfl, rfl, 0, rfl⟩
  case round =>
    obtain ⟨m, n, hm, hn, hg, rfl, rfl, k, rfl⟩ := hrel
    have HG := Lib.hid hg
    clear hg
    by_cases hn0 : 0 < n
    · go_wp2_with fail
      go_quiet (fail)
      go_wp2
      go_roundw
      case rel => 
        have hr := Nat.mod_lt m hn0
        refine ⟨n, m % n, hn, by omega, ?_, rfl, by rw [Int.natCast_emod], k + nq, World.drewN_drewN _ _ _⟩
        rw [← HG.out, Nat.gcd_comm n, ← Nat.gcd_rec, Nat.gcd_comm]
      case measure => 
        simp only [intOf]
        have hr := Nat.mod_lt m hn0
        omega
    · go_wp2
      go_ret
      obtain rfl : n = 0 := by omega
      have := HG.out
      exact ⟨ret_int (by rw [← this, Nat.gcd_zero_right]), k, rfl⟩
theorem gcd_any (a b : Int) (w : World) (ha0 : 0 ≤ a) (ha : a < 18446744073709551616) (hb0 : 0 ≤ b) (hb : b < 18446744073709551616) :
    Calls Tryd.prog 45 #[.int .u64 a, .int .u64 b] w fun e w' => e = .returned (.int .u64 (Int.gcd a b : Int)) ∧ ∃ n, w' = w.drewN n := by
  obtain ⟨a, rfl⟩ := Int.eq_ofNat_of_zero_le ha0
  obtain ⟨b, rfl⟩ := Int.eq_ofNat_of_zero_le hb0
  exact gcd_nat a b w (by omega) (by omega)

/-- A fraction is right. -/
def right (n d : Int) : Bool := decide (1 ≤ d ∧ d ≤ 1000000 ∧ -1000000 ≤ n ∧ n ≤ 1000000 ∧ Int.gcd n d = 1)
def chk (n d : Int) : Int := if right n d = true then 0 else 2
theorem chk_ok {n d : Int} (h : right n d = true) : chk n d = 0 := if_pos h
theorem chk_no {n d : Int} (h : right n d = false) : chk n d = 2 := if_neg (by rw [h]; exact Bool.false_ne_true)
theorem chk_bad {n d : Int} (h : ¬ (1 ≤ d ∧ d ≤ 1000000 ∧ -1000000 ≤ n ∧ n ≤ 1000000 ∧ Int.gcd n d = 1)) : 2 = chk n d := (chk_no (decide_eq_false h)).symm
theorem chk_good {n d : Int} (h : (1 ≤ d ∧ d ≤ 1000000 ∧ -1000000 ≤ n ∧ n ≤ 1000000 ∧ Int.gcd n d = 1)) : 0 = chk n d := (chk_ok (decide_eq_true h)).symm
theorem natAbs_gcd (n d : Int) : Int.gcd (n.natAbs : Int) d = Int.gcd n d := by rw [Int.gcd_eq_natAbs_gcd_natAbs, Int.gcd_eq_natAbs_gcd_natAbs, Int.natAbs_natCast]
theorem val_i64 {a b : Int} (h : a = b) : Value.int .i64 a = Value.int .i64 b := by rw [h]

set_option maxHeartbeats 800000 in
theorem check_any (n d : Int) (w : World) :
    Calls Tryd.prog 43 #[.agg #[.int .i64 n, .int .i64 d]] w (Ret (.int .i64 (chk n d)) w) := by
  by_cases h1 : d ≤ 0
  · have e1 : decide (d ≤ 0) = true := by simpa using h1
    go_enter Tryd.func43, Tryd.ntmps43
    go_wp2_with fail
    refine wp_region_bel (by kernel_rfl) (by kernel_rfl) ?_
    repeat (go_big_quiet_step (fail))
    refine wpQuiet_nil ?_
    rintro _ ⟨x1, rfl⟩
    go_wp2
    go_ret
    exact Ret.mk (by exact val_i64 (chk_bad (by omega))) (by (repeat' (first | (with_reducible exact Below.refl _ _) | (with_reducible exact Nat.le_refl _) | (with_reducible refine Below.bel ?_ ?_) | (with_reducible refine Below.alloc ?_ ?_ _) | (with_reducible refine Below.drew ?_) | (with_reducible refine Below.drawsN ?_ _) | (with_reducible refine Below.setCell ?_ ?_ _) | (with_reducible refine le_bel ?_) | (with_reducible refine le_alloc ?_) | (with_reducible refine le_setCell ?_) | (with_reducible refine le_drew ?_) | (with_reducible refine le_drawsN ?_) | (dsimp only; with_reducible refine le_bel ?_) | (dsimp only; with_reducible refine Nat.le_refl _) | (dsimp only; with_reducible refine le_bel_add ?_) | (with_reducible assumption) | omega | (dsimp only; omega))))
  have e1 : decide (d ≤ 0) = false := by simpa using h1
  by_cases h2 : 1000000 < d
  · have e2 : decide (1000000 < d) = true := by simpa using h2
    go_enter Tryd.func43, Tryd.ntmps43
    go_wp2_with fail
    refine wp_region_bel (by kernel_rfl) (by kernel_rfl) ?_
    repeat (go_big_quiet_step (fail))
    refine wpQuiet_nil ?_
    rintro _ ⟨x1, rfl⟩
    go_wp2
    go_ret
    exact Ret.mk (by exact val_i64 (chk_bad (by omega))) (by (repeat' (first | (with_reducible exact Below.refl _ _) | (with_reducible exact Nat.le_refl _) | (with_reducible refine Below.bel ?_ ?_) | (with_reducible refine Below.alloc ?_ ?_ _) | (with_reducible refine Below.drew ?_) | (with_reducible refine Below.drawsN ?_ _) | (with_reducible refine Below.setCell ?_ ?_ _) | (with_reducible refine le_bel ?_) | (with_reducible refine le_alloc ?_) | (with_reducible refine le_setCell ?_) | (with_reducible refine le_drew ?_) | (with_reducible refine le_drawsN ?_) | (dsimp only; with_reducible refine le_bel ?_) | (dsimp only; with_reducible refine Nat.le_refl _) | (dsimp only; with_reducible refine le_bel_add ?_) | (with_reducible assumption) | omega | (dsimp only; omega))))
  have e2 : decide (1000000 < d) = false := by simpa using h2
  by_cases h3 : n < -1000000
  · have e3 : decide (n < -1000000) = true := by simpa using h3
    go_enter Tryd.func43, Tryd.ntmps43
    go_wp2_with fail
    refine wp_region_bel (by kernel_rfl) (by kernel_rfl) ?_
    repeat (go_big_quiet_step (fail))
    refine wpQuiet_nil ?_
    rintro _ ⟨x1, rfl⟩
    go_wp2
    go_ret
    exact Ret.mk (by exact val_i64 (chk_bad (by omega))) (by (repeat' (first | (with_reducible exact Below.refl _ _) | (with_reducible exact Nat.le_refl _) | (with_reducible refine Below.bel ?_ ?_) | (with_reducible refine Below.alloc ?_ ?_ _) | (with_reducible refine Below.drew ?_) | (with_reducible refine Below.drawsN ?_ _) | (with_reducible refine Below.setCell ?_ ?_ _) | (with_reducible refine le_bel ?_) | (with_reducible refine le_alloc ?_) | (with_reducible refine le_setCell ?_) | (with_reducible refine le_drew ?_) | (with_reducible refine le_drawsN ?_) | (dsimp only; with_reducible refine le_bel ?_) | (dsimp only; with_reducible refine Nat.le_refl _) | (dsimp only; with_reducible refine le_bel_add ?_) | (with_reducible assumption) | omega | (dsimp only; omega))))
  have e3 : decide (n < -1000000) = false := by simpa using h3
  by_cases h4 : 1000000 < n
  · have e4 : decide (1000000 < n) = true := by simpa using h4
    go_enter Tryd.func43, Tryd.ntmps43
    go_wp2_with fail
    refine wp_region_bel (by kernel_rfl) (by kernel_rfl) ?_
    repeat (go_big_quiet_step (fail))
    refine wpQuiet_nil ?_
    rintro _ ⟨x1, rfl⟩
    go_wp2
    go_ret
    exact Ret.mk (by exact val_i64 (chk_bad (by omega))) (by (repeat' (first | (with_reducible exact Below.refl _ _) | (with_reducible exact Nat.le_refl _) | (with_reducible refine Below.bel ?_ ?_) | (with_reducible refine Below.alloc ?_ ?_ _) | (with_reducible refine Below.drew ?_) | (with_reducible refine Below.drawsN ?_ _) | (with_reducible refine Below.setCell ?_ ?_ _) | (with_reducible refine le_bel ?_) | (with_reducible refine le_alloc ?_) | (with_reducible refine le_setCell ?_) | (with_reducible refine le_drew ?_) | (with_reducible refine le_drawsN ?_) | (dsimp only; with_reducible refine le_bel ?_) | (dsimp only; with_reducible refine Nat.le_refl _) | (dsimp only; with_reducible refine le_bel_add ?_) | (with_reducible assumption) | omega | (dsimp only; omega))))
  have e4 : decide (1000000 < n) = false := by simpa using h4
  by_cases h5 : Int.gcd n d = 1
  · have e5 : (((Int.gcd (n.natAbs : Int) d : Nat) : Int) != 1) = false := by rw [natAbs_gcd, h5]; rfl
    go_enter Tryd.func43, Tryd.ntmps43
    go_wp2_with fail
    refine wp_region_bel (by kernel_rfl) (by kernel_rfl) ?_
    repeat (go_big_quiet_step ((first | (go_at_call 44; exact bel_of_same (magnitude_any _ _ (by omega) (by omega))) | (go_at_call 45; exact bel_of_draws (gcd_any _ _ _ (by omega) (by omega) (by omega) (by omega))))))
    refine wpQuiet_nil ?_
    rintro _ ⟨x1, rfl⟩
    go_wp2
    go_ret
    exact Ret.mk (by exact val_i64 (chk_good ⟨by omega, by omega, by omega, by omega, h5⟩)) (by (repeat' (first | (with_reducible exact Below.refl _ _) | (with_reducible exact Nat.le_refl _) | (with_reducible refine Below.bel ?_ ?_) | (with_reducible refine Below.alloc ?_ ?_ _) | (with_reducible refine Below.drew ?_) | (with_reducible refine Below.drawsN ?_ _) | (with_reducible refine Below.setCell ?_ ?_ _) | (with_reducible refine le_bel ?_) | (with_reducible refine le_alloc ?_) | (with_reducible refine le_setCell ?_) | (with_reducible refine le_drew ?_) | (with_reducible refine le_drawsN ?_) | (dsimp only; with_reducible refine le_bel ?_) | (dsimp only; with_reducible refine Nat.le_refl _) | (dsimp only; with_reducible refine le_bel_add ?_) | (with_reducible assumption) | omega | (dsimp only; omega))))
  · have e5 : (((Int.gcd (n.natAbs : Int) d : Nat) : Int) != 1) = true := by rw [natAbs_gcd, bne_iff_ne]; omega
    go_enter Tryd.func43, Tryd.ntmps43
    go_wp2_with fail
    refine wp_region_bel (by kernel_rfl) (by kernel_rfl) ?_
    repeat (go_big_quiet_step ((first | (go_at_call 44; exact bel_of_same (magnitude_any _ _ (by omega) (by omega))) | (go_at_call 45; exact bel_of_draws (gcd_any _ _ _ (by omega) (by omega) (by omega) (by omega))))))
    refine wpQuiet_nil ?_
    rintro _ ⟨x1, rfl⟩
    go_wp2
    go_ret
    exact Ret.mk (by exact val_i64 (chk_bad (fun h => h5 h.2.2.2.2))) (by (repeat' (first | (with_reducible exact Below.refl _ _) | (with_reducible exact Nat.le_refl _) | (with_reducible refine Below.bel ?_ ?_) | (with_reducible refine Below.alloc ?_ ?_ _) | (with_reducible refine Below.drew ?_) | (with_reducible refine Below.drawsN ?_ _) | (with_reducible refine Below.setCell ?_ ?_ _) | (with_reducible refine le_bel ?_) | (with_reducible refine le_alloc ?_) | (with_reducible refine le_setCell ?_) | (with_reducible refine le_drew ?_) | (with_reducible refine le_drawsN ?_) | (dsimp only; with_reducible refine le_bel ?_) | (dsimp only; with_reducible refine Nat.le_refl _) | (dsimp only; with_reducible refine le_bel_add ?_) | (with_reducible assumption) | omega | (dsimp only; omega))))
end Go.Proofs.YtoncbkkhfblpdaaDoor
