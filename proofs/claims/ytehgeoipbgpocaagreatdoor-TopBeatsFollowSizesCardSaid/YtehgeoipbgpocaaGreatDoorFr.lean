/- Fractions: Check, Make, Add, Sub, Mul. -/
import Derived.Test.YtehgeoipbgpocaaGreatDoorProg
import Derived.Test.YtehgeoipbgpocaaGreatDoorCm
namespace Go.Proofs.YtehgeoipbgpocaaGreatDoor.F
set_option linter.unusedVariables false
set_option linter.unusedSimpArgs false
open Go.RowKit
attribute [local go_sem low] Bel.cell Bel.frozen alloc_cell alloc_frozen

theorem magnitude_any (n : Int) (w : World) (h1 : -9223372036854775808 ≤ n) (h2 : n ≤ 9223372036854775807) :
    Calls Tryz.prog 82 #[.int .i64 n] w fun e w' => e = .returned (.int .u64 (n.natAbs : Int)) ∧ w = w' := by
  go_enter Tryz.func82, Tryz.ntmps82
  go_wp2
  · go_ret
    exact ⟨ret_int (by rw [IntKind.wrap_u64, IntKind.wrap_u64]; omega), rfl⟩
  · go_ret
    exact ⟨ret_int (by omega), rfl⟩

set_option maxHeartbeats 400000 in
theorem gcd_nat (a b : Nat) (w : World) (ha : a < 18446744073709551616) (hb : b < 18446744073709551616) :
    Calls Tryz.prog 81 #[.int .u64 (a : Int), .int .u64 (b : Int)] w fun e w' => e = .returned (.int .u64 (Nat.gcd a b : Int)) ∧ ∃ n, w' = w.drewN n := by
  go_enter Tryz.func81, Tryz.ntmps81
  go_wp2
  go_loopw [0, 1] (fun x y wr => ∃ m n : Nat, m < 18446744073709551616 ∧ n < 18446744073709551616 ∧ Nat.gcd m n = Nat.gcd a b ∧ x = .int .u64 (m : Int) ∧ y = .int .u64 (n : Int) ∧ ∃ k, wr = w.drewN k) (fun _ y _ => (intOf y).toNat)
  case atStart => exact ⟨a, b, ha, hb, rfl, rfl, rfl, 0, rfl⟩
  case round =>
    obtain ⟨m, n, hm, hn, hg, rfl, rfl, k, rfl⟩ := hrel
    have HG := Lib.hid hg
    clear hg
    by_cases hn0 : 0 < n
    · go_wp2_with fail
      go_quiet (fail)
      go_wp2
      go_roundw
      case rel => 
        have hr := Nat.mod_lt m hn0
        refine ⟨n, m % n, hn, by omega, ?_, rfl, by rw [Int.natCast_emod], k + nq, World.drewN_drewN _ _ _⟩
        rw [← HG.out, Nat.gcd_comm n, ← Nat.gcd_rec, Nat.gcd_comm]
      case measure => 
        simp only [intOf]
        have hr := Nat.mod_lt m hn0
        omega
    · go_wp2
      go_ret
      obtain rfl : n = 0 := by omega
      have := HG.out
      exact ⟨ret_int (by rw [← this, Nat.gcd_zero_right]), k, rfl⟩
theorem gcd_any (a b : Int) (w : World) (ha0 : 0 ≤ a) (ha : a < 18446744073709551616) (hb0 : 0 ≤ b) (hb : b < 18446744073709551616) :
    Calls Tryz.prog 81 #[.int .u64 a, .int .u64 b] w fun e w' => e = .returned (.int .u64 (Int.gcd a b : Int)) ∧ ∃ n, w' = w.drewN n := by
  obtain ⟨a, rfl⟩ := Int.eq_ofNat_of_zero_le ha0
  obtain ⟨b, rfl⟩ := Int.eq_ofNat_of_zero_le hb0
  exact gcd_nat a b w (by omega) (by omega)

/-- A fraction is right. -/
def right (n d : Int) : Bool := decide (1 ≤ d ∧ d ≤ 1000000 ∧ -1000000 ≤ n ∧ n ≤ 1000000 ∧ Int.gcd n d = 1)
def chk (n d : Int) : Int := if right n d = true then 0 else 2
theorem chk_ok {n d : Int} (h : right n d = true) : chk n d = 0 := if_pos h
theorem chk_no {n d : Int} (h : right n d = false) : chk n d = 2 := if_neg (by rw [h]; exact Bool.false_ne_true)
theorem chk_bad {n d : Int} (h : ¬ (1 ≤ d ∧ d ≤ 1000000 ∧ -1000000 ≤ n ∧ n ≤ 1000000 ∧ Int.gcd n d = 1)) : 2 = chk n d := (chk_no (decide_eq_false h)).symm
theorem chk_good {n d : Int} (h : (1 ≤ d ∧ d ≤ 1000000 ∧ -1000000 ≤ n ∧ n ≤ 1000000 ∧ Int.gcd n d = 1)) : 0 = chk n d := (chk_ok (decide_eq_true h)).symm
theorem natAbs_gcd (n d : Int) : Int.gcd (n.natAbs : Int) d = Int.gcd n d := by rw [Int.gcd_eq_natAbs_gcd_natAbs, Int.gcd_eq_natAbs_gcd_natAbs, Int.natAbs_natCast]
theorem val_i64 {a b : Int} (h : a = b) : Value.int .i64 a = Value.int .i64 b := by rw [h]

set_option maxHeartbeats 800000 in
theorem check_any (n d : Int) (w : World) :
    Calls Tryz.prog 34 #[.agg #[.int .i64 n, .int .i64 d]] w (Ret (.int .i64 (chk n d)) w) := by
  by_cases h1 : d ≤ 0
  · have e1 : decide (d ≤ 0) = true := by simpa using h1
    go_enter Tryz.func34, Tryz.ntmps34
    go_wp2_with fail
    refine wp_region_bel (by kernel_rfl) (by kernel_rfl) ?_
    repeat (go_big_quiet_step (fail))
    refine wpQuiet_nil ?_
    rintro _ ⟨x1, rfl⟩
    go_wp2
    go_ret
    exact Ret.mk (by exact val_i64 (chk_bad (by omega))) (by (repeat' (first | (with_reducible first | apply Zl1 | apply Zl2 | apply Zl3 | apply Zl4 | apply Zl5 | apply Zl6 | apply Zl7 | apply Zl8 | apply Zl9 | apply Zla | apply Zlb | apply Zlc) | (dsimp only; with_reducible first | apply Zl8 | apply Zl2 | apply Zld) | with_reducible assumption | omega | (dsimp only; omega))))
  have e1 : decide (d ≤ 0) = false := by simpa using h1
  by_cases h2 : 1000000 < d
  · have e2 : decide (1000000 < d) = true := by simpa using h2
    go_enter Tryz.func34, Tryz.ntmps34
    go_wp2_with fail
    refine wp_region_bel (by kernel_rfl) (by kernel_rfl) ?_
    repeat (go_big_quiet_step (fail))
    refine wpQuiet_nil ?_
    rintro _ ⟨x1, rfl⟩
    go_wp2
    go_ret
    exact Ret.mk (by exact val_i64 (chk_bad (by omega))) (by (repeat' (first | (with_reducible first | apply Zl1 | apply Zl2 | apply Zl3 | apply Zl4 | apply Zl5 | apply Zl6 | apply Zl7 | apply Zl8 | apply Zl9 | apply Zla | apply Zlb | apply Zlc) | (dsimp only; with_reducible first | apply Zl8 | apply Zl2 | apply Zld) | with_reducible assumption | omega | (dsimp only; omega))))
  have e2 : decide (1000000 < d) = false := by simpa using h2
  by_cases h3 : n < -1000000
  · have e3 : decide (n < -1000000) = true := by simpa using h3
    go_enter Tryz.func34, Tryz.ntmps34
    go_wp2_with fail
    refine wp_region_bel (by kernel_rfl) (by kernel_rfl) ?_
    repeat (go_big_quiet_step (fail))
    refine wpQuiet_nil ?_
    rintro _ ⟨x1, rfl⟩
    go_wp2
    go_ret
    exact Ret.mk (by exact val_i64 (chk_bad (by omega))) (by (repeat' (first | (with_reducible first | apply Zl1 | apply Zl2 | apply Zl3 | apply Zl4 | apply Zl5 | apply Zl6 | apply Zl7 | apply Zl8 | apply Zl9 | apply Zla | apply Zlb | apply Zlc) | (dsimp only; with_reducible first | apply Zl8 | apply Zl2 | apply Zld) | with_reducible assumption | omega | (dsimp only; omega))))
  have e3 : decide (n < -1000000) = false := by simpa using h3
  by_cases h4 : 1000000 < n
  · have e4 : decide (1000000 < n) = true := by simpa using h4
    go_enter Tryz.func34, Tryz.ntmps34
    go_wp2_with fail
    refine wp_region_bel (by kernel_rfl) (by kernel_rfl) ?_
    repeat (go_big_quiet_step (fail))
    refine wpQuiet_nil ?_
    rintro _ ⟨x1, rfl⟩
    go_wp2
    go_ret
    exact Ret.mk (by exact val_i64 (chk_bad (by omega))) (by (repeat' (first | (with_reducible first | apply Zl1 | apply Zl2 | apply Zl3 | apply Zl4 | apply Zl5 | apply Zl6 | apply Zl7 | apply Zl8 | apply Zl9 | apply Zla | apply Zlb | apply Zlc) | (dsimp only; with_reducible first | apply Zl8 | apply Zl2 | apply Zld) | with_reducible assumption | omega | (dsimp only; omega))))
  have e4 : decide (1000000 < n) = false := by simpa using h4
  by_cases h5 : Int.gcd n d = 1
  · have e5 : (((Int.gcd (n.natAbs : Int) d : Nat) : Int) != 1) = false := by rw [natAbs_gcd, h5]; rfl
    go_enter Tryz.func34, Tryz.ntmps34
    go_wp2_with fail
    refine wp_region_bel (by kernel_rfl) (by kernel_rfl) ?_
    repeat (go_big_quiet_step ((first | (go_at_call 82; exact bel_of_same (magnitude_any _ _ (by omega) (by omega))) | (go_at_call 81; exact bel_of_draws (gcd_any _ _ _ (by omega) (by omega) (by omega) (by omega))))))
    refine wpQuiet_nil ?_
    rintro _ ⟨x1, rfl⟩
    go_wp2
    go_ret
    exact Ret.mk (by exact val_i64 (chk_good ⟨by omega, by omega, by omega, by omega, h5⟩)) (by (repeat' (first | (with_reducible first | apply Zl1 | apply Zl2 | apply Zl3 | apply Zl4 | apply Zl5 | apply Zl6 | apply Zl7 | apply Zl8 | apply Zl9 | apply Zla | apply Zlb | apply Zlc) | (dsimp only; with_reducible first | apply Zl8 | apply Zl2 | apply Zld) | with_reducible assumption | omega | (dsimp only; omega))))
  · have e5 : (((Int.gcd (n.natAbs : Int) d : Nat) : Int) != 1) = true := by rw [natAbs_gcd, bne_iff_ne]; omega
    go_enter Tryz.func34, Tryz.ntmps34
    go_wp2_with fail
    refine wp_region_bel (by kernel_rfl) (by kernel_rfl) ?_
    repeat (go_big_quiet_step ((first | (go_at_call 82; exact bel_of_same (magnitude_any _ _ (by omega) (by omega))) | (go_at_call 81; exact bel_of_draws (gcd_any _ _ _ (by omega) (by omega) (by omega) (by omega))))))
    refine wpQuiet_nil ?_
    rintro _ ⟨x1, rfl⟩
    go_wp2
    go_ret
    exact Ret.mk (by exact val_i64 (chk_bad (fun h => h5 h.2.2.2.2))) (by (repeat' (first | (with_reducible first | apply Zl1 | apply Zl2 | apply Zl3 | apply Zl4 | apply Zl5 | apply Zl6 | apply Zl7 | apply Zl8 | apply Zl9 | apply Zla | apply Zlb | apply Zlc) | (dsimp only; with_reducible first | apply Zl8 | apply Zl2 | apply Zld) | with_reducible assumption | omega | (dsimp only; omega))))
end Go.Proofs.YtehgeoipbgpocaaGreatDoor.F
namespace Go.Proofs.YtehgeoipbgpocaaGreatDoor.F
set_option linter.unusedVariables false
set_option linter.unusedSimpArgs false
open Go.RowKit
attribute [local go_sem low] Bel.cell Bel.frozen alloc_cell alloc_frozen

theorem max_left' {a b : Int} (h : b ≤ a) : a = max a b := (Int.max_eq_left h).symm
theorem max_right' {a b : Int} (h : a < b) : b = max a b := (Int.max_eq_right (Int.le_of_lt h)).symm
theorem both_any (n d m e : Int) (w : World) :
    Calls Tryz.prog 203 #[.agg #[.int .i64 n, .int .i64 d], .agg #[.int .i64 m, .int .i64 e]] w (Ret (.int .i64 (max (chk n d) (chk m e))) w) := by
  go_enter Tryz.func203, Tryz.ntmps203
  go_wp2_with fail
  refine wp_region_bel (by kernel_rfl) (by kernel_rfl) ?_
  repeat (go_big_quiet_step ((go_at_call 34; exact bel_of (check_any _ _ _))))
  refine wpQuiet_nil ?_
  rintro _ ⟨x1, rfl⟩
  go_wp2
  · go_ret
    exact Ret.mk (by exact val_i64 (max_right' (by assumption))) (by (repeat' (first | (with_reducible first | apply Zl1 | apply Zl2 | apply Zl3 | apply Zl4 | apply Zl5 | apply Zl6 | apply Zl7 | apply Zl8 | apply Zl9 | apply Zla | apply Zlb | apply Zlc) | (dsimp only; with_reducible first | apply Zl8 | apply Zl2 | apply Zld) | with_reducible assumption | omega | (dsimp only; omega))))
  · go_ret
    exact Ret.mk (by exact val_i64 (max_left' (by assumption))) (by (repeat' (first | (with_reducible first | apply Zl1 | apply Zl2 | apply Zl3 | apply Zl4 | apply Zl5 | apply Zl6 | apply Zl7 | apply Zl8 | apply Zl9 | apply Zla | apply Zlb | apply Zlc) | (dsimp only; with_reducible first | apply Zl8 | apply Zl2 | apply Zld) | with_reducible assumption | omega | (dsimp only; omega))))

/-- The parts of a quotient in lowest terms. -/
def mkD (n d : Int) : Int := (d.natAbs : Int) / (Int.gcd n d : Int)
def mkM (n d : Int) : Int := (n.natAbs : Int) / (Int.gcd n d : Int)
def mkN (n d : Int) : Int := if decide (n < 0) = decide (d < 0) then mkM n d else - mkM n d
/-- What Make returns: numerator, denominator, error. -/
def fits (n d : Int) : Bool := decide (mkM n d ≤ 1000000 ∧ mkD n d ≤ 1000000)
def mk1 (n d : Int) : Int := if d = 0 then 0 else if fits n d = true then mkN n d else 0
def mk2 (n d : Int) : Int := if d = 0 then 0 else if fits n d = true then mkD n d else 0
def mk3 (n d : Int) : Int := if d = 0 then 17 else if fits n d = true then 0 else 4
def fr (n d : Int) : Value := .agg #[.int .i64 n, .int .i64 d]
def mkV (n d : Int) : Value := .tuple #[.agg #[.int .i64 (mk1 n d), .int .i64 (mk2 n d)], .int .i64 (mk3 n d)]
theorem mkV_zero (n d : Int) (h : d = 0) : Value.tuple #[.agg #[.int .i64 0, .int .i64 0], .int .i64 17] = mkV n d := by
  unfold mkV mk1 mk2 mk3; rw [if_pos h, if_pos h, if_pos h]
theorem mkV_limit (n d : Int) (h : d ≠ 0) (hf : ¬ (mkM n d ≤ 1000000 ∧ mkD n d ≤ 1000000)) : Value.tuple #[.agg #[.int .i64 0, .int .i64 0], .int .i64 4] = mkV n d := by
  unfold mkV mk1 mk2 mk3 fits; rw [if_neg h, if_neg h, if_neg h, if_neg (by simpa using hf), if_neg (by simpa using hf), if_neg (by simpa using hf)]
theorem mkV_fits (n d N D : Int) (h : d ≠ 0) (hf : mkM n d ≤ 1000000 ∧ mkD n d ≤ 1000000) (hn : N = mkN n d) (hd : D = mkD n d) : Value.tuple #[.agg #[.int .i64 N, .int .i64 D], .int .i64 0] = mkV n d := by
  unfold mkV mk1 mk2 mk3 fits; rw [if_neg h, if_neg h, if_neg h, if_pos (by simpa using hf), if_pos (by simpa using hf), if_pos (by simpa using hf), hn, hd]

set_option maxHeartbeats 1600000 in
theorem make_any (n d : Int) (w : World) (h1 : -9223372036854775808 ≤ n) (h2 : n ≤ 9223372036854775807) (h3 : -9223372036854775808 ≤ d) (h4 : d ≤ 9223372036854775807) :
    Calls Tryz.prog 196 #[.int .i64 n, .int .i64 d] w (Ret (mkV n d) w) := by
  by_cases h0 : d = 0
  · have e0 : (d == 0) = true := by simpa using h0
    have H0 := Lib.hid h0
    clear h0
    go_enter Tryz.func196, Tryz.ntmps196
    go_wp2
    refine bodyPost_ret (v := .tuple #[.agg #[.int .i64 0, .int .i64 0], .int .i64 17]) (by simp [results, Tryz.results196, go_sem]) rfl (Ret.mk (by exact mkV_zero n d H0.out) (by (repeat' (first | (with_reducible first | apply Zl1 | apply Zl2 | apply Zl3 | apply Zl4 | apply Zl5 | apply Zl6 | apply Zl7 | apply Zl8 | apply Zl9 | apply Zla | apply Zlb | apply Zlc) | (dsimp only; with_reducible first | apply Zl8 | apply Zl2 | apply Zld) | with_reducible assumption | omega | (dsimp only; omega)))))
  have e0 : (d == 0) = false := by simpa using h0
  go_enter Tryz.func196, Tryz.ntmps196
  go_wp2_with fail
  (with_reducible refine (magnitude_any _ _ (by omega) (by omega)).mono ?_)
  rintro _ _ ⟨rfl, rfl⟩
  go_wp2_with fail
  (with_reducible refine (magnitude_any _ _ (by omega) (by omega)).mono ?_)
  rintro _ _ ⟨rfl, rfl⟩
  go_wp2_with fail
  (with_reducible refine (gcd_any _ _ _ (by omega) (by omega) (by omega) (by omega)).mono ?_)
  rintro _ _ ⟨rfl, k, rfl⟩
  have hg0 : 0 < Int.gcd n d := Int.gcd_pos_of_ne_zero_right _ h0
  have hgn : (n.natAbs : Int) / (Int.gcd n d : Int) = mkM n d := rfl
  have hgd : (d.natAbs : Int) / (Int.gcd n d : Int) = mkD n d := rfl
  have hb1 : mkM n d ≤ n.natAbs := by rw [← hgn]; exact Int.ediv_le_self _ (by omega)
  have hb2 : mkD n d ≤ d.natAbs := by rw [← hgd]; exact Int.ediv_le_self _ (by omega)
  have hb3 : 0 ≤ mkM n d := by rw [← hgn]; exact Int.ediv_nonneg (by omega) (by omega)
  have hb4 : 0 ≤ mkD n d := by rw [← hgd]; exact Int.ediv_nonneg (by omega) (by omega)
  have hlim := mkV_limit n d h0
  have hfit := fun N D => mkV_fits n d N D h0
  have hN : mkN n d = if decide (n < 0) = decide (d < 0) then mkM n d else - mkM n d := rfl
  rw [show Int.gcd (n.natAbs : Int) (d.natAbs : Int) = Int.gcd n d from by rw [Int.gcd_eq_natAbs_gcd_natAbs, Int.gcd_eq_natAbs_gcd_natAbs, Int.natAbs_natCast, Int.natAbs_natCast]]
  generalize mkV n d = V at *
  generalize mkN n d = N at *
  generalize hMe : mkM n d = M at *
  generalize hDe : mkD n d = D at *
  generalize (Int.gcd n d) = g at *
  generalize hA : (n.natAbs : Int) = A at *
  generalize hB : (d.natAbs : Int) = B at *
  have HM := Lib.hid hgn
  have HD := Lib.hid hgd
  have HL := Lib.hid hlim
  have HF := Lib.hid hfit
  have HN := Lib.hid hN
  have hA0 : 0 ≤ A := by omega
  have hA1 : A < 18446744073709551616 := by omega
  have hB0 : 0 ≤ B := by omega
  have hB1 : B < 18446744073709551616 := by omega
  have hg1 : (0 : Int) < g := by omega
  clear hgn hgd hMe hDe hA hB h0 hlim hfit hN
  go_wp2_with fail
  refine wp_region_bel (by kernel_rfl) (by kernel_rfl) ?_
  repeat (go_big_quiet_step (fail))
  refine wpQuiet_nil ?_
  rintro _ ⟨x1, rfl⟩
  rw [HM.out, HD.out]
  by_cases hl1 : 1000000 < M
  · go_wp2
    refine bodyPost_ret (v := .tuple #[.agg #[.int .i64 0, .int .i64 0], .int .i64 4]) (by simp [results, Tryz.results196, go_sem]) rfl (Ret.mk (by exact HL.out (by omega)) (by (repeat' (first | (with_reducible first | apply Zl1 | apply Zl2 | apply Zl3 | apply Zl4 | apply Zl5 | apply Zl6 | apply Zl7 | apply Zl8 | apply Zl9 | apply Zla | apply Zlb | apply Zlc) | (dsimp only; with_reducible first | apply Zl8 | apply Zl2 | apply Zld) | with_reducible assumption | omega | (dsimp only; omega)))))
  have dl1 : decide (1000000 < M) = false := by simpa using hl1
  by_cases hl2 : 1000000 < D
  · go_wp2
    refine bodyPost_ret (v := .tuple #[.agg #[.int .i64 0, .int .i64 0], .int .i64 4]) (by simp [results, Tryz.results196, go_sem]) rfl (Ret.mk (by exact HL.out (by omega)) (by (repeat' (first | (with_reducible first | apply Zl1 | apply Zl2 | apply Zl3 | apply Zl4 | apply Zl5 | apply Zl6 | apply Zl7 | apply Zl8 | apply Zl9 | apply Zla | apply Zlb | apply Zlc) | (dsimp only; with_reducible first | apply Zl8 | apply Zl2 | apply Zld) | with_reducible assumption | omega | (dsimp only; omega)))))
  have dl2 : decide (1000000 < D) = false := by simpa using hl2
  by_cases hs1 : n < 0
  · by_cases hs2 : d < 0
    · go_wp2
      refine bodyPost_ret (v := .tuple #[.agg #[.int .i64 M, .int .i64 D], .int .i64 0]) (by simp [results, Tryz.results196, go_sem]) rfl (Ret.mk (by exact HF.out _ _ (by omega) (by rw [HN.out, if_pos (by simp [hs1, hs2])]) rfl) (by (repeat' (first | (with_reducible first | apply Zl1 | apply Zl2 | apply Zl3 | apply Zl4 | apply Zl5 | apply Zl6 | apply Zl7 | apply Zl8 | apply Zl9 | apply Zla | apply Zlb | apply Zlc) | (dsimp only; with_reducible first | apply Zl8 | apply Zl2 | apply Zld) | with_reducible assumption | omega | (dsimp only; omega)))))
    · go_wp2
      refine bodyPost_ret (v := .tuple #[.agg #[.int .i64 (-M), .int .i64 D], .int .i64 0]) (by simp [results, Tryz.results196, go_sem]) rfl (Ret.mk (by exact HF.out _ _ (by omega) (by rw [HN.out, if_neg (by simp [hs1, hs2])]) rfl) (by (repeat' (first | (with_reducible first | apply Zl1 | apply Zl2 | apply Zl3 | apply Zl4 | apply Zl5 | apply Zl6 | apply Zl7 | apply Zl8 | apply Zl9 | apply Zla | apply Zlb | apply Zlc) | (dsimp only; with_reducible first | apply Zl8 | apply Zl2 | apply Zld) | with_reducible assumption | omega | (dsimp only; omega)))))
  · by_cases hs2 : d < 0
    · go_wp2
      refine bodyPost_ret (v := .tuple #[.agg #[.int .i64 (-M), .int .i64 D], .int .i64 0]) (by simp [results, Tryz.results196, go_sem]) rfl (Ret.mk (by exact HF.out _ _ (by omega) (by rw [HN.out, if_neg (by simp [hs1, hs2])]) rfl) (by (repeat' (first | (with_reducible first | apply Zl1 | apply Zl2 | apply Zl3 | apply Zl4 | apply Zl5 | apply Zl6 | apply Zl7 | apply Zl8 | apply Zl9 | apply Zla | apply Zlb | apply Zlc) | (dsimp only; with_reducible first | apply Zl8 | apply Zl2 | apply Zld) | with_reducible assumption | omega | (dsimp only; omega)))))
    · go_wp2
      refine bodyPost_ret (v := .tuple #[.agg #[.int .i64 M, .int .i64 D], .int .i64 0]) (by simp [results, Tryz.results196, go_sem]) rfl (Ret.mk (by exact HF.out _ _ (by omega) (by rw [HN.out, if_pos (by rw [decide_eq_false (by omega), decide_eq_false (by omega)])]) rfl) (by (repeat' (first | (with_reducible first | apply Zl1 | apply Zl2 | apply Zl3 | apply Zl4 | apply Zl5 | apply Zl6 | apply Zl7 | apply Zl8 | apply Zl9 | apply Zla | apply Zlb | apply Zlc) | (dsimp only; with_reducible first | apply Zl8 | apply Zl2 | apply Zld) | with_reducible assumption | omega | (dsimp only; omega)))))

theorem make_val (n d : Int) (w : World) (h1 : -9223372036854775808 ≤ n) (h2 : n ≤ 9223372036854775807) (h3 : -9223372036854775808 ≤ d) (h4 : d ≤ 9223372036854775807) :
    Calls Tryz.prog 196 #[.int .i64 n, .int .i64 d] w (Ret (.tuple #[.agg #[.int .i64 (mk1 n d), .int .i64 (mk2 n d)], .int .i64 (mk3 n d)]) w) := make_any n d w h1 h2 h3 h4

end Go.Proofs.YtehgeoipbgpocaaGreatDoor.F
namespace Go.Proofs.YtehgeoipbgpocaaGreatDoor.F
set_option linter.unusedVariables false
set_option linter.unusedSimpArgs false
open Go.RowKit
attribute [local go_sem low] Bel.cell Bel.frozen alloc_cell alloc_frozen

theorem mk_fit {n d : Int} (h : d ≠ 0) (hf : fits n d = true) : mk1 n d = mkN n d ∧ mk2 n d = mkD n d ∧ mk3 n d = 0 := by
  unfold mk1 mk2 mk3; rw [if_neg h, if_neg h, if_neg h, if_pos hf, if_pos hf, if_pos hf]; exact ⟨rfl, rfl, rfl⟩
theorem mk_lim {n d : Int} (h : d ≠ 0) (hf : fits n d = false) : mk1 n d = 0 ∧ mk2 n d = 0 ∧ mk3 n d = 4 := by
  have hf' : ¬ fits n d = true := by rw [hf]; exact Bool.false_ne_true
  unfold mk1 mk2 mk3; rw [if_neg h, if_neg h, if_neg h, if_neg hf', if_neg hf', if_neg hf']; exact ⟨rfl, rfl, rfl⟩
theorem triple {a b c a' b' c' : Int} (h1 : a = a') (h2 : b = b') (h3 : c = c') : Value.tuple #[.agg #[.int .i64 a, .int .i64 b], .int .i64 c] = .tuple #[.agg #[.int .i64 a', .int .i64 b'], .int .i64 c'] := by
  rw [h1, h2, h3]

end Go.Proofs.YtehgeoipbgpocaaGreatDoor.F
namespace Go.Proofs.YtehgeoipbgpocaaGreatDoor.F
set_option linter.unusedVariables false
set_option linter.unusedSimpArgs false
open Go.RowKit
attribute [local go_sem low] Bel.cell Bel.frozen alloc_cell alloc_frozen

theorem right_spec {n d : Int} (h : right n d = true) : 1 ≤ d ∧ d ≤ 1000000 ∧ -1000000 ≤ n ∧ n ≤ 1000000 ∧ Int.gcd n d = 1 := by
  rw [right, decide_eq_true_iff] at h; exact h
theorem prod_bd {a b : Int} (h1 : -1000000 ≤ a) (h2 : a ≤ 1000000) (h3 : -1000000 ≤ b) (h4 : b ≤ 1000000) : -1000000000000 ≤ a * b ∧ a * b ≤ 1000000000000 := by
  have e := Int.natAbs_mul a b
  have h : a.natAbs * b.natAbs ≤ 1000000 * 1000000 := Nat.mul_le_mul (by omega) (by omega)
  omega

set_option maxHeartbeats 400000 in
theorem add_cl (n d m e : Int) (i j : Nat) (w : World) (r : right n d = true) (s : right m e = true)
    (h1 : w.cell? ⟨i, 0, none⟩ = some (.int .i64 n)) (h2 : w.cell? ⟨i, 0 + 1, none⟩ = some (.int .i64 d)) (h3 : w.cell? ⟨j, 0, none⟩ = some (.int .i64 m)) (h4 : w.cell? ⟨j, 0 + 1, none⟩ = some (.int .i64 e)) :
    Calls Tryz.prog 261 #[.pointer (some ⟨i, 0, none⟩), .pointer (some ⟨j, 0, none⟩)] w (Ret (.tuple #[.int .i64 (n * e + m * d), .int .i64 (d * e)]) w) := by
  obtain ⟨r1, r2, r3, r4, _⟩ := right_spec r
  obtain ⟨s1, s2, s3, s4, _⟩ := right_spec s
  clear r s
  have p1 := prod_bd r3 r4 (by omega : -1000000 ≤ e) s2
  have p2 := prod_bd s3 s4 (by omega : -1000000 ≤ d) r2
  have p3 := prod_bd (by omega : -1000000 ≤ d) r2 (by omega : -1000000 ≤ e) s2
  have p4 := prod_bd r3 r4 s3 s4
  have p5 := prod_bd (by omega : -1000000 ≤ d) r2 s3 s4
  go_enter Tryz.func261, Tryz.ntmps261
  go_wp2_with fail
  refine wp_region_bel (by kernel_rfl) (by kernel_rfl) ?_
  repeat (go_big_quiet_step (fail))
  refine wpQuiet_nil ?_
  rintro _ ⟨x1, rfl⟩
  go_wp2
  go_ret2
  exact Ret.mk rfl (by (repeat' (first | (with_reducible first | apply Zl1 | apply Zl2 | apply Zl3 | apply Zl4 | apply Zl5 | apply Zl6 | apply Zl7 | apply Zl8 | apply Zl9 | apply Zla | apply Zlb | apply Zlc) | (dsimp only; with_reducible first | apply Zl8 | apply Zl2 | apply Zld) | with_reducible assumption | omega | (dsimp only; omega))))

set_option maxHeartbeats 400000 in
theorem sub_cl (n d m e : Int) (i j : Nat) (w : World) (r : right n d = true) (s : right m e = true)
    (h1 : w.cell? ⟨i, 0, none⟩ = some (.int .i64 n)) (h2 : w.cell? ⟨i, 0 + 1, none⟩ = some (.int .i64 d)) (h3 : w.cell? ⟨j, 0, none⟩ = some (.int .i64 m)) (h4 : w.cell? ⟨j, 0 + 1, none⟩ = some (.int .i64 e)) :
    Calls Tryz.prog 145 #[.pointer (some ⟨i, 0, none⟩), .pointer (some ⟨j, 0, none⟩)] w (Ret (.tuple #[.int .i64 (n * e - m * d), .int .i64 (d * e)]) w) := by
  obtain ⟨r1, r2, r3, r4, _⟩ := right_spec r
  obtain ⟨s1, s2, s3, s4, _⟩ := right_spec s
  clear r s
  have p1 := prod_bd r3 r4 (by omega : -1000000 ≤ e) s2
  have p2 := prod_bd s3 s4 (by omega : -1000000 ≤ d) r2
  have p3 := prod_bd (by omega : -1000000 ≤ d) r2 (by omega : -1000000 ≤ e) s2
  have p4 := prod_bd r3 r4 s3 s4
  have p5 := prod_bd (by omega : -1000000 ≤ d) r2 s3 s4
  go_enter Tryz.func145, Tryz.ntmps145
  go_wp2_with fail
  refine wp_region_bel (by kernel_rfl) (by kernel_rfl) ?_
  repeat (go_big_quiet_step (fail))
  refine wpQuiet_nil ?_
  rintro _ ⟨x1, rfl⟩
  go_wp2
  go_ret2
  exact Ret.mk rfl (by (repeat' (first | (with_reducible first | apply Zl1 | apply Zl2 | apply Zl3 | apply Zl4 | apply Zl5 | apply Zl6 | apply Zl7 | apply Zl8 | apply Zl9 | apply Zla | apply Zlb | apply Zlc) | (dsimp only; with_reducible first | apply Zl8 | apply Zl2 | apply Zld) | with_reducible assumption | omega | (dsimp only; omega))))

set_option maxHeartbeats 400000 in
theorem mul_cl (n d m e : Int) (i j : Nat) (w : World) (r : right n d = true) (s : right m e = true)
    (h1 : w.cell? ⟨i, 0, none⟩ = some (.int .i64 n)) (h2 : w.cell? ⟨i, 0 + 1, none⟩ = some (.int .i64 d)) (h3 : w.cell? ⟨j, 0, none⟩ = some (.int .i64 m)) (h4 : w.cell? ⟨j, 0 + 1, none⟩ = some (.int .i64 e)) :
    Calls Tryz.prog 258 #[.pointer (some ⟨i, 0, none⟩), .pointer (some ⟨j, 0, none⟩)] w (Ret (.tuple #[.int .i64 (n * m), .int .i64 (d * e)]) w) := by
  obtain ⟨r1, r2, r3, r4, _⟩ := right_spec r
  obtain ⟨s1, s2, s3, s4, _⟩ := right_spec s
  clear r s
  have p1 := prod_bd r3 r4 (by omega : -1000000 ≤ e) s2
  have p2 := prod_bd s3 s4 (by omega : -1000000 ≤ d) r2
  have p3 := prod_bd (by omega : -1000000 ≤ d) r2 (by omega : -1000000 ≤ e) s2
  have p4 := prod_bd r3 r4 s3 s4
  have p5 := prod_bd (by omega : -1000000 ≤ d) r2 s3 s4
  go_enter Tryz.func258, Tryz.ntmps258
  go_wp2_with fail
  refine wp_region_bel (by kernel_rfl) (by kernel_rfl) ?_
  repeat (go_big_quiet_step (fail))
  refine wpQuiet_nil ?_
  rintro _ ⟨x1, rfl⟩
  go_wp2
  go_ret2
  exact Ret.mk rfl (by (repeat' (first | (with_reducible first | apply Zl1 | apply Zl2 | apply Zl3 | apply Zl4 | apply Zl5 | apply Zl6 | apply Zl7 | apply Zl8 | apply Zl9 | apply Zla | apply Zlb | apply Zlc) | (dsimp only; with_reducible first | apply Zl8 | apply Zl2 | apply Zld) | with_reducible assumption | omega | (dsimp only; omega))))

theorem max_ok {n d m e : Int} (h1 : right n d = true) (h2 : right m e = true) : max (chk n d) (chk m e) = 0 := by rw [chk_ok h1, chk_ok h2]; rfl
theorem max_no {n d m e : Int} (h : right n d = false ∨ right m e = false) : max (chk n d) (chk m e) = 2 := by
  unfold chk
  rcases h with h | h <;> rw [h] <;> cases right _ _ <;> rfl

set_option maxHeartbeats 800000 in
theorem lowest_ok (c : Nat) (p q : Value) (n d m e N D : Int) (w : World) (h1 : right n d = true) (h2 : right m e = true)
    (b1 : -9223372036854775808 ≤ N) (b2 : N ≤ 9223372036854775807) (b3 : -9223372036854775808 ≤ D) (b4 : D ≤ 9223372036854775807)
    (hcf : ∀ v : World, Sem.run Tryz.prog (callFunc c #[p, q]) v = .ok (.enter c #[p, q]) v)
    (hcl : ∀ x : Bel w, Calls Tryz.prog c #[p, q] x.w (Ret (.tuple #[.int .i64 N, .int .i64 D]) x.w)) :
    Calls Tryz.prog 144 #[.agg #[.int .i64 n, .int .i64 d], .agg #[.int .i64 m, .int .i64 e], .func (.func c) #[] #[p, q]] w (Ret (.tuple #[.agg #[.int .i64 (mk1 N D), .int .i64 (mk2 N D)], .int .i64 (mk3 N D)]) w) := by
  have H := Lib.hid (max_ok h1 h2)
  have HC := Lib.hid hcl
  clear h1 h2 hcl
  go_enter Tryz.func144, Tryz.ntmps144
  go_wp2_with fail
  (with_reducible refine (both_any _ _ _ _ _).mono ?_)
  rintro _ _ ⟨rfl, x1, rfl⟩
  rw [H.out]
  go_wp2_with fail
  have hc := HC.out ⟨x1.w, by (repeat' (first | (with_reducible first | apply Zl1 | apply Zl2 | apply Zl3 | apply Zl4 | apply Zl5 | apply Zl6 | apply Zl7 | apply Zl8 | apply Zl9 | apply Zla | apply Zlb | apply Zlc) | (dsimp only; with_reducible first | apply Zl8 | apply Zl2 | apply Zld) | with_reducible assumption | omega | (dsimp only; omega)))⟩
  dsimp only at hc
  (with_reducible refine hc.mono ?_)
  clear hc
  rintro _ _ ⟨rfl, x2, rfl⟩
  go_wp2_with fail
  (with_reducible refine (make_val _ _ _ b1 b2 b3 b4).mono ?_)
  rintro _ _ ⟨rfl, x3, rfl⟩
  generalize mk1 N D = a1 at *
  generalize mk2 N D = a2 at *
  generalize mk3 N D = a3 at *
  go_wp2
  refine bodyPost_ret (v := .tuple #[.agg #[.int .i64 a1, .int .i64 a2], .int .i64 a3]) (by simp [results, Tryz.results144, go_sem]) rfl (Ret.mk (by rfl) (by (repeat' (first | (with_reducible first | apply Zl1 | apply Zl2 | apply Zl3 | apply Zl4 | apply Zl5 | apply Zl6 | apply Zl7 | apply Zl8 | apply Zl9 | apply Zla | apply Zlb | apply Zlc) | (dsimp only; with_reducible first | apply Zl8 | apply Zl2 | apply Zld) | with_reducible assumption | omega | (dsimp only; omega)))))

set_option maxHeartbeats 800000 in
theorem lowest_no (c : Nat) (p q : Value) (n d m e : Int) (w : World) (h : right n d = false ∨ right m e = false) :
    Calls Tryz.prog 144 #[.agg #[.int .i64 n, .int .i64 d], .agg #[.int .i64 m, .int .i64 e], .func (.func c) #[] #[p, q]] w (Ret (.tuple #[.agg #[.int .i64 0, .int .i64 0], .int .i64 2]) w) := by
  have H := Lib.hid (max_no h)
  clear h
  go_enter Tryz.func144, Tryz.ntmps144
  go_wp2_with fail
  (with_reducible refine (both_any _ _ _ _ _).mono ?_)
  rintro _ _ ⟨rfl, x1, rfl⟩
  rw [H.out]
  go_wp2
  refine bodyPost_ret (v := .tuple #[.agg #[.int .i64 0, .int .i64 0], .int .i64 2]) (by simp [results, Tryz.results144, go_sem]) rfl (Ret.mk (by rfl) (by (repeat' (first | (with_reducible first | apply Zl1 | apply Zl2 | apply Zl3 | apply Zl4 | apply Zl5 | apply Zl6 | apply Zl7 | apply Zl8 | apply Zl9 | apply Zla | apply Zlb | apply Zlc) | (dsimp only; with_reducible first | apply Zl8 | apply Zl2 | apply Zld) | with_reducible assumption | omega | (dsimp only; omega)))))

theorem add_bd {n d m e : Int} (r : right n d = true) (s : right m e = true) : -9223372036854775808 ≤ n * e + m * d ∧ n * e + m * d ≤ 9223372036854775807 ∧ -9223372036854775808 ≤ d * e ∧ d * e ≤ 9223372036854775807 := by
  obtain ⟨r1, r2, r3, r4, _⟩ := right_spec r
  obtain ⟨s1, s2, s3, s4, _⟩ := right_spec s
  have p1 := prod_bd r3 r4 (by omega : -1000000 ≤ e) s2
  have p2 := prod_bd s3 s4 (by omega : -1000000 ≤ d) r2
  have p3 := prod_bd (by omega : -1000000 ≤ d) r2 (by omega : -1000000 ≤ e) s2
  have p4 := prod_bd r3 r4 s3 s4
  have p5 := prod_bd (by omega : -1000000 ≤ d) r2 s3 s4
  omega
set_option maxHeartbeats 800000 in
theorem add_any (n d m e : Int) (w : World) (h1 : right n d = true) (h2 : right m e = true) :
    Calls Tryz.prog 202 #[.agg #[.int .i64 n, .int .i64 d], .agg #[.int .i64 m, .int .i64 e]] w (Ret (.tuple #[.agg #[.int .i64 (mk1 (n * e + m * d) (d * e)), .int .i64 (mk2 (n * e + m * d) (d * e))], .int .i64 (mk3 (n * e + m * d) (d * e))]) w) := by
  have H1 := Lib.hid h1
  have H2 := Lib.hid h2
  have HB := Lib.hid (add_bd h1 h2)
  clear h1 h2
  go_enter Tryz.func202, Tryz.ntmps202
  go_wp2_with fail
  (with_reducible refine (lowest_ok 261 _ _ _ _ _ _ (n * e + m * d) (d * e) _ H1.out H2.out HB.out.1 HB.out.2.1 HB.out.2.2.1 HB.out.2.2.2 (fun v => by kernel_rfl) (fun x => add_cl n d m e _ _ _ H1.out H2.out (by simp [go_sem]) (by simp [go_sem]) (by simp [go_sem]) (by simp [go_sem]))).mono ?_)
  rintro _ _ ⟨rfl, x1, rfl⟩
  generalize mk1 (n * e + m * d) (d * e) = a1 at *
  generalize mk2 (n * e + m * d) (d * e) = a2 at *
  generalize mk3 (n * e + m * d) (d * e) = a3 at *
  go_wp2
  refine bodyPost_ret (v := .tuple #[.agg #[.int .i64 a1, .int .i64 a2], .int .i64 a3]) (by simp [results, Tryz.results202, go_sem]) rfl (Ret.mk (by rfl) (by (repeat' (first | (with_reducible first | apply Zl1 | apply Zl2 | apply Zl3 | apply Zl4 | apply Zl5 | apply Zl6 | apply Zl7 | apply Zl8 | apply Zl9 | apply Zla | apply Zlb | apply Zlc) | (dsimp only; with_reducible first | apply Zl8 | apply Zl2 | apply Zld) | with_reducible assumption | omega | (dsimp only; omega)))))
set_option maxHeartbeats 800000 in
theorem add_no (n d m e : Int) (w : World) (h : right n d = false ∨ right m e = false) :
    Calls Tryz.prog 202 #[.agg #[.int .i64 n, .int .i64 d], .agg #[.int .i64 m, .int .i64 e]] w (Ret (.tuple #[.agg #[.int .i64 0, .int .i64 0], .int .i64 2]) w) := by
  have H := Lib.hid h
  clear h
  go_enter Tryz.func202, Tryz.ntmps202
  go_wp2_with fail
  (with_reducible refine (lowest_no _ _ _ _ _ _ _ _ H.out).mono ?_)
  rintro _ _ ⟨rfl, x1, rfl⟩
  go_wp2
  refine bodyPost_ret (v := .tuple #[.agg #[.int .i64 0, .int .i64 0], .int .i64 2]) (by simp [results, Tryz.results202, go_sem]) rfl (Ret.mk (by rfl) (by (repeat' (first | (with_reducible first | apply Zl1 | apply Zl2 | apply Zl3 | apply Zl4 | apply Zl5 | apply Zl6 | apply Zl7 | apply Zl8 | apply Zl9 | apply Zla | apply Zlb | apply Zlc) | (dsimp only; with_reducible first | apply Zl8 | apply Zl2 | apply Zld) | with_reducible assumption | omega | (dsimp only; omega)))))
theorem sub_bd {n d m e : Int} (r : right n d = true) (s : right m e = true) : -9223372036854775808 ≤ n * e - m * d ∧ n * e - m * d ≤ 9223372036854775807 ∧ -9223372036854775808 ≤ d * e ∧ d * e ≤ 9223372036854775807 := by
  obtain ⟨r1, r2, r3, r4, _⟩ := right_spec r
  obtain ⟨s1, s2, s3, s4, _⟩ := right_spec s
  have p1 := prod_bd r3 r4 (by omega : -1000000 ≤ e) s2
  have p2 := prod_bd s3 s4 (by omega : -1000000 ≤ d) r2
  have p3 := prod_bd (by omega : -1000000 ≤ d) r2 (by omega : -1000000 ≤ e) s2
  have p4 := prod_bd r3 r4 s3 s4
  have p5 := prod_bd (by omega : -1000000 ≤ d) r2 s3 s4
  omega
set_option maxHeartbeats 800000 in
theorem sub_any (n d m e : Int) (w : World) (h1 : right n d = true) (h2 : right m e = true) :
    Calls Tryz.prog 87 #[.agg #[.int .i64 n, .int .i64 d], .agg #[.int .i64 m, .int .i64 e]] w (Ret (.tuple #[.agg #[.int .i64 (mk1 (n * e - m * d) (d * e)), .int .i64 (mk2 (n * e - m * d) (d * e))], .int .i64 (mk3 (n * e - m * d) (d * e))]) w) := by
  have H1 := Lib.hid h1
  have H2 := Lib.hid h2
  have HB := Lib.hid (sub_bd h1 h2)
  clear h1 h2
  go_enter Tryz.func87, Tryz.ntmps87
  go_wp2_with fail
  (with_reducible refine (lowest_ok 145 _ _ _ _ _ _ (n * e - m * d) (d * e) _ H1.out H2.out HB.out.1 HB.out.2.1 HB.out.2.2.1 HB.out.2.2.2 (fun v => by kernel_rfl) (fun x => sub_cl n d m e _ _ _ H1.out H2.out (by simp [go_sem]) (by simp [go_sem]) (by simp [go_sem]) (by simp [go_sem]))).mono ?_)
  rintro _ _ ⟨rfl, x1, rfl⟩
  generalize mk1 (n * e - m * d) (d * e) = a1 at *
  generalize mk2 (n * e - m * d) (d * e) = a2 at *
  generalize mk3 (n * e - m * d) (d * e) = a3 at *
  go_wp2
  refine bodyPost_ret (v := .tuple #[.agg #[.int .i64 a1, .int .i64 a2], .int .i64 a3]) (by simp [results, Tryz.results87, go_sem]) rfl (Ret.mk (by rfl) (by (repeat' (first | (with_reducible first | apply Zl1 | apply Zl2 | apply Zl3 | apply Zl4 | apply Zl5 | apply Zl6 | apply Zl7 | apply Zl8 | apply Zl9 | apply Zla | apply Zlb | apply Zlc) | (dsimp only; with_reducible first | apply Zl8 | apply Zl2 | apply Zld) | with_reducible assumption | omega | (dsimp only; omega)))))
set_option maxHeartbeats 800000 in
theorem sub_no (n d m e : Int) (w : World) (h : right n d = false ∨ right m e = false) :
    Calls Tryz.prog 87 #[.agg #[.int .i64 n, .int .i64 d], .agg #[.int .i64 m, .int .i64 e]] w (Ret (.tuple #[.agg #[.int .i64 0, .int .i64 0], .int .i64 2]) w) := by
  have H := Lib.hid h
  clear h
  go_enter Tryz.func87, Tryz.ntmps87
  go_wp2_with fail
  (with_reducible refine (lowest_no _ _ _ _ _ _ _ _ H.out).mono ?_)
  rintro _ _ ⟨rfl, x1, rfl⟩
  go_wp2
  refine bodyPost_ret (v := .tuple #[.agg #[.int .i64 0, .int .i64 0], .int .i64 2]) (by simp [results, Tryz.results87, go_sem]) rfl (Ret.mk (by rfl) (by (repeat' (first | (with_reducible first | apply Zl1 | apply Zl2 | apply Zl3 | apply Zl4 | apply Zl5 | apply Zl6 | apply Zl7 | apply Zl8 | apply Zl9 | apply Zla | apply Zlb | apply Zlc) | (dsimp only; with_reducible first | apply Zl8 | apply Zl2 | apply Zld) | with_reducible assumption | omega | (dsimp only; omega)))))
theorem mul_bd {n d m e : Int} (r : right n d = true) (s : right m e = true) : -9223372036854775808 ≤ n * m ∧ n * m ≤ 9223372036854775807 ∧ -9223372036854775808 ≤ d * e ∧ d * e ≤ 9223372036854775807 := by
  obtain ⟨r1, r2, r3, r4, _⟩ := right_spec r
  obtain ⟨s1, s2, s3, s4, _⟩ := right_spec s
  have p1 := prod_bd r3 r4 (by omega : -1000000 ≤ e) s2
  have p2 := prod_bd s3 s4 (by omega : -1000000 ≤ d) r2
  have p3 := prod_bd (by omega : -1000000 ≤ d) r2 (by omega : -1000000 ≤ e) s2
  have p4 := prod_bd r3 r4 s3 s4
  have p5 := prod_bd (by omega : -1000000 ≤ d) r2 s3 s4
  omega
set_option maxHeartbeats 800000 in
theorem mul_any (n d m e : Int) (w : World) (h1 : right n d = true) (h2 : right m e = true) :
    Calls Tryz.prog 197 #[.agg #[.int .i64 n, .int .i64 d], .agg #[.int .i64 m, .int .i64 e]] w (Ret (.tuple #[.agg #[.int .i64 (mk1 (n * m) (d * e)), .int .i64 (mk2 (n * m) (d * e))], .int .i64 (mk3 (n * m) (d * e))]) w) := by
  have H1 := Lib.hid h1
  have H2 := Lib.hid h2
  have HB := Lib.hid (mul_bd h1 h2)
  clear h1 h2
  go_enter Tryz.func197, Tryz.ntmps197
  go_wp2_with fail
  (with_reducible refine (lowest_ok 258 _ _ _ _ _ _ (n * m) (d * e) _ H1.out H2.out HB.out.1 HB.out.2.1 HB.out.2.2.1 HB.out.2.2.2 (fun v => by kernel_rfl) (fun x => mul_cl n d m e _ _ _ H1.out H2.out (by simp [go_sem]) (by simp [go_sem]) (by simp [go_sem]) (by simp [go_sem]))).mono ?_)
  rintro _ _ ⟨rfl, x1, rfl⟩
  generalize mk1 (n * m) (d * e) = a1 at *
  generalize mk2 (n * m) (d * e) = a2 at *
  generalize mk3 (n * m) (d * e) = a3 at *
  go_wp2
  refine bodyPost_ret (v := .tuple #[.agg #[.int .i64 a1, .int .i64 a2], .int .i64 a3]) (by simp [results, Tryz.results197, go_sem]) rfl (Ret.mk (by rfl) (by (repeat' (first | (with_reducible first | apply Zl1 | apply Zl2 | apply Zl3 | apply Zl4 | apply Zl5 | apply Zl6 | apply Zl7 | apply Zl8 | apply Zl9 | apply Zla | apply Zlb | apply Zlc) | (dsimp only; with_reducible first | apply Zl8 | apply Zl2 | apply Zld) | with_reducible assumption | omega | (dsimp only; omega)))))
set_option maxHeartbeats 800000 in
theorem mul_no (n d m e : Int) (w : World) (h : right n d = false ∨ right m e = false) :
    Calls Tryz.prog 197 #[.agg #[.int .i64 n, .int .i64 d], .agg #[.int .i64 m, .int .i64 e]] w (Ret (.tuple #[.agg #[.int .i64 0, .int .i64 0], .int .i64 2]) w) := by
  have H := Lib.hid h
  clear h
  go_enter Tryz.func197, Tryz.ntmps197
  go_wp2_with fail
  (with_reducible refine (lowest_no _ _ _ _ _ _ _ _ H.out).mono ?_)
  rintro _ _ ⟨rfl, x1, rfl⟩
  go_wp2
  refine bodyPost_ret (v := .tuple #[.agg #[.int .i64 0, .int .i64 0], .int .i64 2]) (by simp [results, Tryz.results197, go_sem]) rfl (Ret.mk (by rfl) (by (repeat' (first | (with_reducible first | apply Zl1 | apply Zl2 | apply Zl3 | apply Zl4 | apply Zl5 | apply Zl6 | apply Zl7 | apply Zl8 | apply Zl9 | apply Zla | apply Zlb | apply Zlc) | (dsimp only; with_reducible first | apply Zl8 | apply Zl2 | apply Zld) | with_reducible assumption | omega | (dsimp only; omega)))))
end Go.Proofs.YtehgeoipbgpocaaGreatDoor.F
