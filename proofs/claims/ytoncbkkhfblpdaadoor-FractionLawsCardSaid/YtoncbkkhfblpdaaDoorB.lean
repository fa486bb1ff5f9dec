/- Make and Whole of the package fraction, and Make and Right of the reference. -/
import Derived.Test.YtoncbkkhfblpdaaDoorA
namespace Go.Proofs.YtoncbkkhfblpdaaDoor
open Go.RowKit
attribute [local go_sem] Bel.cell Bel.frozen
attribute [local go_sem low] alloc_cell alloc_frozen

theorem max_left' {a b : Int} (h : b ≤ a) : a = max a b := (Int.max_eq_left h).symm
theorem max_right' {a b : Int} (h : a < b) : b = max a b := (Int.max_eq_right (Int.le_of_lt h)).symm
theorem both_any (n d m e : Int) (w : World) :
    Calls Tryd.prog 58 #[.agg #[.int .i64 n, .int .i64 d], .agg #[.int .i64 m, .int .i64 e]] w (Ret (.int .i64 (max (chk n d) (chk m e))) w) := by
  go_enter Tryd.func58, Tryd.ntmps58
  go_wp2_with fail
  refine wp_region_bel (by kernel_rfl) (by kernel_rfl) ?_
  repeat (go_big_quiet_step ((go_at_call 43; exact bel_of (check_any _ _ _))))
  refine wpQuiet_nil ?_
  rintro _ ⟨x1, rfl⟩
  go_wp2
  · go_ret
    exact Ret.mk (by exact val_i64 (max_right' (by assumption))) (by (repeat' (first | (with_reducible exact Below.refl _ _) | (with_reducible exact Nat.le_refl _) | (with_reducible refine Below.bel ?_ ?_) | (with_reducible refine Below.alloc ?_ ?_ _) | (with_reducible refine Below.drew ?_) | (with_reducible refine Below.drawsN ?_ _) | (with_reducible refine Below.setCell ?_ ?_ _) | (with_reducible refine le_bel ?_) | (with_reducible refine le_alloc ?_) | (with_reducible refine le_setCell ?_) | (with_reducible refine le_drew ?_) | (with_reducible refine le_drawsN ?_) | (dsimp only; with_reducible refine le_bel ?_) | (dsimp only; with_reducible refine Nat.le_refl _) | (dsimp only; with_reducible refine le_bel_add ?_) | (with_reducible assumption) | omega | (dsimp only; omega))))
  · go_ret
    exact Ret.mk (by exact val_i64 (max_left' (by assumption))) (by (repeat' (first | (with_reducible exact Below.refl _ _) | (with_reducible exact Nat.le_refl _) | (with_reducible refine Below.bel ?_ ?_) | (with_reducible refine Below.alloc ?_ ?_ _) | (with_reducible refine Below.drew ?_) | (with_reducible refine Below.drawsN ?_ _) | (with_reducible refine Below.setCell ?_ ?_ _) | (with_reducible refine le_bel ?_) | (with_reducible refine le_alloc ?_) | (with_reducible refine le_setCell ?_) | (with_reducible refine le_drew ?_) | (with_reducible refine le_drawsN ?_) | (dsimp only; with_reducible refine le_bel ?_) | (dsimp only; with_reducible refine Nat.le_refl _) | (dsimp only; with_reducible refine le_bel_add ?_) | (with_reducible assumption) | omega | (dsimp only; omega))))

/-- The parts of a quotient in lowest terms. -/
def mkD (n d : Int) : Int := (d.natAbs : Int) / (Int.gcd n d : Int)
def mkM (n d : Int) : Int := (n.natAbs : Int) / (Int.gcd n d : Int)
def mkN (n d : Int) : Int := if decide (n < 0) = decide (d < 0) then mkM n d else - mkM n d
/-- What Make returns: numerator, denominator, error. -/
def fits (n d : Int) : Bool := decide (mkM n d ≤ 1000000 ∧ mkD n d ≤ 1000000)
def mk1 (n d : Int) : Int := if d = 0 then 0 else if fits n d = true then mkN n d else 0
def mk2 (n d : Int) : Int := if d = 0 then 0 else if fits n d = true then mkD n d else 0
def mk3 (n d : Int) : Int := if d = 0 then 17 else if fits n d = true then 0 else 4
def fr (n d : Int) : Value := .agg #[.int .i64 n, .int .i64 d]
def mkV (n d : Int) : Value := .tuple #[.agg #[.int .i64 (mk1 n d), .int .i64 (mk2 n d)], .int .i64 (mk3 n d)]
theorem mkV_zero (n d : Int) (h : d = 0) : Value.tuple #[.agg #[.int .i64 0, .int .i64 0], .int .i64 17] = mkV n d := by
  unfold mkV mk1 mk2 mk3; rw [if_pos h, if_pos h, if_pos h]
theorem mkV_limit (n d : Int) (h : d ≠ 0) (hf : ¬ (mkM n d ≤ 1000000 ∧ mkD n d ≤ 1000000)) : Value.tuple #[.agg #[.int .i64 0, .int .i64 0], .int .i64 4] = mkV n d := by
  unfold mkV mk1 mk2 mk3 fits; rw [if_neg h, if_neg h, if_neg h, if_neg (by simpa using hf), if_neg (by simpa using hf), if_neg (by simpa using hf)]
theorem mkV_fits (n d N D : Int) (h : d ≠ 0) (hf : mkM n d ≤ 1000000 ∧ mkD n d ≤ 1000000) (hn : N = mkN n d) (hd : D = mkD n d) : Value.tuple #[.agg #[.int .i64 N, .int .i64 D], .int .i64 0] = mkV n d := by
  unfold mkV mk1 mk2 mk3 fits; rw [if_neg h, if_neg h, if_neg h, if_pos (by simpa using hf), if_pos (by simpa using hf), if_pos (by simpa using hf), hn, hd]

set_option maxHeartbeats 1600000 in
theorem make_any (n d : Int) (w : World) (h1 : -9223372036854775808 ≤ n) (h2 : n ≤ 9223372036854775807) (h3 : -9223372036854775808 ≤ d) (h4 : d ≤ 9223372036854775807) :
    Calls Tryd.prog 15 #[.int .i64 n, .int .i64 d] w (Ret (mkV n d) w) := by
  by_cases h0 : d = 0
  · have e0 : (d == 0) = true := by simpa using h0
    have H0 := Lib.hid h0
    clear h0
    go_enter Tryd.func15, Tryd.ntmps15
    go_wp2
    refine bodyPost_ret (v := .tuple #[.agg #[.int .i64 0, .int .i64 0], .int .i64 17]) (by simp [results, Tryd.results15, go_sem]) rfl (Ret.mk (by exact mkV_zero n d H0.out) (by (repeat' (first | (with_reducible exact Below.refl _ _) | (with_reducible exact Nat.le_refl _) | (with_reducible refine Below.bel ?_ ?_) | (with_reducible refine Below.alloc ?_ ?_ _) | (with_reducible refine Below.drew ?_) | (with_reducible refine Below.drawsN ?_ _) | (with_reducible refine Below.setCell ?_ ?_ _) | (with_reducible refine le_bel ?_) | (with_reducible refine le_alloc ?_) | (with_reducible refine le_setCell ?_) | (with_reducible refine le_drew ?_) | (with_reducible refine le_drawsN ?_) | (dsimp only; with_reducible refine le_bel ?_) | (dsimp only; with_reducible refine Nat.le_refl _) | (dsimp only; with_reducible refine le_bel_add ?_) | (with_reducible assumption) | omega | (dsimp only; omega)))))
  have e0 : (d == 0) = false := by simpa using h0
  go_enter Tryd.func15, Tryd.ntmps15
  go_wp2_with fail
  (with_reducible refine (magnitude_any _ _ (by omega) (by omega)).mono ?_)
  rintro _ _ ⟨rfl, rfl⟩
  go_wp2_with fail
  (with_reducible refine (magnitude_any _ _ (by omega) (by omega)).mono ?_)
  rintro _ _ ⟨rfl, rfl⟩
  go_wp2_with fail
  (with_reducible refine (gcd_any _ _ _ (by omega) (by omega) (by omega) (by omega)).mono ?_)
  rintro _ _ ⟨rfl, k, rfl⟩
  have hg0 : 0 < Int.gcd n d := Int.gcd_pos_of_ne_zero_right _ h0
  have hgn : (n.natAbs : Int) / (Int.gcd n d : Int) = mkM n d := rfl
  have hgd : (d.natAbs : Int) / (Int.gcd n d : Int) = mkD n d := rfl
  have hb1 : mkM n d ≤ n.natAbs := by rw [← hgn]; exact Int.ediv_le_self _ (by omega)
  have hb2 : mkD n d ≤ d.natAbs := by rw [← hgd]; exact Int.ediv_le_self _ (by omega)
  have hb3 : 0 ≤ mkM n d := by rw [← hgn]; exact Int.ediv_nonneg (by omega) (by omega)
  have hb4 : 0 ≤ mkD n d := by rw [← hgd]; exact Int.ediv_nonneg (by omega) (by omega)
  have hlim := mkV_limit n d h0
  have hfit := fun N D => mkV_fits n d N D h0
  have hN : mkN n d = if decide (n < 0) = decide (d < 0) then mkM n d else - mkM n d := rfl
  rw [show Int.gcd (n.natAbs : Int) (d.natAbs : Int) = Int.gcd n d from by rw [Int.gcd_eq_natAbs_gcd_natAbs, Int.gcd_eq_natAbs_gcd_natAbs, Int.natAbs_natCast, Int.natAbs_natCast]]
  generalize mkV n d = V at *
  generalize mkN n d = N at *
  generalize hMe : mkM n d = M at *
  generalize hDe : mkD n d = D at *
  generalize (Int.gcd n d) = g at *
  generalize hA : (n.natAbs : Int) = A at *
  generalize hB : (d.natAbs : Int) = B at *
  have HM := Lib.hid hgn
  have HD := Lib.hid hgd
  have HL := Lib.hid hlim
  have HF := Lib.hid hfit
  have HN := Lib.hid hN
  have hA0 : 0 ≤ A := by omega
  have hA1 : A < 18446744073709551616 := by omega
  have hB0 : 0 ≤ B := by omega
  have hB1 : B < 18446744073709551616 := by omega
  have hg1 : (0 : Int) < g := by omega
  clear hgn hgd hMe hDe hA hB h0 hlim hfit hN
  go_wp2_with fail
  refine wp_region_bel (by kernel_rfl) (by kernel_rfl) ?_
  repeat (go_big_quiet_step (fail))
  refine wpQuiet_nil ?_
  rintro _ ⟨x1, rfl⟩
  rw [HM.out, HD.out]
  by_cases hl1 : 1000000 < M
  · go_wp2
    refine bodyPost_ret (v := .tuple #[.agg #[.int .i64 0, .int .i64 0], .int .i64 4]) (by simp [results, Tryd.results15, go_sem]) rfl (Ret.mk (by exact HL.out (by omega)) (by (repeat' (first | (with_reducible exact Below.refl _ _) | (with_reducible exact Nat.le_refl _) | (with_reducible refine Below.bel ?_ ?_) | (with_reducible refine Below.alloc ?_ ?_ _) | (with_reducible refine Below.drew ?_) | (with_reducible refine Below.drawsN ?_ _) | (with_reducible refine Below.setCell ?_ ?_ _) | (with_reducible refine le_bel ?_) | (with_reducible refine le_alloc ?_) | (with_reducible refine le_setCell ?_) | (with_reducible refine le_drew ?_) | (with_reducible refine le_drawsN ?_) | (dsimp only; with_reducible refine le_bel ?_) | (dsimp only; with_reducible refine Nat.le_refl _) | (dsimp only; with_reducible refine le_bel_add ?_) | (with_reducible assumption) | omega | (dsimp only; omega)))))
  have dl1 : decide (1000000 < M) = false := by simpa using hl1
  by_cases hl2 : 1000000 < D
  · go_wp2
    refine bodyPost_ret (v := .tuple #[.agg #[.int .i64 0, .int .i64 0], .int .i64 4]) (by simp [results, Tryd.results15, go_sem]) rfl (Ret.mk (by exact HL.out (by omega)) (by (repeat' (first | (with_reducible exact Below.refl _ _) | (with_reducible exact Nat.le_refl _) | (with_reducible refine Below.bel ?_ ?_) | (with_reducible refine Below.alloc ?_ ?_ _) | (with_reducible refine Below.drew ?_) | (with_reducible refine Below.drawsN ?_ _) | (with_reducible refine Below.setCell ?_ ?_ _) | (with_reducible refine le_bel ?_) | (with_reducible refine le_alloc ?_) | (with_reducible refine le_setCell ?_) | (with_reducible refine le_drew ?_) | (with_reducible refine le_drawsN ?_) | (dsimp only; with_reducible refine le_bel ?_) | (dsimp only; with_reducible refine Nat.le_refl _) | (dsimp only; with_reducible refine le_bel_add ?_) | (with_reducible assumption) | omega | (dsimp only; omega)))))
  have dl2 : decide (1000000 < D) = false := by simpa using hl2
  by_cases hs1 : n < 0
  · by_cases hs2 : d < 0
    · go_wp2
      refine bodyPost_ret (v := .tuple #[.agg #[.int .i64 M, .int .i64 D], .int .i64 0]) (by simp [results, Tryd.results15, go_sem]) rfl (Ret.mk (by exact HF.out _ _ (by omega) (by rw [HN.out, if_pos (by simp [hs1, hs2])]) rfl) (by (repeat' (first | (with_reducible exact Below.refl _ _) | (with_reducible exact Nat.le_refl _) | (with_reducible refine Below.bel ?_ ?_) | (with_reducible refine Below.alloc ?_ ?_ _) | (with_reducible refine Below.drew ?_) | (with_reducible refine Below.drawsN ?_ _) | (with_reducible refine Below.setCell ?_ ?_ _) | (with_reducible refine le_bel ?_) | (with_reducible refine le_alloc ?_) | (with_reducible refine le_setCell ?_) | (with_reducible refine le_drew ?_) | (with_reducible refine le_drawsN ?_) | (dsimp only; with_reducible refine le_bel ?_) | (dsimp only; with_reducible refine Nat.le_refl _) | (dsimp only; with_reducible refine le_bel_add ?_) | (with_reducible assumption) | omega | (dsimp only; omega)))))
    · go_wp2
      refine bodyPost_ret (v := .tuple #[.agg #[.int .i64 (-M), .int .i64 D], .int .i64 0]) (by simp [results, Tryd.results15, go_sem]) rfl (Ret.mk (by exact HF.out _ _ (by omega) (by rw [HN.out, if_neg (by simp [hs1, hs2])]) rfl) (by (repeat' (first | (with_reducible exact Below.refl _ _) | (with_reducible exact Nat.le_refl _) | (with_reducible refine Below.bel ?_ ?_) | (with_reducible refine Below.alloc ?_ ?_ _) | (with_reducible refine Below.drew ?_) | (with_reducible refine Below.drawsN ?_ _) | (with_reducible refine Below.setCell ?_ ?_ _) | (with_reducible refine le_bel ?_) | (with_reducible refine le_alloc ?_) | (with_reducible refine le_setCell ?_) | (with_reducible refine le_drew ?_) | (with_reducible refine le_drawsN ?_) | (dsimp only; with_reducible refine le_bel ?_) | (dsimp only; with_reducible refine Nat.le_refl _) | (dsimp only; with_reducible refine le_bel_add ?_) | (with_reducible assumption) | omega | (dsimp only; omega)))))
  · by_cases hs2 : d < 0
    · go_wp2
      refine bodyPost_ret (v := .tuple #[.agg #[.int .i64 (-M), .int .i64 D], .int .i64 0]) (by simp [results, Tryd.results15, go_sem]) rfl (Ret.mk (by exact HF.out _ _ (by omega) (by rw [HN.out, if_neg (by simp [hs1, hs2])]) rfl) (by (repeat' (first | (with_reducible exact Below.refl _ _) | (with_reducible exact Nat.le_refl _) | (with_reducible refine Below.bel ?_ ?_) | (with_reducible refine Below.alloc ?_ ?_ _) | (with_reducible refine Below.drew ?_) | (with_reducible refine Below.drawsN ?_ _) | (with_reducible refine Below.setCell ?_ ?_ _) | (with_reducible refine le_bel ?_) | (with_reducible refine le_alloc ?_) | (with_reducible refine le_setCell ?_) | (with_reducible refine le_drew ?_) | (with_reducible refine le_drawsN ?_) | (dsimp only; with_reducible refine le_bel ?_) | (dsimp only; with_reducible refine Nat.le_refl _) | (dsimp only; with_reducible refine le_bel_add ?_) | (with_reducible assumption) | omega | (dsimp only; omega)))))
    · go_wp2
      refine bodyPost_ret (v := .tuple #[.agg #[.int .i64 M, .int .i64 D], .int .i64 0]) (by simp [results, Tryd.results15, go_sem]) rfl (Ret.mk (by exact HF.out _ _ (by omega) (by rw [HN.out, if_pos (by rw [decide_eq_false (by omega), decide_eq_false (by omega)])]) rfl) (by (repeat' (first | (with_reducible exact Below.refl _ _) | (with_reducible exact Nat.le_refl _) | (with_reducible refine Below.bel ?_ ?_) | (with_reducible refine Below.alloc ?_ ?_ _) | (with_reducible refine Below.drew ?_) | (with_reducible refine Below.drawsN ?_ _) | (with_reducible refine Below.setCell ?_ ?_ _) | (with_reducible refine le_bel ?_) | (with_reducible refine le_alloc ?_) | (with_reducible refine le_setCell ?_) | (with_reducible refine le_drew ?_) | (with_reducible refine le_drawsN ?_) | (dsimp only; with_reducible refine le_bel ?_) | (dsimp only; with_reducible refine Nat.le_refl _) | (dsimp only; with_reducible refine le_bel_add ?_) | (with_reducible assumption) | omega | (dsimp only; omega)))))

theorem make_val (n d : Int) (w : World) (h1 : -9223372036854775808 ≤ n) (h2 : n ≤ 9223372036854775807) (h3 : -9223372036854775808 ≤ d) (h4 : d ≤ 9223372036854775807) :
    Calls Tryd.prog 15 #[.int .i64 n, .int .i64 d] w (Ret (.tuple #[.agg #[.int .i64 (mk1 n d), .int .i64 (mk2 n d)], .int .i64 (mk3 n d)]) w) := make_any n d w h1 h2 h3 h4

theorem whole_any (n : Int) (w : World) (h1 : -9223372036854775808 ≤ n) (h2 : n ≤ 9223372036854775807) :
    Calls Tryd.prog 16 #[.int .i64 n] w (Ret (.tuple #[.agg #[.int .i64 (mk1 n 1), .int .i64 (mk2 n 1)], .int .i64 (mk3 n 1)]) w) := by
  go_enter Tryd.func16, Tryd.ntmps16
  go_wp2_with fail
  (with_reducible refine (make_val _ _ _ (by omega) (by omega) (by omega) (by omega)).mono ?_)
  rintro _ _ ⟨rfl, x1, rfl⟩
  go_wp2
  refine bodyPost_ret (v := .tuple #[.agg #[.int .i64 (mk1 n 1), .int .i64 (mk2 n 1)], .int .i64 (mk3 n 1)]) (by simp [results, Tryd.results16, go_sem]) rfl (Ret.mk (by rfl) (by (repeat' (first | (with_reducible exact Below.refl _ _) | (with_reducible exact Nat.le_refl _) | (with_reducible refine Below.bel ?_ ?_) | (with_reducible refine Below.alloc ?_ ?_ _) | (with_reducible refine Below.drew ?_) | (with_reducible refine Below.drawsN ?_ _) | (with_reducible refine Below.setCell ?_ ?_ _) | (with_reducible refine le_bel ?_) | (with_reducible refine le_alloc ?_) | (with_reducible refine le_setCell ?_) | (with_reducible refine le_drew ?_) | (with_reducible refine le_drawsN ?_) | (dsimp only; with_reducible refine le_bel ?_) | (dsimp only; with_reducible refine Nat.le_refl _) | (dsimp only; with_reducible refine le_bel_add ?_) | (with_reducible assumption) | omega | (dsimp only; omega)))))

/-! ### The reference -/
theorem refmag_any (n : Int) (w : World) (h1 : -9223372036854775808 ≤ n) (h2 : n ≤ 9223372036854775807) :
    Calls Tryd.prog 66 #[.int .i64 n] w fun e w' => e = .returned (.int .i64 (-(n.natAbs : Int))) ∧ w = w' := by
  go_enter Tryd.func66, Tryd.ntmps66
  go_wp2
  · go_ret
    exact ⟨ret_int (by omega), rfl⟩
  · go_ret
    exact ⟨ret_int (by omega), rfl⟩

/-- The greatest common divisor, as the reference's function returns it: of the least int and itself (or 0) the least int. -/
def dvs (a b : Int) : Int := wrap64 (Int.gcd a b : Int)

theorem tmod_neg_neg (m n : Nat) : Int.tmod (-(m : Int)) (-(n : Int)) = -((m % n : Nat) : Int) := by
  rw [Int.tmod_neg, Int.neg_tmod, Int.ofNat_tmod]

set_option maxHeartbeats 400000 in
theorem divisor_any (a b : Int) (w : World) (h1 : -9223372036854775808 ≤ a) (h2 : a ≤ 9223372036854775807) (h3 : -9223372036854775808 ≤ b) (h4 : b ≤ 9223372036854775807) :
    Calls Tryd.prog 46 #[.int .i64 a, .int .i64 b] w fun e w' => e = .returned (.int .i64 (dvs a b)) ∧ ∃ n, w' = w.drewN n := by
  go_enter Tryd.func46, Tryd.ntmps46
  go_wp2_with fail
  (with_reducible refine (refmag_any _ _ (by omega) (by omega)).mono ?_)
  rintro _ _ ⟨rfl, rfl⟩
  go_wp2_with fail
  (with_reducible refine (refmag_any _ _ (by omega) (by omega)).mono ?_)
  rintro _ _ ⟨rfl, rfl⟩
  go_wp2
  go_loopw [0, 1] (fun x y wr => ∃ m n : Nat, m ≤ 9223372036854775808 ∧ n ≤ 9223372036854775808 ∧ Nat.gcd m n = Int.gcd a b ∧ x = .int .i64 (-(m : Int)) ∧ y = .int .i64 (-(n : Int)) ∧ ∃ k, wr = w.drewN k) (fun _ y _ => (-intOf y).toNat)
  case atStart => exact ⟨a.natAbs, b.natAbs, by omega, by omega, rfl, rfl, rfl, 0, rfl⟩
  case round =>
    obtain ⟨m, n, hm, hn, hg, rfl, rfl, k, rfl⟩ := hrel
    have HG := Lib.hid hg
    clear hg
    by_cases hn0 : n = 0
    · subst hn0
      go_wp2
      go_ret
      have := HG.out
      exact ⟨ret_int (by rw [dvs, ← this, Nat.gcd_zero_right]), k, rfl⟩
    · have e0 : (-(n : Int) != 0) = true := by rw [bne_iff_ne]; omega
      have hn1 : 0 < n := by omega
      clear hn0
      go_wp2_with fail
      go_quiet (fail)
      go_wp2
      go_roundw
      case rel =>
        have hr := Nat.mod_lt m hn1
        refine ⟨n, m % n, hn, by omega, ?_, rfl, ?_, k + nq, World.drewN_drewN _ _ _⟩
        · rw [← HG.out, Nat.gcd_comm n, ← Nat.gcd_rec, Nat.gcd_comm]
        · exact val_i64 (by rw [Int.natCast_emod])
      case measure =>
        simp only [intOf]
        have hr := Nat.mod_lt m hn1
        omega
end Go.Proofs.YtoncbkkhfblpdaaDoor
