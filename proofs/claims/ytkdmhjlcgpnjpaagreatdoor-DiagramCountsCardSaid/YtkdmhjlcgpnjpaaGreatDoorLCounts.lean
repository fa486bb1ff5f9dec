/- The walk of DiagramCounts. -/
import Derived.Test.YtkdmhjlcgpnjpaaGreatDoorX28
import Derived.Test.YtkdmhjlcgpnjpaaGreatDoorXI
import Derived.Test.YtkdmhjlcgpnjpaaGreatDoorXJ
namespace Go.Proofs.YtkdmhjlcgpnjpaaGreatDoor
set_option linter.unusedVariables false
set_option linter.unusedSimpArgs false
open Go.RowKit Go.Maps
attribute [local go_sem low] Bel.cell Bel.frozen alloc_cell alloc_frozen

set_option maxRecDepth 100000 in
set_option maxHeartbeats 12800000 in
theorem lawCounts_long (t : Nat) (v : Int) (h1 : 40 < v) (h2 : v ≤ 1000) (w : World) (hT : Tab w) : Calls Tryz.prog 4 #[.int .u64 (t : Int), .int .i64 v] w (Ret (.bool true) w) := by
  have HT := Lib.hid hT
  have f1 : decide (40 < v) = true := decide_eq_true h1
  have f2 : decide (v ≤ 1000) = true := decide_eq_true h2
  clear hT
  go_enter Tryz.func4, Tryz.ntmps4
  go_wp2_with fail
  (with_reducible refine (known_any _ (HT.out.of (by (repeat' (first | (with_reducible exact Below.refl _ _) | (with_reducible exact Nat.le_refl _) | (with_reducible refine Below.bel ?_ ?_) | (with_reducible refine Below.alloc ?_ ?_ _) | (with_reducible refine Below.drew ?_) | (with_reducible refine Below.drawsN ?_ _) | (with_reducible refine Below.setCell ?_ ?_ _) | (with_reducible refine le_bel ?_) | (with_reducible refine le_alloc ?_) | (with_reducible refine le_setCell ?_) | (with_reducible refine le_drew ?_) | (with_reducible refine le_drawsN ?_) | (dsimp only; with_reducible refine le_bel ?_) | (dsimp only; with_reducible refine Nat.le_refl _) | (dsimp only; with_reducible refine le_bel_add ?_) | (with_reducible assumption) | omega | (dsimp only; omega)))))).mono ?_)
  rintro _ _ ⟨rfl, y1, rfl⟩
  dsimp only
  go_wp2_with fail
  (with_reducible refine (known_any _ (HT.out.of (by (repeat' (first | (with_reducible exact Below.refl _ _) | (with_reducible exact Nat.le_refl _) | (with_reducible refine Below.bel ?_ ?_) | (with_reducible refine Below.alloc ?_ ?_ _) | (with_reducible refine Below.drew ?_) | (with_reducible refine Below.drawsN ?_ _) | (with_reducible refine Below.setCell ?_ ?_ _) | (with_reducible refine le_bel ?_) | (with_reducible refine le_alloc ?_) | (with_reducible refine le_setCell ?_) | (with_reducible refine le_drew ?_) | (with_reducible refine le_drawsN ?_) | (dsimp only; with_reducible refine le_bel ?_) | (dsimp only; with_reducible refine Nat.le_refl _) | (dsimp only; with_reducible refine le_bel_add ?_) | (with_reducible assumption) | omega | (dsimp only; omega)))))).mono ?_)
  rintro _ _ ⟨rfl, y2, rfl⟩
  dsimp only
  go_wp2
  go_ret
  exact Ret.mk (by rfl) (by (repeat' (first | (with_reducible exact Below.refl _ _) | (with_reducible exact Nat.le_refl _) | (with_reducible refine Below.bel ?_ ?_) | (with_reducible refine Below.alloc ?_ ?_ _) | (with_reducible refine Below.drew ?_) | (with_reducible refine Below.drawsN ?_ _) | (with_reducible refine Below.setCell ?_ ?_ _) | (with_reducible refine le_bel ?_) | (with_reducible refine le_alloc ?_) | (with_reducible refine le_setCell ?_) | (with_reducible refine le_drew ?_) | (with_reducible refine le_drawsN ?_) | (dsimp only; with_reducible refine le_bel ?_) | (dsimp only; with_reducible refine Nat.le_refl _) | (dsimp only; with_reducible refine le_bel_add ?_) | (with_reducible assumption) | omega | (dsimp only; omega))))
set_option maxRecDepth 100000 in
set_option maxHeartbeats 12800000 in
theorem lawCounts_range (t : Nat) (ht : t < 2 ^ 64) (v : Int) (h1 : v < 0 ∨ 1000 < v) (w : World) (hT : Tab w) : Calls Tryz.prog 4 #[.int .u64 (t : Int), .int .i64 v] w (Ret (.bool true) w) := by
  have HT := Lib.hid hT
  have HM := Lib.hid (fun w' => lawMake_any t ht w')
  have HC := Lib.hid (fun ad cap w' (hi : InD w'.heap.size w' ad ((bldN t).map z3)) => Count_range (ad, cap, bldN t, bldR t) v w' (dnB ht hi) h1)
  unfold RetBd at HM
  obtain ⟨M, hM⟩ : ∃ M, bldN t = M := ⟨_, rfl⟩
  obtain ⟨r, hr⟩ : ∃ r, bldR t = r := ⟨_, rfl⟩
  rw [hM, hr] at HM HC
  clear hT hM hr
  have f0 : decide (40 < v) = false ∨ decide (v ≤ 1000) = false := by
    rcases h1 with h | h
    · exact .inl (decide_eq_false (by omega))
    · exact .inr (decide_eq_false (by omega))
  by_cases hv : v < 0
  · have f1 : decide (40 < v) = false := decide_eq_false (by omega)
    have f2 : decide (v < 0) = true := decide_eq_true hv
    clear f0 h1
    go_enter Tryz.func4, Tryz.ntmps4
    go_wp2_with fail
    (with_reducible refine (known_any _ (HT.out.of (by (repeat' (first | (with_reducible exact Below.refl _ _) | (with_reducible exact Nat.le_refl _) | (with_reducible refine Below.bel ?_ ?_) | (with_reducible refine Below.alloc ?_ ?_ _) | (with_reducible refine Below.drew ?_) | (with_reducible refine Below.drawsN ?_ _) | (with_reducible refine Below.setCell ?_ ?_ _) | (with_reducible refine le_bel ?_) | (with_reducible refine le_alloc ?_) | (with_reducible refine le_setCell ?_) | (with_reducible refine le_drew ?_) | (with_reducible refine le_drawsN ?_) | (dsimp only; with_reducible refine le_bel ?_) | (dsimp only; with_reducible refine Nat.le_refl _) | (dsimp only; with_reducible refine le_bel_add ?_) | (with_reducible assumption) | omega | (dsimp only; omega)))))).mono ?_)
    rintro _ _ ⟨rfl, y1, rfl⟩
    dsimp only
    go_wp2_with fail
    refine (HM.out _).mono ?_
    rintro _ W2 ⟨a2, c2, rfl, hi2, hb2⟩
    have hw2 : Below w.heap.size w W2 := Below.trans (show Below w.heap.size w y1.w by (repeat' (first | (with_reducible exact Below.refl _ _) | (with_reducible exact Nat.le_refl _) | (with_reducible refine Below.bel ?_ ?_) | (with_reducible refine Below.alloc ?_ ?_ _) | (with_reducible refine Below.drew ?_) | (with_reducible refine Below.drawsN ?_ _) | (with_reducible refine Below.setCell ?_ ?_ _) | (with_reducible refine le_bel ?_) | (with_reducible refine le_alloc ?_) | (with_reducible refine le_setCell ?_) | (with_reducible refine le_drew ?_) | (with_reducible refine le_drawsN ?_) | (dsimp only; with_reducible refine le_bel ?_) | (dsimp only; with_reducible refine Nat.le_refl _) | (dsimp only; with_reducible refine le_bel_add ?_) | (with_reducible assumption) | omega | (dsimp only; omega)))) (hb2.mono y1.below.size)
    have hs2 := hw2.size
    have HI := Lib.hid hi2
    clear hi2 hb2
    dsimp only
    go_wp2_with fail
    refine (HC.out _ _ _ ((HI.out.of (by (repeat' (first | (with_reducible exact Below.refl _ _) | (with_reducible exact Nat.le_refl _) | (with_reducible refine Below.bel ?_ ?_) | (with_reducible refine Below.alloc ?_ ?_ _) | (with_reducible refine Below.drew ?_) | (with_reducible refine Below.drawsN ?_ _) | (with_reducible refine Below.setCell ?_ ?_ _) | (with_reducible refine le_bel ?_) | (with_reducible refine le_alloc ?_) | (with_reducible refine le_setCell ?_) | (with_reducible refine le_drew ?_) | (with_reducible refine le_drawsN ?_) | (dsimp only; with_reducible refine le_bel ?_) | (dsimp only; with_reducible refine Nat.le_refl _) | (dsimp only; with_reducible refine le_bel_add ?_) | (with_reducible assumption) | omega | (dsimp only; omega))))).up (by simp))).mono ?_
    rintro _ _ ⟨rfl, y3, rfl⟩
    dsimp only
    go_wp2
    go_ret
    exact Ret.mk (by rfl) (by (repeat' (first | (with_reducible exact Below.refl _ _) | (with_reducible exact Nat.le_refl _) | (with_reducible refine Below.bel ?_ ?_) | (with_reducible refine Below.alloc ?_ ?_ _) | (with_reducible refine Below.drew ?_) | (with_reducible refine Below.drawsN ?_ _) | (with_reducible refine Below.setCell ?_ ?_ _) | (with_reducible refine le_bel ?_) | (with_reducible refine le_alloc ?_) | (with_reducible refine le_setCell ?_) | (with_reducible refine le_drew ?_) | (with_reducible refine le_drawsN ?_) | (dsimp only; with_reducible refine le_bel ?_) | (dsimp only; with_reducible refine Nat.le_refl _) | (dsimp only; with_reducible refine le_bel_add ?_) | (with_reducible assumption) | omega | (dsimp only; omega))))
  · have f1 : decide (v ≤ 1000) = false := decide_eq_false (by omega)
    have f2 : decide (v < 0) = false := decide_eq_false hv
    have f3 : decide (1000 < v) = true := decide_eq_true (by omega)
    have f4 : decide (40 < v) = true := decide_eq_true (by omega)
    clear f0 h1
    go_enter Tryz.func4, Tryz.ntmps4
    go_wp2_with fail
    (with_reducible refine (known_any _ (HT.out.of (by (repeat' (first | (with_reducible exact Below.refl _ _) | (with_reducible exact Nat.le_refl _) | (with_reducible refine Below.bel ?_ ?_) | (with_reducible refine Below.alloc ?_ ?_ _) | (with_reducible refine Below.drew ?_) | (with_reducible refine Below.drawsN ?_ _) | (with_reducible refine Below.setCell ?_ ?_ _) | (with_reducible refine le_bel ?_) | (with_reducible refine le_alloc ?_) | (with_reducible refine le_setCell ?_) | (with_reducible refine le_drew ?_) | (with_reducible refine le_drawsN ?_) | (dsimp only; with_reducible refine le_bel ?_) | (dsimp only; with_reducible refine Nat.le_refl _) | (dsimp only; with_reducible refine le_bel_add ?_) | (with_reducible assumption) | omega | (dsimp only; omega)))))).mono ?_)
    rintro _ _ ⟨rfl, y1, rfl⟩
    dsimp only
    go_wp2_with fail
    refine (HM.out _).mono ?_
    rintro _ W2 ⟨a2, c2, rfl, hi2, hb2⟩
    have hw2 : Below w.heap.size w W2 := Below.trans (show Below w.heap.size w y1.w by (repeat' (first | (with_reducible exact Below.refl _ _) | (with_reducible exact Nat.le_refl _) | (with_reducible refine Below.bel ?_ ?_) | (with_reducible refine Below.alloc ?_ ?_ _) | (with_reducible refine Below.drew ?_) | (with_reducible refine Below.drawsN ?_ _) | (with_reducible refine Below.setCell ?_ ?_ _) | (with_reducible refine le_bel ?_) | (with_reducible refine le_alloc ?_) | (with_reducible refine le_setCell ?_) | (with_reducible refine le_drew ?_) | (with_reducible refine le_drawsN ?_) | (dsimp only; with_reducible refine le_bel ?_) | (dsimp only; with_reducible refine Nat.le_refl _) | (dsimp only; with_reducible refine le_bel_add ?_) | (with_reducible assumption) | omega | (dsimp only; omega)))) (hb2.mono y1.below.size)
    have hs2 := hw2.size
    have HI := Lib.hid hi2
    clear hi2 hb2
    dsimp only
    go_wp2_with fail
    refine (HC.out _ _ _ ((HI.out.of (by (repeat' (first | (with_reducible exact Below.refl _ _) | (with_reducible exact Nat.le_refl _) | (with_reducible refine Below.bel ?_ ?_) | (with_reducible refine Below.alloc ?_ ?_ _) | (with_reducible refine Below.drew ?_) | (with_reducible refine Below.drawsN ?_ _) | (with_reducible refine Below.setCell ?_ ?_ _) | (with_reducible refine le_bel ?_) | (with_reducible refine le_alloc ?_) | (with_reducible refine le_setCell ?_) | (with_reducible refine le_drew ?_) | (with_reducible refine le_drawsN ?_) | (dsimp only; with_reducible refine le_bel ?_) | (dsimp only; with_reducible refine Nat.le_refl _) | (dsimp only; with_reducible refine le_bel_add ?_) | (with_reducible assumption) | omega | (dsimp only; omega))))).up (by simp))).mono ?_
    rintro _ _ ⟨rfl, y3, rfl⟩
    dsimp only
    go_wp2
    go_ret
    exact Ret.mk (by rfl) (by (repeat' (first | (with_reducible exact Below.refl _ _) | (with_reducible exact Nat.le_refl _) | (with_reducible refine Below.bel ?_ ?_) | (with_reducible refine Below.alloc ?_ ?_ _) | (with_reducible refine Below.drew ?_) | (with_reducible refine Below.drawsN ?_ _) | (with_reducible refine Below.setCell ?_ ?_ _) | (with_reducible refine le_bel ?_) | (with_reducible refine le_alloc ?_) | (with_reducible refine le_setCell ?_) | (with_reducible refine le_drew ?_) | (with_reducible refine le_drawsN ?_) | (dsimp only; with_reducible refine le_bel ?_) | (dsimp only; with_reducible refine Nat.le_refl _) | (dsimp only; with_reducible refine le_bel_add ?_) | (with_reducible assumption) | omega | (dsimp only; omega))))
set_option maxRecDepth 100000 in
set_option maxHeartbeats 12800000 in
theorem lawCounts_size (t : Nat) (ht : t < 2 ^ 64) (n : Nat) (h1 : n ≤ 40) (hl : n < leastT t 6) (w : World) (hT : Tab w) : Calls Tryz.prog 4 #[.int .u64 (t : Int), .int .i64 (n : Int)] w (Ret (.bool true) w) := by
  have HT := Lib.hid hT
  have HM := Lib.hid (fun w' => lawMake_any t ht w')
  have HC := Lib.hid (fun ad cap w' (hi : InD w'.heap.size w' ad ((bldN t).map z3)) => Count_tab_size t n ht (by omega) hl ad cap w' hi)
  have HL := Lib.hid (fun w' => least_any t ht w')
  unfold RetBd at HM
  obtain ⟨M, hM⟩ : ∃ M, bldN t = M := ⟨_, rfl⟩
  obtain ⟨r, hr⟩ : ∃ r, bldR t = r := ⟨_, rfl⟩
  obtain ⟨l, hll⟩ : ∃ l, leastT t 6 = l := ⟨_, rfl⟩
  rw [hM, hr] at HM HC
  rw [hll] at HL hl
  clear hT hM hr hll
  have f1 : decide (40 < (n : Int)) = false := decide_eq_false (by omega)
  have f2 : decide ((n : Int) < 0) = false := decide_eq_false (by omega)
  have f3 : decide (1000 < (n : Int)) = false := decide_eq_false (by omega)
  have f4 : decide ((n : Int) < (l : Int)) = true := decide_eq_true (by omega)
  go_enter Tryz.func4, Tryz.ntmps4
  go_wp2_with fail
  (with_reducible refine (known_any _ (HT.out.of (by (repeat' (first | (with_reducible exact Below.refl _ _) | (with_reducible exact Nat.le_refl _) | (with_reducible refine Below.bel ?_ ?_) | (with_reducible refine Below.alloc ?_ ?_ _) | (with_reducible refine Below.drew ?_) | (with_reducible refine Below.drawsN ?_ _) | (with_reducible refine Below.setCell ?_ ?_ _) | (with_reducible refine le_bel ?_) | (with_reducible refine le_alloc ?_) | (with_reducible refine le_setCell ?_) | (with_reducible refine le_drew ?_) | (with_reducible refine le_drawsN ?_) | (dsimp only; with_reducible refine le_bel ?_) | (dsimp only; with_reducible refine Nat.le_refl _) | (dsimp only; with_reducible refine le_bel_add ?_) | (with_reducible assumption) | omega | (dsimp only; omega)))))).mono ?_)
  rintro _ _ ⟨rfl, y1, rfl⟩
  dsimp only
  go_wp2_with fail
  refine (HM.out _).mono ?_
  rintro _ W2 ⟨a2, c2, rfl, hi2, hb2⟩
  have hw2 : Below w.heap.size w W2 := Below.trans (show Below w.heap.size w y1.w by (repeat' (first | (with_reducible exact Below.refl _ _) | (with_reducible exact Nat.le_refl _) | (with_reducible refine Below.bel ?_ ?_) | (with_reducible refine Below.alloc ?_ ?_ _) | (with_reducible refine Below.drew ?_) | (with_reducible refine Below.drawsN ?_ _) | (with_reducible refine Below.setCell ?_ ?_ _) | (with_reducible refine le_bel ?_) | (with_reducible refine le_alloc ?_) | (with_reducible refine le_setCell ?_) | (with_reducible refine le_drew ?_) | (with_reducible refine le_drawsN ?_) | (dsimp only; with_reducible refine le_bel ?_) | (dsimp only; with_reducible refine Nat.le_refl _) | (dsimp only; with_reducible refine le_bel_add ?_) | (with_reducible assumption) | omega | (dsimp only; omega)))) (hb2.mono y1.below.size)
  have hs2 := hw2.size
  have HI := Lib.hid hi2
  clear hi2 hb2
  dsimp only
  go_wp2_with fail
  refine (HC.out _ _ _ ((HI.out.of (by (repeat' (first | (with_reducible exact Below.refl _ _) | (with_reducible exact Nat.le_refl _) | (with_reducible refine Below.bel ?_ ?_) | (with_reducible refine Below.alloc ?_ ?_ _) | (with_reducible refine Below.drew ?_) | (with_reducible refine Below.drawsN ?_ _) | (with_reducible refine Below.setCell ?_ ?_ _) | (with_reducible refine le_bel ?_) | (with_reducible refine le_alloc ?_) | (with_reducible refine le_setCell ?_) | (with_reducible refine le_drew ?_) | (with_reducible refine le_drawsN ?_) | (dsimp only; with_reducible refine le_bel ?_) | (dsimp only; with_reducible refine Nat.le_refl _) | (dsimp only; with_reducible refine le_bel_add ?_) | (with_reducible assumption) | omega | (dsimp only; omega))))).up (by simp))).mono ?_
  rintro _ _ ⟨rfl, y3, rfl⟩
  dsimp only
  go_wp2_with fail
  refine (HL.out _).mono ?_
  rintro _ _ ⟨rfl, y4, rfl⟩
  dsimp only
  go_wp2
  go_ret
  exact Ret.mk (by rfl) (by (repeat' (first | (with_reducible exact Below.refl _ _) | (with_reducible exact Nat.le_refl _) | (with_reducible refine Below.bel ?_ ?_) | (with_reducible refine Below.alloc ?_ ?_ _) | (with_reducible refine Below.drew ?_) | (with_reducible refine Below.drawsN ?_ _) | (with_reducible refine Below.setCell ?_ ?_ _) | (with_reducible refine le_bel ?_) | (with_reducible refine le_alloc ?_) | (with_reducible refine le_setCell ?_) | (with_reducible refine le_drew ?_) | (with_reducible refine le_drawsN ?_) | (dsimp only; with_reducible refine le_bel ?_) | (dsimp only; with_reducible refine Nat.le_refl _) | (dsimp only; with_reducible refine le_bel_add ?_) | (with_reducible assumption) | omega | (dsimp only; omega))))
set_option maxRecDepth 100000 in
set_option maxHeartbeats 12800000 in
theorem lawCounts_in (t : Nat) (ht : t < 2 ^ 64) (n : Nat) (h1 : n ≤ 40) (hl : leastT t 6 ≤ n) (w : World) (hT : Tab w) : Calls Tryz.prog 4 #[.int .u64 (t : Int), .int .i64 (n : Int)] w (Ret (.bool true) w) := by
  have HT := Lib.hid hT
  have HM := Lib.hid (fun w' => lawMake_any t ht w')
  have HC := Lib.hid (fun ad cap w' (hi : InD w'.heap.size w' ad ((bldN t).map z3)) (hT : I.Tab w') => Count_tab t n ht (by omega) hl ad cap w' hi hT)
  have HL := Lib.hid (fun w' => least_any t ht w')
  have HR := Lib.hid (fun w' => refCount_any t (min n 6) ht (by omega) w')
  have hcl : bsg (fun u => t.testBit u) (2 ^ min n 6) ≤ 64 := Nat.le_trans (bsg_le _ _) (Nat.pow_le_pow_right (by decide) (show min n 6 ≤ 6 by omega))
  have hpl : 2 ^ (n - 6) ≤ 2 ^ 34 := Nat.pow_le_pow_right (by decide) (by omega)
  unfold RetBd at HM
  obtain ⟨M, hM⟩ : ∃ M, bldN t = M := ⟨_, rfl⟩
  obtain ⟨r, hr⟩ : ∃ r, bldR t = r := ⟨_, rfl⟩
  obtain ⟨l, hll⟩ : ∃ l, leastT t 6 = l := ⟨_, rfl⟩
  obtain ⟨c, hc⟩ : ∃ c, bsg (fun u => t.testBit u) (2 ^ min n 6) = c := ⟨_, rfl⟩
  obtain ⟨q, hq⟩ : ∃ q, 2 ^ (n - 6) = q := ⟨_, rfl⟩
  rw [hM, hr] at HM HC
  rw [hll] at HL hl
  rw [hc] at HR HC hcl
  rw [hq] at HC hpl
  have hcq : c * q ≤ 64 * 2 ^ 34 := Nat.mul_le_mul hcl hpl
  have HQ := Lib.hid hq
  have HO := Lib.hid (fun w' hT => I.of_any ((c * q : Nat) : Int) w' (by omega) (by omega) hT)
  obtain ⟨s, hs⟩ : ∃ s, (⟨(I.iT ((c * q : Nat) : Int)).toArray⟩ : ByteArray) = s := ⟨_, rfl⟩
  rw [hs] at HO HC
  have hmin : min (n : Int) 6 = ((min n 6 : Nat) : Int) := by omega
  have hsub : max (n : Int) 6 - 6 = ((n - 6 : Nat) : Int) := by omega
  clear hT hM hr hll hc hs hq
  have f1 : decide (40 < (n : Int)) = false := decide_eq_false (by omega)
  have f2 : decide ((n : Int) < 0) = false := decide_eq_false (by omega)
  have f3 : decide (1000 < (n : Int)) = false := decide_eq_false (by omega)
  have f4 : decide ((n : Int) < (l : Int)) = false := decide_eq_false (by omega)
  go_enter Tryz.func4, Tryz.ntmps4
  go_wp2_with fail
  (with_reducible refine (known_any _ (HT.out.of (by (repeat' (first | (with_reducible exact Below.refl _ _) | (with_reducible exact Nat.le_refl _) | (with_reducible refine Below.bel ?_ ?_) | (with_reducible refine Below.alloc ?_ ?_ _) | (with_reducible refine Below.drew ?_) | (with_reducible refine Below.drawsN ?_ _) | (with_reducible refine Below.setCell ?_ ?_ _) | (with_reducible refine le_bel ?_) | (with_reducible refine le_alloc ?_) | (with_reducible refine le_setCell ?_) | (with_reducible refine le_drew ?_) | (with_reducible refine le_drawsN ?_) | (dsimp only; with_reducible refine le_bel ?_) | (dsimp only; with_reducible refine Nat.le_refl _) | (dsimp only; with_reducible refine le_bel_add ?_) | (with_reducible assumption) | omega | (dsimp only; omega)))))).mono ?_)
  rintro _ _ ⟨rfl, y1, rfl⟩
  dsimp only
  go_wp2_with fail
  refine (HM.out _).mono ?_
  rintro _ W2 ⟨a2, c2, rfl, hi2, hb2⟩
  have hw2 : Below w.heap.size w W2 := Below.trans (show Below w.heap.size w y1.w by (repeat' (first | (with_reducible exact Below.refl _ _) | (with_reducible exact Nat.le_refl _) | (with_reducible refine Below.bel ?_ ?_) | (with_reducible refine Below.alloc ?_ ?_ _) | (with_reducible refine Below.drew ?_) | (with_reducible refine Below.drawsN ?_ _) | (with_reducible refine Below.setCell ?_ ?_ _) | (with_reducible refine le_bel ?_) | (with_reducible refine le_alloc ?_) | (with_reducible refine le_setCell ?_) | (with_reducible refine le_drew ?_) | (with_reducible refine le_drawsN ?_) | (dsimp only; with_reducible refine le_bel ?_) | (dsimp only; with_reducible refine Nat.le_refl _) | (dsimp only; with_reducible refine le_bel_add ?_) | (with_reducible assumption) | omega | (dsimp only; omega)))) (hb2.mono y1.below.size)
  have hs2 := hw2.size
  have HI := Lib.hid hi2
  clear hi2 hb2
  dsimp only
  go_wp2_with fail
  refine (HC.out _ _ _ ((HI.out.of (by (repeat' (first | (with_reducible exact Below.refl _ _) | (with_reducible exact Nat.le_refl _) | (with_reducible refine Below.bel ?_ ?_) | (with_reducible refine Below.alloc ?_ ?_ _) | (with_reducible refine Below.drew ?_) | (with_reducible refine Below.drawsN ?_ _) | (with_reducible refine Below.setCell ?_ ?_ _) | (with_reducible refine le_bel ?_) | (with_reducible refine le_alloc ?_) | (with_reducible refine le_setCell ?_) | (with_reducible refine le_drew ?_) | (with_reducible refine le_drawsN ?_) | (dsimp only; with_reducible refine le_bel ?_) | (dsimp only; with_reducible refine Nat.le_refl _) | (dsimp only; with_reducible refine le_bel_add ?_) | (with_reducible assumption) | omega | (dsimp only; omega))))).up (by simp)) (HT.out.of (by (repeat' (first | (with_reducible exact Below.refl _ _) | (with_reducible exact Nat.le_refl _) | (with_reducible refine Below.bel ?_ ?_) | (with_reducible refine Below.alloc ?_ ?_ _) | (with_reducible refine Below.drew ?_) | (with_reducible refine Below.drawsN ?_ _) | (with_reducible refine Below.setCell ?_ ?_ _) | (with_reducible refine le_bel ?_) | (with_reducible refine le_alloc ?_) | (with_reducible refine le_setCell ?_) | (with_reducible refine le_drew ?_) | (with_reducible refine le_drawsN ?_) | (dsimp only; with_reducible refine le_bel ?_) | (dsimp only; with_reducible refine Nat.le_refl _) | (dsimp only; with_reducible refine le_bel_add ?_) | (with_reducible assumption) | omega | (dsimp only; omega)))))).mono ?_
  rintro _ _ ⟨rfl, y3, rfl⟩
  dsimp only
  go_wp2_with fail
  refine (HL.out _).mono ?_
  rintro _ _ ⟨rfl, y4, rfl⟩
  dsimp only
  go_wp2_with fail
  refine (HR.out _).mono ?_
  rintro _ _ ⟨rfl, y5, rfl⟩
  dsimp only
  go_wp2_with fail
  have e : (c : Int) * 2 ^ (n - 6) = ((c * q : Nat) : Int) := by rw [← HQ.out]; simp
  have hwr : wrap64 ((c : Int) * 2 ^ (n - 6)) = ((c * q : Nat) : Int) := by
    have key : ∀ z : Nat, z ≤ 64 * 2 ^ 34 → wrap64 (z : Int) = (z : Int) := fun z hz => by unfold wrap64; omega
    rw [e]
    exact key _ hcq
  rw [hwr]
  refine (HO.out _ (HT.out.of (by (repeat' (first | (with_reducible exact Below.refl _ _) | (with_reducible exact Nat.le_refl _) | (with_reducible refine Below.bel ?_ ?_) | (with_reducible refine Below.alloc ?_ ?_ _) | (with_reducible refine Below.drew ?_) | (with_reducible refine Below.drawsN ?_ _) | (with_reducible refine Below.setCell ?_ ?_ _) | (with_reducible refine le_bel ?_) | (with_reducible refine le_alloc ?_) | (with_reducible refine le_setCell ?_) | (with_reducible refine le_drew ?_) | (with_reducible refine le_drawsN ?_) | (dsimp only; with_reducible refine le_bel ?_) | (dsimp only; with_reducible refine Nat.le_refl _) | (dsimp only; with_reducible refine le_bel_add ?_) | (with_reducible assumption) | omega | (dsimp only; omega)))))).mono ?_
  rintro _ _ ⟨rfl, y6, rfl⟩
  dsimp only
  go_wp2
  go_ret
  exact Ret.mk (by rfl) (by (repeat' (first | (with_reducible exact Below.refl _ _) | (with_reducible exact Nat.le_refl _) | (with_reducible refine Below.bel ?_ ?_) | (with_reducible refine Below.alloc ?_ ?_ _) | (with_reducible refine Below.drew ?_) | (with_reducible refine Below.drawsN ?_ _) | (with_reducible refine Below.setCell ?_ ?_ _) | (with_reducible refine le_bel ?_) | (with_reducible refine le_alloc ?_) | (with_reducible refine le_setCell ?_) | (with_reducible refine le_drew ?_) | (with_reducible refine le_drawsN ?_) | (dsimp only; with_reducible refine le_bel ?_) | (dsimp only; with_reducible refine Nat.le_refl _) | (dsimp only; with_reducible refine le_bel_add ?_) | (with_reducible assumption) | omega | (dsimp only; omega))))
end Go.Proofs.YtkdmhjlcgpnjpaaGreatDoor
