/- The walk of DiagramWitnesses. -/
import Derived.Test.YtkdmhjlcgpnjpaaGreatDoorX28
import Derived.Test.YtkdmhjlcgpnjpaaGreatDoorXI
import Derived.Test.YtkdmhjlcgpnjpaaGreatDoorXJ
namespace Go.Proofs.YtkdmhjlcgpnjpaaGreatDoor
set_option linter.unusedVariables false
set_option linter.unusedSimpArgs false
open Go.RowKit Go.Maps
attribute [local go_sem low] Bel.cell Bel.frozen alloc_cell alloc_frozen

/-- The rest of a table behind the first values. -/
def restT (t : Nat) : Nat → Nat
  | 0 => t
  | k + 1 => cof (restT t k) k (decide (cof (restT t k) k false = 0))
theorem restT_lt {t : Nat} (ht : t < 2 ^ 64) : ∀ k, restT t k < 2 ^ 64
  | 0 => ht
  | k + 1 => cof_lt _ _ _
theorem want_rest (t : Nat) : ∀ m k j, j < m → (wantL (restT t k) k m)[j]? = some (decide (cof (restT t (k + j)) (k + j) false = 0))
  | 0, k, j, h => by omega
  | m + 1, k, 0, h => rfl
  | m + 1, k, j + 1, h => by
    have := want_rest t m (k + 1) j (by omega)
    rw [show k + 1 + j = k + (j + 1) by omega] at this
    rw [wantL, List.getElem?_cons_succ]
    exact this
theorem want_in (t n k : Nat) (hk : k < n) (h6 : k < 6) : (wantL t 0 (min n 6) ++ List.replicate (n - 6) false)[k]? = some (decide (cof (restT t k) k false = 0)) := by
  rw [List.getElem?_append_left (by rw [wantL_len]; omega)]
  have := want_rest t (min n 6) 0 k (by omega)
  rw [Nat.zero_add] at this
  exact this
theorem want_far (t n k : Nat) (hk : k < n) (h6 : 6 ≤ k) : (wantL t 0 (min n 6) ++ List.replicate (n - 6) false)[k]? = some false := by
  rw [List.getElem?_append_right (by rw [wantL_len]; omega), wantL_len, List.getElem?_replicate, if_pos (by omega)]
theorem want_length (t n : Nat) : (wantL t 0 (min n 6) ++ List.replicate (n - 6) false).length = n := by
  rw [List.length_append, wantL_len, List.length_replicate]; omega
theorem ownB_get {w : World} {base g cap : Nat} {l : List Bool} (h : OwnB w base g cap l) {j : Nat} {b : Bool} (hj : l[j]? = some b) : w.cell? ⟨g, j, none⟩ = some (.bool b) := by
  obtain ⟨c, hc, _⟩ := ownB_at h (List.getElem?_eq_some_iff.1 hj).1
  obtain ⟨hxl, ⟨e1, e2⟩ | ⟨g', cap', cur, e1, hg, hh, hn, hcc, hcs, hcur⟩⟩ := h
  · cases e1
  · injection e1 with e1 _ _
    injection e1 with e1
    injection e1 with e1 _ _
    subst e1
    have hjl := (List.getElem?_eq_some_iff.1 hj).1
    have hb : (boolsD l)[j]? = some (.bool b) := by unfold boolsD; rw [List.getElem?_map, hj]; rfl
    rw [← hcur, List.getElem?_take_of_lt (by omega)] at hb
    simp [World.cell?, hh]
    simpa using hb

set_option maxRecDepth 100000 in
set_option maxHeartbeats 12800000 in
theorem lawWitnesses_long (t : Nat) (v : Int) (h1 : 40 < v) (h2 : v ≤ 4096) (w : World) (hT : Tab w) : Calls Tryz.prog 5 #[.int .u64 (t : Int), .int .i64 v] w (Ret (.bool true) w) := by
  have HT := Lib.hid hT
  have f1 : decide (40 < v) = true := decide_eq_true h1
  have f2 : decide (v ≤ 4096) = true := decide_eq_true h2
  clear hT
  go_enter Tryz.func5, Tryz.ntmps5
  go_wp2_with fail
  (with_reducible refine (known_any _ (HT.out.of (by (repeat' (first | (with_reducible exact Below.refl _ _) | (with_reducible exact Nat.le_refl _) | (with_reducible refine Below.bel ?_ ?_) | (with_reducible refine Below.alloc ?_ ?_ _) | (with_reducible refine Below.drew ?_) | (with_reducible refine Below.drawsN ?_ _) | (with_reducible refine Below.setCell ?_ ?_ _) | (with_reducible refine le_bel ?_) | (with_reducible refine le_alloc ?_) | (with_reducible refine le_setCell ?_) | (with_reducible refine le_drew ?_) | (with_reducible refine le_drawsN ?_) | (dsimp only; with_reducible refine le_bel ?_) | (dsimp only; with_reducible refine Nat.le_refl _) | (dsimp only; with_reducible refine le_bel_add ?_) | (with_reducible assumption) | omega | (dsimp only; omega)))))).mono ?_)
  rintro _ _ ⟨rfl, y1, rfl⟩
  dsimp only
  go_wp2_with fail
  (with_reducible refine (known_any _ (HT.out.of (by (repeat' (first | (with_reducible exact Below.refl _ _) | (with_reducible exact Nat.le_refl _) | (with_reducible refine Below.bel ?_ ?_) | (with_reducible refine Below.alloc ?_ ?_ _) | (with_reducible refine Below.drew ?_) | (with_reducible refine Below.drawsN ?_ _) | (with_reducible refine Below.setCell ?_ ?_ _) | (with_reducible refine le_bel ?_) | (with_reducible refine le_alloc ?_) | (with_reducible refine le_setCell ?_) | (with_reducible refine le_drew ?_) | (with_reducible refine le_drawsN ?_) | (dsimp only; with_reducible refine le_bel ?_) | (dsimp only; with_reducible refine Nat.le_refl _) | (dsimp only; with_reducible refine le_bel_add ?_) | (with_reducible assumption) | omega | (dsimp only; omega)))))).mono ?_)
  rintro _ _ ⟨rfl, y2, rfl⟩
  dsimp only
  go_wp2
  go_ret
  exact Ret.mk (by rfl) (by (repeat' (first | (with_reducible exact Below.refl _ _) | (with_reducible exact Nat.le_refl _) | (with_reducible refine Below.bel ?_ ?_) | (with_reducible refine Below.alloc ?_ ?_ _) | (with_reducible refine Below.drew ?_) | (with_reducible refine Below.drawsN ?_ _) | (with_reducible refine Below.setCell ?_ ?_ _) | (with_reducible refine le_bel ?_) | (with_reducible refine le_alloc ?_) | (with_reducible refine le_setCell ?_) | (with_reducible refine le_drew ?_) | (with_reducible refine le_drawsN ?_) | (dsimp only; with_reducible refine le_bel ?_) | (dsimp only; with_reducible refine Nat.le_refl _) | (dsimp only; with_reducible refine le_bel_add ?_) | (with_reducible assumption) | omega | (dsimp only; omega))))
set_option maxRecDepth 100000 in
set_option maxHeartbeats 12800000 in
theorem lawWitnesses_range (t : Nat) (ht : t < 2 ^ 64) (v : Int) (h1 : v < 0 ∨ 4096 < v) (w : World) (hT : Tab w) : Calls Tryz.prog 5 #[.int .u64 (t : Int), .int .i64 v] w (Ret (.bool true) w) := by
  have HT := Lib.hid hT
  have HM := Lib.hid (fun w' => lawMake_any t ht w')
  have HC := Lib.hid (fun ad cap w' (hi : InD w'.heap.size w' ad ((bldN t).map z3)) => Witness_range (ad, cap, bldN t, bldR t) v w' (dnB ht hi) h1)
  unfold RetBd at HM
  obtain ⟨M, hM⟩ : ∃ M, bldN t = M := ⟨_, rfl⟩
  obtain ⟨r, hr⟩ : ∃ r, bldR t = r := ⟨_, rfl⟩
  rw [hM, hr] at HM HC
  clear hT hM hr
  by_cases hv : v < 0
  · have f1 : decide (40 < v) = false := decide_eq_false (by omega)
    have f2 : decide (v < 0) = true := decide_eq_true hv
    clear h1
    go_enter Tryz.func5, Tryz.ntmps5
    go_wp2_with fail
    (with_reducible refine (known_any _ (HT.out.of (by (repeat' (first | (with_reducible exact Below.refl _ _) | (with_reducible exact Nat.le_refl _) | (with_reducible refine Below.bel ?_ ?_) | (with_reducible refine Below.alloc ?_ ?_ _) | (with_reducible refine Below.drew ?_) | (with_reducible refine Below.drawsN ?_ _) | (with_reducible refine Below.setCell ?_ ?_ _) | (with_reducible refine le_bel ?_) | (with_reducible refine le_alloc ?_) | (with_reducible refine le_setCell ?_) | (with_reducible refine le_drew ?_) | (with_reducible refine le_drawsN ?_) | (dsimp only; with_reducible refine le_bel ?_) | (dsimp only; with_reducible refine Nat.le_refl _) | (dsimp only; with_reducible refine le_bel_add ?_) | (with_reducible assumption) | omega | (dsimp only; omega)))))).mono ?_)
    rintro _ _ ⟨rfl, y1, rfl⟩
    dsimp only
    go_wp2_with fail
    refine (HM.out _).mono ?_
    rintro _ W2 ⟨a2, c2, rfl, hi2, hb2⟩
    have hw2 : Below w.heap.size w W2 := Below.trans (show Below w.heap.size w y1.w by (repeat' (first | (with_reducible exact Below.refl _ _) | (with_reducible exact Nat.le_refl _) | (with_reducible refine Below.bel ?_ ?_) | (with_reducible refine Below.alloc ?_ ?_ _) | (with_reducible refine Below.drew ?_) | (with_reducible refine Below.drawsN ?_ _) | (with_reducible refine Below.setCell ?_ ?_ _) | (with_reducible refine le_bel ?_) | (with_reducible refine le_alloc ?_) | (with_reducible refine le_setCell ?_) | (with_reducible refine le_drew ?_) | (with_reducible refine le_drawsN ?_) | (dsimp only; with_reducible refine le_bel ?_) | (dsimp only; with_reducible refine Nat.le_refl _) | (dsimp only; with_reducible refine le_bel_add ?_) | (with_reducible assumption) | omega | (dsimp only; omega)))) (hb2.mono y1.below.size)
    have hs2 := hw2.size
    have HI := Lib.hid hi2
    clear hi2 hb2
    dsimp only
    go_wp2_with fail
    refine (HC.out _ _ _ ((HI.out.of (by (repeat' (first | (with_reducible exact Below.refl _ _) | (with_reducible exact Nat.le_refl _) | (with_reducible refine Below.bel ?_ ?_) | (with_reducible refine Below.alloc ?_ ?_ _) | (with_reducible refine Below.drew ?_) | (with_reducible refine Below.drawsN ?_ _) | (with_reducible refine Below.setCell ?_ ?_ _) | (with_reducible refine le_bel ?_) | (with_reducible refine le_alloc ?_) | (with_reducible refine le_setCell ?_) | (with_reducible refine le_drew ?_) | (with_reducible refine le_drawsN ?_) | (dsimp only; with_reducible refine le_bel ?_) | (dsimp only; with_reducible refine Nat.le_refl _) | (dsimp only; with_reducible refine le_bel_add ?_) | (with_reducible assumption) | omega | (dsimp only; omega))))).up (by simp))).mono ?_
    rintro _ _ ⟨rfl, y3, rfl⟩
    dsimp only
    go_wp2
    go_ret
    exact Ret.mk (by rfl) (by (repeat' (first | (with_reducible exact Below.refl _ _) | (with_reducible exact Nat.le_refl _) | (with_reducible refine Below.bel ?_ ?_) | (with_reducible refine Below.alloc ?_ ?_ _) | (with_reducible refine Below.drew ?_) | (with_reducible refine Below.drawsN ?_ _) | (with_reducible refine Below.setCell ?_ ?_ _) | (with_reducible refine le_bel ?_) | (with_reducible refine le_alloc ?_) | (with_reducible refine le_setCell ?_) | (with_reducible refine le_drew ?_) | (with_reducible refine le_drawsN ?_) | (dsimp only; with_reducible refine le_bel ?_) | (dsimp only; with_reducible refine Nat.le_refl _) | (dsimp only; with_reducible refine le_bel_add ?_) | (with_reducible assumption) | omega | (dsimp only; omega))))
  · have f1 : decide (v ≤ 4096) = false := decide_eq_false (by omega)
    have f2 : decide (v < 0) = false := decide_eq_false hv
    have f3 : decide (4096 < v) = true := decide_eq_true (by omega)
    have f4 : decide (40 < v) = true := decide_eq_true (by omega)
    clear h1
    go_enter Tryz.func5, Tryz.ntmps5
    go_wp2_with fail
    (with_reducible refine (known_any _ (HT.out.of (by (repeat' (first | (with_reducible exact Below.refl _ _) | (with_reducible exact Nat.le_refl _) | (with_reducible refine Below.bel ?_ ?_) | (with_reducible refine Below.alloc ?_ ?_ _) | (with_reducible refine Below.drew ?_) | (with_reducible refine Below.drawsN ?_ _) | (with_reducible refine Below.setCell ?_ ?_ _) | (with_reducible refine le_bel ?_) | (with_reducible refine le_alloc ?_) | (with_reducible refine le_setCell ?_) | (with_reducible refine le_drew ?_) | (with_reducible refine le_drawsN ?_) | (dsimp only; with_reducible refine le_bel ?_) | (dsimp only; with_reducible refine Nat.le_refl _) | (dsimp only; with_reducible refine le_bel_add ?_) | (with_reducible assumption) | omega | (dsimp only; omega)))))).mono ?_)
    rintro _ _ ⟨rfl, y1, rfl⟩
    dsimp only
    go_wp2_with fail
    refine (HM.out _).mono ?_
    rintro _ W2 ⟨a2, c2, rfl, hi2, hb2⟩
    have hw2 : Below w.heap.size w W2 := Below.trans (show Below w.heap.size w y1.w by (repeat' (first | (with_reducible exact Below.refl _ _) | (with_reducible exact Nat.le_refl _) | (with_reducible refine Below.bel ?_ ?_) | (with_reducible refine Below.alloc ?_ ?_ _) | (with_reducible refine Below.drew ?_) | (with_reducible refine Below.drawsN ?_ _) | (with_reducible refine Below.setCell ?_ ?_ _) | (with_reducible refine le_bel ?_) | (with_reducible refine le_alloc ?_) | (with_reducible refine le_setCell ?_) | (with_reducible refine le_drew ?_) | (with_reducible refine le_drawsN ?_) | (dsimp only; with_reducible refine le_bel ?_) | (dsimp only; with_reducible refine Nat.le_refl _) | (dsimp only; with_reducible refine le_bel_add ?_) | (with_reducible assumption) | omega | (dsimp only; omega)))) (hb2.mono y1.below.size)
    have hs2 := hw2.size
    have HI := Lib.hid hi2
    clear hi2 hb2
    dsimp only
    go_wp2_with fail
    refine (HC.out _ _ _ ((HI.out.of (by (repeat' (first | (with_reducible exact Below.refl _ _) | (with_reducible exact Nat.le_refl _) | (with_reducible refine Below.bel ?_ ?_) | (with_reducible refine Below.alloc ?_ ?_ _) | (with_reducible refine Below.drew ?_) | (with_reducible refine Below.drawsN ?_ _) | (with_reducible refine Below.setCell ?_ ?_ _) | (with_reducible refine le_bel ?_) | (with_reducible refine le_alloc ?_) | (with_reducible refine le_setCell ?_) | (with_reducible refine le_drew ?_) | (with_reducible refine le_drawsN ?_) | (dsimp only; with_reducible refine le_bel ?_) | (dsimp only; with_reducible refine Nat.le_refl _) | (dsimp only; with_reducible refine le_bel_add ?_) | (with_reducible assumption) | omega | (dsimp only; omega))))).up (by simp))).mono ?_
    rintro _ _ ⟨rfl, y3, rfl⟩
    dsimp only
    go_wp2
    go_ret
    exact Ret.mk (by rfl) (by (repeat' (first | (with_reducible exact Below.refl _ _) | (with_reducible exact Nat.le_refl _) | (with_reducible refine Below.bel ?_ ?_) | (with_reducible refine Below.alloc ?_ ?_ _) | (with_reducible refine Below.drew ?_) | (with_reducible refine Below.drawsN ?_ _) | (with_reducible refine Below.setCell ?_ ?_ _) | (with_reducible refine le_bel ?_) | (with_reducible refine le_alloc ?_) | (with_reducible refine le_setCell ?_) | (with_reducible refine le_drew ?_) | (with_reducible refine le_drawsN ?_) | (dsimp only; with_reducible refine le_bel ?_) | (dsimp only; with_reducible refine Nat.le_refl _) | (dsimp only; with_reducible refine le_bel_add ?_) | (with_reducible assumption) | omega | (dsimp only; omega))))
set_option maxRecDepth 100000 in
set_option maxHeartbeats 12800000 in
theorem lawWitnesses_size (t : Nat) (ht : t < 2 ^ 64) (n : Nat) (h1 : n ≤ 40) (hl : n < leastT t 6) (w : World) (hT : Tab w) : Calls Tryz.prog 5 #[.int .u64 (t : Int), .int .i64 (n : Int)] w (Ret (.bool true) w) := by
  have HT := Lib.hid hT
  have HM := Lib.hid (fun w' => lawMake_any t ht w')
  have HC := Lib.hid (fun ad cap w' (hi : InD w'.heap.size w' ad ((bldN t).map z3)) => Witness_tab_size t n ht (by omega) hl ad cap w' hi)
  have HL := Lib.hid (fun w' => least_any t ht w')
  unfold RetBd at HM
  obtain ⟨M, hM⟩ : ∃ M, bldN t = M := ⟨_, rfl⟩
  obtain ⟨r, hr⟩ : ∃ r, bldR t = r := ⟨_, rfl⟩
  obtain ⟨l, hll⟩ : ∃ l, leastT t 6 = l := ⟨_, rfl⟩
  rw [hM, hr] at HM HC
  rw [hll] at HL hl
  clear hT hM hr hll
  have f1 : decide (40 < (n : Int)) = false := decide_eq_false (by omega)
  have f2 : decide ((n : Int) < 0) = false := decide_eq_false (by omega)
  have f3 : decide (4096 < (n : Int)) = false := decide_eq_false (by omega)
  have f4 : decide ((n : Int) < (l : Int)) = true := decide_eq_true (by omega)
  go_enter Tryz.func5, Tryz.ntmps5
  go_wp2_with fail
  (with_reducible refine (known_any _ (HT.out.of (by (repeat' (first | (with_reducible exact Below.refl _ _) | (with_reducible exact Nat.le_refl _) | (with_reducible refine Below.bel ?_ ?_) | (with_reducible refine Below.alloc ?_ ?_ _) | (with_reducible refine Below.drew ?_) | (with_reducible refine Below.drawsN ?_ _) | (with_reducible refine Below.setCell ?_ ?_ _) | (with_reducible refine le_bel ?_) | (with_reducible refine le_alloc ?_) | (with_reducible refine le_setCell ?_) | (with_reducible refine le_drew ?_) | (with_reducible refine le_drawsN ?_) | (dsimp only; with_reducible refine le_bel ?_) | (dsimp only; with_reducible refine Nat.le_refl _) | (dsimp only; with_reducible refine le_bel_add ?_) | (with_reducible assumption) | omega | (dsimp only; omega)))))).mono ?_)
  rintro _ _ ⟨rfl, y1, rfl⟩
  dsimp only
  go_wp2_with fail
  refine (HM.out _).mono ?_
  rintro _ W2 ⟨a2, c2, rfl, hi2, hb2⟩
  have hw2 : Below w.heap.size w W2 := Below.trans (show Below w.heap.size w y1.w by (repeat' (first | (with_reducible exact Below.refl _ _) | (with_reducible exact Nat.le_refl _) | (with_reducible refine Below.bel ?_ ?_) | (with_reducible refine Below.alloc ?_ ?_ _) | (with_reducible refine Below.drew ?_) | (with_reducible refine Below.drawsN ?_ _) | (with_reducible refine Below.setCell ?_ ?_ _) | (with_reducible refine le_bel ?_) | (with_reducible refine le_alloc ?_) | (with_reducible refine le_setCell ?_) | (with_reducible refine le_drew ?_) | (with_reducible refine le_drawsN ?_) | (dsimp only; with_reducible refine le_bel ?_) | (dsimp only; with_reducible refine Nat.le_refl _) | (dsimp only; with_reducible refine le_bel_add ?_) | (with_reducible assumption) | omega | (dsimp only; omega)))) (hb2.mono y1.below.size)
  have hs2 := hw2.size
  have HI := Lib.hid hi2
  clear hi2 hb2
  dsimp only
  go_wp2_with fail
  refine (HC.out _ _ _ ((HI.out.of (by (repeat' (first | (with_reducible exact Below.refl _ _) | (with_reducible exact Nat.le_refl _) | (with_reducible refine Below.bel ?_ ?_) | (with_reducible refine Below.alloc ?_ ?_ _) | (with_reducible refine Below.drew ?_) | (with_reducible refine Below.drawsN ?_ _) | (with_reducible refine Below.setCell ?_ ?_ _) | (with_reducible refine le_bel ?_) | (with_reducible refine le_alloc ?_) | (with_reducible refine le_setCell ?_) | (with_reducible refine le_drew ?_) | (with_reducible refine le_drawsN ?_) | (dsimp only; with_reducible refine le_bel ?_) | (dsimp only; with_reducible refine Nat.le_refl _) | (dsimp only; with_reducible refine le_bel_add ?_) | (with_reducible assumption) | omega | (dsimp only; omega))))).up (by simp))).mono ?_
  rintro _ _ ⟨rfl, y3, rfl⟩
  dsimp only
  go_wp2_with fail
  refine (HL.out _).mono ?_
  rintro _ _ ⟨rfl, y4, rfl⟩
  dsimp only
  go_wp2
  go_ret
  exact Ret.mk (by rfl) (by (repeat' (first | (with_reducible exact Below.refl _ _) | (with_reducible exact Nat.le_refl _) | (with_reducible refine Below.bel ?_ ?_) | (with_reducible refine Below.alloc ?_ ?_ _) | (with_reducible refine Below.drew ?_) | (with_reducible refine Below.drawsN ?_ _) | (with_reducible refine Below.setCell ?_ ?_ _) | (with_reducible refine le_bel ?_) | (with_reducible refine le_alloc ?_) | (with_reducible refine le_setCell ?_) | (with_reducible refine le_drew ?_) | (with_reducible refine le_drawsN ?_) | (dsimp only; with_reducible refine le_bel ?_) | (dsimp only; with_reducible refine Nat.le_refl _) | (dsimp only; with_reducible refine le_bel_add ?_) | (with_reducible assumption) | omega | (dsimp only; omega))))
set_option maxRecDepth 100000 in
set_option maxHeartbeats 12800000 in
theorem lawWitnesses_zero (n : Nat) (h1 : n ≤ 40) (w : World) (hT : Tab w) : Calls Tryz.prog 5 #[.int .u64 0, .int .i64 (n : Int)] w (Ret (.bool true) w) := by
  have HT := Lib.hid hT
  have hl0 : leastT 0 6 = 0 := by decide +kernel
  have HM := Lib.hid (fun w' => lawMake_any 0 (by decide) w')
  have HC := Lib.hid (fun ad cap w' (hi : InD w'.heap.size w' ad ((bldN 0).map z3)) => Witness_tab_none n (by omega) ad cap w' hi (by omega))
  have HL := Lib.hid (fun w' => least_any 0 (by decide) w')
  unfold RetBd at HM
  obtain ⟨M, hM⟩ : ∃ M, bldN 0 = M := ⟨_, rfl⟩
  obtain ⟨r, hr⟩ : ∃ r, bldR 0 = r := ⟨_, rfl⟩
  rw [hM, hr] at HM HC
  rw [hl0] at HL
  rw [Int.natCast_zero] at HM HL
  clear hT hM hr hl0
  have f1 : decide (40 < (n : Int)) = false := decide_eq_false (by omega)
  have f2 : decide ((n : Int) < 0) = false := decide_eq_false (by omega)
  have f3 : decide (4096 < (n : Int)) = false := decide_eq_false (by omega)
  go_enter Tryz.func5, Tryz.ntmps5
  go_wp2_with fail
  (with_reducible refine (known_any _ (HT.out.of (by (repeat' (first | (with_reducible exact Below.refl _ _) | (with_reducible exact Nat.le_refl _) | (with_reducible refine Below.bel ?_ ?_) | (with_reducible refine Below.alloc ?_ ?_ _) | (with_reducible refine Below.drew ?_) | (with_reducible refine Below.drawsN ?_ _) | (with_reducible refine Below.setCell ?_ ?_ _) | (with_reducible refine le_bel ?_) | (with_reducible refine le_alloc ?_) | (with_reducible refine le_setCell ?_) | (with_reducible refine le_drew ?_) | (with_reducible refine le_drawsN ?_) | (dsimp only; with_reducible refine le_bel ?_) | (dsimp only; with_reducible refine Nat.le_refl _) | (dsimp only; with_reducible refine le_bel_add ?_) | (with_reducible assumption) | omega | (dsimp only; omega)))))).mono ?_)
  rintro _ _ ⟨rfl, y1, rfl⟩
  dsimp only
  go_wp2_with fail
  refine (HM.out _).mono ?_
  rintro _ W2 ⟨a2, c2, rfl, hi2, hb2⟩
  have hw2 : Below w.heap.size w W2 := Below.trans (show Below w.heap.size w y1.w by (repeat' (first | (with_reducible exact Below.refl _ _) | (with_reducible exact Nat.le_refl _) | (with_reducible refine Below.bel ?_ ?_) | (with_reducible refine Below.alloc ?_ ?_ _) | (with_reducible refine Below.drew ?_) | (with_reducible refine Below.drawsN ?_ _) | (with_reducible refine Below.setCell ?_ ?_ _) | (with_reducible refine le_bel ?_) | (with_reducible refine le_alloc ?_) | (with_reducible refine le_setCell ?_) | (with_reducible refine le_drew ?_) | (with_reducible refine le_drawsN ?_) | (dsimp only; with_reducible refine le_bel ?_) | (dsimp only; with_reducible refine Nat.le_refl _) | (dsimp only; with_reducible refine le_bel_add ?_) | (with_reducible assumption) | omega | (dsimp only; omega)))) (hb2.mono y1.below.size)
  have hs2 := hw2.size
  have HI := Lib.hid hi2
  clear hi2 hb2
  dsimp only
  go_wp2_with fail
  refine (HC.out _ _ _ ((HI.out.of (by (repeat' (first | (with_reducible exact Below.refl _ _) | (with_reducible exact Nat.le_refl _) | (with_reducible refine Below.bel ?_ ?_) | (with_reducible refine Below.alloc ?_ ?_ _) | (with_reducible refine Below.drew ?_) | (with_reducible refine Below.drawsN ?_ _) | (with_reducible refine Below.setCell ?_ ?_ _) | (with_reducible refine le_bel ?_) | (with_reducible refine le_alloc ?_) | (with_reducible refine le_setCell ?_) | (with_reducible refine le_drew ?_) | (with_reducible refine le_drawsN ?_) | (dsimp only; with_reducible refine le_bel ?_) | (dsimp only; with_reducible refine Nat.le_refl _) | (dsimp only; with_reducible refine le_bel_add ?_) | (with_reducible assumption) | omega | (dsimp only; omega))))).up (by simp))).mono ?_
  rintro _ _ ⟨rfl, y3, rfl⟩
  dsimp only
  go_wp2_with fail
  refine (HL.out _).mono ?_
  rintro _ _ ⟨rfl, y4, rfl⟩
  dsimp only
  go_wp2
  go_ret
  exact Ret.mk (by rfl) (by (repeat' (first | (with_reducible exact Below.refl _ _) | (with_reducible exact Nat.le_refl _) | (with_reducible refine Below.bel ?_ ?_) | (with_reducible refine Below.alloc ?_ ?_ _) | (with_reducible refine Below.drew ?_) | (with_reducible refine Below.drawsN ?_ _) | (with_reducible refine Below.setCell ?_ ?_ _) | (with_reducible refine le_bel ?_) | (with_reducible refine le_alloc ?_) | (with_reducible refine le_setCell ?_) | (with_reducible refine le_drew ?_) | (with_reducible refine le_drawsN ?_) | (dsimp only; with_reducible refine le_bel ?_) | (dsimp only; with_reducible refine Nat.le_refl _) | (dsimp only; with_reducible refine le_bel_add ?_) | (with_reducible assumption) | omega | (dsimp only; omega))))
set_option maxRecDepth 100000 in
set_option maxHeartbeats 12800000 in
theorem lawWitnesses_in (t : Nat) (ht : t < 2 ^ 64) (h0 : t ≠ 0) (n : Nat) (h1 : n ≤ 40) (hl : leastT t 6 ≤ n) (w : World) (hT : Tab w) : Calls Tryz.prog 5 #[.int .u64 (t : Int), .int .i64 (n : Int)] w (Ret (.bool true) w) := by
  have HT := Lib.hid hT
  have HM := Lib.hid (fun w' => lawMake_any t ht w')
  have HC := Lib.hid (fun ad cap w' (hi : InD w'.heap.size w' ad ((bldN t).map z3)) => Witness_tab t n ht h0 (by omega) hl ad cap w' hi)
  have HL := Lib.hid (fun w' => least_any t ht w')
  have HR := Lib.hid (fun k (hk : k < 6) b w' => refCof_any (restT t k) k b (restT_lt ht k) hk w')
  have hlen := want_length t n
  have HG := Lib.hid (And.intro (want_in t n) (want_far t n))
  unfold RetBd at HM
  unfold RetWit at HC
  obtain ⟨M, hM⟩ : ∃ M, bldN t = M := ⟨_, rfl⟩
  obtain ⟨r, hr⟩ : ∃ r, bldR t = r := ⟨_, rfl⟩
  obtain ⟨l, hll⟩ : ∃ l, leastT t 6 = l := ⟨_, rfl⟩
  obtain ⟨wl, hwl⟩ : ∃ wl, wantL t 0 (min n 6) ++ List.replicate (n - 6) false = wl := ⟨_, rfl⟩
  rw [hM, hr] at HM HC
  rw [hll] at HL hl
  rw [hwl] at HC HG hlen
  rw [hlen] at HC
  clear hT hM hr hll hwl hlen
  have f1 : decide (40 < (n : Int)) = false := decide_eq_false (by omega)
  have f2 : decide ((n : Int) < 0) = false := decide_eq_false (by omega)
  have f3 : decide (4096 < (n : Int)) = false := decide_eq_false (by omega)
  have f4 : decide ((n : Int) < (l : Int)) = false := decide_eq_false (by omega)
  have f5 : ((t : Int) == 0) = false := by simp; omega
  have f6 : ((n : Int) != (n : Int)) = false := by simp
  go_enter Tryz.func5, Tryz.ntmps5
  go_wp2_with fail
  (with_reducible refine (known_any _ (HT.out.of (by (repeat' (first | (with_reducible exact Below.refl _ _) | (with_reducible exact Nat.le_refl _) | (with_reducible refine Below.bel ?_ ?_) | (with_reducible refine Below.alloc ?_ ?_ _) | (with_reducible refine Below.drew ?_) | (with_reducible refine Below.drawsN ?_ _) | (with_reducible refine Below.setCell ?_ ?_ _) | (with_reducible refine le_bel ?_) | (with_reducible refine le_alloc ?_) | (with_reducible refine le_setCell ?_) | (with_reducible refine le_drew ?_) | (with_reducible refine le_drawsN ?_) | (dsimp only; with_reducible refine le_bel ?_) | (dsimp only; with_reducible refine Nat.le_refl _) | (dsimp only; with_reducible refine le_bel_add ?_) | (with_reducible assumption) | omega | (dsimp only; omega)))))).mono ?_)
  rintro _ _ ⟨rfl, y1, rfl⟩
  dsimp only
  go_wp2_with fail
  refine (HM.out _).mono ?_
  rintro _ W2 ⟨a2, c2, rfl, hi2, hb2⟩
  have hw2 : Below w.heap.size w W2 := Below.trans (show Below w.heap.size w y1.w by (repeat' (first | (with_reducible exact Below.refl _ _) | (with_reducible exact Nat.le_refl _) | (with_reducible refine Below.bel ?_ ?_) | (with_reducible refine Below.alloc ?_ ?_ _) | (with_reducible refine Below.drew ?_) | (with_reducible refine Below.drawsN ?_ _) | (with_reducible refine Below.setCell ?_ ?_ _) | (with_reducible refine le_bel ?_) | (with_reducible refine le_alloc ?_) | (with_reducible refine le_setCell ?_) | (with_reducible refine le_drew ?_) | (with_reducible refine le_drawsN ?_) | (dsimp only; with_reducible refine le_bel ?_) | (dsimp only; with_reducible refine Nat.le_refl _) | (dsimp only; with_reducible refine le_bel_add ?_) | (with_reducible assumption) | omega | (dsimp only; omega)))) (hb2.mono y1.below.size)
  have hs2 := hw2.size
  have HI := Lib.hid hi2
  clear hi2 hb2
  dsimp only
  go_wp2_with fail
  refine (HC.out _ _ _ ((HI.out.of (by (repeat' (first | (with_reducible exact Below.refl _ _) | (with_reducible exact Nat.le_refl _) | (with_reducible refine Below.bel ?_ ?_) | (with_reducible refine Below.alloc ?_ ?_ _) | (with_reducible refine Below.drew ?_) | (with_reducible refine Below.drawsN ?_ _) | (with_reducible refine Below.setCell ?_ ?_ _) | (with_reducible refine le_bel ?_) | (with_reducible refine le_alloc ?_) | (with_reducible refine le_setCell ?_) | (with_reducible refine le_drew ?_) | (with_reducible refine le_drawsN ?_) | (dsimp only; with_reducible refine le_bel ?_) | (dsimp only; with_reducible refine Nat.le_refl _) | (dsimp only; with_reducible refine le_bel_add ?_) | (with_reducible assumption) | omega | (dsimp only; omega))))).up (by simp))).mono ?_
  rintro _ W3 ⟨g, cap, rfl, how, hb3⟩
  have hw3 : Below w.heap.size w W3 := Below.trans (by (repeat' (first | (with_reducible exact Below.refl _ _) | (with_reducible exact Nat.le_refl _) | (with_reducible refine Below.bel ?_ ?_) | (with_reducible refine Below.alloc ?_ ?_ _) | (with_reducible refine Below.drew ?_) | (with_reducible refine Below.drawsN ?_ _) | (with_reducible refine Below.setCell ?_ ?_ _) | (with_reducible refine le_bel ?_) | (with_reducible refine le_alloc ?_) | (with_reducible refine le_setCell ?_) | (with_reducible refine le_drew ?_) | (with_reducible refine le_drawsN ?_) | (dsimp only; with_reducible refine le_bel ?_) | (dsimp only; with_reducible refine Nat.le_refl _) | (dsimp only; with_reducible refine le_bel_add ?_) | (with_reducible assumption) | omega | (dsimp only; omega)))) (hb3.mono (by simp; omega))
  have hs3 := hw3.size
  have HO := Lib.hid how
  have HB3 := Lib.hid hw3
  clear how hb3
  dsimp only
  go_wp2_with fail
  refine (HL.out _).mono ?_
  rintro _ _ ⟨rfl, y4, rfl⟩
  dsimp only
  go_wp2_with fail
  have hs4 := y4.size_le
  have HO4 := Lib.hid (ownB_bel HO.out y4.below)
  have HB4 := Lib.hid (hw3.trans (y4.below.mono hs3))
  obtain ⟨Z, hZ⟩ : ∃ Z, y4.w = Z := ⟨_, rfl⟩
  rw [hZ] at HO4 HB4 ⊢
  clear hZ y4 hs4 HO hw2 hw3 hs2 hs3 HC HM HL HT HI hl h0 f1 f2 f3 f4 f5 f6
  go_loopw [9, 10, 11] (fun rv xv _ wr => ∃ k : Nat, rv = .int .u64 (restT t (min k 6) : Int) ∧ xv = .int .i64 (k : Int) ∧ k ≤ n ∧ ∃ y : Bel Z, wr = y.w) (fun _ xv _ _ => n - (intOf xv).toNat)
  case atStart => exact ⟨0, rfl, rfl, Nat.zero_le _, ⟨Z, Below.refl _ _⟩, rfl⟩
  case round =>
    obtain ⟨k, rfl, rfl, hk, y, rfl⟩ := hrel
    have hZs := HB4.out.size
    rcases Nat.lt_or_ge k n with hkn | hkn
    · have g1 : decide ((k : Int) < (n : Int)) = true := decide_eq_true (by omega)
      have hib : (0 ≤ (k : Int) ∧ (k : Int) < (n : Int)) := ⟨by omega, by omega⟩
      rcases Nat.lt_or_ge k 6 with hk6 | hk6
      · have g2 : decide ((k : Int) < 6) = true := decide_eq_true (by omega)
        have hm : min k 6 = k := by omega
        have hm2 : min (k + 1) 6 = k + 1 := by omega
        have hR0 := Lib.hid (HR.out k hk6 false)
        have hR1 := Lib.hid (HR.out k hk6 (decide (cof (restT t k) k false = 0)))
        have hg := HG.out.1 k hkn hk6
        have hrs : restT t (k + 1) = cof (restT t k) k (decide (cof (restT t k) k false = 0)) := rfl
        rw [hm]
        have hz : ((cof (restT t k) k false : Int) == 0) = decide (cof (restT t k) k false = 0) := by
          by_cases h : cof (restT t k) k false = 0
          · rw [h]; rfl
          · rw [decide_eq_false h]; simp; omega
        have hrs2 : Hid (restT t (min (k + 1) 6) = cof (restT t k) k (decide (cof (restT t k) k false = 0))) := Lib.hid (by rw [hm2]; exact hrs)
        generalize decide (cof (restT t k) k false = 0) = d at *
        generalize cof (restT t k) k false = c0 at *
        clear hm hm2 hrs
        go_wp2_with fail
        refine (hR0.out _).mono ?_
        rintro _ _ ⟨rfl, y1, rfl⟩
        dsimp only
        go_wp2_with fail
        refine (hR1.out _).mono ?_
        rintro _ _ ⟨rfl, y2, rfl⟩
        have hO := ownB_get (ownB_bel HO4.out (show Below Z.heap.size Z y2.w by (repeat' (first | (with_reducible exact Below.refl _ _) | (with_reducible exact Nat.le_refl _) | (with_reducible refine Below.bel ?_ ?_) | (with_reducible refine Below.alloc ?_ ?_ _) | (with_reducible refine Below.drew ?_) | (with_reducible refine Below.drawsN ?_ _) | (with_reducible refine Below.setCell ?_ ?_ _) | (with_reducible refine le_bel ?_) | (with_reducible refine le_alloc ?_) | (with_reducible refine le_setCell ?_) | (with_reducible refine le_drew ?_) | (with_reducible refine le_drawsN ?_) | (dsimp only; with_reducible refine le_bel ?_) | (dsimp only; with_reducible refine Nat.le_refl _) | (dsimp only; with_reducible refine le_bel_add ?_) | (with_reducible assumption) | omega | (dsimp only; omega))))) hg
        have hdd : (d != d) = false := by cases d <;> rfl
        clear hg
        dsimp only
        go_wp2
        go_roundw
        case rel => exact ⟨k + 1, by rw [hrs2.out], by go_num, by omega, ⟨y2.w, by (repeat' (first | (with_reducible exact Below.refl _ _) | (with_reducible exact Nat.le_refl _) | (with_reducible refine Below.bel ?_ ?_) | (with_reducible refine Below.alloc ?_ ?_ _) | (with_reducible refine Below.drew ?_) | (with_reducible refine Below.drawsN ?_ _) | (with_reducible refine Below.setCell ?_ ?_ _) | (with_reducible refine le_bel ?_) | (with_reducible refine le_alloc ?_) | (with_reducible refine le_setCell ?_) | (with_reducible refine le_drew ?_) | (with_reducible refine le_drawsN ?_) | (dsimp only; with_reducible refine le_bel ?_) | (dsimp only; with_reducible refine Nat.le_refl _) | (dsimp only; with_reducible refine le_bel_add ?_) | (with_reducible assumption) | omega | (dsimp only; omega)))⟩, rfl⟩
        case measure => simp [intOf]; omega
      · have g2 : decide ((k : Int) < 6) = false := decide_eq_false (by omega)
        have hO := ownB_get (ownB_bel HO4.out y.below) (HG.out.2 k hkn hk6)
        have hm : min (k + 1) 6 = min k 6 := by omega
        go_wp2
        go_roundw
        case rel => exact ⟨k + 1, by rw [hm], by go_num, by omega, y, rfl⟩
        case measure => simp [intOf]; omega
    · have g1 : decide ((k : Int) < (n : Int)) = false := decide_eq_false (by omega)
      go_wp2
      go_ret
      exact Ret.mk rfl (HB4.out.trans (y.below.mono hZs))
end Go.Proofs.YtkdmhjlcgpnjpaaGreatDoor
