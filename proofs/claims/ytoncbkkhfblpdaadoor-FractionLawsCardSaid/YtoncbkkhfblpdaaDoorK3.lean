/- The walks of Simplest, and of the reference's. -/
import Derived.Test.YtoncbkkhfblpdaaDoorK2
import Derived.OwnWalk
namespace Go.Proofs.YtoncbkkhfblpdaaDoor
open Go.RowKit
attribute [local go_sem low] Bel.cell Bel.frozen alloc_cell alloc_frozen

theorem cmp_pos {n d m e : Int} : 0 < cmp n d m e ↔ m * d < n * e := by
  unfold cmp
  split
  · constructor <;> intro <;> omega
  · split
    · constructor <;> intro <;> omega
    · constructor <;> intro <;> omega
theorem simV {a b : Int} {p : Int × Int} (h : (a, b) = p) : Value.tuple #[.agg #[.int .i64 a, .int .i64 b], .int .i64 0] = .tuple #[.agg #[.int .i64 p.1, .int .i64 p.2], .int .i64 0] := by subst h; rfl

set_option maxHeartbeats 1600000 in
theorem simplestF_ok (n d m e : Int) (w : World) (h1 : right n d = true) (h2 : right m e = true) (hle : n * e ≤ m * d) :
    Calls Tryd.prog 29 #[.agg #[.int .i64 n, .int .i64 d], .agg #[.int .i64 m, .int .i64 e]] w (Ret (.tuple #[.agg #[.int .i64 (smpV n d m e).1, .int .i64 (smpV n d m e).2], .int .i64 0]) w) := by
  obtain ⟨r1, r2, r3, r4, _⟩ := right_spec h1
  obtain ⟨s1, s2, s3, s4, _⟩ := right_spec h2
  have hc : cmp n d m e ≤ 0 := by
    have := @cmp_pos n d m e
    omega
  have H1 := Lib.hid h1
  have H2 := Lib.hid h2
  clear h1 h2
  by_cases h0 : n ≤ 0 ∧ 0 ≤ m
  · obtain ⟨ha, hb⟩ := h0
    have hs := Lib.hid (show smpV n d m e = (0, 1) from if_pos ⟨ha, hb⟩)
    have d1 : decide (n ≤ 0) = true := by simpa using ha
    have d2 : decide (0 ≤ m) = true := by simpa using hb
    clear hle
    go_enter Tryd.func29, Tryd.ntmps29
    go_wp2_with fail
    (with_reducible refine (compare_any _ _ _ _ _ H1.out H2.out).mono ?_)
    rintro _ _ ⟨rfl, x1, rfl⟩
    generalize cmp n d m e = c at *
    go_wp2
    refine bodyPost_ret (v := .tuple #[.agg #[.int .i64 0, .int .i64 1], .int .i64 0]) (by simp [results, Tryd.results29, go_sem]) rfl (Ret.mk (by exact simV hs.out.symm) (by (repeat' (first | (with_reducible exact Below.refl _ _) | (with_reducible exact Nat.le_refl _) | (with_reducible refine Below.bel ?_ ?_) | (with_reducible refine Below.alloc ?_ ?_ _) | (with_reducible refine Below.drew ?_) | (with_reducible refine Below.drawsN ?_ _) | (with_reducible refine Below.setCell ?_ ?_ _) | (with_reducible refine le_bel ?_) | (with_reducible refine le_alloc ?_) | (with_reducible refine le_setCell ?_) | (with_reducible refine le_drew ?_) | (with_reducible refine le_drawsN ?_) | (dsimp only; with_reducible refine le_bel ?_) | (dsimp only; with_reducible refine Nat.le_refl _) | (dsimp only; with_reducible refine le_bel_add ?_) | (with_reducible assumption) | omega | (dsimp only; omega)))))
  by_cases hm : m < 0
  · have hp := neg_case hm r1 s1 hle
    have hn := hp.hr
    have hz : smpV n d m e = (-(smp (e + d).toNat (-m) e (-n) d).1, (smp (e + d).toNat (-m) e (-n) d).2) := by unfold smpV; rw [if_neg h0, if_pos hm]
    have hb := smp_le hp (show e + d ≤ ((e + d).toNat : Int) by omega)
    have hb1 := (smp_spec (e + d).toNat (-m) e (-n) d hp (by omega)).1.1
    have HC := Lib.hid (fun w' => simplest_any (e + d).toNat (-m) e (-n) d w' hp (by omega) (by omega) s2 (by omega) r2)
    have d1 : decide (0 ≤ m) = false := by simpa using hm
    have HZ := Lib.hid hz
    clear h0 hle hp hz
    go_enter Tryd.func29, Tryd.ntmps29
    go_wp2_with fail
    (with_reducible refine (compare_any _ _ _ _ _ H1.out H2.out).mono ?_)
    rintro _ _ ⟨rfl, x1, rfl⟩
    generalize cmp n d m e = c at *
    go_wp2_with fail
    (with_reducible refine (HC.out _).mono ?_)
    rintro _ _ ⟨rfl, x2, rfl⟩
    clear HC
    generalize smp (e + d).toNat (-m) e (-n) d = z at *
    obtain ⟨X, Y⟩ := z
    dsimp only at *
    go_wp2
    refine bodyPost_ret (v := .tuple #[.agg #[.int .i64 (-X), .int .i64 Y], .int .i64 0]) (by simp [results, Tryd.results29, go_sem]) rfl (Ret.mk (by exact simV HZ.out.symm) (by (repeat' (first | (with_reducible exact Below.refl _ _) | (with_reducible exact Nat.le_refl _) | (with_reducible refine Below.bel ?_ ?_) | (with_reducible refine Below.alloc ?_ ?_ _) | (with_reducible refine Below.drew ?_) | (with_reducible refine Below.drawsN ?_ _) | (with_reducible refine Below.setCell ?_ ?_ _) | (with_reducible refine le_bel ?_) | (with_reducible refine le_alloc ?_) | (with_reducible refine le_setCell ?_) | (with_reducible refine le_drew ?_) | (with_reducible refine le_drawsN ?_) | (dsimp only; with_reducible refine le_bel ?_) | (dsimp only; with_reducible refine Nat.le_refl _) | (dsimp only; with_reducible refine le_bel_add ?_) | (with_reducible assumption) | omega | (dsimp only; omega)))))
  · have hp := pos_case (show 1 ≤ n by omega) r1 s1 hle
    have hn := hp.hp
    have hz : smpV n d m e = smp (d + e).toNat n d m e := by unfold smpV; rw [if_neg h0, if_neg hm]
    have HC := Lib.hid (fun w' => simplest_any (d + e).toNat n d m e w' hp (by omega) (by omega) r2 (by omega) s2)
    have d1 : decide (n ≤ 0) = false := by simp; omega
    have HZ := Lib.hid hz
    clear h0 hle hp hz
    go_enter Tryd.func29, Tryd.ntmps29
    go_wp2_with fail
    (with_reducible refine (compare_any _ _ _ _ _ H1.out H2.out).mono ?_)
    rintro _ _ ⟨rfl, x1, rfl⟩
    generalize cmp n d m e = c at *
    go_wp2_with fail
    (with_reducible refine (HC.out _).mono ?_)
    rintro _ _ ⟨rfl, x2, rfl⟩
    clear HC
    generalize smp (d + e).toNat n d m e = z at *
    obtain ⟨X, Y⟩ := z
    dsimp only at *
    go_wp2
    refine bodyPost_ret (v := .tuple #[.agg #[.int .i64 X, .int .i64 Y], .int .i64 0]) (by simp [results, Tryd.results29, go_sem]) rfl (Ret.mk (by exact simV HZ.out.symm) (by (repeat' (first | (with_reducible exact Below.refl _ _) | (with_reducible exact Nat.le_refl _) | (with_reducible refine Below.bel ?_ ?_) | (with_reducible refine Below.alloc ?_ ?_ _) | (with_reducible refine Below.drew ?_) | (with_reducible refine Below.drawsN ?_ _) | (with_reducible refine Below.setCell ?_ ?_ _) | (with_reducible refine le_bel ?_) | (with_reducible refine le_alloc ?_) | (with_reducible refine le_setCell ?_) | (with_reducible refine le_drew ?_) | (with_reducible refine le_drawsN ?_) | (dsimp only; with_reducible refine le_bel ?_) | (dsimp only; with_reducible refine Nat.le_refl _) | (dsimp only; with_reducible refine le_bel_add ?_) | (with_reducible assumption) | omega | (dsimp only; omega)))))
set_option maxHeartbeats 800000 in
theorem simplestF_order (n d m e : Int) (w : World) (h1 : right n d = true) (h2 : right m e = true) (hle : m * d < n * e) :
    Calls Tryd.prog 29 #[.agg #[.int .i64 n, .int .i64 d], .agg #[.int .i64 m, .int .i64 e]] w (Ret (.tuple #[.agg #[.int .i64 0, .int .i64 0], .int .i64 6]) w) := by
  have hc : 0 < cmp n d m e := cmp_pos.2 hle
  have H1 := Lib.hid h1
  have H2 := Lib.hid h2
  clear h1 h2 hle
  go_enter Tryd.func29, Tryd.ntmps29
  go_wp2_with fail
  (with_reducible refine (compare_any _ _ _ _ _ H1.out H2.out).mono ?_)
  rintro _ _ ⟨rfl, x1, rfl⟩
  generalize cmp n d m e = c at *
  go_wp2
  refine bodyPost_ret (v := .tuple #[.agg #[.int .i64 0, .int .i64 0], .int .i64 6]) (by simp [results, Tryd.results29, go_sem]) rfl (Ret.mk (by rfl) (by (repeat' (first | (with_reducible exact Below.refl _ _) | (with_reducible exact Nat.le_refl _) | (with_reducible refine Below.bel ?_ ?_) | (with_reducible refine Below.alloc ?_ ?_ _) | (with_reducible refine Below.drew ?_) | (with_reducible refine Below.drawsN ?_ _) | (with_reducible refine Below.setCell ?_ ?_ _) | (with_reducible refine le_bel ?_) | (with_reducible refine le_alloc ?_) | (with_reducible refine le_setCell ?_) | (with_reducible refine le_drew ?_) | (with_reducible refine le_drawsN ?_) | (dsimp only; with_reducible refine le_bel ?_) | (dsimp only; with_reducible refine Nat.le_refl _) | (dsimp only; with_reducible refine le_bel_add ?_) | (with_reducible assumption) | omega | (dsimp only; omega)))))
theorem simplestF_no (n d m e : Int) (w : World) (h : right n d = false ∨ right m e = false) :
    Calls Tryd.prog 29 #[.agg #[.int .i64 n, .int .i64 d], .agg #[.int .i64 m, .int .i64 e]] w (Ret (.tuple #[.agg #[.int .i64 0, .int .i64 0], .int .i64 2]) w) := by
  have H := Lib.hid h
  clear h
  go_enter Tryd.func29, Tryd.ntmps29
  go_wp2_with fail
  (with_reducible refine (compare_no _ _ _ _ _ H.out).mono ?_)
  rintro _ _ ⟨rfl, x1, rfl⟩
  go_wp2
  refine bodyPost_ret (v := .tuple #[.agg #[.int .i64 0, .int .i64 0], .int .i64 2]) (by simp [results, Tryd.results29, go_sem]) rfl (Ret.mk (by rfl) (by (repeat' (first | (with_reducible exact Below.refl _ _) | (with_reducible exact Nat.le_refl _) | (with_reducible refine Below.bel ?_ ?_) | (with_reducible refine Below.alloc ?_ ?_ _) | (with_reducible refine Below.drew ?_) | (with_reducible refine Below.drawsN ?_ _) | (with_reducible refine Below.setCell ?_ ?_ _) | (with_reducible refine le_bel ?_) | (with_reducible refine le_alloc ?_) | (with_reducible refine le_setCell ?_) | (with_reducible refine le_drew ?_) | (with_reducible refine le_drawsN ?_) | (dsimp only; with_reducible refine le_bel ?_) | (dsimp only; with_reducible refine Nat.le_refl _) | (dsimp only; with_reducible refine le_bel_add ?_) | (with_reducible assumption) | omega | (dsimp only; omega)))))

theorem aggV {a b : Int} {p : Int × Int} (h : (a, b) = p) : Value.agg #[.int .i64 a, .int .i64 b] = .agg #[.int .i64 p.1, .int .i64 p.2] := by subst h; rfl
set_option maxHeartbeats 1600000 in
theorem refsimplest_any (n d m e : Int) (w : World) (h1 : right n d = true) (h2 : right m e = true) (hle : n * e ≤ m * d) :
    Calls Tryd.prog 31 #[.agg #[.int .i64 n, .int .i64 d], .agg #[.int .i64 m, .int .i64 e]] w (Ret (.agg #[.int .i64 (smpV n d m e).1, .int .i64 (smpV n d m e).2]) w) := by
  obtain ⟨r1, r2, r3, r4, _⟩ := right_spec h1
  obtain ⟨s1, s2, s3, s4, _⟩ := right_spec h2
  have hl := smpV_low n d m e r1 s1 hle
  obtain ⟨g1, g2, g3, g4, g5⟩ := smpV_spec n d m e r1 s1 hle
  have G3 := Lib.hid g3
  have G4 := Lib.hid g4
  have G5 := Lib.hid g5
  clear h1 h2 hle g2 g3 g4 g5
  go_enter Tryd.func31, Tryd.ntmps31
  go_wp2
  go_loopw [5] (fun k wr => ∃ j : Int, 1 ≤ j ∧ j ≤ (smpV n d m e).2 ∧ k = .int .i64 j ∧ ∃ x : Bel (((w.alloc (.cells #[.int .i64 n, .int .i64 d] 24)).alloc (.cells #[.int .i64 m, .int .i64 e] 24)).alloc (.cells #[.int .i64 0, .int .i64 0] 24)), wr = x.w) (fun k _ => (1000001 - intOf k).toNat)
  case atStart => exact ⟨1, by omega, g1, rfl, ⟨_, Below.refl _ _⟩, rfl⟩
  case round =>
    obtain ⟨j, hj, hjD, rfl, x, rfl⟩ := hrel
    have p1 := prod_bd r3 r4 (by omega : -1000000 ≤ j) (by omega)
    have p2 := prod_bd s3 s4 (by omega : -1000000 ≤ j) (by omega)
    have hjd : j ≤ d := by omega
    have fa : -1000000000000 ≤ -(n * j) / d ∧ -(n * j) / d ≤ 1000000000000 := by
      have h1 := Int.natAbs_ediv_le_natAbs (-(n * j)) d
      omega
    have ea : cei n d j = -(-(n * j) / d) := rfl
    have eb : flo m e j = m * j / e := rfl
    have EA := Lib.hid ea
    have EB := Lib.hid eb
    clear ea eb
    go_wp2_with fail
    refine wp_region_bel (by kernel_rfl) (by kernel_rfl) ?_
    repeat (go_big_quiet_step ((go_at_call 57; exact bel_of_same (reffloor_any _ _ _ (by omega) (by omega) (by omega) (by omega)))))
    refine wpQuiet_nil ?_
    rintro _ ⟨y, rfl⟩
    rw [← EA.out, ← EB.out]
    by_cases hlt : j < (smpV n d m e).2
    · have hab := G3.out j hj hlt
      generalize cei n d j = A at *
      generalize flo m e j = B at *
      have d1 : decide (B < A) = true := by simpa using hab
      go_wp2
      go_roundw
      case rel => exact ⟨j + 1, by omega, by omega, rfl, ⟨_, by (repeat' (first | (with_reducible exact Below.refl _ _) | (with_reducible exact Nat.le_refl _) | (with_reducible refine Below.bel ?_ ?_) | (with_reducible refine Below.alloc ?_ ?_ _) | (with_reducible refine Below.drew ?_) | (with_reducible refine Below.drawsN ?_ _) | (with_reducible refine Below.setCell ?_ ?_ _) | (with_reducible refine le_bel ?_) | (with_reducible refine le_alloc ?_) | (with_reducible refine le_setCell ?_) | (with_reducible refine le_drew ?_) | (with_reducible refine le_drawsN ?_) | (dsimp only; with_reducible refine le_bel ?_) | (dsimp only; with_reducible refine Nat.le_refl _) | (dsimp only; with_reducible refine le_bel_add ?_) | (with_reducible assumption) | omega | (dsimp only; omega)))⟩, rfl⟩
      case measure => simp [intOf]; omega
    · obtain rfl : j = (smpV n d m e).2 := by omega
      have hab := G4.out
      have hres := G5.out
      generalize cei n d (smpV n d m e).2 = A at *
      generalize flo m e (smpV n d m e).2 = B at *
      have d1 : decide (B < A) = false := by simpa using hab
      rcases hres with ⟨ha, hN⟩ | ⟨ha, hb, hN⟩ | ⟨ha, hb, hN⟩
      · have d2 : decide (0 < A) = true := by simpa using ha
        have HN := Lib.hid hN
        generalize hD : (smpV n d m e).2 = D at *
        have HD := Lib.hid hD
        clear hN hD
        go_wp2
        refine bodyPost_ret (v := .agg #[.int .i64 A, .int .i64 D]) (by simp [results, Tryd.results31, go_sem]) rfl (Ret.mk (by rw [HN.out, HD.out]) (by (repeat' (first | (with_reducible exact Below.refl _ _) | (with_reducible exact Nat.le_refl _) | (with_reducible refine Below.bel ?_ ?_) | (with_reducible refine Below.alloc ?_ ?_ _) | (with_reducible refine Below.drew ?_) | (with_reducible refine Below.drawsN ?_ _) | (with_reducible refine Below.setCell ?_ ?_ _) | (with_reducible refine le_bel ?_) | (with_reducible refine le_alloc ?_) | (with_reducible refine le_setCell ?_) | (with_reducible refine le_drew ?_) | (with_reducible refine le_drawsN ?_) | (dsimp only; with_reducible refine le_bel ?_) | (dsimp only; with_reducible refine Nat.le_refl _) | (dsimp only; with_reducible refine le_bel_add ?_) | (with_reducible assumption) | omega | (dsimp only; omega)))))
      · have d2 : decide (0 < A) = false := by simpa using ha
        have d3 : decide (B < 0) = true := by simpa using hb
        have HN := Lib.hid hN
        generalize hD : (smpV n d m e).2 = D at *
        have HD := Lib.hid hD
        clear hN hD
        go_wp2
        refine bodyPost_ret (v := .agg #[.int .i64 B, .int .i64 D]) (by simp [results, Tryd.results31, go_sem]) rfl (Ret.mk (by rw [HN.out, HD.out]) (by (repeat' (first | (with_reducible exact Below.refl _ _) | (with_reducible exact Nat.le_refl _) | (with_reducible refine Below.bel ?_ ?_) | (with_reducible refine Below.alloc ?_ ?_ _) | (with_reducible refine Below.drew ?_) | (with_reducible refine Below.drawsN ?_ _) | (with_reducible refine Below.setCell ?_ ?_ _) | (with_reducible refine le_bel ?_) | (with_reducible refine le_alloc ?_) | (with_reducible refine le_setCell ?_) | (with_reducible refine le_drew ?_) | (with_reducible refine le_drawsN ?_) | (dsimp only; with_reducible refine le_bel ?_) | (dsimp only; with_reducible refine Nat.le_refl _) | (dsimp only; with_reducible refine le_bel_add ?_) | (with_reducible assumption) | omega | (dsimp only; omega)))))
      · have d2 : decide (0 < A) = false := by simpa using ha
        have d3 : decide (B < 0) = false := by simpa using hb
        have HN := Lib.hid hN
        generalize hD : (smpV n d m e).2 = D at *
        clear hN hD
        go_wp2
        refine bodyPost_ret (v := .agg #[.int .i64 0, .int .i64 1]) (by simp [results, Tryd.results31, go_sem]) rfl (Ret.mk (by rw [HN.out]) (by (repeat' (first | (with_reducible exact Below.refl _ _) | (with_reducible exact Nat.le_refl _) | (with_reducible refine Below.bel ?_ ?_) | (with_reducible refine Below.alloc ?_ ?_ _) | (with_reducible refine Below.drew ?_) | (with_reducible refine Below.drawsN ?_ _) | (with_reducible refine Below.setCell ?_ ?_ _) | (with_reducible refine le_bel ?_) | (with_reducible refine le_alloc ?_) | (with_reducible refine le_setCell ?_) | (with_reducible refine le_drew ?_) | (with_reducible refine le_drawsN ?_) | (dsimp only; with_reducible refine le_bel ?_) | (dsimp only; with_reducible refine Nat.le_refl _) | (dsimp only; with_reducible refine le_bel_add ?_) | (with_reducible assumption) | omega | (dsimp only; omega)))))
end Go.Proofs.YtoncbkkhfblpdaaDoor
