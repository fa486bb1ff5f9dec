/- Circles of fifths: Regular at meantone, Named. -/
import Derived.Test.YtehgeoipbgpocaaGreatDoorTk
namespace Go.Proofs.YtehgeoipbgpocaaGreatDoor
set_option linter.unusedVariables false
set_option linter.unusedSimpArgs false
open Go.RowKit
attribute [local go_sem low] Bel.cell Bel.frozen alloc_cell alloc_frozen
attribute [local go_sem] calmOp chainOp yieldsC grows

theorem shows_new (w : World) (l : List Nat) (T : TypeId) (cap : Nat) : ShowsV (w.alloc (.cells (natVs l).toArray T)) (.slice (some ⟨w.heap.size, 0, none⟩) l.length cap) (natVs l) := by
  cases l with
  | nil => exact Or.inl ⟨rfl, _, _, rfl⟩
  | cons a l =>
    refine Or.inr ⟨w.heap.size, 0, cap, by rw [natVs_len], by rw [natVs_len]; exact Nat.succ_pos _, fun j x hx => ?_⟩
    have h := (made_cell (obj_new w (.cells (natVs (a :: l)).toArray T)) (0 + j)).1
    rw [h]
    simpa using hx
def mtT : Q × Q := (⟨0, 1⟩, ⟨1, 4⟩)
def mtC0 : Cir := fillC zC mtT 12
def mtC : Cir := upd mtC0 8 (⟨1, 1⟩, ⟨-11, 4⟩)
def eqC : Cir := teC (⟨1, 12⟩, ⟨0, 1⟩) [0, 1, 2, 3, 4, 5, 6, 7, 8, 9, 10, 11]
theorem mtC0_chk : chkC mtC0 = 0 := by decide +kernel
theorem mtC_chk : chkC mtC = 0 := by decide +kernel
theorem eqC_chk : chkC eqC = 0 := by decide +kernel
theorem par01 : parS 0 1 = ⟨0, 1⟩ := by decide +kernel
theorem par14 : parS 1 4 = ⟨1, 4⟩ := by decide +kernel
theorem par112 : parS 1 12 = ⟨1, 12⟩ := by decide +kernel
theorem mul1 (w : World) : Calls Tryz.prog 197 #[.agg #[.int .i64 0, .int .i64 1], .agg #[.int .i64 11, .int .i64 1]] w (Ret (.tuple #[.agg #[.int .i64 0, .int .i64 1], .int .i64 0]) w) := by
  have h := F.mul_any 0 1 11 1 w (by decide +kernel) (by decide +kernel)
  rwa [show F.mk1 (0 * 11) (1 * 1) = 0 by decide +kernel, show F.mk2 (0 * 11) (1 * 1) = 1 by decide +kernel, show F.mk3 (0 * 11) (1 * 1) = 0 by decide +kernel] at h
theorem mul2 (w : World) : Calls Tryz.prog 197 #[.agg #[.int .i64 1, .int .i64 4], .agg #[.int .i64 11, .int .i64 1]] w (Ret (.tuple #[.agg #[.int .i64 11, .int .i64 4], .int .i64 0]) w) := by
  have h := F.mul_any 1 4 11 1 w (by decide +kernel) (by decide +kernel)
  rwa [show F.mk1 (1 * 11) (4 * 1) = 11 by decide +kernel, show F.mk2 (1 * 11) (4 * 1) = 4 by decide +kernel, show F.mk3 (1 * 11) (4 * 1) = 0 by decide +kernel] at h
theorem sub1 (w : World) : Calls Tryz.prog 87 #[.agg #[.int .i64 1, .int .i64 1], .agg #[.int .i64 0, .int .i64 1]] w (Ret (.tuple #[.agg #[.int .i64 1, .int .i64 1], .int .i64 0]) w) := by
  have h := F.sub_any 1 1 0 1 w (by decide +kernel) (by decide +kernel)
  rwa [show F.mk1 (1 * 1 - 0 * 1) (1 * 1) = 1 by decide +kernel, show F.mk2 (1 * 1 - 0 * 1) (1 * 1) = 1 by decide +kernel, show F.mk3 (1 * 1 - 0 * 1) (1 * 1) = 0 by decide +kernel] at h
theorem sub2 (w : World) : Calls Tryz.prog 87 #[.agg #[.int .i64 0, .int .i64 1], .agg #[.int .i64 11, .int .i64 4]] w (Ret (.tuple #[.agg #[.int .i64 (-11), .int .i64 4], .int .i64 0]) w) := by
  have h := F.sub_any 0 1 11 4 w (by decide +kernel) (by decide +kernel)
  rwa [show F.mk1 (0 * 4 - 11 * 1) (1 * 4) = -11 by decide +kernel, show F.mk2 (0 * 4 - 11 * 1) (1 * 4) = 4 by decide +kernel, show F.mk3 (0 * 4 - 11 * 1) (1 * 4) = 0 by decide +kernel] at h
theorem zC_lit : cirA zC = #[.int .i64 0, .int .i64 0, .int .i64 0, .int .i64 0, .int .i64 0, .int .i64 0, .int .i64 0, .int .i64 0, .int .i64 0, .int .i64 0, .int .i64 0, .int .i64 0, .int .i64 0, .int .i64 0, .int .i64 0, .int .i64 0, .int .i64 0, .int .i64 0, .int .i64 0, .int .i64 0, .int .i64 0, .int .i64 0, .int .i64 0, .int .i64 0, .int .i64 0, .int .i64 0, .int .i64 0, .int .i64 0, .int .i64 0, .int .i64 0, .int .i64 0, .int .i64 0, .int .i64 0, .int .i64 0, .int .i64 0, .int .i64 0, .int .i64 0, .int .i64 0, .int .i64 0, .int .i64 0, .int .i64 0, .int .i64 0, .int .i64 0, .int .i64 0, .int .i64 0, .int .i64 0, .int .i64 0, .int .i64 0] := rfl
set_option maxRecDepth 100000 in
set_option maxHeartbeats 6400000 in
theorem regular_mt (w : World) : Calls Tryz.prog 134 #[.agg #[.int .i64 0, .int .i64 1, .int .i64 1, .int .i64 4]] w (Ret (.tuple #[.agg (cirA mtC), .int .i64 0]) w) := by
  have HC0 := Lib.hid (fun w' => tcheck_ok mtC0 w' mtC0_chk)
  have HC1 := Lib.hid (fun w' => tcheck_ok mtC w' mtC_chk)
  have HF0 : Hid (fillC zC (⟨0, 1⟩, ⟨1, 4⟩) 12 = mtC0) := Lib.hid rfl
  have HUP : Hid (upd mtC0 8 (⟨1, 1⟩, ⟨-11, 4⟩) = mtC) := Lib.hid rfl
  generalize mtC = R at *
  generalize mtC0 = C0 at *
  go_enter Tryz.func134, Tryz.ntmps134
  go_wp2_with fail
  have hz2 : (((w.alloc (.cells #[.int .i64 0, .int .i64 1, .int .i64 1, .int .i64 4] 34)).alloc (.cells (cirA zC) 36)).alloc (.cells (cirA zC) 36)).heap[w.heap.size + 2]? = _ := obj_new2 _ _ _ _
  have hz1 : (((w.alloc (.cells #[.int .i64 0, .int .i64 1, .int .i64 1, .int .i64 4] 34)).alloc (.cells (cirA zC) 36)).alloc (.cells (cirA zC) 36)).heap[w.heap.size + 1]? = _ := obj_alloc _ (obj_new1 _ _ _)
  have hz0 : (((w.alloc (.cells #[.int .i64 0, .int .i64 1, .int .i64 1, .int .i64 4] 34)).alloc (.cells (cirA zC) 36)).alloc (.cells (cirA zC) 36)).heap[w.heap.size]? = _ := obj_alloc _ (obj_alloc _ (obj_new _ _))
  have hzb : Below w.heap.size w (((w.alloc (.cells #[.int .i64 0, .int .i64 1, .int .i64 1, .int .i64 4] 34)).alloc (.cells (cirA zC) 36)).alloc (.cells (cirA zC) 36)) := by (repeat' (first | (with_reducible first | apply Zl1 | apply Zl2 | apply Zl3 | apply Zl4 | apply Zl5 | apply Zl6 | apply Zl7 | apply Zl8 | apply Zl9 | apply Zla | apply Zlb | apply Zlc) | (dsimp only; with_reducible first | apply Zl8 | apply Zl2 | apply Zld) | with_reducible assumption | omega | (dsimp only; omega)))
  have hcz := zC_lit
  rw [← hcz]
  clear hcz
  generalize ((w.alloc (.cells #[.int .i64 0, .int .i64 1, .int .i64 1, .int .i64 4] 34)).alloc (.cells (cirA zC) 36)).alloc (.cells (cirA zC) 36) = Y at *
  go_loopw [14] (fun iv wr => ∃ k : Nat, k ≤ 12 ∧ iv = .int .i64 (k : Int) ∧ wr.heap[w.heap.size]? = some (.cells #[.int .i64 0, .int .i64 1, .int .i64 1, .int .i64 4] 34) ∧ wr.heap[w.heap.size + 1]? = some (.cells (cirA zC) 36) ∧
    wr.heap[w.heap.size + 2]? = some (.cells (cirA (fillC zC (⟨0, 1⟩, ⟨1, 4⟩) k)) 36) ∧ Below w.heap.size w wr) (fun iv _ => 12 - (intOf iv).toNat)
  case atStart => exact ⟨0, by omega, rfl, hz0, hz1, hz2, hzb⟩
  case round =>
    obtain ⟨k, hk, rfl, ho0, ho1, ho2, hB⟩ := hrel
    have hbs := hB.size
    have hl2 := obj_lt ho2
    clear hz0 hz1 hz2 hzb
    by_cases hk12 : k < 12
    · have hki : (k : Int) < 12 := by omega
      obtain ⟨q0, q1, q2, q3⟩ := cells4 ho0
      have HO0 := Lib.hid ho0
      have HO1 := Lib.hid ho1
      have HO2 := Lib.hid ho2
      clear ho0 ho1 ho2
      go_wp2_with (refine wpList_stT rfl _ _ rfl (w.heap.size + 2) k (fillC zC (⟨0, 1⟩, ⟨1, 4⟩) k) _ 0 1 1 4 hk12 _ (by omega) rfl rfl HO2.out (fun W' hW' => ?_))
      have hb' := hW'.below hB (by omega)
      have ho0 := hW'.obj (by omega) HO0.out
      have ho1 := hW'.obj (by omega) HO1.out
      have ho2 := hW'.b
      clear HO0 HO1 HO2 hW' q0 q1 q2 q3
      go_wp2
      go_roundw
      case rel => exact ⟨k + 1, by omega, by go_num, ho0, ho1, ho2, hb'⟩
      case measure => simp [intOf]; omega
    · obtain rfl : k = 12 := by omega
      rw [HF0.out] at ho2
      have HO0 := Lib.hid ho0
      have HO1 := Lib.hid ho1
      have HO2 := Lib.hid ho2
      clear ho0 ho1 ho2 hk12 hk
      rw [show ((12 : Nat) : Int) = 12 from rfl]
      go_wp2_with (refine wpList_ldC rfl _ rfl _ rfl (cirA C0) HO2.out (cirA_size _) ?_)
      (with_reducible refine (HC0.out _).mono ?_)
      rintro _ _ ⟨rfl, x, rfl⟩
      have hxs := x.size_le
      have hxb : Below w.heap.size w x.w := by (repeat' (first | (with_reducible first | apply Zl1 | apply Zl2 | apply Zl3 | apply Zl4 | apply Zl5 | apply Zl6 | apply Zl7 | apply Zl8 | apply Zl9 | apply Zla | apply Zlb | apply Zlc) | (dsimp only; with_reducible first | apply Zl8 | apply Zl2 | apply Zld) | with_reducible assumption | omega | (dsimp only; omega)))
      have HX0 := Lib.hid (obj_bel x HO0.out)
      have HX1 := Lib.hid (obj_bel x HO1.out)
      have HX2 := Lib.hid (obj_bel x HO2.out)
      obtain ⟨q0, q1, q2, q3⟩ := cells4 HX0.out
      generalize x.w = X at *
      clear HO0 HO1 HO2
      dsimp only
      go_wp2_with fail
      (with_reducible refine (mul1 _).mono ?_)
      rintro _ _ ⟨rfl, y, rfl⟩
      have hys := y.size_le
      rw [World.size_alloc, World.size_alloc] at hys
      have hyb : Below w.heap.size w y.w := by (repeat' (first | (with_reducible first | apply Zl1 | apply Zl2 | apply Zl3 | apply Zl4 | apply Zl5 | apply Zl6 | apply Zl7 | apply Zl8 | apply Zl9 | apply Zla | apply Zlb | apply Zlc) | (dsimp only; with_reducible first | apply Zl8 | apply Zl2 | apply Zld) | with_reducible assumption | omega | (dsimp only; omega)))
      have HY0 := Lib.hid (obj_bel y (obj_alloc (.cells #[.int .i64 11, .int .i64 1] 32) (obj_alloc (.cells #[.int .i64 0, .int .i64 0, .int .i64 0, .int .i64 0] 34) HX0.out)))
      have HY1 := Lib.hid (obj_bel y (obj_alloc (.cells #[.int .i64 11, .int .i64 1] 32) (obj_alloc (.cells #[.int .i64 0, .int .i64 0, .int .i64 0, .int .i64 0] 34) HX1.out)))
      have HY2 := Lib.hid (obj_bel y (obj_alloc (.cells #[.int .i64 11, .int .i64 1] 32) (obj_alloc (.cells #[.int .i64 0, .int .i64 0, .int .i64 0, .int .i64 0] 34) HX2.out)))
      have HY3 := Lib.hid (obj_bel y (obj_alloc (.cells #[.int .i64 11, .int .i64 1] 32) (obj_new X (.cells #[.int .i64 0, .int .i64 0, .int .i64 0, .int .i64 0] 34))))
      have HY4 := Lib.hid (obj_bel y (obj_new1 X (.cells #[.int .i64 0, .int .i64 0, .int .i64 0, .int .i64 0] 34) (.cells #[.int .i64 11, .int .i64 1] 32)))
      have hXw := hxb.size
      have hYl := obj_lt HY4.out
      have hXl := obj_lt HX2.out
      generalize X.heap.size = SX at *
      generalize y.w = Y1 at *
      clear HX0 HX1 HX2 q0 q1 q2 q3 hxb hxs
      obtain ⟨q0, q1, q2, q3⟩ := cells4 HY0.out
      have q4 := (made_cell HY4.out 0).1
      have q5 := (made_cell HY4.out 1).1
      dsimp only
      go_wp2_with fail
      (with_reducible refine (mul2 _).mono ?_)
      rintro _ _ ⟨rfl, z, rfl⟩
      have hzs := z.size_le
      rw [World.size_alloc] at hzs
      have hzb : Below w.heap.size w z.w := by (repeat' (first | (with_reducible first | apply Zl1 | apply Zl2 | apply Zl3 | apply Zl4 | apply Zl5 | apply Zl6 | apply Zl7 | apply Zl8 | apply Zl9 | apply Zla | apply Zlb | apply Zlc) | (dsimp only; with_reducible first | apply Zl8 | apply Zl2 | apply Zld) | with_reducible assumption | omega | (dsimp only; omega)))
      have HZ1 := Lib.hid (obj_bel z (obj_alloc (.cells #[.int .i64 0, .int .i64 1] 32) HY1.out))
      have HZ2 := Lib.hid (obj_bel z (obj_alloc (.cells #[.int .i64 0, .int .i64 1] 32) HY2.out))
      have HZ3 := Lib.hid (obj_bel z (obj_alloc (.cells #[.int .i64 0, .int .i64 1] 32) HY3.out))
      have HZ5 := Lib.hid (obj_bel z (obj_new Y1 (.cells #[.int .i64 0, .int .i64 1] 32)))
      have hYw := hyb.size
      generalize Y1.heap.size = SY at *
      generalize z.w = Z at *
      clear HY0 HY1 HY2 HY3 HY4 q0 q1 q2 q3 q4 q5
      obtain q0 := (made_cell HZ5.out 0).1
      have q1 := (made_cell HZ5.out 1).1
      have hZw := hzb.size
      dsimp only
      go_wp2_with fail
      (with_reducible refine (sub1 _).mono ?_)
      rintro _ _ ⟨rfl, u, rfl⟩
      have hus := u.size_le
      rw [World.size_alloc] at hus
      have hub : Below w.heap.size w u.w := by (repeat' (first | (with_reducible first | apply Zl1 | apply Zl2 | apply Zl3 | apply Zl4 | apply Zl5 | apply Zl6 | apply Zl7 | apply Zl8 | apply Zl9 | apply Zla | apply Zlb | apply Zlc) | (dsimp only; with_reducible first | apply Zl8 | apply Zl2 | apply Zld) | with_reducible assumption | omega | (dsimp only; omega)))
      have HU1 := Lib.hid (obj_bel u (obj_alloc (.cells #[.int .i64 11, .int .i64 4] 32) HZ1.out))
      have HU2 := Lib.hid (obj_bel u (obj_alloc (.cells #[.int .i64 11, .int .i64 4] 32) HZ2.out))
      have HU3 := Lib.hid (obj_bel u (obj_alloc (.cells #[.int .i64 11, .int .i64 4] 32) HZ3.out))
      have HU6 := Lib.hid (obj_bel u (obj_new Z (.cells #[.int .i64 11, .int .i64 4] 32)))
      generalize Z.heap.size = SZ at *
      generalize u.w = U at *
      clear HZ1 HZ2 HZ3 HZ5 q0 q1
      have q6 := (made_cell HU6.out 0).1
      have q7 := (made_cell HU6.out 1).1
      obtain ⟨g0, g1, g2, g3⟩ := cells4 HU3.out
      have r0 := (made_cell HU3.out 0).2
      have r1 := (made_cell HU3.out 1).2
      have n1 : ¬ (SX = SZ) := by omega
      have n2 : ¬ (SZ = SX) := by omega
      have hUw := hub.size
      have ho1 := obj_ne (c := SX) (i := 1) (.int .i64 1) (show w.heap.size + 1 ≠ SX by omega) (obj_ne (c := SX) (i := 0) (.int .i64 1) (show w.heap.size + 1 ≠ SX by omega) HU1.out)
      have ho2 := obj_ne (c := SX) (i := 1) (.int .i64 1) (show w.heap.size + 2 ≠ SX by omega) (obj_ne (c := SX) (i := 0) (.int .i64 1) (show w.heap.size + 2 ≠ SX by omega) HU2.out)
      have ho3 := obj_set (i := 1) (.int .i64 1) (obj_set (i := 0) (.int .i64 1) HU3.out)
      have hob : Below w.heap.size w ((U.setCell ⟨SX, 0, none⟩ (.int .i64 1)).setCell ⟨SX, 1, none⟩ (.int .i64 1)) := (hub.setCell (show w.heap.size ≤ SX by omega) _).setCell (show w.heap.size ≤ SX by omega) _
      have HO1 := Lib.hid ho1
      have HO2 := Lib.hid ho2
      have HO3 := Lib.hid ho3
      have HOB := Lib.hid hob
      clear ho1 ho2 ho3 hob HU1 HU2 HU3 HU6
      dsimp only
      go_wp2_with fail
      (with_reducible refine (sub2 _).mono ?_)
      rintro _ _ ⟨rfl, s, rfl⟩
      have hss := s.size_le
      have hsb : Below w.heap.size w s.w := HOB.out.trans (s.below.mono HOB.out.size)
      have HS1 := Lib.hid (obj_bel s HO1.out)
      have HS2 := Lib.hid (obj_bel s HO2.out)
      have HS3 := Lib.hid (obj_bel s HO3.out)
      generalize s.w = S at *
      clear HO1 HO2 HO3 HOB g0 g1 g2 g3 r0 r1 q6 q7
      obtain ⟨g0, g1, g2, g3⟩ := cells4 (show S.heap[SX]? = some (.cells #[.int .i64 1, .int .i64 1, .int .i64 0, .int .i64 0] 34) from HS3.out)
      have r2 := (made_cell HS3.out 2).2
      have r3 := (made_cell HS3.out 3).2
      have hSw := hsb.size
      have ho1 := obj_ne (c := SX) (i := 3) (.int .i64 4) (show w.heap.size + 1 ≠ SX by omega) (obj_ne (c := SX) (i := 2) (.int .i64 (-11)) (show w.heap.size + 1 ≠ SX by omega) HS1.out)
      have ho2 := obj_ne (c := SX) (i := 3) (.int .i64 4) (show w.heap.size + 2 ≠ SX by omega) (obj_ne (c := SX) (i := 2) (.int .i64 (-11)) (show w.heap.size + 2 ≠ SX by omega) HS2.out)
      have hob : Below w.heap.size w ((S.setCell ⟨SX, 2, none⟩ (.int .i64 (-11))).setCell ⟨SX, 3, none⟩ (.int .i64 4)) := (hsb.setCell (show w.heap.size ≤ SX by omega) _).setCell (show w.heap.size ≤ SX by omega) _
      have HO1 := Lib.hid ho1
      have HO2 := Lib.hid ho2
      have HOB := Lib.hid hob
      clear ho1 ho2 hob HS1 HS2 HS3
      dsimp only
      go_wp2_with (refine wpList_stT rfl _ _ rfl (w.heap.size + 2) 8 C0 _ 1 1 (-11) 4 (by omega) _ (by omega) rfl rfl HO2.out (fun W' hW' => Hid.out ?_))
      refine Lib.hid ?_
      have hb' := hW'.below HOB.out (by omega)
      have HT1 := Lib.hid (hW'.obj (by omega) HO1.out)
      have HT2 := Lib.hid (show W'.heap[w.heap.size + 2]? = some (.cells (cirA R) 36) by rw [← HUP.out]; exact hW'.b)
      have hWz := hb'.size
      have hWl := obj_lt HT2.out
      clear HO1 HO2 HOB hW' g0 g1 g2 g3 r2 r3
      go_wp2_with (refine wpList_ldC rfl _ rfl _ rfl (cirA R) HT2.out (cirA_size _) ?_)
      (with_reducible refine (HC1.out _).mono ?_)
      rintro _ _ ⟨rfl, p, rfl⟩
      have hps := p.size_le
      have hpb : Below w.heap.size w p.w := by (repeat' (first | (with_reducible first | apply Zl1 | apply Zl2 | apply Zl3 | apply Zl4 | apply Zl5 | apply Zl6 | apply Zl7 | apply Zl8 | apply Zl9 | apply Zla | apply Zlb | apply Zlc) | (dsimp only; with_reducible first | apply Zl8 | apply Zl2 | apply Zld) | with_reducible assumption | omega | (dsimp only; omega)))
      have HP1 := Lib.hid (obj_bel p HT1.out)
      have HP2 := Lib.hid (obj_bel p HT2.out)
      generalize p.w = PW at *
      clear HT1 HT2
      dsimp only
      go_wp2_with (first | refine wpList_ldC rfl _ rfl _ rfl (cirA R) HP2.out (cirA_size _) ?_ | refine wpList_stC rfl _ _ rfl (w.heap.size + 1) (cirA R) rfl rfl (cirA zC) _ HP1.out (cirA_size _) (cirA_size _) (cirA_one _) (fun W' hW' => ?_))
      have hbb := hW'.below hpb (by omega)
      have hcr := hW'.b
      clear HP1 HP2 hW'
      go_wp2_with fail
      refine ret_obj (b := w.heap.size + 1) hcr (fun W2 h2 => by
        have hl := cir_load h2
        simp [results, Tryz.results134, Act.put, Sem.run_bind, asAddr, hl]) rfl (Ret.mk rfl hbb)
set_option maxRecDepth 100000 in
set_option maxHeartbeats 6400000 in
theorem named_mt (w : World) : Calls Tryz.prog 75 #[.string ⟨[109, 101, 97, 110, 116, 111, 110, 101].toArray⟩] w (Ret (.tuple #[.agg (cirA mtC), .int .i64 0]) w) := by
  have HN := Lib.hid (fun w' => named2_any 1 4 w' (by omega) (by omega) (by omega) (by omega))
  rw [par01, par14] at HN
  dsimp only at HN
  have HR := Lib.hid (fun w' => regular_mt w')
  generalize mtC = R at *
  go_enter Tryz.func75, Tryz.ntmps75
  go_wp2_with fail
  have hz0 : (w.alloc (.cells (cirA zC) 36)).heap[w.heap.size]? = _ := obj_new _ _
  have hzb : Below w.heap.size w (w.alloc (.cells (cirA zC) 36)) := by (repeat' (first | (with_reducible first | apply Zl1 | apply Zl2 | apply Zl3 | apply Zl4 | apply Zl5 | apply Zl6 | apply Zl7 | apply Zl8 | apply Zl9 | apply Zla | apply Zlb | apply Zlc) | (dsimp only; with_reducible first | apply Zl8 | apply Zl2 | apply Zld) | with_reducible assumption | omega | (dsimp only; omega)))
  have hcz := zC_lit
  rw [← hcz]
  clear hcz
  have hl := obj_lt hz0
  generalize w.alloc (.cells (cirA zC) 36) = Y at *
  (with_reducible refine (HN.out _).mono ?_)
  rintro _ _ ⟨rfl, x, rfl⟩
  have hxs := x.size_le
  dsimp only
  go_wp2_with fail
  (with_reducible refine (HR.out _).mono ?_)
  rintro _ _ ⟨rfl, y, rfl⟩
  have hys := y.size_le
  have HY := Lib.hid (obj_bel y (obj_bel x hz0))
  have hyb : Below w.heap.size w y.w := by (repeat' (first | (with_reducible first | apply Zl1 | apply Zl2 | apply Zl3 | apply Zl4 | apply Zl5 | apply Zl6 | apply Zl7 | apply Zl8 | apply Zl9 | apply Zla | apply Zlb | apply Zlc) | (dsimp only; with_reducible first | apply Zl8 | apply Zl2 | apply Zld) | with_reducible assumption | omega | (dsimp only; omega)))
  generalize y.w = Y2 at *
  clear hz0
  dsimp only
  go_wp2_with (refine wpList_stC rfl _ _ rfl w.heap.size (cirA R) rfl rfl (cirA zC) _ HY.out (cirA_size _) (cirA_size _) (cirA_one _) (fun W' hW' => Hid.out ?_))
  refine Lib.hid ?_
  have hbb := hW'.below hyb (by omega)
  have hcr := hW'.b
  clear HY hW'
  go_wp2_with fail
  refine ret_obj (b := w.heap.size) hcr (fun W2 h2 => by
    have hl := cir_load h2
    simp [results, Tryz.results75, Act.put, Sem.run_bind, asAddr, hl]) rfl (Ret.mk rfl hbb)
set_option maxRecDepth 100000 in
set_option maxHeartbeats 6400000 in
theorem named_eq (w : World) : Calls Tryz.prog 75 #[.string ⟨[101, 113, 117, 97, 108].toArray⟩] w (Ret (.tuple #[.agg (cirA eqC), .int .i64 0]) w) := by
  have HN := Lib.hid (fun w' => named1_any 1 12 w' (by omega) (by omega) (by omega) (by omega))
  rw [par01, par112] at HN
  dsimp only at HN
  have HR := Lib.hid (fun v w' hv => tempered_any (⟨1, 12⟩, ⟨0, 1⟩) [0, 1, 2, 3, 4, 5, 6, 7, 8, 9, 10, 11] v w' (by decide) hv (by decide))
  rw [show teC (⟨1, 12⟩, ⟨0, 1⟩) [0, 1, 2, 3, 4, 5, 6, 7, 8, 9, 10, 11] = eqC from rfl] at HR
  have hVc : cirV eqC = .agg (cirA eqC) := rfl
  rw [hVc] at HR
  dsimp only at HR
  generalize eqC = R at *
  clear hVc
  go_enter Tryz.func75, Tryz.ntmps75
  go_wp2_with fail
  have hz0 : (w.alloc (.cells (cirA zC) 36)).heap[w.heap.size]? = _ := obj_new _ _
  have hzb : Below w.heap.size w (w.alloc (.cells (cirA zC) 36)) := by (repeat' (first | (with_reducible first | apply Zl1 | apply Zl2 | apply Zl3 | apply Zl4 | apply Zl5 | apply Zl6 | apply Zl7 | apply Zl8 | apply Zl9 | apply Zla | apply Zlb | apply Zlc) | (dsimp only; with_reducible first | apply Zl8 | apply Zl2 | apply Zld) | with_reducible assumption | omega | (dsimp only; omega)))
  have hcz := zC_lit
  rw [← hcz]
  clear hcz
  have hl := obj_lt hz0
  generalize w.alloc (.cells (cirA zC) 36) = Y at *
  (with_reducible refine (HN.out _).mono ?_)
  rintro _ _ ⟨rfl, x, rfl⟩
  have hxs := x.size_le
  dsimp only
  go_wp2_with fail
  have hsh : ShowsV (x.w.alloc (.cells #[.int .i64 0, .int .i64 1, .int .i64 2, .int .i64 3, .int .i64 4, .int .i64 5, .int .i64 6, .int .i64 7, .int .i64 8, .int .i64 9, .int .i64 10, .int .i64 11] 3)) (.slice (some ⟨x.w.heap.size, 0, none⟩) 12 12) (natVs [0, 1, 2, 3, 4, 5, 6, 7, 8, 9, 10, 11]) := shows_new x.w [0, 1, 2, 3, 4, 5, 6, 7, 8, 9, 10, 11] 3 12
  (with_reducible refine (HR.out _ _ hsh).mono ?_)
  rintro _ _ ⟨rfl, y, rfl⟩
  have hys := y.size_le
  rw [World.size_alloc] at hys
  have HY := Lib.hid (obj_bel y (obj_alloc (.cells #[.int .i64 0, .int .i64 1, .int .i64 2, .int .i64 3, .int .i64 4, .int .i64 5, .int .i64 6, .int .i64 7, .int .i64 8, .int .i64 9, .int .i64 10, .int .i64 11] 3) (obj_bel x hz0)))
  have hyb : Below w.heap.size w y.w := by (repeat' (first | (with_reducible first | apply Zl1 | apply Zl2 | apply Zl3 | apply Zl4 | apply Zl5 | apply Zl6 | apply Zl7 | apply Zl8 | apply Zl9 | apply Zla | apply Zlb | apply Zlc) | (dsimp only; with_reducible first | apply Zl8 | apply Zl2 | apply Zld) | with_reducible assumption | omega | (dsimp only; omega)))
  generalize y.w = Y2 at *
  clear hz0
  dsimp only
  go_wp2_with (refine wpList_stC rfl _ _ rfl w.heap.size (cirA R) rfl rfl (cirA zC) _ HY.out (cirA_size _) (cirA_size _) (cirA_one _) (fun W' hW' => Hid.out ?_))
  refine Lib.hid ?_
  have hbb := hW'.below hyb (by omega)
  have hcr := hW'.b
  clear HY hW'
  go_wp2_with fail
  refine ret_obj (b := w.heap.size) hcr (fun W2 h2 => by
    have hl := cir_load h2
    simp [results, Tryz.results75, Act.put, Sem.run_bind, asAddr, hl]) rfl (Ret.mk rfl hbb)
end Go.Proofs.YtehgeoipbgpocaaGreatDoor
