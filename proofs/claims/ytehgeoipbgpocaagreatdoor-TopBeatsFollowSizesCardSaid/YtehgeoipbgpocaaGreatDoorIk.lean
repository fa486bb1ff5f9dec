/- Sizes of intervals: Sign, over, Compare. -/
import Derived.Test.YtehgeoipbgpocaaGreatDoorIj
import Derived.Test.YtehgeoipbgpocaaGreatDoorFl
namespace Go.Proofs.YtehgeoipbgpocaaGreatDoor
set_option linter.unusedVariables false
set_option linter.unusedSimpArgs false
open Go.RowKit
attribute [local go_sem low] Bel.cell Bel.frozen alloc_cell alloc_frozen
attribute [local go_sem] calmOp chainOp yieldsC grows floatOp Oper.floats Oper.calm yieldsR

def sgS (s : Sz) : Int := if s.chk = 0 then sgP (s.e 0) (s.e 1) (s.e 2) else 0
theorem Sz.e_ok {s : Sz} (h : s.ok = true) (k : Nat) (hk : k < 3) : -6000 ≤ s.e k ∧ s.e k ≤ 6000 := (s.fit_spec (Sz.ok_fit h)).2 k hk
set_option maxHeartbeats 3200000 in
theorem isign_any (s : Sz) (w : World) (hT : I.Tab w) : Calls Tryz.prog 12 #[s.V] w (Ret (.tuple #[.int .i64 (sgS s), .int .i64 s.chk]) w) := by
  have HC := Lib.hid (fun w' => icheck_any s w')
  have HT := Lib.hid hT
  clear hT
  have hV : s.V = .agg #[.int .i64 s.a.n, .int .i64 s.a.d, .int .i64 s.b.n, .int .i64 s.b.d, .int .i64 s.c.n, .int .i64 s.c.d] := rfl
  by_cases h0 : s.chk = 0
  · have hok := Sz.ok_of h0
    have HP := Lib.hid (fun w' => parts_ok s w' (Sz.ok_rt hok) (Sz.ok_fit hok))
    have b0 := Sz.e_ok hok 0 (by decide)
    have b1 := Sz.e_ok hok 1 (by decide)
    have b2 := Sz.e_ok hok 2 (by decide)
    have HG := Lib.hid (fun w' hT => isgn_any (s.e 0) (s.e 1) (s.e 2) w' (by omega) (by omega) (by omega) (by omega) (by omega) (by omega) hT)
    rw [show sgS s = sgP (s.e 0) (s.e 1) (s.e 2) from if_pos h0]
    rw [h0] at HC ⊢
    rw [hV] at HC HP ⊢
    clear hV h0 hok b0 b1 b2
    generalize sgP (s.e 0) (s.e 1) (s.e 2) = g at *
    generalize s.e 0 = e0 at *
    generalize s.e 1 = e1 at *
    generalize s.e 2 = e2 at *
    go_enter Tryz.func12, Tryz.ntmps12
    go_wp2_with fail
    (with_reducible refine (HC.out _).mono ?_)
    rintro _ _ ⟨rfl, x, rfl⟩
    go_wp2_with fail
    (with_reducible refine (HP.out _).mono ?_)
    rintro _ _ ⟨rfl, y, rfl⟩
    go_wp2_with fail
    (with_reducible refine (HG.out _ (HT.out.of (by (repeat' (first | (with_reducible first | apply Zl1 | apply Zl2 | apply Zl3 | apply Zl4 | apply Zl5 | apply Zl6 | apply Zl7 | apply Zl8 | apply Zl9 | apply Zla | apply Zlb | apply Zlc) | (dsimp only; with_reducible first | apply Zl8 | apply Zl2 | apply Zld) | with_reducible assumption | omega | (dsimp only; omega)))))).mono ?_)
    rintro _ _ ⟨rfl, z, rfl⟩
    go_wp2
    go_ret2
    exact Ret.mk rfl (by (repeat' (first | (with_reducible first | apply Zl1 | apply Zl2 | apply Zl3 | apply Zl4 | apply Zl5 | apply Zl6 | apply Zl7 | apply Zl8 | apply Zl9 | apply Zla | apply Zlb | apply Zlc) | (dsimp only; with_reducible first | apply Zl8 | apply Zl2 | apply Zld) | with_reducible assumption | omega | (dsimp only; omega))))
  · rw [show sgS s = 0 from if_neg h0]
    rw [hV] at HC ⊢
    generalize s.chk = e at *
    have f0 : (e != 0) = true := by simpa using h0
    clear hV h0
    go_enter Tryz.func12, Tryz.ntmps12
    go_wp2_with fail
    (with_reducible refine (HC.out _).mono ?_)
    rintro _ _ ⟨rfl, x, rfl⟩
    go_wp2
    go_ret2
    exact Ret.mk rfl (by (repeat' (first | (with_reducible first | apply Zl1 | apply Zl2 | apply Zl3 | apply Zl4 | apply Zl5 | apply Zl6 | apply Zl7 | apply Zl8 | apply Zl9 | apply Zla | apply Zlb | apply Zlc) | (dsimp only; with_reducible first | apply Zl8 | apply Zl2 | apply Zld) | with_reducible assumption | omega | (dsimp only; omega))))

/-- The exponents of a size over another denominator. -/
def Sz.ov (s : Sz) (m : Int) (k : Nat) : Int := s.e k * (m / s.den)
theorem Sz.ov_bd {s : Sz} (h : s.ok = true) {m : Int} (h0 : 0 ≤ m) (h1 : m ≤ 57600) {k : Nat} (hk : k < 3) : -345600000 ≤ s.ov m k ∧ s.ov m k ≤ 345600000 ∧ 0 ≤ m / s.den ∧ m / s.den ≤ 57600 := by
  obtain ⟨e1, e2⟩ := Sz.e_ok h k hk
  have hd : 1 ≤ s.den := s.dn_pos (Sz.ok_rt h) 3
  have a1 : 0 ≤ m / s.den := Int.ediv_nonneg h0 (by omega)
  have a2 : m / s.den ≤ 57600 := Int.le_trans (Int.ediv_le_self _ h0) h1
  have e := Int.natAbs_mul (s.e k) (m / s.den)
  have h3 : (s.e k).natAbs * (m / s.den).natAbs ≤ 6000 * 57600 := Nat.mul_le_mul (by omega) (by omega)
  unfold Sz.ov
  omega
set_option maxRecDepth 100000 in
set_option maxHeartbeats 6400000 in
theorem over_ok (s : Sz) (m : Int) (w : World) (hok : s.ok = true) (hm0 : 0 ≤ m) (hm1 : m ≤ 57600) :
    Calls Tryz.prog 157 #[s.V, .int .i64 m] w (Ret (.agg #[.int .i64 (s.ov m 0), .int .i64 (s.ov m 1), .int .i64 (s.ov m 2)]) w) := by
  have HP := Lib.hid (fun w' => parts_ok s w' (Sz.ok_rt hok) (Sz.ok_fit hok))
  have HBD := Lib.hid (fun k hk => @Sz.ov_bd s hok m hm0 hm1 k hk)
  have HED := Lib.hid (fun k hk => Sz.e_ok hok k hk)
  have hd0 : 1 ≤ s.den := s.dn_pos (Sz.ok_rt hok) 3
  have hd1 : s.den ≤ 240 := (s.fit_spec (Sz.ok_fit hok)).1
  have hV : s.V = .agg #[.int .i64 s.a.n, .int .i64 s.a.d, .int .i64 s.b.n, .int .i64 s.b.d, .int .i64 s.c.n, .int .i64 s.c.d] := rfl
  rw [hV] at HP ⊢
  clear hV hok
  go_enter Tryz.func157, Tryz.ntmps157
  go_wp2_with fail
  (with_reducible refine (HP.out _).mono ?_)
  rintro _ _ ⟨rfl, x, rfl⟩
  have hxs := x.size_le
  go_wp2_with fail
  have o5 := obj_new x.w (.cells #[.int .i64 (s.e 0), .int .i64 (s.e 1), .int .i64 (s.e 2)] 116)
  have o4 := obj_alloc (.cells #[.int .i64 (s.e 0), .int .i64 (s.e 1), .int .i64 (s.e 2)] 116) (obj_bel x (obj_new1 w (.cells #[.int .i64 s.a.n, .int .i64 s.a.d, .int .i64 s.b.n, .int .i64 s.b.d, .int .i64 s.c.n, .int .i64 s.c.d] 45) (.cells #[.int .i64 0, .int .i64 0, .int .i64 0] 116)))
  have hbY : Below w.heap.size w (x.w.alloc (.cells #[.int .i64 (s.e 0), .int .i64 (s.e 1), .int .i64 (s.e 2)] 116)) := by (repeat' (first | (with_reducible first | apply Zl1 | apply Zl2 | apply Zl3 | apply Zl4 | apply Zl5 | apply Zl6 | apply Zl7 | apply Zl8 | apply Zl9 | apply Zla | apply Zlb | apply Zlc) | (dsimp only; with_reducible first | apply Zl8 | apply Zl2 | apply Zld) | with_reducible assumption | omega | (dsimp only; omega)))
  obtain ⟨B, hB⟩ : ∃ B, x.w.heap.size = B := ⟨_, rfl⟩
  rw [World.size_alloc, World.size_alloc] at hxs
  rw [hB] at o5 hxs ⊢
  go_loopw [15] (fun i wr => ∃ k : Nat, k ≤ 3 ∧ i = .int .i64 (k : Int) ∧ Below w.heap.size w wr ∧ wr.heap[w.heap.size + 1]? = some (.cells #[.int .i64 0, .int .i64 0, .int .i64 0] 116) ∧
      wr.heap[B]? = some (.cells #[.int .i64 (if 0 < k then s.ov m 0 else s.e 0), .int .i64 (if 1 < k then s.ov m 1 else s.e 1), .int .i64 (if 2 < k then s.ov m 2 else s.e 2)] 116)) (fun i _ => 3 - (intOf i).toNat)
  case atStart => exact ⟨0, by omega, rfl, hbY, o4, o5⟩
  case round =>
    obtain ⟨k, hk, rfl, hBl, ho4, ho5⟩ := hrel
    have hbs := hBl.size
    have hw5 := obj_lt ho5
    have HO4 := Lib.hid ho4
    have HO5 := Lib.hid ho5
    clear o5 o4 hbY
    by_cases hk3 : k < 3
    · obtain ⟨f0, f1, f2⟩ := froz3 ho5
      obtain ⟨e0, e1, e2⟩ := cells3 ho5
      clear ho4 ho5
      rcases (show k = 0 ∨ k = 1 ∨ k = 2 by omega) with rfl | rfl | rfl
      · clear hk3 hk
        obtain ⟨b1, b2, b3, b4⟩ := HBD.out 0 (by decide)
        obtain ⟨b5, b6⟩ := HED.out 0 (by decide)
        have he : s.e 0 * (m / s.den) = s.ov m 0 := rfl
        have HE := Lib.hid he
        simp only [show (0 < 0) = False from by simp, show (1 < 0) = False from by simp, show (2 < 0) = False from by simp, if_true, if_false] at e0 e1 e2
        generalize s.ov m 0 = ee at *
        go_wp2_with fail
        refine wp_region_belT 8 (by kernel_rfl) (by kernel_rfl) ?_
        simp only [List.take_succ_cons, List.take_zero, List.drop_succ_cons, List.drop_zero]
        repeat (go_big_quiet_step (fail))
        refine wpQuiet_nil ?_
        rintro _ ⟨z, rfl⟩
        have hzs := z.size_le
        have HZ4 := Lib.hid (obj_bel z HO4.out)
        have HZ5 := Lib.hid (obj_bel z HO5.out)
        clear e0 e1 e2 f0 f1 f2
        obtain ⟨f0, f1, f2⟩ := froz3 HZ5.out
        obtain ⟨e0, e1, e2⟩ := cells3 HZ5.out
        go_wp2_with fail
        go_roundw
        case rel => exact ⟨0 + 1, by omega, rfl, by (repeat' (first | (with_reducible first | apply Zl1 | apply Zl2 | apply Zl3 | apply Zl4 | apply Zl5 | apply Zl6 | apply Zl7 | apply Zl8 | apply Zl9 | apply Zla | apply Zlb | apply Zlc) | (dsimp only; with_reducible first | apply Zl8 | apply Zl2 | apply Zld) | with_reducible assumption | omega | (dsimp only; omega))), obj_ne _ (by omega) HZ4.out, obj_set _ HZ5.out⟩
        case measure => simp [intOf]
      · clear hk3 hk
        obtain ⟨b1, b2, b3, b4⟩ := HBD.out 1 (by decide)
        obtain ⟨b5, b6⟩ := HED.out 1 (by decide)
        have he : s.e 1 * (m / s.den) = s.ov m 1 := rfl
        have HE := Lib.hid he
        simp only [show (0 < 1) = True from by simp, show (1 < 1) = False from by simp, show (2 < 1) = False from by simp, if_true, if_false] at e0 e1 e2
        generalize s.ov m 1 = ee at *
        go_wp2_with fail
        refine wp_region_belT 8 (by kernel_rfl) (by kernel_rfl) ?_
        simp only [List.take_succ_cons, List.take_zero, List.drop_succ_cons, List.drop_zero]
        repeat (go_big_quiet_step (fail))
        refine wpQuiet_nil ?_
        rintro _ ⟨z, rfl⟩
        have hzs := z.size_le
        have HZ4 := Lib.hid (obj_bel z HO4.out)
        have HZ5 := Lib.hid (obj_bel z HO5.out)
        clear e0 e1 e2 f0 f1 f2
        obtain ⟨f0, f1, f2⟩ := froz3 HZ5.out
        obtain ⟨e0, e1, e2⟩ := cells3 HZ5.out
        go_wp2_with fail
        go_roundw
        case rel => exact ⟨1 + 1, by omega, rfl, by (repeat' (first | (with_reducible first | apply Zl1 | apply Zl2 | apply Zl3 | apply Zl4 | apply Zl5 | apply Zl6 | apply Zl7 | apply Zl8 | apply Zl9 | apply Zla | apply Zlb | apply Zlc) | (dsimp only; with_reducible first | apply Zl8 | apply Zl2 | apply Zld) | with_reducible assumption | omega | (dsimp only; omega))), obj_ne _ (by omega) HZ4.out, obj_set _ HZ5.out⟩
        case measure => simp [intOf]
      · clear hk3 hk
        obtain ⟨b1, b2, b3, b4⟩ := HBD.out 2 (by decide)
        obtain ⟨b5, b6⟩ := HED.out 2 (by decide)
        have he : s.e 2 * (m / s.den) = s.ov m 2 := rfl
        have HE := Lib.hid he
        simp only [show (0 < 2) = True from by simp, show (1 < 2) = True from by simp, show (2 < 2) = False from by simp, if_true, if_false] at e0 e1 e2
        generalize s.ov m 2 = ee at *
        go_wp2_with fail
        refine wp_region_belT 8 (by kernel_rfl) (by kernel_rfl) ?_
        simp only [List.take_succ_cons, List.take_zero, List.drop_succ_cons, List.drop_zero]
        repeat (go_big_quiet_step (fail))
        refine wpQuiet_nil ?_
        rintro _ ⟨z, rfl⟩
        have hzs := z.size_le
        have HZ4 := Lib.hid (obj_bel z HO4.out)
        have HZ5 := Lib.hid (obj_bel z HO5.out)
        clear e0 e1 e2 f0 f1 f2
        obtain ⟨f0, f1, f2⟩ := froz3 HZ5.out
        obtain ⟨e0, e1, e2⟩ := cells3 HZ5.out
        go_wp2_with fail
        go_roundw
        case rel => exact ⟨2 + 1, by omega, rfl, by (repeat' (first | (with_reducible first | apply Zl1 | apply Zl2 | apply Zl3 | apply Zl4 | apply Zl5 | apply Zl6 | apply Zl7 | apply Zl8 | apply Zl9 | apply Zla | apply Zlb | apply Zlc) | (dsimp only; with_reducible first | apply Zl8 | apply Zl2 | apply Zld) | with_reducible assumption | omega | (dsimp only; omega))), obj_ne _ (by omega) HZ4.out, obj_set _ HZ5.out⟩
        case measure => simp [intOf]
    · obtain rfl : k = 3 := by omega
      obtain ⟨d0, d1, d2⟩ := froz3 ho4
      obtain ⟨c0, c1, c2⟩ := cells3 ho4
      obtain ⟨e0, e1, e2⟩ := cells3 ho5
      simp only [show (0 < 3) = True from by simp, show (1 < 3) = True from by simp, show (2 < 3) = True from by simp, if_true] at e0 e1 e2
      clear hk3 hk ho4 ho5
      go_wp2_with fail
      refine bodyPost_ret (v := .agg #[.int .i64 (s.ov m 0), .int .i64 (s.ov m 1), .int .i64 (s.ov m 2)]) (by simp [results, Tryz.results157, go_sem, c0, c1, c2, e0, e1, e2]) rfl (Ret.mk (by rfl) (by (repeat' (first | (with_reducible first | apply Zl1 | apply Zl2 | apply Zl3 | apply Zl4 | apply Zl5 | apply Zl6 | apply Zl7 | apply Zl8 | apply Zl9 | apply Zla | apply Zlb | apply Zlc) | (dsimp only; with_reducible first | apply Zl8 | apply Zl2 | apply Zld) | with_reducible assumption | omega | (dsimp only; omega)))))
end Go.Proofs.YtehgeoipbgpocaaGreatDoor
