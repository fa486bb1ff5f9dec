/- Sizes of intervals: Check, result, Of, both. -/
import Derived.Test.YtehgeoipbgpocaaGreatDoorIb
namespace Go.Proofs.YtehgeoipbgpocaaGreatDoor
set_option linter.unusedVariables false
set_option linter.unusedSimpArgs false
open Go.RowKit
attribute [local go_sem low] Bel.cell Bel.frozen alloc_cell alloc_frozen

def Sz.chk (s : Sz) : Int := if s.rt = true then (if s.fit = true then 0 else 4) else 2
theorem Sz.chk_ok {s : Sz} (h : s.ok = true) : s.chk = 0 := by
  unfold Sz.ok at h
  rw [Bool.and_eq_true] at h
  unfold Sz.chk
  rw [if_pos h.1, if_pos h.2]
theorem Sz.ok_rt {s : Sz} (h : s.ok = true) : s.rt = true := by
  unfold Sz.ok at h
  rw [Bool.and_eq_true] at h
  exact h.1
theorem Sz.ok_fit {s : Sz} (h : s.ok = true) : s.fit = true := by
  unfold Sz.ok at h
  rw [Bool.and_eq_true] at h
  exact h.2
theorem Sz.chk_no {s : Sz} (h : s.ok = false) : s.chk ≠ 0 := by
  unfold Sz.ok at h
  rw [Bool.and_eq_false_iff] at h
  unfold Sz.chk
  rcases h with h | h
  · rw [if_neg (by rw [h]; exact Bool.false_ne_true)]; decide
  · split
    · rw [if_neg (by rw [h]; exact Bool.false_ne_true)]; decide
    · decide
theorem Sz.rt_all {s : Sz} (h : ∀ k, k < 3 → (s.q k).rt = true) : s.rt = true := by
  unfold Sz.rt
  have h0 : s.a.rt = true := h 0 (by decide)
  have h1 : s.b.rt = true := h 1 (by decide)
  have h2 : s.c.rt = true := h 2 (by decide)
  rw [h0, h1, h2]; rfl
theorem Sz.chk_rt {s : Sz} {k : Nat} (h : (s.q k).rt = false) : s.chk = 2 := by
  unfold Sz.chk
  rw [if_neg]
  intro h'
  rw [s.rt_q h' k] at h
  exact Bool.noConfusion h
def vOf (a b : Int) : Value := .agg #[.int .i64 a, .int .i64 b]

set_option maxHeartbeats 3200000 in
theorem icheck_any (s : Sz) (w : World) : Calls Tryz.prog 39 #[s.V] w (Ret (.int .i64 s.chk) w) := by
  have hV : s.V = .agg #[.int .i64 s.a.n, .int .i64 s.a.d, .int .i64 s.b.n, .int .i64 s.b.d, .int .i64 s.c.n, .int .i64 s.c.d] := rfl
  have HPO := Lib.hid (fun w' => parts_ok s w')
  have HPN := Lib.hid (fun w' => parts_no s w')
  have HC2 := Lib.hid (fun k => @Sz.chk_rt s k)
  have HALLR := Lib.hid (@Sz.rt_all s)
  rw [hV] at HPO HPN ⊢
  clear hV
  go_enter Tryz.func39, Tryz.ntmps39
  go_wp2
  go_loopw [17] (fun y wr => ∃ k : Nat, k ≤ 3 ∧ (∀ j, j < k → (s.q j).rt = true) ∧ y = .int .i64 (k : Int) ∧ Below w.heap.size w wr ∧ wr.heap[w.heap.size]? = some (.cells #[.int .i64 s.a.n, .int .i64 s.a.d, .int .i64 s.b.n, .int .i64 s.b.d, .int .i64 s.c.n, .int .i64 s.c.d] 45) ∧ wr.heap[w.heap.size + 1]? = some (.cells #[.int .i64 s.a.n, .int .i64 s.a.d, .int .i64 s.b.n, .int .i64 s.b.d, .int .i64 s.c.n, .int .i64 s.c.d] 32)) (fun y _ => 3 - (intOf y).toNat)
  case atStart => exact ⟨0, by omega, fun j hj => by omega, rfl, by (repeat' (first | (with_reducible first | apply Zl1 | apply Zl2 | apply Zl3 | apply Zl4 | apply Zl5 | apply Zl6 | apply Zl7 | apply Zl8 | apply Zl9 | apply Zla | apply Zlb | apply Zlc) | (dsimp only; with_reducible first | apply Zl8 | apply Zl2 | apply Zld) | with_reducible assumption | omega | (dsimp only; omega))), obj_alloc _ (obj_new _ _), obj_new1 _ _ _⟩
  case round =>
    obtain ⟨k, hk, hall, rfl, hB, ho0, ho1⟩ := hrel
    have HALL := Lib.hid hall
    have hbs := hB.size
    have hw1 := obj_lt ho1
    have HO0 := Lib.hid ho0
    have HO1 := Lib.hid ho1
    clear hall
    by_cases hk3 : k < 3
    · obtain ⟨g0, g1, g2, g3, g4, g5⟩ := cells6 ho1
      clear ho0 ho1
      rcases (show k = 0 ∨ k = 1 ∨ k = 2 by omega) with rfl | rfl | rfl
      · clear hk3 hk
        cases hr : (s.a).rt
        · have HR := Lib.hid (F.chk_no hr : F.chk (s.a).n (s.a).d = 2)
          have HF := Lib.hid (HC2.out 0 hr : s.chk = 2)
          clear hr
          go_wp2_with fail
          (with_reducible refine (F.check_any _ _ _).mono ?_)
          rintro _ _ ⟨rfl, x1, rfl⟩
          rw [HR.out]
          go_wp2
          go_ret
          exact Ret.mk (by exact val_i64 HF.out.symm) (by (repeat' (first | (with_reducible first | apply Zl1 | apply Zl2 | apply Zl3 | apply Zl4 | apply Zl5 | apply Zl6 | apply Zl7 | apply Zl8 | apply Zl9 | apply Zla | apply Zlb | apply Zlc) | (dsimp only; with_reducible first | apply Zl8 | apply Zl2 | apply Zld) | with_reducible assumption | omega | (dsimp only; omega))))
        · have HR := Lib.hid (F.chk_ok hr : F.chk (s.a).n (s.a).d = 0)
          have HT := Lib.hid hr
          clear hr
          go_wp2_with fail
          (with_reducible refine (F.check_any _ _ _).mono ?_)
          rintro _ _ ⟨rfl, x1, rfl⟩
          rw [HR.out]
          go_wp2_with fail
          go_roundw
          case rel => exact ⟨0 + 1, by omega, fun j hj => (by
            rcases (show j < 0 ∨ j = 0 by omega) with h | h
            · exact HALL.out j h
            · rw [h]; exact HT.out), rfl, by (repeat' (first | (with_reducible first | apply Zl1 | apply Zl2 | apply Zl3 | apply Zl4 | apply Zl5 | apply Zl6 | apply Zl7 | apply Zl8 | apply Zl9 | apply Zla | apply Zlb | apply Zlc) | (dsimp only; with_reducible first | apply Zl8 | apply Zl2 | apply Zld) | with_reducible assumption | omega | (dsimp only; omega))), obj_bel _ (obj_alloc _ HO0.out), obj_bel _ (obj_alloc _ HO1.out)⟩
          case measure => simp [intOf]
      · clear hk3 hk
        cases hr : (s.b).rt
        · have HR := Lib.hid (F.chk_no hr : F.chk (s.b).n (s.b).d = 2)
          have HF := Lib.hid (HC2.out 1 hr : s.chk = 2)
          clear hr
          go_wp2_with fail
          (with_reducible refine (F.check_any _ _ _).mono ?_)
          rintro _ _ ⟨rfl, x1, rfl⟩
          rw [HR.out]
          go_wp2
          go_ret
          exact Ret.mk (by exact val_i64 HF.out.symm) (by (repeat' (first | (with_reducible first | apply Zl1 | apply Zl2 | apply Zl3 | apply Zl4 | apply Zl5 | apply Zl6 | apply Zl7 | apply Zl8 | apply Zl9 | apply Zla | apply Zlb | apply Zlc) | (dsimp only; with_reducible first | apply Zl8 | apply Zl2 | apply Zld) | with_reducible assumption | omega | (dsimp only; omega))))
        · have HR := Lib.hid (F.chk_ok hr : F.chk (s.b).n (s.b).d = 0)
          have HT := Lib.hid hr
          clear hr
          go_wp2_with fail
          (with_reducible refine (F.check_any _ _ _).mono ?_)
          rintro _ _ ⟨rfl, x1, rfl⟩
          rw [HR.out]
          go_wp2_with fail
          go_roundw
          case rel => exact ⟨1 + 1, by omega, fun j hj => (by
            rcases (show j < 1 ∨ j = 1 by omega) with h | h
            · exact HALL.out j h
            · rw [h]; exact HT.out), rfl, by (repeat' (first | (with_reducible first | apply Zl1 | apply Zl2 | apply Zl3 | apply Zl4 | apply Zl5 | apply Zl6 | apply Zl7 | apply Zl8 | apply Zl9 | apply Zla | apply Zlb | apply Zlc) | (dsimp only; with_reducible first | apply Zl8 | apply Zl2 | apply Zld) | with_reducible assumption | omega | (dsimp only; omega))), obj_bel _ (obj_alloc _ HO0.out), obj_bel _ (obj_alloc _ HO1.out)⟩
          case measure => simp [intOf]
      · clear hk3 hk
        cases hr : (s.c).rt
        · have HR := Lib.hid (F.chk_no hr : F.chk (s.c).n (s.c).d = 2)
          have HF := Lib.hid (HC2.out 2 hr : s.chk = 2)
          clear hr
          go_wp2_with fail
          (with_reducible refine (F.check_any _ _ _).mono ?_)
          rintro _ _ ⟨rfl, x1, rfl⟩
          rw [HR.out]
          go_wp2
          go_ret
          exact Ret.mk (by exact val_i64 HF.out.symm) (by (repeat' (first | (with_reducible first | apply Zl1 | apply Zl2 | apply Zl3 | apply Zl4 | apply Zl5 | apply Zl6 | apply Zl7 | apply Zl8 | apply Zl9 | apply Zla | apply Zlb | apply Zlc) | (dsimp only; with_reducible first | apply Zl8 | apply Zl2 | apply Zld) | with_reducible assumption | omega | (dsimp only; omega))))
        · have HR := Lib.hid (F.chk_ok hr : F.chk (s.c).n (s.c).d = 0)
          have HT := Lib.hid hr
          clear hr
          go_wp2_with fail
          (with_reducible refine (F.check_any _ _ _).mono ?_)
          rintro _ _ ⟨rfl, x1, rfl⟩
          rw [HR.out]
          go_wp2_with fail
          go_roundw
          case rel => exact ⟨2 + 1, by omega, fun j hj => (by
            rcases (show j < 2 ∨ j = 2 by omega) with h | h
            · exact HALL.out j h
            · rw [h]; exact HT.out), rfl, by (repeat' (first | (with_reducible first | apply Zl1 | apply Zl2 | apply Zl3 | apply Zl4 | apply Zl5 | apply Zl6 | apply Zl7 | apply Zl8 | apply Zl9 | apply Zla | apply Zlb | apply Zlc) | (dsimp only; with_reducible first | apply Zl8 | apply Zl2 | apply Zld) | with_reducible assumption | omega | (dsimp only; omega))), obj_bel _ (obj_alloc _ HO0.out), obj_bel _ (obj_alloc _ HO1.out)⟩
          case measure => simp [intOf]
    · obtain rfl : k = 3 := by omega
      clear hk3 hk
      have HRT := Lib.hid (HALLR.out HALL.out)
      obtain ⟨e0, e1, e2, e3, e4, e5⟩ := cells6 ho0
      clear ho0 ho1
      cases hf : s.fit
      · have HF := Lib.hid (show s.chk = 4 by unfold Sz.chk; rw [if_pos HRT.out, if_neg (by rw [hf]; exact Bool.false_ne_true)])
        have HP := Lib.hid hf
        clear hf
        go_wp2_with fail
        (with_reducible refine (HPN.out _ HRT.out HP.out).mono ?_)
        rintro _ _ ⟨A, B, C, rfl, x, rfl⟩
        go_wp2
        go_ret
        exact Ret.mk (by exact val_i64 HF.out.symm) (by (repeat' (first | (with_reducible first | apply Zl1 | apply Zl2 | apply Zl3 | apply Zl4 | apply Zl5 | apply Zl6 | apply Zl7 | apply Zl8 | apply Zl9 | apply Zla | apply Zlb | apply Zlc) | (dsimp only; with_reducible first | apply Zl8 | apply Zl2 | apply Zld) | with_reducible assumption | omega | (dsimp only; omega))))
      · have HF := Lib.hid (show s.chk = 0 by unfold Sz.chk; rw [if_pos HRT.out, if_pos hf])
        have HP := Lib.hid hf
        clear hf
        go_wp2_with fail
        (with_reducible refine (HPO.out _ HRT.out HP.out).mono ?_)
        rintro _ _ ⟨rfl, x, rfl⟩
        go_wp2
        go_ret
        exact Ret.mk (by exact val_i64 HF.out.symm) (by (repeat' (first | (with_reducible first | apply Zl1 | apply Zl2 | apply Zl3 | apply Zl4 | apply Zl5 | apply Zl6 | apply Zl7 | apply Zl8 | apply Zl9 | apply Zla | apply Zlb | apply Zlc) | (dsimp only; with_reducible first | apply Zl8 | apply Zl2 | apply Zld) | with_reducible assumption | omega | (dsimp only; omega))))
end Go.Proofs.YtehgeoipbgpocaaGreatDoor
