/- Digits, texts, and their reading. -/
import Derived.Test.YtoncbkkhfblpdaaDoorD
import Derived.Test.YtoncbkkhfblpdaaDoorH
import Derived.OwnWalk
import Derived.Laws.BytesArg
namespace Go.Proofs.YtoncbkkhfblpdaaDoor
open Go.RowKit
attribute [local go_sem low] Bel.cell Bel.frozen alloc_cell alloc_frozen

/-- One byte as a string. -/
theorem conv1 (w : World) (z : Int) : Sem.run Tryd.prog (convert 79 9 (.slice (some ⟨w.heap.size, 0, none⟩) 1 1)) (w.alloc (.cells #[.int .u8 z] 5)) = .ok (.string ⟨[UInt8.ofNat z.toNat].toArray⟩) (w.alloc (.cells #[.int .u8 z] 5)) :=
  run_convert_bytes_arg (P := Tryd.prog) _ 79 5 Tryd.underlying79 Tryd.underlying5 w.heap.size 0 1 1 [z] rfl (fun i hi => by
    obtain rfl : i = 0 := by omega
    simp) 9 Tryd.underlying9
theorem ofNat_dig {n : Int} (h : 0 ≤ n) : UInt8.ofNat (48 + n % 10).toNat = UInt8.ofNat (48 + n.toNat % 10) := by
  congr 1
  omega

set_option maxRecDepth 20000 in
set_option maxHeartbeats 800000 in
theorem refdigits_any (f : Nat) : ∀ (n : Int) (w : World), n.toNat < f → 0 ≤ n → n ≤ 1000000 → Calls Tryd.prog 54 #[.int .i64 n] w (Ret (.string ⟨(Lib.decDigits n.toNat).toArray⟩) w) := by
  induction f with
  | zero => intro n w h; omega
  | succ f ih =>
    intro n w hf h0 hn
    have hc := conv1 w
    by_cases h9 : 9 < n
    · have IH := Lib.hid (fun w' => ih (n / 10) w' (by omega) (by omega) (by omega))
      have hd := Lib.hid (show Lib.decDigits n.toNat = Lib.decDigits (n / 10).toNat ++ [UInt8.ofNat (48 + n % 10).toNat] by
        rw [Lib.decDigits, dif_neg (by omega), ofNat_dig h0, show (n / 10).toNat = n.toNat / 10 by omega])
      have hl := Lib.decDigits_length (n / 10).toNat
      have hl2 := Lib.nDigits_le20 (n / 10).toNat (by omega)
      rw [← hl] at hl2
      clear hl
      go_enter Tryd.func54, Tryd.ntmps54
      go_wp2_with fail
      clear hc
      (with_reducible refine (IH.out _).mono ?_)
      rintro _ _ ⟨rfl, x, rfl⟩
      generalize Lib.decDigits (n / 10).toNat = L at *
      generalize UInt8.ofNat (48 + n % 10).toNat = c at *
      go_wp2
      go_ret
      exact Ret.mk (by rw [hd.out]; simp [ByteArray.ext_iff, ByteArray.data_append]) (by (repeat' (first | (with_reducible exact Below.refl _ _) | (with_reducible exact Nat.le_refl _) | (with_reducible refine Below.bel ?_ ?_) | (with_reducible refine Below.alloc ?_ ?_ _) | (with_reducible refine Below.drew ?_) | (with_reducible refine Below.drawsN ?_ _) | (with_reducible refine Below.setCell ?_ ?_ _) | (with_reducible refine le_bel ?_) | (with_reducible refine le_alloc ?_) | (with_reducible refine le_setCell ?_) | (with_reducible refine le_drew ?_) | (with_reducible refine le_drawsN ?_) | (dsimp only; with_reducible refine le_bel ?_) | (dsimp only; with_reducible refine Nat.le_refl _) | (dsimp only; with_reducible refine le_bel_add ?_) | (with_reducible assumption) | omega | (dsimp only; omega))))
    · have hd := Lib.hid (show Lib.decDigits n.toNat = [UInt8.ofNat (48 + n % 10).toNat] by
        rw [Lib.decDigits, dif_pos (by omega), ofNat_dig h0, Nat.mod_eq_of_lt (by omega)])
      go_enter Tryd.func54, Tryd.ntmps54
      go_wp2_with fail
      go_ret
      exact Ret.mk (by rw [hd.out]; rfl) (by (repeat' (first | (with_reducible exact Below.refl _ _) | (with_reducible exact Nat.le_refl _) | (with_reducible refine Below.bel ?_ ?_) | (with_reducible refine Below.alloc ?_ ?_ _) | (with_reducible refine Below.drew ?_) | (with_reducible refine Below.drawsN ?_ _) | (with_reducible refine Below.setCell ?_ ?_ _) | (with_reducible refine le_bel ?_) | (with_reducible refine le_alloc ?_) | (with_reducible refine le_setCell ?_) | (with_reducible refine le_drew ?_) | (with_reducible refine le_drawsN ?_) | (dsimp only; with_reducible refine le_bel ?_) | (dsimp only; with_reducible refine Nat.le_refl _) | (dsimp only; with_reducible refine le_bel_add ?_) | (with_reducible assumption) | omega | (dsimp only; omega))))
theorem refitoa_any (n : Int) (w : World) (h0 : 0 ≤ n) (hn : n ≤ 1000000) : Calls Tryd.prog 54 #[.int .i64 n] w (Ret (.string ⟨(Lib.itoa n).toArray⟩) w) := by
  rw [show Lib.itoa n = Lib.decDigits n.toNat by unfold Lib.itoa; rw [if_neg (by omega)]]
  exact refdigits_any (n.toNat + 1) n w (by omega) h0 hn
theorem strR_eq {x : ByteArray} {m : List UInt8} (h : x.data.toList = m) : Value.string x = .string ⟨m.toArray⟩ := by subst h; rfl

set_option maxHeartbeats 3200000 in
theorem reftext_any (n d : Int) (w : World) (hr : right n d = true) :
    Calls Tryd.prog 27 #[.agg #[.int .i64 n, .int .i64 d]] w (Ret (.string ⟨(textL n d).toArray⟩) w) := by
  obtain ⟨r1, r2, r3, r4, _⟩ := right_spec hr
  clear hr
  have hd0 : ¬ (d = 0) := by omega
  have ld := Lib.itoa_length_le d (by omega) (by omega)
  by_cases hn : n < 0
  · skip
    have HS := Lib.hid (show [45] = if n < 0 then [45] else ([] : List UInt8) by rw [if_pos hn])
    go_enter Tryd.func27, Tryd.ntmps27
    go_wp2_with fail
    refine wp_region_bel (by kernel_rfl) (by kernel_rfl) ?_
    repeat (go_big_quiet_step (fail))
    refine wpQuiet_nil ?_
    rintro _ ⟨x2, rfl⟩
    go_wp2_with fail
    obtain ⟨m, hm⟩ : ∃ m : Int, -n = m := ⟨_, rfl⟩
    rw [hm]
    have HM := Lib.hid (show m = n.natAbs by omega)
    have hm0 : 0 ≤ m := by omega
    have hm1 : m ≤ 1000000 := by omega
    clear hm
    refine wp_region_bel (by kernel_rfl) (by kernel_rfl) ?_
    repeat (go_big_quiet_step (fail))
    refine wpQuiet_nil ?_
    rintro _ ⟨x3, rfl⟩
    have q0 : 0 ≤ m / d := Int.ediv_nonneg (by omega) (by omega)
    have q1 : m / d ≤ m := Int.ediv_le_self _ (by omega)
    have p0 : 0 ≤ m % d := Int.emod_nonneg _ hd0
    have p1 : m % d < d := Int.emod_lt_of_pos _ (by omega)
    generalize hq : m / d = q at *
    generalize hr : m % d = r at *
    have lq := Lib.itoa_length_le q (by omega) (by omega)
    have lr := Lib.itoa_length_le r (by omega) (by omega)
    have HQ := Lib.hid hq
    have HR := Lib.hid hr
    clear hq hr
    by_cases hr0 : r = 0
    · have e1 : (r == 0) = true := by simpa using hr0
      have HZ := Lib.hid hr0
      clear hr0
      go_wp2_with fail
      (with_reducible refine (refitoa_any _ _ (by omega) (by omega)).mono ?_)
      rintro _ _ ⟨rfl, x5, rfl⟩
      go_wp2
      go_ret
      exact Ret.mk (by exact strR_eq (by rw [← textL_zero [45] HS.out HM.out HQ.out HR.out HZ.out]; simp [ByteArray.data_append])) (by (repeat' (first | (with_reducible exact Below.refl _ _) | (with_reducible exact Nat.le_refl _) | (with_reducible refine Below.bel ?_ ?_) | (with_reducible refine Below.alloc ?_ ?_ _) | (with_reducible refine Below.drew ?_) | (with_reducible refine Below.drawsN ?_ _) | (with_reducible refine Below.setCell ?_ ?_ _) | (with_reducible refine le_bel ?_) | (with_reducible refine le_alloc ?_) | (with_reducible refine le_setCell ?_) | (with_reducible refine le_drew ?_) | (with_reducible refine le_drawsN ?_) | (dsimp only; with_reducible refine le_bel ?_) | (dsimp only; with_reducible refine Nat.le_refl _) | (dsimp only; with_reducible refine le_bel_add ?_) | (with_reducible assumption) | omega | (dsimp only; omega))))
    have e1 : (r == 0) = false := by simpa using hr0
    have HZ := Lib.hid hr0
    clear hr0
    by_cases hq0 : q = 0
    · have e2 : decide (0 < q) = false := by simp; omega
      have HZ2 := Lib.hid hq0
      clear hq0
      go_wp2_with fail
      refine wp_region_bel (by kernel_rfl) (by kernel_rfl) ?_
      repeat (go_big_quiet_step ((go_at_call 54; exact bel_of (refitoa_any _ _ (by omega) (by omega)))))
      refine wpQuiet_nil ?_
      rintro _ ⟨x5, rfl⟩
      go_wp2
      go_ret
      exact Ret.mk (by exact strR_eq (by rw [← textL_part [45] HS.out HM.out HQ.out HR.out HZ.out HZ2.out]; simp [ByteArray.data_append])) (by (repeat' (first | (with_reducible exact Below.refl _ _) | (with_reducible exact Nat.le_refl _) | (with_reducible refine Below.bel ?_ ?_) | (with_reducible refine Below.alloc ?_ ?_ _) | (with_reducible refine Below.drew ?_) | (with_reducible refine Below.drawsN ?_ _) | (with_reducible refine Below.setCell ?_ ?_ _) | (with_reducible refine le_bel ?_) | (with_reducible refine le_alloc ?_) | (with_reducible refine le_setCell ?_) | (with_reducible refine le_drew ?_) | (with_reducible refine le_drawsN ?_) | (dsimp only; with_reducible refine le_bel ?_) | (dsimp only; with_reducible refine Nat.le_refl _) | (dsimp only; with_reducible refine le_bel_add ?_) | (with_reducible assumption) | omega | (dsimp only; omega))))
    have e2 : decide (0 < q) = true := by simp; omega
    have HZ2 := Lib.hid hq0
    clear hq0
    go_wp2_with fail
    (with_reducible refine (refitoa_any _ _ (by omega) (by omega)).mono ?_)
    rintro _ _ ⟨rfl, x5, rfl⟩
    go_wp2_with fail
    refine wp_region_bel (by kernel_rfl) (by kernel_rfl) ?_
    repeat (go_big_quiet_step ((go_at_call 54; exact bel_of (refitoa_any _ _ (by omega) (by omega)))))
    refine wpQuiet_nil ?_
    rintro _ ⟨x6, rfl⟩
    go_wp2
    go_ret
    exact Ret.mk (by exact strR_eq (by rw [← textL_full [45] HS.out HM.out HQ.out HR.out HZ.out HZ2.out]; simp [ByteArray.data_append])) (by (repeat' (first | (with_reducible exact Below.refl _ _) | (with_reducible exact Nat.le_refl _) | (with_reducible refine Below.bel ?_ ?_) | (with_reducible refine Below.alloc ?_ ?_ _) | (with_reducible refine Below.drew ?_) | (with_reducible refine Below.drawsN ?_ _) | (with_reducible refine Below.setCell ?_ ?_ _) | (with_reducible refine le_bel ?_) | (with_reducible refine le_alloc ?_) | (with_reducible refine le_setCell ?_) | (with_reducible refine le_drew ?_) | (with_reducible refine le_drawsN ?_) | (dsimp only; with_reducible refine le_bel ?_) | (dsimp only; with_reducible refine Nat.le_refl _) | (dsimp only; with_reducible refine le_bel_add ?_) | (with_reducible assumption) | omega | (dsimp only; omega))))
  · skip
    have HS := Lib.hid (show [] = if n < 0 then [45] else ([] : List UInt8) by rw [if_neg hn])
    go_enter Tryd.func27, Tryd.ntmps27
    go_wp2_with fail
    refine wp_region_bel (by kernel_rfl) (by kernel_rfl) ?_
    repeat (go_big_quiet_step (fail))
    refine wpQuiet_nil ?_
    rintro _ ⟨x2, rfl⟩
    go_wp2_with fail
    have HM := Lib.hid (show n = n.natAbs by omega)
    have hm0 : 0 ≤ n := by omega
    refine wp_region_bel (by kernel_rfl) (by kernel_rfl) ?_
    repeat (go_big_quiet_step (fail))
    refine wpQuiet_nil ?_
    rintro _ ⟨x3, rfl⟩
    have q0 : 0 ≤ n / d := Int.ediv_nonneg (by omega) (by omega)
    have q1 : n / d ≤ n := Int.ediv_le_self _ (by omega)
    have p0 : 0 ≤ n % d := Int.emod_nonneg _ hd0
    have p1 : n % d < d := Int.emod_lt_of_pos _ (by omega)
    generalize hq : n / d = q at *
    generalize hr : n % d = r at *
    have lq := Lib.itoa_length_le q (by omega) (by omega)
    have lr := Lib.itoa_length_le r (by omega) (by omega)
    have HQ := Lib.hid hq
    have HR := Lib.hid hr
    clear hq hr
    by_cases hr0 : r = 0
    · have e1 : (r == 0) = true := by simpa using hr0
      have HZ := Lib.hid hr0
      clear hr0
      go_wp2_with fail
      (with_reducible refine (refitoa_any _ _ (by omega) (by omega)).mono ?_)
      rintro _ _ ⟨rfl, x5, rfl⟩
      go_wp2
      go_ret
      exact Ret.mk (by exact strR_eq (by rw [← textL_zero [] HS.out HM.out HQ.out HR.out HZ.out]; simp [ByteArray.data_append])) (by (repeat' (first | (with_reducible exact Below.refl _ _) | (with_reducible exact Nat.le_refl _) | (with_reducible refine Below.bel ?_ ?_) | (with_reducible refine Below.alloc ?_ ?_ _) | (with_reducible refine Below.drew ?_) | (with_reducible refine Below.drawsN ?_ _) | (with_reducible refine Below.setCell ?_ ?_ _) | (with_reducible refine le_bel ?_) | (with_reducible refine le_alloc ?_) | (with_reducible refine le_setCell ?_) | (with_reducible refine le_drew ?_) | (with_reducible refine le_drawsN ?_) | (dsimp only; with_reducible refine le_bel ?_) | (dsimp only; with_reducible refine Nat.le_refl _) | (dsimp only; with_reducible refine le_bel_add ?_) | (with_reducible assumption) | omega | (dsimp only; omega))))
    have e1 : (r == 0) = false := by simpa using hr0
    have HZ := Lib.hid hr0
    clear hr0
    by_cases hq0 : q = 0
    · have e2 : decide (0 < q) = false := by simp; omega
      have HZ2 := Lib.hid hq0
      clear hq0
      go_wp2_with fail
      refine wp_region_bel (by kernel_rfl) (by kernel_rfl) ?_
      repeat (go_big_quiet_step ((go_at_call 54; exact bel_of (refitoa_any _ _ (by omega) (by omega)))))
      refine wpQuiet_nil ?_
      rintro _ ⟨x5, rfl⟩
      go_wp2
      go_ret
      exact Ret.mk (by exact strR_eq (by rw [← textL_part [] HS.out HM.out HQ.out HR.out HZ.out HZ2.out]; simp [ByteArray.data_append])) (by (repeat' (first | (with_reducible exact Below.refl _ _) | (with_reducible exact Nat.le_refl _) | (with_reducible refine Below.bel ?_ ?_) | (with_reducible refine Below.alloc ?_ ?_ _) | (with_reducible refine Below.drew ?_) | (with_reducible refine Below.drawsN ?_ _) | (with_reducible refine Below.setCell ?_ ?_ _) | (with_reducible refine le_bel ?_) | (with_reducible refine le_alloc ?_) | (with_reducible refine le_setCell ?_) | (with_reducible refine le_drew ?_) | (with_reducible refine le_drawsN ?_) | (dsimp only; with_reducible refine le_bel ?_) | (dsimp only; with_reducible refine Nat.le_refl _) | (dsimp only; with_reducible refine le_bel_add ?_) | (with_reducible assumption) | omega | (dsimp only; omega))))
    have e2 : decide (0 < q) = true := by simp; omega
    have HZ2 := Lib.hid hq0
    clear hq0
    go_wp2_with fail
    (with_reducible refine (refitoa_any _ _ (by omega) (by omega)).mono ?_)
    rintro _ _ ⟨rfl, x5, rfl⟩
    go_wp2_with fail
    refine wp_region_bel (by kernel_rfl) (by kernel_rfl) ?_
    repeat (go_big_quiet_step ((go_at_call 54; exact bel_of (refitoa_any _ _ (by omega) (by omega)))))
    refine wpQuiet_nil ?_
    rintro _ ⟨x6, rfl⟩
    go_wp2
    go_ret
    exact Ret.mk (by exact strR_eq (by rw [← textL_full [] HS.out HM.out HQ.out HR.out HZ.out HZ2.out]; simp [ByteArray.data_append])) (by (repeat' (first | (with_reducible exact Below.refl _ _) | (with_reducible exact Nat.le_refl _) | (with_reducible refine Below.bel ?_ ?_) | (with_reducible refine Below.alloc ?_ ?_ _) | (with_reducible refine Below.drew ?_) | (with_reducible refine Below.drawsN ?_ _) | (with_reducible refine Below.setCell ?_ ?_ _) | (with_reducible refine le_bel ?_) | (with_reducible refine le_alloc ?_) | (with_reducible refine le_setCell ?_) | (with_reducible refine le_drew ?_) | (with_reducible refine le_drawsN ?_) | (dsimp only; with_reducible refine le_bel ?_) | (dsimp only; with_reducible refine Nat.le_refl _) | (dsimp only; with_reducible refine le_bel_add ?_) | (with_reducible assumption) | omega | (dsimp only; omega))))
end Go.Proofs.YtoncbkkhfblpdaaDoor
