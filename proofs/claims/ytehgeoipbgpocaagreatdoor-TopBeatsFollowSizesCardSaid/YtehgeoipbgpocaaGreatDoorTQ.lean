/- Beats: tunings, Partials, Check, check, sizes. Beats: check and sizes of one interval. -/
import Derived.Test.YtehgeoipbgpocaaGreatDoorBA
import Derived.Test.YtehgeoipbgpocaaGreatDoorTh
namespace Go.Proofs.YtehgeoipbgpocaaGreatDoor
set_option linter.unusedVariables false
set_option linter.unusedSimpArgs false
open Go.RowKit
attribute [local go_sem low] Bel.cell Bel.frozen alloc_cell alloc_frozen
attribute [local go_sem] calmOp chainOp yieldsC grows

/-- A tuning: a circle, and the pitch behind it. -/
def tunA (c : Cir) (p : Int) : Array Value := (cirA c).push (.int .i64 p)
theorem tunA_size (c : Cir) (p : Int) : (tunA c p).size = 49 := by unfold tunA; rw [Array.size_push, cirA_size]
theorem tun_get (c : Cir) (p : Int) {j : Nat} (hj : j < 48) : (tunA c p)[j]? = (cirA c)[j]? := by unfold tunA; rw [Array.getElem?_push, if_neg (by rw [cirA_size]; omega)]
theorem tun_last (c : Cir) (p : Int) : (tunA c p)[48]? = some (.int .i64 p) := by unfold tunA; rw [Array.getElem?_push, if_pos (by rw [cirA_size])]
theorem tun_under : ∃ d, Tryz.prog.underlying 38 = some d ∧ d.isRow = true := by
  have h : (match Tryz.prog.underlying 38 with | some d => d.isRow | none => false) = true := by kernel_rfl
  cases hd : Tryz.prog.underlying 38 with
  | none => rw [hd] at h; exact absurd h (by decide)
  | some d => rw [hd] at h; exact ⟨d, rfl, h⟩
theorem tun_info : (Tryz.prog.info? 38).map (·.size) = some 49 := by kernel_rfl
theorem wpList_ldU {ops : Array Oper} {rest : List Oper} {o : Oper} {a : Act} {w : World} {Q : Exit → Act → World → Prop} (hg : o.guard = none) (x : Operand) (ho : o.op = .load 38 x)
    (B : Nat) (hx : a.eval x = .pointer (some ⟨B, 0, none⟩)) (c : Cir) (p : Int) (hob : w.heap[B]? = some (.cells (tunA c p) 38))
    (h : wpList Tryz.prog ops Q rest (a.put o.dst (.agg (tunA c p))) w) : wpList Tryz.prog ops Q (o :: rest) a w := by
  obtain ⟨d, hu, hd⟩ := tun_under
  exact wpList_load_mid hg 38 x ho B 0 hx (tunA c p).toList d (fun j v hv => by rw [Nat.zero_add, cell_of_row _ _ j (tunA c p) _ _ hob]; simpa using hv) hu hd (by rw [tun_info, Array.length_toList, tunA_size]) (by rw [Array.toArray_toList]; exact h)
theorem wpList_ldV {ops : Array Oper} {rest : List Oper} {o : Oper} {a : Act} {w : World} {Q : Exit → Act → World → Prop} (hg : o.guard = none) (x : Operand) (ho : o.op = .load 36 x)
    (B : Nat) (hx : a.eval x = .pointer (some ⟨B, 0, none⟩)) (c : Cir) (p : Int) (hob : w.heap[B]? = some (.cells (tunA c p) 38))
    (h : wpList Tryz.prog ops Q rest (a.put o.dst (.agg (cirA c))) w) : wpList Tryz.prog ops Q (o :: rest) a w := by
  refine wpList_load_mid hg 36 x ho B 0 hx (cirA c).toList _ (fun j v hv => ?_) cir_under rfl (by rw [cir_info, Array.length_toList, cirA_size]) (by rw [Array.toArray_toList]; exact h)
  have hv' : (cirA c)[j]? = some v := by simpa using hv
  have hj : j < 48 := by have := (Array.getElem?_eq_some_iff.1 hv').1; rwa [cirA_size] at this
  rw [Nat.zero_add, cell_of_row _ _ j (tunA c p) _ _ hob, tun_get c p hj, hv']
theorem tun_cell {w : World} {B : Nat} {c : Cir} {p : Int} (h : w.heap[B]? = some (.cells (tunA c p) 38)) : w.cell? ⟨B, 48, none⟩ = some (.int .i64 p) := by
  rw [cell_of_row _ _ 48 (tunA c p) _ _ h, tun_last]

/-! ### Partials, note -/
set_option maxHeartbeats 3200000 in
theorem partials_ok (m : Nat) (hm : isP m) (w : World) : Calls Tryz.prog 8 #[.int .i64 (m : Int)] w (Ret (.tuple #[.int .i64 (pI m : Int), .int .i64 (qI m : Int), .int .i64 0]) w) := by
  rcases hm with rfl | rfl | rfl | rfl | rfl | rfl | rfl
  · rw [show ((pI 3 : Nat) : Int) = 6 by decide +kernel, show ((qI 3 : Nat) : Int) = 5 by decide +kernel, show ((3 : Nat) : Int) = 3 from rfl]
    go_enter Tryz.func8, Tryz.ntmps8
    go_wp2
    refine bodyPost_ret (v := .tuple #[.int .i64 6, .int .i64 5, .int .i64 0]) (by simp [results, Tryz.results8, go_sem]) rfl (Ret.mk (by rfl) (by (repeat' (first | (with_reducible first | apply Zl1 | apply Zl2 | apply Zl3 | apply Zl4 | apply Zl5 | apply Zl6 | apply Zl7 | apply Zl8 | apply Zl9 | apply Zla | apply Zlb | apply Zlc) | (dsimp only; with_reducible first | apply Zl8 | apply Zl2 | apply Zld) | with_reducible assumption | omega | (dsimp only; omega)))))
  · rw [show ((pI 4 : Nat) : Int) = 5 by decide +kernel, show ((qI 4 : Nat) : Int) = 4 by decide +kernel, show ((4 : Nat) : Int) = 4 from rfl]
    go_enter Tryz.func8, Tryz.ntmps8
    go_wp2
    refine bodyPost_ret (v := .tuple #[.int .i64 5, .int .i64 4, .int .i64 0]) (by simp [results, Tryz.results8, go_sem]) rfl (Ret.mk (by rfl) (by (repeat' (first | (with_reducible first | apply Zl1 | apply Zl2 | apply Zl3 | apply Zl4 | apply Zl5 | apply Zl6 | apply Zl7 | apply Zl8 | apply Zl9 | apply Zla | apply Zlb | apply Zlc) | (dsimp only; with_reducible first | apply Zl8 | apply Zl2 | apply Zld) | with_reducible assumption | omega | (dsimp only; omega)))))
  · rw [show ((pI 5 : Nat) : Int) = 4 by decide +kernel, show ((qI 5 : Nat) : Int) = 3 by decide +kernel, show ((5 : Nat) : Int) = 5 from rfl]
    go_enter Tryz.func8, Tryz.ntmps8
    go_wp2
    refine bodyPost_ret (v := .tuple #[.int .i64 4, .int .i64 3, .int .i64 0]) (by simp [results, Tryz.results8, go_sem]) rfl (Ret.mk (by rfl) (by (repeat' (first | (with_reducible first | apply Zl1 | apply Zl2 | apply Zl3 | apply Zl4 | apply Zl5 | apply Zl6 | apply Zl7 | apply Zl8 | apply Zl9 | apply Zla | apply Zlb | apply Zlc) | (dsimp only; with_reducible first | apply Zl8 | apply Zl2 | apply Zld) | with_reducible assumption | omega | (dsimp only; omega)))))
  · rw [show ((pI 7 : Nat) : Int) = 3 by decide +kernel, show ((qI 7 : Nat) : Int) = 2 by decide +kernel, show ((7 : Nat) : Int) = 7 from rfl]
    go_enter Tryz.func8, Tryz.ntmps8
    go_wp2
    refine bodyPost_ret (v := .tuple #[.int .i64 3, .int .i64 2, .int .i64 0]) (by simp [results, Tryz.results8, go_sem]) rfl (Ret.mk (by rfl) (by (repeat' (first | (with_reducible first | apply Zl1 | apply Zl2 | apply Zl3 | apply Zl4 | apply Zl5 | apply Zl6 | apply Zl7 | apply Zl8 | apply Zl9 | apply Zla | apply Zlb | apply Zlc) | (dsimp only; with_reducible first | apply Zl8 | apply Zl2 | apply Zld) | with_reducible assumption | omega | (dsimp only; omega)))))
  · rw [show ((pI 8 : Nat) : Int) = 8 by decide +kernel, show ((qI 8 : Nat) : Int) = 5 by decide +kernel, show ((8 : Nat) : Int) = 8 from rfl]
    go_enter Tryz.func8, Tryz.ntmps8
    go_wp2
    refine bodyPost_ret (v := .tuple #[.int .i64 8, .int .i64 5, .int .i64 0]) (by simp [results, Tryz.results8, go_sem]) rfl (Ret.mk (by rfl) (by (repeat' (first | (with_reducible first | apply Zl1 | apply Zl2 | apply Zl3 | apply Zl4 | apply Zl5 | apply Zl6 | apply Zl7 | apply Zl8 | apply Zl9 | apply Zla | apply Zlb | apply Zlc) | (dsimp only; with_reducible first | apply Zl8 | apply Zl2 | apply Zld) | with_reducible assumption | omega | (dsimp only; omega)))))
  · rw [show ((pI 9 : Nat) : Int) = 5 by decide +kernel, show ((qI 9 : Nat) : Int) = 3 by decide +kernel, show ((9 : Nat) : Int) = 9 from rfl]
    go_enter Tryz.func8, Tryz.ntmps8
    go_wp2
    refine bodyPost_ret (v := .tuple #[.int .i64 5, .int .i64 3, .int .i64 0]) (by simp [results, Tryz.results8, go_sem]) rfl (Ret.mk (by rfl) (by (repeat' (first | (with_reducible first | apply Zl1 | apply Zl2 | apply Zl3 | apply Zl4 | apply Zl5 | apply Zl6 | apply Zl7 | apply Zl8 | apply Zl9 | apply Zla | apply Zlb | apply Zlc) | (dsimp only; with_reducible first | apply Zl8 | apply Zl2 | apply Zld) | with_reducible assumption | omega | (dsimp only; omega)))))
  · rw [show ((pI 12 : Nat) : Int) = 2 by decide +kernel, show ((qI 12 : Nat) : Int) = 1 by decide +kernel, show ((12 : Nat) : Int) = 12 from rfl]
    go_enter Tryz.func8, Tryz.ntmps8
    go_wp2
    refine bodyPost_ret (v := .tuple #[.int .i64 2, .int .i64 1, .int .i64 0]) (by simp [results, Tryz.results8, go_sem]) rfl (Ret.mk (by rfl) (by (repeat' (first | (with_reducible first | apply Zl1 | apply Zl2 | apply Zl3 | apply Zl4 | apply Zl5 | apply Zl6 | apply Zl7 | apply Zl8 | apply Zl9 | apply Zla | apply Zlb | apply Zlc) | (dsimp only; with_reducible first | apply Zl8 | apply Zl2 | apply Zld) | with_reducible assumption | omega | (dsimp only; omega)))))
set_option maxHeartbeats 3200000 in
theorem partials_no (n : Int) (w : World) (h3 : n ≠ 3) (h4 : n ≠ 4) (h5 : n ≠ 5) (h7 : n ≠ 7) (h8 : n ≠ 8) (h9 : n ≠ 9) (h12 : n ≠ 12) : Calls Tryz.prog 8 #[.int .i64 n] w (Ret (.tuple #[.int .i64 0, .int .i64 0, .int .i64 18]) w) := by
  go_enter Tryz.func8, Tryz.ntmps8
  go_wp2
  refine bodyPost_ret (v := .tuple #[.int .i64 0, .int .i64 0, .int .i64 18]) (by simp [results, Tryz.results8, go_sem]) rfl (Ret.mk (by rfl) (by (repeat' (first | (with_reducible first | apply Zl1 | apply Zl2 | apply Zl3 | apply Zl4 | apply Zl5 | apply Zl6 | apply Zl7 | apply Zl8 | apply Zl9 | apply Zla | apply Zlb | apply Zlc) | (dsimp only; with_reducible first | apply Zl8 | apply Zl2 | apply Zld) | with_reducible assumption | omega | (dsimp only; omega)))))
theorem note_yes (n : Int) (w : World) (h0 : 0 ≤ n) (h1 : n ≤ 127) : Calls Tryz.prog 50 #[.int .i64 n] w (Ret (.bool true) w) := by
  go_enter Tryz.func50, Tryz.ntmps50
  go_wp2
  go_ret
  exact Ret.mk (by rfl) (by (repeat' (first | (with_reducible first | apply Zl1 | apply Zl2 | apply Zl3 | apply Zl4 | apply Zl5 | apply Zl6 | apply Zl7 | apply Zl8 | apply Zl9 | apply Zla | apply Zlb | apply Zlc) | (dsimp only; with_reducible first | apply Zl8 | apply Zl2 | apply Zld) | with_reducible assumption | omega | (dsimp only; omega))))
theorem note_no (n : Int) (w : World) (h1 : 127 < n) : Calls Tryz.prog 50 #[.int .i64 n] w (Ret (.bool false) w) := by
  have h0 : 0 ≤ n := by omega
  have h2 : decide (n ≤ 127) = false := decide_eq_false (by omega)
  go_enter Tryz.func50, Tryz.ntmps50
  go_wp2
  go_ret
  exact Ret.mk (by rfl) (by (repeat' (first | (with_reducible first | apply Zl1 | apply Zl2 | apply Zl3 | apply Zl4 | apply Zl5 | apply Zl6 | apply Zl7 | apply Zl8 | apply Zl9 | apply Zla | apply Zlb | apply Zlc) | (dsimp only; with_reducible first | apply Zl8 | apply Zl2 | apply Zld) | with_reducible assumption | omega | (dsimp only; omega))))
set_option maxHeartbeats 3200000 in
theorem bCheck_any (c : Cir) (p : Int) (w : World) (hC : chkC c = 0) (hp0 : 1 ≤ p) (hp1 : p ≤ 1000) : Calls Tryz.prog 49 #[.agg (tunA c p)] w (Ret (.int .i64 0) w) := by
  have HK := Lib.hid (fun w' => tcheck_ok c w' hC)
  clear hC
  go_enter Tryz.func49, Tryz.ntmps49
  go_wp2_with (refine wpList_ldV rfl _ rfl _ rfl c p (obj_new _ _) ?_)
  (with_reducible refine (HK.out _).mono ?_)
  rintro _ _ ⟨rfl, x, rfl⟩
  have hc := tun_cell (obj_bel x (obj_new w (.cells (tunA c p) 38)))
  go_wp2
  go_ret
  exact Ret.mk (by rfl) (by (repeat' (first | (with_reducible first | apply Zl1 | apply Zl2 | apply Zl3 | apply Zl4 | apply Zl5 | apply Zl6 | apply Zl7 | apply Zl8 | apply Zl9 | apply Zla | apply Zlb | apply Zlc) | (dsimp only; with_reducible first | apply Zl8 | apply Zl2 | apply Zld) | with_reducible assumption | omega | (dsimp only; omega))))
end Go.Proofs.YtehgeoipbgpocaaGreatDoor

namespace Go.Proofs.YtehgeoipbgpocaaGreatDoor
set_option linter.unusedVariables false
set_option linter.unusedSimpArgs false
open Go.RowKit
attribute [local go_sem low] Bel.cell Bel.frozen alloc_cell alloc_frozen
attribute [local go_sem] calmOp chainOp yieldsC grows

theorem isP_bd {m : Nat} (h : isP m) : 3 ≤ m ∧ m ≤ 12 := by unfold isP at h; omega
theorem cell2 {w : World} {b : Nat} {x0 x1 : Value} {t : TypeId} (h : w.heap[b]? = some (.cells #[x0, x1] t)) : w.cell? ⟨b, 0, none⟩ = some x0 ∧ w.cell? ⟨b, 1, none⟩ = some x1 := ⟨(made_cell h 0).1, (made_cell h 1).1⟩
set_option maxHeartbeats 3200000 in
theorem ucheck_ok (c : Cir) (p : Int) (l m B : Nat) (w : World) (hC : chkC c = 0) (hp0 : 1 ≤ p) (hp1 : p ≤ 1000) (hm : isP m) (hl : (l + m ≤ 127)) (hB : w.heap[B]? = some (.cells #[.int .i64 (l : Int), .int .i64 (m : Int)] 29)) :
    Calls Tryz.prog 45 #[.agg (tunA c p), .slice (some ⟨B, 0, none⟩) 1 1] w (Ret (.int .i64 0) w) := by
  have HCK := Lib.hid (fun w' => bCheck_any c p w' hC hp0 hp1)
  have HPA := Lib.hid (fun w' => partials_ok m hm w')
  obtain ⟨hm1, hm2⟩ := isP_bd hm
  have HN1 := Lib.hid (fun w' => note_yes (l : Int) w' (by omega) (by omega))
  have HN2 := Lib.hid (fun w' => note_yes ((l : Int) + (m : Int)) w' (by omega) (by omega))
  have hbl := obj_lt hB
  have HBO := Lib.hid hB
  have HM := Lib.hid hm
  clear hC hm hB hp0 hp1
  generalize (pI m : Int) = pp at *
  generalize (qI m : Int) = qq at *
  go_enter Tryz.func45, Tryz.ntmps45
  go_wp2_with (refine wpList_ldU rfl _ rfl _ rfl c p (obj_new _ _) ?_)
  (with_reducible refine (HCK.out _).mono ?_)
  rintro _ _ ⟨rfl, x, rfl⟩
  have hxs := x.size_le
  have HX := Lib.hid (show Below w.heap.size w x.w by (repeat' (first | (with_reducible first | apply Zl1 | apply Zl2 | apply Zl3 | apply Zl4 | apply Zl5 | apply Zl6 | apply Zl7 | apply Zl8 | apply Zl9 | apply Zla | apply Zlb | apply Zlc) | (dsimp only; with_reducible first | apply Zl8 | apply Zl2 | apply Zld) | with_reducible assumption | omega | (dsimp only; omega))))
  go_wp2_with fail
  go_loopw [18] (fun iv wr => ∃ k : Nat, (k ≤ 1) ∧ iv = .int .i64 (k : Int) ∧ Below w.heap.size w wr) (fun iv _ => 1 - (intOf iv).toNat)
  case atStart => exact ⟨0, by omega, rfl, by (repeat' (first | (with_reducible first | apply Zl1 | apply Zl2 | apply Zl3 | apply Zl4 | apply Zl5 | apply Zl6 | apply Zl7 | apply Zl8 | apply Zl9 | apply Zla | apply Zlb | apply Zlc) | (dsimp only; with_reducible first | apply Zl8 | apply Zl2 | apply Zld) | with_reducible assumption | omega | (dsimp only; omega)))⟩
  case round =>
    obtain ⟨k, hk, rfl, hB⟩ := hrel
    have hbs := hB.size
    have hob := obj_below hB hbl HBO.out
    have hol := obj_lt hob
    obtain ⟨c0, c1⟩ := cell2 hob
    clear hob
    by_cases hk1 : k = 0
    · subst hk1
      go_wp2_with fail
      (with_reducible refine (HPA.out _).mono ?_)
      rintro _ _ ⟨rfl, y, rfl⟩
      have hys := y.size_le
      go_wp2_with fail
      (with_reducible refine (HN1.out _).mono ?_)
      rintro _ _ ⟨rfl, y1, rfl⟩
      have hy1s := y1.size_le
      go_wp2_with fail
      (with_reducible refine (HN2.out _).mono ?_)
      rintro _ _ ⟨rfl, y2, rfl⟩
      have hy2s := y2.size_le
      go_wp2_with fail
      go_roundw
      case rel => exact ⟨1, by omega, rfl, by (repeat' (first | (with_reducible first | apply Zl1 | apply Zl2 | apply Zl3 | apply Zl4 | apply Zl5 | apply Zl6 | apply Zl7 | apply Zl8 | apply Zl9 | apply Zla | apply Zlb | apply Zlc) | (dsimp only; with_reducible first | apply Zl8 | apply Zl2 | apply Zld) | with_reducible assumption | omega | (dsimp only; omega)))⟩
      case measure => simp [intOf]
    · obtain rfl : k = 1 := by omega
      clear hk1 hk
      go_wp2
      go_ret
      exact Ret.mk (by rfl) (by (repeat' (first | (with_reducible first | apply Zl1 | apply Zl2 | apply Zl3 | apply Zl4 | apply Zl5 | apply Zl6 | apply Zl7 | apply Zl8 | apply Zl9 | apply Zla | apply Zlb | apply Zlc) | (dsimp only; with_reducible first | apply Zl8 | apply Zl2 | apply Zld) | with_reducible assumption | omega | (dsimp only; omega))))
set_option maxHeartbeats 3200000 in
theorem ucheck_far (c : Cir) (p : Int) (l m B : Nat) (w : World) (hC : chkC c = 0) (hp0 : 1 ≤ p) (hp1 : p ≤ 1000) (hm : isP m) (hl : (127 < l + m ∧ l ≤ 1000)) (hB : w.heap[B]? = some (.cells #[.int .i64 (l : Int), .int .i64 (m : Int)] 29)) :
    Calls Tryz.prog 45 #[.agg (tunA c p), .slice (some ⟨B, 0, none⟩) 1 1] w (Ret (.int .i64 3) w) := by
  have HCK := Lib.hid (fun w' => bCheck_any c p w' hC hp0 hp1)
  have HPA := Lib.hid (fun w' => partials_ok m hm w')
  obtain ⟨hm1, hm2⟩ := isP_bd hm
  skip
  have hbl := obj_lt hB
  have HBO := Lib.hid hB
  have HM := Lib.hid hm
  clear hC hm hB hp0 hp1
  generalize (pI m : Int) = pp at *
  generalize (qI m : Int) = qq at *
  go_enter Tryz.func45, Tryz.ntmps45
  go_wp2_with (refine wpList_ldU rfl _ rfl _ rfl c p (obj_new _ _) ?_)
  (with_reducible refine (HCK.out _).mono ?_)
  rintro _ _ ⟨rfl, x, rfl⟩
  have hxs := x.size_le
  have HX := Lib.hid (show Below w.heap.size w x.w by (repeat' (first | (with_reducible first | apply Zl1 | apply Zl2 | apply Zl3 | apply Zl4 | apply Zl5 | apply Zl6 | apply Zl7 | apply Zl8 | apply Zl9 | apply Zla | apply Zlb | apply Zlc) | (dsimp only; with_reducible first | apply Zl8 | apply Zl2 | apply Zld) | with_reducible assumption | omega | (dsimp only; omega))))
  go_wp2_with fail
  go_loopw [18] (fun iv wr => ∃ k : Nat, (k = 0) ∧ iv = .int .i64 (k : Int) ∧ Below w.heap.size w wr) (fun iv _ => 1 - (intOf iv).toNat)
  case atStart => exact ⟨0, by omega, rfl, by (repeat' (first | (with_reducible first | apply Zl1 | apply Zl2 | apply Zl3 | apply Zl4 | apply Zl5 | apply Zl6 | apply Zl7 | apply Zl8 | apply Zl9 | apply Zla | apply Zlb | apply Zlc) | (dsimp only; with_reducible first | apply Zl8 | apply Zl2 | apply Zld) | with_reducible assumption | omega | (dsimp only; omega)))⟩
  case round =>
    obtain ⟨k, hk, rfl, hB⟩ := hrel
    have hbs := hB.size
    have hob := obj_below hB hbl HBO.out
    have hol := obj_lt hob
    obtain ⟨c0, c1⟩ := cell2 hob
    clear hob
    obtain rfl : k = 0 := hk
    by_cases hl2 : l ≤ 127
    · have HN1 := Lib.hid (fun w' => note_yes (l : Int) w' (by omega) (by omega))
      have HN2 := Lib.hid (fun w' => note_no ((l : Int) + (m : Int)) w' (by omega))
      go_wp2_with fail
      (with_reducible refine (HPA.out _).mono ?_)
      rintro _ _ ⟨rfl, y, rfl⟩
      have hys := y.size_le
      go_wp2_with fail
      (with_reducible refine (HN1.out _).mono ?_)
      rintro _ _ ⟨rfl, y1, rfl⟩
      have hy1s := y1.size_le
      go_wp2_with fail
      (with_reducible refine (HN2.out _).mono ?_)
      rintro _ _ ⟨rfl, y2, rfl⟩
      have hy2s := y2.size_le
      go_wp2
      go_ret
      exact Ret.mk (by rfl) (by (repeat' (first | (with_reducible first | apply Zl1 | apply Zl2 | apply Zl3 | apply Zl4 | apply Zl5 | apply Zl6 | apply Zl7 | apply Zl8 | apply Zl9 | apply Zla | apply Zlb | apply Zlc) | (dsimp only; with_reducible first | apply Zl8 | apply Zl2 | apply Zld) | with_reducible assumption | omega | (dsimp only; omega))))
    · have HN1 := Lib.hid (fun w' => note_no (l : Int) w' (by omega))
      go_wp2_with fail
      (with_reducible refine (HPA.out _).mono ?_)
      rintro _ _ ⟨rfl, y, rfl⟩
      have hys := y.size_le
      go_wp2_with fail
      (with_reducible refine (HN1.out _).mono ?_)
      rintro _ _ ⟨rfl, y1, rfl⟩
      have hy1s := y1.size_le
      go_wp2
      go_ret
      exact Ret.mk (by rfl) (by (repeat' (first | (with_reducible first | apply Zl1 | apply Zl2 | apply Zl3 | apply Zl4 | apply Zl5 | apply Zl6 | apply Zl7 | apply Zl8 | apply Zl9 | apply Zla | apply Zlb | apply Zlc) | (dsimp only; with_reducible first | apply Zl8 | apply Zl2 | apply Zld) | with_reducible assumption | omega | (dsimp only; omega))))

/-! ### sizes -/
def szE (c : Cir) (l m : Nat) : Int := if (btM c l (l + m)).isSome = true ∧ (btM c 69 l).isSome = true ∧ (btM c 69 (l + m)).isSome = true then 0 else 4
theorem szE_0 {c : Cir} {l m : Nat} (h1 : (btM c l (l + m)).isSome = true) (h2 : (btM c 69 l).isSome = true) (h3 : (btM c 69 (l + m)).isSome = true) : szE c l m = 0 := if_pos ⟨h1, h2, h3⟩
theorem szE_1 {c : Cir} {l m : Nat} (h : btM c l (l + m) = none) : szE c l m = 4 := if_neg fun h' => by rw [h] at h'; exact Bool.noConfusion h'.1
theorem szE_2 {c : Cir} {l m : Nat} (h : btM c 69 l = none) : szE c l m = 4 := if_neg fun h' => by rw [h] at h'; exact Bool.noConfusion h'.2.1
theorem szE_3 {c : Cir} {l m : Nat} (h : btM c 69 (l + m) = none) : szE c l m = 4 := if_neg fun h' => by rw [h] at h'; exact Bool.noConfusion h'.2.2
set_option maxRecDepth 100000 in
set_option maxHeartbeats 6400000 in
theorem sizes_any (c : Cir) (p : Int) (l m B : Nat) (w : World) (hC : chkC c = 0) (hm : isP m) (hl : l + m ≤ 127) (hB : w.heap[B]? = some (.cells #[.int .i64 (l : Int), .int .i64 (m : Int)] 29)) (hT : I.Tab w) :
    Calls Tryz.prog 47 #[.agg (tunA c p), .slice (some ⟨B, 0, none⟩) 1 1] w (Ret (.int .i64 (szE c l m)) w) := by
  have HT := Lib.hid hT
  obtain ⟨hm1, hm2⟩ := isP_bd hm
  have hbl := obj_lt hB
  have HBO := Lib.hid hB
  have S0 := Lib.hid (@szE_0 c l m)
  have S1 := Lib.hid (@szE_1 c l m)
  have S2 := Lib.hid (@szE_2 c l m)
  have S3 := Lib.hid (@szE_3 c l m)
  obtain ⟨t, ht⟩ : ∃ t, l + m = t := ⟨_, rfl⟩
  have hlm : (l : Int) + (m : Int) = (t : Int) := by omega
  have h1 := Lib.hid (fun w' hT => tBetween_any c l t w' hC (by omega) (by omega) hT)
  have h2 := Lib.hid (fun w' hT => tBetween_any c 69 l w' hC (by omega) (by omega) hT)
  have h3 := Lib.hid (fun w' hT => tBetween_any c 69 t w' hC (by omega) (by omega) hT)
  rw [show ((69 : Nat) : Int) = 69 from rfl] at h2 h3
  rw [ht] at S0 S1 S3
  generalize szE c l m = E at *
  generalize btM c l t = o1 at *
  generalize btM c 69 l = o2 at *
  generalize btM c 69 t = o3 at *
  rw [show cirV c = .agg (cirA c) from rfl] at h1 h2 h3
  clear hC hm hB hT ht
  go_enter Tryz.func47, Tryz.ntmps47
  go_wp2_with fail
  go_loopw [13] (fun iv wr => ∃ k : Nat, k ≤ 1 ∧ (k = 1 → o1.isSome = true ∧ o2.isSome = true ∧ o3.isSome = true) ∧ iv = .int .i64 (k : Int) ∧ Below w.heap.size w wr ∧ wr.heap[w.heap.size]? = some (.cells (tunA c p) 38)) (fun iv _ => 1 - (intOf iv).toNat)
  case atStart => exact ⟨0, by omega, fun h => absurd h (by decide), rfl, by (repeat' (first | (with_reducible first | apply Zl1 | apply Zl2 | apply Zl3 | apply Zl4 | apply Zl5 | apply Zl6 | apply Zl7 | apply Zl8 | apply Zl9 | apply Zla | apply Zlb | apply Zlc) | (dsimp only; with_reducible first | apply Zl8 | apply Zl2 | apply Zld) | with_reducible assumption | omega | (dsimp only; omega))), obj_new _ _⟩
  case round =>
    obtain ⟨k, hk, hall, rfl, hB, hob⟩ := hrel
    have hbs := hB.size
    have hrl := obj_lt hob
    have hoi := obj_below hB hbl HBO.out
    have hoil := obj_lt hoi
    have HOB := Lib.hid hob
    have HBW := Lib.hid hB
    obtain ⟨c0, c1⟩ := cell2 hoi
    clear hob hoi
    by_cases hk1 : k = 0
    · subst hk1
      clear hall
      rw [Int.natCast_zero]
      go_wp2_with fail
      rename World => WO
      go_loopw [36] (fun iv wr' => ∃ j : Nat, j ≤ 3 ∧ (0 < j → o1.isSome = true) ∧ (1 < j → o2.isSome = true) ∧ (2 < j → o3.isSome = true) ∧ iv = .int .i64 (j : Int) ∧ Below w.heap.size w wr' ∧ wr'.heap[w.heap.size]? = some (.cells (tunA c p) 38) ∧
        wr'.heap[WO.heap.size + 1]? = some (.cells #[.int .i64 (l : Int), .int .i64 (t : Int), .int .i64 69, .int .i64 (l : Int), .int .i64 69, .int .i64 (t : Int)] 182)) (fun iv _ => 3 - (intOf iv).toNat)
      case atStart => exact ⟨0, by omega, fun h => absurd h (by decide), fun h => absurd h (by decide), fun h => absurd h (by decide), rfl, by (repeat' (first | (with_reducible first | apply Zl1 | apply Zl2 | apply Zl3 | apply Zl4 | apply Zl5 | apply Zl6 | apply Zl7 | apply Zl8 | apply Zl9 | apply Zla | apply Zlb | apply Zlc) | (dsimp only; with_reducible first | apply Zl8 | apply Zl2 | apply Zld) | with_reducible assumption | omega | (dsimp only; omega))), obj_alloc _ (obj_alloc _ HOB.out), obj_new1 _ _ _⟩
      case round =>
        obtain ⟨j, hj, a1, a2, a3, rfl, hB2, hob2, hrow⟩ := hrel
        have hbs2 := hB2.size
        have hrl2 := obj_lt hrow
        have HOB2 := Lib.hid hob2
        have HROW := Lib.hid hrow
        have HBW2 := Lib.hid hB2
        have hw0 := obj_lt hob2
        clear hob2
        by_cases hj3 : j < 3
        · obtain ⟨r0, r1, r2, r3, r4, r5⟩ := cells6 hrow
          clear hrow
          rcases (show j = 0 ∨ j = 1 ∨ j = 2 by omega) with rfl | rfl | rfl
          · clear hj hj3
            cases ho : o1 with
            | none =>
              have HE := Lib.hid (S1.out ho)
              rw [ho, oV_none] at h1
              clear ho
              go_wp2_with (refine wpList_ldV rfl _ rfl _ rfl c p (obj_alloc _ HOB2.out) ?_)
              (with_reducible refine (h1.out _ (HT.out.of (by (repeat' (first | (with_reducible first | apply Zl1 | apply Zl2 | apply Zl3 | apply Zl4 | apply Zl5 | apply Zl6 | apply Zl7 | apply Zl8 | apply Zl9 | apply Zla | apply Zlb | apply Zlc) | (dsimp only; with_reducible first | apply Zl8 | apply Zl2 | apply Zld) | with_reducible assumption | omega | (dsimp only; omega)))))).mono ?_)
              rintro _ _ ⟨rfl, x, rfl⟩
              have hxs := x.size_le
              dsimp only
              go_wp2
              go_ret
              exact Ret.mk (by exact val_i64 HE.out.symm) (by (repeat' (first | (with_reducible first | apply Zl1 | apply Zl2 | apply Zl3 | apply Zl4 | apply Zl5 | apply Zl6 | apply Zl7 | apply Zl8 | apply Zl9 | apply Zla | apply Zlb | apply Zlc) | (dsimp only; with_reducible first | apply Zl8 | apply Zl2 | apply Zld) | with_reducible assumption | omega | (dsimp only; omega))))
            | some sz =>
              have HO := Lib.hid ho
              rw [ho, oV_some] at h1
              clear ho
              go_wp2_with (refine wpList_ldV rfl _ rfl _ rfl c p (obj_alloc _ HOB2.out) ?_)
              (with_reducible refine (h1.out _ (HT.out.of (by (repeat' (first | (with_reducible first | apply Zl1 | apply Zl2 | apply Zl3 | apply Zl4 | apply Zl5 | apply Zl6 | apply Zl7 | apply Zl8 | apply Zl9 | apply Zla | apply Zlb | apply Zlc) | (dsimp only; with_reducible first | apply Zl8 | apply Zl2 | apply Zld) | with_reducible assumption | omega | (dsimp only; omega)))))).mono ?_)
              rintro _ _ ⟨rfl, x, rfl⟩
              have hxs := x.size_le
              dsimp only
              go_wp2_with fail
              go_roundw
              case rel => exact ⟨0 + 1, by omega, (fun _ => rfl), (fun h => absurd h (by decide)), (fun h => absurd h (by decide)), rfl, by (repeat' (first | (with_reducible first | apply Zl1 | apply Zl2 | apply Zl3 | apply Zl4 | apply Zl5 | apply Zl6 | apply Zl7 | apply Zl8 | apply Zl9 | apply Zla | apply Zlb | apply Zlc) | (dsimp only; with_reducible first | apply Zl8 | apply Zl2 | apply Zld) | with_reducible assumption | omega | (dsimp only; omega))), obj_alloc _ (obj_bel x (obj_alloc _ HOB2.out)), obj_alloc _ (obj_bel x (obj_alloc _ HROW.out))⟩
              case measure => simp [intOf]
          · clear hj hj3
            cases ho : o2 with
            | none =>
              have HE := Lib.hid (S2.out ho)
              rw [ho, oV_none] at h2
              clear ho
              go_wp2_with (refine wpList_ldV rfl _ rfl _ rfl c p (obj_alloc _ HOB2.out) ?_)
              (with_reducible refine (h2.out _ (HT.out.of (by (repeat' (first | (with_reducible first | apply Zl1 | apply Zl2 | apply Zl3 | apply Zl4 | apply Zl5 | apply Zl6 | apply Zl7 | apply Zl8 | apply Zl9 | apply Zla | apply Zlb | apply Zlc) | (dsimp only; with_reducible first | apply Zl8 | apply Zl2 | apply Zld) | with_reducible assumption | omega | (dsimp only; omega)))))).mono ?_)
              rintro _ _ ⟨rfl, x, rfl⟩
              have hxs := x.size_le
              dsimp only
              go_wp2
              go_ret
              exact Ret.mk (by exact val_i64 HE.out.symm) (by (repeat' (first | (with_reducible first | apply Zl1 | apply Zl2 | apply Zl3 | apply Zl4 | apply Zl5 | apply Zl6 | apply Zl7 | apply Zl8 | apply Zl9 | apply Zla | apply Zlb | apply Zlc) | (dsimp only; with_reducible first | apply Zl8 | apply Zl2 | apply Zld) | with_reducible assumption | omega | (dsimp only; omega))))
            | some sz =>
              have HO := Lib.hid ho
              rw [ho, oV_some] at h2
              clear ho
              go_wp2_with (refine wpList_ldV rfl _ rfl _ rfl c p (obj_alloc _ HOB2.out) ?_)
              (with_reducible refine (h2.out _ (HT.out.of (by (repeat' (first | (with_reducible first | apply Zl1 | apply Zl2 | apply Zl3 | apply Zl4 | apply Zl5 | apply Zl6 | apply Zl7 | apply Zl8 | apply Zl9 | apply Zla | apply Zlb | apply Zlc) | (dsimp only; with_reducible first | apply Zl8 | apply Zl2 | apply Zld) | with_reducible assumption | omega | (dsimp only; omega)))))).mono ?_)
              rintro _ _ ⟨rfl, x, rfl⟩
              have hxs := x.size_le
              dsimp only
              go_wp2_with fail
              go_roundw
              case rel => exact ⟨1 + 1, by omega, (fun _ => a1 (by decide)), (fun _ => rfl), (fun h => absurd h (by decide)), rfl, by (repeat' (first | (with_reducible first | apply Zl1 | apply Zl2 | apply Zl3 | apply Zl4 | apply Zl5 | apply Zl6 | apply Zl7 | apply Zl8 | apply Zl9 | apply Zla | apply Zlb | apply Zlc) | (dsimp only; with_reducible first | apply Zl8 | apply Zl2 | apply Zld) | with_reducible assumption | omega | (dsimp only; omega))), obj_alloc _ (obj_bel x (obj_alloc _ HOB2.out)), obj_alloc _ (obj_bel x (obj_alloc _ HROW.out))⟩
              case measure => simp [intOf]
          · clear hj hj3
            cases ho : o3 with
            | none =>
              have HE := Lib.hid (S3.out ho)
              rw [ho, oV_none] at h3
              clear ho
              go_wp2_with (refine wpList_ldV rfl _ rfl _ rfl c p (obj_alloc _ HOB2.out) ?_)
              (with_reducible refine (h3.out _ (HT.out.of (by (repeat' (first | (with_reducible first | apply Zl1 | apply Zl2 | apply Zl3 | apply Zl4 | apply Zl5 | apply Zl6 | apply Zl7 | apply Zl8 | apply Zl9 | apply Zla | apply Zlb | apply Zlc) | (dsimp only; with_reducible first | apply Zl8 | apply Zl2 | apply Zld) | with_reducible assumption | omega | (dsimp only; omega)))))).mono ?_)
              rintro _ _ ⟨rfl, x, rfl⟩
              have hxs := x.size_le
              dsimp only
              go_wp2
              go_ret
              exact Ret.mk (by exact val_i64 HE.out.symm) (by (repeat' (first | (with_reducible first | apply Zl1 | apply Zl2 | apply Zl3 | apply Zl4 | apply Zl5 | apply Zl6 | apply Zl7 | apply Zl8 | apply Zl9 | apply Zla | apply Zlb | apply Zlc) | (dsimp only; with_reducible first | apply Zl8 | apply Zl2 | apply Zld) | with_reducible assumption | omega | (dsimp only; omega))))
            | some sz =>
              have HO := Lib.hid ho
              rw [ho, oV_some] at h3
              clear ho
              go_wp2_with (refine wpList_ldV rfl _ rfl _ rfl c p (obj_alloc _ HOB2.out) ?_)
              (with_reducible refine (h3.out _ (HT.out.of (by (repeat' (first | (with_reducible first | apply Zl1 | apply Zl2 | apply Zl3 | apply Zl4 | apply Zl5 | apply Zl6 | apply Zl7 | apply Zl8 | apply Zl9 | apply Zla | apply Zlb | apply Zlc) | (dsimp only; with_reducible first | apply Zl8 | apply Zl2 | apply Zld) | with_reducible assumption | omega | (dsimp only; omega)))))).mono ?_)
              rintro _ _ ⟨rfl, x, rfl⟩
              have hxs := x.size_le
              dsimp only
              go_wp2_with fail
              go_roundw
              case rel => exact ⟨2 + 1, by omega, (fun _ => a1 (by decide)), (fun _ => a2 (by decide)), (fun _ => rfl), rfl, by (repeat' (first | (with_reducible first | apply Zl1 | apply Zl2 | apply Zl3 | apply Zl4 | apply Zl5 | apply Zl6 | apply Zl7 | apply Zl8 | apply Zl9 | apply Zla | apply Zlb | apply Zlc) | (dsimp only; with_reducible first | apply Zl8 | apply Zl2 | apply Zld) | with_reducible assumption | omega | (dsimp only; omega))), obj_alloc _ (obj_bel x (obj_alloc _ HOB2.out)), obj_alloc _ (obj_bel x (obj_alloc _ HROW.out))⟩
              case measure => simp [intOf]
        · obtain rfl : j = 3 := by omega
          have b1 := a1 (by decide)
          have b2 := a2 (by decide)
          have b3 := a3 (by decide)
          have HA := Lib.hid (And.intro b1 (And.intro b2 b3))
          clear a1 a2 a3 b1 b2 b3 hj hj3 hrow
          go_wp2_with fail
          go_roundw
          case rel => exact ⟨1, by omega, fun _ => HA.out, rfl, by (repeat' (first | (with_reducible first | apply Zl1 | apply Zl2 | apply Zl3 | apply Zl4 | apply Zl5 | apply Zl6 | apply Zl7 | apply Zl8 | apply Zl9 | apply Zla | apply Zlb | apply Zlc) | (dsimp only; with_reducible first | apply Zl8 | apply Zl2 | apply Zld) | with_reducible assumption | omega | (dsimp only; omega))), HOB2.out⟩
          case measure => simp [intOf]
    · obtain rfl : k = 1 := by omega
      obtain ⟨b1, b2, b3⟩ := hall rfl
      have HE := Lib.hid (S0.out b1 b2 b3)
      clear hk1 hk hall b1 b2 b3
      go_wp2
      go_ret
      exact Ret.mk (by exact val_i64 HE.out.symm) (by (repeat' (first | (with_reducible first | apply Zl1 | apply Zl2 | apply Zl3 | apply Zl4 | apply Zl5 | apply Zl6 | apply Zl7 | apply Zl8 | apply Zl9 | apply Zla | apply Zlb | apply Zlc) | (dsimp only; with_reducible first | apply Zl8 | apply Zl2 | apply Zld) | with_reducible assumption | omega | (dsimp only; omega))))
end Go.Proofs.YtehgeoipbgpocaaGreatDoor
