/- Sizes of intervals: the greatest common divisor of ints, as interval, temperament and beat calculate it. -/
import Derived.Test.YtehgeoipbgpocaaGreatDoorFr
namespace Go.Proofs.YtehgeoipbgpocaaGreatDoor
set_option linter.unusedVariables false
set_option linter.unusedSimpArgs false
open Go.RowKit
attribute [local go_sem low] Bel.cell Bel.frozen alloc_cell alloc_frozen

theorem val_i64 {a b : Int} (h : a = b) : Value.int .i64 a = Value.int .i64 b := by rw [h]
theorem val_bool {a b : Bool} (h : a = b) : Value.bool a = Value.bool b := by rw [h]
theorem obj_set {W : World} {b i : Nat} {vs : Array Value} {t : TypeId} (x : Value) (h : W.heap[b]? = some (.cells vs t (0, 0))) : (W.setCell ⟨b, i, none⟩ x).heap[b]? = some (.cells (vs.setIfInBounds i x) t (0, 0)) := by
  obtain ⟨hlt, hk⟩ := Array.getElem?_eq_some_iff.1 h
  show (W.heap.modify b _)[b]? = _
  rw [Array.getElem?_eq_getElem (by rw [Array.size_modify]; exact hlt), Array.getElem_modify_self, hk]
  rfl
theorem obj_ne {W : World} {b c i : Nat} {o : Obj} (x : Value) (hne : b ≠ c) (h : W.heap[b]? = some o) : (W.setCell ⟨c, i, none⟩ x).heap[b]? = some o := by
  rw [Below.heap_setCell _ _ _ _ (fun e => hne (by first | exact e | exact e.symm))]; exact h
theorem obj_alloc {W : World} {b : Nat} {o : Obj} (o' : Obj) (h : W.heap[b]? = some o) : (W.alloc o').heap[b]? = some o :=
  (Below.heap_alloc _ _ b (Array.getElem?_eq_some_iff.1 h).1).trans h
theorem obj_bel {W : World} {b : Nat} {o : Obj} (y : Bel W) (h : W.heap[b]? = some o) : y.w.heap[b]? = some o :=
  (y.below.block b (Array.getElem?_eq_some_iff.1 h).1).trans h
theorem obj_below {W W' : World} {n b : Nat} {o : Obj} (hb : Below n W W') (hn : b < n) (h : W.heap[b]? = some o) : W'.heap[b]? = some o := (hb.block b hn).trans h
theorem obj_drew {W : World} {b : Nat} {o : Obj} (h : W.heap[b]? = some o) : W.drew.heap[b]? = some o := h
theorem obj_new (w : World) (o : Obj) : (w.alloc o).heap[w.heap.size]? = some o := World.alloc_heap_new w o
theorem obj_new1 (w : World) (o o' : Obj) : ((w.alloc o).alloc o').heap[w.heap.size + 1]? = some o' := by
  have h := World.alloc_heap_new (w.alloc o) o'
  rwa [World.size_alloc] at h
theorem obj_new2 (w : World) (a b c : Obj) : (((w.alloc a).alloc b).alloc c).heap[w.heap.size + 2]? = some c := by
  have h := World.alloc_heap_new ((w.alloc a).alloc b) c
  rwa [World.size_alloc, World.size_alloc] at h
theorem obj_lt {W : World} {b : Nat} {o : Obj} (h : W.heap[b]? = some o) : b < W.heap.size := (Array.getElem?_eq_some_iff.1 h).1
theorem made_cell {w : World} {b : Nat} {cs : Array Value} {t : TypeId} (h : w.heap[b]? = some (.cells cs t)) (j : Nat) : w.cell? ⟨b, j, none⟩ = cs[j]? ∧ w.frozen? ⟨b, j, none⟩ = false := by
  constructor
  · simp [World.cell?, h]
  · simp [World.frozen?, h]
theorem cells3 {w : World} {b : Nat} {x0 x1 x2 : Value} {t : TypeId} (h : w.heap[b]? = some (.cells #[x0, x1, x2] t)) :
    w.cell? ⟨b, 0, none⟩ = some x0 ∧ w.cell? ⟨b, 1, none⟩ = some x1 ∧ w.cell? ⟨b, 2, none⟩ = some x2 := ⟨(made_cell h 0).1, (made_cell h 1).1, (made_cell h 2).1⟩
theorem froz3 {w : World} {b : Nat} {x0 x1 x2 : Value} {t : TypeId} (h : w.heap[b]? = some (.cells #[x0, x1, x2] t)) :
    w.frozen? ⟨b, 0, none⟩ = false ∧ w.frozen? ⟨b, 1, none⟩ = false ∧ w.frozen? ⟨b, 2, none⟩ = false := ⟨(made_cell h 0).2, (made_cell h 1).2, (made_cell h 2).2⟩
theorem cells6 {w : World} {b : Nat} {x0 x1 x2 x3 x4 x5 : Value} {t : TypeId} (h : w.heap[b]? = some (.cells #[x0, x1, x2, x3, x4, x5] t)) :
    w.cell? ⟨b, 0, none⟩ = some x0 ∧ w.cell? ⟨b, 1, none⟩ = some x1 ∧ w.cell? ⟨b, 2, none⟩ = some x2 ∧ w.cell? ⟨b, 3, none⟩ = some x3 ∧ w.cell? ⟨b, 4, none⟩ = some x4 ∧ w.cell? ⟨b, 5, none⟩ = some x5 :=
  ⟨(made_cell h 0).1, (made_cell h 1).1, (made_cell h 2).1, (made_cell h 3).1, (made_cell h 4).1, (made_cell h 5).1⟩
theorem froz6 {w : World} {b : Nat} {x0 x1 x2 x3 x4 x5 : Value} {t : TypeId} (h : w.heap[b]? = some (.cells #[x0, x1, x2, x3, x4, x5] t)) :
    w.frozen? ⟨b, 0, none⟩ = false ∧ w.frozen? ⟨b, 1, none⟩ = false ∧ w.frozen? ⟨b, 2, none⟩ = false ∧ w.frozen? ⟨b, 3, none⟩ = false ∧ w.frozen? ⟨b, 4, none⟩ = false ∧ w.frozen? ⟨b, 5, none⟩ = false :=
  ⟨(made_cell h 0).2, (made_cell h 1).2, (made_cell h 2).2, (made_cell h 3).2, (made_cell h 4).2, (made_cell h 5).2⟩
theorem gcd_tmod (m n : Int) : Int.gcd n (Int.tmod m n) = Int.gcd m n := by
  rw [Int.gcd_eq_natAbs_gcd_natAbs, Int.gcd_eq_natAbs_gcd_natAbs, Int.natAbs_tmod, Nat.gcd_comm n.natAbs, ← Nat.gcd_rec, Nat.gcd_comm]
theorem gcd_emod (m n : Int) (hm : 0 ≤ m) (hn : 0 < n) : Int.gcd n (m % n) = Int.gcd m n := by
  rw [← gcd_tmod m n, Int.tmod_eq_emod_of_nonneg hm]

set_option maxHeartbeats 800000 in
theorem igcd_any (a b : Int) (w : World) (ha0 : -4611686018427387904 ≤ a) (ha : a ≤ 4611686018427387904) (hb0 : -4611686018427387904 ≤ b) (hb : b ≤ 4611686018427387904) :
    Calls Tryz.prog 88 #[.int .i64 a, .int .i64 b] w (Ret (.int .i64 (Int.gcd a b : Int)) w) := by
  go_enter Tryz.func88, Tryz.ntmps88
  go_wp2
  go_loopw [0, 1] (fun x y wr => ∃ m n : Int, -4611686018427387904 ≤ m ∧ m ≤ 4611686018427387904 ∧ -4611686018427387904 ≤ n ∧ n ≤ 4611686018427387904 ∧ Int.gcd m n = Int.gcd a b ∧ x = .int .i64 m ∧ y = .int .i64 n ∧ Below w.heap.size w wr) (fun _ y _ => (intOf y).natAbs)
  case atStart => exact ⟨a, b, ha0, ha, hb0, hb, rfl, rfl, rfl, by (repeat' (first | (with_reducible first | apply Zl1 | apply Zl2 | apply Zl3 | apply Zl4 | apply Zl5 | apply Zl6 | apply Zl7 | apply Zl8 | apply Zl9 | apply Zla | apply Zlb | apply Zlc) | (dsimp only; with_reducible first | apply Zl8 | apply Zl2 | apply Zld) | with_reducible assumption | omega | (dsimp only; omega)))⟩
  case round =>
    obtain ⟨m, n, hm0, hm, hn0, hn, hg, rfl, rfl, hB⟩ := hrel
    have HG := Lib.hid hg
    have hbs := hB.size
    clear hg
    by_cases hz : n = 0
    · subst hz
      go_wp2
      · go_ret
        exact Ret.mk (by exact val_i64 (by have := HG.out; rw [Int.gcd_zero_right] at this; omega)) (by (repeat' (first | (with_reducible first | apply Zl1 | apply Zl2 | apply Zl3 | apply Zl4 | apply Zl5 | apply Zl6 | apply Zl7 | apply Zl8 | apply Zl9 | apply Zla | apply Zlb | apply Zlc) | (dsimp only; with_reducible first | apply Zl8 | apply Zl2 | apply Zld) | with_reducible assumption | omega | (dsimp only; omega))))
      · go_ret
        exact Ret.mk (by exact val_i64 (by have := HG.out; rw [Int.gcd_zero_right] at this; omega)) (by (repeat' (first | (with_reducible first | apply Zl1 | apply Zl2 | apply Zl3 | apply Zl4 | apply Zl5 | apply Zl6 | apply Zl7 | apply Zl8 | apply Zl9 | apply Zla | apply Zlb | apply Zlc) | (dsimp only; with_reducible first | apply Zl8 | apply Zl2 | apply Zld) | with_reducible assumption | omega | (dsimp only; omega))))
    · have e0 : (n != 0) = true := by rw [bne_iff_ne]; exact hz
      have hn1 : n ≠ 0 := hz
      have hr := Int.natAbs_tmod m n
      have hl := Nat.mod_lt m.natAbs (show 0 < n.natAbs by omega)
      clear hz
      go_wp2_with fail
      refine wp_region_bel (by kernel_rfl) (by kernel_rfl) ?_
      repeat (go_big_quiet_step (fail))
      refine wpQuiet_nil ?_
      rintro _ ⟨x1, rfl⟩
      go_wp2
      go_roundw
      case rel =>
        exact ⟨n, Int.tmod m n, hn0, hn, by omega, by omega, by rw [gcd_tmod]; exact HG.out, rfl, rfl, by (repeat' (first | (with_reducible first | apply Zl1 | apply Zl2 | apply Zl3 | apply Zl4 | apply Zl5 | apply Zl6 | apply Zl7 | apply Zl8 | apply Zl9 | apply Zla | apply Zlb | apply Zlc) | (dsimp only; with_reducible first | apply Zl8 | apply Zl2 | apply Zld) | with_reducible assumption | omega | (dsimp only; omega)))⟩
      case measure =>
        simp only [intOf]
        omega
set_option maxHeartbeats 800000 in
theorem rgcd_any (a b : Int) (w : World) (ha0 : -4611686018427387904 ≤ a) (ha : a ≤ 4611686018427387904) (hb0 : -4611686018427387904 ≤ b) (hb : b ≤ 4611686018427387904) :
    Calls Tryz.prog 200 #[.int .i64 a, .int .i64 b] w (Ret (.int .i64 (Int.gcd a b : Int)) w) := by
  go_enter Tryz.func200, Tryz.ntmps200
  go_wp2
  go_loopw [0, 1] (fun x y wr => ∃ m n : Int, -4611686018427387904 ≤ m ∧ m ≤ 4611686018427387904 ∧ -4611686018427387904 ≤ n ∧ n ≤ 4611686018427387904 ∧ Int.gcd m n = Int.gcd a b ∧ x = .int .i64 m ∧ y = .int .i64 n ∧ Below w.heap.size w wr) (fun _ y _ => (intOf y).natAbs)
  case atStart => exact ⟨a, b, ha0, ha, hb0, hb, rfl, rfl, rfl, by (repeat' (first | (with_reducible first | apply Zl1 | apply Zl2 | apply Zl3 | apply Zl4 | apply Zl5 | apply Zl6 | apply Zl7 | apply Zl8 | apply Zl9 | apply Zla | apply Zlb | apply Zlc) | (dsimp only; with_reducible first | apply Zl8 | apply Zl2 | apply Zld) | with_reducible assumption | omega | (dsimp only; omega)))⟩
  case round =>
    obtain ⟨m, n, hm0, hm, hn0, hn, hg, rfl, rfl, hB⟩ := hrel
    have HG := Lib.hid hg
    have hbs := hB.size
    clear hg
    by_cases hz : n = 0
    · subst hz
      go_wp2
      · go_ret
        exact Ret.mk (by exact val_i64 (by have := HG.out; rw [Int.gcd_zero_right] at this; omega)) (by (repeat' (first | (with_reducible first | apply Zl1 | apply Zl2 | apply Zl3 | apply Zl4 | apply Zl5 | apply Zl6 | apply Zl7 | apply Zl8 | apply Zl9 | apply Zla | apply Zlb | apply Zlc) | (dsimp only; with_reducible first | apply Zl8 | apply Zl2 | apply Zld) | with_reducible assumption | omega | (dsimp only; omega))))
      · go_ret
        exact Ret.mk (by exact val_i64 (by have := HG.out; rw [Int.gcd_zero_right] at this; omega)) (by (repeat' (first | (with_reducible first | apply Zl1 | apply Zl2 | apply Zl3 | apply Zl4 | apply Zl5 | apply Zl6 | apply Zl7 | apply Zl8 | apply Zl9 | apply Zla | apply Zlb | apply Zlc) | (dsimp only; with_reducible first | apply Zl8 | apply Zl2 | apply Zld) | with_reducible assumption | omega | (dsimp only; omega))))
    · have e0 : (n != 0) = true := by rw [bne_iff_ne]; exact hz
      have hn1 : n ≠ 0 := hz
      have hr := Int.natAbs_tmod m n
      have hl := Nat.mod_lt m.natAbs (show 0 < n.natAbs by omega)
      clear hz
      go_wp2_with fail
      refine wp_region_bel (by kernel_rfl) (by kernel_rfl) ?_
      repeat (go_big_quiet_step (fail))
      refine wpQuiet_nil ?_
      rintro _ ⟨x1, rfl⟩
      go_wp2
      go_roundw
      case rel =>
        exact ⟨n, Int.tmod m n, hn0, hn, by omega, by omega, by rw [gcd_tmod]; exact HG.out, rfl, rfl, by (repeat' (first | (with_reducible first | apply Zl1 | apply Zl2 | apply Zl3 | apply Zl4 | apply Zl5 | apply Zl6 | apply Zl7 | apply Zl8 | apply Zl9 | apply Zla | apply Zlb | apply Zlc) | (dsimp only; with_reducible first | apply Zl8 | apply Zl2 | apply Zld) | with_reducible assumption | omega | (dsimp only; omega)))⟩
      case measure =>
        simp only [intOf]
        omega
set_option maxHeartbeats 800000 in
theorem tgcd_any (a b : Int) (w : World) (ha0 : 0 ≤ a) (ha : a ≤ 4611686018427387904) (hb0 : 0 ≤ b) (hb : b ≤ 4611686018427387904) :
    Calls Tryz.prog 35 #[.int .i64 a, .int .i64 b] w (Ret (.int .i64 (Int.gcd a b : Int)) w) := by
  go_enter Tryz.func35, Tryz.ntmps35
  go_wp2
  go_loopw [0, 1] (fun x y wr => ∃ m n : Int, 0 ≤ m ∧ m ≤ 4611686018427387904 ∧ 0 ≤ n ∧ n ≤ 4611686018427387904 ∧ Int.gcd m n = Int.gcd a b ∧ x = .int .i64 m ∧ y = .int .i64 n ∧ Below w.heap.size w wr) (fun _ y _ => (intOf y).natAbs)
  case atStart => exact ⟨a, b, ha0, ha, hb0, hb, rfl, rfl, rfl, by (repeat' (first | (with_reducible first | apply Zl1 | apply Zl2 | apply Zl3 | apply Zl4 | apply Zl5 | apply Zl6 | apply Zl7 | apply Zl8 | apply Zl9 | apply Zla | apply Zlb | apply Zlc) | (dsimp only; with_reducible first | apply Zl8 | apply Zl2 | apply Zld) | with_reducible assumption | omega | (dsimp only; omega)))⟩
  case round =>
    obtain ⟨m, n, hm0, hm, hn0, hn, hg, rfl, rfl, hB⟩ := hrel
    have HG := Lib.hid hg
    have hbs := hB.size
    clear hg
    by_cases hz : n = 0
    · subst hz
      go_wp2
      go_ret
      exact Ret.mk (by exact val_i64 (by have := HG.out; rw [Int.gcd_zero_right] at this; omega)) (by (repeat' (first | (with_reducible first | apply Zl1 | apply Zl2 | apply Zl3 | apply Zl4 | apply Zl5 | apply Zl6 | apply Zl7 | apply Zl8 | apply Zl9 | apply Zla | apply Zlb | apply Zlc) | (dsimp only; with_reducible first | apply Zl8 | apply Zl2 | apply Zld) | with_reducible assumption | omega | (dsimp only; omega))))
    · have e0 : (n != 0) = true := by rw [bne_iff_ne]; exact hz
      have hn1 : 0 < n := by omega
      have hl := Int.emod_lt_of_pos m hn1
      have hl0 := Int.emod_nonneg m (show n ≠ 0 by omega)
      clear hz
      go_wp2_with fail
      refine wp_region_bel (by kernel_rfl) (by kernel_rfl) ?_
      repeat (go_big_quiet_step (fail))
      refine wpQuiet_nil ?_
      rintro _ ⟨x1, rfl⟩
      go_wp2
      go_roundw
      case rel =>
        exact ⟨n, m % n, hn0, hn, by omega, by omega, by rw [gcd_emod m n hm0 hn1]; exact HG.out, rfl, rfl, by (repeat' (first | (with_reducible first | apply Zl1 | apply Zl2 | apply Zl3 | apply Zl4 | apply Zl5 | apply Zl6 | apply Zl7 | apply Zl8 | apply Zl9 | apply Zla | apply Zlb | apply Zlc) | (dsimp only; with_reducible first | apply Zl8 | apply Zl2 | apply Zld) | with_reducible assumption | omega | (dsimp only; omega)))⟩
      case measure =>
        simp only [intOf]
        omega
set_option maxHeartbeats 800000 in
theorem bgcd_any (a b : Int) (w : World) (ha0 : 0 ≤ a) (ha : a ≤ 4611686018427387904) (hb0 : 0 ≤ b) (hb : b ≤ 4611686018427387904) :
    Calls Tryz.prog 218 #[.int .i64 a, .int .i64 b] w (Ret (.int .i64 (Int.gcd a b : Int)) w) := by
  go_enter Tryz.func218, Tryz.ntmps218
  go_wp2
  go_loopw [0, 1] (fun x y wr => ∃ m n : Int, 0 ≤ m ∧ m ≤ 4611686018427387904 ∧ 0 ≤ n ∧ n ≤ 4611686018427387904 ∧ Int.gcd m n = Int.gcd a b ∧ x = .int .i64 m ∧ y = .int .i64 n ∧ Below w.heap.size w wr) (fun _ y _ => (intOf y).natAbs)
  case atStart => exact ⟨a, b, ha0, ha, hb0, hb, rfl, rfl, rfl, by (repeat' (first | (with_reducible first | apply Zl1 | apply Zl2 | apply Zl3 | apply Zl4 | apply Zl5 | apply Zl6 | apply Zl7 | apply Zl8 | apply Zl9 | apply Zla | apply Zlb | apply Zlc) | (dsimp only; with_reducible first | apply Zl8 | apply Zl2 | apply Zld) | with_reducible assumption | omega | (dsimp only; omega)))⟩
  case round =>
    obtain ⟨m, n, hm0, hm, hn0, hn, hg, rfl, rfl, hB⟩ := hrel
    have HG := Lib.hid hg
    have hbs := hB.size
    clear hg
    by_cases hz : n = 0
    · subst hz
      go_wp2
      go_ret
      exact Ret.mk (by exact val_i64 (by have := HG.out; rw [Int.gcd_zero_right] at this; omega)) (by (repeat' (first | (with_reducible first | apply Zl1 | apply Zl2 | apply Zl3 | apply Zl4 | apply Zl5 | apply Zl6 | apply Zl7 | apply Zl8 | apply Zl9 | apply Zla | apply Zlb | apply Zlc) | (dsimp only; with_reducible first | apply Zl8 | apply Zl2 | apply Zld) | with_reducible assumption | omega | (dsimp only; omega))))
    · have e0 : (n != 0) = true := by rw [bne_iff_ne]; exact hz
      have hn1 : 0 < n := by omega
      have hl := Int.emod_lt_of_pos m hn1
      have hl0 := Int.emod_nonneg m (show n ≠ 0 by omega)
      clear hz
      go_wp2_with fail
      refine wp_region_bel (by kernel_rfl) (by kernel_rfl) ?_
      repeat (go_big_quiet_step (fail))
      refine wpQuiet_nil ?_
      rintro _ ⟨x1, rfl⟩
      go_wp2
      go_roundw
      case rel =>
        exact ⟨n, m % n, hn0, hn, by omega, by omega, by rw [gcd_emod m n hm0 hn1]; exact HG.out, rfl, rfl, by (repeat' (first | (with_reducible first | apply Zl1 | apply Zl2 | apply Zl3 | apply Zl4 | apply Zl5 | apply Zl6 | apply Zl7 | apply Zl8 | apply Zl9 | apply Zla | apply Zlb | apply Zlc) | (dsimp only; with_reducible first | apply Zl8 | apply Zl2 | apply Zld) | with_reducible assumption | omega | (dsimp only; omega)))⟩
      case measure =>
        simp only [intOf]
        omega
end Go.Proofs.YtehgeoipbgpocaaGreatDoor
