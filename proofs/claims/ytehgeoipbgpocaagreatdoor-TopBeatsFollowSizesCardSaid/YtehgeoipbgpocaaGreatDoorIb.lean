/- Sizes of intervals: exponents over one denominator. -/
import Derived.Test.YtehgeoipbgpocaaGreatDoorIa
namespace Go.Proofs.YtehgeoipbgpocaaGreatDoor
set_option linter.unusedVariables false
set_option linter.unusedSimpArgs false
open Go.RowKit
attribute [local go_sem low] Bel.cell Bel.frozen alloc_cell alloc_frozen

/-- A fraction, and a size by its three exponents. -/
structure Q where
  n : Int
  d : Int
deriving DecidableEq
structure Sz where
  a : Q
  b : Q
  c : Q
deriving DecidableEq
def Q.V (q : Q) : Value := .agg #[.int .i64 q.n, .int .i64 q.d]
def Sz.V (s : Sz) : Value := .agg #[.int .i64 s.a.n, .int .i64 s.a.d, .int .i64 s.b.n, .int .i64 s.b.d, .int .i64 s.c.n, .int .i64 s.c.d]
def Sz.q (s : Sz) (k : Nat) : Q := if k = 0 then s.a else if k = 1 then s.b else s.c
def lcI (a b : Int) : Int := a / (Int.gcd a b : Int) * b
def Sz.dn (s : Sz) : Nat → Int
  | 0 => 1
  | k + 1 => lcI (s.dn k) (s.q k).d
def Sz.den (s : Sz) : Int := s.dn 3
def Sz.e (s : Sz) (k : Nat) : Int := (s.q k).n * (s.den / (s.q k).d)
def Q.rt (q : Q) : Bool := F.right q.n q.d
def Sz.rt (s : Sz) : Bool := s.a.rt && s.b.rt && s.c.rt
def Sz.fit (s : Sz) : Bool := decide (s.den ≤ 240) && decide (∀ k : Nat, k < 3 → -6000 ≤ s.e k ∧ s.e k ≤ 6000)
def Sz.ok (s : Sz) : Bool := s.rt && s.fit

theorem rt_spec {q : Q} (h : q.rt = true) : 1 ≤ q.d ∧ q.d ≤ 1000000 ∧ -1000000 ≤ q.n ∧ q.n ≤ 1000000 ∧ Int.gcd q.n q.d = 1 := F.right_spec h
theorem Sz.rt_q {s : Sz} (h : s.rt = true) (k : Nat) : (s.q k).rt = true := by
  unfold Sz.rt at h
  simp only [Bool.and_eq_true] at h
  unfold Sz.q
  split
  · exact h.1.1
  · split
    · exact h.1.2
    · exact h.2
theorem lcI_spec {a b : Int} (ha : 1 ≤ a) (hb : 1 ≤ b) : a ≤ lcI a b ∧ b ≤ lcI a b ∧ a ∣ lcI a b ∧ b ∣ lcI a b ∧ 1 ≤ a / (Int.gcd a b : Int) := by
  have hg : 0 < Int.gcd a b := Int.gcd_pos_of_ne_zero_left _ (by omega)
  obtain ⟨x, hx⟩ := Int.gcd_dvd_left (a := a) (b := b)
  obtain ⟨y, hy⟩ := Int.gcd_dvd_right (a := a) (b := b)
  have e : lcI a b = x * b := by
    unfold lcI
    rw [show a / (Int.gcd a b : Int) = x by rw [Int.ediv_eq_of_eq_mul_right (by omega) hx]]
  have e0 : a / (Int.gcd a b : Int) = x := by rw [Int.ediv_eq_of_eq_mul_right (by omega) hx]
  have hx0 : 0 < x := Int.lt_of_mul_lt_mul_left (a := (Int.gcd a b : Int)) (by rw [Int.mul_zero, ← hx]; omega) (by omega)
  have hy0 : 0 < y := Int.lt_of_mul_lt_mul_left (a := (Int.gcd a b : Int)) (by rw [Int.mul_zero, ← hy]; omega) (by omega)
  refine ⟨?_, ?_, ?_, ?_, by omega⟩
  · rw [e]
    have h1 : a * 1 ≤ a * y := Int.mul_le_mul_of_nonneg_left (by omega) (by omega)
    have h2 : a * y = x * b := by
      conv => lhs; rw [hx]
      conv => rhs; rw [hy]
      grind
    omega
  · rw [e]
    have := Int.mul_le_mul_of_nonneg_right (show 1 ≤ x by omega) (show 0 ≤ b by omega)
    omega
  · rw [e]
    refine ⟨y, ?_⟩
    conv => rhs; rw [hx]
    conv => lhs; rw [hy]
    grind
  · rw [e]; exact ⟨x, Int.mul_comm _ _⟩
theorem Sz.dn_pos {s : Sz} (h : s.rt = true) : ∀ k, 1 ≤ s.dn k
  | 0 => Int.le_refl 1
  | k + 1 => Int.le_trans (Sz.dn_pos h k) (lcI_spec (Sz.dn_pos h k) (rt_spec (s.rt_q h k)).1).1
theorem Sz.dn_le {s : Sz} (h : s.rt = true) (k : Nat) : s.dn k ≤ s.dn (k + 1) := (lcI_spec (Sz.dn_pos h k) (rt_spec (s.rt_q h k)).1).1
theorem Sz.d_le {s : Sz} (h : s.rt = true) (k : Nat) : (s.q k).d ≤ s.dn (k + 1) := (lcI_spec (Sz.dn_pos h k) (rt_spec (s.rt_q h k)).1).2.1
theorem Sz.dn_den {s : Sz} (h : s.rt = true) {k : Nat} (hk : k ≤ 3) : s.dn k ≤ s.den := by
  have h0 : s.dn 0 ≤ s.dn 1 := s.dn_le h 0
  have h1 : s.dn 1 ≤ s.dn 2 := s.dn_le h 1
  have h2 : s.dn 2 ≤ s.dn 3 := s.dn_le h 2
  unfold Sz.den
  rcases (show k = 0 ∨ k = 1 ∨ k = 2 ∨ k = 3 by omega) with rfl | rfl | rfl | rfl <;> omega
theorem Sz.d_den {s : Sz} (h : s.rt = true) {k : Nat} (hk : k < 3) : (s.q k).d ≤ s.den := Int.le_trans (s.d_le h k) (s.dn_den h (by omega))
theorem Sz.fit_spec {s : Sz} (h : s.fit = true) : s.den ≤ 240 ∧ ∀ k, k < 3 → -6000 ≤ s.e k ∧ s.e k ≤ 6000 := by
  unfold Sz.fit at h
  rw [Bool.and_eq_true] at h
  exact ⟨of_decide_eq_true h.1, of_decide_eq_true h.2⟩
theorem Sz.fit_no {s : Sz} (h : s.fit = false) : 240 < s.den ∨ ∃ k, k < 3 ∧ ¬ (-6000 ≤ s.e k ∧ s.e k ≤ 6000) := by
  unfold Sz.fit at h
  rw [Bool.and_eq_false_iff] at h
  rcases h with h | h
  · have h := of_decide_eq_false h
    exact .inl (by omega)
  · have h := of_decide_eq_false h
    exact .inr (by
      rcases Decidable.em (-6000 ≤ s.e 0 ∧ s.e 0 ≤ 6000) with h0 | h0
      · rcases Decidable.em (-6000 ≤ s.e 1 ∧ s.e 1 ≤ 6000) with h1 | h1
        · refine ⟨2, by decide, fun h2 => h fun k hk => ?_⟩
          rcases (show k = 0 ∨ k = 1 ∨ k = 2 by omega) with rfl | rfl | rfl
          · exact h0
          · exact h1
          · exact h2
        · exact ⟨1, by decide, h1⟩
      · exact ⟨0, by decide, h0⟩)
/-- The value of the array at an index. -/
theorem idx3 (s : Sz) (T : TypeId) (hT : ∀ w, (Instr.index T s.V (.int .i64 0)).run Tryz.prog w = .ok s.a.V w ∧ (Instr.index T s.V (.int .i64 1)).run Tryz.prog w = .ok s.b.V w ∧ (Instr.index T s.V (.int .i64 2)).run Tryz.prog w = .ok s.c.V w)
    (k : Nat) (hk : k < 3) (w : World) : (Instr.index T s.V (.int .i64 (k : Int))).run Tryz.prog w = .ok (.agg #[.int .i64 (s.q k).n, .int .i64 (s.q k).d]) w := by
  rcases (show k = 0 ∨ k = 1 ∨ k = 2 by omega) with rfl | rfl | rfl
  · exact (hT w).1
  · exact (hT w).2.1
  · exact (hT w).2.2

set_option maxHeartbeats 1600000 in
theorem parts_ok (s : Sz) (w : World) (hr : s.rt = true) (hf : s.fit = true) :
    Calls Tryz.prog 43 #[s.V] w (Ret (.tuple #[.agg #[.int .i64 (s.e 0), .int .i64 (s.e 1), .int .i64 (s.e 2)], .int .i64 s.den, .bool true]) w) := by
  have HI := Lib.hid (idx3 s 170 (fun w => ⟨by kernel_rfl, by kernel_rfl, by kernel_rfl⟩))
  have HR := Lib.hid hr
  have HF := Lib.hid (s.fit_spec hf)
  clear hr hf
  have hV : s.V = .agg #[.int .i64 s.a.n, .int .i64 s.a.d, .int .i64 s.b.n, .int .i64 s.b.d, .int .i64 s.c.n, .int .i64 s.c.d] := rfl
  rw [hV] at HI ⊢
  clear hV
  have HD := Lib.hid (fun k => s.dn_pos HR.out k)
  have HL := Lib.hid (fun (k : Nat) (hk : k < 3) => (⟨rt_spec (s.rt_q HR.out k), Int.le_trans (s.d_den HR.out hk) HF.out.1, Int.le_trans (s.dn_den HR.out (show k ≤ 3 by omega)) HF.out.1, Int.le_trans (s.dn_den HR.out (show k + 1 ≤ 3 by omega)) HF.out.1, (lcI_spec (HD.out k) (rt_spec (s.rt_q HR.out k)).1).2.2.2.2⟩ : (_ ∧ _) ∧ _ ∧ _ ∧ _ ∧ _))
  have h0 : s.dn 0 = 1 := rfl
  go_enter Tryz.func43, Tryz.ntmps43
  go_wp2
  go_loopw [3, 18] (fun x y wr => ∃ k : Nat, k ≤ 3 ∧ x = .int .i64 (s.dn k) ∧ y = .int .i64 (k : Int) ∧ Below w.heap.size w wr ∧ wr.heap[w.heap.size + 1]? = some (.cells #[.int .i64 0, .int .i64 0, .int .i64 0] 116) ∧ wr.heap[w.heap.size + 1 + 1]? = some (.cells #[.int .i64 s.a.n, .int .i64 s.a.d, .int .i64 s.b.n, .int .i64 s.b.d, .int .i64 s.c.n, .int .i64 s.c.d] 170)) (fun _ y _ => 3 - (intOf y).toNat)
  case atStart => exact ⟨0, by omega, by rw [h0], rfl, by (repeat' (first | (with_reducible first | apply Zl1 | apply Zl2 | apply Zl3 | apply Zl4 | apply Zl5 | apply Zl6 | apply Zl7 | apply Zl8 | apply Zl9 | apply Zla | apply Zlb | apply Zlc) | (dsimp only; with_reducible first | apply Zl8 | apply Zl2 | apply Zld) | with_reducible assumption | omega | (dsimp only; omega))), obj_alloc _ (obj_new1 _ _ _), obj_new2 _ _ _ _⟩
  case round =>
    obtain ⟨k, hk, rfl, rfl, hB, ho1, ho2⟩ := hrel
    have hbs := hB.size
    have hs2 := obj_lt ho2
    have HO1 := Lib.hid ho1
    have HO2 := Lib.hid ho2
    clear ho1 ho2 h0
    by_cases hk3 : k < 3
    · have hki : (k : Int) < 3 := by omega
      have hix := HI.out k hk3
      obtain ⟨⟨q1, q2, q3, q4, _⟩, l1, l2, l3, l4⟩ := HL.out k hk3
      have p1 := HD.out k
      have p2 := HD.out (k + 1)
      have hn : s.dn (k + 1) = s.dn k / (Int.gcd (s.dn k) (s.q k).d : Int) * (s.q k).d := rfl
      have hg0 : 0 < (Int.gcd (s.dn k) (s.q k).d : Int) := by have := Int.gcd_pos_of_ne_zero_left (s.q k).d (show s.dn k ≠ 0 by omega); omega
      generalize (s.q k).d = d at *
      generalize s.dn k = D at *
      generalize hEq : s.dn (k + 1) = E at *
      have HQ := Lib.hid hEq
      clear hEq
      go_wp2_with fail
      refine wp_region_bel (by kernel_rfl) (by kernel_rfl) ?_
      repeat (go_big_quiet_step ((go_at_call 88; exact bel_of (igcd_any _ _ _ (by omega) (by omega) (by omega) (by omega)))))
      refine wpQuiet_nil ?_
      rintro _ ⟨z, rfl⟩
      rw [← hn]
      have hE : E ≤ 240 := l3
      clear hn
      go_wp2
      go_roundw
      case rel =>
        exact ⟨k + 1, by omega, by rw [HQ.out], by go_num, by (repeat' (first | (with_reducible first | apply Zl1 | apply Zl2 | apply Zl3 | apply Zl4 | apply Zl5 | apply Zl6 | apply Zl7 | apply Zl8 | apply Zl9 | apply Zla | apply Zlb | apply Zlc) | (dsimp only; with_reducible first | apply Zl8 | apply Zl2 | apply Zld) | with_reducible assumption | omega | (dsimp only; omega))), obj_bel _ (obj_alloc _ HO1.out), obj_bel _ (obj_alloc _ HO2.out)⟩
      case measure =>
        simp only [intOf]
        omega
    · obtain rfl : k = 3 := by omega
      clear hk3 hk
      have HP := Lib.hid (fun k (hk : k < 3) => (⟨rt_spec (s.rt_q HR.out k), Int.le_trans (Sz.d_den HR.out hk) HF.out.1, HF.out.2 k hk⟩ : (_ ∧ _) ∧ _ ∧ _))
      have hd1 := HF.out.1
      have hd0 : 1 ≤ s.den := HD.out 3
      have hw1 := obj_lt HO1.out
      rw [show s.dn 3 = s.den from rfl]
      have HE := Lib.hid (fun k => (rfl : (s.q k).n * (s.den / (s.q k).d) = s.e k))
      obtain ⟨g0, g1, g2, g3, g4, g5⟩ := cells6 HO2.out
      go_wp2_with fail
      go_loopw [3, 39] (fun x y wr' => ∃ k : Nat, k ≤ 3 ∧ x = .int .i64 s.den ∧ y = .int .i64 (k : Int) ∧ Below w.heap.size w wr' ∧ wr'.heap[w.heap.size + 1]? = some (.cells #[.int .i64 (if 0 < k then s.e 0 else 0), .int .i64 (if 1 < k then s.e 1 else 0), .int .i64 (if 2 < k then s.e 2 else 0)] 116)) (fun _ y _ => 3 - (intOf y).toNat)
      case atStart => exact ⟨0, by omega, rfl, rfl, by (repeat' (first | (with_reducible first | apply Zl1 | apply Zl2 | apply Zl3 | apply Zl4 | apply Zl5 | apply Zl6 | apply Zl7 | apply Zl8 | apply Zl9 | apply Zla | apply Zlb | apply Zlc) | (dsimp only; with_reducible first | apply Zl8 | apply Zl2 | apply Zld) | with_reducible assumption | omega | (dsimp only; omega))), HO1.out⟩
      case round =>
        obtain ⟨k, hk, rfl, rfl, hB2, ho⟩ := hrel
        have hbs2 := hB2.size
        have hw2 := obj_lt ho
        by_cases hk3 : k < 3
        · have hki : (k : Int) < 3 := by omega
          rcases (show k = 0 ∨ k = 1 ∨ k = 2 by omega) with rfl | rfl | rfl
          · have hix : ∀ w : World, (Instr.index 170 (.agg #[.int .i64 s.a.n, .int .i64 s.a.d, .int .i64 s.b.n, .int .i64 s.b.d, .int .i64 s.c.n, .int .i64 s.c.d]) (.int .i64 0)).run Tryz.prog w = .ok (.agg #[.int .i64 (s.a).n, .int .i64 (s.a).d]) w := HI.out 0 (by decide)
            obtain ⟨⟨q1, q2, q3, q4, _⟩, l1, l2, l3⟩ : (1 ≤ (s.a).d ∧ (s.a).d ≤ 1000000 ∧ -1000000 ≤ (s.a).n ∧ (s.a).n ≤ 1000000 ∧ _) ∧ (s.a).d ≤ 240 ∧ -6000 ≤ s.e 0 ∧ s.e 0 ≤ 6000 := HP.out 0 (by decide)
            have he : (s.a).n * (s.den / (s.a).d) = s.e 0 := rfl
            have HO := Lib.hid ho
            generalize s.e 0 = ee at *
            clear hk3 hk
            go_wp2_with fail
            refine wp_region_belT 9 (by kernel_rfl) (by kernel_rfl) ?_
            simp only [List.take_succ_cons, List.take_zero, List.drop_succ_cons, List.drop_zero]
            repeat (go_big_quiet_step (fail))
            refine wpQuiet_nil ?_
            rintro _ ⟨z, rfl⟩
            have hzs := z.size_le
            have HZ := Lib.hid (obj_bel z (obj_alloc _ HO.out))
            obtain ⟨f0, f1, f2⟩ := froz3 HZ.out
            obtain ⟨e0, e1, e2⟩ := cells3 HZ.out
            go_wp2_with fail
            go_roundw
            case rel => exact ⟨0 + 1, by omega, rfl, rfl, by (repeat' (first | (with_reducible first | apply Zl1 | apply Zl2 | apply Zl3 | apply Zl4 | apply Zl5 | apply Zl6 | apply Zl7 | apply Zl8 | apply Zl9 | apply Zla | apply Zlb | apply Zlc) | (dsimp only; with_reducible first | apply Zl8 | apply Zl2 | apply Zld) | with_reducible assumption | omega | (dsimp only; omega))), obj_set _ HZ.out⟩
            case measure => simp [intOf]
          · have hix : ∀ w : World, (Instr.index 170 (.agg #[.int .i64 s.a.n, .int .i64 s.a.d, .int .i64 s.b.n, .int .i64 s.b.d, .int .i64 s.c.n, .int .i64 s.c.d]) (.int .i64 1)).run Tryz.prog w = .ok (.agg #[.int .i64 (s.b).n, .int .i64 (s.b).d]) w := HI.out 1 (by decide)
            obtain ⟨⟨q1, q2, q3, q4, _⟩, l1, l2, l3⟩ : (1 ≤ (s.b).d ∧ (s.b).d ≤ 1000000 ∧ -1000000 ≤ (s.b).n ∧ (s.b).n ≤ 1000000 ∧ _) ∧ (s.b).d ≤ 240 ∧ -6000 ≤ s.e 1 ∧ s.e 1 ≤ 6000 := HP.out 1 (by decide)
            have he : (s.b).n * (s.den / (s.b).d) = s.e 1 := rfl
            have HO := Lib.hid ho
            generalize s.e 1 = ee at *
            clear hk3 hk
            go_wp2_with fail
            refine wp_region_belT 9 (by kernel_rfl) (by kernel_rfl) ?_
            simp only [List.take_succ_cons, List.take_zero, List.drop_succ_cons, List.drop_zero]
            repeat (go_big_quiet_step (fail))
            refine wpQuiet_nil ?_
            rintro _ ⟨z, rfl⟩
            have hzs := z.size_le
            have HZ := Lib.hid (obj_bel z (obj_alloc _ HO.out))
            obtain ⟨f0, f1, f2⟩ := froz3 HZ.out
            obtain ⟨e0, e1, e2⟩ := cells3 HZ.out
            go_wp2_with fail
            go_roundw
            case rel => exact ⟨1 + 1, by omega, rfl, rfl, by (repeat' (first | (with_reducible first | apply Zl1 | apply Zl2 | apply Zl3 | apply Zl4 | apply Zl5 | apply Zl6 | apply Zl7 | apply Zl8 | apply Zl9 | apply Zla | apply Zlb | apply Zlc) | (dsimp only; with_reducible first | apply Zl8 | apply Zl2 | apply Zld) | with_reducible assumption | omega | (dsimp only; omega))), obj_set _ HZ.out⟩
            case measure => simp [intOf]
          · have hix : ∀ w : World, (Instr.index 170 (.agg #[.int .i64 s.a.n, .int .i64 s.a.d, .int .i64 s.b.n, .int .i64 s.b.d, .int .i64 s.c.n, .int .i64 s.c.d]) (.int .i64 2)).run Tryz.prog w = .ok (.agg #[.int .i64 (s.c).n, .int .i64 (s.c).d]) w := HI.out 2 (by decide)
            obtain ⟨⟨q1, q2, q3, q4, _⟩, l1, l2, l3⟩ : (1 ≤ (s.c).d ∧ (s.c).d ≤ 1000000 ∧ -1000000 ≤ (s.c).n ∧ (s.c).n ≤ 1000000 ∧ _) ∧ (s.c).d ≤ 240 ∧ -6000 ≤ s.e 2 ∧ s.e 2 ≤ 6000 := HP.out 2 (by decide)
            have he : (s.c).n * (s.den / (s.c).d) = s.e 2 := rfl
            have HO := Lib.hid ho
            generalize s.e 2 = ee at *
            clear hk3 hk
            go_wp2_with fail
            refine wp_region_belT 9 (by kernel_rfl) (by kernel_rfl) ?_
            simp only [List.take_succ_cons, List.take_zero, List.drop_succ_cons, List.drop_zero]
            repeat (go_big_quiet_step (fail))
            refine wpQuiet_nil ?_
            rintro _ ⟨z, rfl⟩
            have hzs := z.size_le
            have HZ := Lib.hid (obj_bel z (obj_alloc _ HO.out))
            obtain ⟨f0, f1, f2⟩ := froz3 HZ.out
            obtain ⟨e0, e1, e2⟩ := cells3 HZ.out
            go_wp2_with fail
            go_roundw
            case rel => exact ⟨2 + 1, by omega, rfl, rfl, by (repeat' (first | (with_reducible first | apply Zl1 | apply Zl2 | apply Zl3 | apply Zl4 | apply Zl5 | apply Zl6 | apply Zl7 | apply Zl8 | apply Zl9 | apply Zla | apply Zlb | apply Zlc) | (dsimp only; with_reducible first | apply Zl8 | apply Zl2 | apply Zld) | with_reducible assumption | omega | (dsimp only; omega))), obj_set _ HZ.out⟩
            case measure => simp [intOf]
        · obtain rfl : k = 3 := by omega
          obtain ⟨e0, e1, e2⟩ := cells3 ho
          obtain ⟨f0, f1, f2⟩ := froz3 ho
          clear hk3 hk
          simp only [show (0 < 3) = True from by simp, show (1 < 3) = True from by simp, show (2 < 3) = True from by simp, if_true] at e0 e1 e2
          go_wp2_with fail
          refine bodyPost_ret (v := .tuple #[.agg #[.int .i64 (s.e 0), .int .i64 (s.e 1), .int .i64 (s.e 2)], .int .i64 s.den, .bool true]) (by simp [results, Tryz.results43, go_sem, e0, e1, e2]) rfl (Ret.mk (by rfl) (by (repeat' (first | (with_reducible first | apply Zl1 | apply Zl2 | apply Zl3 | apply Zl4 | apply Zl5 | apply Zl6 | apply Zl7 | apply Zl8 | apply Zl9 | apply Zla | apply Zlb | apply Zlc) | (dsimp only; with_reducible first | apply Zl8 | apply Zl2 | apply Zld) | with_reducible assumption | omega | (dsimp only; omega)))))
theorem Sz.e_bd {s : Sz} (h : s.rt = true) (hd : s.den ≤ 240) {k : Nat} (hk : k < 3) : -240000000 ≤ s.e k ∧ s.e k ≤ 240000000 ∧ 0 ≤ s.den / (s.q k).d ∧ s.den / (s.q k).d ≤ 240 := by
  obtain ⟨q1, q2, q3, q4, _⟩ := rt_spec (s.rt_q h k)
  have hd0 : 1 ≤ s.den := s.dn_pos h 3
  have h1 : 0 ≤ s.den / (s.q k).d := Int.ediv_nonneg (by omega) (by omega)
  have h2 : s.den / (s.q k).d ≤ 240 := Int.le_trans (Int.ediv_le_self _ (by omega)) hd
  have e := Int.natAbs_mul (s.q k).n (s.den / (s.q k).d)
  have h3 : (s.q k).n.natAbs * (s.den / (s.q k).d).natAbs ≤ 1000000 * 240 := Nat.mul_le_mul (by omega) (by omega)
  unfold Sz.e
  omega
/-- The call returns some exponents, no denominator, false. -/
def NoParts (w : World) (e : Ending) (w' : World) : Prop := ∃ a b c : Int, e = .returned (.tuple #[.agg #[.int .i64 a, .int .i64 b, .int .i64 c], .int .i64 0, .bool false]) ∧ ∃ x : Bel w, w' = x.w
theorem NoParts.mk {w w' : World} (a b c : Int) (h : Below w.heap.size w w') : NoParts w (.returned (.tuple #[.agg #[.int .i64 a, .int .i64 b, .int .i64 c], .int .i64 0, .bool false])) w' := ⟨a, b, c, rfl, ⟨w', h⟩, rfl⟩
set_option maxHeartbeats 1600000 in
theorem parts_no (s : Sz) (w : World) (hr : s.rt = true) (hf : s.fit = false) :
    Calls Tryz.prog 43 #[s.V] w (NoParts w) := by
  have HI := Lib.hid (idx3 s 170 (fun w => ⟨by kernel_rfl, by kernel_rfl, by kernel_rfl⟩))
  have HR := Lib.hid hr
  have HF := Lib.hid (s.fit_no hf)
  clear hr hf
  have hV : s.V = .agg #[.int .i64 s.a.n, .int .i64 s.a.d, .int .i64 s.b.n, .int .i64 s.b.d, .int .i64 s.c.n, .int .i64 s.c.d] := rfl
  rw [hV] at HI ⊢
  clear hV
  have HD := Lib.hid (fun k => s.dn_pos HR.out k)
  have HL := Lib.hid (fun (k : Nat) => (⟨rt_spec (s.rt_q HR.out k), s.d_le HR.out k, (lcI_spec (HD.out k) (rt_spec (s.rt_q HR.out k)).1).2.2.2.2⟩ : (_ ∧ _) ∧ _ ∧ _))
  have h0 : s.dn 0 = 1 := rfl
  go_enter Tryz.func43, Tryz.ntmps43
  go_wp2
  go_loopw [3, 18] (fun x y wr => ∃ k : Nat, k ≤ 3 ∧ s.dn k ≤ 240 ∧ x = .int .i64 (s.dn k) ∧ y = .int .i64 (k : Int) ∧ Below w.heap.size w wr ∧ wr.heap[w.heap.size + 1]? = some (.cells #[.int .i64 0, .int .i64 0, .int .i64 0] 116) ∧ wr.heap[w.heap.size + 1 + 1]? = some (.cells #[.int .i64 s.a.n, .int .i64 s.a.d, .int .i64 s.b.n, .int .i64 s.b.d, .int .i64 s.c.n, .int .i64 s.c.d] 170)) (fun _ y _ => 3 - (intOf y).toNat)
  case atStart => exact ⟨0, by omega, by omega, by rw [h0], rfl, by (repeat' (first | (with_reducible first | apply Zl1 | apply Zl2 | apply Zl3 | apply Zl4 | apply Zl5 | apply Zl6 | apply Zl7 | apply Zl8 | apply Zl9 | apply Zla | apply Zlb | apply Zlc) | (dsimp only; with_reducible first | apply Zl8 | apply Zl2 | apply Zld) | with_reducible assumption | omega | (dsimp only; omega))), obj_alloc _ (obj_new1 _ _ _), obj_new2 _ _ _ _⟩
  case round =>
    obtain ⟨k, hk, hk240, rfl, rfl, hB, ho1, ho2⟩ := hrel
    have hbs := hB.size
    have hs2 := obj_lt ho2
    have HO1 := Lib.hid ho1
    have HO2 := Lib.hid ho2
    clear ho1 ho2 h0
    by_cases hk3 : k < 3
    · have hki : (k : Int) < 3 := by omega
      have hix := HI.out k hk3
      obtain ⟨⟨q1, q2, q3, q4, _⟩, l1, l4⟩ := HL.out k
      have p1 := HD.out k
      have p2 := HD.out (k + 1)
      have hn : s.dn (k + 1) = s.dn k / (Int.gcd (s.dn k) (s.q k).d : Int) * (s.q k).d := rfl
      have hg0 : 0 < (Int.gcd (s.dn k) (s.q k).d : Int) := by have := Int.gcd_pos_of_ne_zero_left (s.q k).d (show s.dn k ≠ 0 by omega); omega
      generalize (s.q k).d = d at *
      generalize s.dn k = D at *
      generalize hEq : s.dn (k + 1) = E at *
      have HQ := Lib.hid hEq
      clear hEq
      have hw1 := obj_lt HO1.out
      obtain ⟨e0, e1, e2⟩ := cells3 HO1.out
      obtain ⟨f0, f1, f2⟩ := froz3 HO1.out
      by_cases hd240 : 240 < d
      · go_wp2_with fail
        exact bodyPost_ret (v := .tuple #[.agg #[.int .i64 0, .int .i64 0, .int .i64 0], .int .i64 0, .bool false]) (by simp [results, Tryz.results43, go_sem, e0, e1, e2]) rfl (NoParts.mk _ _ _ (by (repeat' (first | (with_reducible first | apply Zl1 | apply Zl2 | apply Zl3 | apply Zl4 | apply Zl5 | apply Zl6 | apply Zl7 | apply Zl8 | apply Zl9 | apply Zla | apply Zlb | apply Zlc) | (dsimp only; with_reducible first | apply Zl8 | apply Zl2 | apply Zld) | with_reducible assumption | omega | (dsimp only; omega)))))
      have p3 : E ≤ 57600 := by
        have := Int.mul_le_mul (show D / (Int.gcd D d : Int) ≤ 240 from Int.le_trans (Int.ediv_le_self _ (by omega)) hk240) (show d ≤ 240 by omega) (by omega) (by omega)
        omega
      go_wp2_with fail
      refine wp_region_bel (by kernel_rfl) (by kernel_rfl) ?_
      repeat (go_big_quiet_step ((go_at_call 88; exact bel_of (igcd_any _ _ _ (by omega) (by omega) (by omega) (by omega)))))
      refine wpQuiet_nil ?_
      rintro _ ⟨z, rfl⟩
      rw [← hn]
      clear hn
      have hzs := z.size_le
      have HZ1 := Lib.hid (obj_bel z (obj_alloc _ HO1.out))
      clear e0 e1 e2 f0 f1 f2
      obtain ⟨e0, e1, e2⟩ := cells3 HZ1.out
      obtain ⟨f0, f1, f2⟩ := froz3 HZ1.out
      by_cases hE240 : 240 < E
      · go_wp2_with fail
        exact bodyPost_ret (v := .tuple #[.agg #[.int .i64 0, .int .i64 0, .int .i64 0], .int .i64 0, .bool false]) (by simp [results, Tryz.results43, go_sem, e0, e1, e2]) rfl (NoParts.mk _ _ _ (by (repeat' (first | (with_reducible first | apply Zl1 | apply Zl2 | apply Zl3 | apply Zl4 | apply Zl5 | apply Zl6 | apply Zl7 | apply Zl8 | apply Zl9 | apply Zla | apply Zlb | apply Zlc) | (dsimp only; with_reducible first | apply Zl8 | apply Zl2 | apply Zld) | with_reducible assumption | omega | (dsimp only; omega)))))
      clear e0 e1 e2 f0 f1 f2
      go_wp2
      go_roundw
      case rel =>
        exact ⟨k + 1, by omega, by rw [HQ.out]; omega, by rw [HQ.out], by go_num, by (repeat' (first | (with_reducible first | apply Zl1 | apply Zl2 | apply Zl3 | apply Zl4 | apply Zl5 | apply Zl6 | apply Zl7 | apply Zl8 | apply Zl9 | apply Zla | apply Zlb | apply Zlc) | (dsimp only; with_reducible first | apply Zl8 | apply Zl2 | apply Zld) | with_reducible assumption | omega | (dsimp only; omega))), obj_bel _ (obj_alloc _ HO1.out), obj_bel _ (obj_alloc _ HO2.out)⟩
      case measure =>
        simp only [intOf]
        omega
    · obtain rfl : k = 3 := by omega
      clear hk3 hk
      have hd1 : s.den ≤ 240 := hk240
      have hd0 : 1 ≤ s.den := HD.out 3
      have HF2 := Lib.hid (show ∃ k, k < 3 ∧ ¬ (-6000 ≤ s.e k ∧ s.e k ≤ 6000) from HF.out.resolve_left (by omega))
      have HP := Lib.hid (fun k (hk : k < 3) => (⟨rt_spec (s.rt_q HR.out k), Sz.d_den HR.out hk, Sz.e_bd HR.out hd1 hk⟩ : (_ ∧ _) ∧ _ ∧ _))
      have hw1 := obj_lt HO1.out
      rw [show s.dn 3 = s.den from rfl]
      have HE := Lib.hid (fun k => (rfl : (s.q k).n * (s.den / (s.q k).d) = s.e k))
      obtain ⟨g0, g1, g2, g3, g4, g5⟩ := cells6 HO2.out
      go_wp2_with fail
      go_loopw [3, 39] (fun x y wr' => ∃ k : Nat, k ≤ 3 ∧ (∀ j, j < k → -6000 ≤ s.e j ∧ s.e j ≤ 6000) ∧ x = .int .i64 s.den ∧ y = .int .i64 (k : Int) ∧ Below w.heap.size w wr' ∧ wr'.heap[w.heap.size + 1]? = some (.cells #[.int .i64 (if 0 < k then s.e 0 else 0), .int .i64 (if 1 < k then s.e 1 else 0), .int .i64 (if 2 < k then s.e 2 else 0)] 116)) (fun _ y _ => 3 - (intOf y).toNat)
      case atStart => exact ⟨0, by omega, fun j hj => by omega, rfl, rfl, by (repeat' (first | (with_reducible first | apply Zl1 | apply Zl2 | apply Zl3 | apply Zl4 | apply Zl5 | apply Zl6 | apply Zl7 | apply Zl8 | apply Zl9 | apply Zla | apply Zlb | apply Zlc) | (dsimp only; with_reducible first | apply Zl8 | apply Zl2 | apply Zld) | with_reducible assumption | omega | (dsimp only; omega))), HO1.out⟩
      case round =>
        obtain ⟨k, hk, hall, rfl, rfl, hB2, ho⟩ := hrel
        have HALL := Lib.hid hall
        clear hall
        have hbs2 := hB2.size
        have hw2 := obj_lt ho
        by_cases hk3 : k < 3
        · have hki : (k : Int) < 3 := by omega
          rcases (show k = 0 ∨ k = 1 ∨ k = 2 by omega) with rfl | rfl | rfl
          · have hix : ∀ w : World, (Instr.index 170 (.agg #[.int .i64 s.a.n, .int .i64 s.a.d, .int .i64 s.b.n, .int .i64 s.b.d, .int .i64 s.c.n, .int .i64 s.c.d]) (.int .i64 0)).run Tryz.prog w = .ok (.agg #[.int .i64 (s.a).n, .int .i64 (s.a).d]) w := HI.out 0 (by decide)
            obtain ⟨⟨q1, q2, q3, q4, _⟩, l1, l2, l3, l4, l5⟩ : (1 ≤ (s.a).d ∧ (s.a).d ≤ 1000000 ∧ -1000000 ≤ (s.a).n ∧ (s.a).n ≤ 1000000 ∧ _) ∧ (s.a).d ≤ s.den ∧ -240000000 ≤ s.e 0 ∧ s.e 0 ≤ 240000000 ∧ 0 ≤ s.den / (s.a).d ∧ s.den / (s.a).d ≤ 240 := HP.out 0 (by decide)
            have he : (s.a).n * (s.den / (s.a).d) = s.e 0 := rfl
            have HO := Lib.hid ho
            generalize hee : s.e 0 = ee at *
            have HEE := Lib.hid hee
            clear hee
            clear hk3 hk
            go_wp2_with fail
            refine wp_region_belT 9 (by kernel_rfl) (by kernel_rfl) ?_
            simp only [List.take_succ_cons, List.take_zero, List.drop_succ_cons, List.drop_zero]
            repeat (go_big_quiet_step (fail))
            refine wpQuiet_nil ?_
            rintro _ ⟨z, rfl⟩
            have hzs := z.size_le
            have HZ := Lib.hid (obj_bel z (obj_alloc _ HO.out))
            obtain ⟨f0, f1, f2⟩ := froz3 HZ.out
            obtain ⟨e0, e1, e2⟩ := cells3 HZ.out
            by_cases hin : -6000 ≤ ee ∧ ee ≤ 6000
            · obtain ⟨hin1, hin2⟩ := hin
              go_wp2_with fail
              go_roundw
              case rel => exact ⟨0 + 1, by omega, fun j hj => (by
                rcases (show j < 0 ∨ j = 0 by omega) with h | h
                · exact HALL.out j h
                · rw [h, HEE.out]; exact ⟨hin1, hin2⟩), rfl, rfl, by (repeat' (first | (with_reducible first | apply Zl1 | apply Zl2 | apply Zl3 | apply Zl4 | apply Zl5 | apply Zl6 | apply Zl7 | apply Zl8 | apply Zl9 | apply Zla | apply Zlb | apply Zlc) | (dsimp only; with_reducible first | apply Zl8 | apply Zl2 | apply Zld) | with_reducible assumption | omega | (dsimp only; omega))), by have := @obj_set _ _ 0 _ _ (.int .i64 ee) HZ.out; rw [← HEE.out] at this; rw [← HEE.out]; exact this⟩
              case measure => simp [intOf]
            · rcases (show ee < -6000 ∨ ¬ ee < -6000 ∧ 6000 < ee by omega) with hc | ⟨hc, hc2⟩
              · go_wp2_with fail
                exact bodyPost_ret (v := .tuple #[.agg #[.int .i64 (if 0 = 0 then ee else if 0 < 0 then s.e 0 else 0), .int .i64 (if 0 = 1 then ee else if 1 < 0 then s.e 1 else 0), .int .i64 (if 0 = 2 then ee else if 2 < 0 then s.e 2 else 0)], .int .i64 0, .bool false]) (by simp [results, Tryz.results43, go_sem, e0, e1, e2]) rfl (NoParts.mk _ _ _ (by (repeat' (first | (with_reducible first | apply Zl1 | apply Zl2 | apply Zl3 | apply Zl4 | apply Zl5 | apply Zl6 | apply Zl7 | apply Zl8 | apply Zl9 | apply Zla | apply Zlb | apply Zlc) | (dsimp only; with_reducible first | apply Zl8 | apply Zl2 | apply Zld) | with_reducible assumption | omega | (dsimp only; omega)))))
              · go_wp2_with fail
                exact bodyPost_ret (v := .tuple #[.agg #[.int .i64 (if 0 = 0 then ee else if 0 < 0 then s.e 0 else 0), .int .i64 (if 0 = 1 then ee else if 1 < 0 then s.e 1 else 0), .int .i64 (if 0 = 2 then ee else if 2 < 0 then s.e 2 else 0)], .int .i64 0, .bool false]) (by simp [results, Tryz.results43, go_sem, e0, e1, e2]) rfl (NoParts.mk _ _ _ (by (repeat' (first | (with_reducible first | apply Zl1 | apply Zl2 | apply Zl3 | apply Zl4 | apply Zl5 | apply Zl6 | apply Zl7 | apply Zl8 | apply Zl9 | apply Zla | apply Zlb | apply Zlc) | (dsimp only; with_reducible first | apply Zl8 | apply Zl2 | apply Zld) | with_reducible assumption | omega | (dsimp only; omega)))))
          · have hix : ∀ w : World, (Instr.index 170 (.agg #[.int .i64 s.a.n, .int .i64 s.a.d, .int .i64 s.b.n, .int .i64 s.b.d, .int .i64 s.c.n, .int .i64 s.c.d]) (.int .i64 1)).run Tryz.prog w = .ok (.agg #[.int .i64 (s.b).n, .int .i64 (s.b).d]) w := HI.out 1 (by decide)
            obtain ⟨⟨q1, q2, q3, q4, _⟩, l1, l2, l3, l4, l5⟩ : (1 ≤ (s.b).d ∧ (s.b).d ≤ 1000000 ∧ -1000000 ≤ (s.b).n ∧ (s.b).n ≤ 1000000 ∧ _) ∧ (s.b).d ≤ s.den ∧ -240000000 ≤ s.e 1 ∧ s.e 1 ≤ 240000000 ∧ 0 ≤ s.den / (s.b).d ∧ s.den / (s.b).d ≤ 240 := HP.out 1 (by decide)
            have he : (s.b).n * (s.den / (s.b).d) = s.e 1 := rfl
            have HO := Lib.hid ho
            generalize hee : s.e 1 = ee at *
            have HEE := Lib.hid hee
            clear hee
            clear hk3 hk
            go_wp2_with fail
            refine wp_region_belT 9 (by kernel_rfl) (by kernel_rfl) ?_
            simp only [List.take_succ_cons, List.take_zero, List.drop_succ_cons, List.drop_zero]
            repeat (go_big_quiet_step (fail))
            refine wpQuiet_nil ?_
            rintro _ ⟨z, rfl⟩
            have hzs := z.size_le
            have HZ := Lib.hid (obj_bel z (obj_alloc _ HO.out))
            obtain ⟨f0, f1, f2⟩ := froz3 HZ.out
            obtain ⟨e0, e1, e2⟩ := cells3 HZ.out
            by_cases hin : -6000 ≤ ee ∧ ee ≤ 6000
            · obtain ⟨hin1, hin2⟩ := hin
              go_wp2_with fail
              go_roundw
              case rel => exact ⟨1 + 1, by omega, fun j hj => (by
                rcases (show j < 1 ∨ j = 1 by omega) with h | h
                · exact HALL.out j h
                · rw [h, HEE.out]; exact ⟨hin1, hin2⟩), rfl, rfl, by (repeat' (first | (with_reducible first | apply Zl1 | apply Zl2 | apply Zl3 | apply Zl4 | apply Zl5 | apply Zl6 | apply Zl7 | apply Zl8 | apply Zl9 | apply Zla | apply Zlb | apply Zlc) | (dsimp only; with_reducible first | apply Zl8 | apply Zl2 | apply Zld) | with_reducible assumption | omega | (dsimp only; omega))), by have := @obj_set _ _ 1 _ _ (.int .i64 ee) HZ.out; rw [← HEE.out] at this; rw [← HEE.out]; exact this⟩
              case measure => simp [intOf]
            · rcases (show ee < -6000 ∨ ¬ ee < -6000 ∧ 6000 < ee by omega) with hc | ⟨hc, hc2⟩
              · go_wp2_with fail
                exact bodyPost_ret (v := .tuple #[.agg #[.int .i64 (if 1 = 0 then ee else if 0 < 1 then s.e 0 else 0), .int .i64 (if 1 = 1 then ee else if 1 < 1 then s.e 1 else 0), .int .i64 (if 1 = 2 then ee else if 2 < 1 then s.e 2 else 0)], .int .i64 0, .bool false]) (by simp [results, Tryz.results43, go_sem, e0, e1, e2]) rfl (NoParts.mk _ _ _ (by (repeat' (first | (with_reducible first | apply Zl1 | apply Zl2 | apply Zl3 | apply Zl4 | apply Zl5 | apply Zl6 | apply Zl7 | apply Zl8 | apply Zl9 | apply Zla | apply Zlb | apply Zlc) | (dsimp only; with_reducible first | apply Zl8 | apply Zl2 | apply Zld) | with_reducible assumption | omega | (dsimp only; omega)))))
              · go_wp2_with fail
                exact bodyPost_ret (v := .tuple #[.agg #[.int .i64 (if 1 = 0 then ee else if 0 < 1 then s.e 0 else 0), .int .i64 (if 1 = 1 then ee else if 1 < 1 then s.e 1 else 0), .int .i64 (if 1 = 2 then ee else if 2 < 1 then s.e 2 else 0)], .int .i64 0, .bool false]) (by simp [results, Tryz.results43, go_sem, e0, e1, e2]) rfl (NoParts.mk _ _ _ (by (repeat' (first | (with_reducible first | apply Zl1 | apply Zl2 | apply Zl3 | apply Zl4 | apply Zl5 | apply Zl6 | apply Zl7 | apply Zl8 | apply Zl9 | apply Zla | apply Zlb | apply Zlc) | (dsimp only; with_reducible first | apply Zl8 | apply Zl2 | apply Zld) | with_reducible assumption | omega | (dsimp only; omega)))))
          · have hix : ∀ w : World, (Instr.index 170 (.agg #[.int .i64 s.a.n, .int .i64 s.a.d, .int .i64 s.b.n, .int .i64 s.b.d, .int .i64 s.c.n, .int .i64 s.c.d]) (.int .i64 2)).run Tryz.prog w = .ok (.agg #[.int .i64 (s.c).n, .int .i64 (s.c).d]) w := HI.out 2 (by decide)
            obtain ⟨⟨q1, q2, q3, q4, _⟩, l1, l2, l3, l4, l5⟩ : (1 ≤ (s.c).d ∧ (s.c).d ≤ 1000000 ∧ -1000000 ≤ (s.c).n ∧ (s.c).n ≤ 1000000 ∧ _) ∧ (s.c).d ≤ s.den ∧ -240000000 ≤ s.e 2 ∧ s.e 2 ≤ 240000000 ∧ 0 ≤ s.den / (s.c).d ∧ s.den / (s.c).d ≤ 240 := HP.out 2 (by decide)
            have he : (s.c).n * (s.den / (s.c).d) = s.e 2 := rfl
            have HO := Lib.hid ho
            generalize hee : s.e 2 = ee at *
            have HEE := Lib.hid hee
            clear hee
            clear hk3 hk
            go_wp2_with fail
            refine wp_region_belT 9 (by kernel_rfl) (by kernel_rfl) ?_
            simp only [List.take_succ_cons, List.take_zero, List.drop_succ_cons, List.drop_zero]
            repeat (go_big_quiet_step (fail))
            refine wpQuiet_nil ?_
            rintro _ ⟨z, rfl⟩
            have hzs := z.size_le
            have HZ := Lib.hid (obj_bel z (obj_alloc _ HO.out))
            obtain ⟨f0, f1, f2⟩ := froz3 HZ.out
            obtain ⟨e0, e1, e2⟩ := cells3 HZ.out
            by_cases hin : -6000 ≤ ee ∧ ee ≤ 6000
            · obtain ⟨hin1, hin2⟩ := hin
              go_wp2_with fail
              go_roundw
              case rel => exact ⟨2 + 1, by omega, fun j hj => (by
                rcases (show j < 2 ∨ j = 2 by omega) with h | h
                · exact HALL.out j h
                · rw [h, HEE.out]; exact ⟨hin1, hin2⟩), rfl, rfl, by (repeat' (first | (with_reducible first | apply Zl1 | apply Zl2 | apply Zl3 | apply Zl4 | apply Zl5 | apply Zl6 | apply Zl7 | apply Zl8 | apply Zl9 | apply Zla | apply Zlb | apply Zlc) | (dsimp only; with_reducible first | apply Zl8 | apply Zl2 | apply Zld) | with_reducible assumption | omega | (dsimp only; omega))), by have := @obj_set _ _ 2 _ _ (.int .i64 ee) HZ.out; rw [← HEE.out] at this; rw [← HEE.out]; exact this⟩
              case measure => simp [intOf]
            · rcases (show ee < -6000 ∨ ¬ ee < -6000 ∧ 6000 < ee by omega) with hc | ⟨hc, hc2⟩
              · go_wp2_with fail
                exact bodyPost_ret (v := .tuple #[.agg #[.int .i64 (if 2 = 0 then ee else if 0 < 2 then s.e 0 else 0), .int .i64 (if 2 = 1 then ee else if 1 < 2 then s.e 1 else 0), .int .i64 (if 2 = 2 then ee else if 2 < 2 then s.e 2 else 0)], .int .i64 0, .bool false]) (by simp [results, Tryz.results43, go_sem, e0, e1, e2]) rfl (NoParts.mk _ _ _ (by (repeat' (first | (with_reducible first | apply Zl1 | apply Zl2 | apply Zl3 | apply Zl4 | apply Zl5 | apply Zl6 | apply Zl7 | apply Zl8 | apply Zl9 | apply Zla | apply Zlb | apply Zlc) | (dsimp only; with_reducible first | apply Zl8 | apply Zl2 | apply Zld) | with_reducible assumption | omega | (dsimp only; omega)))))
              · go_wp2_with fail
                exact bodyPost_ret (v := .tuple #[.agg #[.int .i64 (if 2 = 0 then ee else if 0 < 2 then s.e 0 else 0), .int .i64 (if 2 = 1 then ee else if 1 < 2 then s.e 1 else 0), .int .i64 (if 2 = 2 then ee else if 2 < 2 then s.e 2 else 0)], .int .i64 0, .bool false]) (by simp [results, Tryz.results43, go_sem, e0, e1, e2]) rfl (NoParts.mk _ _ _ (by (repeat' (first | (with_reducible first | apply Zl1 | apply Zl2 | apply Zl3 | apply Zl4 | apply Zl5 | apply Zl6 | apply Zl7 | apply Zl8 | apply Zl9 | apply Zla | apply Zlb | apply Zlc) | (dsimp only; with_reducible first | apply Zl8 | apply Zl2 | apply Zld) | with_reducible assumption | omega | (dsimp only; omega)))))
        · exfalso
          obtain ⟨j, hj, hn⟩ := HF2.out
          exact hn (HALL.out j (by omega))
end Go.Proofs.YtehgeoipbgpocaaGreatDoor
