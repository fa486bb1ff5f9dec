/- Sizes of intervals: strip, Ratio. -/
import Derived.Test.YtehgeoipbgpocaaGreatDoorIf
namespace Go.Proofs.YtehgeoipbgpocaaGreatDoor
set_option linter.unusedVariables false
set_option linter.unusedSimpArgs false
open Go.RowKit
attribute [local go_sem low] Bel.cell Bel.frozen alloc_cell alloc_frozen
attribute [local go_sem] calmOp chainOp yieldsC grows

/-- How often a prime divides a number, and what is left. -/
def stN : Nat → Int → Int → Int × Int
  | 0, n, _ => (0, n)
  | f + 1, n, p => if n % p = 0 then ((stN f (n / p) p).1 + 1, (stN f (n / p) p).2) else (0, n)
theorem stN_more (f : Nat) : ∀ (g : Nat) (n p : Int), 1 ≤ n → 2 ≤ p → n < 2 ^ f → f ≤ g → stN g n p = stN f n p := by
  induction f with
  | zero => intro g n p h1 h2 h3 h4; simp at h3; omega
  | succ f ih =>
    intro g n p h1 h2 h3 h4
    obtain ⟨g, rfl⟩ : ∃ k, g = k + 1 := ⟨g - 1, by omega⟩
    unfold stN
    split
    · rename_i h
      have hq : 1 ≤ n / p := by
        have := Int.emod_add_mul_ediv n p
        rw [h] at this
        rcases (show n / p ≤ 0 ∨ 1 ≤ n / p by omega) with hq | hq
        · have := Int.mul_le_mul_of_nonneg_left hq (show 0 ≤ p by omega)
          omega
        · exact hq
      have hl : n / p < 2 ^ f := by
        have h5 : n / p ≤ n / 2 := by
          have := Int.emod_add_mul_ediv n p
          rw [h] at this
          have h6 := Int.mul_le_mul_of_nonneg_right h2 (show 0 ≤ n / p by omega)
          omega
        have : (2 : Int) ^ (f + 1) = 2 ^ f * 2 := Int.pow_succ _ _
        omega
      rw [ih g (n / p) p hq h2 hl (by omega)]
    · rfl
theorem stN_step {n p : Int} (h1 : 1 ≤ n) (h2 : 2 ≤ p) (h3 : n < 2 ^ 62) (h : n % p = 0) : stN 62 n p = ((stN 62 (n / p) p).1 + 1, (stN 62 (n / p) p).2) ∧ 1 ≤ n / p ∧ n / p < n := by
  have hq : 1 ≤ n / p := by
    have := Int.emod_add_mul_ediv n p
    rw [h] at this
    rcases (show n / p ≤ 0 ∨ 1 ≤ n / p by omega) with hq | hq
    · have := Int.mul_le_mul_of_nonneg_left hq (show 0 ≤ p by omega)
      omega
    · exact hq
  have h5 : n / p ≤ n / 2 := by
    have := Int.emod_add_mul_ediv n p
    rw [h] at this
    have h6 := Int.mul_le_mul_of_nonneg_right h2 (show 0 ≤ n / p by omega)
    omega
  refine ⟨?_, hq, by omega⟩
  rw [← stN_more 62 63 n p h1 h2 h3 (by decide)]
  conv => lhs; unfold stN
  rw [if_pos h]
theorem stN_stop {n p : Int} (h : n % p ≠ 0) : stN 62 n p = (0, n) := by
  conv => lhs; unfold stN
  rw [if_neg h]
theorem stN_bd (f : Nat) : ∀ (n p : Int), 1 ≤ n → 2 ≤ p → 0 ≤ (stN f n p).1 ∧ (stN f n p).1 ≤ f ∧ 1 ≤ (stN f n p).2 ∧ (stN f n p).2 ≤ n := by
  induction f with
  | zero => intro n p h1 h2; exact ⟨Int.le_refl _, Int.le_refl _, h1, Int.le_refl _⟩
  | succ f ih =>
    intro n p h1 h2
    unfold stN
    split
    · rename_i h
      have hq : 1 ≤ n / p := by
        have := Int.emod_add_mul_ediv n p
        rw [h] at this
        rcases (show n / p ≤ 0 ∨ 1 ≤ n / p by omega) with hq | hq
        · have := Int.mul_le_mul_of_nonneg_left hq (show 0 ≤ p by omega)
          omega
        · exact hq
      have h5 : n / p ≤ n := Int.ediv_le_self _ (by omega)
      obtain ⟨a, b, c, d⟩ := ih (n / p) p hq h2
      dsimp only
      refine ⟨by omega, by omega, c, by omega⟩
    · exact ⟨Int.le_refl _, by simp; omega, h1, Int.le_refl _⟩

set_option maxHeartbeats 1600000 in
theorem strip_any (n p : Int) (w : World) (h1 : 1 ≤ n) (h2 : 2 ≤ p) (h3 : n < 4611686018427387904) (h4 : p ≤ 1000) :
    Calls Tryz.prog 36 #[.int .i64 n, .int .i64 p] w (Ret (.tuple #[.int .i64 (stN 62 n p).1, .int .i64 (stN 62 n p).2]) w) := by
  have HS := Lib.hid (fun m => @stN_step m p)
  have HT := Lib.hid (fun m => @stN_stop m p)
  obtain ⟨R, hR⟩ : ∃ R, stN 62 n p = R := ⟨_, rfl⟩
  have HR := Lib.hid hR
  have hbd := stN_bd 62 n p h1 h2
  rw [hR] at hbd ⊢
  clear hR
  go_enter Tryz.func36, Tryz.ntmps36
  go_wp2
  go_loopw [0, 4] (fun x y wr => ∃ m c : Int, 1 ≤ m ∧ m < 4611686018427387904 ∧ 0 ≤ c ∧ c ≤ 62 ∧ (stN 62 m p).1 + c = R.1 ∧ (stN 62 m p).2 = R.2 ∧ x = .int .i64 m ∧ y = .int .i64 c ∧ Below w.heap.size w wr) (fun x _ _ => (intOf x).toNat)
  case atStart => exact ⟨n, 0, h1, h3, by omega, by omega, by rw [HR.out]; omega, by rw [HR.out], rfl, rfl, by (repeat' (first | (with_reducible first | apply Zl1 | apply Zl2 | apply Zl3 | apply Zl4 | apply Zl5 | apply Zl6 | apply Zl7 | apply Zl8 | apply Zl9 | apply Zla | apply Zlb | apply Zlc) | (dsimp only; with_reducible first | apply Zl8 | apply Zl2 | apply Zld) | with_reducible assumption | omega | (dsimp only; omega)))⟩
  case round =>
    obtain ⟨m, c, hm1, hm2, hc0, hc1, he1, he2, rfl, rfl, hB⟩ := hrel
    have hbs := hB.size
    have hp0 : 0 ≤ (stN 62 m p).1 := (stN_bd 62 m p hm1 h2).1
    have HE1 := Lib.hid he1
    have HE2 := Lib.hid he2
    by_cases hz : m % p = 0
    · have e0 : (m % p == 0) = true := by simpa using hz
      obtain ⟨k1, k2, k3⟩ := HS.out m hm1 h2 hm2 hz
      have HK := Lib.hid k1
      have hc2 : c + 1 ≤ 62 := by
        rw [k1] at he1
        have := (stN_bd 62 (m / p) p k2 h2).1
        dsimp only at he1
        omega
      clear hz k1 he1 he2 hp0
      go_wp2
      go_roundw
      case rel => exact ⟨m / p, c + 1, k2, by omega, by omega, hc2, by have h := HE1.out; rw [HK.out] at h; dsimp only at h; omega, by have h := HE2.out; rw [HK.out] at h; exact h, rfl, rfl, by (repeat' (first | (with_reducible first | apply Zl1 | apply Zl2 | apply Zl3 | apply Zl4 | apply Zl5 | apply Zl6 | apply Zl7 | apply Zl8 | apply Zl9 | apply Zla | apply Zlb | apply Zlc) | (dsimp only; with_reducible first | apply Zl8 | apply Zl2 | apply Zld) | with_reducible assumption | omega | (dsimp only; omega)))⟩
      case measure => simp only [intOf]; omega
    · have e0 : (m % p == 0) = false := by simpa using hz
      have HK := Lib.hid (HT.out m hz)
      clear hz he1 he2 hp0
      go_wp2
      go_ret2
      exact Ret.mk (show Value.tuple #[.int .i64 c, .int .i64 m] = _ from by have h1 := HE1.out; have h2 := HE2.out; rw [HK.out] at h1 h2; dsimp only at h1 h2; rw [← h1, ← h2, Int.zero_add]) (by (repeat' (first | (with_reducible first | apply Zl1 | apply Zl2 | apply Zl3 | apply Zl4 | apply Zl5 | apply Zl6 | apply Zl7 | apply Zl8 | apply Zl9 | apply Zla | apply Zlb | apply Zlc) | (dsimp only; with_reducible first | apply Zl8 | apply Zl2 | apply Zld) | with_reducible assumption | omega | (dsimp only; omega))))

/-- The exponents of a quotient, and what is left of its parts. -/
def rtN (n : Int) : Nat → Int
  | 0 => n
  | 1 => (stN 62 n 2).2
  | 2 => (stN 62 (stN 62 n 2).2 3).2
  | _ => (stN 62 (stN 62 (stN 62 n 2).2 3).2 5).2
def prm : Nat → Int
  | 0 => 2
  | 1 => 3
  | _ => 5
def rtX (n m : Int) (k : Nat) : Int := (stN 62 (rtN n k) (prm k)).1 - (stN 62 (rtN m k) (prm k)).1
def ratS (n m : Int) : Sz := if rtN n 3 = rtN m 3 then resS (iS (rtX n m 0) (rtX n m 1) (rtX n m 2)) else zS
def ratE (n m : Int) : Int := if rtN n 3 = rtN m 3 then resE (iS (rtX n m 0) (rtX n m 1) (rtX n m 2)) else 7
theorem rtN_bd {n : Int} (h : 1 ≤ n) (h2 : n < 4611686018427387904) : ∀ k, 1 ≤ rtN n k ∧ rtN n k < 4611686018427387904 := by
  have e1 := stN_bd 62 n 2 h (by decide)
  have e2 := stN_bd 62 _ 3 e1.2.2.1 (by decide)
  have e3 := stN_bd 62 _ 5 e2.2.2.1 (by decide)
  intro k
  match k with
  | 0 => exact ⟨h, h2⟩
  | 1 => exact ⟨e1.2.2.1, Int.lt_of_le_of_lt e1.2.2.2 h2⟩
  | 2 => exact ⟨e2.2.2.1, Int.lt_of_le_of_lt e2.2.2.2 (Int.lt_of_le_of_lt e1.2.2.2 h2)⟩
  | k + 3 => exact ⟨e3.2.2.1, Int.lt_of_le_of_lt e3.2.2.2 (Int.lt_of_le_of_lt e2.2.2.2 (Int.lt_of_le_of_lt e1.2.2.2 h2))⟩

set_option maxRecDepth 100000 in
set_option maxHeartbeats 6400000 in
theorem ratio_any (n m : Int) (w : World) (hn : 1 ≤ n) (hn2 : n < 4611686018427387904) (hm : 1 ≤ m) (hm2 : m < 4611686018427387904) :
    Calls Tryz.prog 10 #[.int .i64 n, .int .i64 m] w (Ret (.tuple #[(ratS n m).V, .int .i64 (ratE n m)]) w) := by
  have HSN := Lib.hid (fun (k : Nat) (p : Int) (w' : World) (h2 : 2 ≤ p) (h4 : p ≤ 1000) => strip_any (rtN n k) p w' (rtN_bd hn hn2 k).1 h2 (rtN_bd hn hn2 k).2 h4)
  have HSM := Lib.hid (fun (k : Nat) (p : Int) (w' : World) (h2 : 2 ≤ p) (h4 : p ≤ 1000) => strip_any (rtN m k) p w' (rtN_bd hm hm2 k).1 h2 (rtN_bd hm hm2 k).2 h4)
  have HBN := Lib.hid (fun (k : Nat) => stN_bd 62 (rtN n k) (prm k) (rtN_bd hn hn2 k).1 (by unfold prm; split <;> decide))
  have HBM := Lib.hid (fun (k : Nat) => stN_bd 62 (rtN m k) (prm k) (rtN_bd hm hm2 k).1 (by unfold prm; split <;> decide))
  have HOF := Lib.hid (fun w' => iof_any (rtX n m 0) (rtX n m 1) (rtX n m 2) w')
  have HY := Lib.hid (show rtN n 3 = rtN m 3 → ratS n m = resS (iS (rtX n m 0) (rtX n m 1) (rtX n m 2)) ∧ ratE n m = resE (iS (rtX n m 0) (rtX n m 1) (rtX n m 2)) from fun h => ⟨if_pos h, if_pos h⟩)
  have HN := Lib.hid (show rtN n 3 ≠ rtN m 3 → ratS n m = zS ∧ ratE n m = 7 from fun h => ⟨if_neg h, if_neg h⟩)
  have e1 : decide (n < 1) = false := decide_eq_false (by omega)
  have e2 : decide (m < 1) = false := decide_eq_false (by omega)
  go_enter Tryz.func10, Tryz.ntmps10
  go_wp2
  go_loopw [0, 1, 20] (fun x y i wr => ∃ k : Nat, k ≤ 3 ∧ x = .int .i64 (rtN n k) ∧ y = .int .i64 (rtN m k) ∧ i = .int .i64 (k : Int) ∧ Below w.heap.size w wr ∧
      wr.heap[w.heap.size]? = some (.cells #[.int .i64 0, .int .i64 0, .int .i64 0, .int .i64 0, .int .i64 0, .int .i64 0] 45) ∧
      wr.heap[w.heap.size + 1]? = some (.cells #[.int .i64 (if 0 < k then rtX n m 0 else 0), .int .i64 (if 1 < k then rtX n m 1 else 0), .int .i64 (if 2 < k then rtX n m 2 else 0)] 116) ∧
      wr.heap[w.heap.size + 1 + 1]? = some (.cells #[.int .i64 2, .int .i64 3, .int .i64 5] 3)) (fun _ _ i _ => 3 - (intOf i).toNat)
  case atStart => exact ⟨0, by omega, rfl, rfl, rfl, by (repeat' (first | (with_reducible first | apply Zl1 | apply Zl2 | apply Zl3 | apply Zl4 | apply Zl5 | apply Zl6 | apply Zl7 | apply Zl8 | apply Zl9 | apply Zla | apply Zlb | apply Zlc) | (dsimp only; with_reducible first | apply Zl8 | apply Zl2 | apply Zld) | with_reducible assumption | omega | (dsimp only; omega))), obj_alloc _ (obj_alloc _ (obj_new _ _)), obj_alloc _ (obj_new1 _ _ _), obj_new2 _ _ _ _⟩
  case round =>
    obtain ⟨k, hk, rfl, rfl, rfl, hB, ho0, ho1, ho2⟩ := hrel
    have hbs := hB.size
    have hw1 := obj_lt ho2
    have HO0 := Lib.hid ho0
    have HO1 := Lib.hid ho1
    have HO2 := Lib.hid ho2
    by_cases hk3 : k < 3
    · obtain ⟨g0, g1, g2⟩ := cells3 ho2
      clear ho0 ho1 ho2
      rcases (show k = 0 ∨ k = 1 ∨ k = 2 by omega) with rfl | rfl | rfl
      · clear hk3 hk
        have hb1 := HBN.out 0
        have hb2 := HBM.out 0
        have hx : (stN 62 (rtN n 0) 2).1 - (stN 62 (rtN m 0) 2).1 = rtX n m 0 := rfl
        have hX := Lib.hid hx
        have hy1 := Lib.hid (show (stN 62 (rtN n 0) 2).2 = rtN n (0 + 1) from rfl)
        have hy2 := Lib.hid (show (stN 62 (rtN m 0) 2).2 = rtN m (0 + 1) from rfl)
        have HA := Lib.hid (fun w' => HSN.out 0 2 w' (by decide) (by decide))
        have HB := Lib.hid (fun w' => HSM.out 0 2 w' (by decide) (by decide))
        rw [show prm 0 = 2 from rfl] at hb1 hb2
        rw [hy1.out] at HA
        rw [hy2.out] at HB
        generalize rtX n m 0 = xx at *
        generalize (stN 62 (rtN n 0) 2).1 = c1 at *
        generalize (stN 62 (rtN m 0) 2).1 = c2 at *
        clear hx
        go_wp2_with fail
        (with_reducible refine (HA.out _).mono ?_)
        rintro _ _ ⟨rfl, x, rfl⟩
        go_wp2_with fail
        (with_reducible refine (HB.out _).mono ?_)
        rintro _ _ ⟨rfl, y, rfl⟩
        have hxs := x.size_le
        have hys := y.size_le
        have HZ0 := Lib.hid (obj_bel y (obj_bel x HO0.out))
        have HZ1 := Lib.hid (obj_bel y (obj_bel x HO1.out))
        have HZ2 := Lib.hid (obj_bel y (obj_bel x HO2.out))
        obtain ⟨f0, f1, f2⟩ := froz3 HZ1.out
        obtain ⟨e0, e1, e2⟩ := cells3 HZ1.out
        go_wp2_with fail
        go_roundw
        case rel => exact ⟨0 + 1, by omega, rfl, rfl, rfl, by (repeat' (first | (with_reducible first | apply Zl1 | apply Zl2 | apply Zl3 | apply Zl4 | apply Zl5 | apply Zl6 | apply Zl7 | apply Zl8 | apply Zl9 | apply Zla | apply Zlb | apply Zlc) | (dsimp only; with_reducible first | apply Zl8 | apply Zl2 | apply Zld) | with_reducible assumption | omega | (dsimp only; omega))), obj_ne _ (by omega) HZ0.out, by rw [hX.out]; exact obj_set _ HZ1.out, obj_ne _ (by omega) HZ2.out⟩
        case measure => simp [intOf]
      · clear hk3 hk
        have hb1 := HBN.out 1
        have hb2 := HBM.out 1
        have hx : (stN 62 (rtN n 1) 3).1 - (stN 62 (rtN m 1) 3).1 = rtX n m 1 := rfl
        have hX := Lib.hid hx
        have hy1 := Lib.hid (show (stN 62 (rtN n 1) 3).2 = rtN n (1 + 1) from rfl)
        have hy2 := Lib.hid (show (stN 62 (rtN m 1) 3).2 = rtN m (1 + 1) from rfl)
        have HA := Lib.hid (fun w' => HSN.out 1 3 w' (by decide) (by decide))
        have HB := Lib.hid (fun w' => HSM.out 1 3 w' (by decide) (by decide))
        rw [show prm 1 = 3 from rfl] at hb1 hb2
        rw [hy1.out] at HA
        rw [hy2.out] at HB
        generalize rtX n m 1 = xx at *
        generalize (stN 62 (rtN n 1) 3).1 = c1 at *
        generalize (stN 62 (rtN m 1) 3).1 = c2 at *
        clear hx
        go_wp2_with fail
        (with_reducible refine (HA.out _).mono ?_)
        rintro _ _ ⟨rfl, x, rfl⟩
        go_wp2_with fail
        (with_reducible refine (HB.out _).mono ?_)
        rintro _ _ ⟨rfl, y, rfl⟩
        have hxs := x.size_le
        have hys := y.size_le
        have HZ0 := Lib.hid (obj_bel y (obj_bel x HO0.out))
        have HZ1 := Lib.hid (obj_bel y (obj_bel x HO1.out))
        have HZ2 := Lib.hid (obj_bel y (obj_bel x HO2.out))
        obtain ⟨f0, f1, f2⟩ := froz3 HZ1.out
        obtain ⟨e0, e1, e2⟩ := cells3 HZ1.out
        go_wp2_with fail
        go_roundw
        case rel => exact ⟨1 + 1, by omega, rfl, rfl, rfl, by (repeat' (first | (with_reducible first | apply Zl1 | apply Zl2 | apply Zl3 | apply Zl4 | apply Zl5 | apply Zl6 | apply Zl7 | apply Zl8 | apply Zl9 | apply Zla | apply Zlb | apply Zlc) | (dsimp only; with_reducible first | apply Zl8 | apply Zl2 | apply Zld) | with_reducible assumption | omega | (dsimp only; omega))), obj_ne _ (by omega) HZ0.out, by rw [hX.out]; exact obj_set _ HZ1.out, obj_ne _ (by omega) HZ2.out⟩
        case measure => simp [intOf]
      · clear hk3 hk
        have hb1 := HBN.out 2
        have hb2 := HBM.out 2
        have hx : (stN 62 (rtN n 2) 5).1 - (stN 62 (rtN m 2) 5).1 = rtX n m 2 := rfl
        have hX := Lib.hid hx
        have hy1 := Lib.hid (show (stN 62 (rtN n 2) 5).2 = rtN n (2 + 1) from rfl)
        have hy2 := Lib.hid (show (stN 62 (rtN m 2) 5).2 = rtN m (2 + 1) from rfl)
        have HA := Lib.hid (fun w' => HSN.out 2 5 w' (by decide) (by decide))
        have HB := Lib.hid (fun w' => HSM.out 2 5 w' (by decide) (by decide))
        rw [show prm 2 = 5 from rfl] at hb1 hb2
        rw [hy1.out] at HA
        rw [hy2.out] at HB
        generalize rtX n m 2 = xx at *
        generalize (stN 62 (rtN n 2) 5).1 = c1 at *
        generalize (stN 62 (rtN m 2) 5).1 = c2 at *
        clear hx
        go_wp2_with fail
        (with_reducible refine (HA.out _).mono ?_)
        rintro _ _ ⟨rfl, x, rfl⟩
        go_wp2_with fail
        (with_reducible refine (HB.out _).mono ?_)
        rintro _ _ ⟨rfl, y, rfl⟩
        have hxs := x.size_le
        have hys := y.size_le
        have HZ0 := Lib.hid (obj_bel y (obj_bel x HO0.out))
        have HZ1 := Lib.hid (obj_bel y (obj_bel x HO1.out))
        have HZ2 := Lib.hid (obj_bel y (obj_bel x HO2.out))
        obtain ⟨f0, f1, f2⟩ := froz3 HZ1.out
        obtain ⟨e0, e1, e2⟩ := cells3 HZ1.out
        go_wp2_with fail
        go_roundw
        case rel => exact ⟨2 + 1, by omega, rfl, rfl, rfl, by (repeat' (first | (with_reducible first | apply Zl1 | apply Zl2 | apply Zl3 | apply Zl4 | apply Zl5 | apply Zl6 | apply Zl7 | apply Zl8 | apply Zl9 | apply Zla | apply Zlb | apply Zlc) | (dsimp only; with_reducible first | apply Zl8 | apply Zl2 | apply Zld) | with_reducible assumption | omega | (dsimp only; omega))), obj_ne _ (by omega) HZ0.out, by rw [hX.out]; exact obj_set _ HZ1.out, obj_ne _ (by omega) HZ2.out⟩
        case measure => simp [intOf]
    · obtain rfl : k = 3 := by omega
      obtain ⟨d0, d1, d2, d3, d4, d5⟩ := froz6 ho0
      obtain ⟨c0, c1, c2, c3, c4, c5⟩ := cells6 ho0
      obtain ⟨e0, e1, e2⟩ := cells3 ho1
      clear hk3 hk ho0 ho1 ho2
      simp only [show (0 < 3) = True from by simp, show (1 < 3) = True from by simp, show (2 < 3) = True from by simp, if_true] at e0 e1 e2
      by_cases he : rtN n 3 = rtN m 3
      · have h0 : (rtN n 3 != rtN m 3) = false := by simpa using he
        obtain ⟨r1, r2⟩ := HY.out he
        have R1 := Lib.hid r1
        have R2 := Lib.hid r2
        clear r1 r2 he
        generalize resE (iS (rtX n m 0) (rtX n m 1) (rtX n m 2)) = ee at *
        generalize resS (iS (rtX n m 0) (rtX n m 1) (rtX n m 2)) = rr at *
        rw [tupS] at HOF
        go_wp2_with fail
        (with_reducible refine (HOF.out _).mono ?_)
        rintro _ _ ⟨rfl, x, rfl⟩
        go_wp2
        refine bodyPost_ret (v := .tuple #[.agg #[.int .i64 rr.a.n, .int .i64 rr.a.d, .int .i64 rr.b.n, .int .i64 rr.b.d, .int .i64 rr.c.n, .int .i64 rr.c.d], .int .i64 ee]) (by simp [results, Tryz.results10, go_sem, c0, c1, c2, c3, c4, c5]) rfl (Ret.mk (by rw [R1.out, R2.out]; rfl) (by (repeat' (first | (with_reducible first | apply Zl1 | apply Zl2 | apply Zl3 | apply Zl4 | apply Zl5 | apply Zl6 | apply Zl7 | apply Zl8 | apply Zl9 | apply Zla | apply Zlb | apply Zlc) | (dsimp only; with_reducible first | apply Zl8 | apply Zl2 | apply Zld) | with_reducible assumption | omega | (dsimp only; omega)))))
      · have h0 : (rtN n 3 != rtN m 3) = true := by simpa using he
        obtain ⟨r1, r2⟩ := HN.out he
        have R1 := Lib.hid r1
        have R2 := Lib.hid r2
        clear r1 r2 he
        go_wp2_with fail
        refine bodyPost_ret (v := .tuple #[.agg #[.int .i64 0, .int .i64 0, .int .i64 0, .int .i64 0, .int .i64 0, .int .i64 0], .int .i64 7]) (by simp [results, Tryz.results10, go_sem, c0, c1, c2, c3, c4, c5]) rfl (Ret.mk (by rw [R1.out, R2.out]; rfl) (by (repeat' (first | (with_reducible first | apply Zl1 | apply Zl2 | apply Zl3 | apply Zl4 | apply Zl5 | apply Zl6 | apply Zl7 | apply Zl8 | apply Zl9 | apply Zla | apply Zlb | apply Zlc) | (dsimp only; with_reducible first | apply Zl8 | apply Zl2 | apply Zld) | with_reducible assumption | omega | (dsimp only; omega)))))
end Go.Proofs.YtehgeoipbgpocaaGreatDoor
