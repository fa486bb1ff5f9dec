/- The small functions of the package noteset and of its reference. -/
import Derived.Test.YtjojdkdpdlmahaaDoorProg
import Derived.Test.YtjojdkdpdlmahaaDoorBase
import Derived.Test.YtjojdkdpdlmahaaDoorPb
namespace Go.Proofs.YtjojdkdpdlmahaaDoor
open Go.RowKit
attribute [local go_sem] Bel.cell Bel.frozen
attribute [local go_sem low] alloc_cell alloc_frozen

theorem val_i64 {a b : Int} (h : a = b) : Value.int .i64 a = Value.int .i64 b := by rw [h]
theorem val_bool {a b : Bool} (h : a = b) : Value.bool a = Value.bool b := by rw [h]
/-- A set of notes as a value. -/
theorem set_val {a b : Int} {c d : Nat} (h1 : a = (c : Int)) (h2 : b = (d : Int)) : Value.agg #[.int .u64 a, .int .u64 b] = .agg #[.int .u64 (c : Int), .int .u64 (d : Int)] := by rw [h1, h2]
theorem pop_any (x : Nat) (w : World) (h1 : x < 18446744073709551616) : Calls Tryd.prog 51 #[.int .u64 (x : Int)] w fun e w' => e = .returned (.int .i64 (popc x : Nat)) ∧ w = w' := by
  obtain ⟨x1, x2, y, y1, y2, y3, e1, e2, e3, e4, e5, e6, e7⟩ := pop_steps x h1
  have H := Lib.hid (And.intro e1 (And.intro e2 (And.intro e3 (And.intro e4 (And.intro e5 (And.intro e6 e7))))))
  clear e1 e2 e3 e4 e5 e6 e7
  go_enter Tryd.func51, Tryd.ntmps51
  go_wp2
  go_ret
  obtain ⟨e1, e2, e3, e4, e5, e6, e7⟩ := H.out
  refine ⟨ret_int ?_, rfl⟩
  rw [e1, e2, e3, e4, e5, e6]
  exact e7
theorem isNote_any (n : Int) (w : World) : Calls Tryd.prog 43 #[.int .i64 n] w fun e w' => e = .returned (.bool (decide (0 ≤ n ∧ n ≤ 127))) ∧ w = w' := by
  by_cases h1 : 0 ≤ n
  · have e1 : decide (0 ≤ n) = true := by simpa using h1
    go_enter Tryd.func43, Tryd.ntmps43
    go_wp2
    go_ret
    exact ⟨by simp [h1], rfl⟩
  · have e1 : decide (0 ≤ n) = false := by simpa using h1
    go_enter Tryd.func43, Tryd.ntmps43
    go_wp2
    go_ret
    exact ⟨by simp [h1], rfl⟩
theorem wrap_pow {n : Nat} (h : n < 64) : IntKind.u64.wrap ((2 : Int) ^ n) = ((2 ^ n : Nat) : Int) := by
  have := pow_lt h
  rw [show (2 : Int) ^ n = ((2 ^ n : Nat) : Int) from by simp, IntKind.wrap_u64]
  generalize 2 ^ n = x at *
  omega
theorem or_pow {a n : Nat} (ha : a < 18446744073709551616) (h : n < 64) : bits .or .u64 (a : Int) (IntKind.u64.wrap ((2 : Int) ^ n)) = ((a ||| 2 ^ n : Nat) : Int) := by
  rw [wrap_pow h, u64_or_nat _ _ ha (pow_lt h)]

theorem with_any (lo hi n : Nat) (w : World) (h1 : lo < 18446744073709551616) (h2 : hi < 18446744073709551616) (hn : n ≤ 127) :
    Calls Tryd.prog 50 #[.agg #[.int .u64 (lo : Int), .int .u64 (hi : Int)], .int .i64 (n : Int)] w (Ret (.agg #[.int .u64 (withLo lo n : Nat), .int .u64 (withHi hi n : Nat)]) w) := by
  by_cases h : (n : Int) < 64
  · have H := Lib.hid (or_pow h1 (show n < 64 by omega))
    go_enter Tryd.func50, Tryd.ntmps50
    go_wp2
    go_region
    go_wp2
    refine bodyPost_ret (v := .agg #[.int .u64 (bits BinOp.or IntKind.u64 (↑lo) (IntKind.u64.wrap (2 ^ n))), .int .u64 hi]) (by simp [results, Tryd.results50, go_sem]) rfl (Ret.mk (by exact set_val (by rw [H.out, withLo, if_pos (by omega)]) (by rw [withHi, if_pos (by omega)])) (by (repeat' (first | (with_reducible exact Below.refl _ _) | (with_reducible exact Nat.le_refl _) | (with_reducible refine Below.bel ?_ ?_) | (with_reducible refine Below.alloc ?_ ?_ _) | (with_reducible refine Below.drew ?_) | (with_reducible refine Below.drawsN ?_ _) | (with_reducible refine Below.setCell ?_ ?_ _) | (with_reducible refine le_bel ?_) | (with_reducible refine le_alloc ?_) | (with_reducible refine le_setCell ?_) | (with_reducible refine le_drew ?_) | (with_reducible refine le_drawsN ?_) | (dsimp only; with_reducible refine le_bel ?_) | (dsimp only; with_reducible refine Nat.le_refl _) | (dsimp only; with_reducible refine le_bel_add ?_) | (with_reducible assumption) | omega | (dsimp only; omega)))))
  · have H := Lib.hid (or_pow h2 (show n - 64 < 64 by omega))
    have h' : decide ((n : Int) < 64) = false := by simpa using h
    go_enter Tryd.func50, Tryd.ntmps50
    go_wp2
    go_region
    go_wp2
    refine bodyPost_ret (v := .agg #[.int .u64 lo, .int .u64 (bits BinOp.or IntKind.u64 (↑hi) (IntKind.u64.wrap (2 ^ (n - 64))))]) (by simp [results, Tryd.results50, go_sem]) rfl (Ret.mk (by exact set_val (by rw [withLo, if_neg (by omega)]) (by rw [H.out, withHi, if_neg (by omega)])) (by (repeat' (first | (with_reducible exact Below.refl _ _) | (with_reducible exact Nat.le_refl _) | (with_reducible refine Below.bel ?_ ?_) | (with_reducible refine Below.alloc ?_ ?_ _) | (with_reducible refine Below.drew ?_) | (with_reducible refine Below.drawsN ?_ _) | (with_reducible refine Below.setCell ?_ ?_ _) | (with_reducible refine le_bel ?_) | (with_reducible refine le_alloc ?_) | (with_reducible refine le_setCell ?_) | (with_reducible refine le_drew ?_) | (with_reducible refine le_drawsN ?_) | (dsimp only; with_reducible refine le_bel ?_) | (dsimp only; with_reducible refine Nat.le_refl _) | (dsimp only; with_reducible refine le_bel_add ?_) | (with_reducible assumption) | omega | (dsimp only; omega)))))
theorem refwith_any (lo hi n : Nat) (w : World) (h1 : lo < 18446744073709551616) (h2 : hi < 18446744073709551616) (hn : n ≤ 127) :
    Calls Tryd.prog 42 #[.agg #[.int .u64 (lo : Int), .int .u64 (hi : Int)], .int .i64 (n : Int)] w (Ret (.agg #[.int .u64 (withLo lo n : Nat), .int .u64 (withHi hi n : Nat)]) w) := by
  by_cases h : (n : Int) < 64
  · have H := Lib.hid (or_pow h1 (show n < 64 by omega))
    go_enter Tryd.func42, Tryd.ntmps42
    go_wp2
    refine bodyPost_ret (v := .agg #[.int .u64 (bits BinOp.or IntKind.u64 (↑lo) (IntKind.u64.wrap (2 ^ n))), .int .u64 hi]) (by simp [results, Tryd.results42, go_sem]) rfl (Ret.mk (by exact set_val (by rw [H.out, withLo, if_pos (by omega)]) (by rw [withHi, if_pos (by omega)])) (by (repeat' (first | (with_reducible exact Below.refl _ _) | (with_reducible exact Nat.le_refl _) | (with_reducible refine Below.bel ?_ ?_) | (with_reducible refine Below.alloc ?_ ?_ _) | (with_reducible refine Below.drew ?_) | (with_reducible refine Below.drawsN ?_ _) | (with_reducible refine Below.setCell ?_ ?_ _) | (with_reducible refine le_bel ?_) | (with_reducible refine le_alloc ?_) | (with_reducible refine le_setCell ?_) | (with_reducible refine le_drew ?_) | (with_reducible refine le_drawsN ?_) | (dsimp only; with_reducible refine le_bel ?_) | (dsimp only; with_reducible refine Nat.le_refl _) | (dsimp only; with_reducible refine le_bel_add ?_) | (with_reducible assumption) | omega | (dsimp only; omega)))))
  · have H := Lib.hid (or_pow h2 (show n - 64 < 64 by omega))
    have h' : decide ((n : Int) < 64) = false := by simpa using h
    go_enter Tryd.func42, Tryd.ntmps42
    go_wp2
    refine bodyPost_ret (v := .agg #[.int .u64 lo, .int .u64 (bits BinOp.or IntKind.u64 (↑hi) (IntKind.u64.wrap (2 ^ (n - 64))))]) (by simp [results, Tryd.results42, go_sem]) rfl (Ret.mk (by exact set_val (by rw [withLo, if_neg (by omega)]) (by rw [H.out, withHi, if_neg (by omega)])) (by (repeat' (first | (with_reducible exact Below.refl _ _) | (with_reducible exact Nat.le_refl _) | (with_reducible refine Below.bel ?_ ?_) | (with_reducible refine Below.alloc ?_ ?_ _) | (with_reducible refine Below.drew ?_) | (with_reducible refine Below.drawsN ?_ _) | (with_reducible refine Below.setCell ?_ ?_ _) | (with_reducible refine le_bel ?_) | (with_reducible refine le_alloc ?_) | (with_reducible refine le_setCell ?_) | (with_reducible refine le_drew ?_) | (with_reducible refine le_drawsN ?_) | (dsimp only; with_reducible refine le_bel ?_) | (dsimp only; with_reducible refine Nat.le_refl _) | (dsimp only; with_reducible refine le_bel_add ?_) | (with_reducible assumption) | omega | (dsimp only; omega)))))
theorem union_any (lo hi a b : Nat) (w : World) (h1 : lo < 18446744073709551616) (h2 : hi < 18446744073709551616) (h3 : a < 18446744073709551616) (h4 : b < 18446744073709551616) :
    Calls Tryd.prog 22 #[.agg #[.int .u64 (lo : Int), .int .u64 (hi : Int)], .agg #[.int .u64 (a : Int), .int .u64 (b : Int)]] w (Ret (.agg #[.int .u64 (lo ||| a : Nat), .int .u64 (hi ||| b : Nat)]) w) := by
  have H1 := Lib.hid (u64_or_nat lo a h1 h3)
  have H2 := Lib.hid (u64_or_nat hi b h2 h4)
  go_enter Tryd.func22, Tryd.ntmps22
  go_wp2
  refine bodyPost_ret (v := .agg #[.int .u64 (bits .or .u64 lo a), .int .u64 (bits .or .u64 hi b)]) (by simp [results, Tryd.results22, go_sem]) rfl (Ret.mk (by exact set_val H1.out H2.out) (by (repeat' (first | (with_reducible exact Below.refl _ _) | (with_reducible exact Nat.le_refl _) | (with_reducible refine Below.bel ?_ ?_) | (with_reducible refine Below.alloc ?_ ?_ _) | (with_reducible refine Below.drew ?_) | (with_reducible refine Below.drawsN ?_ _) | (with_reducible refine Below.setCell ?_ ?_ _) | (with_reducible refine le_bel ?_) | (with_reducible refine le_alloc ?_) | (with_reducible refine le_setCell ?_) | (with_reducible refine le_drew ?_) | (with_reducible refine le_drawsN ?_) | (dsimp only; with_reducible refine le_bel ?_) | (dsimp only; with_reducible refine Nat.le_refl _) | (dsimp only; with_reducible refine le_bel_add ?_) | (with_reducible assumption) | omega | (dsimp only; omega)))))
theorem both_any (lo hi a b : Nat) (w : World) (h1 : lo < 18446744073709551616) (h2 : hi < 18446744073709551616) (h3 : a < 18446744073709551616) (h4 : b < 18446744073709551616) :
    Calls Tryd.prog 21 #[.agg #[.int .u64 (lo : Int), .int .u64 (hi : Int)], .agg #[.int .u64 (a : Int), .int .u64 (b : Int)]] w (Ret (.agg #[.int .u64 (lo &&& a : Nat), .int .u64 (hi &&& b : Nat)]) w) := by
  have H1 := Lib.hid (u64_and_nat lo a h1 h3)
  have H2 := Lib.hid (u64_and_nat hi b h2 h4)
  go_enter Tryd.func21, Tryd.ntmps21
  go_wp2
  refine bodyPost_ret (v := .agg #[.int .u64 (bits .and .u64 lo a), .int .u64 (bits .and .u64 hi b)]) (by simp [results, Tryd.results21, go_sem]) rfl (Ret.mk (by exact set_val H1.out H2.out) (by (repeat' (first | (with_reducible exact Below.refl _ _) | (with_reducible exact Nat.le_refl _) | (with_reducible refine Below.bel ?_ ?_) | (with_reducible refine Below.alloc ?_ ?_ _) | (with_reducible refine Below.drew ?_) | (with_reducible refine Below.drawsN ?_ _) | (with_reducible refine Below.setCell ?_ ?_ _) | (with_reducible refine le_bel ?_) | (with_reducible refine le_alloc ?_) | (with_reducible refine le_setCell ?_) | (with_reducible refine le_drew ?_) | (with_reducible refine le_drawsN ?_) | (dsimp only; with_reducible refine le_bel ?_) | (dsimp only; with_reducible refine Nat.le_refl _) | (dsimp only; with_reducible refine le_bel_add ?_) | (with_reducible assumption) | omega | (dsimp only; omega)))))
theorem without_any (lo hi a b : Nat) (w : World) (h1 : lo < 18446744073709551616) (h2 : hi < 18446744073709551616) (h3 : a < 18446744073709551616) (h4 : b < 18446744073709551616) :
    Calls Tryd.prog 20 #[.agg #[.int .u64 (lo : Int), .int .u64 (hi : Int)], .agg #[.int .u64 (a : Int), .int .u64 (b : Int)]] w (Ret (.agg #[.int .u64 (dif lo a : Nat), .int .u64 (dif hi b : Nat)]) w) := by
  have H1 := Lib.hid (u64_andNot_nat lo a h1 h3)
  have H2 := Lib.hid (u64_andNot_nat hi b h2 h4)
  go_enter Tryd.func20, Tryd.ntmps20
  go_wp2
  refine bodyPost_ret (v := .agg #[.int .u64 (bits .andNot .u64 lo a), .int .u64 (bits .andNot .u64 hi b)]) (by simp [results, Tryd.results20, go_sem]) rfl (Ret.mk (by exact set_val H1.out H2.out) (by (repeat' (first | (with_reducible exact Below.refl _ _) | (with_reducible exact Nat.le_refl _) | (with_reducible refine Below.bel ?_ ?_) | (with_reducible refine Below.alloc ?_ ?_ _) | (with_reducible refine Below.drew ?_) | (with_reducible refine Below.drawsN ?_ _) | (with_reducible refine Below.setCell ?_ ?_ _) | (with_reducible refine le_bel ?_) | (with_reducible refine le_alloc ?_) | (with_reducible refine le_setCell ?_) | (with_reducible refine le_drew ?_) | (with_reducible refine le_drawsN ?_) | (dsimp only; with_reducible refine le_bel ?_) | (dsimp only; with_reducible refine Nat.le_refl _) | (dsimp only; with_reducible refine le_bel_add ?_) | (with_reducible assumption) | omega | (dsimp only; omega)))))
/-- All that the first set has lies in the second. -/
def sub (lo hi a b : Nat) : Bool := dif lo a == 0 && dif hi b == 0
theorem within_any (lo hi a b : Nat) (w : World) (h1 : lo < 18446744073709551616) (h2 : hi < 18446744073709551616) (h3 : a < 18446744073709551616) (h4 : b < 18446744073709551616) :
    Calls Tryd.prog 23 #[.agg #[.int .u64 (lo : Int), .int .u64 (hi : Int)], .agg #[.int .u64 (a : Int), .int .u64 (b : Int)]] w (Ret (.bool (sub lo hi a b)) w) := by
  go_enter Tryd.func23, Tryd.ntmps23
  go_wp2_with fail
  (with_reducible refine (without_any _ _ _ _ _ h1 h2 h3 h4).mono ?_)
  rintro _ _ ⟨rfl, x1, rfl⟩
  go_wp2
  all_goals (go_ret; exact Ret.mk (by simp [sub, *]) (by (repeat' (first | (with_reducible exact Below.refl _ _) | (with_reducible exact Nat.le_refl _) | (with_reducible refine Below.bel ?_ ?_) | (with_reducible refine Below.alloc ?_ ?_ _) | (with_reducible refine Below.drew ?_) | (with_reducible refine Below.drawsN ?_ _) | (with_reducible refine Below.setCell ?_ ?_ _) | (with_reducible refine le_bel ?_) | (with_reducible refine le_alloc ?_) | (with_reducible refine le_setCell ?_) | (with_reducible refine le_drew ?_) | (with_reducible refine le_drawsN ?_) | (dsimp only; with_reducible refine le_bel ?_) | (dsimp only; with_reducible refine Nat.le_refl _) | (dsimp only; with_reducible refine le_bel_add ?_) | (with_reducible assumption) | omega | (dsimp only; omega)))))
theorem testBit_and1 (x n : Nat) (h : x < 18446744073709551616) : (bits .and .u64 ((x : Int) / 2 ^ n) 1 == 1) = x.testBit n := by
  have e : (x : Int) / 2 ^ n = ((x / 2 ^ n : Nat) : Int) := by simp
  have := u64_and_nat (x / 2 ^ n) 1 (Nat.lt_of_le_of_lt (Nat.div_le_self _ _) h) (by omega)
  rw [e, show (1 : Int) = ((1 : Nat) : Int) from rfl, this, Nat.testBit_eq_decide_div_mod_eq, Nat.and_one_is_mod, Bool.eq_iff_iff]
  simp only [beq_iff_eq, decide_eq_true_iff]
  omega
/-- The definition's membership at any int. -/
def memI (lo hi : Nat) (n : Int) : Bool := decide (0 ≤ n) && mem lo hi n.toNat
theorem sub_iff {lo hi a b : Nat} (h1 : lo < 18446744073709551616) (h2 : hi < 18446744073709551616) (h3 : a < 18446744073709551616) (h4 : b < 18446744073709551616) :
    sub lo hi a b = true ↔ ∀ n, n < 128 → mem lo hi n = true → mem a b n = true := by
  unfold sub
  rw [Bool.and_eq_true, beq_iff_eq, beq_iff_eq]
  constructor
  · intro ⟨e1, e2⟩ n _ hm
    have := mem_dif h1 h2 h3 h4 n
    rw [e1, e2, mem_zero, hm, Bool.true_and] at this
    cases h : mem a b n
    · rw [h] at this; cases this
    · rfl
  · intro h
    exact set_ext (dif_lt h1) (dif_lt h2) (by decide) (by decide) fun n hn => by
      rw [mem_dif h1 h2 h3 h4, mem_zero]
      cases hm : mem lo hi n
      · rfl
      · rw [h n hn hm]; rfl
theorem has_sub {lo hi k : Nat} (h1 : lo < 18446744073709551616) (h2 : hi < 18446744073709551616) (hk : k ≤ 127) : sub (withLo 0 k) (withHi 0 k) lo hi = memI lo hi (k : Int) := by
  have hs := sub_iff (withLo_lt k (show 0 < 18446744073709551616 by decide)) (withHi_lt k (show 0 < 18446744073709551616 by decide) hk) h1 h2
  rw [memI, decide_eq_true (by omega), Bool.true_and, Int.toNat_natCast, Bool.eq_iff_iff, hs]
  constructor
  · intro h
    exact h k (by omega) (by rw [mem_with]; simp)
  · intro h n _ hn
    rw [mem_with, mem_zero, Bool.false_or, decide_eq_true_iff] at hn
    rw [hn]; exact h
theorem has_out {lo hi : Nat} {n : Int} (h2 : hi < 18446744073709551616) (hn : ¬ (0 ≤ n ∧ n ≤ 127)) : false = memI lo hi n := by
  unfold memI
  by_cases h : 0 ≤ n
  · rw [mem_big h2 (by omega), Bool.and_false]
  · rw [decide_eq_false h, Bool.false_and]
theorem refhas_any (lo hi : Nat) (n : Int) (w : World) (h1 : lo < 18446744073709551616) (h2 : hi < 18446744073709551616) (b1 : -9223372036854775808 ≤ n) (b2 : n ≤ 9223372036854775807) :
    Calls Tryd.prog 25 #[.agg #[.int .u64 (lo : Int), .int .u64 (hi : Int)], .int .i64 n] w (Ret (.bool (memI lo hi n)) w) := by
  by_cases h0 : n < 0
  · have e0 : decide (n < 0) = true := by simpa using h0
    go_enter Tryd.func25, Tryd.ntmps25
    go_wp2
    go_ret
    exact Ret.mk (by exact val_bool (by rw [memI, decide_eq_false (by omega), Bool.false_and])) (by (repeat' (first | (with_reducible exact Below.refl _ _) | (with_reducible exact Nat.le_refl _) | (with_reducible refine Below.bel ?_ ?_) | (with_reducible refine Below.alloc ?_ ?_ _) | (with_reducible refine Below.drew ?_) | (with_reducible refine Below.drawsN ?_ _) | (with_reducible refine Below.setCell ?_ ?_ _) | (with_reducible refine le_bel ?_) | (with_reducible refine le_alloc ?_) | (with_reducible refine le_setCell ?_) | (with_reducible refine le_drew ?_) | (with_reducible refine le_drawsN ?_) | (dsimp only; with_reducible refine le_bel ?_) | (dsimp only; with_reducible refine Nat.le_refl _) | (dsimp only; with_reducible refine le_bel_add ?_) | (with_reducible assumption) | omega | (dsimp only; omega))))
  have e0 : decide (n < 0) = false := by simpa using h0
  by_cases h7 : 127 < n
  · have e7 : decide (127 < n) = true := by simpa using h7
    have H := Lib.hid (show false = memI lo hi n by rw [memI, mem_big h2 (by omega), Bool.and_false])
    go_enter Tryd.func25, Tryd.ntmps25
    go_wp2
    go_ret
    exact Ret.mk (by exact val_bool H.out) (by (repeat' (first | (with_reducible exact Below.refl _ _) | (with_reducible exact Nat.le_refl _) | (with_reducible refine Below.bel ?_ ?_) | (with_reducible refine Below.alloc ?_ ?_ _) | (with_reducible refine Below.drew ?_) | (with_reducible refine Below.drawsN ?_ _) | (with_reducible refine Below.setCell ?_ ?_ _) | (with_reducible refine le_bel ?_) | (with_reducible refine le_alloc ?_) | (with_reducible refine le_setCell ?_) | (with_reducible refine le_drew ?_) | (with_reducible refine le_drawsN ?_) | (dsimp only; with_reducible refine le_bel ?_) | (dsimp only; with_reducible refine Nat.le_refl _) | (dsimp only; with_reducible refine le_bel_add ?_) | (with_reducible assumption) | omega | (dsimp only; omega))))
  have e7 : decide (127 < n) = false := by simpa using h7
  obtain ⟨k, rfl⟩ := Int.eq_ofNat_of_zero_le (show 0 ≤ n by omega)
  by_cases h : (k : Int) < 64
  · have e : decide ((k : Int) < 64) = true := by simpa using h
    have H := Lib.hid (testBit_and1 lo k h1)
    go_enter Tryd.func25, Tryd.ntmps25
    go_wp2
    go_ret
    exact Ret.mk (by exact val_bool (by rw [H.out, memI, decide_eq_true (by omega), Bool.true_and, Int.toNat_natCast, mem, if_pos (by omega)])) (by (repeat' (first | (with_reducible exact Below.refl _ _) | (with_reducible exact Nat.le_refl _) | (with_reducible refine Below.bel ?_ ?_) | (with_reducible refine Below.alloc ?_ ?_ _) | (with_reducible refine Below.drew ?_) | (with_reducible refine Below.drawsN ?_ _) | (with_reducible refine Below.setCell ?_ ?_ _) | (with_reducible refine le_bel ?_) | (with_reducible refine le_alloc ?_) | (with_reducible refine le_setCell ?_) | (with_reducible refine le_drew ?_) | (with_reducible refine le_drawsN ?_) | (dsimp only; with_reducible refine le_bel ?_) | (dsimp only; with_reducible refine Nat.le_refl _) | (dsimp only; with_reducible refine le_bel_add ?_) | (with_reducible assumption) | omega | (dsimp only; omega))))
  · have e : decide ((k : Int) < 64) = false := by simpa using h
    have H := Lib.hid (testBit_and1 hi (k - 64) h2)
    go_enter Tryd.func25, Tryd.ntmps25
    go_wp2
    go_ret
    exact Ret.mk (by exact val_bool (by rw [H.out, memI, decide_eq_true (by omega), Bool.true_and, Int.toNat_natCast, mem, if_neg (by omega)])) (by (repeat' (first | (with_reducible exact Below.refl _ _) | (with_reducible exact Nat.le_refl _) | (with_reducible refine Below.bel ?_ ?_) | (with_reducible refine Below.alloc ?_ ?_ _) | (with_reducible refine Below.drew ?_) | (with_reducible refine Below.drawsN ?_ _) | (with_reducible refine Below.setCell ?_ ?_ _) | (with_reducible refine le_bel ?_) | (with_reducible refine le_alloc ?_) | (with_reducible refine le_setCell ?_) | (with_reducible refine le_drew ?_) | (with_reducible refine le_drawsN ?_) | (dsimp only; with_reducible refine le_bel ?_) | (dsimp only; with_reducible refine Nat.le_refl _) | (dsimp only; with_reducible refine le_bel_add ?_) | (with_reducible assumption) | omega | (dsimp only; omega))))
theorem count_any (lo hi : Nat) (w : World) (h1 : lo < 18446744073709551616) (h2 : hi < 18446744073709551616) :
    Calls Tryd.prog 24 #[.agg #[.int .u64 (lo : Int), .int .u64 (hi : Int)]] w (Ret (.int .i64 ((popc lo : Int) + (popc hi : Int))) w) := by
  have l1 := popc_le lo
  have l2 := popc_le hi
  go_enter Tryd.func24, Tryd.ntmps24
  go_wp2_with fail
  refine wp_region_bel (by kernel_rfl) (by kernel_rfl) ?_
  repeat (go_big_quiet_step ((go_at_call 51; exact bel_of_same (pop_any _ _ (by omega)))))
  refine wpQuiet_nil ?_
  rintro _ ⟨x1, rfl⟩
  go_wp2
  go_ret
  exact Ret.mk (by rfl) (by (repeat' (first | (with_reducible exact Below.refl _ _) | (with_reducible exact Nat.le_refl _) | (with_reducible refine Below.bel ?_ ?_) | (with_reducible refine Below.alloc ?_ ?_ _) | (with_reducible refine Below.drew ?_) | (with_reducible refine Below.drawsN ?_ _) | (with_reducible refine Below.setCell ?_ ?_ _) | (with_reducible refine le_bel ?_) | (with_reducible refine le_alloc ?_) | (with_reducible refine le_setCell ?_) | (with_reducible refine le_drew ?_) | (with_reducible refine le_drawsN ?_) | (dsimp only; with_reducible refine le_bel ?_) | (dsimp only; with_reducible refine Nat.le_refl _) | (dsimp only; with_reducible refine le_bel_add ?_) | (with_reducible assumption) | omega | (dsimp only; omega))))
theorem with_zero (k : Nat) (w : World) (hk : k ≤ 127) : Calls Tryd.prog 50 #[.agg #[.int .u64 0, .int .u64 0], .int .i64 (k : Int)] w (Ret (.agg #[.int .u64 (withLo 0 k : Nat), .int .u64 (withHi 0 k : Nat)]) w) :=
  with_any 0 0 k w (by decide) (by decide) hk
theorem has_any (lo hi : Nat) (n : Int) (w : World) (h1 : lo < 18446744073709551616) (h2 : hi < 18446744073709551616) :
    Calls Tryd.prog 26 #[.agg #[.int .u64 (lo : Int), .int .u64 (hi : Int)], .int .i64 n] w (Ret (.bool (memI lo hi n)) w) := by
  by_cases hn : 0 ≤ n ∧ n ≤ 127
  · have e1 : decide (0 ≤ n ∧ n ≤ 127) = true := by simpa using hn
    obtain ⟨k, rfl⟩ := Int.eq_ofNat_of_zero_le hn.1
    have hk : k ≤ 127 := by omega
    have H := Lib.hid (has_sub h1 h2 hk)
    have b1 := withLo_lt k (show 0 < 18446744073709551616 by decide)
    have b2 := withHi_lt k (show 0 < 18446744073709551616 by decide) hk
    go_enter Tryd.func26, Tryd.ntmps26
    go_wp2_with fail
    (with_reducible refine (isNote_any _ _).mono ?_)
    rintro _ _ ⟨rfl, rfl⟩
    rw [e1]
    clear hn e1
    go_wp2_with fail
    refine wp_region_bel (by kernel_rfl) (by kernel_rfl) ?_
    repeat (go_big_quiet_step ((first | (go_at_call 50; exact bel_of (with_zero k _ (by omega))) | (go_at_call 23; exact bel_of (within_any _ _ _ _ _ b1 b2 h1 h2)))))
    refine wpQuiet_nil ?_
    rintro _ ⟨x1, rfl⟩
    go_wp2
    go_ret
    exact Ret.mk (by exact val_bool H.out) (by (repeat' (first | (with_reducible exact Below.refl _ _) | (with_reducible exact Nat.le_refl _) | (with_reducible refine Below.bel ?_ ?_) | (with_reducible refine Below.alloc ?_ ?_ _) | (with_reducible refine Below.drew ?_) | (with_reducible refine Below.drawsN ?_ _) | (with_reducible refine Below.setCell ?_ ?_ _) | (with_reducible refine le_bel ?_) | (with_reducible refine le_alloc ?_) | (with_reducible refine le_setCell ?_) | (with_reducible refine le_drew ?_) | (with_reducible refine le_drawsN ?_) | (dsimp only; with_reducible refine le_bel ?_) | (dsimp only; with_reducible refine Nat.le_refl _) | (dsimp only; with_reducible refine le_bel_add ?_) | (with_reducible assumption) | omega | (dsimp only; omega))))
  · have e1 : decide (0 ≤ n ∧ n ≤ 127) = false := by simpa using hn
    have H := Lib.hid (has_out (lo := lo) h2 hn)
    go_enter Tryd.func26, Tryd.ntmps26
    go_wp2_with fail
    (with_reducible refine (isNote_any _ _).mono ?_)
    rintro _ _ ⟨rfl, rfl⟩
    rw [e1]
    clear hn e1
    go_wp2
    go_ret
    exact Ret.mk (by exact val_bool H.out) (by (repeat' (first | (with_reducible exact Below.refl _ _) | (with_reducible exact Nat.le_refl _) | (with_reducible refine Below.bel ?_ ?_) | (with_reducible refine Below.alloc ?_ ?_ _) | (with_reducible refine Below.drew ?_) | (with_reducible refine Below.drawsN ?_ _) | (with_reducible refine Below.setCell ?_ ?_ _) | (with_reducible refine le_bel ?_) | (with_reducible refine le_alloc ?_) | (with_reducible refine le_setCell ?_) | (with_reducible refine le_drew ?_) | (with_reducible refine le_drawsN ?_) | (dsimp only; with_reducible refine le_bel ?_) | (dsimp only; with_reducible refine Nat.le_refl _) | (dsimp only; with_reducible refine le_bel_add ?_) | (with_reducible assumption) | omega | (dsimp only; omega))))
/-- The error of a compass. -/
def cmpE (l h : Int) : Int := if l < 0 ∨ 127 < h then 3 else if h < l then 23 else 0
theorem cmpE_bad {l h : Int} (k : l < 0 ∨ 127 < h) : 3 = cmpE l h := by unfold cmpE; rw [if_pos k]
theorem cmpE_order {l h : Int} (k : ¬ (l < 0 ∨ 127 < h)) (k' : h < l) : 23 = cmpE l h := by unfold cmpE; rw [if_neg k, if_pos k']
theorem cmpE_ok {l h : Int} (k : ¬ (l < 0 ∨ 127 < h)) (k' : ¬ h < l) : 0 = cmpE l h := by unfold cmpE; rw [if_neg k, if_neg k']
theorem check_any (l h : Int) (w : World) : Calls Tryd.prog 31 #[.agg #[.int .i64 l, .int .i64 h]] w (Ret (.int .i64 (cmpE l h)) w) := by
  by_cases h1 : l < 0
  · have e1 : decide (l < 0) = true := by simpa using h1
    go_enter Tryd.func31, Tryd.ntmps31
    go_wp2
    go_ret
    exact Ret.mk (by exact val_i64 (cmpE_bad (by omega))) (by (repeat' (first | (with_reducible exact Below.refl _ _) | (with_reducible exact Nat.le_refl _) | (with_reducible refine Below.bel ?_ ?_) | (with_reducible refine Below.alloc ?_ ?_ _) | (with_reducible refine Below.drew ?_) | (with_reducible refine Below.drawsN ?_ _) | (with_reducible refine Below.setCell ?_ ?_ _) | (with_reducible refine le_bel ?_) | (with_reducible refine le_alloc ?_) | (with_reducible refine le_setCell ?_) | (with_reducible refine le_drew ?_) | (with_reducible refine le_drawsN ?_) | (dsimp only; with_reducible refine le_bel ?_) | (dsimp only; with_reducible refine Nat.le_refl _) | (dsimp only; with_reducible refine le_bel_add ?_) | (with_reducible assumption) | omega | (dsimp only; omega))))
  have e1 : decide (l < 0) = false := by simpa using h1
  by_cases h2 : 127 < h
  · have e2 : decide (127 < h) = true := by simpa using h2
    go_enter Tryd.func31, Tryd.ntmps31
    go_wp2
    go_ret
    exact Ret.mk (by exact val_i64 (cmpE_bad (by omega))) (by (repeat' (first | (with_reducible exact Below.refl _ _) | (with_reducible exact Nat.le_refl _) | (with_reducible refine Below.bel ?_ ?_) | (with_reducible refine Below.alloc ?_ ?_ _) | (with_reducible refine Below.drew ?_) | (with_reducible refine Below.drawsN ?_ _) | (with_reducible refine Below.setCell ?_ ?_ _) | (with_reducible refine le_bel ?_) | (with_reducible refine le_alloc ?_) | (with_reducible refine le_setCell ?_) | (with_reducible refine le_drew ?_) | (with_reducible refine le_drawsN ?_) | (dsimp only; with_reducible refine le_bel ?_) | (dsimp only; with_reducible refine Nat.le_refl _) | (dsimp only; with_reducible refine le_bel_add ?_) | (with_reducible assumption) | omega | (dsimp only; omega))))
  have e2 : decide (127 < h) = false := by simpa using h2
  by_cases h3 : h < l
  · have e3 : decide (h < l) = true := by simpa using h3
    go_enter Tryd.func31, Tryd.ntmps31
    go_wp2
    go_ret
    exact Ret.mk (by exact val_i64 (cmpE_order (by omega) h3)) (by (repeat' (first | (with_reducible exact Below.refl _ _) | (with_reducible exact Nat.le_refl _) | (with_reducible refine Below.bel ?_ ?_) | (with_reducible refine Below.alloc ?_ ?_ _) | (with_reducible refine Below.drew ?_) | (with_reducible refine Below.drawsN ?_ _) | (with_reducible refine Below.setCell ?_ ?_ _) | (with_reducible refine le_bel ?_) | (with_reducible refine le_alloc ?_) | (with_reducible refine le_setCell ?_) | (with_reducible refine le_drew ?_) | (with_reducible refine le_drawsN ?_) | (dsimp only; with_reducible refine le_bel ?_) | (dsimp only; with_reducible refine Nat.le_refl _) | (dsimp only; with_reducible refine le_bel_add ?_) | (with_reducible assumption) | omega | (dsimp only; omega))))
  have e3 : decide (h < l) = false := by simpa using h3
  go_enter Tryd.func31, Tryd.ntmps31
  go_wp2
  go_ret
  exact Ret.mk (by exact val_i64 (cmpE_ok (by omega) (by omega))) (by (repeat' (first | (with_reducible exact Below.refl _ _) | (with_reducible exact Nat.le_refl _) | (with_reducible refine Below.bel ?_ ?_) | (with_reducible refine Below.alloc ?_ ?_ _) | (with_reducible refine Below.drew ?_) | (with_reducible refine Below.drawsN ?_ _) | (with_reducible refine Below.setCell ?_ ?_ _) | (with_reducible refine le_bel ?_) | (with_reducible refine le_alloc ?_) | (with_reducible refine le_setCell ?_) | (with_reducible refine le_drew ?_) | (with_reducible refine le_drawsN ?_) | (dsimp only; with_reducible refine le_bel ?_) | (dsimp only; with_reducible refine Nat.le_refl _) | (dsimp only; with_reducible refine le_bel_add ?_) | (with_reducible assumption) | omega | (dsimp only; omega))))
theorem refright_any (l h : Int) (w : World) : Calls Tryd.prog 29 #[.agg #[.int .i64 l, .int .i64 h]] w (Ret (.int .i64 (cmpE l h)) w) := by
  by_cases h1 : l < 0
  · have e1 : decide (l < 0) = true := by simpa using h1
    go_enter Tryd.func29, Tryd.ntmps29
    go_wp2
    go_ret
    exact Ret.mk (by exact val_i64 (cmpE_bad (by omega))) (by (repeat' (first | (with_reducible exact Below.refl _ _) | (with_reducible exact Nat.le_refl _) | (with_reducible refine Below.bel ?_ ?_) | (with_reducible refine Below.alloc ?_ ?_ _) | (with_reducible refine Below.drew ?_) | (with_reducible refine Below.drawsN ?_ _) | (with_reducible refine Below.setCell ?_ ?_ _) | (with_reducible refine le_bel ?_) | (with_reducible refine le_alloc ?_) | (with_reducible refine le_setCell ?_) | (with_reducible refine le_drew ?_) | (with_reducible refine le_drawsN ?_) | (dsimp only; with_reducible refine le_bel ?_) | (dsimp only; with_reducible refine Nat.le_refl _) | (dsimp only; with_reducible refine le_bel_add ?_) | (with_reducible assumption) | omega | (dsimp only; omega))))
  have e1 : decide (l < 0) = false := by simpa using h1
  by_cases h2 : 127 < h
  · have e2 : decide (127 < h) = true := by simpa using h2
    go_enter Tryd.func29, Tryd.ntmps29
    go_wp2
    go_ret
    exact Ret.mk (by exact val_i64 (cmpE_bad (by omega))) (by (repeat' (first | (with_reducible exact Below.refl _ _) | (with_reducible exact Nat.le_refl _) | (with_reducible refine Below.bel ?_ ?_) | (with_reducible refine Below.alloc ?_ ?_ _) | (with_reducible refine Below.drew ?_) | (with_reducible refine Below.drawsN ?_ _) | (with_reducible refine Below.setCell ?_ ?_ _) | (with_reducible refine le_bel ?_) | (with_reducible refine le_alloc ?_) | (with_reducible refine le_setCell ?_) | (with_reducible refine le_drew ?_) | (with_reducible refine le_drawsN ?_) | (dsimp only; with_reducible refine le_bel ?_) | (dsimp only; with_reducible refine Nat.le_refl _) | (dsimp only; with_reducible refine le_bel_add ?_) | (with_reducible assumption) | omega | (dsimp only; omega))))
  have e2 : decide (127 < h) = false := by simpa using h2
  by_cases h3 : h < l
  · have e3 : decide (h < l) = true := by simpa using h3
    go_enter Tryd.func29, Tryd.ntmps29
    go_wp2
    go_ret
    exact Ret.mk (by exact val_i64 (cmpE_order (by omega) h3)) (by (repeat' (first | (with_reducible exact Below.refl _ _) | (with_reducible exact Nat.le_refl _) | (with_reducible refine Below.bel ?_ ?_) | (with_reducible refine Below.alloc ?_ ?_ _) | (with_reducible refine Below.drew ?_) | (with_reducible refine Below.drawsN ?_ _) | (with_reducible refine Below.setCell ?_ ?_ _) | (with_reducible refine le_bel ?_) | (with_reducible refine le_alloc ?_) | (with_reducible refine le_setCell ?_) | (with_reducible refine le_drew ?_) | (with_reducible refine le_drawsN ?_) | (dsimp only; with_reducible refine le_bel ?_) | (dsimp only; with_reducible refine Nat.le_refl _) | (dsimp only; with_reducible refine le_bel_add ?_) | (with_reducible assumption) | omega | (dsimp only; omega))))
  have e3 : decide (h < l) = false := by simpa using h3
  go_enter Tryd.func29, Tryd.ntmps29
  go_wp2
  go_ret
  exact Ret.mk (by exact val_i64 (cmpE_ok (by omega) (by omega))) (by (repeat' (first | (with_reducible exact Below.refl _ _) | (with_reducible exact Nat.le_refl _) | (with_reducible refine Below.bel ?_ ?_) | (with_reducible refine Below.alloc ?_ ?_ _) | (with_reducible refine Below.drew ?_) | (with_reducible refine Below.drawsN ?_ _) | (with_reducible refine Below.setCell ?_ ?_ _) | (with_reducible refine le_bel ?_) | (with_reducible refine le_alloc ?_) | (with_reducible refine le_setCell ?_) | (with_reducible refine le_drew ?_) | (with_reducible refine le_drawsN ?_) | (dsimp only; with_reducible refine le_bel ?_) | (dsimp only; with_reducible refine Nat.le_refl _) | (dsimp only; with_reducible refine le_bel_add ?_) | (with_reducible assumption) | omega | (dsimp only; omega))))
end Go.Proofs.YtjojdkdpdlmahaaDoor
