/- Sets of notes as two numbers below 2^64, and the count of bits: plain laws. No program in sight. -/
import Derived.WalkKit
import Derived.Laws.BitsAllLaws
import Derived.Laws.Bits128
import Derived.IntWalk
import Derived.Lib.BitFns
import Derived.Lib.TrailingZeros
namespace Go.Proofs.YtjojdkdpdlmahaaDoor
open Go.RowKit

/-! ### The count of bits -/
theorem and_cat (a b m M : Nat) (ha : a < 256) (hm : m < 256) : (b * 256 + a) &&& (M * 256 + m) = (b &&& M) * 256 + (a &&& m) := by
  have h : a &&& m < 2 ^ 8 := Nat.lt_of_le_of_lt Nat.and_le_left ha
  rw [Nat.mul_comm b, Nat.mul_comm M, Nat.mul_comm (b &&& M)]
  refine Nat.eq_of_testBit_eq fun i => ?_
  rw [Nat.testBit_and, show (256 : Nat) = 2 ^ 8 from rfl, Nat.testBit_two_pow_mul_add _ (by omega), Nat.testBit_two_pow_mul_add _ (by omega), Nat.testBit_two_pow_mul_add _ h]
  split <;> simp
def repB (m : Nat) : Nat → Nat
  | 0 => 0
  | k + 1 => repB m k * 256 + m
def mapB (f : Nat → Nat) : Nat → Nat → Nat
  | 0, _ => 0
  | k + 1, x => mapB f k (x / 256) * 256 + f (x % 256)
def t1 (a : Nat) : Nat := (a / 2 &&& 85) + (a &&& 85)
def t2 (a : Nat) : Nat := (a / 4 &&& 51) + (a &&& 51)
def t3 (a : Nat) : Nat := (a / 16 + a) &&& 15
theorem t1_lt : ∀ a : Fin 256, t1 a.val < 256 := by decide +kernel
theorem low1 : ∀ (b : Fin 2) (a : Fin 256), (b.val * 128 + a.val / 2) &&& 85 = a.val / 2 &&& 85 := by decide +kernel
theorem low2 : ∀ (b : Fin 4) (a : Fin 256), (b.val * 64 + a.val / 4) &&& 51 = a.val / 4 &&& 51 := by decide +kernel
theorem low3 : ∀ (b : Fin 5) (a : Fin 5) (c : Fin 5), (b.val * 16 + (a.val * 16 + c.val) / 16 + (a.val * 16 + c.val)) &&& 15 = t3 (a.val * 16 + c.val) := by decide +kernel
theorem t12_small : ∀ a : Fin 256, t2 (t1 a.val) < 256 ∧ t2 (t1 a.val) % 16 ≤ 4 ∧ t2 (t1 a.val) / 16 ≤ 4 := by decide +kernel
theorem step1 : ∀ (k x : Nat), x < 256 ^ k → (x / 2 &&& repB 85 k) + (x &&& repB 85 k) = mapB t1 k x := by
  intro k
  induction k with
  | zero => intro x _; simp [repB, mapB]
  | succ k ih =>
    intro x hx
    have h1 : x / 256 < 256 ^ k := by rw [Nat.pow_succ] at hx; omega
    have h2 := ih (x / 256) h1
    have e1 : x = x / 256 * 256 + x % 256 := by omega
    have e2 : x / 2 = x / 256 / 2 * 256 + (x / 256 % 2 * 128 + x % 256 / 2) := by omega
    unfold repB mapB
    have e3 := and_cat (x / 256 % 2 * 128 + x % 256 / 2) (x / 256 / 2) 85 (repB 85 k) (by omega) (by omega)
    have e4 := and_cat (x % 256) (x / 256) 85 (repB 85 k) (by omega) (by omega)
    rw [← e2] at e3
    rw [← e1] at e4
    rw [e3, e4, low1 ⟨x / 256 % 2, by omega⟩ ⟨x % 256, by omega⟩, ← h2]
    unfold t1
    dsimp only
    omega
theorem step2 : ∀ (k x : Nat), x < 256 ^ k → (x / 4 &&& repB 51 k) + (x &&& repB 51 k) = mapB t2 k x := by
  intro k
  induction k with
  | zero => intro x _; simp [repB, mapB]
  | succ k ih =>
    intro x hx
    have h1 : x / 256 < 256 ^ k := by rw [Nat.pow_succ] at hx; omega
    have h2 := ih (x / 256) h1
    have e1 : x = x / 256 * 256 + x % 256 := by omega
    have e2 : x / 4 = x / 256 / 4 * 256 + (x / 256 % 4 * 64 + x % 256 / 4) := by omega
    unfold repB mapB
    have e3 := and_cat (x / 256 % 4 * 64 + x % 256 / 4) (x / 256 / 4) 51 (repB 51 k) (by omega) (by omega)
    have e4 := and_cat (x % 256) (x / 256) 51 (repB 51 k) (by omega) (by omega)
    rw [← e2] at e3
    rw [← e1] at e4
    rw [e3, e4, low2 ⟨x / 256 % 4, by omega⟩ ⟨x % 256, by omega⟩, ← h2]
    unfold t2
    dsimp only
    omega
theorem mapB_lt (f : Nat → Nat) (hf : ∀ a, a < 256 → f a < 256) : ∀ (k x : Nat), mapB f k x < 256 ^ k := by
  intro k
  induction k with
  | zero => intro x; simp [mapB]
  | succ k ih =>
    intro x
    have h1 := ih (x / 256)
    have h2 := hf (x % 256) (by omega)
    unfold mapB
    rw [Nat.pow_succ]
    omega
theorem mapB_comp (f g : Nat → Nat) (hf : ∀ a, a < 256 → f a < 256) : ∀ (k x : Nat), mapB g k (mapB f k x) = mapB (fun a => g (f a)) k x := by
  intro k
  induction k with
  | zero => intro x; simp [mapB]
  | succ k ih =>
    intro x
    have h2 := hf (x % 256) (by omega)
    have e1 : mapB f (k + 1) x / 256 = mapB f k (x / 256) := by rw [mapB]; omega
    have e2 : mapB f (k + 1) x % 256 = f (x % 256) := by rw [mapB]; omega
    rw [mapB, e1, e2, ih, mapB]
theorem mapB_nib (f : Nat → Nat) (hf : ∀ a, a < 256 → f a < 256 ∧ f a % 16 ≤ 4 ∧ f a / 16 ≤ 4) : ∀ (k x : Nat), mapB f k x % 16 ≤ 4 := by
  intro k x
  cases k with
  | zero => simp [mapB]
  | succ k =>
    have h2 := hf (x % 256) (by omega)
    unfold mapB
    omega
theorem step3 (f : Nat → Nat) (hf : ∀ a, a < 256 → f a < 256 ∧ f a % 16 ≤ 4 ∧ f a / 16 ≤ 4) : ∀ (k x : Nat), (mapB f k x / 16 + mapB f k x) &&& repB 15 k = mapB (fun a => t3 (f a)) k x := by
  intro k
  induction k with
  | zero => intro x; simp [repB, mapB]
  | succ k ih =>
    intro x
    have h1 := ih (x / 256)
    have h2 := hf (x % 256) (by omega)
    have h3 := mapB_nib f hf k (x / 256)
    unfold repB mapB
    rw [← h1]
    generalize mapB f k (x / 256) = b at *
    generalize f (x % 256) = a at *
    have e1 : (b * 256 + a) / 16 + (b * 256 + a) = (b / 16 + b) * 256 + (b % 16 * 16 + a / 16 + a) := by omega
    rw [e1, and_cat _ _ _ _ (by omega) (by omega)]
    have e2 := low3 ⟨b % 16, by omega⟩ ⟨a / 16, by omega⟩ ⟨a % 16, by omega⟩
    dsimp only at e2
    rw [show a / 16 * 16 + a % 16 = a by omega] at e2
    rw [e2]
def p8 (a : Nat) : Nat := t3 (t2 (t1 a))
theorem p8_le : ∀ a : Fin 256, p8 a.val ≤ 8 := by decide +kernel
theorem p8_pop : ∀ a : Fin 256, p8 a.val = Lib.popAux 8 a.val := by decide +kernel
/-- The steps of OnesCount64 on natural numbers. -/
def swar (x : Nat) : Nat :=
  let x1 := (x / 2 &&& 6148914691236517205) + (x &&& 6148914691236517205)
  let x2 := (x1 / 4 &&& 3689348814741910323) + (x1 &&& 3689348814741910323)
  (x2 / 16 + x2) &&& 1085102592571150095
theorem swar_eq (x : Nat) (h : x < 18446744073709551616) : swar x = mapB p8 8 x := by
  unfold swar
  dsimp only
  have a1 := step1 8 x h
  rw [show repB 85 8 = 6148914691236517205 from rfl] at a1
  have a2 := step2 8 (mapB t1 8 x) (mapB_lt t1 (fun a ha => t1_lt ⟨a, ha⟩) 8 x)
  rw [show repB 51 8 = 3689348814741910323 from rfl] at a2
  have a3 := step3 (fun a => t2 (t1 a)) (fun a ha => t12_small ⟨a, ha⟩) 8 x
  rw [show repB 15 8 = 1085102592571150095 from rfl] at a3
  rw [a1, a2, mapB_comp t1 t2 (fun a ha => t1_lt ⟨a, ha⟩), a3]
  rfl
def popc (x : Nat) : Nat := Lib.popAux 64 x
theorem popAux_add (k f x : Nat) : Lib.popAux (k + f) x = Lib.popAux k x + Lib.popAux f (x / 2 ^ k) := by
  induction k generalizing x with
  | zero => simp [Lib.popAux]
  | succ k ih =>
    rw [show k + 1 + f = (k + f) + 1 by omega, Lib.popAux, Lib.popAux, ih, Nat.div_div_eq_div_mul, Nat.pow_succ, Nat.mul_comm 2]
    omega
theorem popAux_mod (k x : Nat) : Lib.popAux k (x % 2 ^ k) = Lib.popAux k x := by
  induction k generalizing x with
  | zero => simp [Lib.popAux]
  | succ k ih =>
    rw [Lib.popAux, Lib.popAux, ← ih (x / 2)]
    have e1 : x % 2 ^ (k + 1) % 2 = x % 2 := by rw [Nat.pow_succ, Nat.mul_comm, Nat.mod_mul_right_mod]
    have e2 : x % 2 ^ (k + 1) / 2 = x / 2 % 2 ^ k := by rw [Nat.pow_succ, Nat.mul_comm, Nat.mod_mul_right_div_self]
    rw [e1, e2]
theorem mapB_sum : ∀ (k x : Nat), Lib.popAux (8 * k) x = ((List.range k).map fun i => p8 (x / 256 ^ i % 256)).sum := by
  intro k
  induction k with
  | zero => intro x; simp [Lib.popAux]
  | succ k ih =>
    intro x
    rw [show 8 * (k + 1) = 8 + 8 * k by omega, popAux_add, ih, List.range_succ_eq_map, List.map_cons, List.sum_cons, List.map_map]
    congr 1
    · rw [Nat.pow_zero, Nat.div_one, p8_pop ⟨x % 256, by omega⟩]
      exact (popAux_mod 8 x).symm
    · congr 1
      refine List.map_congr_left fun i _ => ?_
      dsimp only [Function.comp_apply]
      rw [Nat.div_div_eq_div_mul, show (256 : Nat) ^ i.succ = 2 ^ 8 * 256 ^ i from (Nat.pow_succ ..).trans (Nat.mul_comm _ _)]
theorem dig_div (k c0 c1 c2 c3 c4 c5 c6 c7 : Nat) (hk : k < 256) (h0 : c0 ≤ k) (y : Nat) (hy : y = c0 + 256 * c1 + 65536 * c2 + 16777216 * c3 + 4294967296 * c4 + 1099511627776 * c5 + 281474976710656 * c6 + 72057594037927936 * c7) :
    y / 256 = c1 + 256 * c2 + 65536 * c3 + 16777216 * c4 + 4294967296 * c5 + 1099511627776 * c6 + 281474976710656 * c7 := by omega
theorem quarter (c0 c1 c2 c3 c4 c5 c6 c7 : Nat) (h0 : c0 ≤ 32) (h1 : c1 ≤ 32) (h2 : c2 ≤ 32) (h3 : c3 ≤ 32) (y : Nat) (hy : y = c0 + 256 * c1 + 65536 * c2 + 16777216 * c3 + 4294967296 * c4 + 1099511627776 * c5 + 281474976710656 * c6 + 72057594037927936 * c7) :
    y / 4294967296 = c4 + 256 * c5 + 65536 * c6 + 16777216 * c7 := by omega
set_option maxHeartbeats 1000000 in
theorem sum_last (c0 c1 c2 c3 c4 c5 c6 c7 : Nat) (h0 : c0 ≤ 8) (h1 : c1 ≤ 8) (h2 : c2 ≤ 8) (h3 : c3 ≤ 8) (h4 : c4 ≤ 8) (h5 : c5 ≤ 8) (h6 : c6 ≤ 8) (h7 : c7 ≤ 8) (y y1 y2 : Nat)
    (hy : y = (((((((0 * 256 + c7) * 256 + c6) * 256 + c5) * 256 + c4) * 256 + c3) * 256 + c2) * 256 + c1) * 256 + c0) (e1 : y1 = y + y / 256) (e2 : y2 = y1 + y1 / 65536) :
    y < 1000000000000000000 ∧ y1 < 2000000000000000000 ∧ y2 < 4000000000000000000 ∧ y2 + y2 / 4294967296 < 8000000000000000000 ∧ (y2 + y2 / 4294967296) % 128 = c0 + (c1 + (c2 + (c3 + (c4 + (c5 + (c6 + (c7 + 0))))))) := by
  have a1 := dig_div 8 c0 c1 c2 c3 c4 c5 c6 c7 (by omega) h0 y (by omega)
  have hy1 : y1 = (c0 + c1) + 256 * (c1 + c2) + 65536 * (c2 + c3) + 16777216 * (c3 + c4) + 4294967296 * (c4 + c5) + 1099511627776 * (c5 + c6) + 281474976710656 * (c6 + c7) + 72057594037927936 * c7 := by omega
  have a2 := dig_div 16 (c0 + c1) (c1 + c2) (c2 + c3) (c3 + c4) (c4 + c5) (c5 + c6) (c6 + c7) c7 (by omega) (by omega) y1 hy1
  have a3 := dig_div 16 (c1 + c2) (c2 + c3) (c3 + c4) (c4 + c5) (c5 + c6) (c6 + c7) c7 0 (by omega) (by omega) (y1 / 256) (by omega)
  rw [Nat.div_div_eq_div_mul] at a3
  have hy2 : y2 = (c0 + c1 + c2 + c3) + 256 * (c1 + c2 + c3 + c4) + 65536 * (c2 + c3 + c4 + c5) + 16777216 * (c3 + c4 + c5 + c6) + 4294967296 * (c4 + c5 + c6 + c7) + 1099511627776 * (c5 + c6 + c7) + 281474976710656 * (c6 + c7) + 72057594037927936 * c7 := by
    rw [e2, show (65536 : Nat) = 256 * 256 from rfl, a3, hy1]
    clear a1 a2 a3 hy e1 e2 hy1
    omega
  have b5 := quarter (c0 + c1 + c2 + c3) (c1 + c2 + c3 + c4) (c2 + c3 + c4 + c5) (c3 + c4 + c5 + c6) (c4 + c5 + c6 + c7) (c5 + c6 + c7) (c6 + c7) c7 (by omega) (by omega) (by omega) (by omega) y2 hy2
  clear a1 a2 a3 e1 e2
  have k0 : y < 1000000000000000000 := by clear hy1 hy2 b5; omega
  have k1 : y1 < 2000000000000000000 := by clear hy hy2 b5; omega
  have k2 : y2 < 4000000000000000000 := by clear hy hy1 b5; omega
  have k4 : y2 + y2 / 4294967296 = (c0 + c1 + c2 + c3 + c4 + c5 + c6 + c7) + 256 * ((c1 + c2 + c3 + c4) + (c5 + c6 + c7) + 256 * ((c2 + c3 + c4 + c5) + (c6 + c7)) + 65536 * ((c3 + c4 + c5 + c6) + c7) + 16777216 * (c4 + c5 + c6 + c7) + 4294967296 * (c5 + c6 + c7) + 1099511627776 * (c6 + c7) + 281474976710656 * c7) := by
    rw [b5, hy2]; clear hy hy1 hy2 b5 k0 k1 k2; omega
  refine ⟨k0, k1, k2, ?_, ?_⟩
  · clear hy hy1 hy2 b5 k4 k0 k1; omega
  · rw [k4]
    clear hy hy1 hy2 b5 k0 k1 k2 k4
    generalize (c1 + c2 + c3 + c4) + (c5 + c6 + c7) + 256 * ((c2 + c3 + c4 + c5) + (c6 + c7)) + 65536 * ((c3 + c4 + c5 + c6) + c7) + 16777216 * (c4 + c5 + c6 + c7) + 4294967296 * (c5 + c6 + c7) + 1099511627776 * (c6 + c7) + 281474976710656 * c7 = K
    omega
/-- The last steps. -/
theorem swar_last (x y y1 y2 : Nat) (hy : y = mapB p8 8 x) (e1 : y1 = y + y / 256) (e2 : y2 = y1 + y1 / 65536) :
    y < 1000000000000000000 ∧ y1 < 2000000000000000000 ∧ y2 < 4000000000000000000 ∧ y2 + y2 / 4294967296 < 8000000000000000000 ∧ (y2 + y2 / 4294967296) % 128 = popc x := by
  have hs := mapB_sum 8 x
  simp only [List.range, List.range.loop, List.map_cons, List.map_nil, List.sum_cons, List.sum_nil, Nat.pow_succ, Nat.pow_zero, Nat.one_mul, ← Nat.div_div_eq_div_mul, Nat.div_one] at hs
  rw [show Lib.popAux (8 * 8) x = popc x from rfl] at hs
  rw [hs]
  have hp : ∀ n, p8 (n % 256) ≤ 8 := fun n => p8_le ⟨n % 256, by omega⟩
  exact sum_last _ _ _ _ _ _ _ _ (hp _) (hp _) (hp _) (hp _) (hp _) (hp _) (hp _) (hp _) y y1 y2 hy e1 e2
theorem le_aux (b c K : Nat) (h1 : b * 255 + 68 ≤ 68 * K) (h2 : c ≤ 68) : (b * 256 + c) * 255 + 68 ≤ 68 * (K * 256) := by
  have e1 : (b * 256 + c) * 255 = b * 65280 + c * 255 := by rw [Nat.add_mul, Nat.mul_assoc]
  have h3 := Nat.mul_le_mul_right 256 h1
  rw [Nat.mul_assoc] at h3
  rw [e1]
  generalize 68 * (K * 256) = Z at *
  clear h1 e1
  omega
theorem mapB_le (f : Nat → Nat) (hf : ∀ a, a < 256 → f a ≤ 68) : ∀ (k x : Nat), mapB f k x * 255 + 68 ≤ 68 * 256 ^ k := by
  intro k
  induction k with
  | zero => intro x; simp [mapB]
  | succ k ih =>
    intro x
    have h1 := ih (x / 256)
    have h2 := hf (x % 256) (by omega)
    have h3 : (256 : Nat) ^ (k + 1) = 256 ^ k * 256 := rfl
    rw [h3, mapB]
    generalize (256 : Nat) ^ k = K at *
    generalize mapB f k (x / 256) = b at *
    generalize f (x % 256) = c at *
    exact le_aux b c K h1 h2
theorem t12_le : ∀ a : Fin 256, t2 (t1 a.val) ≤ 68 := by decide +kernel
theorem add_and (x d M : Nat) (hx : x < 18446744073709551616) (hM : M < 18446744073709551616) (z : Nat) (hz : (x / d &&& M) + (x &&& M) = z) (h : z < 18446744073709551616) :
    IntKind.u64.wrap (bits .and .u64 ((x : Int) / (d : Int)) (M : Int) + bits .and .u64 (x : Int) (M : Int)) = (z : Int) := by
  rw [← Int.natCast_ediv, u64_and_nat _ _ (Nat.lt_of_le_of_lt (Nat.div_le_self _ _) hx) hM, u64_and_nat _ _ hx hM, ← Int.natCast_add, hz, IntKind.wrap_u64, Int.emod_eq_of_lt (by omega) (by omega)]
theorem wrap_sh (y d : Nat) (h : y + y / d < 18446744073709551616) : IntKind.u64.wrap ((y : Int) + (y : Int) / (d : Int)) = ((y + y / d : Nat) : Int) := by
  rw [← Int.natCast_ediv]
  generalize y / d = q at *
  rw [← Int.natCast_add, IntKind.wrap_u64, Int.emod_eq_of_lt (by omega) (by omega)]
/-- OnesCount64 as the walk leaves it. -/
theorem pop_steps (x : Nat) (h : x < 18446744073709551616) : ∃ x1 x2 y y1 y2 y3 : Nat,
    IntKind.u64.wrap (bits .and .u64 ((x : Int) / 2) 6148914691236517205 + bits .and .u64 (x : Int) 6148914691236517205) = (x1 : Int) ∧
    IntKind.u64.wrap (bits .and .u64 ((x1 : Int) / 4) 3689348814741910323 + bits .and .u64 (x1 : Int) 3689348814741910323) = (x2 : Int) ∧
    bits .and .u64 (IntKind.u64.wrap ((x2 : Int) / 16 + (x2 : Int))) 1085102592571150095 = (y : Int) ∧
    IntKind.u64.wrap ((y : Int) + (y : Int) / 256) = (y1 : Int) ∧ IntKind.u64.wrap ((y1 : Int) + (y1 : Int) / 65536) = (y2 : Int) ∧ IntKind.u64.wrap ((y2 : Int) + (y2 : Int) / 4294967296) = (y3 : Int) ∧
    bits .and .i64 (wrap64 (y3 : Int)) 127 = (popc x : Int) := by
  have a1 := step1 8 x h
  rw [show repB 85 8 = 6148914691236517205 from rfl] at a1
  have a2 := step2 8 (mapB t1 8 x) (mapB_lt t1 (fun a ha => t1_lt ⟨a, ha⟩) 8 x)
  rw [show repB 51 8 = 3689348814741910323 from rfl, mapB_comp t1 t2 (fun a ha => t1_lt ⟨a, ha⟩)] at a2
  have a3 := step3 (fun a => t2 (t1 a)) (fun a ha => t12_small ⟨a, ha⟩) 8 x
  rw [show repB 15 8 = 1085102592571150095 from rfl] at a3
  have b1 := mapB_lt t1 (fun a ha => t1_lt ⟨a, ha⟩) 8 x
  have b2 := mapB_le (fun a => t2 (t1 a)) (fun a ha => t12_le ⟨a, ha⟩) 8 x
  have hc := swar_last x
  rw [show (fun a => t3 (t2 (t1 a))) = p8 from rfl] at a3
  rw [show (256 : Nat) ^ 8 = 18446744073709551616 from rfl] at b1 b2
  generalize mapB t1 8 x = x1 at *
  generalize mapB (fun a => t2 (t1 a)) 8 x = x2 at *
  generalize mapB p8 8 x = y at *
  obtain ⟨y1, hy1⟩ : ∃ y1, y1 = y + y / 256 := ⟨_, rfl⟩
  obtain ⟨y2, hy2⟩ : ∃ y2, y2 = y1 + y1 / 65536 := ⟨_, rfl⟩
  obtain ⟨c1, c2, c3, c4, c5⟩ := hc y y1 y2 rfl hy1 hy2
  refine ⟨x1, x2, y, y1, y2, y2 + y2 / 4294967296, add_and x 2 6148914691236517205 h (by omega) x1 a1 b1, add_and x1 4 3689348814741910323 b1 (by omega) x2 a2 (by omega), ?_, ?_, ?_, wrap_sh y2 4294967296 (by omega), ?_⟩
  · have e1 : IntKind.u64.wrap ((x2 : Int) / 16 + (x2 : Int)) = ((x2 / 16 + x2 : Nat) : Int) := by
      rw [show (16 : Int) = ((16 : Nat) : Int) from rfl, ← Int.natCast_ediv, ← Int.natCast_add, IntKind.wrap_u64, Int.emod_eq_of_lt (by omega) (by omega)]
    rw [e1]
    have := u64_and_nat (x2 / 16 + x2) 1085102592571150095 (by omega) (by omega)
    rw [a3] at this
    exact this
  · rw [hy1]; exact wrap_sh y 256 (by omega)
  · rw [hy2]; exact wrap_sh y1 65536 (by omega)
  · rw [IntWalk.wrap64_in _ (by omega), i64_and127, ← c5]
    omega
end Go.Proofs.YtjojdkdpdlmahaaDoor
