/- Limbs of nine digits: plain Lean. Magnitudes in memory: slices of limbs; trim, compare. Sums and differences of magnitudes. Digits: plain laws. No program in sight. Decimal texts: plain laws. No program in sight. -/
import Derived.Test.YtehgeoipbgpocaaGreatDoorProg
import Derived.Lib.Itoa
import Derived.Lib.ItoaLen
import Derived.Lib.ItoaMem
import Derived.Test.YtehgeoipbgpocaaGreatDoorCm
namespace Go.Proofs.YtehgeoipbgpocaaGreatDoor.I
set_option linter.unusedVariables false
set_option linter.unusedSimpArgs false

/-- The value of limbs, the lowest first, at a base. -/
def valB (B : Nat) : List Nat → Nat
  | [] => 0
  | x :: r => x + B * valB B r
/-- Without zeros at the end. -/
def trimL (l : List Nat) : List Nat := (l.reverse.dropWhile (· == 0)).reverse
/-- The limbs of a number. -/
def limbs (B n : Nat) : List Nat := if h : n = 0 ∨ B ≤ 1 then [] else n % B :: limbs B (n / B)
termination_by n
decreasing_by exact Nat.div_lt_self (by omega) (by omega)

theorem limbs_zero (B : Nat) : limbs B 0 = [] := by rw [limbs]; simp
theorem limbs_pos {B n : Nat} (hB : 1 < B) (hn : n ≠ 0) : limbs B n = n % B :: limbs B (n / B) := by
  rw [limbs, dif_neg (by omega)]
theorem valB_limbs {B : Nat} (hB : 1 < B) (n : Nat) : valB B (limbs B n) = n := by
  induction n using Nat.strongRecOn with
  | ind n ih =>
    by_cases hn : n = 0
    · rw [hn, limbs_zero]; rfl
    · rw [limbs_pos hB hn, valB, ih (n / B) (Nat.div_lt_self (by omega) hB)]
      exact Nat.mod_add_div n B
theorem limbs_lt {B : Nat} (hB : 1 < B) (n : Nat) : ∀ x ∈ limbs B n, x < B := by
  induction n using Nat.strongRecOn with
  | ind n ih =>
    by_cases hn : n = 0
    · rw [hn, limbs_zero]; simp
    · rw [limbs_pos hB hn]
      intro x hx
      rcases List.mem_cons.1 hx with rfl | hx
      · exact Nat.mod_lt _ (by omega)
      · exact ih (n / B) (Nat.div_lt_self (by omega) hB) x hx
theorem valB_snoc (B : Nat) (x : Nat) : ∀ l : List Nat, valB B (l ++ [x]) = valB B l + B ^ l.length * x
  | [] => by simp [valB]
  | y :: r => by
    simp only [List.cons_append, valB, valB_snoc B x r, List.length_cons, Nat.pow_succ]
    rw [Nat.mul_add, Nat.mul_comm (B ^ r.length) B, Nat.mul_assoc]; omega
theorem valB_app (B : Nat) : ∀ l m : List Nat, valB B (l ++ m) = valB B l + B ^ l.length * valB B m
  | [], m => by simp [valB]
  | y :: r, m => by
    simp only [List.cons_append, valB, valB_app B r m, List.length_cons, Nat.pow_succ]
    rw [Nat.mul_add, Nat.mul_comm (B ^ r.length) B, Nat.mul_assoc]; omega
theorem valB_lt {B : Nat} (hB : 1 < B) : ∀ {l : List Nat}, (∀ x ∈ l, x < B) → valB B l < B ^ l.length
  | [], _ => by simp [valB]
  | y :: r, h => by
    have h1 := valB_lt hB (l := r) (fun x hx => h x (List.mem_cons_of_mem _ hx))
    have h2 := h y List.mem_cons_self
    simp only [valB, List.length_cons, Nat.pow_succ]
    have h3 : B * (valB B r + 1) ≤ B * B ^ r.length := Nat.mul_le_mul_left _ h1
    rw [Nat.mul_add, Nat.mul_comm B (B ^ r.length)] at h3
    omega
theorem valB_take {B : Nat} {l : List Nat} {i x : Nat} (h : l[i]? = some x) : valB B (l.take (i + 1)) = valB B (l.take i) + B ^ i * x := by
  have hi := (List.getElem?_eq_some_iff.1 h).1
  have hx := (List.getElem?_eq_some_iff.1 h).2
  rw [List.take_succ_eq_append_getElem hi, valB_snoc, List.length_take, Nat.min_eq_left (by omega), hx]
theorem trimL_snoc_zero (l : List Nat) : trimL (l ++ [0]) = trimL l := by simp [trimL]
theorem trimL_snoc {x : Nat} (hx : x ≠ 0) (l : List Nat) : trimL (l ++ [x]) = l ++ [x] := by simp [trimL, hx]
theorem trimL_nil : trimL [] = [] := rfl
theorem snoc_cases (l : List Nat) : l = [] ∨ ∃ m x, l = m ++ [x] := by
  cases h : l.reverse with
  | nil => left; simpa using h
  | cons x m => right; exact ⟨m.reverse, x, by rw [← List.reverse_reverse l, h]; simp⟩
theorem valB_trimL (B : Nat) (l : List Nat) : valB B (trimL l) = valB B l := by
  induction hn : l.length generalizing l with
  | zero => rw [List.length_eq_zero_iff.1 hn]; rfl
  | succ n ih =>
    rcases snoc_cases l with rfl | ⟨m, x, rfl⟩
    · simp at hn
    · by_cases hx : x = 0
      · subst hx
        rw [trimL_snoc_zero, ih m (by simpa using hn), valB_snoc]; simp
      · rw [trimL_snoc hx]
/-- Limbs below the base whose last one is not 0 are the limbs of their value. -/
theorem limbs_canon {B : Nat} (hB : 1 < B) : ∀ {l : List Nat}, (∀ x ∈ l, x < B) → (∀ m x, l = m ++ [x] → x ≠ 0) → limbs B (valB B l) = l
  | [], _, _ => limbs_zero B
  | y :: r, h, hl => by
    have hr : limbs B (valB B r) = r := limbs_canon hB (fun x hx => h x (List.mem_cons_of_mem _ hx)) (fun m x hm => hl (y :: m) x (by rw [hm]; rfl))
    have hy := h y List.mem_cons_self
    have h0 : valB B (y :: r) ≠ 0 := by
      intro h0
      simp only [valB] at h0
      have h1 : y = 0 := by omega
      have h2 : valB B r = 0 := by
        have : B * valB B r = 0 := by omega
        rcases Nat.mul_eq_zero.1 this with h | h
        · omega
        · exact h
      rw [h2, limbs_zero] at hr
      exact hl [] y (by rw [← hr]; rfl) h1
    rw [limbs_pos hB h0]
    simp only [valB]
    rw [Nat.add_mul_mod_self_left, Nat.mod_eq_of_lt hy, Nat.add_mul_div_left _ _ (by omega), Nat.div_eq_of_lt hy, Nat.zero_add, hr]
theorem trimL_limbs {B : Nat} (hB : 1 < B) {l : List Nat} (h : ∀ x ∈ l, x < B) : trimL l = limbs B (valB B l) := by
  induction hn : l.length generalizing l with
  | zero => rw [List.length_eq_zero_iff.1 hn]; exact (limbs_zero B).symm
  | succ n ih =>
    rcases snoc_cases l with rfl | ⟨m, x, rfl⟩
    · simp at hn
    · by_cases hx : x = 0
      · subst hx
        rw [trimL_snoc_zero, ih (fun x hx => h x (by simp [hx])) (by simpa using hn), valB_snoc]; simp
      · rw [trimL_snoc hx, limbs_canon hB h]
        intro m' x' hm
        have := (List.append_inj' hm rfl).2
        simp at this
        omega
theorem trimL_val {B : Nat} (hB : 1 < B) {l : List Nat} {n : Nat} (h : ∀ x ∈ l, x < B) (hv : valB B l = n) : trimL l = limbs B n := by rw [trimL_limbs hB h, hv]
theorem limbs_last {B : Nat} (hB : 1 < B) (n : Nat) : ∀ m x, limbs B n = m ++ [x] → x ≠ 0 := by
  intro m x h hx
  have h1 := trimL_limbs hB (limbs_lt hB n)
  rw [valB_limbs hB, h, hx, trimL_snoc_zero] at h1
  have h2 : (trimL m).length ≤ m.length := by
    unfold trimL
    rw [List.length_reverse]
    exact Nat.le_trans (List.dropWhile_sublist _).length_le (by simp)
  have h3 := congrArg List.length h1
  simp at h3; omega
/-- How long: the number lies below the power of its length, and not below the one before. -/
theorem limbs_bounds {B : Nat} (hB : 1 < B) (n : Nat) : n < B ^ (limbs B n).length ∧ (n ≠ 0 → B ^ ((limbs B n).length - 1) ≤ n) := by
  have h1 := valB_lt hB (limbs_lt hB n)
  rw [valB_limbs hB] at h1
  refine ⟨h1, fun hn => ?_⟩
  rcases snoc_cases (limbs B n) with h | ⟨m, x, h⟩
  · have := valB_limbs hB n; rw [h] at this; simp [valB] at this; omega
  · have hx := limbs_last hB n m x h
    have := valB_limbs hB n
    rw [h, valB_snoc] at this
    rw [h]; simp
    have h4 : B ^ m.length * 1 ≤ B ^ m.length * x := Nat.mul_le_mul_left _ (by omega)
    omega
theorem limbs_len_le {B : Nat} (hB : 1 < B) {n k : Nat} (h : n < B ^ k) : (limbs B n).length ≤ k := by
  by_cases hn : n = 0
  · rw [hn, limbs_zero]; simp
  · have h1 := (limbs_bounds hB n).2 hn
    have h2 := Nat.lt_of_le_of_lt h1 h
    have h3 := (Nat.pow_lt_pow_iff_right hB).1 h2
    omega
theorem limbs_nil {B : Nat} (hB : 1 < B) {n : Nat} : limbs B n = [] ↔ n = 0 := by
  constructor
  · intro h; have := valB_limbs hB n; rw [h] at this; simpa [valB] using this.symm
  · rintro rfl; exact limbs_zero B
end Go.Proofs.YtehgeoipbgpocaaGreatDoor.I

namespace Go.Proofs.YtehgeoipbgpocaaGreatDoor.I
set_option linter.unusedVariables false
set_option linter.unusedSimpArgs false
open Go.RowKit
attribute [local go_sem low] Bel.cell Bel.frozen alloc_cell alloc_frozen

theorem val_i64 {a b : Int} (h : a = b) : Value.int .i64 a = Value.int .i64 b := by rw [h]
theorem val_bool {a b : Bool} (h : a = b) : Value.bool a = Value.bool b := by rw [h]
theorem Tryz.infoU : (Tryz.prog.info? 76).map (fun i => (i.zero, i.size, i.bytes)) = some (some (.int .u64 0), 1, 8) := by kernel_rfl
def uVs (l : List Nat) : List Value := l.map fun n : Nat => Value.int .u64 (n : Int)
theorem uVs_len (l : List Nat) : (uVs l).length = l.length := List.length_map _
theorem uVs_snoc (l : List Nat) (n : Nat) : uVs l ++ [.int .u64 (n : Int)] = uVs (l ++ [n]) := by unfold uVs; rw [List.map_append]; rfl
theorem uVs_get {l : List Nat} {j n : Nat} (h : l[j]? = some n) : (uVs l)[j]? = some (.int .u64 (n : Int)) := by unfold uVs; rw [List.getElem?_map, h]; rfl
theorem uVs_take (l : List Nat) (k : Nat) : uVs (l.take k) = (uVs l).take k := by unfold uVs; rw [List.map_take]
/-- The cells of a slice that shows limbs. -/
def Limbs (w : World) (a : Option Addr) (l : List Nat) : Prop := 0 < l.length → ∃ b off, a = some ⟨b, off, none⟩ ∧ ∀ (j x : Nat), l[j]? = some x → w.cell? ⟨b, off + j, none⟩ = some (.int .u64 (x : Int))
theorem limbs_of {w w' : World} {a : Option Addr} {l : List Nat} (h : Limbs w a l) (hb : Below w.heap.size w w') : Limbs w' a l := fun h0 => by
  obtain ⟨b, off, ha, hc⟩ := h h0
  exact ⟨b, off, ha, fun j x hj => cell_carry hb (hc j x hj)⟩
theorem limbs_take {w : World} {a : Option Addr} {l : List Nat} (h : Limbs w a l) (k : Nat) : Limbs w a (l.take k) := fun h0 => by
  obtain ⟨b, off, ha, hc⟩ := h (by rw [List.length_take] at h0; omega)
  refine ⟨b, off, ha, fun j x hj => hc j x ?_⟩
  rw [List.getElem?_take] at hj
  split at hj
  · exact hj
  · cases hj
theorem limbs_nilv (w : World) (a : Option Addr) : Limbs w a [] := fun h => absurd h (by decide)
/-- What the call owns, as such a slice. -/
theorem limbs_own {w : World} {base : Nat} {v : Value} {l : List Nat} (h : OwnV w base 76 v (uVs l)) : ∃ a cap, v = .slice a l.length cap ∧ Limbs w a l := by
  obtain ⟨a, cap, hv, hc⟩ := showsV_at (ownV_shows h)
  rw [uVs_len] at hv hc
  refine ⟨a, cap, hv, fun h0 => ?_⟩
  obtain ⟨b, off, ha, hcc⟩ := hc h0
  exact ⟨b, off, ha, fun j x hj => hcc j _ (uVs_get hj)⟩
theorem own_take {w : World} {base : Nat} {e : TypeId} {a : Option Addr} {cap : Nat} {l : List Value} {k : Nat} (h : OwnV w base e (.slice a l.length cap) l) (hk : k ≤ l.length) : OwnV w base e (.slice a k cap) (l.take k) := by
  have hlen : (l.take k).length = k := by rw [List.length_take]; omega
  refine ⟨by rw [hlen]; omega, ?_⟩
  rcases h.2 with ⟨hv, h0⟩ | ⟨g, cap', cur, hv, hb, hg, hc, hm, hs, ht⟩
  · have hk0 : k = 0 := by omega
    injection hv with e1 e2 e3
    subst e1 e3
    exact .inl ⟨by rw [hk0], by rw [hlen]; omega⟩
  · injection hv with e1 e2 e3
    subst e1 e3
    refine .inr ⟨g, cap, cur, by rw [hlen], hb, hg, by rw [hlen]; omega, hm, hs, ?_⟩
    rw [hlen, Nat.mul_one, ← ht, List.take_take, Nat.mul_one, Nat.min_eq_left hk]
theorem trim_prefix (l : List Nat) : ∃ k, k ≤ l.length ∧ trimL l = l.take k := by
  induction hn : l.length generalizing l with
  | zero => exact ⟨0, by omega, by rw [List.length_eq_zero_iff.1 hn]; rfl⟩
  | succ n ih =>
    rcases snoc_cases l with rfl | ⟨m, x, rfl⟩
    · simp at hn
    · by_cases hx : x = 0
      · subst hx
        obtain ⟨k, hk, he⟩ := ih m (by simpa using hn)
        have hmn : m.length = n := by simpa using hn
        exact ⟨k, by omega, by rw [trimL_snoc_zero, he, List.take_append_of_le_length (by omega)]⟩
      · exact ⟨(m ++ [x]).length, by omega, by rw [trimL_snoc hx, List.take_length]⟩
theorem trimL_len (l : List Nat) : (trimL l).length ≤ l.length := by
  obtain ⟨k, hk, he⟩ := trim_prefix l
  rw [he, List.length_take]; omega
theorem own_trim {w : World} {base : Nat} {e : TypeId} {a : Option Addr} {cap : Nat} {l : List Nat} (h : OwnV w base e (.slice a l.length cap) (uVs l)) : OwnV w base e (.slice a (trimL l).length cap) (uVs (trimL l)) := by
  obtain ⟨k, hk, he⟩ := trim_prefix l
  rw [he, uVs_take, show (l.take k).length = k by rw [List.length_take]; omega]
  rw [← uVs_len] at h hk
  exact own_take h hk
set_option maxHeartbeats 1600000 in
theorem trim_any (a : Option Addr) (cap : Nat) (l : List Nat) (w : World) (h : Limbs w a l) (hl : l.length ≤ 100000) (hc : l.length ≤ cap) :
    Calls Tryz.prog 215 #[.slice a l.length cap] w (Ret (.slice a (trimL l).length cap) w) := by
  go_enter Tryz.func215, Tryz.ntmps215
  go_wp2
  go_loopw [0] (fun v wr => ∃ k : Nat, k ≤ l.length ∧ v = .slice a k cap ∧ trimL (l.take k) = trimL l ∧ Below w.heap.size w wr) (fun v _ => match v with | .slice _ k _ => k | _ => 0)
  case atStart => exact ⟨l.length, by omega, rfl, by rw [List.take_length], by (repeat' (first | (with_reducible first | apply Zl1 | apply Zl2 | apply Zl3 | apply Zl4 | apply Zl5 | apply Zl6 | apply Zl7 | apply Zl8 | apply Zl9 | apply Zla | apply Zlb | apply Zlc) | (dsimp only; with_reducible first | apply Zl8 | apply Zl2 | apply Zld) | with_reducible assumption | omega | (dsimp only; omega)))⟩
  case round =>
    obtain ⟨k, hk, rfl, ht, hb⟩ := hrel
    have hbs := hb.size
    by_cases h0 : k = 0
    · subst h0
      have HT := Lib.hid (show (trimL l).length = 0 by rw [← ht]; rfl)
      clear ht
      go_wp2
      go_ret
      exact Ret.mk (by rw [HT.out]; rfl) (by (repeat' (first | (with_reducible first | apply Zl1 | apply Zl2 | apply Zl3 | apply Zl4 | apply Zl5 | apply Zl6 | apply Zl7 | apply Zl8 | apply Zl9 | apply Zla | apply Zlb | apply Zlc) | (dsimp only; with_reducible first | apply Zl8 | apply Zl2 | apply Zld) | with_reducible assumption | omega | (dsimp only; omega))))
    · obtain ⟨j, rfl⟩ : ∃ j, k = j + 1 := ⟨k - 1, by omega⟩
      obtain ⟨b, off, rfl, hcc⟩ := h (by omega)
      obtain ⟨x, hx⟩ : ∃ x, l[j]? = some x := ⟨_, List.getElem?_eq_getElem (by omega)⟩
      have hc1 := cell_carry hb (hcc j x hx)
      have e1 : l.take (j + 1) = l.take j ++ [x] := by rw [List.take_add_one, hx]; rfl
      have t1 : IntKind.i64.wrap (((j + 1 : Nat) : Int) - 1) = (j : Int) := by rw [IntWalk.i64_in _ (by omega)]; omega
      have t0 : decide (0 < ((j + 1 : Nat) : Int)) = true := decide_eq_true (by omega)
      have hj1 : (j : Int) < ((j + 1 : Nat) : Int) := by omega
      have hjc : (j : Int) ≤ (cap : Int) := by omega
      generalize hK : ((j + 1 : Nat) : Int) = K at *
      by_cases hx0 : x = 0
      · subst hx0
        have HT := Lib.hid (show trimL (l.take j) = trimL l by rw [← ht, e1, trimL_snoc_zero])
        have HK := Lib.hid hK
        clear ht e1 hcc hx h hK
        go_wp2
        go_roundw
        case rel => exact ⟨j, by omega, rfl, HT.out, by (repeat' (first | (with_reducible first | apply Zl1 | apply Zl2 | apply Zl3 | apply Zl4 | apply Zl5 | apply Zl6 | apply Zl7 | apply Zl8 | apply Zl9 | apply Zla | apply Zlb | apply Zlc) | (dsimp only; with_reducible first | apply Zl8 | apply Zl2 | apply Zld) | with_reducible assumption | omega | (dsimp only; omega)))⟩
        case measure => dsimp only; omega
      · have HT := Lib.hid (show (trimL l).length = j + 1 by rw [← ht, e1, trimL_snoc hx0, ← e1, List.length_take]; omega)
        have HK := Lib.hid hK
        have hx1 : ((x : Int) == 0) = false := by simp; omega
        clear ht e1 hcc hx h hK
        go_wp2
        go_ret
        exact Ret.mk (by rw [HT.out]; rfl) (by (repeat' (first | (with_reducible first | apply Zl1 | apply Zl2 | apply Zl3 | apply Zl4 | apply Zl5 | apply Zl6 | apply Zl7 | apply Zl8 | apply Zl9 | apply Zla | apply Zlb | apply Zlc) | (dsimp only; with_reducible first | apply Zl8 | apply Zl2 | apply Zld) | with_reducible assumption | omega | (dsimp only; omega))))

/-- How two limbs' lists of one length compare, from the top. -/
def cmpN (a b : Nat) : Int := if a < b then -1 else if b < a then 1 else 0
theorem valB_eq_take {B : Nat} {l m : List Nat} (h : l.length = m.length) {k : Nat} (hd : l.drop k = m.drop k) : valB B l = valB B (l.take k) + B ^ (min k l.length) * valB B (l.drop k) ∧ valB B m = valB B (m.take k) + B ^ (min k l.length) * valB B (l.drop k) := by
  constructor
  · have := valB_app B (l.take k) (l.drop k)
    rw [List.take_append_drop, List.length_take] at this
    exact this
  · have := valB_app B (m.take k) (m.drop k)
    rw [List.take_append_drop, List.length_take, ← h, ← hd] at this
    exact this
theorem cmp_top {B : Nat} (hB : 1 < B) {l m : List Nat} (hl : ∀ x ∈ l, x < B) (h : l.length = m.length) {k x y : Nat} (hx : l[k]? = some x) (hy : m[k]? = some y) (hd : l.drop (k + 1) = m.drop (k + 1)) (hxy : x < y) : valB B l < valB B m := by
  obtain ⟨e1, e2⟩ := valB_eq_take (B := B) h hd
  rw [e1, e2, valB_take hx, valB_take hy]
  have b1 : valB B (l.take k) < B ^ k := by
    have := valB_lt hB (l := l.take k) (fun z hz => hl z (List.mem_of_mem_take hz))
    rwa [List.length_take, Nat.min_eq_left (by have := (List.getElem?_eq_some_iff.1 hx).1; omega)] at this
  have b2 : B ^ k * (x + 1) ≤ B ^ k * y := Nat.mul_le_mul_left _ hxy
  rw [Nat.mul_add, Nat.mul_one] at b2
  omega
theorem limbs_lt_of_len {B : Nat} (hB : 1 < B) {a b : Nat} (h : (limbs B a).length < (limbs B b).length) : a < b := by
  have h1 := (limbs_bounds hB a).1
  have hb : b ≠ 0 := fun h0 => by rw [h0, limbs_zero] at h; simp at h
  have h2 := (limbs_bounds hB b).2 hb
  have h3 : B ^ (limbs B a).length ≤ B ^ ((limbs B b).length - 1) := Nat.pow_le_pow_right (by omega) (by omega)
  omega
abbrev lim (n : Nat) : List Nat := limbs 1000000000 n
theorem lim_lt (n : Nat) : ∀ x ∈ lim n, x < 1000000000 := limbs_lt (by decide) n
theorem lim_at {n k x : Nat} (h : (lim n)[k]? = some x) : x < 1000000000 := lim_lt n x (List.mem_of_getElem? h)
theorem cmpN_lt {a b : Nat} (h : a < b) : -1 = cmpN a b := by unfold cmpN; rw [if_pos h]
theorem cmpN_gt {a b : Nat} (h : b < a) : 1 = cmpN a b := by unfold cmpN; rw [if_neg (by omega), if_pos h]
theorem cmpN_eq {a b : Nat} (h : a = b) : 0 = cmpN a b := by unfold cmpN; rw [if_neg (by omega), if_neg (by omega)]
set_option maxHeartbeats 3200000 in
theorem compare_any (a b : Option Addr) (cap cap' m n : Nat) (w : World) (h1 : Limbs w a (lim m)) (h2 : Limbs w b (lim n)) (hl1 : (lim m).length ≤ 100000) (hl2 : (lim n).length ≤ 100000) :
    Calls Tryz.prog 206 #[.slice a (lim m).length cap, .slice b (lim n).length cap'] w (Ret (.int .i64 (cmpN m n)) w) := by
  rcases Nat.lt_trichotomy (lim m).length (lim n).length with hlt | heq | hgt
  · have HC := Lib.hid (cmpN_lt (limbs_lt_of_len (by decide) hlt))
    have q1 : (((lim m).length : Int) != ((lim n).length : Int)) = true := by simp; omega
    have q2 : decide (((lim m).length : Int) < ((lim n).length : Int)) = true := decide_eq_true (by omega)
    go_enter Tryz.func206, Tryz.ntmps206
    go_wp2
    go_ret
    exact Ret.mk (by exact val_i64 HC.out) (by (repeat' (first | (with_reducible first | apply Zl1 | apply Zl2 | apply Zl3 | apply Zl4 | apply Zl5 | apply Zl6 | apply Zl7 | apply Zl8 | apply Zl9 | apply Zla | apply Zlb | apply Zlc) | (dsimp only; with_reducible first | apply Zl8 | apply Zl2 | apply Zld) | with_reducible assumption | omega | (dsimp only; omega))))
  · obtain ⟨L, hL⟩ : ∃ L, lim m = L := ⟨_, rfl⟩
    obtain ⟨M, hM⟩ : ∃ M, lim n = M := ⟨_, rfl⟩
    have vL : valB 1000000000 L = m := by rw [← hL]; exact valB_limbs (by decide) m
    have vM : valB 1000000000 M = n := by rw [← hM]; exact valB_limbs (by decide) n
    have bL : ∀ x ∈ L, x < 1000000000 := by rw [← hL]; exact lim_lt m
    have bM : ∀ x ∈ M, x < 1000000000 := by rw [← hM]; exact lim_lt n
    rw [hL, hM] at heq
    rw [hL] at h1 hl1 ⊢
    rw [hM] at h2 hl2 ⊢
    clear hL hM
    have q1 : ((L.length : Int) != (M.length : Int)) = false := by simp; omega
    have t1 : IntKind.i64.wrap ((L.length : Int) - 1) = (L.length : Int) - 1 := IntWalk.i64_in _ (by omega)
    go_enter Tryz.func206, Tryz.ntmps206
    go_wp2
    go_loopw [5] (fun i wr => ∃ k : Nat, k ≤ L.length ∧ i = .int .i64 ((k : Int) - 1) ∧ L.drop k = M.drop k ∧ Below w.heap.size w wr) (fun i _ => (intOf i + 1).toNat)
    case atStart => exact ⟨L.length, by omega, by rw [heq], by rw [List.drop_length, List.drop_of_length_le (by omega)], by (repeat' (first | (with_reducible first | apply Zl1 | apply Zl2 | apply Zl3 | apply Zl4 | apply Zl5 | apply Zl6 | apply Zl7 | apply Zl8 | apply Zl9 | apply Zla | apply Zlb | apply Zlc) | (dsimp only; with_reducible first | apply Zl8 | apply Zl2 | apply Zld) | with_reducible assumption | omega | (dsimp only; omega)))⟩
    case round =>
      obtain ⟨k, hk, rfl, hd, hb⟩ := hrel
      have hbs := hb.size
      by_cases h0 : k = 0
      · subst h0
        have HE := Lib.hid (cmpN_eq (show m = n by rw [← vL, ← vM]; rw [List.drop_zero, List.drop_zero] at hd; rw [hd]))
        clear hd h1 h2
        go_wp2
        go_ret
        exact Ret.mk (by exact val_i64 HE.out) (by (repeat' (first | (with_reducible first | apply Zl1 | apply Zl2 | apply Zl3 | apply Zl4 | apply Zl5 | apply Zl6 | apply Zl7 | apply Zl8 | apply Zl9 | apply Zla | apply Zlb | apply Zlc) | (dsimp only; with_reducible first | apply Zl8 | apply Zl2 | apply Zld) | with_reducible assumption | omega | (dsimp only; omega))))
      · obtain ⟨j, rfl⟩ : ∃ j, k = j + 1 := ⟨k - 1, by omega⟩
        obtain ⟨b1, o1, rfl, c1⟩ := h1 (by omega)
        obtain ⟨b2, o2, rfl, c2⟩ := h2 (by omega)
        obtain ⟨x, hx⟩ : ∃ x, L[j]? = some x := ⟨_, List.getElem?_eq_getElem (by omega)⟩
        obtain ⟨y, hy⟩ : ∃ y, M[j]? = some y := ⟨_, List.getElem?_eq_getElem (by omega)⟩
        have g1 := cell_carry hb (c1 j x hx)
        have g2 := cell_carry hb (c2 j y hy)
        have t3 : ((j + 1 : Nat) : Int) - 1 = (j : Int) := by omega
        have t2 : IntKind.i64.wrap ((j : Int) - 1) = (j : Int) - 1 := IntWalk.i64_in _ (by omega)
        have hj1 : (j : Int) < (L.length : Int) := by omega
        have hj2 : (j : Int) < (M.length : Int) := by omega
        rw [t3]
        clear t3
        rcases Nat.lt_trichotomy x y with hxy | hxy | hxy
        · have HC := Lib.hid (cmpN_lt (show m < n by rw [← vL, ← vM]; exact cmp_top (by decide) bL heq hx hy hd hxy))
          have p1 : decide ((x : Int) < (y : Int)) = true := decide_eq_true (by omega)
          clear hd h1 h2 c1 c2 hx hy
          go_wp2_with fail
          refine wp_region_bel (by kernel_rfl) (by kernel_rfl) ?_
          repeat (go_big_quiet_step (fail))
          refine wpQuiet_nil ?_
          rintro _ ⟨z, rfl⟩
          go_wp2
          go_ret
          exact Ret.mk (by exact val_i64 HC.out) (by (repeat' (first | (with_reducible first | apply Zl1 | apply Zl2 | apply Zl3 | apply Zl4 | apply Zl5 | apply Zl6 | apply Zl7 | apply Zl8 | apply Zl9 | apply Zla | apply Zlb | apply Zlc) | (dsimp only; with_reducible first | apply Zl8 | apply Zl2 | apply Zld) | with_reducible assumption | omega | (dsimp only; omega))))
        · subst hxy
          have HD := Lib.hid (show L.drop j = M.drop j by
            rw [List.drop_eq_getElem_cons (by omega), List.drop_eq_getElem_cons (show j < M.length by omega), hd, (List.getElem?_eq_some_iff.1 hx).2, (List.getElem?_eq_some_iff.1 hy).2])
          have p1 : decide ((x : Int) < (x : Int)) = false := decide_eq_false (by omega)
          clear hd h1 h2 c1 c2 hx hy
          go_wp2_with fail
          refine wp_region_bel (by kernel_rfl) (by kernel_rfl) ?_
          repeat (go_big_quiet_step (fail))
          refine wpQuiet_nil ?_
          rintro _ ⟨z, rfl⟩
          go_wp2_with fail
          refine wp_region_bel (by kernel_rfl) (by kernel_rfl) ?_
          repeat (go_big_quiet_step (fail))
          refine wpQuiet_nil ?_
          rintro _ ⟨z2, rfl⟩
          go_wp2
          go_roundw
          case rel => exact ⟨j, by omega, rfl, HD.out, by (repeat' (first | (with_reducible first | apply Zl1 | apply Zl2 | apply Zl3 | apply Zl4 | apply Zl5 | apply Zl6 | apply Zl7 | apply Zl8 | apply Zl9 | apply Zla | apply Zlb | apply Zlc) | (dsimp only; with_reducible first | apply Zl8 | apply Zl2 | apply Zld) | with_reducible assumption | omega | (dsimp only; omega)))⟩
          case measure => simp [intOf] <;> omega
        · have HC := Lib.hid (cmpN_gt (show n < m by rw [← vL, ← vM]; exact cmp_top (by decide) bM heq.symm hy hx hd.symm hxy))
          have p1 : decide ((x : Int) < (y : Int)) = false := decide_eq_false (by omega)
          have p2 : decide ((y : Int) < (x : Int)) = true := decide_eq_true (by omega)
          clear hd h1 h2 c1 c2 hx hy
          go_wp2_with fail
          refine wp_region_bel (by kernel_rfl) (by kernel_rfl) ?_
          repeat (go_big_quiet_step (fail))
          refine wpQuiet_nil ?_
          rintro _ ⟨z, rfl⟩
          go_wp2_with fail
          refine wp_region_bel (by kernel_rfl) (by kernel_rfl) ?_
          repeat (go_big_quiet_step (fail))
          refine wpQuiet_nil ?_
          rintro _ ⟨z2, rfl⟩
          go_wp2
          go_ret
          exact Ret.mk (by exact val_i64 HC.out) (by (repeat' (first | (with_reducible first | apply Zl1 | apply Zl2 | apply Zl3 | apply Zl4 | apply Zl5 | apply Zl6 | apply Zl7 | apply Zl8 | apply Zl9 | apply Zla | apply Zlb | apply Zlc) | (dsimp only; with_reducible first | apply Zl8 | apply Zl2 | apply Zld) | with_reducible assumption | omega | (dsimp only; omega))))
  · have HC := Lib.hid (cmpN_gt (limbs_lt_of_len (by decide) hgt))
    have q1 : (((lim m).length : Int) != ((lim n).length : Int)) = true := by simp; omega
    have q2 : decide (((lim m).length : Int) < ((lim n).length : Int)) = false := decide_eq_false (by omega)
    go_enter Tryz.func206, Tryz.ntmps206
    go_wp2
    go_ret
    exact Ret.mk (by exact val_i64 HC.out) (by (repeat' (first | (with_reducible first | apply Zl1 | apply Zl2 | apply Zl3 | apply Zl4 | apply Zl5 | apply Zl6 | apply Zl7 | apply Zl8 | apply Zl9 | apply Zla | apply Zlb | apply Zlc) | (dsimp only; with_reducible first | apply Zl8 | apply Zl2 | apply Zld) | with_reducible assumption | omega | (dsimp only; omega))))
end Go.Proofs.YtehgeoipbgpocaaGreatDoor.I

namespace Go.Proofs.YtehgeoipbgpocaaGreatDoor.I
set_option linter.unusedVariables false
set_option linter.unusedSimpArgs false
open Go.RowKit
attribute [local go_sem low] Bel.cell Bel.frozen alloc_cell alloc_frozen

/-- The call returns a new slice of a number's limbs; all that lay there lies as it lay. -/
def MagRet (w : World) (N : Nat) (e : Ending) (w' : World) : Prop := ∃ v, e = .returned v ∧ ∃ y : Bel w, w' = y.w ∧ OwnV y.w w.heap.size 76 v (uVs (lim N))
abbrev vB (l : List Nat) : Nat := valB 1000000000 l
theorem vB_snoc (L : List Nat) (x : Nat) : vB (L ++ [x]) = vB L + 1000000000 ^ L.length * x := valB_snoc _ x L
theorem vB_lim (n : Nat) : vB (lim n) = n := valB_limbs (by decide) n
theorem lt_snoc {L : List Nat} {d : Nat} (h : ∀ x ∈ L, x < 1000000000) (hd : d < 1000000000) : ∀ x ∈ L ++ [d], x < 1000000000 := fun x hx => by
  rcases List.mem_append.1 hx with h1 | h1
  · exact h x h1
  · rw [List.mem_singleton.1 h1]; exact hd
theorem vB_take_past {l : List Nat} {i : Nat} (h : l.length ≤ i) : vB (l.take (i + 1)) = vB (l.take i) := by rw [List.take_of_length_le (by omega), List.take_of_length_le (by omega)]
theorem plus_step {L M N : List Nat} {i c x y s d q : Nat} (hL : L.length = i) (h : vB L + 1000000000 ^ i * c = vB (M.take i) + vB (N.take i)) (hx : vB (M.take (i + 1)) = vB (M.take i) + 1000000000 ^ i * x)
    (hy : vB (N.take (i + 1)) = vB (N.take i) + 1000000000 ^ i * y) (hs : x + c + y = s) (hd : s % 1000000000 = d) (hq : s / 1000000000 = q) :
    vB (L ++ [d]) + 1000000000 ^ (i + 1) * q = vB (M.take (i + 1)) + vB (N.take (i + 1)) := by
  have e : s = d + 1000000000 * q := by omega
  have e2 : 1000000000 ^ i * x + 1000000000 ^ i * c + 1000000000 ^ i * y = 1000000000 ^ i * d + 1000000000 ^ (i + 1) * q := by
    rw [Nat.pow_succ, Nat.mul_assoc, ← Nat.mul_add, ← Nat.mul_add, ← Nat.mul_add, hs, e]
  rw [vB_snoc, hL, hx, hy]
  omega
/-- A list of limbs that ends as the sum: trimmed. -/
theorem trim_lim {L : List Nat} {n : Nat} (h : ∀ x ∈ L, x < 1000000000) (hv : vB L = n) : trimL L = lim n := trimL_val (by decide) h hv
/-- The trimmed slice as a result. -/
theorem magRet_trim {w W : World} {a : Option Addr} {cap : Nat} {L : List Nat} {n : Nat} (x : Bel W) (hW : Below w.heap.size w W) (ho : OwnV W w.heap.size 76 (.slice a L.length cap) (uVs L)) (hL : ∀ x ∈ L, x < 1000000000) (hv : vB L = n) :
    MagRet w n (.returned (.slice a (trimL L).length cap)) x.w := by
  have h1 := own_trim ho
  rw [trim_lim hL hv] at h1 ⊢
  exact ⟨_, rfl, ⟨x.w, Below.bel hW hW.size⟩, rfl, ownV_bel h1 x⟩

theorem trim_own {W : World} {base : Nat} {a : Option Addr} {cap : Nat} {L : List Nat} (h : OwnV W base 76 (.slice a L.length cap) (uVs L)) (hl : L.length ≤ 100000) :
    Calls Tryz.prog 215 #[.slice a L.length cap] W (Ret (.slice a (trimL L).length cap) W) := by
  obtain ⟨a', cap', hv, hc⟩ := limbs_own h
  injection hv with e1 e2 e3
  subst e1
  refine trim_any a cap L W hc hl ?_
  have hn := uVs_len L
  rcases h.2 with ⟨hv, h0⟩ | ⟨g, cap', cur, hv, _, _, hc, _⟩
  · omega
  · injection hv with f1 f2 f3
    omega


set_option maxRecDepth 100000 in
set_option maxHeartbeats 6400000 in
theorem plus_any (a b : Option Addr) (cap cap' m n : Nat) (w : World) (h1 : Limbs w a (lim m)) (h2 : Limbs w b (lim n)) (hl1 : (lim m).length ≤ 10000) (hl2 : (lim n).length ≤ 10000) :
    Calls Tryz.prog 205 #[.slice a (lim m).length cap, .slice b (lim n).length cap'] w (MagRet w (m + n)) := by
  obtain ⟨i0, hi0, hz0, hz1, hz2⟩ := info_parts Tryz.infoU
  obtain ⟨S, hS⟩ : ∃ S, m + n = S := ⟨_, rfl⟩
  by_cases hlen : (lim m).length < (lim n).length
  · have hlen' : ((lim m).length : Int) < ((lim n).length : Int) := by omega
    go_enter Tryz.func205, Tryz.ntmps205
    go_wp2_with (at_make; refine wpList_make_own _ rfl _ _ 260 rfl (w.heap.size) 76 i0 (.int .u64 0) 1 Tryz.underlying260 hi0 hz0 hz1 _ _ _ ((lim n).length + 1) rfl rfl (by first | rfl | omega | (simp <;> omega)) (by rw [hz2] <;> omega) (by unfold maxLen; omega) (by first | omega | (simp <;> omega)) ?_; intro wM hownM hgrowM)
    have hbM : Below w.heap.size w wM := (Below.refl _ _).grown hgrowM (Nat.le_refl _) (fun k e => by cases e)
    go_loopw [5, 6, 22] (fun v c i wr => ∃ (k c' : Nat) (L : List Nat), i = .int .i64 (k : Int) ∧ k ≤ (lim n).length ∧ c = .int .u64 (c' : Int) ∧ c' ≤ 1 ∧ L.length = k ∧ (∀ x ∈ L, x < 1000000000) ∧
      vB L + 1000000000 ^ k * c' = vB ((lim n).take k) + vB ((lim m).take k) ∧ OwnV wr w.heap.size 76 v (uVs L) ∧ Below w.heap.size w wr) (fun _ _ i _ => (lim n).length - (intOf i).toNat)
    case atStart => exact ⟨0, 0, [], rfl, by omega, rfl, by omega, rfl, by simp, by simp [valB], hownM, hbM⟩
    case round =>
      obtain ⟨k, c, L, rfl, hk, rfl, hc, hL, hlt, hv, hown, hb⟩ := hrel
      have hbs := hb.size
      have hLl := uVs_len L
      have HO := Lib.hid hown
      clear hown
      by_cases hkm : k < (lim n).length
      · have hki : (k : Int) < ((lim n).length : Int) := by omega
        obtain ⟨b1, o1, rfl, c1⟩ := h2 (by omega)
        obtain ⟨x, hx⟩ : ∃ x, (lim n)[k]? = some x := ⟨_, List.getElem?_eq_getElem hkm⟩
        have hx9 := lim_at hx
        have g1 := cell_carry hb (c1 k x hx)
        have ex := valB_take (B := 1000000000) hx
        obtain ⟨s1, hs1⟩ : ∃ s, x + c = s := ⟨_, rfl⟩
        have hs1' : (x : Int) + (c : Int) = (s1 : Int) := by omega
        have hs1b : s1 ≤ 1000000000 := by omega
        by_cases hkn : k < (lim m).length
        · have hkj : (k : Int) < ((lim m).length : Int) := by omega
          obtain ⟨b2, o2, rfl, c2⟩ := h1 (by omega)
          obtain ⟨y, hy⟩ : ∃ y, (lim m)[k]? = some y := ⟨_, List.getElem?_eq_getElem hkn⟩
          have hy9 := lim_at hy
          have g2 := cell_carry hb (c2 k y hy)
          have ey := valB_take (B := 1000000000) hy
          obtain ⟨s, hs⟩ : ∃ s, s1 + y = s := ⟨_, rfl⟩
          have hs' : (s1 : Int) + (y : Int) = (s : Int) := by omega
          have hsb : s ≤ 2000000000 := by omega
          obtain ⟨d, hd⟩ : ∃ d, s % 1000000000 = d := ⟨_, rfl⟩
          obtain ⟨q, hq⟩ : ∃ q, s / 1000000000 = q := ⟨_, rfl⟩
          have hd' : (s : Int) % 1000000000 = (d : Int) := by omega
          have hq' : (s : Int) / 1000000000 = (q : Int) := by omega
          have HV := Lib.hid (plus_step hL hv ex ey (by omega) hd hq)
          have HL := Lib.hid (lt_snoc hlt (show d < 1000000000 by omega))
          have hqb : q ≤ 1 := by omega
          clear hv hlt hd hq hs hs1 ex ey hx hy c1 c2 h2 h1
          go_wp2_with (at_builtin; refine wpList_append_own _ rfl _ _ 260 rfl (w.heap.size) 76 i0 (.int .u64 0) 1 8 Tryz.underlying260 hi0 hz0 hz1 hz2 rfl (by decide) _ _ _ rfl (World.ownsRow.alloc (HO.out) _) ⟨wr.heap.size, 0, none⟩ 1 1 [.int .u64 (d : Int)] rfl rfl (cell_one_new _ _ _) (by simp [Value.oneCell']) (by unfold maxLen; omega) (by omega) (by simp; omega) ?_; intro v1 w1 hown1 hgrow1 _; obtain ⟨g1, cap1, rfl⟩ := ownsRow_succ hown1; obtain ⟨ho1, hb1⟩ := ownV_app (HO.out) ((Below.refl _ _).alloc (by omega) _) (by simp) (by omega) rfl hown1 hgrow1)
          go_roundw
          case rel => exact ⟨k + 1, q, L ++ [d], by go_num, by omega, rfl, hqb, by simp [hL], HL.out, HV.out, by rw [← uVs_snoc]; rw [hLl] at ho1; simpa [hL] using ho1, hb.trans hb1⟩
          case measure => simp [intOf]; omega
        · have hkj : decide ((k : Int) < ((lim m).length : Int)) = false := decide_eq_false (by omega)
          have ey := vB_take_past (l := lim m) (i := k) (by omega)
          obtain ⟨d, hd⟩ : ∃ d, s1 % 1000000000 = d := ⟨_, rfl⟩
          obtain ⟨q, hq⟩ : ∃ q, s1 / 1000000000 = q := ⟨_, rfl⟩
          have hd' : (s1 : Int) % 1000000000 = (d : Int) := by omega
          have hq' : (s1 : Int) / 1000000000 = (q : Int) := by omega
          have HV := Lib.hid (plus_step (y := 0) hL hv ex (by rw [ey]; simp) (by omega) hd hq)
          have HL := Lib.hid (lt_snoc hlt (show d < 1000000000 by omega))
          have hqb : q ≤ 1 := by omega
          clear hv hlt hd hq hs1 ex ey hx c1 h2 h1
          go_wp2_with (at_builtin; refine wpList_append_own _ rfl _ _ 260 rfl (w.heap.size) 76 i0 (.int .u64 0) 1 8 Tryz.underlying260 hi0 hz0 hz1 hz2 rfl (by decide) _ _ _ rfl (World.ownsRow.alloc (HO.out) _) ⟨wr.heap.size, 0, none⟩ 1 1 [.int .u64 (d : Int)] rfl rfl (cell_one_new _ _ _) (by simp [Value.oneCell']) (by unfold maxLen; omega) (by omega) (by simp; omega) ?_; intro v1 w1 hown1 hgrow1 _; obtain ⟨g1, cap1, rfl⟩ := ownsRow_succ hown1; obtain ⟨ho1, hb1⟩ := ownV_app (HO.out) ((Below.refl _ _).alloc (by omega) _) (by simp) (by omega) rfl hown1 hgrow1)
          go_roundw
          case rel => exact ⟨k + 1, q, L ++ [d], by go_num, by omega, rfl, hqb, by simp [hL], HL.out, HV.out, by rw [← uVs_snoc]; rw [hLl] at ho1; simpa [hL] using ho1, hb.trans hb1⟩
          case measure => simp [intOf]; omega
      · obtain rfl : k = (lim n).length := by omega
        have HV := Lib.hid (show vB (L ++ [c]) = S by
          rw [List.take_length, List.take_of_length_le (by omega), vB_lim, vB_lim] at hv
          rw [vB_snoc, hL, hv]; omega)
        have HL := Lib.hid (lt_snoc hlt (show c < 1000000000 by omega))
        clear hv hlt h2 h1
        go_wp2_with (at_builtin; refine wpList_append_own _ rfl _ _ 260 rfl (w.heap.size) 76 i0 (.int .u64 0) 1 8 Tryz.underlying260 hi0 hz0 hz1 hz2 rfl (by decide) _ _ _ rfl (World.ownsRow.alloc (HO.out) _) ⟨wr.heap.size, 0, none⟩ 1 1 [.int .u64 (c : Int)] rfl rfl (cell_one_new _ _ _) (by simp [Value.oneCell']) (by unfold maxLen; omega) (by omega) (by simp; omega) ?_; intro v1 w1 hown1 hgrow1 _; obtain ⟨g1, cap1, rfl⟩ := ownsRow_succ hown1; obtain ⟨ho1, hb1⟩ := ownV_app (HO.out) ((Below.refl _ _).alloc (by omega) _) (by simp) (by omega) rfl hown1 hgrow1)
        have e : (lim n).length + 1 = (L ++ [c]).length := by simp [hL]
        have ho2 : OwnV w1 w.heap.size 76 (.slice (some ⟨g1, 0, none⟩) (L ++ [c]).length cap1) (uVs (L ++ [c])) := by rw [← uVs_snoc, ← e, ← hL, ← hLl]; exact ho1
        rw [e]
        (with_reducible refine (trim_own ho2 (by omega)).mono ?_)
        rintro _ _ ⟨rfl, x, rfl⟩
        dsimp only
        go_wp2
        go_ret
        have := magRet_trim x (hb.trans hb1) ho2 HL.out HV.out
        rw [hS]; exact this
  · have hlen' : decide (((lim m).length : Int) < ((lim n).length : Int)) = false := decide_eq_false (by omega)
    go_enter Tryz.func205, Tryz.ntmps205
    go_wp2_with (at_make; refine wpList_make_own _ rfl _ _ 260 rfl (w.heap.size) 76 i0 (.int .u64 0) 1 Tryz.underlying260 hi0 hz0 hz1 _ _ _ ((lim m).length + 1) rfl rfl (by first | rfl | omega | (simp <;> omega)) (by rw [hz2] <;> omega) (by unfold maxLen; omega) (by first | omega | (simp <;> omega)) ?_; intro wM hownM hgrowM)
    have hbM : Below w.heap.size w wM := (Below.refl _ _).grown hgrowM (Nat.le_refl _) (fun k e => by cases e)
    go_loopw [5, 6, 22] (fun v c i wr => ∃ (k c' : Nat) (L : List Nat), i = .int .i64 (k : Int) ∧ k ≤ (lim m).length ∧ c = .int .u64 (c' : Int) ∧ c' ≤ 1 ∧ L.length = k ∧ (∀ x ∈ L, x < 1000000000) ∧
      vB L + 1000000000 ^ k * c' = vB ((lim m).take k) + vB ((lim n).take k) ∧ OwnV wr w.heap.size 76 v (uVs L) ∧ Below w.heap.size w wr) (fun _ _ i _ => (lim m).length - (intOf i).toNat)
    case atStart => exact ⟨0, 0, [], rfl, by omega, rfl, by omega, rfl, by simp, by simp [valB], hownM, hbM⟩
    case round =>
      obtain ⟨k, c, L, rfl, hk, rfl, hc, hL, hlt, hv, hown, hb⟩ := hrel
      have hbs := hb.size
      have hLl := uVs_len L
      have HO := Lib.hid hown
      clear hown
      by_cases hkm : k < (lim m).length
      · have hki : (k : Int) < ((lim m).length : Int) := by omega
        obtain ⟨b1, o1, rfl, c1⟩ := h1 (by omega)
        obtain ⟨x, hx⟩ : ∃ x, (lim m)[k]? = some x := ⟨_, List.getElem?_eq_getElem hkm⟩
        have hx9 := lim_at hx
        have g1 := cell_carry hb (c1 k x hx)
        have ex := valB_take (B := 1000000000) hx
        obtain ⟨s1, hs1⟩ : ∃ s, x + c = s := ⟨_, rfl⟩
        have hs1' : (x : Int) + (c : Int) = (s1 : Int) := by omega
        have hs1b : s1 ≤ 1000000000 := by omega
        by_cases hkn : k < (lim n).length
        · have hkj : (k : Int) < ((lim n).length : Int) := by omega
          obtain ⟨b2, o2, rfl, c2⟩ := h2 (by omega)
          obtain ⟨y, hy⟩ : ∃ y, (lim n)[k]? = some y := ⟨_, List.getElem?_eq_getElem hkn⟩
          have hy9 := lim_at hy
          have g2 := cell_carry hb (c2 k y hy)
          have ey := valB_take (B := 1000000000) hy
          obtain ⟨s, hs⟩ : ∃ s, s1 + y = s := ⟨_, rfl⟩
          have hs' : (s1 : Int) + (y : Int) = (s : Int) := by omega
          have hsb : s ≤ 2000000000 := by omega
          obtain ⟨d, hd⟩ : ∃ d, s % 1000000000 = d := ⟨_, rfl⟩
          obtain ⟨q, hq⟩ : ∃ q, s / 1000000000 = q := ⟨_, rfl⟩
          have hd' : (s : Int) % 1000000000 = (d : Int) := by omega
          have hq' : (s : Int) / 1000000000 = (q : Int) := by omega
          have HV := Lib.hid (plus_step hL hv ex ey (by omega) hd hq)
          have HL := Lib.hid (lt_snoc hlt (show d < 1000000000 by omega))
          have hqb : q ≤ 1 := by omega
          clear hv hlt hd hq hs hs1 ex ey hx hy c1 c2 h1 h2
          go_wp2_with (at_builtin; refine wpList_append_own _ rfl _ _ 260 rfl (w.heap.size) 76 i0 (.int .u64 0) 1 8 Tryz.underlying260 hi0 hz0 hz1 hz2 rfl (by decide) _ _ _ rfl (World.ownsRow.alloc (HO.out) _) ⟨wr.heap.size, 0, none⟩ 1 1 [.int .u64 (d : Int)] rfl rfl (cell_one_new _ _ _) (by simp [Value.oneCell']) (by unfold maxLen; omega) (by omega) (by simp; omega) ?_; intro v1 w1 hown1 hgrow1 _; obtain ⟨g1, cap1, rfl⟩ := ownsRow_succ hown1; obtain ⟨ho1, hb1⟩ := ownV_app (HO.out) ((Below.refl _ _).alloc (by omega) _) (by simp) (by omega) rfl hown1 hgrow1)
          go_roundw
          case rel => exact ⟨k + 1, q, L ++ [d], by go_num, by omega, rfl, hqb, by simp [hL], HL.out, HV.out, by rw [← uVs_snoc]; rw [hLl] at ho1; simpa [hL] using ho1, hb.trans hb1⟩
          case measure => simp [intOf]; omega
        · have hkj : decide ((k : Int) < ((lim n).length : Int)) = false := decide_eq_false (by omega)
          have ey := vB_take_past (l := lim n) (i := k) (by omega)
          obtain ⟨d, hd⟩ : ∃ d, s1 % 1000000000 = d := ⟨_, rfl⟩
          obtain ⟨q, hq⟩ : ∃ q, s1 / 1000000000 = q := ⟨_, rfl⟩
          have hd' : (s1 : Int) % 1000000000 = (d : Int) := by omega
          have hq' : (s1 : Int) / 1000000000 = (q : Int) := by omega
          have HV := Lib.hid (plus_step (y := 0) hL hv ex (by rw [ey]; simp) (by omega) hd hq)
          have HL := Lib.hid (lt_snoc hlt (show d < 1000000000 by omega))
          have hqb : q ≤ 1 := by omega
          clear hv hlt hd hq hs1 ex ey hx c1 h1 h2
          go_wp2_with (at_builtin; refine wpList_append_own _ rfl _ _ 260 rfl (w.heap.size) 76 i0 (.int .u64 0) 1 8 Tryz.underlying260 hi0 hz0 hz1 hz2 rfl (by decide) _ _ _ rfl (World.ownsRow.alloc (HO.out) _) ⟨wr.heap.size, 0, none⟩ 1 1 [.int .u64 (d : Int)] rfl rfl (cell_one_new _ _ _) (by simp [Value.oneCell']) (by unfold maxLen; omega) (by omega) (by simp; omega) ?_; intro v1 w1 hown1 hgrow1 _; obtain ⟨g1, cap1, rfl⟩ := ownsRow_succ hown1; obtain ⟨ho1, hb1⟩ := ownV_app (HO.out) ((Below.refl _ _).alloc (by omega) _) (by simp) (by omega) rfl hown1 hgrow1)
          go_roundw
          case rel => exact ⟨k + 1, q, L ++ [d], by go_num, by omega, rfl, hqb, by simp [hL], HL.out, HV.out, by rw [← uVs_snoc]; rw [hLl] at ho1; simpa [hL] using ho1, hb.trans hb1⟩
          case measure => simp [intOf]; omega
      · obtain rfl : k = (lim m).length := by omega
        have HV := Lib.hid (show vB (L ++ [c]) = S by
          rw [List.take_length, List.take_of_length_le (by omega), vB_lim, vB_lim] at hv
          rw [vB_snoc, hL, hv]; omega)
        have HL := Lib.hid (lt_snoc hlt (show c < 1000000000 by omega))
        clear hv hlt h1 h2
        go_wp2_with (at_builtin; refine wpList_append_own _ rfl _ _ 260 rfl (w.heap.size) 76 i0 (.int .u64 0) 1 8 Tryz.underlying260 hi0 hz0 hz1 hz2 rfl (by decide) _ _ _ rfl (World.ownsRow.alloc (HO.out) _) ⟨wr.heap.size, 0, none⟩ 1 1 [.int .u64 (c : Int)] rfl rfl (cell_one_new _ _ _) (by simp [Value.oneCell']) (by unfold maxLen; omega) (by omega) (by simp; omega) ?_; intro v1 w1 hown1 hgrow1 _; obtain ⟨g1, cap1, rfl⟩ := ownsRow_succ hown1; obtain ⟨ho1, hb1⟩ := ownV_app (HO.out) ((Below.refl _ _).alloc (by omega) _) (by simp) (by omega) rfl hown1 hgrow1)
        have e : (lim m).length + 1 = (L ++ [c]).length := by simp [hL]
        have ho2 : OwnV w1 w.heap.size 76 (.slice (some ⟨g1, 0, none⟩) (L ++ [c]).length cap1) (uVs (L ++ [c])) := by rw [← uVs_snoc, ← e, ← hL, ← hLl]; exact ho1
        rw [e]
        (with_reducible refine (trim_own ho2 (by omega)).mono ?_)
        rintro _ _ ⟨rfl, x, rfl⟩
        dsimp only
        go_wp2
        go_ret
        have := magRet_trim x (hb.trans hb1) ho2 HL.out HV.out
        rw [hS]; exact this
end Go.Proofs.YtehgeoipbgpocaaGreatDoor.I

namespace Go.Proofs.YtehgeoipbgpocaaGreatDoor.I
set_option linter.unusedVariables false
set_option linter.unusedSimpArgs false
open Go.RowKit
/-- All bytes are digits. -/
def Digits (l : List UInt8) : Prop := ∀ c ∈ l, 48 ≤ c.toNat ∧ c.toNat ≤ 57
/-- The number that digits write. -/
def numD (l : List UInt8) : Nat := l.foldl (fun a c => 10 * a + (c.toNat - 48)) 0
theorem numD_from (l : List UInt8) : ∀ a : Nat, l.foldl (fun a c => 10 * a + (c.toNat - 48)) a = a * 10 ^ l.length + numD l := by
  induction l with
  | nil => intro a; simp [numD]
  | cons c r ih =>
    intro a
    unfold numD
    rw [List.foldl_cons, List.foldl_cons, ih, ih (10 * 0 + _), List.length_cons, Nat.pow_succ]
    rw [Nat.add_mul, Nat.mul_zero, Nat.zero_add, Nat.mul_comm 10 a, Nat.mul_assoc, Nat.mul_comm 10 (10 ^ r.length)]
    omega
theorem numD_app (l m : List UInt8) : numD (l ++ m) = numD l * 10 ^ m.length + numD m := by
  unfold numD; rw [List.foldl_append, numD_from]; rfl
theorem numD_snoc (l : List UInt8) (c : UInt8) : numD (l ++ [c]) = 10 * numD l + (c.toNat - 48) := by rw [numD_app]; simp [numD]; omega
theorem numD_nil : numD [] = 0 := rfl
theorem numD_lt {l : List UInt8} (h : Digits l) : numD l < 10 ^ l.length := by
  induction hn : l.length generalizing l with
  | zero => rw [List.length_eq_zero_iff.1 hn]; decide
  | succ n ih =>
    rcases List.eq_nil_or_concat l with rfl | ⟨m, c, rfl⟩
    · simp at hn
    · rw [List.concat_eq_append] at *
      have h1 := ih (l := m) (fun x hx => h x (by simp [hx])) (by simpa using hn)
      have h2 := h c (by simp)
      rw [numD_snoc, Nat.pow_succ]
      omega
theorem digits_take {l : List UInt8} (h : Digits l) (k : Nat) : Digits (l.take k) := fun c hc => h c (List.mem_of_mem_take hc)
theorem digits_drop {l : List UInt8} (h : Digits l) (k : Nat) : Digits (l.drop k) := fun c hc => h c (List.mem_of_mem_drop hc)
theorem take_next {α : Type} {l : List α} {k : Nat} {c : α} (h : l[k]? = some c) : l.take (k + 1) = l.take k ++ [c] := by rw [List.take_add_one, h]; rfl
theorem numD_next {l : List UInt8} {k : Nat} {c : UInt8} (h : l[k]? = some c) : numD (l.take (k + 1)) = 10 * numD (l.take k) + (c.toNat - 48) := by rw [take_next h, numD_snoc]
theorem pow_nine (k : Nat) : 10 ^ (9 * k) = 1000000000 ^ k := by rw [Nat.pow_mul]
/-- The bytes from a to e. -/
def chunk (l : List UInt8) (a e : Nat) : List UInt8 := (l.drop a).take (e - a)
theorem chunk_len {l : List UInt8} {a e : Nat} (h : e ≤ l.length) : (chunk l a e).length = e - a := by unfold chunk; rw [List.length_take, List.length_drop]; omega
theorem chunk_drop {l : List UInt8} {a e : Nat} (h : a ≤ e) : l.drop a = chunk l a e ++ l.drop e := by
  unfold chunk
  have := (List.take_append_drop (e - a) (l.drop a)).symm
  rwa [List.drop_drop, show a + (e - a) = e by omega] at this
theorem chunk_digits {l : List UInt8} {a e : Nat} (h : Digits l) : Digits (chunk l a e) := digits_take (digits_drop h a) _
theorem extract_chunk (l : List UInt8) (a e : Nat) : (ByteArray.mk l.toArray).extract a e = ⟨(chunk l a e).toArray⟩ := by
  have h : ((ByteArray.mk l.toArray).extract a e).data = (chunk l a e).toArray := by
    rw [ByteArray.data_extract, List.extract_toArray, List.extract_eq_take_drop]; rfl
  exact ByteArray.ext h
theorem numD_chunk {l : List UInt8} (hd : Digits l) {a e : Nat} (h : e ≤ l.length) (h9 : e ≤ a + 9) : numD (chunk l a e) < 1000000000 := by
  have := numD_lt (chunk_digits (a := a) (e := e) hd)
  rw [chunk_len h] at this
  exact Nat.lt_of_lt_of_le this (Nat.pow_le_pow_right (by decide) (by omega : e - a ≤ 9))
/-- A further limb. -/
theorem long_step {l : List UInt8} {L : List Nat} {a e : Nat} (hae : a ≤ e) (he : l.length = e + 9 * L.length) (hv : vB L = numD (l.drop e)) : vB (L ++ [numD (chunk l a e)]) = numD (l.drop a) := by
  rw [chunk_drop hae, numD_app, vB_snoc, hv, List.length_drop, show l.length - e = 9 * L.length by omega, pow_nine, Nat.mul_comm]
  omega
end Go.Proofs.YtehgeoipbgpocaaGreatDoor.I

namespace Go.Proofs.YtehgeoipbgpocaaGreatDoor.I
set_option linter.unusedVariables false
set_option linter.unusedSimpArgs false
open Go.RowKit
open Go.Lib (decDigits nDigits itoa)

theorem dec_small {u : Nat} (h : u < 10) : decDigits u = [UInt8.ofNat (48 + u)] := Lib.decDigits_one h
theorem dec_big {u : Nat} (h : ¬ u < 10) : decDigits u = decDigits (u / 10) ++ [UInt8.ofNat (48 + u % 10)] := by rw [decDigits, dif_neg h]
theorem dig_val {d : Nat} (h : d < 10) : (UInt8.ofNat (48 + d)).toNat = 48 + d := by rw [UInt8.toNat_ofNat']; omega
theorem dec_digits (u : Nat) : Digits (decDigits u) := by
  induction u using Nat.strongRecOn with
  | ind u ih =>
    by_cases h : u < 10
    · rw [dec_small h]
      intro c hc
      rw [List.mem_singleton.1 hc, dig_val h]; omega
    · rw [dec_big h]
      intro c hc
      rcases List.mem_append.1 hc with h1 | h1
      · exact ih (u / 10) (by omega) c h1
      · rw [List.mem_singleton.1 h1, dig_val (Nat.mod_lt _ (by decide))]; omega
theorem dec_num (u : Nat) : numD (decDigits u) = u := by
  induction u using Nat.strongRecOn with
  | ind u ih =>
    by_cases h : u < 10
    · rw [dec_small h]; simp [numD]; omega
    · rw [dec_big h, numD_snoc, ih (u / 10) (by omega), dig_val (Nat.mod_lt _ (by decide))]; omega
theorem dec_pos (u : Nat) : 0 < (decDigits u).length := by rw [Lib.decDigits_length]; exact Lib.nDigits_pos u
theorem dec_head (u : Nat) (h0 : u ≠ 0) : ∀ c r, decDigits u = c :: r → c.toNat ≠ 48 := by
  induction u using Nat.strongRecOn with
  | ind u ih =>
    intro c r hc
    by_cases h : u < 10
    · rw [dec_small h] at hc
      simp at hc
      rw [← hc.1]
      simp
      omega
    · rw [dec_big h] at hc
      cases hd : decDigits (u / 10) with
      | nil => have := dec_pos (u / 10); rw [hd] at this; simp at this
      | cons a b =>
        rw [hd] at hc
        simp at hc
        rw [← hc.1]
        exact ih (u / 10) (by omega) (by omega) a b hd
/-- Digits without a zero in front, but the one digit. -/
def Canon (l : List UInt8) : Prop := Digits l ∧ l ≠ [] ∧ ∀ c r, l = c :: r → c.toNat = 48 → r = []
theorem canon_dec (u : Nat) : Canon (decDigits u) := by
  refine ⟨dec_digits u, fun h => by have := dec_pos u; rw [h] at this; simp at this, fun c r hc h48 => ?_⟩
  by_cases h0 : u = 0
  · subst h0
    rw [dec_small (by decide)] at hc
    simp at hc
    exact hc.2
  · exact absurd h48 (dec_head u h0 c r hc)
theorem canon_eq (l : List UInt8) (h : Canon l) : l = decDigits (numD l) := by
  induction hn : l.length generalizing l with
  | zero => exact absurd (List.length_eq_zero_iff.1 hn) h.2.1
  | succ n ih =>
    rcases List.eq_nil_or_concat l with rfl | ⟨m, c, rfl⟩
    · simp at hn
    · rw [List.concat_eq_append] at *
      obtain ⟨hd, _, h0⟩ := h
      have hc := hd c (by simp)
      have hcc : UInt8.ofNat (48 + (c.toNat - 48)) = c := by
        apply UInt8.toNat.inj
        rw [dig_val (by omega)]; omega
      cases m with
      | nil =>
        rw [List.nil_append, show numD [c] = c.toNat - 48 by simp [numD], dec_small (by omega), hcc]
      | cons a b =>
        have ha : a.toNat ≠ 48 := fun h48 => by
          have := h0 a (b ++ [c]) rfl h48
          simp at this
        have hm : Canon (a :: b) := ⟨fun x hx => hd x (List.mem_append_left _ hx), by simp, fun c' r' he h48 => by
          simp at he
          rw [← he.1] at h48
          exact absurd h48 ha⟩
        have ihm := ih (a :: b) hm (by simpa using hn)
        have hpos : numD (a :: b) ≠ 0 := fun hz => by
          rw [hz, dec_small (by decide)] at ihm
          simp at ihm
          exact ha (by rw [ihm.1]; rfl)
        have hs := numD_snoc (a :: b) c
        rw [hs, dec_big (by omega), show (10 * numD (a :: b) + (c.toNat - 48)) / 10 = numD (a :: b) by omega, show (10 * numD (a :: b) + (c.toNat - 48)) % 10 = c.toNat - 48 by omega, ← ihm, hcc]
theorem nDig9 {x : Nat} (h : x < 1000000000) : (decDigits x).length ≤ 9 := by
  rw [Lib.decDigits_length]
  refine Classical.byContradiction fun hn => ?_
  obtain ⟨k, hk⟩ : ∃ k, nDigits x = k + 1 := ⟨nDigits x - 1, by omega⟩
  have gen : ∀ (k u : Nat), nDigits u = k + 1 → k = 0 ∨ 10 ^ k ≤ u := by
    intro k
    induction k with
    | zero => intro u _; exact .inl rfl
    | succ k ih =>
      intro u hu
      by_cases h : u < 10
      · rw [Lib.nDigits_small h] at hu; omega
      · rw [Lib.nDigits_big h] at hu
        rcases ih (u / 10) (by omega) with rfl | h2
        · right; simp; omega
        · right; rw [Nat.pow_succ]; omega
  rcases gen k x hk with rfl | h2
  · omega
  · have h3 : 10 ^ 9 ≤ 10 ^ k := Nat.pow_le_pow_right (by decide) (by omega)
    omega
/-- Nine digits. -/
def pad9 (x : Nat) : List UInt8 := List.replicate (9 - (decDigits x).length) 48 ++ decDigits x
theorem pad9_len {x : Nat} (h : x < 1000000000) : (pad9 x).length = 9 := by
  have := nDig9 h
  unfold pad9; rw [List.length_append, List.length_replicate]; omega
theorem zeros_num (k : Nat) : numD (List.replicate k 48) = 0 := by
  induction k with
  | zero => rfl
  | succ k ih => rw [List.replicate_succ', numD_snoc, ih]; rfl
theorem pad9_num (x : Nat) : numD (pad9 x) = x := by unfold pad9; rw [numD_app, zeros_num, dec_num]; omega
theorem pad9_digits (x : Nat) : Digits (pad9 x) := fun c hc => by
  rcases List.mem_append.1 hc with h | h
  · rw [(List.mem_replicate.1 h).2]; decide
  · exact dec_digits x c h
theorem dec_pad {q x : Nat} (hq : q ≠ 0) (hx : x < 1000000000) : decDigits q ++ pad9 x = decDigits (q * 1000000000 + x) := by
  have hc : Canon (decDigits q ++ pad9 x) := by
    refine ⟨fun c hc => ?_, fun h => ?_, fun c r he h48 => ?_⟩
    · rcases List.mem_append.1 hc with h | h
      · exact dec_digits q c h
      · exact pad9_digits x c h
    · have := dec_pos q
      have h2 := congrArg List.length h
      simp at h2
      rw [h2.1] at this; simp at this
    · cases hd : decDigits q with
      | nil => have := dec_pos q; rw [hd] at this; simp at this
      | cons a b =>
        rw [hd] at he
        simp at he
        exact absurd (by rw [he.1]; exact h48) (dec_head q hq a b hd)
  have := canon_eq _ hc
  rw [numD_app, dec_num, pad9_num, pad9_len hx] at this
  exact this
/-- What Backward yields: the indices below k from the top, with the limbs. -/
def bkL (L : List Nat) : Nat → List (Nat × Nat)
  | 0 => []
  | k + 1 => (k, L.getD k 0) :: bkL L k
theorem bkL_len (L : List Nat) : ∀ k, (bkL L k).length = k
  | 0 => rfl
  | k + 1 => by rw [bkL, List.length_cons, bkL_len L k]
/-- The text of what has come. -/
def txt (len : Nat) (l : List (Nat × Nat)) : List UInt8 := l.flatMap fun p => if p.1 + 1 < len then pad9 p.2 else decDigits p.2
theorem txt_snoc (len : Nat) (l : List (Nat × Nat)) (p : Nat × Nat) : txt len (l ++ [p]) = txt len l ++ (if p.1 + 1 < len then pad9 p.2 else decDigits p.2) := by unfold txt; rw [List.flatMap_append]; simp
theorem txt_low {L : List Nat} (hL : ∀ x ∈ L, x < 1000000000) : ∀ (k q : Nat), q ≠ 0 → k < L.length → decDigits q ++ txt L.length (bkL L k) = decDigits (q * 1000000000 ^ k + vB (L.take k))
  | 0, q, _, _ => by simp [bkL, txt, valB]
  | k + 1, q, hq, hk => by
    obtain ⟨x, hx⟩ : ∃ x, L[k]? = some x := ⟨_, List.getElem?_eq_getElem (by omega)⟩
    have hx9 := hL x (List.mem_of_getElem? hx)
    have hg : L.getD k 0 = x := by rw [List.getD_eq_getElem?_getD, hx]; rfl
    have e1 : txt L.length (bkL L (k + 1)) = pad9 x ++ txt L.length (bkL L k) := by
      unfold txt; rw [bkL, List.flatMap_cons, if_pos (show k + 1 < L.length by omega), hg]
    have ht : vB (L.take (k + 1)) = vB (L.take k) + 1000000000 ^ k * x := valB_take hx
    rw [e1, ← List.append_assoc, dec_pad hq hx9, txt_low hL k _ (by omega) (by omega), ht, Nat.pow_succ, Nat.add_mul]
    congr 1
    rw [Nat.mul_assoc, Nat.mul_comm 1000000000, Nat.mul_comm x]
    omega
theorem txt_all (n : Nat) (hn : n ≠ 0) : txt (lim n).length (bkL (lim n) (lim n).length) = decDigits n := by
  obtain ⟨j, hj⟩ : ∃ j, (lim n).length = j + 1 := ⟨(lim n).length - 1, by
    have : (lim n).length ≠ 0 := fun h => hn ((limbs_nil (by decide)).1 (List.length_eq_zero_iff.1 h))
    omega⟩
  obtain ⟨x, hx⟩ : ∃ x, (lim n)[j]? = some x := ⟨_, List.getElem?_eq_getElem (by omega)⟩
  have hg : (lim n).getD j 0 = x := by rw [List.getD_eq_getElem?_getD, hx]; rfl
  have ht := valB_take (B := 1000000000) hx
  have hall : (lim n).take (j + 1) = lim n := List.take_of_length_le (by omega)
  have hxs : (lim n) = (lim n).take j ++ [x] := by rw [← take_next hx, hall]
  have hx0 : x ≠ 0 := limbs_last (by decide) n _ _ hxs
  rw [hall] at ht
  have hv := vB_lim n
  have e1 : txt (lim n).length (bkL (lim n) (j + 1)) = decDigits x ++ txt (lim n).length (bkL (lim n) j) := by
    show txt (lim n).length ((j, (lim n).getD j 0) :: bkL (lim n) j) = _
    unfold txt
    rw [List.flatMap_cons, if_neg (show ¬ (j + 1 < (lim n).length) by omega), hg]
  rw [show bkL (lim n) (lim n).length = bkL (lim n) (j + 1) by rw [hj], e1, txt_low (lim_lt n) j x hx0 (by omega)]
  congr 1
  rw [Nat.mul_comm]
  have : vB (lim n) = vB ((lim n).take j) + 1000000000 ^ j * x := ht
  omega
theorem txt_len (len : Nat) : ∀ l : List (Nat × Nat), (∀ p ∈ l, p.2 < 1000000000) → (txt len l).length ≤ 9 * l.length
  | [], _ => by simp [txt]
  | p :: r, h => by
    have ih := txt_len len r (fun q hq => h q (List.mem_cons_of_mem _ hq))
    have hp := h p List.mem_cons_self
    have e : txt len (p :: r) = (if p.1 + 1 < len then pad9 p.2 else decDigits p.2) ++ txt len r := by unfold txt; rw [List.flatMap_cons]
    rw [e, List.length_append, List.length_cons]
    have : (if p.1 + 1 < len then pad9 p.2 else decDigits p.2).length ≤ 9 := by
      split
      · rw [pad9_len hp]; exact Nat.le_refl _
      · exact nDig9 hp
    omega
end Go.Proofs.YtehgeoipbgpocaaGreatDoor.I
