/- Magnitudes in memory: slices of limbs; trim, compare. -/
import Derived.Test.YteglfhmmkoahfaaGreatDoorProg
import Derived.Test.YteglfhmmkoahfaaGreatDoorGA
namespace Go.Proofs.YteglfhmmkoahfaaGreatDoor
open Go.RowKit
attribute [local go_sem low] Bel.cell Bel.frozen alloc_cell alloc_frozen

theorem val_i64 {a b : Int} (h : a = b) : Value.int .i64 a = Value.int .i64 b := by rw [h]
theorem val_bool {a b : Bool} (h : a = b) : Value.bool a = Value.bool b := by rw [h]
theorem Tryz.infoU : (Tryz.prog.info? 59).map (fun i => (i.zero, i.size, i.bytes)) = some (some (.int .u64 0), 1, 8) := by kernel_rfl
def uVs (l : List Nat) : List Value := l.map fun n : Nat => Value.int .u64 (n : Int)
theorem uVs_len (l : List Nat) : (uVs l).length = l.length := List.length_map _
theorem uVs_snoc (l : List Nat) (n : Nat) : uVs l ++ [.int .u64 (n : Int)] = uVs (l ++ [n]) := by unfold uVs; rw [List.map_append]; rfl
theorem uVs_get {l : List Nat} {j n : Nat} (h : l[j]? = some n) : (uVs l)[j]? = some (.int .u64 (n : Int)) := by unfold uVs; rw [List.getElem?_map, h]; rfl
theorem uVs_take (l : List Nat) (k : Nat) : uVs (l.take k) = (uVs l).take k := by unfold uVs; rw [List.map_take]
/-- The cells of a slice that shows limbs. -/
def Limbs (w : World) (a : Option Addr) (l : List Nat) : Prop := 0 < l.length → ∃ b off, a = some ⟨b, off, none⟩ ∧ ∀ (j x : Nat), l[j]? = some x → w.cell? ⟨b, off + j, none⟩ = some (.int .u64 (x : Int))
theorem limbs_of {w w' : World} {a : Option Addr} {l : List Nat} (h : Limbs w a l) (hb : Below w.heap.size w w') : Limbs w' a l := fun h0 => by
  obtain ⟨b, off, ha, hc⟩ := h h0
  exact ⟨b, off, ha, fun j x hj => cell_carry hb (hc j x hj)⟩
theorem limbs_take {w : World} {a : Option Addr} {l : List Nat} (h : Limbs w a l) (k : Nat) : Limbs w a (l.take k) := fun h0 => by
  obtain ⟨b, off, ha, hc⟩ := h (by rw [List.length_take] at h0; omega)
  refine ⟨b, off, ha, fun j x hj => hc j x ?_⟩
  rw [List.getElem?_take] at hj
  split at hj
  · exact hj
  · cases hj
theorem limbs_nilv (w : World) (a : Option Addr) : Limbs w a [] := fun h => absurd h (by decide)
/-- What the call owns, as such a slice. -/
theorem limbs_own {w : World} {base : Nat} {v : Value} {l : List Nat} (h : OwnV w base 59 v (uVs l)) : ∃ a cap, v = .slice a l.length cap ∧ Limbs w a l := by
  obtain ⟨a, cap, hv, hc⟩ := showsV_at (ownV_shows h)
  rw [uVs_len] at hv hc
  refine ⟨a, cap, hv, fun h0 => ?_⟩
  obtain ⟨b, off, ha, hcc⟩ := hc h0
  exact ⟨b, off, ha, fun j x hj => hcc j _ (uVs_get hj)⟩
theorem own_take {w : World} {base : Nat} {e : TypeId} {a : Option Addr} {cap : Nat} {l : List Value} {k : Nat} (h : OwnV w base e (.slice a l.length cap) l) (hk : k ≤ l.length) : OwnV w base e (.slice a k cap) (l.take k) := by
  have hlen : (l.take k).length = k := by rw [List.length_take]; omega
  refine ⟨by rw [hlen]; omega, ?_⟩
  rcases h.2 with ⟨hv, h0⟩ | ⟨g, cap', cur, hv, hb, hg, hc, hm, hs, ht⟩
  · have hk0 : k = 0 := by omega
    injection hv with e1 e2 e3
    subst e1 e3
    exact .inl ⟨by rw [hk0], by rw [hlen]; omega⟩
  · injection hv with e1 e2 e3
    subst e1 e3
    refine .inr ⟨g, cap, cur, by rw [hlen], hb, hg, by rw [hlen]; omega, hm, hs, ?_⟩
    rw [hlen, Nat.mul_one, ← ht, List.take_take, Nat.mul_one, Nat.min_eq_left hk]
theorem trim_prefix (l : List Nat) : ∃ k, k ≤ l.length ∧ trimL l = l.take k := by
  induction hn : l.length generalizing l with
  | zero => exact ⟨0, by omega, by rw [List.length_eq_zero_iff.1 hn]; rfl⟩
  | succ n ih =>
    rcases snoc_cases l with rfl | ⟨m, x, rfl⟩
    · simp at hn
    · by_cases hx : x = 0
      · subst hx
        obtain ⟨k, hk, he⟩ := ih m (by simpa using hn)
        have hmn : m.length = n := by simpa using hn
        exact ⟨k, by omega, by rw [trimL_snoc_zero, he, List.take_append_of_le_length (by omega)]⟩
      · exact ⟨(m ++ [x]).length, by omega, by rw [trimL_snoc hx, List.take_length]⟩
theorem trimL_len (l : List Nat) : (trimL l).length ≤ l.length := by
  obtain ⟨k, hk, he⟩ := trim_prefix l
  rw [he, List.length_take]; omega
theorem own_trim {w : World} {base : Nat} {e : TypeId} {a : Option Addr} {cap : Nat} {l : List Nat} (h : OwnV w base e (.slice a l.length cap) (uVs l)) : OwnV w base e (.slice a (trimL l).length cap) (uVs (trimL l)) := by
  obtain ⟨k, hk, he⟩ := trim_prefix l
  rw [he, uVs_take, show (l.take k).length = k by rw [List.length_take]; omega]
  rw [← uVs_len] at h hk
  exact own_take h hk
set_option maxHeartbeats 1600000 in
theorem trim_any (a : Option Addr) (cap : Nat) (l : List Nat) (w : World) (h : Limbs w a l) (hl : l.length ≤ 100000) (hc : l.length ≤ cap) :
    Calls Tryz.prog 63 #[.slice a l.length cap] w (Ret (.slice a (trimL l).length cap) w) := by
  go_enter Tryz.func63, Tryz.ntmps63
  go_wp2
  go_loopw [0] (fun v wr => ∃ k : Nat, k ≤ l.length ∧ v = .slice a k cap ∧ trimL (l.take k) = trimL l ∧ Below w.heap.size w wr) (fun v _ => match v with | .slice _ k _ => k | _ => 0)
  case atStart => exact ⟨l.length, by omega, rfl, by rw [List.take_length], by (repeat' (first | (with_reducible exact Below.refl _ _) | (with_reducible exact Nat.le_refl _) | (with_reducible refine Below.bel ?_ ?_) | (with_reducible refine Below.alloc ?_ ?_ _) | (with_reducible refine Below.drew ?_) | (with_reducible refine Below.drawsN ?_ _) | (with_reducible refine Below.setCell ?_ ?_ _) | (with_reducible refine le_bel ?_) | (with_reducible refine le_alloc ?_) | (with_reducible refine le_setCell ?_) | (with_reducible refine le_drew ?_) | (with_reducible refine le_drawsN ?_) | (dsimp only; with_reducible refine le_bel ?_) | (dsimp only; with_reducible refine Nat.le_refl _) | (dsimp only; with_reducible refine le_bel_add ?_) | (with_reducible assumption) | omega | (dsimp only; omega)))⟩
  case round =>
    obtain ⟨k, hk, rfl, ht, hb⟩ := hrel
    have hbs := hb.size
    by_cases h0 : k = 0
    · subst h0
      have HT := Lib.hid (show (trimL l).length = 0 by rw [← ht]; rfl)
      clear ht
      go_wp2
      go_ret
      exact Ret.mk (by rw [HT.out]; rfl) (by (repeat' (first | (with_reducible exact Below.refl _ _) | (with_reducible exact Nat.le_refl _) | (with_reducible refine Below.bel ?_ ?_) | (with_reducible refine Below.alloc ?_ ?_ _) | (with_reducible refine Below.drew ?_) | (with_reducible refine Below.drawsN ?_ _) | (with_reducible refine Below.setCell ?_ ?_ _) | (with_reducible refine le_bel ?_) | (with_reducible refine le_alloc ?_) | (with_reducible refine le_setCell ?_) | (with_reducible refine le_drew ?_) | (with_reducible refine le_drawsN ?_) | (dsimp only; with_reducible refine le_bel ?_) | (dsimp only; with_reducible refine Nat.le_refl _) | (dsimp only; with_reducible refine le_bel_add ?_) | (with_reducible assumption) | omega | (dsimp only; omega))))
    · obtain ⟨j, rfl⟩ : ∃ j, k = j + 1 := ⟨k - 1, by omega⟩
      obtain ⟨b, off, rfl, hcc⟩ := h (by omega)
      obtain ⟨x, hx⟩ : ∃ x, l[j]? = some x := ⟨_, List.getElem?_eq_getElem (by omega)⟩
      have hc1 := cell_carry hb (hcc j x hx)
      have e1 : l.take (j + 1) = l.take j ++ [x] := by rw [List.take_add_one, hx]; rfl
      have t1 : IntKind.i64.wrap (((j + 1 : Nat) : Int) - 1) = (j : Int) := by rw [IntWalk.i64_in _ (by omega)]; omega
      have t0 : decide (0 < ((j + 1 : Nat) : Int)) = true := decide_eq_true (by omega)
      have hj1 : (j : Int) < ((j + 1 : Nat) : Int) := by omega
      have hjc : (j : Int) ≤ (cap : Int) := by omega
      generalize hK : ((j + 1 : Nat) : Int) = K at *
      by_cases hx0 : x = 0
      · subst hx0
        have HT := Lib.hid (show trimL (l.take j) = trimL l by rw [← ht, e1, trimL_snoc_zero])
        have HK := Lib.hid hK
        clear ht e1 hcc hx h hK
        go_wp2
        go_roundw
        case rel => exact ⟨j, by omega, rfl, HT.out, by (repeat' (first | (with_reducible exact Below.refl _ _) | (with_reducible exact Nat.le_refl _) | (with_reducible refine Below.bel ?_ ?_) | (with_reducible refine Below.alloc ?_ ?_ _) | (with_reducible refine Below.drew ?_) | (with_reducible refine Below.drawsN ?_ _) | (with_reducible refine Below.setCell ?_ ?_ _) | (with_reducible refine le_bel ?_) | (with_reducible refine le_alloc ?_) | (with_reducible refine le_setCell ?_) | (with_reducible refine le_drew ?_) | (with_reducible refine le_drawsN ?_) | (dsimp only; with_reducible refine le_bel ?_) | (dsimp only; with_reducible refine Nat.le_refl _) | (dsimp only; with_reducible refine le_bel_add ?_) | (with_reducible assumption) | omega | (dsimp only; omega)))⟩
        case measure => dsimp only; omega
      · have HT := Lib.hid (show (trimL l).length = j + 1 by rw [← ht, e1, trimL_snoc hx0, ← e1, List.length_take]; omega)
        have HK := Lib.hid hK
        have hx1 : ((x : Int) == 0) = false := by simp; omega
        clear ht e1 hcc hx h hK
        go_wp2
        go_ret
        exact Ret.mk (by rw [HT.out]; rfl) (by (repeat' (first | (with_reducible exact Below.refl _ _) | (with_reducible exact Nat.le_refl _) | (with_reducible refine Below.bel ?_ ?_) | (with_reducible refine Below.alloc ?_ ?_ _) | (with_reducible refine Below.drew ?_) | (with_reducible refine Below.drawsN ?_ _) | (with_reducible refine Below.setCell ?_ ?_ _) | (with_reducible refine le_bel ?_) | (with_reducible refine le_alloc ?_) | (with_reducible refine le_setCell ?_) | (with_reducible refine le_drew ?_) | (with_reducible refine le_drawsN ?_) | (dsimp only; with_reducible refine le_bel ?_) | (dsimp only; with_reducible refine Nat.le_refl _) | (dsimp only; with_reducible refine le_bel_add ?_) | (with_reducible assumption) | omega | (dsimp only; omega))))

/-- How two limbs' lists of one length compare, from the top. -/
def cmpN (a b : Nat) : Int := if a < b then -1 else if b < a then 1 else 0
theorem valB_eq_take {B : Nat} {l m : List Nat} (h : l.length = m.length) {k : Nat} (hd : l.drop k = m.drop k) : valB B l = valB B (l.take k) + B ^ (min k l.length) * valB B (l.drop k) ∧ valB B m = valB B (m.take k) + B ^ (min k l.length) * valB B (l.drop k) := by
  constructor
  · have := valB_app B (l.take k) (l.drop k)
    rw [List.take_append_drop, List.length_take] at this
    exact this
  · have := valB_app B (m.take k) (m.drop k)
    rw [List.take_append_drop, List.length_take, ← h, ← hd] at this
    exact this
theorem cmp_top {B : Nat} (hB : 1 < B) {l m : List Nat} (hl : ∀ x ∈ l, x < B) (h : l.length = m.length) {k x y : Nat} (hx : l[k]? = some x) (hy : m[k]? = some y) (hd : l.drop (k + 1) = m.drop (k + 1)) (hxy : x < y) : valB B l < valB B m := by
  obtain ⟨e1, e2⟩ := valB_eq_take (B := B) h hd
  rw [e1, e2, valB_take hx, valB_take hy]
  have b1 : valB B (l.take k) < B ^ k := by
    have := valB_lt hB (l := l.take k) (fun z hz => hl z (List.mem_of_mem_take hz))
    rwa [List.length_take, Nat.min_eq_left (by have := (List.getElem?_eq_some_iff.1 hx).1; omega)] at this
  have b2 : B ^ k * (x + 1) ≤ B ^ k * y := Nat.mul_le_mul_left _ hxy
  rw [Nat.mul_add, Nat.mul_one] at b2
  omega
theorem limbs_lt_of_len {B : Nat} (hB : 1 < B) {a b : Nat} (h : (limbs B a).length < (limbs B b).length) : a < b := by
  have h1 := (limbs_bounds hB a).1
  have hb : b ≠ 0 := fun h0 => by rw [h0, limbs_zero] at h; simp at h
  have h2 := (limbs_bounds hB b).2 hb
  have h3 : B ^ (limbs B a).length ≤ B ^ ((limbs B b).length - 1) := Nat.pow_le_pow_right (by omega) (by omega)
  omega
abbrev lim (n : Nat) : List Nat := limbs 1000000000 n
theorem lim_lt (n : Nat) : ∀ x ∈ lim n, x < 1000000000 := limbs_lt (by decide) n
theorem lim_at {n k x : Nat} (h : (lim n)[k]? = some x) : x < 1000000000 := lim_lt n x (List.mem_of_getElem? h)
theorem cmpN_lt {a b : Nat} (h : a < b) : -1 = cmpN a b := by unfold cmpN; rw [if_pos h]
theorem cmpN_gt {a b : Nat} (h : b < a) : 1 = cmpN a b := by unfold cmpN; rw [if_neg (by omega), if_pos h]
theorem cmpN_eq {a b : Nat} (h : a = b) : 0 = cmpN a b := by unfold cmpN; rw [if_neg (by omega), if_neg (by omega)]
set_option maxHeartbeats 3200000 in
theorem compare_any (a b : Option Addr) (cap cap' m n : Nat) (w : World) (h1 : Limbs w a (lim m)) (h2 : Limbs w b (lim n)) (hl1 : (lim m).length ≤ 100000) (hl2 : (lim n).length ≤ 100000) :
    Calls Tryz.prog 53 #[.slice a (lim m).length cap, .slice b (lim n).length cap'] w (Ret (.int .i64 (cmpN m n)) w) := by
  rcases Nat.lt_trichotomy (lim m).length (lim n).length with hlt | heq | hgt
  · have HC := Lib.hid (cmpN_lt (limbs_lt_of_len (by decide) hlt))
    have q1 : (((lim m).length : Int) != ((lim n).length : Int)) = true := by simp; omega
    have q2 : decide (((lim m).length : Int) < ((lim n).length : Int)) = true := decide_eq_true (by omega)
    go_enter Tryz.func53, Tryz.ntmps53
    go_wp2
    go_ret
    exact Ret.mk (by exact val_i64 HC.out) (by (repeat' (first | (with_reducible exact Below.refl _ _) | (with_reducible exact Nat.le_refl _) | (with_reducible refine Below.bel ?_ ?_) | (with_reducible refine Below.alloc ?_ ?_ _) | (with_reducible refine Below.drew ?_) | (with_reducible refine Below.drawsN ?_ _) | (with_reducible refine Below.setCell ?_ ?_ _) | (with_reducible refine le_bel ?_) | (with_reducible refine le_alloc ?_) | (with_reducible refine le_setCell ?_) | (with_reducible refine le_drew ?_) | (with_reducible refine le_drawsN ?_) | (dsimp only; with_reducible refine le_bel ?_) | (dsimp only; with_reducible refine Nat.le_refl _) | (dsimp only; with_reducible refine le_bel_add ?_) | (with_reducible assumption) | omega | (dsimp only; omega))))
  · obtain ⟨L, hL⟩ : ∃ L, lim m = L := ⟨_, rfl⟩
    obtain ⟨M, hM⟩ : ∃ M, lim n = M := ⟨_, rfl⟩
    have vL : valB 1000000000 L = m := by rw [← hL]; exact valB_limbs (by decide) m
    have vM : valB 1000000000 M = n := by rw [← hM]; exact valB_limbs (by decide) n
    have bL : ∀ x ∈ L, x < 1000000000 := by rw [← hL]; exact lim_lt m
    have bM : ∀ x ∈ M, x < 1000000000 := by rw [← hM]; exact lim_lt n
    rw [hL, hM] at heq
    rw [hL] at h1 hl1 ⊢
    rw [hM] at h2 hl2 ⊢
    clear hL hM
    have q1 : ((L.length : Int) != (M.length : Int)) = false := by simp; omega
    have t1 : IntKind.i64.wrap ((L.length : Int) - 1) = (L.length : Int) - 1 := IntWalk.i64_in _ (by omega)
    go_enter Tryz.func53, Tryz.ntmps53
    go_wp2
    go_loopw [5] (fun i wr => ∃ k : Nat, k ≤ L.length ∧ i = .int .i64 ((k : Int) - 1) ∧ L.drop k = M.drop k ∧ Below w.heap.size w wr) (fun i _ => (intOf i + 1).toNat)
    case atStart => exact ⟨L.length, by omega, by rw [heq], by rw [List.drop_length, List.drop_of_length_le (by omega)], by (repeat' (first | (with_reducible exact Below.refl _ _) | (with_reducible exact Nat.le_refl _) | (with_reducible refine Below.bel ?_ ?_) | (with_reducible refine Below.alloc ?_ ?_ _) | (with_reducible refine Below.drew ?_) | (with_reducible refine Below.drawsN ?_ _) | (with_reducible refine Below.setCell ?_ ?_ _) | (with_reducible refine le_bel ?_) | (with_reducible refine le_alloc ?_) | (with_reducible refine le_setCell ?_) | (with_reducible refine le_drew ?_) | (with_reducible refine le_drawsN ?_) | (dsimp only; with_reducible refine le_bel ?_) | (dsimp only; with_reducible refine Nat.le_refl _) | (dsimp only; with_reducible refine le_bel_add ?_) | (with_reducible assumption) | omega | (dsimp only; omega)))⟩
    case round =>
      obtain ⟨k, hk, rfl, hd, hb⟩ := hrel
      have hbs := hb.size
      by_cases h0 : k = 0
      · subst h0
        have HE := Lib.hid (cmpN_eq (show m = n by rw [← vL, ← vM]; rw [List.drop_zero, List.drop_zero] at hd; rw [hd]))
        clear hd h1 h2
        go_wp2
        go_ret
        exact Ret.mk (by exact val_i64 HE.out) (by (repeat' (first | (with_reducible exact Below.refl _ _) | (with_reducible exact Nat.le_refl _) | (with_reducible refine Below.bel ?_ ?_) | (with_reducible refine Below.alloc ?_ ?_ _) | (with_reducible refine Below.drew ?_) | (with_reducible refine Below.drawsN ?_ _) | (with_reducible refine Below.setCell ?_ ?_ _) | (with_reducible refine le_bel ?_) | (with_reducible refine le_alloc ?_) | (with_reducible refine le_setCell ?_) | (with_reducible refine le_drew ?_) | (with_reducible refine le_drawsN ?_) | (dsimp only; with_reducible refine le_bel ?_) | (dsimp only; with_reducible refine Nat.le_refl _) | (dsimp only; with_reducible refine le_bel_add ?_) | (with_reducible assumption) | omega | (dsimp only; omega))))
      · obtain ⟨j, rfl⟩ : ∃ j, k = j + 1 := ⟨k - 1, by omega⟩
        obtain ⟨b1, o1, rfl, c1⟩ := h1 (by omega)
        obtain ⟨b2, o2, rfl, c2⟩ := h2 (by omega)
        obtain ⟨x, hx⟩ : ∃ x, L[j]? = some x := ⟨_, List.getElem?_eq_getElem (by omega)⟩
        obtain ⟨y, hy⟩ : ∃ y, M[j]? = some y := ⟨_, List.getElem?_eq_getElem (by omega)⟩
        have g1 := cell_carry hb (c1 j x hx)
        have g2 := cell_carry hb (c2 j y hy)
        have t3 : ((j + 1 : Nat) : Int) - 1 = (j : Int) := by omega
        have t2 : IntKind.i64.wrap ((j : Int) - 1) = (j : Int) - 1 := IntWalk.i64_in _ (by omega)
        have hj1 : (j : Int) < (L.length : Int) := by omega
        have hj2 : (j : Int) < (M.length : Int) := by omega
        rw [t3]
        clear t3
        rcases Nat.lt_trichotomy x y with hxy | hxy | hxy
        · have HC := Lib.hid (cmpN_lt (show m < n by rw [← vL, ← vM]; exact cmp_top (by decide) bL heq hx hy hd hxy))
          have p1 : decide ((x : Int) < (y : Int)) = true := decide_eq_true (by omega)
          clear hd h1 h2 c1 c2 hx hy
          go_wp2_with fail
          refine wp_region_bel (by kernel_rfl) (by kernel_rfl) ?_
          repeat (go_big_quiet_step (fail))
          refine wpQuiet_nil ?_
          rintro _ ⟨z, rfl⟩
          go_wp2
          go_ret
          exact Ret.mk (by exact val_i64 HC.out) (by (repeat' (first | (with_reducible exact Below.refl _ _) | (with_reducible exact Nat.le_refl _) | (with_reducible refine Below.bel ?_ ?_) | (with_reducible refine Below.alloc ?_ ?_ _) | (with_reducible refine Below.drew ?_) | (with_reducible refine Below.drawsN ?_ _) | (with_reducible refine Below.setCell ?_ ?_ _) | (with_reducible refine le_bel ?_) | (with_reducible refine le_alloc ?_) | (with_reducible refine le_setCell ?_) | (with_reducible refine le_drew ?_) | (with_reducible refine le_drawsN ?_) | (dsimp only; with_reducible refine le_bel ?_) | (dsimp only; with_reducible refine Nat.le_refl _) | (dsimp only; with_reducible refine le_bel_add ?_) | (with_reducible assumption) | omega | (dsimp only; omega))))
        · subst hxy
          have HD := Lib.hid (show L.drop j = M.drop j by
            rw [List.drop_eq_getElem_cons (by omega), List.drop_eq_getElem_cons (show j < M.length by omega), hd, (List.getElem?_eq_some_iff.1 hx).2, (List.getElem?_eq_some_iff.1 hy).2])
          have p1 : decide ((x : Int) < (x : Int)) = false := decide_eq_false (by omega)
          clear hd h1 h2 c1 c2 hx hy
          go_wp2_with fail
          refine wp_region_bel (by kernel_rfl) (by kernel_rfl) ?_
          repeat (go_big_quiet_step (fail))
          refine wpQuiet_nil ?_
          rintro _ ⟨z, rfl⟩
          go_wp2_with fail
          refine wp_region_bel (by kernel_rfl) (by kernel_rfl) ?_
          repeat (go_big_quiet_step (fail))
          refine wpQuiet_nil ?_
          rintro _ ⟨z2, rfl⟩
          go_wp2
          go_roundw
          case rel => exact ⟨j, by omega, rfl, HD.out, by (repeat' (first | (with_reducible exact Below.refl _ _) | (with_reducible exact Nat.le_refl _) | (with_reducible refine Below.bel ?_ ?_) | (with_reducible refine Below.alloc ?_ ?_ _) | (with_reducible refine Below.drew ?_) | (with_reducible refine Below.drawsN ?_ _) | (with_reducible refine Below.setCell ?_ ?_ _) | (with_reducible refine le_bel ?_) | (with_reducible refine le_alloc ?_) | (with_reducible refine le_setCell ?_) | (with_reducible refine le_drew ?_) | (with_reducible refine le_drawsN ?_) | (dsimp only; with_reducible refine le_bel ?_) | (dsimp only; with_reducible refine Nat.le_refl _) | (dsimp only; with_reducible refine le_bel_add ?_) | (with_reducible assumption) | omega | (dsimp only; omega)))⟩
          case measure => simp [intOf] <;> omega
        · have HC := Lib.hid (cmpN_gt (show n < m by rw [← vL, ← vM]; exact cmp_top (by decide) bM heq.symm hy hx hd.symm hxy))
          have p1 : decide ((x : Int) < (y : Int)) = false := decide_eq_false (by omega)
          have p2 : decide ((y : Int) < (x : Int)) = true := decide_eq_true (by omega)
          clear hd h1 h2 c1 c2 hx hy
          go_wp2_with fail
          refine wp_region_bel (by kernel_rfl) (by kernel_rfl) ?_
          repeat (go_big_quiet_step (fail))
          refine wpQuiet_nil ?_
          rintro _ ⟨z, rfl⟩
          go_wp2_with fail
          refine wp_region_bel (by kernel_rfl) (by kernel_rfl) ?_
          repeat (go_big_quiet_step (fail))
          refine wpQuiet_nil ?_
          rintro _ ⟨z2, rfl⟩
          go_wp2
          go_ret
          exact Ret.mk (by exact val_i64 HC.out) (by (repeat' (first | (with_reducible exact Below.refl _ _) | (with_reducible exact Nat.le_refl _) | (with_reducible refine Below.bel ?_ ?_) | (with_reducible refine Below.alloc ?_ ?_ _) | (with_reducible refine Below.drew ?_) | (with_reducible refine Below.drawsN ?_ _) | (with_reducible refine Below.setCell ?_ ?_ _) | (with_reducible refine le_bel ?_) | (with_reducible refine le_alloc ?_) | (with_reducible refine le_setCell ?_) | (with_reducible refine le_drew ?_) | (with_reducible refine le_drawsN ?_) | (dsimp only; with_reducible refine le_bel ?_) | (dsimp only; with_reducible refine Nat.le_refl _) | (dsimp only; with_reducible refine le_bel_add ?_) | (with_reducible assumption) | omega | (dsimp only; omega))))
  · have HC := Lib.hid (cmpN_gt (limbs_lt_of_len (by decide) hgt))
    have q1 : (((lim m).length : Int) != ((lim n).length : Int)) = true := by simp; omega
    have q2 : decide (((lim m).length : Int) < ((lim n).length : Int)) = false := decide_eq_false (by omega)
    go_enter Tryz.func53, Tryz.ntmps53
    go_wp2
    go_ret
    exact Ret.mk (by exact val_i64 HC.out) (by (repeat' (first | (with_reducible exact Below.refl _ _) | (with_reducible exact Nat.le_refl _) | (with_reducible refine Below.bel ?_ ?_) | (with_reducible refine Below.alloc ?_ ?_ _) | (with_reducible refine Below.drew ?_) | (with_reducible refine Below.drawsN ?_ _) | (with_reducible refine Below.setCell ?_ ?_ _) | (with_reducible refine le_bel ?_) | (with_reducible refine le_alloc ?_) | (with_reducible refine le_setCell ?_) | (with_reducible refine le_drew ?_) | (with_reducible refine le_drawsN ?_) | (dsimp only; with_reducible refine le_bel ?_) | (dsimp only; with_reducible refine Nat.le_refl _) | (dsimp only; with_reducible refine le_bel_add ?_) | (with_reducible assumption) | omega | (dsimp only; omega))))
end Go.Proofs.YteglfhmmkoahfaaGreatDoor
