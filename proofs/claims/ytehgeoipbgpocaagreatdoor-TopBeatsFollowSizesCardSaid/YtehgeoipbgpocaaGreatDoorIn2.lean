/- Differences of magnitudes. Products of magnitudes. Division of a magnitude by one limb. The magnitude of digits. -/
import Derived.Lib.ConvBytes
import Derived.Lib.SmallJoins
import Derived.Test.YtehgeoipbgpocaaGreatDoorIn1
namespace Go.Proofs.YtehgeoipbgpocaaGreatDoor.I
set_option linter.unusedVariables false
set_option linter.unusedSimpArgs false
open Go.RowKit
attribute [local go_sem low] Bel.cell Bel.frozen alloc_cell alloc_frozen

theorem less_step {L M N : List Nat} {i c x y d q : Nat} (hL : L.length = i) (h : vB L + vB (N.take i) = vB (M.take i) + 1000000000 ^ i * c) (hx : vB (M.take (i + 1)) = vB (M.take i) + 1000000000 ^ i * x)
    (hy : vB (N.take (i + 1)) = vB (N.take i) + 1000000000 ^ i * y) (hs : d + (c + y) = x + 1000000000 * q) :
    vB (L ++ [d]) + vB (N.take (i + 1)) = vB (M.take (i + 1)) + 1000000000 ^ (i + 1) * q := by
  have e2 : 1000000000 ^ i * d + (1000000000 ^ i * c + 1000000000 ^ i * y) = 1000000000 ^ i * x + 1000000000 ^ (i + 1) * q := by
    rw [Nat.pow_succ, Nat.mul_assoc, ← Nat.mul_add, ← Nat.mul_add, ← Nat.mul_add, hs]
  rw [vB_snoc, hL, hx, hy]
  omega
theorem less_end {L : List Nat} {m n c : Nat} (hlt : ∀ x ∈ L, x < 1000000000) (hL : L.length = (lim m).length) (h : vB L + n = m + 1000000000 ^ (lim m).length * c) (hc : c ≤ 1) (hn : n ≤ m) : vB L = m - n := by
  have h1 : vB L < 1000000000 ^ L.length := valB_lt (B := 1000000000) (by decide) hlt
  rw [hL] at h1
  rcases (show c = 0 ∨ c = 1 by omega) with rfl | rfl
  · rw [Nat.mul_zero] at h; omega
  · rw [Nat.mul_one] at h; omega

set_option maxRecDepth 100000 in
set_option maxHeartbeats 6400000 in
theorem less_any (a b : Option Addr) (cap cap' m n : Nat) (w : World) (h1 : Limbs w a (lim m)) (h2 : Limbs w b (lim n)) (hl1 : (lim m).length ≤ 10000) (hnm : n ≤ m) :
    Calls Tryz.prog 207 #[.slice a (lim m).length cap, .slice b (lim n).length cap'] w (MagRet w (m - n)) := by
  obtain ⟨i0, hi0, hz0, hz1, hz2⟩ := info_parts Tryz.infoU
  have hll : (lim n).length ≤ (lim m).length := Nat.le_of_not_lt fun h => by
    have := limbs_lt_of_len (by decide) h
    omega
  obtain ⟨S, hS⟩ : ∃ S, m - n = S := ⟨_, rfl⟩
  go_enter Tryz.func207, Tryz.ntmps207
  go_wp2_with (at_make; refine wpList_make_own _ rfl _ _ 260 rfl (w.heap.size) 76 i0 (.int .u64 0) 1 Tryz.underlying260 hi0 hz0 hz1 _ _ _ ((lim m).length) rfl rfl (by first | rfl | omega | (simp <;> omega)) (by rw [hz2] <;> omega) (by unfold maxLen; omega) (by first | omega | (simp <;> omega)) ?_; intro wM hownM hgrowM)
  have hbM : Below w.heap.size w wM := (Below.refl _ _).grown hgrowM (Nat.le_refl _) (fun k e => by cases e)
  go_loopw [5, 6, 15] (fun v c i wr => ∃ (k c' : Nat) (L : List Nat), i = .int .i64 (k : Int) ∧ k ≤ (lim m).length ∧ c = .int .u64 (c' : Int) ∧ c' ≤ 1 ∧ L.length = k ∧ (∀ x ∈ L, x < 1000000000) ∧
    vB L + vB ((lim n).take k) = vB ((lim m).take k) + 1000000000 ^ k * c' ∧ OwnV wr w.heap.size 76 v (uVs L) ∧ Below w.heap.size w wr) (fun _ _ i _ => (lim m).length - (intOf i).toNat)
  case atStart => exact ⟨0, 0, [], rfl, by omega, rfl, by omega, rfl, by simp, by simp [valB], hownM, hbM⟩
  case round =>
    obtain ⟨k, c, L, rfl, hk, rfl, hc, hL, hlt, hv, hown, hb⟩ := hrel
    have hbs := hb.size
    have hLl := uVs_len L
    have HO := Lib.hid hown
    clear hown
    by_cases hkm : k < (lim m).length
    · have hki : (k : Int) < ((lim m).length : Int) := by omega
      obtain ⟨b1, o1, rfl, c1⟩ := h1 (by omega)
      obtain ⟨x, hx⟩ : ∃ x, (lim m)[k]? = some x := ⟨_, List.getElem?_eq_getElem hkm⟩
      have hx9 := lim_at hx
      have g1 := cell_carry hb (c1 k x hx)
      have ex := valB_take (B := 1000000000) hx
      by_cases hkn : k < (lim n).length
      · have hkj : (k : Int) < ((lim n).length : Int) := by omega
        obtain ⟨b2, o2, rfl, c2⟩ := h2 (by omega)
        obtain ⟨y, hy⟩ : ∃ y, (lim n)[k]? = some y := ⟨_, List.getElem?_eq_getElem hkn⟩
        have hy9 := lim_at hy
        have g2 := cell_carry hb (c2 k y hy)
        have ey := valB_take (B := 1000000000) hy
        obtain ⟨s, hs⟩ : ∃ s, c + y = s := ⟨_, rfl⟩
        have hs' : (c : Int) + (y : Int) = (s : Int) := by omega
        have hsb : s ≤ 1000000000 := by omega
        by_cases hxs : x < s
        · obtain ⟨d, hd⟩ : ∃ d, x + 1000000000 - s = d := ⟨_, rfl⟩
          have hd' : (x : Int) + 1000000000 - (s : Int) = (d : Int) := by omega
          have hxs' : decide ((x : Int) < (s : Int)) = true := decide_eq_true (by omega)
          have HV := Lib.hid (less_step (y := y) (q := 1) (d := d) hL hv ex ey (by omega))
          have HL := Lib.hid (lt_snoc hlt (show d < 1000000000 by omega))
          clear hv hlt hd hs ex ey hx hy c1 c2 h1 h2
          go_wp2_with (at_builtin; refine wpList_append_own _ rfl _ _ 260 rfl (w.heap.size) 76 i0 (.int .u64 0) 1 8 Tryz.underlying260 hi0 hz0 hz1 hz2 rfl (by decide) _ _ _ rfl (World.ownsRow.alloc (HO.out) _) ⟨wr.heap.size, 0, none⟩ 1 1 [.int .u64 (d : Int)] rfl rfl (cell_one_new _ _ _) (by simp [Value.oneCell']) (by unfold maxLen; omega) (by omega) (by simp; omega) ?_; intro v1 w1 hown1 hgrow1 _; obtain ⟨g1, cap1, rfl⟩ := ownsRow_succ hown1; obtain ⟨ho1, hb1⟩ := ownV_app (HO.out) ((Below.refl _ _).alloc (by omega) _) (by simp) (by omega) rfl hown1 hgrow1)
          go_roundw
          case rel => exact ⟨k + 1, 1, L ++ [d], by go_num, by omega, rfl, by omega, by simp [hL], HL.out, HV.out, by rw [← uVs_snoc]; rw [hLl] at ho1; simpa [hL] using ho1, hb.trans hb1⟩
          case measure => simp [intOf]; omega
        · obtain ⟨d, hd⟩ : ∃ d, x - s = d := ⟨_, rfl⟩
          have hd' : (x : Int) - (s : Int) = (d : Int) := by omega
          have hxs' : decide ((x : Int) < (s : Int)) = false := decide_eq_false (by omega)
          have HV := Lib.hid (less_step (y := y) (q := 0) (d := d) hL hv ex ey (by omega))
          have HL := Lib.hid (lt_snoc hlt (show d < 1000000000 by omega))
          clear hv hlt hd hs ex ey hx hy c1 c2 h1 h2
          go_wp2_with (at_builtin; refine wpList_append_own _ rfl _ _ 260 rfl (w.heap.size) 76 i0 (.int .u64 0) 1 8 Tryz.underlying260 hi0 hz0 hz1 hz2 rfl (by decide) _ _ _ rfl (World.ownsRow.alloc (HO.out) _) ⟨wr.heap.size, 0, none⟩ 1 1 [.int .u64 (d : Int)] rfl rfl (cell_one_new _ _ _) (by simp [Value.oneCell']) (by unfold maxLen; omega) (by omega) (by simp; omega) ?_; intro v1 w1 hown1 hgrow1 _; obtain ⟨g1, cap1, rfl⟩ := ownsRow_succ hown1; obtain ⟨ho1, hb1⟩ := ownV_app (HO.out) ((Below.refl _ _).alloc (by omega) _) (by simp) (by omega) rfl hown1 hgrow1)
          go_roundw
          case rel => exact ⟨k + 1, 0, L ++ [d], by go_num, by omega, rfl, by omega, by simp [hL], HL.out, HV.out, by rw [← uVs_snoc]; rw [hLl] at ho1; simpa [hL] using ho1, hb.trans hb1⟩
          case measure => simp [intOf]; omega
      · have hkj : decide ((k : Int) < ((lim n).length : Int)) = false := decide_eq_false (by omega)
        have ey := vB_take_past (l := lim n) (i := k) (by omega)
        by_cases hxs : x < c
        · obtain ⟨d, hd⟩ : ∃ d, x + 1000000000 - c = d := ⟨_, rfl⟩
          have hd' : (x : Int) + 1000000000 - (c : Int) = (d : Int) := by omega
          have hxs' : decide ((x : Int) < (c : Int)) = true := decide_eq_true (by omega)
          have HV := Lib.hid (less_step (y := 0) (q := 1) (d := d) hL hv ex (by rw [ey]; simp) (by omega))
          have HL := Lib.hid (lt_snoc hlt (show d < 1000000000 by omega))
          clear hv hlt hd ex ey hx c1 h1 h2
          go_wp2_with (at_builtin; refine wpList_append_own _ rfl _ _ 260 rfl (w.heap.size) 76 i0 (.int .u64 0) 1 8 Tryz.underlying260 hi0 hz0 hz1 hz2 rfl (by decide) _ _ _ rfl (World.ownsRow.alloc (HO.out) _) ⟨wr.heap.size, 0, none⟩ 1 1 [.int .u64 (d : Int)] rfl rfl (cell_one_new _ _ _) (by simp [Value.oneCell']) (by unfold maxLen; omega) (by omega) (by simp; omega) ?_; intro v1 w1 hown1 hgrow1 _; obtain ⟨g1, cap1, rfl⟩ := ownsRow_succ hown1; obtain ⟨ho1, hb1⟩ := ownV_app (HO.out) ((Below.refl _ _).alloc (by omega) _) (by simp) (by omega) rfl hown1 hgrow1)
          go_roundw
          case rel => exact ⟨k + 1, 1, L ++ [d], by go_num, by omega, rfl, by omega, by simp [hL], HL.out, HV.out, by rw [← uVs_snoc]; rw [hLl] at ho1; simpa [hL] using ho1, hb.trans hb1⟩
          case measure => simp [intOf]; omega
        · obtain ⟨d, hd⟩ : ∃ d, x - c = d := ⟨_, rfl⟩
          have hd' : (x : Int) - (c : Int) = (d : Int) := by omega
          have hxs' : decide ((x : Int) < (c : Int)) = false := decide_eq_false (by omega)
          have HV := Lib.hid (less_step (y := 0) (q := 0) (d := d) hL hv ex (by rw [ey]; simp) (by omega))
          have HL := Lib.hid (lt_snoc hlt (show d < 1000000000 by omega))
          clear hv hlt hd ex ey hx c1 h1 h2
          go_wp2_with (at_builtin; refine wpList_append_own _ rfl _ _ 260 rfl (w.heap.size) 76 i0 (.int .u64 0) 1 8 Tryz.underlying260 hi0 hz0 hz1 hz2 rfl (by decide) _ _ _ rfl (World.ownsRow.alloc (HO.out) _) ⟨wr.heap.size, 0, none⟩ 1 1 [.int .u64 (d : Int)] rfl rfl (cell_one_new _ _ _) (by simp [Value.oneCell']) (by unfold maxLen; omega) (by omega) (by simp; omega) ?_; intro v1 w1 hown1 hgrow1 _; obtain ⟨g1, cap1, rfl⟩ := ownsRow_succ hown1; obtain ⟨ho1, hb1⟩ := ownV_app (HO.out) ((Below.refl _ _).alloc (by omega) _) (by simp) (by omega) rfl hown1 hgrow1)
          go_roundw
          case rel => exact ⟨k + 1, 0, L ++ [d], by go_num, by omega, rfl, by omega, by simp [hL], HL.out, HV.out, by rw [← uVs_snoc]; rw [hLl] at ho1; simpa [hL] using ho1, hb.trans hb1⟩
          case measure => simp [intOf]; omega
    · obtain rfl : k = (lim m).length := by omega
      have HV := Lib.hid (show vB L = S by
        rw [List.take_length, List.take_of_length_le (by omega), vB_lim, vB_lim] at hv
        rw [less_end hlt hL hv hc hnm, hS])
      have HL := Lib.hid hlt
      have ho2 := HO.out
      obtain ⟨a2, cap2, rfl, hc2⟩ := limbs_own ho2
      have hLb : L.length ≤ 100000 := by omega
      clear hv hlt h1 h2 hc2 hL hk hkm
      have HO2 := Lib.hid ho2
      clear ho2
      go_wp2_with fail
      (with_reducible refine (trim_own HO2.out hLb).mono ?_)
      rintro _ _ ⟨rfl, x, rfl⟩
      dsimp only
      go_wp2
      go_ret
      have := magRet_trim x hb HO2.out HL.out HV.out
      rw [hS]; exact this
end Go.Proofs.YtehgeoipbgpocaaGreatDoor.I

namespace Go.Proofs.YtehgeoipbgpocaaGreatDoor.I
set_option linter.unusedVariables false
set_option linter.unusedSimpArgs false
open Go.RowKit
attribute [local go_sem low] Bel.cell Bel.frozen alloc_cell alloc_frozen

theorem valB_set (B : Nat) (d : Nat) : ∀ (L : List Nat) (j x : Nat), L[j]? = some x → valB B (L.set j d) + B ^ j * x = valB B L + B ^ j * d
  | [], j, x, h => by simp at h
  | y :: r, 0, x, h => by simp at h; subst h; simp [valB]; omega
  | y :: r, j + 1, x, h => by
    have ih := valB_set B d r j x (by simpa using h)
    simp only [List.set_cons_succ, valB, Nat.pow_succ]
    have e : ∀ z : Nat, B ^ j * B * z = B * (B ^ j * z) := fun z => by rw [Nat.mul_comm (B ^ j) B, Nat.mul_assoc]
    rw [e, e]
    have h2 := congrArg (B * ·) ih
    simp only [Nat.mul_add] at h2
    omega
theorem vB_set {L : List Nat} {j x : Nat} (d : Nat) (h : L[j]? = some x) : vB (L.set j d) + 1000000000 ^ j * x = vB L + 1000000000 ^ j * d := valB_set _ d L j x h
theorem lt_set {L : List Nat} {j d : Nat} (h : ∀ x ∈ L, x < 1000000000) (hd : d < 1000000000) : ∀ x ∈ L.set j d, x < 1000000000 := fun x hx => by
  rcases List.mem_or_eq_of_mem_set hx with h1 | h1
  · exact h x h1
  · rw [h1]; exact hd
theorem uVs_set (L : List Nat) (j d : Nat) : uVs (L.set j d) = (uVs L).set j (.int .u64 (d : Int)) := by unfold uVs; rw [List.map_set]
theorem own_store {w : World} {base g cap : Nat} {L : List Nat} (h : OwnV w base 76 (.slice (some ⟨g, 0, none⟩) L.length cap) (uVs L)) (j d : Nat) :
    OwnV (w.setCell ⟨g, j, none⟩ (.int .u64 (d : Int))) base 76 (.slice (some ⟨g, 0, none⟩) (L.set j d).length cap) (uVs (L.set j d)) ∧ base ≤ g := by
  have hl := uVs_len L
  have h' := h
  unfold OwnV at h'
  rw [hl] at h'
  have h2 := (World.ownsRow.stored h' j (.int .u64 (d : Int))).1
  refine ⟨?_, ?_⟩
  · unfold OwnV
    rw [uVs_set, List.length_set, List.length_set, hl]
    exact h2
  · rcases h.2 with ⟨hv, _⟩ | ⟨g', cap', cur, hv, hb, _⟩
    · injection hv with e1; cases e1
    · injection hv with e1; cases e1; exact hb
theorem own_at {w : World} {base g cap n : Nat} {L : List Nat} (h : OwnV w base 76 (.slice (some ⟨g, 0, none⟩) n cap) (uVs L)) {j x : Nat} (hj : L[j]? = some x) :
    w.cell? ⟨g, j, none⟩ = some (.int .u64 (x : Int)) ∧ w.frozen? ⟨g, j, none⟩ = false := by
  have hl := uVs_len L
  obtain ⟨g', cap', hv, _, _, _, hc⟩ := ownV_cells h (by rw [hl]; have := (List.getElem?_eq_some_iff.1 hj).1; omega)
  injection hv with e1 e2 e3
  cases e1
  exact hc j _ (uVs_get hj)
/-- All limbs from some place on are 0. -/
def Zeros (L : List Nat) (k : Nat) : Prop := ∀ j x, k ≤ j → L[j]? = some x → x = 0
theorem zeros_set {L : List Nat} {k j d : Nat} (h : Zeros L k) (hj : j < k) : Zeros (L.set j d) k := fun i x hi hx => by
  rw [List.getElem?_set_ne (by omega)] at hx
  exact h i x hi hx
theorem zeros_rep (n k : Nat) : Zeros (List.replicate n 0) k := fun j x _ hx => by
  rw [List.getElem?_replicate] at hx
  split at hx
  · exact (Option.some.inj hx).symm
  · cases hx
theorem vB_rep (n : Nat) : vB (List.replicate n 0) = 0 := by
  induction n with
  | zero => rfl
  | succ n ih => 
    have e : vB (0 :: List.replicate n 0) = 0 + 1000000000 * vB (List.replicate n 0) := rfl
    rw [List.replicate_succ, e, ih]
theorem uVs_rep (n : Nat) : uVs (List.replicate n 0) = List.replicate n (.int .u64 0) := by unfold uVs; rw [List.map_replicate]; rfl
theorem times_step {L N : List Nat} {i k a b c x p d q P : Nat} (h : vB L + 1000000000 ^ (i + k) * c = P + 1000000000 ^ i * (a * vB (N.take k))) (hx : L[i + k]? = some x) (hb : vB (N.take (k + 1)) = vB (N.take k) + 1000000000 ^ k * b)
    (hp : x + a * b + c = p) (hd : p % 1000000000 = d) (hq : p / 1000000000 = q) : vB (L.set (i + k) d) + 1000000000 ^ (i + (k + 1)) * q = P + 1000000000 ^ i * (a * vB (N.take (k + 1))) := by
  have h1 := vB_set d hx
  have e : p = d + 1000000000 * q := by omega
  have e1 : 1000000000 ^ (i + (k + 1)) * q = 1000000000 ^ (i + k) * (1000000000 * q) := by rw [← Nat.add_assoc, Nat.pow_succ, Nat.mul_assoc]
  have e2 : 1000000000 ^ i * (a * vB (N.take (k + 1))) = 1000000000 ^ i * (a * vB (N.take k)) + 1000000000 ^ (i + k) * (a * b) := by
    rw [hb, Nat.mul_add, Nat.mul_add, Nat.pow_add, Nat.mul_assoc]
    congr 1
    congr 1
    rw [← Nat.mul_assoc, ← Nat.mul_assoc, Nat.mul_comm a]
  have e3 : 1000000000 ^ (i + k) * x + 1000000000 ^ (i + k) * (a * b) + 1000000000 ^ (i + k) * c = 1000000000 ^ (i + k) * d + 1000000000 ^ (i + k) * (1000000000 * q) := by
    rw [← Nat.mul_add, ← Nat.mul_add, ← Nat.mul_add, hp, e]
  rw [e1, e2]
  omega
theorem times_row {L N M : List Nat} {i a c n : Nat} (h : vB L + 1000000000 ^ (i + N.length) * c = vB (M.take i) * n + 1000000000 ^ i * (a * vB (N.take N.length))) (hN : vB N = n) (ha : vB (M.take (i + 1)) = vB (M.take i) + 1000000000 ^ i * a)
    (h0 : L[i + N.length]? = some 0) : vB (L.set (i + N.length) c) = vB (M.take (i + 1)) * n := by
  have h1 := vB_set c h0
  rw [List.take_length, hN] at h
  rw [ha, Nat.add_mul, Nat.mul_assoc]
  omega

set_option maxRecDepth 100000 in
set_option maxHeartbeats 6400000 in
theorem times_any (a b : Option Addr) (cap cap' m n : Nat) (w : World) (h1 : Limbs w a (lim m)) (h2 : Limbs w b (lim n)) (hl1 : (lim m).length ≤ 10000) (hl2 : (lim n).length ≤ 10000) :
    Calls Tryz.prog 152 #[.slice a (lim m).length cap, .slice b (lim n).length cap'] w (MagRet w (m * n)) := by
  obtain ⟨i0, hi0, hz0, hz1, hz2⟩ := info_parts Tryz.infoU
  obtain ⟨T, hT⟩ : ∃ T, (lim m).length + (lim n).length + 1 = T := ⟨_, rfl⟩
  have hT' : ((lim m).length : Int) + ((lim n).length : Int) + 1 = (T : Int) := by omega
  have hTb : T ≤ 20001 := by omega
  obtain ⟨S, hS⟩ : ∃ S, m * n = S := ⟨_, rfl⟩
  have vN := vB_lim n
  go_enter Tryz.func152, Tryz.ntmps152
  go_wp2_with (at_make; refine wpList_make_full _ rfl _ _ 260 rfl (w.heap.size) 76 i0 (.int .u64 0) 1 Tryz.underlying260 hi0 hz0 hz1 _ _ _ _ (T) rfl rfl (by first | rfl | omega | (simp <;> omega)) (by first | rfl | omega | (simp <;> omega)) (by rw [hz2] <;> omega) (by unfold maxLen; omega) (by first | omega | (simp <;> omega)) ?_; intro wM hownM hgrowM)
  have hbM : Below w.heap.size w wM := (Below.refl _ _).grown hgrowM (Nat.le_refl _) (fun k e => by cases e)
  have ho0 : OwnV wM w.heap.size 76 (.slice (some ⟨w.heap.size, 0, none⟩) T T) (uVs (List.replicate T 0)) := by
    unfold OwnV
    rw [uVs_rep, List.length_replicate]
    have := hownM
    rw [Nat.mul_one, show (Value.int .u64 0).cells = #[Value.int .u64 0] from rfl, toList_madeCells_one] at this
    exact this
  clear hownM hgrowM
  go_loopw [21] (fun i wr => ∃ (k : Nat) (L : List Nat), i = .int .i64 (k : Int) ∧ k ≤ (lim m).length ∧ L.length = T ∧ (∀ x ∈ L, x < 1000000000) ∧ vB L = vB ((lim m).take k) * n ∧ Zeros L (k + (lim n).length) ∧
    OwnV wr w.heap.size 76 (.slice (some ⟨w.heap.size, 0, none⟩) T T) (uVs L) ∧ Below w.heap.size w wr) (fun i _ => (lim m).length - (intOf i).toNat)
  case atStart => exact ⟨0, List.replicate T 0, rfl, by omega, by rw [List.length_replicate], fun x hx => by rw [(List.mem_replicate.1 hx).2]; decide, by rw [vB_rep]; simp [valB], zeros_rep _ _, ho0, hbM⟩
  case round =>
    clear ho0 hbM
    obtain ⟨i, L, rfl, hk, hL, hlt, hv, hz, hown, hb⟩ := hrel
    have hbs := hb.size
    have HO := Lib.hid hown
    clear hown
    by_cases hkm : i < (lim m).length
    · have hki : (i : Int) < ((lim m).length : Int) := by omega
      obtain ⟨b1, o1, rfl, c1⟩ := h1 (by omega)
      obtain ⟨x, hx⟩ : ∃ x, (lim m)[i]? = some x := ⟨_, List.getElem?_eq_getElem hkm⟩
      have hx9 := lim_at hx
      have g1 := cell_carry hb (c1 i x hx)
      have HX := Lib.hid (valB_take (B := 1000000000) hx)
      have HC1 := Lib.hid c1
      have HV := Lib.hid hv
      have HLt := Lib.hid hlt
      have HZ := Lib.hid hz
      clear hx c1 hv hlt hz h1
      obtain ⟨wo, rfl⟩ : ∃ wo : World, wo = wr := ⟨_, rfl⟩
      go_wp2
      go_loopw [8, 28] (fun c j wr => ∃ (k c' : Nat) (L : List Nat), j = .int .i64 (k : Int) ∧ k ≤ (lim n).length ∧ c = .int .u64 (c' : Int) ∧ c' < 1000000000 ∧ L.length = T ∧ (∀ x ∈ L, x < 1000000000) ∧
        vB L + 1000000000 ^ (i + k) * c' = vB ((lim m).take i) * n + 1000000000 ^ i * (x * vB ((lim n).take k)) ∧ Zeros L (i + (lim n).length) ∧
        OwnV wr w.heap.size 76 (.slice (some ⟨w.heap.size, 0, none⟩) T T) (uVs L) ∧ Below w.heap.size w wr) (fun _ j _ => (lim n).length - (intOf j).toNat)
      case atStart => exact ⟨0, 0, L, rfl, by omega, rfl, by omega, hL, HLt.out, by rw [HV.out]; simp [valB], HZ.out, HO.out, hb⟩
      case round =>
        clear g1 HLt HV HZ HO hb hbs hL L
        obtain ⟨k, c, L, rfl, hk2, rfl, hc, hL, hlt, hv, hz, hown, hb⟩ := hrel
        have hbs := hb.size
        have HO := Lib.hid hown
        clear hown
        by_cases hkn : k < (lim n).length
        · have hkj : (k : Int) < ((lim n).length : Int) := by omega
          obtain ⟨b2, o2, rfl, c2⟩ := h2 (by omega)
          obtain ⟨y, hy⟩ : ∃ y, (lim n)[k]? = some y := ⟨_, List.getElem?_eq_getElem hkn⟩
          have hy9 := lim_at hy
          have g2 := cell_carry hb (c2 k y hy)
          have ey := valB_take (B := 1000000000) hy
          obtain ⟨z, hz1⟩ : ∃ z, L[i + k]? = some z := ⟨_, List.getElem?_eq_getElem (by omega)⟩
          have hz9 : z < 1000000000 := hlt z (List.mem_of_getElem? hz1)
          obtain ⟨g3, f3⟩ := own_at HO.out hz1
          obtain ⟨p1, hp1⟩ : ∃ p, x * y = p := ⟨_, rfl⟩
          have hp1' : (x : Int) * (y : Int) = (p1 : Int) := by rw [← hp1]; simp
          have hp1b : p1 ≤ 999999998000000001 := by
            rw [← hp1]
            exact Nat.le_trans (Nat.mul_le_mul (show x ≤ 999999999 by omega) (show y ≤ 999999999 by omega)) (by decide)
          obtain ⟨p2, hp2⟩ : ∃ p, z + p1 = p := ⟨_, rfl⟩
          have hp2' : (z : Int) + (p1 : Int) = (p2 : Int) := by omega
          have hp2b : p2 ≤ 999999999000000000 := by omega
          obtain ⟨p, hp⟩ : ∃ q, p2 + c = q := ⟨_, rfl⟩
          have hp' : (p2 : Int) + (c : Int) = (p : Int) := by omega
          have hpb : p ≤ 999999999999999999 := by omega
          obtain ⟨d, hd⟩ : ∃ d, p % 1000000000 = d := ⟨_, rfl⟩
          obtain ⟨q, hq⟩ : ∃ q, p / 1000000000 = q := ⟨_, rfl⟩
          have hd' : (p : Int) % 1000000000 = (d : Int) := by omega
          have hq' : (p : Int) / 1000000000 = (q : Int) := by omega
          have hqb : q < 1000000000 := by omega
          have hij : (i : Int) + (k : Int) < (T : Int) := by omega
          have HV := Lib.hid (times_step hv hz1 ey (by omega) hd hq)
          have HL := Lib.hid (lt_set (j := i + k) hlt (show d < 1000000000 by omega))
          have HZ := Lib.hid (zeros_set (d := d) hz (show i + k < i + (lim n).length by omega))
          have HS := Lib.hid (own_store (by rw [hL]; exact HO.out) (i + k) d)
          have HLe := Lib.hid hL
          clear hv hlt hz hd hq hp hp1 hp2 ey hy hz1 c2 h2 hL
          go_wp2
          go_roundw
          case rel =>
            have hS' := HS.out.1
            rw [List.length_set, HLe.out] at hS'
            exact ⟨k + 1, q, L.set (i + k) d, by go_num, by omega, rfl, hqb, by rw [List.length_set, HLe.out], HL.out, HV.out, HZ.out, hS', by (repeat' (first | (with_reducible first | apply Zl1 | apply Zl2 | apply Zl3 | apply Zl4 | apply Zl5 | apply Zl6 | apply Zl7 | apply Zl8 | apply Zl9 | apply Zla | apply Zlb | apply Zlc) | (dsimp only; with_reducible first | apply Zl8 | apply Zl2 | apply Zld) | with_reducible assumption | omega | (dsimp only; omega)))⟩
          case measure => simp [intOf]; omega
        · obtain rfl : k = (lim n).length := by omega
          have h0 : L[i + (lim n).length]? = some 0 := by
            obtain ⟨z, hz1⟩ : ∃ z, L[i + (lim n).length]? = some z := ⟨_, List.getElem?_eq_getElem (by omega)⟩
            rw [hz1, hz _ z (Nat.le_refl _) hz1]
          obtain ⟨g3, f3⟩ := own_at HO.out h0
          have hij : (i : Int) + ((lim n).length : Int) < (T : Int) := by omega
          have HV := Lib.hid (times_row hv vN HX.out h0)
          have HL := Lib.hid (lt_set (j := i + (lim n).length) hlt hc)
          have HZ := Lib.hid (show Zeros (L.set (i + (lim n).length) c) (i + 1 + (lim n).length) from zeros_set (fun j x hj hx => hz j x (by omega) hx) (by omega))
          have HS := Lib.hid (own_store (by rw [hL]; exact HO.out) (i + (lim n).length) c)
          have HLe := Lib.hid hL
          clear hv hlt hz h0 h2 hL
          go_wp2
          go_roundw
          case rel =>
            have hS' := HS.out.1
            rw [List.length_set, HLe.out] at hS'
            exact ⟨i + 1, L.set (i + (lim n).length) c, by go_num, by omega, by rw [List.length_set, HLe.out], HL.out, HV.out, HZ.out, hS', by (repeat' (first | (with_reducible first | apply Zl1 | apply Zl2 | apply Zl3 | apply Zl4 | apply Zl5 | apply Zl6 | apply Zl7 | apply Zl8 | apply Zl9 | apply Zla | apply Zlb | apply Zlc) | (dsimp only; with_reducible first | apply Zl8 | apply Zl2 | apply Zld) | with_reducible assumption | omega | (dsimp only; omega)))⟩
          case measure => simp [intOf]; omega
    · obtain rfl : i = (lim m).length := by omega
      have HV := Lib.hid (show vB L = S by rw [hv, List.take_length, vB_lim, hS])
      have HL := Lib.hid hlt
      clear hT hT'
      subst hL
      have hLb : L.length ≤ 100000 := by omega
      clear hv hlt h1 h2 hk hkm hz
      go_wp2_with fail
      (with_reducible refine (trim_own HO.out hLb).mono ?_)
      rintro _ _ ⟨rfl, x, rfl⟩
      dsimp only
      go_wp2
      go_ret
      have := magRet_trim x hb HO.out HL.out HV.out
      rw [hS]; exact this
end Go.Proofs.YtehgeoipbgpocaaGreatDoor.I

namespace Go.Proofs.YtehgeoipbgpocaaGreatDoor.I
set_option linter.unusedVariables false
set_option linter.unusedSimpArgs false
open Go.RowKit
attribute [local go_sem low] Bel.cell Bel.frozen alloc_cell alloc_frozen

theorem by_step {L M : List Nat} {j x p d q r c : Nat} (hx : M[j]? = some x) (hl : j < L.length) (h : vB (M.drop (j + 1)) = d * vB (L.drop (j + 1)) + c) (hp : c * 1000000000 + x = p) (hq : p / d = q) (hr : p % d = r) :
    vB (M.drop j) = d * vB ((L.set j q).drop j) + r := by
  have hjm := (List.getElem?_eq_some_iff.1 hx).1
  have e1 : M.drop j = x :: M.drop (j + 1) := by rw [List.drop_eq_getElem_cons hjm, (List.getElem?_eq_some_iff.1 hx).2]
  have e2 : (L.set j q).drop j = q :: L.drop (j + 1) := by
    rw [List.drop_eq_getElem_cons (by rw [List.length_set]; exact hl), List.getElem_set_self]
    congr 1
    rw [List.drop_set_of_lt (by omega)]
  have v : ∀ (y : Nat) (l : List Nat), vB (y :: l) = y + 1000000000 * vB l := fun _ _ => rfl
  rw [e1, e2, v, v, h]
  have e3 := Nat.div_add_mod p d
  rw [hq, hr] at e3
  rw [Nat.mul_add, Nat.mul_add, ← Nat.mul_assoc, ← Nat.mul_assoc, Nat.mul_comm d 1000000000]
  omega
theorem by_lim {c d x p q : Nat} (hc : c < d) (hx : x < 1000000000) (hp : c * 1000000000 + x = p) (hq : p / d = q) : q < 1000000000 := by
  rw [← hq]
  refine Nat.div_lt_of_lt_mul ?_
  have := Nat.mul_le_mul_right 1000000000 (show c + 1 ≤ d from hc)
  omega
theorem by_end {n d v r : Nat} (h : n = d * v + r) (hr : r < d) : v = n / d ∧ r = n % d := by
  rw [h, Nat.mul_add_div (by omega), Nat.div_eq_of_lt hr, Nat.mul_add_mod, Nat.mod_eq_of_lt hr]
  exact ⟨rfl, rfl⟩
/-- The call returns quotient and remainder. -/
def ByRet (w : World) (N R : Nat) (e : Ending) (w' : World) : Prop := ∃ v, e = .returned (.tuple #[v, .int .u64 (R : Int)]) ∧ ∃ y : Bel w, w' = y.w ∧ OwnV y.w w.heap.size 76 v (uVs (lim N))
theorem byRet_trim {w W : World} {a : Option Addr} {cap : Nat} {L : List Nat} {n R : Nat} (x : Bel W) (hW : Below w.heap.size w W) (ho : OwnV W w.heap.size 76 (.slice a L.length cap) (uVs L)) (hL : ∀ x ∈ L, x < 1000000000) (hv : vB L = n) :
    ByRet w n R (.returned (.tuple #[.slice a (trimL L).length cap, .int .u64 (R : Int)])) x.w := by
  have h1 := own_trim ho
  rw [trim_lim hL hv] at h1 ⊢
  exact ⟨_, rfl, ⟨x.w, Below.bel hW hW.size⟩, rfl, ownV_bel h1 x⟩
set_option maxRecDepth 100000 in
set_option maxHeartbeats 6400000 in
theorem by_any (a : Option Addr) (cap m d : Nat) (w : World) (h1 : Limbs w a (lim m)) (hl1 : (lim m).length ≤ 10000) (hd0 : 0 < d) (hd : d < 1000000000) :
    Calls Tryz.prog 310 #[.slice a (lim m).length cap, .int .u64 (d : Int)] w (ByRet w (m / d) (m % d)) := by
  obtain ⟨i0, hi0, hz0, hz1, hz2⟩ := info_parts Tryz.infoU
  obtain ⟨M, hM⟩ : ∃ M, lim m = M := ⟨_, rfl⟩
  have vM : vB M = m := by rw [← hM]; exact vB_lim m
  have bM : ∀ x ∈ M, x < 1000000000 := by rw [← hM]; exact lim_lt m
  obtain ⟨Q, hQ⟩ : ∃ Q, m / d = Q := ⟨_, rfl⟩
  obtain ⟨R, hR⟩ : ∃ R, m % d = R := ⟨_, rfl⟩
  rw [hM] at h1 hl1 ⊢
  rw [hQ, hR]
  clear hM
  have t1 : IntKind.i64.wrap ((M.length : Int) - 1) = (M.length : Int) - 1 := IntWalk.i64_in _ (by omega)
  have hdi : 1 ≤ (d : Int) := by omega
  go_enter Tryz.func310, Tryz.ntmps310
  go_wp2_with (at_make; refine wpList_make_full _ rfl _ _ 260 rfl (w.heap.size) 76 i0 (.int .u64 0) 1 Tryz.underlying260 hi0 hz0 hz1 _ _ _ _ (M.length) rfl rfl (by first | rfl | omega | (simp <;> omega)) (by first | rfl | omega | (simp <;> omega)) (by rw [hz2] <;> omega) (by unfold maxLen; omega) (by first | omega | (simp <;> omega)) ?_; intro wM hownM hgrowM)
  have hbM : Below w.heap.size w wM := (Below.refl _ _).grown hgrowM (Nat.le_refl _) (fun k e => by cases e)
  have ho0 : OwnV wM w.heap.size 76 (.slice (some ⟨w.heap.size, 0, none⟩) M.length M.length) (uVs (List.replicate M.length 0)) := by
    unfold OwnV
    rw [uVs_rep, List.length_replicate]
    have := hownM
    rw [Nat.mul_one, show (Value.int .u64 0).cells = #[Value.int .u64 0] from rfl, toList_madeCells_one] at this
    exact this
  clear hownM hgrowM
  go_loopw [7, 8] (fun c i wr => ∃ (k c' : Nat) (L : List Nat), i = .int .i64 ((k : Int) - 1) ∧ k ≤ M.length ∧ c = .int .u64 (c' : Int) ∧ c' < d ∧ L.length = M.length ∧ (∀ x ∈ L, x < 1000000000) ∧ vB (M.drop k) = d * vB (L.drop k) + c' ∧
    OwnV wr w.heap.size 76 (.slice (some ⟨w.heap.size, 0, none⟩) M.length M.length) (uVs L) ∧ Below w.heap.size w wr) (fun _ i _ => (intOf i + 1).toNat)
  case atStart => exact ⟨M.length, 0, List.replicate M.length 0, rfl, by omega, rfl, hd0, by rw [List.length_replicate], fun x hx => by rw [(List.mem_replicate.1 hx).2]; decide, by rw [List.drop_length, List.drop_of_length_le (by rw [List.length_replicate]; omega)]; simp [valB], ho0, hbM⟩
  case round =>
    clear ho0 hbM t1
    obtain ⟨k, c, L, rfl, hk, rfl, hc, hL, hlt, hv, hown, hb⟩ := hrel
    have hbs := hb.size
    have HO := Lib.hid hown
    clear hown
    by_cases h0 : k = 0
    · subst h0
      rw [List.drop_zero, List.drop_zero, vM] at hv
      obtain ⟨e1, e2⟩ := by_end hv hc
      have HV := Lib.hid (show vB L = Q by rw [e1, hQ])
      have HR := Lib.hid (show c = R by rw [e2, hR])
      have HL := Lib.hid hlt
      have hLb : L.length ≤ 100000 := by omega
      have HO2 := Lib.hid (show OwnV wr w.heap.size 76 (.slice (some ⟨w.heap.size, 0, none⟩) L.length M.length) (uVs L) by rw [hL]; exact HO.out)
      have HLe := Lib.hid hL
      clear hv hlt h1 e1 e2 hL HO hk
      go_wp2_with fail
      have HT2 := trim_own HO2.out hLb
      rw [HLe.out] at HT2
      (with_reducible refine HT2.mono ?_)
      rintro _ _ ⟨rfl, x, rfl⟩
      dsimp only
      go_wp2
      go_ret2
      have := byRet_trim (R := R) x hb HO2.out HL.out HV.out
      rw [HR.out]; exact this
    · obtain ⟨j, rfl⟩ : ∃ j, k = j + 1 := ⟨k - 1, by omega⟩
      obtain ⟨b1, o1, rfl, c1⟩ := h1 (by omega)
      obtain ⟨x, hx⟩ : ∃ x, M[j]? = some x := ⟨_, List.getElem?_eq_getElem (by omega)⟩
      have hx9 := bM x (List.mem_of_getElem? hx)
      have g1 := cell_carry hb (c1 j x hx)
      obtain ⟨z, hz1⟩ : ∃ z, L[j]? = some z := ⟨_, List.getElem?_eq_getElem (by omega)⟩
      obtain ⟨g3, f3⟩ := own_at HO.out hz1
      obtain ⟨p, hp⟩ : ∃ p, c * 1000000000 + x = p := ⟨_, rfl⟩
      have hp' : (c : Int) * 1000000000 + (x : Int) = (p : Int) := by omega
      have hpb : p ≤ 999999999999999999 := by omega
      have hcb : c ≤ 999999999 := by omega
      obtain ⟨q, hq⟩ : ∃ q, p / d = q := ⟨_, rfl⟩
      obtain ⟨r, hr⟩ : ∃ r, p % d = r := ⟨_, rfl⟩
      have hq' : (p : Int) / (d : Int) = (q : Int) := by rw [← hq]; simp
      have hr' : (p : Int) % (d : Int) = (r : Int) := by rw [← hr]; simp
      have hrd : r < d := by rw [← hr]; exact Nat.mod_lt _ hd0
      have hqb := by_lim hc hx9 hp hq
      have HV := Lib.hid (by_step hx (by omega) hv hp hq hr)
      have HL := Lib.hid (lt_set (j := j) hlt hqb)
      have HS := Lib.hid (own_store (by rw [hL]; exact HO.out) j q)
      have HLe := Lib.hid hL
      have t3 : ((j + 1 : Nat) : Int) - 1 = (j : Int) := by omega
      have t2 : IntKind.i64.wrap ((j : Int) - 1) = (j : Int) - 1 := IntWalk.i64_in _ (by omega)
      have hj1 : (j : Int) < (M.length : Int) := by omega
      rw [t3]
      clear hv hlt hp hq hr hx hz1 c1 h1 t3 hL
      go_wp2
      go_region
      go_wp2
      go_roundw
      case rel =>
        have hS' := HS.out.1
        rw [List.length_set, HLe.out] at hS'
        exact ⟨j, r, L.set j q, rfl, by omega, by rw [hr'], hrd, by rw [List.length_set, HLe.out], HL.out, HV.out, hS', by (repeat' (first | (with_reducible first | apply Zl1 | apply Zl2 | apply Zl3 | apply Zl4 | apply Zl5 | apply Zl6 | apply Zl7 | apply Zl8 | apply Zl9 | apply Zla | apply Zlb | apply Zlc) | (dsimp only; with_reducible first | apply Zl8 | apply Zl2 | apply Zld) | with_reducible assumption | omega | (dsimp only; omega)))⟩
      case measure => simp [intOf] <;> omega
end Go.Proofs.YtehgeoipbgpocaaGreatDoor.I

namespace Go.Proofs.YtehgeoipbgpocaaGreatDoor.I
set_option linter.unusedVariables false
set_option linter.unusedSimpArgs false
open Go.RowKit
attribute [local go_sem low] Bel.cell Bel.frozen alloc_cell alloc_frozen

theorem conv_bytes (W : World) (l : List UInt8) : ∃ (x : Bel W) (cap : Nat), (convert 9 196 (.string ⟨l.toArray⟩)).run Tryz.prog W = .ok (.slice (some ⟨W.heap.size, 0, none⟩) l.length cap) x.w ∧
    ∀ (j : Nat) (c : UInt8), l[j]? = some c → x.w.cell? ⟨W.heap.size, j, none⟩ = some (.int .u8 (c.toNat : Int)) := by
  have h := Lib.run_convert_string_bytes (P := Tryz.prog) W 9 196 5 ⟨l.toArray⟩ Tryz.underlying9 Tryz.underlying196 Tryz.underlying5
  refine ⟨⟨_, Go.Joins.below_bytesWorld W.heap.size W 5 ⟨l.toArray⟩ (Nat.le_refl _)⟩, grownCap W (ByteArray.mk l.toArray).size 0 5, ?_, fun (j : Nat) (c : UInt8) (hj : l[j]? = some c) => ?_⟩
  · exact h
  · have hjl := (List.getElem?_eq_some_iff.1 hj).1
    have := Lib.bytesWorld_cell W 5 ⟨l.toArray⟩ j (by show j < l.toArray.size; simpa using hjl)
    rw [this]
    show some (Value.int .u8 ((l.getD j 0).toNat : Int)) = _
    rw [List.getD_eq_getElem?_getD, hj]; rfl
theorem u8_sub {c : UInt8} (h : 48 ≤ c.toNat ∧ c.toNat ≤ 57) : IntKind.u8.wrap ((c.toNat : Int) - 48) = ((c.toNat - 48 : Nat) : Int) := by rw [IntKind.wrap_u8']; omega
set_option maxRecDepth 100000 in
set_option maxHeartbeats 6400000 in
theorem long_any (l : List UInt8) (w : World) (hd : Digits l) (hl : l.length ≤ 80000) : Calls Tryz.prog 209 #[.string ⟨l.toArray⟩] w (MagRet w (numD l)) := by
  obtain ⟨i0, hi0, hz0, hz1, hz2⟩ := info_parts Tryz.infoU
  obtain ⟨S, hS⟩ : ∃ S, numD l = S := ⟨_, rfl⟩
  rw [hS]
  have HD := Lib.hid hd
  clear hd
  go_enter Tryz.func209, Tryz.ntmps209
  go_wp2
  go_loopw [3, 4] (fun v i wr => ∃ (e : Nat) (z : Int) (L : List Nat), i = .int .i64 z ∧ e ≤ l.length ∧ z ≤ l.length ∧ -9 ≤ z ∧ ((z = (e : Int) ∧ l.length = e + 9 * L.length) ∨ (z ≤ 0 ∧ e = 0)) ∧ 9 * L.length ≤ l.length + 9 ∧ (∀ x ∈ L, x < 1000000000) ∧ vB L = numD (l.drop e) ∧
    OwnV wr w.heap.size 76 v (uVs L) ∧ Below w.heap.size w wr) (fun v i _ => (intOf i).toNat)
  case atStart => exact ⟨l.length, l.length, [], rfl, by omega, by omega, by omega, .inl ⟨rfl, by simp⟩, by simp, by simp, by rw [List.drop_length]; rfl, ownV_nil _ _ _, by (repeat' (first | (with_reducible first | apply Zl1 | apply Zl2 | apply Zl3 | apply Zl4 | apply Zl5 | apply Zl6 | apply Zl7 | apply Zl8 | apply Zl9 | apply Zla | apply Zlb | apply Zlc) | (dsimp only; with_reducible first | apply Zl8 | apply Zl2 | apply Zld) | with_reducible assumption | omega | (dsimp only; omega)))⟩
  case round =>
    obtain ⟨e, z, L, rfl, he, hz, hz9, hez, hLb, hlt, hv, hown, hb⟩ := hrel
    have hbs := hb.size
    have hLl := uVs_len L
    have HO := Lib.hid hown
    clear hown
    by_cases h0 : 0 < z
    · obtain ⟨rfl, hlen⟩ : z = (e : Int) ∧ l.length = e + 9 * L.length := by omega
      have h0' : decide (0 < (e : Int)) = true := decide_eq_true h0
      have hel : (e : Int) ≤ (l.length : Int) := by omega
      by_cases h9 : 9 ≤ e
      · obtain ⟨a, ha⟩ : ∃ a, e - 9 = a := ⟨_, rfl⟩
        have h9' : (e : Int) - 9 = (a : Int) := by omega
        have hae : a ≤ e := by omega
        have hae' : (a : Int) ≤ (e : Int) := by omega
        have hx := extract_chunk l a e
        have hcl := @chunk_len l a e he
        obtain ⟨xb, capb, hcv, hcc⟩ := conv_bytes wr (chunk l a e)
        have HST := Lib.hid (long_step hae hlen hv)
        have HLT := Lib.hid (lt_snoc hlt (numD_chunk HD.out he (by omega : e ≤ a + 9)))
        have HCD := Lib.hid (@chunk_digits l a e HD.out)
        have HCC := Lib.hid hcc
        have HOx := Lib.hid (ownV_bel HO.out xb)
        have hxs := xb.size_le
        have hbx := Below.bel (x := xb) hb hbs
        generalize chunk l a e = ch at *
        have hch9 : ch.length ≤ 9 := by omega
        have HCL := Lib.hid hcl
        have HHL := Lib.hid hlen
        have HZE := Lib.hid hez
        clear hez hv hlt hcc hcl hlen
        obtain ⟨wo, rfl⟩ : ∃ wo : World, wo = wr := ⟨_, rfl⟩
        go_wp2
        go_loopw [5, 22] (fun c j wr => ∃ k : Nat, j = .int .i64 (k : Int) ∧ k ≤ ch.length ∧ c = .int .u64 (numD (ch.take k) : Nat) ∧ wr = xb.w) (fun _ j _ => ch.length - (intOf j).toNat)
        case atStart => refine ⟨0, ?_, ?_, ?_, ?_⟩ <;> first | rfl | trivial | omega
        case round =>
          obtain ⟨k, rfl, hk, rfl, rfl⟩ := hrel
          by_cases hkc : k < ch.length
          · have hki : (k : Int) < (ch.length : Int) := by omega
            obtain ⟨c, hc⟩ : ∃ c, ch[k]? = some c := ⟨_, List.getElem?_eq_getElem hkc⟩
            have g1 := HCC.out k c hc
            have hcb := HCD.out c (List.mem_of_getElem? hc)
            have hus := u8_sub hcb
            have hnx := numD_next hc
            have hnl : numD (ch.take k) < 1000000000 := by
              have := numD_lt (digits_take HCD.out k)
              exact Nat.lt_of_lt_of_le this (Nat.pow_le_pow_right (by decide) (by rw [List.length_take]; omega : (ch.take k).length ≤ 9))
            have hdb : c.toNat - 48 ≤ 9 := by omega
            obtain ⟨dg, hdg⟩ : ∃ d, c.toNat - 48 = d := ⟨_, rfl⟩
            rw [hdg] at hus hnx hdb
            have HNX := Lib.hid hnx
            clear hc hcb hdg hnx
            generalize numD (ch.take k) = v0 at *
            go_wp2
            go_roundw
            case rel => exact ⟨k + 1, by go_num, by omega, by rw [HNX.out]; go_num, by first | rfl | trivial⟩
            case measure => simp [intOf]; omega
          · obtain rfl : k = ch.length := by omega
            rw [List.take_length]
            go_wp2_with (at_builtin; refine wpList_append_own _ rfl _ _ 260 rfl (w.heap.size) 76 i0 (.int .u64 0) 1 8 Tryz.underlying260 hi0 hz0 hz1 hz2 rfl (by decide) _ _ _ rfl (World.ownsRow.alloc (HOx.out) _) ⟨xb.w.heap.size, 0, none⟩ 1 1 [.int .u64 (numD ch : Nat)] rfl rfl (cell_one_new _ _ _) (by simp [Value.oneCell']) (by unfold maxLen; omega) (by omega) (by simp; omega) ?_; intro v1 w1 hown1 hgrow1 _; obtain ⟨g1, cap1, rfl⟩ := ownsRow_succ hown1; obtain ⟨ho1, hb1⟩ := ownV_app (HOx.out) ((Below.refl _ _).alloc (by omega) _) (by simp) (by omega) rfl hown1 hgrow1)
            go_roundw
            case rel => exact ⟨a, (a:Int), L ++ [numD ch], rfl, by omega, by omega, by omega, (.inl ⟨rfl, by rw [List.length_append, List.length_singleton]; have hh := HHL.out; omega⟩), by rw [List.length_append, List.length_singleton]; have := HHL.out; omega, HLT.out, HST.out, by rw [← uVs_snoc]; rw [hLl] at ho1; exact ho1, hbx.trans hb1⟩
            case measure => simp [intOf]; omega
      · have h9' : (e : Int) < 9 := by omega
        have hae : 0 ≤ e := by omega
        have hx := extract_chunk l 0 e
        have hcl := @chunk_len l 0 e he
        obtain ⟨xb, capb, hcv, hcc⟩ := conv_bytes wr (chunk l 0 e)
        have HST := Lib.hid (long_step hae hlen hv)
        have HLT := Lib.hid (lt_snoc hlt (numD_chunk HD.out he (by omega : e ≤ 0 + 9)))
        have HCD := Lib.hid (@chunk_digits l 0 e HD.out)
        have HCC := Lib.hid hcc
        have HOx := Lib.hid (ownV_bel HO.out xb)
        have hxs := xb.size_le
        have hbx := Below.bel (x := xb) hb hbs
        generalize chunk l 0 e = ch at *
        have hch9 : ch.length ≤ 9 := by omega
        have HCL := Lib.hid hcl
        have HHL := Lib.hid hlen
        have HZE := Lib.hid hez
        clear hez hv hlt hcc hcl hlen
        obtain ⟨wo, rfl⟩ : ∃ wo : World, wo = wr := ⟨_, rfl⟩
        go_wp2
        go_loopw [5, 22] (fun c j wr => ∃ k : Nat, j = .int .i64 (k : Int) ∧ k ≤ ch.length ∧ c = .int .u64 (numD (ch.take k) : Nat) ∧ wr = xb.w) (fun _ j _ => ch.length - (intOf j).toNat)
        case atStart => refine ⟨0, ?_, ?_, ?_, ?_⟩ <;> first | rfl | trivial | omega
        case round =>
          obtain ⟨k, rfl, hk, rfl, rfl⟩ := hrel
          by_cases hkc : k < ch.length
          · have hki : (k : Int) < (ch.length : Int) := by omega
            obtain ⟨c, hc⟩ : ∃ c, ch[k]? = some c := ⟨_, List.getElem?_eq_getElem hkc⟩
            have g1 := HCC.out k c hc
            have hcb := HCD.out c (List.mem_of_getElem? hc)
            have hus := u8_sub hcb
            have hnx := numD_next hc
            have hnl : numD (ch.take k) < 1000000000 := by
              have := numD_lt (digits_take HCD.out k)
              exact Nat.lt_of_lt_of_le this (Nat.pow_le_pow_right (by decide) (by rw [List.length_take]; omega : (ch.take k).length ≤ 9))
            have hdb : c.toNat - 48 ≤ 9 := by omega
            obtain ⟨dg, hdg⟩ : ∃ d, c.toNat - 48 = d := ⟨_, rfl⟩
            rw [hdg] at hus hnx hdb
            have HNX := Lib.hid hnx
            clear hc hcb hdg hnx
            generalize numD (ch.take k) = v0 at *
            go_wp2
            go_roundw
            case rel => exact ⟨k + 1, by go_num, by omega, by rw [HNX.out]; go_num, by first | rfl | trivial⟩
            case measure => simp [intOf]; omega
          · obtain rfl : k = ch.length := by omega
            rw [List.take_length]
            go_wp2_with (at_builtin; refine wpList_append_own _ rfl _ _ 260 rfl (w.heap.size) 76 i0 (.int .u64 0) 1 8 Tryz.underlying260 hi0 hz0 hz1 hz2 rfl (by decide) _ _ _ rfl (World.ownsRow.alloc (HOx.out) _) ⟨xb.w.heap.size, 0, none⟩ 1 1 [.int .u64 (numD ch : Nat)] rfl rfl (cell_one_new _ _ _) (by simp [Value.oneCell']) (by unfold maxLen; omega) (by omega) (by simp; omega) ?_; intro v1 w1 hown1 hgrow1 _; obtain ⟨g1, cap1, rfl⟩ := ownsRow_succ hown1; obtain ⟨ho1, hb1⟩ := ownV_app (HOx.out) ((Below.refl _ _).alloc (by omega) _) (by simp) (by omega) rfl hown1 hgrow1)
            go_roundw
            case rel => exact ⟨0, ((e:Int) - 9), L ++ [numD ch], rfl, by omega, by omega, by omega, (.inr ⟨by omega, rfl⟩), by rw [List.length_append, List.length_singleton]; have := HHL.out; omega, HLT.out, HST.out, by rw [← uVs_snoc]; rw [hLl] at ho1; exact ho1, hbx.trans hb1⟩
            case measure => simp [intOf]; omega
    · obtain rfl : e = 0 := by omega
      have HV := Lib.hid (show vB L = S by rw [hv, List.drop_zero, hS])
      have HL := Lib.hid hlt
      have h0' : decide (0 < z) = false := decide_eq_false h0
      have ho2 := HO.out
      obtain ⟨a2, cap2, rfl, hc2⟩ := limbs_own ho2
      have hLb : L.length ≤ 100000 := by omega
      have HO2 := Lib.hid ho2
      clear hv hlt hc2 hez ho2 HO
      go_wp2_with fail
      (with_reducible refine (trim_own HO2.out hLb).mono ?_)
      rintro _ _ ⟨rfl, x, rfl⟩
      dsimp only
      go_wp2
      go_ret
      exact magRet_trim x hb HO2.out HL.out HV.out
end Go.Proofs.YtehgeoipbgpocaaGreatDoor.I
