/- Differences of magnitudes. -/
import Derived.Test.YteglfhmmkoahfaaGreatDoorM2
namespace Go.Proofs.YteglfhmmkoahfaaGreatDoor
open Go.RowKit
attribute [local go_sem low] Bel.cell Bel.frozen alloc_cell alloc_frozen

theorem less_step {L M N : List Nat} {i c x y d q : Nat} (hL : L.length = i) (h : vB L + vB (N.take i) = vB (M.take i) + 1000000000 ^ i * c) (hx : vB (M.take (i + 1)) = vB (M.take i) + 1000000000 ^ i * x)
    (hy : vB (N.take (i + 1)) = vB (N.take i) + 1000000000 ^ i * y) (hs : d + (c + y) = x + 1000000000 * q) :
    vB (L ++ [d]) + vB (N.take (i + 1)) = vB (M.take (i + 1)) + 1000000000 ^ (i + 1) * q := by
  have e2 : 1000000000 ^ i * d + (1000000000 ^ i * c + 1000000000 ^ i * y) = 1000000000 ^ i * x + 1000000000 ^ (i + 1) * q := by
    rw [Nat.pow_succ, Nat.mul_assoc, ← Nat.mul_add, ← Nat.mul_add, ← Nat.mul_add, hs]
  rw [vB_snoc, hL, hx, hy]
  omega
theorem less_end {L : List Nat} {m n c : Nat} (hlt : ∀ x ∈ L, x < 1000000000) (hL : L.length = (lim m).length) (h : vB L + n = m + 1000000000 ^ (lim m).length * c) (hc : c ≤ 1) (hn : n ≤ m) : vB L = m - n := by
  have h1 : vB L < 1000000000 ^ L.length := valB_lt (B := 1000000000) (by decide) hlt
  rw [hL] at h1
  rcases (show c = 0 ∨ c = 1 by omega) with rfl | rfl
  · rw [Nat.mul_zero] at h; omega
  · rw [Nat.mul_one] at h; omega

set_option maxRecDepth 100000 in
set_option maxHeartbeats 6400000 in
theorem less_any (a b : Option Addr) (cap cap' m n : Nat) (w : World) (h1 : Limbs w a (lim m)) (h2 : Limbs w b (lim n)) (hl1 : (lim m).length ≤ 10000) (hnm : n ≤ m) :
    Calls Tryz.prog 42 #[.slice a (lim m).length cap, .slice b (lim n).length cap'] w (MagRet w (m - n)) := by
  obtain ⟨i0, hi0, hz0, hz1, hz2⟩ := info_parts Tryz.infoU
  have hll : (lim n).length ≤ (lim m).length := Nat.le_of_not_lt fun h => by
    have := limbs_lt_of_len (by decide) h
    omega
  obtain ⟨S, hS⟩ : ∃ S, m - n = S := ⟨_, rfl⟩
  go_enter Tryz.func42, Tryz.ntmps42
  go_wp2_with (at_make; refine wpList_make_own _ rfl _ _ 52 rfl (w.heap.size) 59 i0 (.int .u64 0) 1 Tryz.underlying52 hi0 hz0 hz1 _ _ _ ((lim m).length) rfl rfl (by first | rfl | omega | (simp <;> omega)) (by rw [hz2] <;> omega) (by unfold maxLen; omega) (by first | omega | (simp <;> omega)) ?_; intro wM hownM hgrowM)
  have hbM : Below w.heap.size w wM := (Below.refl _ _).grown hgrowM (Nat.le_refl _) (fun k e => by cases e)
  go_loopw [5, 6, 15] (fun v c i wr => ∃ (k c' : Nat) (L : List Nat), i = .int .i64 (k : Int) ∧ k ≤ (lim m).length ∧ c = .int .u64 (c' : Int) ∧ c' ≤ 1 ∧ L.length = k ∧ (∀ x ∈ L, x < 1000000000) ∧
    vB L + vB ((lim n).take k) = vB ((lim m).take k) + 1000000000 ^ k * c' ∧ OwnV wr w.heap.size 59 v (uVs L) ∧ Below w.heap.size w wr) (fun _ _ i _ => (lim m).length - (intOf i).toNat)
  case atStart => exact ⟨0, 0, [], rfl, by omega, rfl, by omega, rfl, by simp, by simp [valB], hownM, hbM⟩
  case round =>
    obtain ⟨k, c, L, rfl, hk, rfl, hc, hL, hlt, hv, hown, hb⟩ := hrel
    have hbs := hb.size
    have hLl := uVs_len L
    have HO := Lib.hid hown
    clear hown
    by_cases hkm : k < (lim m).length
    · have hki : (k : Int) < ((lim m).length : Int) := by omega
      obtain ⟨b1, o1, rfl, c1⟩ := h1 (by omega)
      obtain ⟨x, hx⟩ : ∃ x, (lim m)[k]? = some x := ⟨_, List.getElem?_eq_getElem hkm⟩
      have hx9 := lim_at hx
      have g1 := cell_carry hb (c1 k x hx)
      have ex := valB_take (B := 1000000000) hx
      by_cases hkn : k < (lim n).length
      · have hkj : (k : Int) < ((lim n).length : Int) := by omega
        obtain ⟨b2, o2, rfl, c2⟩ := h2 (by omega)
        obtain ⟨y, hy⟩ : ∃ y, (lim n)[k]? = some y := ⟨_, List.getElem?_eq_getElem hkn⟩
        have hy9 := lim_at hy
        have g2 := cell_carry hb (c2 k y hy)
        have ey := valB_take (B := 1000000000) hy
        obtain ⟨s, hs⟩ : ∃ s, c + y = s := ⟨_, rfl⟩
        have hs' : (c : Int) + (y : Int) = (s : Int) := by omega
        have hsb : s ≤ 1000000000 := by omega
        by_cases hxs : x < s
        · obtain ⟨d, hd⟩ : ∃ d, x + 1000000000 - s = d := ⟨_, rfl⟩
          have hd' : (x : Int) + 1000000000 - (s : Int) = (d : Int) := by omega
          have hxs' : decide ((x : Int) < (s : Int)) = true := decide_eq_true (by omega)
          have HV := Lib.hid (less_step (y := y) (q := 1) (d := d) hL hv ex ey (by omega))
          have HL := Lib.hid (lt_snoc hlt (show d < 1000000000 by omega))
          clear hv hlt hd hs ex ey hx hy c1 c2 h1 h2
          go_wp2_with (at_builtin; refine wpList_append_own _ rfl _ _ 52 rfl (w.heap.size) 59 i0 (.int .u64 0) 1 8 Tryz.underlying52 hi0 hz0 hz1 hz2 rfl (by decide) _ _ _ rfl (World.ownsRow.alloc (HO.out) _) ⟨wr.heap.size, 0, none⟩ 1 1 [.int .u64 (d : Int)] rfl rfl (cell_one_new _ _ _) (by simp [Value.oneCell']) (by unfold maxLen; omega) (by omega) (by simp; omega) ?_; intro v1 w1 hown1 hgrow1 _; obtain ⟨g1, cap1, rfl⟩ := ownsRow_succ hown1; obtain ⟨ho1, hb1⟩ := ownV_app (HO.out) ((Below.refl _ _).alloc (by omega) _) (by simp) (by omega) rfl hown1 hgrow1)
          go_roundw
          case rel => exact ⟨k + 1, 1, L ++ [d], by go_num, by omega, rfl, by omega, by simp [hL], HL.out, HV.out, by rw [← uVs_snoc]; rw [hLl] at ho1; simpa [hL] using ho1, hb.trans hb1⟩
          case measure => simp [intOf]; omega
        · obtain ⟨d, hd⟩ : ∃ d, x - s = d := ⟨_, rfl⟩
          have hd' : (x : Int) - (s : Int) = (d : Int) := by omega
          have hxs' : decide ((x : Int) < (s : Int)) = false := decide_eq_false (by omega)
          have HV := Lib.hid (less_step (y := y) (q := 0) (d := d) hL hv ex ey (by omega))
          have HL := Lib.hid (lt_snoc hlt (show d < 1000000000 by omega))
          clear hv hlt hd hs ex ey hx hy c1 c2 h1 h2
          go_wp2_with (at_builtin; refine wpList_append_own _ rfl _ _ 52 rfl (w.heap.size) 59 i0 (.int .u64 0) 1 8 Tryz.underlying52 hi0 hz0 hz1 hz2 rfl (by decide) _ _ _ rfl (World.ownsRow.alloc (HO.out) _) ⟨wr.heap.size, 0, none⟩ 1 1 [.int .u64 (d : Int)] rfl rfl (cell_one_new _ _ _) (by simp [Value.oneCell']) (by unfold maxLen; omega) (by omega) (by simp; omega) ?_; intro v1 w1 hown1 hgrow1 _; obtain ⟨g1, cap1, rfl⟩ := ownsRow_succ hown1; obtain ⟨ho1, hb1⟩ := ownV_app (HO.out) ((Below.refl _ _).alloc (by omega) _) (by simp) (by omega) rfl hown1 hgrow1)
          go_roundw
          case rel => exact ⟨k + 1, 0, L ++ [d], by go_num, by omega, rfl, by omega, by simp [hL], HL.out, HV.out, by rw [← uVs_snoc]; rw [hLl] at ho1; simpa [hL] using ho1, hb.trans hb1⟩
          case measure => simp [intOf]; omega
      · have hkj : decide ((k : Int) < ((lim n).length : Int)) = false := decide_eq_false (by omega)
        have ey := vB_take_past (l := lim n) (i := k) (by omega)
        by_cases hxs : x < c
        · obtain ⟨d, hd⟩ : ∃ d, x + 1000000000 - c = d := ⟨_, rfl⟩
          have hd' : (x : Int) + 1000000000 - (c : Int) = (d : Int) := by omega
          have hxs' : decide ((x : Int) < (c : Int)) = true := decide_eq_true (by omega)
          have HV := Lib.hid (less_step (y := 0) (q := 1) (d := d) hL hv ex (by rw [ey]; simp) (by omega))
          have HL := Lib.hid (lt_snoc hlt (show d < 1000000000 by omega))
          clear hv hlt hd ex ey hx c1 h1 h2
          go_wp2_with (at_builtin; refine wpList_append_own _ rfl _ _ 52 rfl (w.heap.size) 59 i0 (.int .u64 0) 1 8 Tryz.underlying52 hi0 hz0 hz1 hz2 rfl (by decide) _ _ _ rfl (World.ownsRow.alloc (HO.out) _) ⟨wr.heap.size, 0, none⟩ 1 1 [.int .u64 (d : Int)] rfl rfl (cell_one_new _ _ _) (by simp [Value.oneCell']) (by unfold maxLen; omega) (by omega) (by simp; omega) ?_; intro v1 w1 hown1 hgrow1 _; obtain ⟨g1, cap1, rfl⟩ := ownsRow_succ hown1; obtain ⟨ho1, hb1⟩ := ownV_app (HO.out) ((Below.refl _ _).alloc (by omega) _) (by simp) (by omega) rfl hown1 hgrow1)
          go_roundw
          case rel => exact ⟨k + 1, 1, L ++ [d], by go_num, by omega, rfl, by omega, by simp [hL], HL.out, HV.out, by rw [← uVs_snoc]; rw [hLl] at ho1; simpa [hL] using ho1, hb.trans hb1⟩
          case measure => simp [intOf]; omega
        · obtain ⟨d, hd⟩ : ∃ d, x - c = d := ⟨_, rfl⟩
          have hd' : (x : Int) - (c : Int) = (d : Int) := by omega
          have hxs' : decide ((x : Int) < (c : Int)) = false := decide_eq_false (by omega)
          have HV := Lib.hid (less_step (y := 0) (q := 0) (d := d) hL hv ex (by rw [ey]; simp) (by omega))
          have HL := Lib.hid (lt_snoc hlt (show d < 1000000000 by omega))
          clear hv hlt hd ex ey hx c1 h1 h2
          go_wp2_with (at_builtin; refine wpList_append_own _ rfl _ _ 52 rfl (w.heap.size) 59 i0 (.int .u64 0) 1 8 Tryz.underlying52 hi0 hz0 hz1 hz2 rfl (by decide) _ _ _ rfl (World.ownsRow.alloc (HO.out) _) ⟨wr.heap.size, 0, none⟩ 1 1 [.int .u64 (d : Int)] rfl rfl (cell_one_new _ _ _) (by simp [Value.oneCell']) (by unfold maxLen; omega) (by omega) (by simp; omega) ?_; intro v1 w1 hown1 hgrow1 _; obtain ⟨g1, cap1, rfl⟩ := ownsRow_succ hown1; obtain ⟨ho1, hb1⟩ := ownV_app (HO.out) ((Below.refl _ _).alloc (by omega) _) (by simp) (by omega) rfl hown1 hgrow1)
          go_roundw
          case rel => exact ⟨k + 1, 0, L ++ [d], by go_num, by omega, rfl, by omega, by simp [hL], HL.out, HV.out, by rw [← uVs_snoc]; rw [hLl] at ho1; simpa [hL] using ho1, hb.trans hb1⟩
          case measure => simp [intOf]; omega
    · obtain rfl : k = (lim m).length := by omega
      have HV := Lib.hid (show vB L = S by
        rw [List.take_length, List.take_of_length_le (by omega), vB_lim, vB_lim] at hv
        rw [less_end hlt hL hv hc hnm, hS])
      have HL := Lib.hid hlt
      have ho2 := HO.out
      obtain ⟨a2, cap2, rfl, hc2⟩ := limbs_own ho2
      have hLb : L.length ≤ 100000 := by omega
      clear hv hlt h1 h2 hc2 hL hk hkm
      have HO2 := Lib.hid ho2
      clear ho2
      go_wp2_with fail
      (with_reducible refine (trim_own HO2.out hLb).mono ?_)
      rintro _ _ ⟨rfl, x, rfl⟩
      dsimp only
      go_wp2
      go_ret
      have := magRet_trim x hb HO2.out HL.out HV.out
      rw [hS]; exact this
end Go.Proofs.YteglfhmmkoahfaaGreatDoor
