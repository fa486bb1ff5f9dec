/- Sums and differences of magnitudes. -/
import Derived.Test.YteglfhmmkoahfaaGreatDoorM1
namespace Go.Proofs.YteglfhmmkoahfaaGreatDoor
open Go.RowKit
attribute [local go_sem low] Bel.cell Bel.frozen alloc_cell alloc_frozen

/-- The call returns a new slice of a number's limbs; all that lay there lies as it lay. -/
def MagRet (w : World) (N : Nat) (e : Ending) (w' : World) : Prop := ∃ v, e = .returned v ∧ ∃ y : Bel w, w' = y.w ∧ OwnV y.w w.heap.size 59 v (uVs (lim N))
abbrev vB (l : List Nat) : Nat := valB 1000000000 l
theorem vB_snoc (L : List Nat) (x : Nat) : vB (L ++ [x]) = vB L + 1000000000 ^ L.length * x := valB_snoc _ x L
theorem vB_lim (n : Nat) : vB (lim n) = n := valB_limbs (by decide) n
theorem lt_snoc {L : List Nat} {d : Nat} (h : ∀ x ∈ L, x < 1000000000) (hd : d < 1000000000) : ∀ x ∈ L ++ [d], x < 1000000000 := fun x hx => by
  rcases List.mem_append.1 hx with h1 | h1
  · exact h x h1
  · rw [List.mem_singleton.1 h1]; exact hd
theorem vB_take_past {l : List Nat} {i : Nat} (h : l.length ≤ i) : vB (l.take (i + 1)) = vB (l.take i) := by rw [List.take_of_length_le (by omega), List.take_of_length_le (by omega)]
theorem plus_step {L M N : List Nat} {i c x y s d q : Nat} (hL : L.length = i) (h : vB L + 1000000000 ^ i * c = vB (M.take i) + vB (N.take i)) (hx : vB (M.take (i + 1)) = vB (M.take i) + 1000000000 ^ i * x)
    (hy : vB (N.take (i + 1)) = vB (N.take i) + 1000000000 ^ i * y) (hs : x + c + y = s) (hd : s % 1000000000 = d) (hq : s / 1000000000 = q) :
    vB (L ++ [d]) + 1000000000 ^ (i + 1) * q = vB (M.take (i + 1)) + vB (N.take (i + 1)) := by
  have e : s = d + 1000000000 * q := by omega
  have e2 : 1000000000 ^ i * x + 1000000000 ^ i * c + 1000000000 ^ i * y = 1000000000 ^ i * d + 1000000000 ^ (i + 1) * q := by
    rw [Nat.pow_succ, Nat.mul_assoc, ← Nat.mul_add, ← Nat.mul_add, ← Nat.mul_add, hs, e]
  rw [vB_snoc, hL, hx, hy]
  omega
/-- A list of limbs that ends as the sum: trimmed. -/
theorem trim_lim {L : List Nat} {n : Nat} (h : ∀ x ∈ L, x < 1000000000) (hv : vB L = n) : trimL L = lim n := trimL_val (by decide) h hv
/-- The trimmed slice as a result. -/
theorem magRet_trim {w W : World} {a : Option Addr} {cap : Nat} {L : List Nat} {n : Nat} (x : Bel W) (hW : Below w.heap.size w W) (ho : OwnV W w.heap.size 59 (.slice a L.length cap) (uVs L)) (hL : ∀ x ∈ L, x < 1000000000) (hv : vB L = n) :
    MagRet w n (.returned (.slice a (trimL L).length cap)) x.w := by
  have h1 := own_trim ho
  rw [trim_lim hL hv] at h1 ⊢
  exact ⟨_, rfl, ⟨x.w, Below.bel hW hW.size⟩, rfl, ownV_bel h1 x⟩

theorem trim_own {W : World} {base : Nat} {a : Option Addr} {cap : Nat} {L : List Nat} (h : OwnV W base 59 (.slice a L.length cap) (uVs L)) (hl : L.length ≤ 100000) :
    Calls Tryz.prog 63 #[.slice a L.length cap] W (Ret (.slice a (trimL L).length cap) W) := by
  obtain ⟨a', cap', hv, hc⟩ := limbs_own h
  injection hv with e1 e2 e3
  subst e1
  refine trim_any a cap L W hc hl ?_
  have hn := uVs_len L
  rcases h.2 with ⟨hv, h0⟩ | ⟨g, cap', cur, hv, _, _, hc, _⟩
  · omega
  · injection hv with f1 f2 f3
    omega


set_option maxRecDepth 100000 in
set_option maxHeartbeats 6400000 in
theorem plus_any (a b : Option Addr) (cap cap' m n : Nat) (w : World) (h1 : Limbs w a (lim m)) (h2 : Limbs w b (lim n)) (hl1 : (lim m).length ≤ 10000) (hl2 : (lim n).length ≤ 10000) :
    Calls Tryz.prog 41 #[.slice a (lim m).length cap, .slice b (lim n).length cap'] w (MagRet w (m + n)) := by
  obtain ⟨i0, hi0, hz0, hz1, hz2⟩ := info_parts Tryz.infoU
  obtain ⟨S, hS⟩ : ∃ S, m + n = S := ⟨_, rfl⟩
  by_cases hlen : (lim m).length < (lim n).length
  · have hlen' : ((lim m).length : Int) < ((lim n).length : Int) := by omega
    go_enter Tryz.func41, Tryz.ntmps41
    go_wp2_with (at_make; refine wpList_make_own _ rfl _ _ 52 rfl (w.heap.size) 59 i0 (.int .u64 0) 1 Tryz.underlying52 hi0 hz0 hz1 _ _ _ ((lim n).length + 1) rfl rfl (by first | rfl | omega | (simp <;> omega)) (by rw [hz2] <;> omega) (by unfold maxLen; omega) (by first | omega | (simp <;> omega)) ?_; intro wM hownM hgrowM)
    have hbM : Below w.heap.size w wM := (Below.refl _ _).grown hgrowM (Nat.le_refl _) (fun k e => by cases e)
    go_loopw [5, 6, 22] (fun v c i wr => ∃ (k c' : Nat) (L : List Nat), i = .int .i64 (k : Int) ∧ k ≤ (lim n).length ∧ c = .int .u64 (c' : Int) ∧ c' ≤ 1 ∧ L.length = k ∧ (∀ x ∈ L, x < 1000000000) ∧
      vB L + 1000000000 ^ k * c' = vB ((lim n).take k) + vB ((lim m).take k) ∧ OwnV wr w.heap.size 59 v (uVs L) ∧ Below w.heap.size w wr) (fun _ _ i _ => (lim n).length - (intOf i).toNat)
    case atStart => exact ⟨0, 0, [], rfl, by omega, rfl, by omega, rfl, by simp, by simp [valB], hownM, hbM⟩
    case round =>
      obtain ⟨k, c, L, rfl, hk, rfl, hc, hL, hlt, hv, hown, hb⟩ := hrel
      have hbs := hb.size
      have hLl := uVs_len L
      have HO := Lib.hid hown
      clear hown
      by_cases hkm : k < (lim n).length
      · have hki : (k : Int) < ((lim n).length : Int) := by omega
        obtain ⟨b1, o1, rfl, c1⟩ := h2 (by omega)
        obtain ⟨x, hx⟩ : ∃ x, (lim n)[k]? = some x := ⟨_, List.getElem?_eq_getElem hkm⟩
        have hx9 := lim_at hx
        have g1 := cell_carry hb (c1 k x hx)
        have ex := valB_take (B := 1000000000) hx
        obtain ⟨s1, hs1⟩ : ∃ s, x + c = s := ⟨_, rfl⟩
        have hs1' : (x : Int) + (c : Int) = (s1 : Int) := by omega
        have hs1b : s1 ≤ 1000000000 := by omega
        by_cases hkn : k < (lim m).length
        · have hkj : (k : Int) < ((lim m).length : Int) := by omega
          obtain ⟨b2, o2, rfl, c2⟩ := h1 (by omega)
          obtain ⟨y, hy⟩ : ∃ y, (lim m)[k]? = some y := ⟨_, List.getElem?_eq_getElem hkn⟩
          have hy9 := lim_at hy
          have g2 := cell_carry hb (c2 k y hy)
          have ey := valB_take (B := 1000000000) hy
          obtain ⟨s, hs⟩ : ∃ s, s1 + y = s := ⟨_, rfl⟩
          have hs' : (s1 : Int) + (y : Int) = (s : Int) := by omega
          have hsb : s ≤ 2000000000 := by omega
          obtain ⟨d, hd⟩ : ∃ d, s % 1000000000 = d := ⟨_, rfl⟩
          obtain ⟨q, hq⟩ : ∃ q, s / 1000000000 = q := ⟨_, rfl⟩
          have hd' : (s : Int) % 1000000000 = (d : Int) := by omega
          have hq' : (s : Int) / 1000000000 = (q : Int) := by omega
          have HV := Lib.hid (plus_step hL hv ex ey (by omega) hd hq)
          have HL := Lib.hid (lt_snoc hlt (show d < 1000000000 by omega))
          have hqb : q ≤ 1 := by omega
          clear hv hlt hd hq hs hs1 ex ey hx hy c1 c2 h2 h1
          go_wp2_with (at_builtin; refine wpList_append_own _ rfl _ _ 52 rfl (w.heap.size) 59 i0 (.int .u64 0) 1 8 Tryz.underlying52 hi0 hz0 hz1 hz2 rfl (by decide) _ _ _ rfl (World.ownsRow.alloc (HO.out) _) ⟨wr.heap.size, 0, none⟩ 1 1 [.int .u64 (d : Int)] rfl rfl (cell_one_new _ _ _) (by simp [Value.oneCell']) (by unfold maxLen; omega) (by omega) (by simp; omega) ?_; intro v1 w1 hown1 hgrow1 _; obtain ⟨g1, cap1, rfl⟩ := ownsRow_succ hown1; obtain ⟨ho1, hb1⟩ := ownV_app (HO.out) ((Below.refl _ _).alloc (by omega) _) (by simp) (by omega) rfl hown1 hgrow1)
          go_roundw
          case rel => exact ⟨k + 1, q, L ++ [d], by go_num, by omega, rfl, hqb, by simp [hL], HL.out, HV.out, by rw [← uVs_snoc]; rw [hLl] at ho1; simpa [hL] using ho1, hb.trans hb1⟩
          case measure => simp [intOf]; omega
        · have hkj : decide ((k : Int) < ((lim m).length : Int)) = false := decide_eq_false (by omega)
          have ey := vB_take_past (l := lim m) (i := k) (by omega)
          obtain ⟨d, hd⟩ : ∃ d, s1 % 1000000000 = d := ⟨_, rfl⟩
          obtain ⟨q, hq⟩ : ∃ q, s1 / 1000000000 = q := ⟨_, rfl⟩
          have hd' : (s1 : Int) % 1000000000 = (d : Int) := by omega
          have hq' : (s1 : Int) / 1000000000 = (q : Int) := by omega
          have HV := Lib.hid (plus_step (y := 0) hL hv ex (by rw [ey]; simp) (by omega) hd hq)
          have HL := Lib.hid (lt_snoc hlt (show d < 1000000000 by omega))
          have hqb : q ≤ 1 := by omega
          clear hv hlt hd hq hs1 ex ey hx c1 h2 h1
          go_wp2_with (at_builtin; refine wpList_append_own _ rfl _ _ 52 rfl (w.heap.size) 59 i0 (.int .u64 0) 1 8 Tryz.underlying52 hi0 hz0 hz1 hz2 rfl (by decide) _ _ _ rfl (World.ownsRow.alloc (HO.out) _) ⟨wr.heap.size, 0, none⟩ 1 1 [.int .u64 (d : Int)] rfl rfl (cell_one_new _ _ _) (by simp [Value.oneCell']) (by unfold maxLen; omega) (by omega) (by simp; omega) ?_; intro v1 w1 hown1 hgrow1 _; obtain ⟨g1, cap1, rfl⟩ := ownsRow_succ hown1; obtain ⟨ho1, hb1⟩ := ownV_app (HO.out) ((Below.refl _ _).alloc (by omega) _) (by simp) (by omega) rfl hown1 hgrow1)
          go_roundw
          case rel => exact ⟨k + 1, q, L ++ [d], by go_num, by omega, rfl, hqb, by simp [hL], HL.out, HV.out, by rw [← uVs_snoc]; rw [hLl] at ho1; simpa [hL] using ho1, hb.trans hb1⟩
          case measure => simp [intOf]; omega
      · obtain rfl : k = (lim n).length := by omega
        have HV := Lib.hid (show vB (L ++ [c]) = S by
          rw [List.take_length, List.take_of_length_le (by omega), vB_lim, vB_lim] at hv
          rw [vB_snoc, hL, hv]; omega)
        have HL := Lib.hid (lt_snoc hlt (show c < 1000000000 by omega))
        clear hv hlt h2 h1
        go_wp2_with (at_builtin; refine wpList_append_own _ rfl _ _ 52 rfl (w.heap.size) 59 i0 (.int .u64 0) 1 8 Tryz.underlying52 hi0 hz0 hz1 hz2 rfl (by decide) _ _ _ rfl (World.ownsRow.alloc (HO.out) _) ⟨wr.heap.size, 0, none⟩ 1 1 [.int .u64 (c : Int)] rfl rfl (cell_one_new _ _ _) (by simp [Value.oneCell']) (by unfold maxLen; omega) (by omega) (by simp; omega) ?_; intro v1 w1 hown1 hgrow1 _; obtain ⟨g1, cap1, rfl⟩ := ownsRow_succ hown1; obtain ⟨ho1, hb1⟩ := ownV_app (HO.out) ((Below.refl _ _).alloc (by omega) _) (by simp) (by omega) rfl hown1 hgrow1)
        have e : (lim n).length + 1 = (L ++ [c]).length := by simp [hL]
        have ho2 : OwnV w1 w.heap.size 59 (.slice (some ⟨g1, 0, none⟩) (L ++ [c]).length cap1) (uVs (L ++ [c])) := by rw [← uVs_snoc, ← e, ← hL, ← hLl]; exact ho1
        rw [e]
        (with_reducible refine (trim_own ho2 (by omega)).mono ?_)
        rintro _ _ ⟨rfl, x, rfl⟩
        dsimp only
        go_wp2
        go_ret
        have := magRet_trim x (hb.trans hb1) ho2 HL.out HV.out
        rw [hS]; exact this
  · have hlen' : decide (((lim m).length : Int) < ((lim n).length : Int)) = false := decide_eq_false (by omega)
    go_enter Tryz.func41, Tryz.ntmps41
    go_wp2_with (at_make; refine wpList_make_own _ rfl _ _ 52 rfl (w.heap.size) 59 i0 (.int .u64 0) 1 Tryz.underlying52 hi0 hz0 hz1 _ _ _ ((lim m).length + 1) rfl rfl (by first | rfl | omega | (simp <;> omega)) (by rw [hz2] <;> omega) (by unfold maxLen; omega) (by first | omega | (simp <;> omega)) ?_; intro wM hownM hgrowM)
    have hbM : Below w.heap.size w wM := (Below.refl _ _).grown hgrowM (Nat.le_refl _) (fun k e => by cases e)
    go_loopw [5, 6, 22] (fun v c i wr => ∃ (k c' : Nat) (L : List Nat), i = .int .i64 (k : Int) ∧ k ≤ (lim m).length ∧ c = .int .u64 (c' : Int) ∧ c' ≤ 1 ∧ L.length = k ∧ (∀ x ∈ L, x < 1000000000) ∧
      vB L + 1000000000 ^ k * c' = vB ((lim m).take k) + vB ((lim n).take k) ∧ OwnV wr w.heap.size 59 v (uVs L) ∧ Below w.heap.size w wr) (fun _ _ i _ => (lim m).length - (intOf i).toNat)
    case atStart => exact ⟨0, 0, [], rfl, by omega, rfl, by omega, rfl, by simp, by simp [valB], hownM, hbM⟩
    case round =>
      obtain ⟨k, c, L, rfl, hk, rfl, hc, hL, hlt, hv, hown, hb⟩ := hrel
      have hbs := hb.size
      have hLl := uVs_len L
      have HO := Lib.hid hown
      clear hown
      by_cases hkm : k < (lim m).length
      · have hki : (k : Int) < ((lim m).length : Int) := by omega
        obtain ⟨b1, o1, rfl, c1⟩ := h1 (by omega)
        obtain ⟨x, hx⟩ : ∃ x, (lim m)[k]? = some x := ⟨_, List.getElem?_eq_getElem hkm⟩
        have hx9 := lim_at hx
        have g1 := cell_carry hb (c1 k x hx)
        have ex := valB_take (B := 1000000000) hx
        obtain ⟨s1, hs1⟩ : ∃ s, x + c = s := ⟨_, rfl⟩
        have hs1' : (x : Int) + (c : Int) = (s1 : Int) := by omega
        have hs1b : s1 ≤ 1000000000 := by omega
        by_cases hkn : k < (lim n).length
        · have hkj : (k : Int) < ((lim n).length : Int) := by omega
          obtain ⟨b2, o2, rfl, c2⟩ := h2 (by omega)
          obtain ⟨y, hy⟩ : ∃ y, (lim n)[k]? = some y := ⟨_, List.getElem?_eq_getElem hkn⟩
          have hy9 := lim_at hy
          have g2 := cell_carry hb (c2 k y hy)
          have ey := valB_take (B := 1000000000) hy
          obtain ⟨s, hs⟩ : ∃ s, s1 + y = s := ⟨_, rfl⟩
          have hs' : (s1 : Int) + (y : Int) = (s : Int) := by omega
          have hsb : s ≤ 2000000000 := by omega
          obtain ⟨d, hd⟩ : ∃ d, s % 1000000000 = d := ⟨_, rfl⟩
          obtain ⟨q, hq⟩ : ∃ q, s / 1000000000 = q := ⟨_, rfl⟩
          have hd' : (s : Int) % 1000000000 = (d : Int) := by omega
          have hq' : (s : Int) / 1000000000 = (q : Int) := by omega
          have HV := Lib.hid (plus_step hL hv ex ey (by omega) hd hq)
          have HL := Lib.hid (lt_snoc hlt (show d < 1000000000 by omega))
          have hqb : q ≤ 1 := by omega
          clear hv hlt hd hq hs hs1 ex ey hx hy c1 c2 h1 h2
          go_wp2_with (at_builtin; refine wpList_append_own _ rfl _ _ 52 rfl (w.heap.size) 59 i0 (.int .u64 0) 1 8 Tryz.underlying52 hi0 hz0 hz1 hz2 rfl (by decide) _ _ _ rfl (World.ownsRow.alloc (HO.out) _) ⟨wr.heap.size, 0, none⟩ 1 1 [.int .u64 (d : Int)] rfl rfl (cell_one_new _ _ _) (by simp [Value.oneCell']) (by unfold maxLen; omega) (by omega) (by simp; omega) ?_; intro v1 w1 hown1 hgrow1 _; obtain ⟨g1, cap1, rfl⟩ := ownsRow_succ hown1; obtain ⟨ho1, hb1⟩ := ownV_app (HO.out) ((Below.refl _ _).alloc (by omega) _) (by simp) (by omega) rfl hown1 hgrow1)
          go_roundw
          case rel => exact ⟨k + 1, q, L ++ [d], by go_num, by omega, rfl, hqb, by simp [hL], HL.out, HV.out, by rw [← uVs_snoc]; rw [hLl] at ho1; simpa [hL] using ho1, hb.trans hb1⟩
          case measure => simp [intOf]; omega
        · have hkj : decide ((k : Int) < ((lim n).length : Int)) = false := decide_eq_false (by omega)
          have ey := vB_take_past (l := lim n) (i := k) (by omega)
          obtain ⟨d, hd⟩ : ∃ d, s1 % 1000000000 = d := ⟨_, rfl⟩
          obtain ⟨q, hq⟩ : ∃ q, s1 / 1000000000 = q := ⟨_, rfl⟩
          have hd' : (s1 : Int) % 1000000000 = (d : Int) := by omega
          have hq' : (s1 : Int) / 1000000000 = (q : Int) := by omega
          have HV := Lib.hid (plus_step (y := 0) hL hv ex (by rw [ey]; simp) (by omega) hd hq)
          have HL := Lib.hid (lt_snoc hlt (show d < 1000000000 by omega))
          have hqb : q ≤ 1 := by omega
          clear hv hlt hd hq hs1 ex ey hx c1 h1 h2
          go_wp2_with (at_builtin; refine wpList_append_own _ rfl _ _ 52 rfl (w.heap.size) 59 i0 (.int .u64 0) 1 8 Tryz.underlying52 hi0 hz0 hz1 hz2 rfl (by decide) _ _ _ rfl (World.ownsRow.alloc (HO.out) _) ⟨wr.heap.size, 0, none⟩ 1 1 [.int .u64 (d : Int)] rfl rfl (cell_one_new _ _ _) (by simp [Value.oneCell']) (by unfold maxLen; omega) (by omega) (by simp; omega) ?_; intro v1 w1 hown1 hgrow1 _; obtain ⟨g1, cap1, rfl⟩ := ownsRow_succ hown1; obtain ⟨ho1, hb1⟩ := ownV_app (HO.out) ((Below.refl _ _).alloc (by omega) _) (by simp) (by omega) rfl hown1 hgrow1)
          go_roundw
          case rel => exact ⟨k + 1, q, L ++ [d], by go_num, by omega, rfl, hqb, by simp [hL], HL.out, HV.out, by rw [← uVs_snoc]; rw [hLl] at ho1; simpa [hL] using ho1, hb.trans hb1⟩
          case measure => simp [intOf]; omega
      · obtain rfl : k = (lim m).length := by omega
        have HV := Lib.hid (show vB (L ++ [c]) = S by
          rw [List.take_length, List.take_of_length_le (by omega), vB_lim, vB_lim] at hv
          rw [vB_snoc, hL, hv]; omega)
        have HL := Lib.hid (lt_snoc hlt (show c < 1000000000 by omega))
        clear hv hlt h1 h2
        go_wp2_with (at_builtin; refine wpList_append_own _ rfl _ _ 52 rfl (w.heap.size) 59 i0 (.int .u64 0) 1 8 Tryz.underlying52 hi0 hz0 hz1 hz2 rfl (by decide) _ _ _ rfl (World.ownsRow.alloc (HO.out) _) ⟨wr.heap.size, 0, none⟩ 1 1 [.int .u64 (c : Int)] rfl rfl (cell_one_new _ _ _) (by simp [Value.oneCell']) (by unfold maxLen; omega) (by omega) (by simp; omega) ?_; intro v1 w1 hown1 hgrow1 _; obtain ⟨g1, cap1, rfl⟩ := ownsRow_succ hown1; obtain ⟨ho1, hb1⟩ := ownV_app (HO.out) ((Below.refl _ _).alloc (by omega) _) (by simp) (by omega) rfl hown1 hgrow1)
        have e : (lim m).length + 1 = (L ++ [c]).length := by simp [hL]
        have ho2 : OwnV w1 w.heap.size 59 (.slice (some ⟨g1, 0, none⟩) (L ++ [c]).length cap1) (uVs (L ++ [c])) := by rw [← uVs_snoc, ← e, ← hL, ← hLl]; exact ho1
        rw [e]
        (with_reducible refine (trim_own ho2 (by omega)).mono ?_)
        rintro _ _ ⟨rfl, x, rfl⟩
        dsimp only
        go_wp2
        go_ret
        have := magRet_trim x (hb.trans hb1) ho2 HL.out HV.out
        rw [hS]; exact this
end Go.Proofs.YteglfhmmkoahfaaGreatDoor
