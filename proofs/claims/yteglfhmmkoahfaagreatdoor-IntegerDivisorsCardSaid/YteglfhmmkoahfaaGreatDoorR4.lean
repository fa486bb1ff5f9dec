/- The reference's both: sums and differences of groups. -/
import Derived.Test.YteglfhmmkoahfaaGreatDoorR2
namespace Go.Proofs.YteglfhmmkoahfaaGreatDoor
open Go.RowKit
attribute [local go_sem low] Bel.cell Bel.frozen alloc_cell alloc_frozen

theorem both_step {L : List Nat} {k d : Nat} {c P x p s q : Int} (hL : L.length = k) (hv : (vG L : Int) + 10000 ^ k * c = P) (hs : c + x + p = s) (hd : s = d + 10000 * q) :
    (vG (L ++ [d]) : Int) + 10000 ^ (k + 1) * q = P + 10000 ^ k * x + 10000 ^ k * p := by
  have e1 : (vG (L ++ [d]) : Int) = (vG L : Int) + 10000 ^ k * (d : Int) := by rw [vG_snoc, hL]; simp
  have e2 : (10000 : Int) ^ (k + 1) * q = 10000 ^ k * (10000 * q) := by rw [Int.pow_succ, Int.mul_assoc]
  have e3 : (10000 : Int) ^ k * (d : Int) + 10000 ^ k * (10000 * q) = 10000 ^ k * c + 10000 ^ k * x + 10000 ^ k * p := by
    rw [← Int.mul_add, ← Int.mul_add, ← Int.mul_add, hs, hd]
  rw [e1, e2]
  omega
theorem vG_take {l : List Nat} {i x : Nat} (h : l[i]? = some x) : (vG (l.take (i + 1)) : Int) = (vG (l.take i) : Int) + 10000 ^ i * (x : Int) := by
  have := valB_take (B := 10000) h
  rw [show vG (l.take (i + 1)) = _ from this]; simp
theorem vG_take_past {l : List Nat} {i : Nat} (h : l.length ≤ i) : (vG (l.take (i + 1)) : Int) = (vG (l.take i) : Int) + 10000 ^ i * (0 : Int) := by rw [List.take_of_length_le (by omega), List.take_of_length_le (by omega)]; simp
theorem grp_getlt {l : List Nat} (h : ∀ x ∈ l, x < 10000) {k x : Nat} (hx : l[k]? = some x) : x < 10000 := h x (List.mem_of_getElem? hx)
set_option maxRecDepth 100000 in
set_option maxHeartbeats 12800000 in
theorem both_any (σ : Int) (a b : Option Addr) (cap cap' N : Nat) (G H : List Nat) (w : World) (hσ : σ = 1 ∨ σ = -1) (h1 : Grps w a G) (h2 : Grps w b H) (hG : ∀ x ∈ G, x < 10000) (hH : ∀ x ∈ H, x < 10000)
    (hl1 : G.length ≤ 50000) (hl2 : H.length ≤ 50000) (hN : (N : Int) = (vG G : Int) + σ * (vG H : Int)) :
    Calls Tryz.prog 54 #[.slice a G.length cap, .slice b H.length cap', .int .i64 σ] w (GrpRet w N) := by
  obtain ⟨i0, hi0, hz0, hz1, hz2⟩ := info_parts Tryz.infoI
  have HN := Lib.hid hN
  clear hN
  go_enter Tryz.func54, Tryz.ntmps54
  go_wp2
  go_loopw [7, 8, 9] (fun v c i wr => ∃ (k : Nat) (z : Int) (L : List Nat), i = .int .i64 (k : Int) ∧ c = .int .i64 z ∧ L.length = k ∧ (∀ x ∈ L, x < 10000) ∧ -1 ≤ z ∧ z ≤ 1 ∧ k ≤ max G.length H.length + 1 ∧ (k = max G.length H.length + 1 → z = 0) ∧
    (vG L : Int) + 10000 ^ k * z = (vG (G.take k) : Int) + σ * (vG (H.take k) : Int) ∧ OwnV wr w.heap.size 3 v (iVs L) ∧ Below w.heap.size w wr) (fun v c i _ => max G.length H.length + 1 - (intOf i).toNat)
  case atStart => exact ⟨0, 0, [], rfl, rfl, rfl, by simp, by omega, by omega, by omega, by omega, by simp [valB], ownV_nil _ _ _, by (repeat' (first | (with_reducible exact Below.refl _ _) | (with_reducible exact Nat.le_refl _) | (with_reducible refine Below.bel ?_ ?_) | (with_reducible refine Below.alloc ?_ ?_ _) | (with_reducible refine Below.drew ?_) | (with_reducible refine Below.drawsN ?_ _) | (with_reducible refine Below.setCell ?_ ?_ _) | (with_reducible refine le_bel ?_) | (with_reducible refine le_alloc ?_) | (with_reducible refine le_setCell ?_) | (with_reducible refine le_drew ?_) | (with_reducible refine le_drawsN ?_) | (dsimp only; with_reducible refine le_bel ?_) | (dsimp only; with_reducible refine Nat.le_refl _) | (dsimp only; with_reducible refine le_bel_add ?_) | (with_reducible assumption) | omega | (dsimp only; omega)))⟩
  case round =>
    obtain ⟨k, c, L, rfl, rfl, hL, hlt, hc1, hc2, hk, hkc, hv, hown, hb⟩ := hrel
    have hbs := hb.size
    have hLl := iVs_len L
    have HO := Lib.hid hown
    clear hown
    by_cases hkG : k < G.length
    · have hki : (k : Int) < (G.length : Int) := by omega
      obtain ⟨b1, o1, rfl, c1⟩ := h1 (by omega)
      obtain ⟨x, hx⟩ : ∃ x, G[k]? = some x := ⟨_, List.getElem?_eq_getElem hkG⟩
      have hx4 := grp_getlt hG hx
      have g1 := cell_carry hb (c1 k x hx)
      have ex := vG_take hx
      obtain ⟨s1, hs1⟩ : ∃ s, c + (x : Int) = s := ⟨_, rfl⟩
      have tx : IntKind.i64.wrap (c + (x : Int)) = s1 := by rw [IntWalk.i64_in _ (by omega), hs1]
      by_cases hkH : k < H.length
      · have hkj : (k : Int) < (H.length : Int) := by omega
        obtain ⟨b2, o2, rfl, c2⟩ := h2 (by omega)
        obtain ⟨y, hy⟩ : ∃ y, H[k]? = some y := ⟨_, List.getElem?_eq_getElem hkH⟩
        have hy4 := grp_getlt hH hy
        have g2 := cell_carry hb (c2 k y hy)
        have ey := vG_take hy
        obtain ⟨p, hp⟩ : ∃ p, σ * (y : Int) = p := ⟨_, rfl⟩
        have hpb : -10000 < p ∧ p < 10000 := by rcases hσ with rfl | rfl <;> omega
        have tp : IntKind.i64.wrap (σ * (y : Int)) = p := by rw [hp]; exact IntWalk.i64_in _ (by omega)
        obtain ⟨s, hss⟩ : ∃ s, s1 + p = s := ⟨_, rfl⟩
        have ts : IntKind.i64.wrap (s1 + p) = s := by rw [IntWalk.i64_in _ (by omega), hss]
        have hs : c + (x : Int) + p = s := by omega
        clear hx hy c1 c2 h1 h2
        obtain ⟨q, hq⟩ : ∃ q, s / 10000 = q := ⟨_, rfl⟩
        obtain ⟨d, hd⟩ : ∃ d : Nat, s % 10000 = (d : Int) := ⟨(s % 10000).toNat, by omega⟩
        have hsd : s = (d : Int) + 10000 * q := by omega
        have hd4 : d < 10000 := by omega
        obtain ⟨r1, hr1⟩ : ∃ r, s.tmod 10000 = r := ⟨_, rfl⟩
        have hr1b : -10000 < r1 ∧ r1 < 10000 := by
          have h1 := Int.tmod_lt_of_pos s (show (0 : Int) < 10000 by decide)
          have h2 := Int.lt_tmod_of_pos s (show (0 : Int) < 10000 by decide)
          omega
        have hr1d : (r1 + 10000) % 10000 = (d : Int) := by
          have h3 := Int.tmod_add_mul_tdiv s 10000
          rw [hr1] at h3
          omega
        obtain ⟨r2, hr2⟩ : ∃ r, r1 + 10000 = r := ⟨_, rfl⟩
        have f2 : IntKind.i64.wrap (r1 + 10000) = r2 := by rw [IntWalk.i64_in _ (by omega), hr2]
        have f3 : r2.tmod 10000 = (d : Int) := by rw [Int.tmod_eq_emod_of_nonneg (by omega), ← hr2]; exact hr1d
        obtain ⟨e, he⟩ : ∃ e, s - (d : Int) = e := ⟨_, rfl⟩
        have f4 : IntKind.i64.wrap (s - (d : Int)) = e := by rw [IntWalk.i64_in _ (by omega), he]
        have f5 : e.tdiv 10000 = q := by rw [← he, hsd, show (d : Int) + 10000 * q - d = 10000 * q by omega]; exact Int.mul_tdiv_cancel_left q (by decide)
        have f6 : IntKind.i64.wrap q = q := IntWalk.i64_in _ (by omega)
        have hstep := both_step (P := (vG (G.take k) : Int) + σ * (vG (H.take k) : Int)) hL hv hs hsd
        have HV := Lib.hid (show (vG (L ++ [d]) : Int) + 10000 ^ (k + 1) * q = (vG (G.take (k + 1)) : Int) + σ * (vG (H.take (k + 1)) : Int) by
          rw [hstep, ex, ey, Int.mul_add, Int.mul_left_comm σ, hp]; omega)
        have HL := Lib.hid (lt_snocG hlt hd4)
        have hq1 : -1 ≤ q ∧ q ≤ 1 := by omega
        have HQ0 := Lib.hid (show k + 1 = max G.length H.length + 1 → q = 0 from fun hkk => by omega)
        clear hv hlt hkc hsd hstep ex ey hr1b hr1d hr2 he hq hd
        go_wp2_with (at_builtin; refine wpList_append_own _ rfl _ _ 67 rfl (w.heap.size) 3 i0 (.int .i64 0) 1 8 Tryz.underlying67 hi0 hz0 hz1 hz2 rfl (by decide) _ _ _ rfl (World.ownsRow.alloc (HO.out) _) ⟨wr.heap.size, 0, none⟩ 1 1 [.int .i64 (d : Int)] rfl rfl (cell_one_new _ _ _) (by simp [Value.oneCell']) (by unfold maxLen; omega) (by omega) (by simp; omega) ?_; intro v1 w1 hown1 hgrow1 _; obtain ⟨g1, cap1, rfl⟩ := ownsRow_succ hown1; obtain ⟨ho1, hb1⟩ := ownV_app (HO.out) ((Below.refl _ _).alloc (by omega) _) (by simp) (by omega) rfl hown1 hgrow1)
        go_roundw
        case rel => exact ⟨k + 1, q, L ++ [d], by go_num, rfl, by simp [hL], HL.out, hq1.1, hq1.2, by omega, HQ0.out, HV.out, by rw [← iVs_snoc]; rw [hLl] at ho1; simpa [hL] using ho1, hb.trans hb1⟩
        case measure => simp [intOf]; omega
      · have hkj : decide ((k : Int) < (H.length : Int)) = false := decide_eq_false (by omega)
        have ey := vG_take_past (l := H) (i := k) (by omega)
        have hp : σ * (0 : Int) = 0 := Int.mul_zero σ
        have hs : c + (x : Int) + 0 = s1 := by omega
        clear hx c1 h1 h2
        obtain ⟨q, hq⟩ : ∃ q, s1 / 10000 = q := ⟨_, rfl⟩
        obtain ⟨d, hd⟩ : ∃ d : Nat, s1 % 10000 = (d : Int) := ⟨(s1 % 10000).toNat, by omega⟩
        have hsd : s1 = (d : Int) + 10000 * q := by omega
        have hd4 : d < 10000 := by omega
        obtain ⟨r1, hr1⟩ : ∃ r, s1.tmod 10000 = r := ⟨_, rfl⟩
        have hr1b : -10000 < r1 ∧ r1 < 10000 := by
          have h1 := Int.tmod_lt_of_pos s1 (show (0 : Int) < 10000 by decide)
          have h2 := Int.lt_tmod_of_pos s1 (show (0 : Int) < 10000 by decide)
          omega
        have hr1d : (r1 + 10000) % 10000 = (d : Int) := by
          have h3 := Int.tmod_add_mul_tdiv s1 10000
          rw [hr1] at h3
          omega
        obtain ⟨r2, hr2⟩ : ∃ r, r1 + 10000 = r := ⟨_, rfl⟩
        have f2 : IntKind.i64.wrap (r1 + 10000) = r2 := by rw [IntWalk.i64_in _ (by omega), hr2]
        have f3 : r2.tmod 10000 = (d : Int) := by rw [Int.tmod_eq_emod_of_nonneg (by omega), ← hr2]; exact hr1d
        obtain ⟨e, he⟩ : ∃ e, s1 - (d : Int) = e := ⟨_, rfl⟩
        have f4 : IntKind.i64.wrap (s1 - (d : Int)) = e := by rw [IntWalk.i64_in _ (by omega), he]
        have f5 : e.tdiv 10000 = q := by rw [← he, hsd, show (d : Int) + 10000 * q - d = 10000 * q by omega]; exact Int.mul_tdiv_cancel_left q (by decide)
        have f6 : IntKind.i64.wrap q = q := IntWalk.i64_in _ (by omega)
        have hstep := both_step (P := (vG (G.take k) : Int) + σ * (vG (H.take k) : Int)) hL hv hs hsd
        have HV := Lib.hid (show (vG (L ++ [d]) : Int) + 10000 ^ (k + 1) * q = (vG (G.take (k + 1)) : Int) + σ * (vG (H.take (k + 1)) : Int) by
          rw [hstep, ex, ey, Int.mul_add, Int.mul_left_comm σ, hp]; omega)
        have HL := Lib.hid (lt_snocG hlt hd4)
        have hq1 : -1 ≤ q ∧ q ≤ 1 := by omega
        have HQ0 := Lib.hid (show k + 1 = max G.length H.length + 1 → q = 0 from fun hkk => by omega)
        clear hv hlt hkc hsd hstep ex ey hr1b hr1d hr2 he hq hd
        go_wp2_with (at_builtin; refine wpList_append_own _ rfl _ _ 67 rfl (w.heap.size) 3 i0 (.int .i64 0) 1 8 Tryz.underlying67 hi0 hz0 hz1 hz2 rfl (by decide) _ _ _ rfl (World.ownsRow.alloc (HO.out) _) ⟨wr.heap.size, 0, none⟩ 1 1 [.int .i64 (d : Int)] rfl rfl (cell_one_new _ _ _) (by simp [Value.oneCell']) (by unfold maxLen; omega) (by omega) (by simp; omega) ?_; intro v1 w1 hown1 hgrow1 _; obtain ⟨g1, cap1, rfl⟩ := ownsRow_succ hown1; obtain ⟨ho1, hb1⟩ := ownV_app (HO.out) ((Below.refl _ _).alloc (by omega) _) (by simp) (by omega) rfl hown1 hgrow1)
        go_roundw
        case rel => exact ⟨k + 1, q, L ++ [d], by go_num, rfl, by simp [hL], HL.out, hq1.1, hq1.2, by omega, HQ0.out, HV.out, by rw [← iVs_snoc]; rw [hLl] at ho1; simpa [hL] using ho1, hb.trans hb1⟩
        case measure => simp [intOf]; omega
    · have hki : decide ((k : Int) < (G.length : Int)) = false := decide_eq_false (by omega)
      have ex := vG_take_past (l := G) (i := k) (by omega)
      by_cases hkH : k < H.length
      · have hkj : (k : Int) < (H.length : Int) := by omega
        obtain ⟨b2, o2, rfl, c2⟩ := h2 (by omega)
        obtain ⟨y, hy⟩ : ∃ y, H[k]? = some y := ⟨_, List.getElem?_eq_getElem hkH⟩
        have hy4 := grp_getlt hH hy
        have g2 := cell_carry hb (c2 k y hy)
        have ey := vG_take hy
        obtain ⟨p, hp⟩ : ∃ p, σ * (y : Int) = p := ⟨_, rfl⟩
        have hpb : -10000 < p ∧ p < 10000 := by rcases hσ with rfl | rfl <;> omega
        have tp : IntKind.i64.wrap (σ * (y : Int)) = p := by rw [hp]; exact IntWalk.i64_in _ (by omega)
        obtain ⟨s, hss⟩ : ∃ s, c + p = s := ⟨_, rfl⟩
        have ts : IntKind.i64.wrap (c + p) = s := by rw [IntWalk.i64_in _ (by omega), hss]
        have hs : c + 0 + p = s := by omega
        clear hy c2 h1 h2
        obtain ⟨q, hq⟩ : ∃ q, s / 10000 = q := ⟨_, rfl⟩
        obtain ⟨d, hd⟩ : ∃ d : Nat, s % 10000 = (d : Int) := ⟨(s % 10000).toNat, by omega⟩
        have hsd : s = (d : Int) + 10000 * q := by omega
        have hd4 : d < 10000 := by omega
        obtain ⟨r1, hr1⟩ : ∃ r, s.tmod 10000 = r := ⟨_, rfl⟩
        have hr1b : -10000 < r1 ∧ r1 < 10000 := by
          have h1 := Int.tmod_lt_of_pos s (show (0 : Int) < 10000 by decide)
          have h2 := Int.lt_tmod_of_pos s (show (0 : Int) < 10000 by decide)
          omega
        have hr1d : (r1 + 10000) % 10000 = (d : Int) := by
          have h3 := Int.tmod_add_mul_tdiv s 10000
          rw [hr1] at h3
          omega
        obtain ⟨r2, hr2⟩ : ∃ r, r1 + 10000 = r := ⟨_, rfl⟩
        have f2 : IntKind.i64.wrap (r1 + 10000) = r2 := by rw [IntWalk.i64_in _ (by omega), hr2]
        have f3 : r2.tmod 10000 = (d : Int) := by rw [Int.tmod_eq_emod_of_nonneg (by omega), ← hr2]; exact hr1d
        obtain ⟨e, he⟩ : ∃ e, s - (d : Int) = e := ⟨_, rfl⟩
        have f4 : IntKind.i64.wrap (s - (d : Int)) = e := by rw [IntWalk.i64_in _ (by omega), he]
        have f5 : e.tdiv 10000 = q := by rw [← he, hsd, show (d : Int) + 10000 * q - d = 10000 * q by omega]; exact Int.mul_tdiv_cancel_left q (by decide)
        have f6 : IntKind.i64.wrap q = q := IntWalk.i64_in _ (by omega)
        have hstep := both_step (P := (vG (G.take k) : Int) + σ * (vG (H.take k) : Int)) hL hv hs hsd
        have HV := Lib.hid (show (vG (L ++ [d]) : Int) + 10000 ^ (k + 1) * q = (vG (G.take (k + 1)) : Int) + σ * (vG (H.take (k + 1)) : Int) by
          rw [hstep, ex, ey, Int.mul_add, Int.mul_left_comm σ, hp]; omega)
        have HL := Lib.hid (lt_snocG hlt hd4)
        have hq1 : -1 ≤ q ∧ q ≤ 1 := by omega
        have HQ0 := Lib.hid (show k + 1 = max G.length H.length + 1 → q = 0 from fun hkk => by omega)
        clear hv hlt hkc hsd hstep ex ey hr1b hr1d hr2 he hq hd
        go_wp2_with (at_builtin; refine wpList_append_own _ rfl _ _ 67 rfl (w.heap.size) 3 i0 (.int .i64 0) 1 8 Tryz.underlying67 hi0 hz0 hz1 hz2 rfl (by decide) _ _ _ rfl (World.ownsRow.alloc (HO.out) _) ⟨wr.heap.size, 0, none⟩ 1 1 [.int .i64 (d : Int)] rfl rfl (cell_one_new _ _ _) (by simp [Value.oneCell']) (by unfold maxLen; omega) (by omega) (by simp; omega) ?_; intro v1 w1 hown1 hgrow1 _; obtain ⟨g1, cap1, rfl⟩ := ownsRow_succ hown1; obtain ⟨ho1, hb1⟩ := ownV_app (HO.out) ((Below.refl _ _).alloc (by omega) _) (by simp) (by omega) rfl hown1 hgrow1)
        go_roundw
        case rel => exact ⟨k + 1, q, L ++ [d], by go_num, rfl, by simp [hL], HL.out, hq1.1, hq1.2, by omega, HQ0.out, HV.out, by rw [← iVs_snoc]; rw [hLl] at ho1; simpa [hL] using ho1, hb.trans hb1⟩
        case measure => simp [intOf]; omega
      · have hkj : decide ((k : Int) < (H.length : Int)) = false := decide_eq_false (by omega)
        have ey := vG_take_past (l := H) (i := k) (by omega)
        have hend : (vG L : Int) + 10000 ^ k * c = (N : Int) := by
          rw [hv, List.take_of_length_le (by omega), List.take_of_length_le (by omega)]; exact HN.out.symm
        by_cases h0 : c = 0
        · subst h0
          have HV := Lib.hid (show vG L = N by rw [Int.mul_zero] at hend; omega)
          have HL := Lib.hid hlt
          have ho := HO.out
          obtain ⟨pa, pc, rfl, _⟩ := grps_own ho
          have HO2 := Lib.hid ho
          clear hv hlt h1 h2 hend ex ey ho HO
          have hsh := short_own HO2.out (by omega)
          rw [hL] at hsh
          have HSH := Lib.hid hsh
          clear hsh
          go_wp2_with fail
          (with_reducible refine HSH.out.mono ?_)
          rintro _ _ ⟨rfl, x, rfl⟩
          dsimp only
          go_wp2
          go_ret
          exact grpRet_trim x hb HO2.out HL.out HV.out
        · have hc : c = 1 := by
            refine Classical.byContradiction fun hc => ?_
            have hcm : c = -1 := by omega
            subst hcm
            have hlt2 := valB_lt (B := 10000) (by decide) hlt
            rw [hL] at hlt2
            have hpow : ((10000 ^ k : Nat) : Int) = (10000 : Int) ^ k := by simp
            have : (vG L : Int) < (10000 : Int) ^ k := by rw [← hpow]; exact Int.ofNat_lt.2 hlt2
            omega
          have hkm : k ≤ max G.length H.length := by
            rcases Nat.lt_or_ge (max G.length H.length) k with h | h
            · exact absurd (hkc (by omega)) h0
            · exact h
          subst hc
          have hstep := both_step (P := (vG (G.take k) : Int) + σ * (vG (H.take k) : Int)) (d := 1) (q := 0) (x := 0) (p := 0) (s := 1) hL hv (by omega) (by omega)
          have HV := Lib.hid (show (vG (L ++ [1]) : Int) + 10000 ^ (k + 1) * 0 = (vG (G.take (k + 1)) : Int) + σ * (vG (H.take (k + 1)) : Int) by
            rw [hstep, ex, ey, Int.mul_add, Int.mul_left_comm σ, Int.mul_zero σ]; omega)
          have HL := Lib.hid (lt_snocG hlt (show 1 < 10000 by decide))
          clear h1 h2 hend hv hlt hkc hstep ex ey h0
          go_wp2_with (at_builtin; refine wpList_append_own _ rfl _ _ 67 rfl (w.heap.size) 3 i0 (.int .i64 0) 1 8 Tryz.underlying67 hi0 hz0 hz1 hz2 rfl (by decide) _ _ _ rfl (World.ownsRow.alloc (HO.out) _) ⟨wr.heap.size, 0, none⟩ 1 1 [.int .i64 1] rfl rfl (cell_one_new _ _ _) (by simp [Value.oneCell']) (by unfold maxLen; omega) (by omega) (by simp; omega) ?_; intro v1 w1 hown1 hgrow1 _; obtain ⟨g1, cap1, rfl⟩ := ownsRow_succ hown1; obtain ⟨ho1, hb1⟩ := ownV_app (HO.out) ((Below.refl _ _).alloc (by omega) _) (by simp) (by omega) rfl hown1 hgrow1)
          go_roundw
          case rel => exact ⟨k + 1, 0, L ++ [1], by go_num, rfl, by simp [hL], HL.out, by omega, by omega, by omega, fun _ => rfl, HV.out, by rw [← iVs_snoc]; rw [hLl] at ho1; simpa [hL] using ho1, hb.trans hb1⟩
          case measure => simp [intOf]; omega
theorem both_add (a b : Option Addr) (cap cap' : Nat) (G H : List Nat) (w : World) (h1 : Grps w a G) (h2 : Grps w b H) (hG : ∀ x ∈ G, x < 10000) (hH : ∀ x ∈ H, x < 10000) (hl1 : G.length ≤ 50000) (hl2 : H.length ≤ 50000) :
    Calls Tryz.prog 54 #[.slice a G.length cap, .slice b H.length cap', .int .i64 1] w (GrpRet w (vG G + vG H)) :=
  both_any 1 a b cap cap' _ G H w (.inl rfl) h1 h2 hG hH hl1 hl2 (by omega)
theorem both_sub (a b : Option Addr) (cap cap' : Nat) (G H : List Nat) (w : World) (h1 : Grps w a G) (h2 : Grps w b H) (hG : ∀ x ∈ G, x < 10000) (hH : ∀ x ∈ H, x < 10000) (hl1 : G.length ≤ 50000) (hl2 : H.length ≤ 50000) (hle : vG H ≤ vG G) :
    Calls Tryz.prog 54 #[.slice a G.length cap, .slice b H.length cap', .int .i64 (-1)] w (GrpRet w (vG G - vG H)) :=
  both_any (-1) a b cap cap' _ G H w (.inr rfl) h1 h2 hG hH hl1 hl2 (by omega)
end Go.Proofs.YteglfhmmkoahfaaGreatDoor
