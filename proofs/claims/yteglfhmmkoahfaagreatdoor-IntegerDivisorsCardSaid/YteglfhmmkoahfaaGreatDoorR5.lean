/- The reference's times. -/
import Derived.Test.YteglfhmmkoahfaaGreatDoorR4
namespace Go.Proofs.YteglfhmmkoahfaaGreatDoor
open Go.RowKit
attribute [local go_sem low] Bel.cell Bel.frozen alloc_cell alloc_frozen

theorem vG_rep (n : Nat) : vG (List.replicate n 0) = 0 := by
  induction n with
  | zero => rfl
  | succ n ih =>
    rw [List.replicate_succ]
    show 0 + 10000 * vG (List.replicate n 0) = 0
    rw [ih]
theorem vG_app (l m : List Nat) : vG (l ++ m) = vG l + 10000 ^ l.length * vG m := valB_app 10000 l m
theorem rowG (i : Nat) (R : List Nat) : vG (List.replicate i 0 ++ R) = 10000 ^ i * vG R := by rw [vG_app, vG_rep, List.length_replicate, Nat.zero_add]
theorem rowG_lt {i : Nat} {R : List Nat} (h : ∀ x ∈ R, x < 10000) : ∀ x ∈ List.replicate i 0 ++ R, x < 10000 := fun x hx => by
  rcases List.mem_append.1 hx with h1 | h1
  · rw [(List.mem_replicate.1 h1).2]; decide
  · exact h x h1
theorem takeG {l : List Nat} {i x : Nat} (h : l[i]? = some x) : vG (l.take (i + 1)) = vG (l.take i) + 10000 ^ i * x := valB_take h
theorem rtimes_step {R H : List Nat} {j x y c p d q : Nat} (hR : R.length = j) (h : vG R + 10000 ^ j * c = x * vG (H.take j)) (hy : vG (H.take (j + 1)) = vG (H.take j) + 10000 ^ j * y) (hp : c + x * y = p) (hd : p % 10000 = d) (hq : p / 10000 = q) :
    vG (R ++ [d]) + 10000 ^ (j + 1) * q = x * vG (H.take (j + 1)) := by
  have e : p = d + 10000 * q := by omega
  have e1 : 10000 ^ (j + 1) * q = 10000 ^ j * (10000 * q) := by rw [Nat.pow_succ, Nat.mul_assoc]
  have e2 : x * (10000 ^ j * y) = 10000 ^ j * (x * y) := by rw [Nat.mul_left_comm]
  have e3 : 10000 ^ j * d + 10000 ^ j * (10000 * q) = 10000 ^ j * c + 10000 ^ j * (x * y) := by rw [← Nat.mul_add, ← Nat.mul_add, hp, e]
  rw [vG_snoc, hR, e1, hy, Nat.mul_add, e2]
  omega
theorem rtimes_past {R H : List Nat} {j x c : Nat} (hR : R.length = j) (h : vG R + 10000 ^ j * c = x * vG (H.take j)) (hj : H.length ≤ j) : vG (R ++ [c]) + 10000 ^ (j + 1) * 0 = x * vG (H.take (j + 1)) := by
  rw [vG_snoc, hR, Nat.mul_zero, Nat.add_zero, List.take_of_length_le (show H.length ≤ j + 1 by omega)]
  rw [List.take_of_length_le hj] at h
  exact h
theorem grp_mul_len {l H : List Nat} (hl : ∀ x ∈ l, x < 10000) (hH : ∀ x ∈ H, x < 10000) : (grp (vG l * vG H)).length ≤ l.length + H.length := by
  refine limbs_len_le (by decide) ?_
  rw [Nat.pow_add]
  exact Nat.mul_lt_mul'' (valB_lt (by decide) hl) (valB_lt (by decide) hH)
set_option maxRecDepth 100000 in
set_option maxHeartbeats 12800000 in
theorem rtimes_any (a b : Option Addr) (cap cap' : Nat) (G H : List Nat) (w : World) (h1 : Grps w a G) (h2 : Grps w b H) (hG : ∀ x ∈ G, x < 10000) (hH : ∀ x ∈ H, x < 10000) (hl1 : G.length ≤ 10000) (hl2 : H.length ≤ 10000) :
    Calls Tryz.prog 50 #[.slice a G.length cap, .slice b H.length cap'] w (GrpRet w (vG G * vG H)) := by
  obtain ⟨i0, hi0, hz0, hz1, hz2⟩ := info_parts Tryz.infoI
  go_enter Tryz.func50, Tryz.ntmps50
  go_wp2
  go_loopw [5, 6] (fun v i wr => ∃ k : Nat, i = .int .i64 (k : Int) ∧ k ≤ G.length ∧ OwnV wr w.heap.size 3 v (iVs (grp (vG (G.take k) * vG H))) ∧ Below w.heap.size w wr) (fun _ i _ => G.length - (intOf i).toNat)
  case atStart => exact ⟨0, rfl, by omega, by rw [List.take_zero, show vG [] = 0 from rfl, Nat.zero_mul, show grp 0 = [] from limbs_zero _]; exact ownV_nil _ _ _, by (repeat' (first | (with_reducible exact Below.refl _ _) | (with_reducible exact Nat.le_refl _) | (with_reducible refine Below.bel ?_ ?_) | (with_reducible refine Below.alloc ?_ ?_ _) | (with_reducible refine Below.drew ?_) | (with_reducible refine Below.drawsN ?_ _) | (with_reducible refine Below.setCell ?_ ?_ _) | (with_reducible refine le_bel ?_) | (with_reducible refine le_alloc ?_) | (with_reducible refine le_setCell ?_) | (with_reducible refine le_drew ?_) | (with_reducible refine le_drawsN ?_) | (dsimp only; with_reducible refine le_bel ?_) | (dsimp only; with_reducible refine Nat.le_refl _) | (dsimp only; with_reducible refine le_bel_add ?_) | (with_reducible assumption) | omega | (dsimp only; omega)))⟩
  case round =>
    obtain ⟨i, rfl, hk, hown, hb⟩ := hrel
    have hbs := hb.size
    by_cases hkG : i < G.length
    · have hki : (i : Int) < (G.length : Int) := by omega
      obtain ⟨b1, o1, rfl, c1⟩ := h1 (by omega)
      obtain ⟨x, hx⟩ : ∃ x, G[i]? = some x := ⟨_, List.getElem?_eq_getElem hkG⟩
      have hx4 := grp_getlt hG hx
      have g1 := cell_carry hb (c1 i x hx)
      have HX := Lib.hid (takeG hx)
      have hplen := grp_mul_len (l := G.take i) (H := H) (fun x hx => hG x (List.mem_of_mem_take hx)) hH
      rw [List.length_take, Nat.min_eq_left (by omega)] at hplen
      obtain ⟨pa, pc, rfl, hpg⟩ := grps_own hown
      have HPG := Lib.hid hpg
      have HPL := Lib.hid hplen
      have HPT := Lib.hid (grp_lt (vG (G.take i) * vG H))
      have HPV := Lib.hid (vG_grp (vG (G.take i) * vG H))
      have HC1 := Lib.hid c1
      obtain ⟨P, hP⟩ : ∃ P, grp (vG (G.take i) * vG H) = P := ⟨_, rfl⟩
      rw [hP] at HPG HPL HPT HPV ⊢
      clear hx c1 h1 hown hpg hplen hP
      obtain ⟨wo, rfl⟩ : ∃ wo : World, wo = wr := ⟨_, rfl⟩
      go_wp2_with (at_make; refine wpList_make_full _ rfl _ _ 67 rfl (wo.heap.size) 3 i0 (.int .i64 0) 1 Tryz.underlying67 hi0 hz0 hz1 _ _ _ _ (i) rfl rfl (by first | rfl | omega | (simp <;> omega)) (by first | rfl | omega | (simp <;> omega)) (by rw [hz2] <;> omega) (by unfold maxLen; omega) (by first | omega | (simp <;> omega)) ?_; intro wM hownM hgrowM)
      have hbM : Below wo.heap.size wo wM := (Below.refl _ _).grown hgrowM (Nat.le_refl _) (fun k e => by cases e)
      have ho0 : OwnV wM wo.heap.size 3 (.slice (some ⟨wo.heap.size, 0, none⟩) i i) (iVs (List.replicate i 0 ++ [])) := by
        unfold OwnV
        rw [List.append_nil, iVs_len, List.length_replicate]
        have := hownM
        rw [Nat.mul_one, show (Value.int .i64 0).cells = #[Value.int .i64 0] from rfl, toList_madeCells_one] at this
        unfold iVs
        rw [List.map_replicate]
        exact this
      clear hownM hgrowM
      go_loopw [7, 8, 9] (fun v c k wr => ∃ (j c' : Nat) (R : List Nat), k = .int .i64 (j : Int) ∧ c = .int .i64 (c' : Int) ∧ c' < 10000 ∧ R.length = j ∧ (∀ x ∈ R, x < 10000) ∧ j ≤ H.length + 1 ∧ (j = H.length + 1 → c' = 0) ∧
        vG R + 10000 ^ j * c' = x * vG (H.take j) ∧ OwnV wr wo.heap.size 3 v (iVs (List.replicate i 0 ++ R)) ∧ Below wo.heap.size wo wr) (fun _ _ k _ => H.length + 1 - (intOf k).toNat)
      case atStart => exact ⟨0, 0, [], rfl, rfl, by omega, rfl, by simp, by omega, by omega, by simp [valB], ho0, hbM⟩
      case round =>
        clear ho0 hbM
        obtain ⟨j, c, R, rfl, rfl, hc, hR, hlt, hj, hjc, hv, hown, hbw⟩ := hrel
        have hbws := hbw.size
        have hLl := iVs_len (List.replicate i 0 ++ R)
        have hrl : (List.replicate i 0 ++ R).length = i + j := by rw [List.length_append, List.length_replicate, hR]
        rw [hrl] at hLl
        have HO := Lib.hid hown
        have HRL := Lib.hid hrl
        clear hown hrl
        have g1' := cell_carry hbw g1
        by_cases hjH : j < H.length
        · have hkj : (j : Int) < (H.length : Int) := by omega
          obtain ⟨b2, o2, rfl, c2⟩ := h2 (by omega)
          obtain ⟨y, hy⟩ : ∃ y, H[j]? = some y := ⟨_, List.getElem?_eq_getElem hjH⟩
          have hy4 := grp_getlt hH hy
          have g2 := cell_carry hbw (cell_carry hb (c2 j y hy))
          obtain ⟨p1, hp1⟩ : ∃ p, x * y = p := ⟨_, rfl⟩
          have hp1' : (x : Int) * (y : Int) = (p1 : Int) := by rw [← hp1]; simp
          have hp1b : p1 ≤ 99980001 := by
            rw [← hp1]
            exact Nat.le_trans (Nat.mul_le_mul (show x ≤ 9999 by omega) (show y ≤ 9999 by omega)) (by decide)
          obtain ⟨p, hp⟩ : ∃ p, c + p1 = p := ⟨_, rfl⟩
          have hp' : (c : Int) + (p1 : Int) = (p : Int) := by omega
          have t1 : IntKind.i64.wrap (p1 : Int) = (p1 : Int) := IntWalk.i64_in _ (by omega)
          have t2 : IntKind.i64.wrap (p : Int) = (p : Int) := IntWalk.i64_in _ (by omega)
          obtain ⟨d, hd⟩ : ∃ d, p % 10000 = d := ⟨_, rfl⟩
          obtain ⟨q, hq⟩ : ∃ q, p / 10000 = q := ⟨_, rfl⟩
          have hd' : (p : Int) % 10000 = (d : Int) := by omega
          have hq' : (p : Int) / 10000 = (q : Int) := by omega
          have hdt : (p : Int).tmod 10000 = (d : Int) := by rw [Int.tmod_eq_emod_of_nonneg (by omega)]; exact hd'
          have hqt : (p : Int).tdiv 10000 = (q : Int) := by rw [Int.tdiv_eq_ediv_of_nonneg (by omega)]; exact hq'
          have t3 : IntKind.i64.wrap (q : Int) = (q : Int) := IntWalk.i64_in _ (by omega)
          have HV := Lib.hid (rtimes_step hR hv (takeG hy) (by rw [hp1]; exact hp) hd hq)
          have HL := Lib.hid (lt_snocG hlt (show d < 10000 by omega))
          have hqb : q < 10000 := by omega
          clear hv hlt hd hq hp hp1 hy c2 h2 hjc
          go_wp2_with fail
          refine wp_region_bel (by kernel_rfl) (by kernel_rfl) ?_
          repeat (go_big_quiet_step (fail))
          refine wpQuiet_nil ?_
          rintro _ ⟨z, rfl⟩
          have hzs := z.size_le
          have HOz := Lib.hid (ownV_bel HO.out z)
          go_wp2_with (at_builtin; refine wpList_append_own _ rfl _ _ 67 rfl (wo.heap.size) 3 i0 (.int .i64 0) 1 8 Tryz.underlying67 hi0 hz0 hz1 hz2 rfl (by decide) _ _ _ rfl (World.ownsRow.alloc (HOz.out) _) ⟨z.w.heap.size, 0, none⟩ 1 1 [.int .i64 (d : Int)] rfl rfl (cell_one_new _ _ _) (by simp [Value.oneCell']) (by unfold maxLen; omega) (by omega) (by simp; omega) ?_; intro v1 w1 hown1 hgrow1 _; obtain ⟨g1, cap1, rfl⟩ := ownsRow_succ hown1; obtain ⟨ho1, hb1⟩ := ownV_app (HOz.out) ((Below.refl _ _).alloc (by omega) _) (by simp) (by omega) rfl hown1 hgrow1)
          go_roundw
          case rel => exact ⟨j + 1, q, R ++ [d], by go_num, rfl, hqb, by simp [hR], HL.out, by omega, fun h => by omega, HV.out, by rw [← List.append_assoc, ← iVs_snoc]; rw [hLl] at ho1; exact ho1, (hbw.trans (z.below.mono hbws)).trans hb1⟩
          case measure => simp [intOf]; omega
        · have hkj : decide ((j : Int) < (H.length : Int)) = false := decide_eq_false (by omega)
          by_cases hc0 : c = 0
          · subst hc0
            have HV := Lib.hid (show vG P + vG (List.replicate i 0 ++ R) = vG (G.take (i + 1)) * vG H by
              rw [HPV.out, rowG, HX.out, Nat.add_mul, Nat.mul_assoc]
              rw [List.take_of_length_le (by omega), Nat.mul_zero, Nat.add_zero] at hv
              rw [hv])
            have HL := Lib.hid (rowG_lt (i := i) hlt)
            obtain ⟨ra, rc, hrv, hrg⟩ := grps_own HO.out
            have HB := Lib.hid (both_add pa ra pc rc P (List.replicate i 0 ++ R) wr (grps_of (grps_of HPG.out (Below.refl _ _)) hbw) hrg HPT.out HL.out (by have := HPL.out; omega) (by rw [HRL.out]; omega))
            rw [HV.out, HRL.out] at HB
            rw [HRL.out] at hrv
            subst hrv
            clear hv hlt hjc hrg h2
            go_wp2_with fail
            refine HB.out.mono ?_
            rintro _ _ ⟨v, rfl, y, rfl, hvo⟩
            have hys := y.size_le
            have HVO := Lib.hid hvo
            clear hvo
            obtain ⟨va, vc, rfl, _⟩ := grps_own HVO.out
            dsimp only
            go_wp2
            go_roundw
            case rel => exact ⟨i + 1, by go_num, by omega, ownV_mono HVO.out (by omega), (hb.trans (hbw.mono hbs)).trans (y.below.mono (by omega))⟩
            case measure => simp [intOf]; omega
          · have hjm : j = H.length := by
              rcases Nat.lt_or_ge H.length j with h | h
              · exact absurd (hjc (by omega)) hc0
              · omega
            subst hjm
            have HV := Lib.hid (rtimes_past hR hv (by omega))
            have HL := Lib.hid (lt_snocG hlt hc)
            have hc1 : decide (0 < c) = true := decide_eq_true (by omega)
            have hc2 : (0 < c) = True := eq_true (by omega)
            have hd' : (c : Int) % 10000 = (c : Int) := by omega
            have hq' : (c : Int) / 10000 = 0 := by omega
            have hdt : (c : Int).tmod 10000 = (c : Int) := by rw [Int.tmod_eq_emod_of_nonneg (by omega)]; exact hd'
            have hqt : (c : Int).tdiv 10000 = 0 := by rw [Int.tdiv_eq_ediv_of_nonneg (by omega)]; exact hq'
            clear hv hlt hjc h2 hc0
            go_wp2_with (at_builtin; refine wpList_append_own _ rfl _ _ 67 rfl (wo.heap.size) 3 i0 (.int .i64 0) 1 8 Tryz.underlying67 hi0 hz0 hz1 hz2 rfl (by decide) _ _ _ rfl (World.ownsRow.alloc (HO.out) _) ⟨wr.heap.size, 0, none⟩ 1 1 [.int .i64 (c : Int)] rfl rfl (cell_one_new _ _ _) (by simp [Value.oneCell']) (by unfold maxLen; omega) (by omega) (by simp; omega) ?_; intro v1 w1 hown1 hgrow1 _; obtain ⟨g1, cap1, rfl⟩ := ownsRow_succ hown1; obtain ⟨ho1, hb1⟩ := ownV_app (HO.out) ((Below.refl _ _).alloc (by omega) _) (by simp) (by omega) rfl hown1 hgrow1)
            go_roundw
            case rel => exact ⟨H.length + 1, 0, R ++ [c], by go_num, rfl, by omega, by simp [hR], HL.out, by omega, fun _ => rfl, HV.out, by rw [← List.append_assoc, ← iVs_snoc]; rw [hLl] at ho1; exact ho1, hbw.trans hb1⟩
            case measure => simp [intOf] <;> omega
    · obtain rfl : i = G.length := by omega
      rw [List.take_length] at hown
      have hplen := grp_mul_len hG hH
      obtain ⟨pa, pc, rfl, _⟩ := grps_own hown
      have HO := Lib.hid hown
      clear hown h1 h2
      go_wp2_with fail
      (with_reducible refine (short_own HO.out (by omega)).mono ?_)
      rintro _ _ ⟨rfl, x, rfl⟩
      dsimp only
      go_wp2
      go_ret
      exact grpRet_trim x hb HO.out (grp_lt _) (vG_grp _)
end Go.Proofs.YteglfhmmkoahfaaGreatDoor
