/- Circles of fifths: Check. -/
import Derived.Test.YtehgeoipbgpocaaGreatDoorTa
namespace Go.Proofs.YtehgeoipbgpocaaGreatDoor
set_option linter.unusedVariables false
set_option linter.unusedSimpArgs false
open Go.RowKit
attribute [local go_sem low] Bel.cell Bel.frozen alloc_cell alloc_frozen

theorem cells4 {w : World} {b : Nat} {x0 x1 x2 x3 : Value} {t : TypeId} (h : w.heap[b]? = some (.cells #[x0, x1, x2, x3] t)) :
    w.cell? ⟨b, 0, none⟩ = some x0 ∧ w.cell? ⟨b, 1, none⟩ = some x1 ∧ w.cell? ⟨b, 2, none⟩ = some x2 ∧ w.cell? ⟨b, 3, none⟩ = some x3 := ⟨(made_cell h 0).1, (made_cell h 1).1, (made_cell h 2).1, (made_cell h 3).1⟩
theorem ckT_bad {st : Int × Bool} {t : Q × Q} (h : t.1.rt = false ∨ t.2.rt = false) : ckT st t = .error 2 := if_pos h
theorem ckT_1 {st : Int × Bool} {t : Q × Q} (h1 : t.1.rt = true) (h2 : t.2.rt = true) (h : ckX st t.1 = none) : ckT st t = .error 3 := by
  unfold ckT
  rw [if_neg (by rw [h1, h2]; simp), h]
theorem ckT_2 {st st1 : Int × Bool} {t : Q × Q} (h1 : t.1.rt = true) (h2 : t.2.rt = true) (h : ckX st t.1 = some st1) (h' : ckX st1 t.2 = none) : ckT st t = .error 3 := by
  unfold ckT
  rw [if_neg (by rw [h1, h2]; simp), h]
  dsimp only
  rw [h']
theorem ckT_3 {st st1 st2 : Int × Bool} {t : Q × Q} (h1 : t.1.rt = true) (h2 : t.2.rt = true) (h : ckX st t.1 = some st1) (h' : ckX st1 t.2 = some st2) : ckT st t = .ok st2 := by
  unfold ckT
  rw [if_neg (by rw [h1, h2]; simp), h]
  dsimp only
  rw [h']
theorem ckX_no {st : Int × Bool} {x : Q} (h : 12 * x.d < x.n ∨ x.n < -12 * x.d) : ckX st x = none := if_pos h
theorem ckX_lim {st : Int × Bool} {x : Q} (h : ¬ (12 * x.d < x.n ∨ x.n < -12 * x.d)) (h2 : st.2 = true ∨ 240 < x.d) : ckX st x = some (st.1, true) := by
  unfold ckX
  rw [if_neg h, if_pos h2]
theorem ckX_go {st : Int × Bool} {x : Q} (h : ¬ (12 * x.d < x.n ∨ x.n < -12 * x.d)) (h2 : ¬ (st.2 = true ∨ 240 < x.d)) : ckX st x = some (lcI st.1 x.d, decide (240 < lcI st.1 x.d)) := by
  unfold ckX
  rw [if_neg h, if_neg h2]
set_option maxRecDepth 100000 in
set_option maxHeartbeats 6400000 in
theorem tcheck_any (c : Cir) (w : World) : Calls Tryz.prog 9 #[cirV c] w (Ret (.int .i64 (chkC c)) w) := by
  have HIX := Lib.hid (cir_idx c)
  have hVc : cirV c = .agg (cirA c) := rfl
  rw [hVc] at HIX ⊢
  have HERR := Lib.hid (fun k hk st e h he => @chkC_err c k st e hk h he)
  have HNX := Lib.hid (fun k st st' h he => @ckN_ok c k st st' h he)
  have HEND := Lib.hid (fun st h => @chkC_end c st h)
  generalize chkC c = R at *
  have HZ := Lib.hid (show ckN c 0 = .ok (1, false) from rfl)
  clear hVc
  go_enter Tryz.func9, Tryz.ntmps9
  go_wp2_with (refine wpList_ldC rfl _ rfl _ rfl (cirA c) (obj_new _ _) (cirA_size c) ?_)
  go_loopw [3, 4, 12] (fun cv lv iv wr => ∃ (k : Nat) (cm : Int) (lm : Bool), k ≤ 12 ∧ ckN c k = .ok (cm, lm) ∧ 1 ≤ cm ∧ cm ≤ 57600 ∧ (lm = false → cm ≤ 240) ∧ cv = .int .i64 cm ∧ lv = .bool lm ∧ iv = .int .i64 (k : Int) ∧ Below w.heap.size w wr) (fun _ _ iv _ => 12 - (intOf iv).toNat)
  case atStart => exact ⟨0, 1, false, by omega, HZ.out, by omega, by omega, fun _ => by omega, rfl, rfl, rfl, by (repeat' (first | (with_reducible first | apply Zl1 | apply Zl2 | apply Zl3 | apply Zl4 | apply Zl5 | apply Zl6 | apply Zl7 | apply Zl8 | apply Zl9 | apply Zla | apply Zlb | apply Zlc) | (dsimp only; with_reducible first | apply Zl8 | apply Zl2 | apply Zld) | with_reducible assumption | omega | (dsimp only; omega)))⟩
  case round =>
    obtain ⟨k, cm, lm, hk, hck, hc1, hc2, hcl, rfl, rfl, rfl, hB⟩ := hrel
    have hbs := hB.size
    have HCK := Lib.hid hck
    have HCL := Lib.hid hcl
    clear hck hcl
    by_cases hk3 : k < 12
    · have hki : (k : Int) < 12 := by omega
      have hix := HIX.out k hk3
      have HER := Lib.hid (fun e he => HERR.out k hk3 _ e HCK.out he)
      have HNXT := Lib.hid (fun st' he => HNX.out k _ st' HCK.out he)
      obtain ⟨⟨p, s⟩, hps⟩ : ∃ t, c k = t := ⟨_, rfl⟩
      rw [hps] at hix HER HNXT
      clear hps HCK HERR HNX HEND HZ HIX
      dsimp only at hix
      go_wp2_with fail
      have hY6 := obj_alloc (.cells #[.int .i64 p.n, .int .i64 p.d, .int .i64 s.n, .int .i64 s.d] 32) (obj_new wr (.cells #[.int .i64 p.n, .int .i64 p.d, .int .i64 s.n, .int .i64 s.d] 34))
      have hYr := obj_new1 wr (.cells #[.int .i64 p.n, .int .i64 p.d, .int .i64 s.n, .int .i64 s.d] 34) (.cells #[.int .i64 p.n, .int .i64 p.d, .int .i64 s.n, .int .i64 s.d] 32)
      have hYb : Below w.heap.size w ((wr.alloc (.cells #[.int .i64 p.n, .int .i64 p.d, .int .i64 s.n, .int .i64 s.d] 34)).alloc (.cells #[.int .i64 p.n, .int .i64 p.d, .int .i64 s.n, .int .i64 s.d] 32)) := by (repeat' (first | (with_reducible first | apply Zl1 | apply Zl2 | apply Zl3 | apply Zl4 | apply Zl5 | apply Zl6 | apply Zl7 | apply Zl8 | apply Zl9 | apply Zla | apply Zlb | apply Zlc) | (dsimp only; with_reducible first | apply Zl8 | apply Zl2 | apply Zld) | with_reducible assumption | omega | (dsimp only; omega)))
      have hYs : ((wr.alloc (.cells #[.int .i64 p.n, .int .i64 p.d, .int .i64 s.n, .int .i64 s.d] 34)).alloc (.cells #[.int .i64 p.n, .int .i64 p.d, .int .i64 s.n, .int .i64 s.d] 32)).heap.size = wr.heap.size + 1 + 1 := by rw [World.size_alloc, World.size_alloc]
      generalize (wr.alloc (.cells #[.int .i64 p.n, .int .i64 p.d, .int .i64 s.n, .int .i64 s.d] 34)).alloc (.cells #[.int .i64 p.n, .int .i64 p.d, .int .i64 s.n, .int .i64 s.d] 32) = Y at *
      generalize wr.heap.size = B at *
      have hY6l := obj_lt hYr
      have HYR := Lib.hid hYr
      have HY6 := Lib.hid hY6
      have HYB := Lib.hid hYb
      have hYw := hYb.size
      clear hYr hY6 hYb hix hki
      go_loopw [21] (fun jv wr' => ∃ j : Nat, j ≤ 2 ∧ (0 < j → p.rt = true) ∧ (1 < j → s.rt = true) ∧ jv = .int .i64 (j : Int) ∧ Below Y.heap.size Y wr') (fun jv _ => 2 - (intOf jv).toNat)
      case atStart => exact ⟨0, by omega, fun h => by omega, fun h => by omega, rfl, by (repeat' (first | (with_reducible first | apply Zl1 | apply Zl2 | apply Zl3 | apply Zl4 | apply Zl5 | apply Zl6 | apply Zl7 | apply Zl8 | apply Zl9 | apply Zla | apply Zlb | apply Zlc) | (dsimp only; with_reducible first | apply Zl8 | apply Zl2 | apply Zld) | with_reducible assumption | omega | (dsimp only; omega)))⟩
      case round =>
        obtain ⟨j, hj, hp, hs, rfl, hB2⟩ := hrel
        have HP := Lib.hid hp
        have HS := Lib.hid hs
        have hbs2 := hB2.size
        have hwr' := Below.trans HYB.out (hB2.mono hYw)
        clear hp hs
        by_cases hj2 : j < 2
        · obtain ⟨g0, g1, g2, g3⟩ := cells4 (obj_below hB2 (by omega) HYR.out)
          rcases (show j = 0 ∨ j = 1 by omega) with rfl | rfl
          · clear hj2 hj
            cases hr : (p).rt
            · have HR := Lib.hid (F.chk_no hr : F.chk (p).n (p).d = 2)
              have HF := Lib.hid (HER.out 2 (ckT_bad (.inl hr)))
              clear hr
              go_wp2_with fail
              (with_reducible refine (F.check_any _ _ _).mono ?_)
              rintro _ _ ⟨rfl, x, rfl⟩
              rw [HR.out]
              go_wp2
              go_ret
              exact Ret.mk (by exact val_i64 HF.out.symm) (by (repeat' (first | (with_reducible first | apply Zl1 | apply Zl2 | apply Zl3 | apply Zl4 | apply Zl5 | apply Zl6 | apply Zl7 | apply Zl8 | apply Zl9 | apply Zla | apply Zlb | apply Zlc) | (dsimp only; with_reducible first | apply Zl8 | apply Zl2 | apply Zld) | with_reducible assumption | omega | (dsimp only; omega))))
            · have HR := Lib.hid (F.chk_ok hr : F.chk (p).n (p).d = 0)
              have HT := Lib.hid hr
              clear hr
              go_wp2_with fail
              (with_reducible refine (F.check_any _ _ _).mono ?_)
              rintro _ _ ⟨rfl, x, rfl⟩
              rw [HR.out]
              go_wp2_with fail
              go_roundw
              case rel => exact ⟨0 + 1, by omega, (fun _ => (by first | trivial | exact HT.out)), (fun h => by omega), rfl, by (repeat' (first | (with_reducible first | apply Zl1 | apply Zl2 | apply Zl3 | apply Zl4 | apply Zl5 | apply Zl6 | apply Zl7 | apply Zl8 | apply Zl9 | apply Zla | apply Zlb | apply Zlc) | (dsimp only; with_reducible first | apply Zl8 | apply Zl2 | apply Zld) | with_reducible assumption | omega | (dsimp only; omega)))⟩
              case measure => simp [intOf]
          · clear hj2 hj
            cases hr : (s).rt
            · have HR := Lib.hid (F.chk_no hr : F.chk (s).n (s).d = 2)
              have HF := Lib.hid (HER.out 2 (ckT_bad (.inr hr)))
              clear hr
              go_wp2_with fail
              (with_reducible refine (F.check_any _ _ _).mono ?_)
              rintro _ _ ⟨rfl, x, rfl⟩
              rw [HR.out]
              go_wp2
              go_ret
              exact Ret.mk (by exact val_i64 HF.out.symm) (by (repeat' (first | (with_reducible first | apply Zl1 | apply Zl2 | apply Zl3 | apply Zl4 | apply Zl5 | apply Zl6 | apply Zl7 | apply Zl8 | apply Zl9 | apply Zla | apply Zlb | apply Zlc) | (dsimp only; with_reducible first | apply Zl8 | apply Zl2 | apply Zld) | with_reducible assumption | omega | (dsimp only; omega))))
            · have HR := Lib.hid (F.chk_ok hr : F.chk (s).n (s).d = 0)
              have HT := Lib.hid hr
              clear hr
              go_wp2_with fail
              (with_reducible refine (F.check_any _ _ _).mono ?_)
              rintro _ _ ⟨rfl, x, rfl⟩
              rw [HR.out]
              go_wp2_with fail
              go_roundw
              case rel => exact ⟨1 + 1, by omega, (fun _ => (by first | trivial | exact HP.out (by decide))), (fun _ => (by first | trivial | exact HT.out)), rfl, by (repeat' (first | (with_reducible first | apply Zl1 | apply Zl2 | apply Zl3 | apply Zl4 | apply Zl5 | apply Zl6 | apply Zl7 | apply Zl8 | apply Zl9 | apply Zla | apply Zlb | apply Zlc) | (dsimp only; with_reducible first | apply Zl8 | apply Zl2 | apply Zld) | with_reducible assumption | omega | (dsimp only; omega)))⟩
              case measure => simp [intOf]
        · obtain rfl : j = 2 := by omega
          have hp1 := HP.out (by decide)
          have hs1 := HS.out (by decide)
          obtain ⟨p1, p2, p3, p4, _⟩ := rt_spec hp1
          obtain ⟨s1, s2, s3, s4, _⟩ := rt_spec hs1
          have HR1 := Lib.hid hp1
          have HR2 := Lib.hid hs1
          obtain ⟨g0, g1, g2, g3⟩ := cells4 (obj_below hB2 (by omega) HY6.out)
          clear hj2 hj hp1 hs1
          rw [show ((2 : Nat) : Int) = 2 from rfl]
          go_wp2_with fail
          have hYr2 := obj_new wr (.cells #[.int .i64 p.n, .int .i64 p.d, .int .i64 s.n, .int .i64 s.d] 32)
          have hYb2 : Below w.heap.size w (wr.alloc (.cells #[.int .i64 p.n, .int .i64 p.d, .int .i64 s.n, .int .i64 s.d] 32)) := by (repeat' (first | (with_reducible first | apply Zl1 | apply Zl2 | apply Zl3 | apply Zl4 | apply Zl5 | apply Zl6 | apply Zl7 | apply Zl8 | apply Zl9 | apply Zla | apply Zlb | apply Zlc) | (dsimp only; with_reducible first | apply Zl8 | apply Zl2 | apply Zld) | with_reducible assumption | omega | (dsimp only; omega)))
          generalize wr.alloc (.cells #[.int .i64 p.n, .int .i64 p.d, .int .i64 s.n, .int .i64 s.d] 32) = Z at *
          generalize wr.heap.size = B2 at *
          have hZl := obj_lt hYr2
          have HZR := Lib.hid hYr2
          have HZB := Lib.hid hYb2
          have hZw := hYb2.size
          have HC0 := Lib.hid HCL.out
          clear hYr2 hYb2 g0 g1 g2 g3 HYR HY6
          go_loopw [3, 4, 35] (fun cv lv jv wr' => ∃ (j : Nat) (st : Int × Bool), j ≤ 2 ∧ 1 ≤ st.1 ∧ st.1 ≤ 57600 ∧ (st.2 = false → st.1 ≤ 240) ∧ (j = 0 → st = (cm, lm)) ∧ (j = 1 → ckX (cm, lm) p = some st) ∧ (j = 2 → ∃ st1, ckX (cm, lm) p = some st1 ∧ ckX st1 s = some st) ∧ cv = .int .i64 st.1 ∧ lv = .bool st.2 ∧ jv = .int .i64 (j : Int) ∧ Below Z.heap.size Z wr') (fun _ _ jv _ => 2 - (intOf jv).toNat)
          case atStart => exact ⟨0, (cm, lm), by omega, hc1, hc2, HC0.out, fun _ => rfl, fun h => by omega, fun h => by omega, rfl, rfl, rfl, by (repeat' (first | (with_reducible first | apply Zl1 | apply Zl2 | apply Zl3 | apply Zl4 | apply Zl5 | apply Zl6 | apply Zl7 | apply Zl8 | apply Zl9 | apply Zla | apply Zlb | apply Zlc) | (dsimp only; with_reducible first | apply Zl8 | apply Zl2 | apply Zld) | with_reducible assumption | omega | (dsimp only; omega)))⟩
          case round =>
            obtain ⟨j, ⟨cc, ll⟩, hj, h1, h2, h3, hj0, hj1, hj2', rfl, rfl, rfl, hB3⟩ := hrel
            dsimp only at h1 h2 h3
            have H3 := Lib.hid h3
            have HJ0 := Lib.hid hj0
            have HJ1 := Lib.hid hj1
            have HJ2 := Lib.hid hj2'
            have hbs3 := hB3.size
            have hw3 := Below.trans HZB.out (hB3.mono hZw)
            clear h3 hj0 hj1 hj2'
            by_cases hj2 : j < 2
            · obtain ⟨g0, g1, g2, g3⟩ := cells4 (obj_below hB3 (by omega) HZR.out)
              rcases (show j = 0 ∨ j = 1 by omega) with rfl | rfl
              · clear hj2 hj
                have HST : Hid (((cm, lm) = (cc, ll))) := Lib.hid (((HJ0.out rfl).symm))
                by_cases hr : 12 * (p).d < (p).n ∨ (p).n < -12 * (p).d
                · have HF := Lib.hid (HER.out 3 ((ckT_1 HR1.out HR2.out (by rw [HST.out]; exact ckX_no hr))))
                  rcases (show 12 * (p).d < (p).n ∨ (¬ 12 * (p).d < (p).n ∧ (p).n < -12 * (p).d) by omega) with hq | ⟨hq, hq2⟩
                  · clear hr
                    go_wp2
                    go_ret
                    exact Ret.mk (by exact val_i64 HF.out.symm) (by (repeat' (first | (with_reducible first | apply Zl1 | apply Zl2 | apply Zl3 | apply Zl4 | apply Zl5 | apply Zl6 | apply Zl7 | apply Zl8 | apply Zl9 | apply Zla | apply Zlb | apply Zlc) | (dsimp only; with_reducible first | apply Zl8 | apply Zl2 | apply Zld) | with_reducible assumption | omega | (dsimp only; omega))))
                  · clear hr
                    go_wp2
                    go_ret
                    exact Ret.mk (by exact val_i64 HF.out.symm) (by (repeat' (first | (with_reducible first | apply Zl1 | apply Zl2 | apply Zl3 | apply Zl4 | apply Zl5 | apply Zl6 | apply Zl7 | apply Zl8 | apply Zl9 | apply Zla | apply Zlb | apply Zlc) | (dsimp only; with_reducible first | apply Zl8 | apply Zl2 | apply Zld) | with_reducible assumption | omega | (dsimp only; omega))))
                · have HNR := Lib.hid hr
                  have hq : ¬ 12 * (p).d < (p).n := by omega
                  have hq2 : ¬ (p).n < -12 * (p).d := by omega
                  clear hr
                  by_cases hlim : ll = true ∨ 240 < (p).d
                  · have HX := Lib.hid (ckX_lim (st := (cc, ll)) HNR.out hlim)
                    rcases (show ll = true ∨ (ll = false ∧ 240 < (p).d) by cases ll <;> simp_all) with rfl | ⟨rfl, hd⟩
                    · clear hlim
                      go_wp2_with fail
                      go_roundw
                      case rel => exact ⟨0 + 1, (cc, true), by omega, h1, h2, fun h => Bool.noConfusion h, fun h => by omega, (fun _ => (by rw [HST.out]; exact HX.out)), (fun h => by omega), rfl, rfl, rfl, by (repeat' (first | (with_reducible first | apply Zl1 | apply Zl2 | apply Zl3 | apply Zl4 | apply Zl5 | apply Zl6 | apply Zl7 | apply Zl8 | apply Zl9 | apply Zla | apply Zlb | apply Zlc) | (dsimp only; with_reducible first | apply Zl8 | apply Zl2 | apply Zld) | with_reducible assumption | omega | (dsimp only; omega)))⟩
                      case measure => simp [intOf]
                    · clear hlim
                      have hdd : decide (240 < (p).d) = true := decide_eq_true hd
                      go_wp2_with fail
                      go_roundw
                      case rel => exact ⟨0 + 1, (cc, true), by omega, h1, h2, fun h => Bool.noConfusion h, fun h => by omega, (fun _ => (by rw [HST.out]; exact HX.out)), (fun h => by omega), rfl, rfl, rfl, by (repeat' (first | (with_reducible first | apply Zl1 | apply Zl2 | apply Zl3 | apply Zl4 | apply Zl5 | apply Zl6 | apply Zl7 | apply Zl8 | apply Zl9 | apply Zla | apply Zlb | apply Zlc) | (dsimp only; with_reducible first | apply Zl8 | apply Zl2 | apply Zld) | with_reducible assumption | omega | (dsimp only; omega)))⟩
                      case measure => simp [intOf]
                  · have HX := Lib.hid (ckX_go (st := (cc, ll)) HNR.out hlim)
                    obtain ⟨rfl, hd⟩ : ll = false ∧ (p).d ≤ 240 := by cases ll <;> simp_all
                    have hc240 := H3.out rfl
                    obtain ⟨a1, a2, a3, a4, a5⟩ := lcI_spec h1 p1
                    have a6 := (lcI_bd h1 p1).1
                    have a7 : cc * (p).d ≤ 240 * 240 := Int.mul_le_mul hc240 hd (by omega) (by omega)
                    have hn : cc / (Int.gcd cc (p).d : Int) * (p).d = lcI cc (p).d := rfl
                    have hg0 : 1 ≤ (Int.gcd cc (p).d : Int) := by have := Int.gcd_pos_of_ne_zero_left (p).d (show cc ≠ 0 by omega); omega
                    clear hlim a3 a4
                    have hdd : decide (240 < (p).d) = false := decide_eq_false (by omega)
                    generalize lcI cc (p).d = L at *
                    go_wp2_with fail
                    refine wp_region_bel (by kernel_rfl) (by kernel_rfl) ?_
                    repeat (go_big_quiet_step ((go_at_call 35; exact bel_of (tgcd_any _ _ _ (by omega) (by omega) (by omega) (by omega)))))
                    refine wpQuiet_nil ?_
                    rintro _ ⟨z, rfl⟩
                    go_wp2_with fail
                    go_roundw
                    case rel => exact ⟨0 + 1, (L, decide (240 < L)), by omega, by omega, by omega, fun h => by have := of_decide_eq_false h; omega, fun h => by omega, (fun _ => (by rw [HST.out]; exact HX.out)), (fun h => by omega), rfl, rfl, rfl, by (repeat' (first | (with_reducible first | apply Zl1 | apply Zl2 | apply Zl3 | apply Zl4 | apply Zl5 | apply Zl6 | apply Zl7 | apply Zl8 | apply Zl9 | apply Zla | apply Zlb | apply Zlc) | (dsimp only; with_reducible first | apply Zl8 | apply Zl2 | apply Zld) | with_reducible assumption | omega | (dsimp only; omega)))⟩
                    case measure => simp [intOf]
              · clear hj2 hj
                have HST : Hid ((ckX (cm, lm) p = some (cc, ll))) := Lib.hid ((HJ1.out rfl))
                by_cases hr : 12 * (s).d < (s).n ∨ (s).n < -12 * (s).d
                · have HF := Lib.hid (HER.out 3 ((ckT_2 HR1.out HR2.out HST.out (ckX_no hr))))
                  rcases (show 12 * (s).d < (s).n ∨ (¬ 12 * (s).d < (s).n ∧ (s).n < -12 * (s).d) by omega) with hq | ⟨hq, hq2⟩
                  · clear hr
                    go_wp2
                    go_ret
                    exact Ret.mk (by exact val_i64 HF.out.symm) (by (repeat' (first | (with_reducible first | apply Zl1 | apply Zl2 | apply Zl3 | apply Zl4 | apply Zl5 | apply Zl6 | apply Zl7 | apply Zl8 | apply Zl9 | apply Zla | apply Zlb | apply Zlc) | (dsimp only; with_reducible first | apply Zl8 | apply Zl2 | apply Zld) | with_reducible assumption | omega | (dsimp only; omega))))
                  · clear hr
                    go_wp2
                    go_ret
                    exact Ret.mk (by exact val_i64 HF.out.symm) (by (repeat' (first | (with_reducible first | apply Zl1 | apply Zl2 | apply Zl3 | apply Zl4 | apply Zl5 | apply Zl6 | apply Zl7 | apply Zl8 | apply Zl9 | apply Zla | apply Zlb | apply Zlc) | (dsimp only; with_reducible first | apply Zl8 | apply Zl2 | apply Zld) | with_reducible assumption | omega | (dsimp only; omega))))
                · have HNR := Lib.hid hr
                  have hq : ¬ 12 * (s).d < (s).n := by omega
                  have hq2 : ¬ (s).n < -12 * (s).d := by omega
                  clear hr
                  by_cases hlim : ll = true ∨ 240 < (s).d
                  · have HX := Lib.hid (ckX_lim (st := (cc, ll)) HNR.out hlim)
                    rcases (show ll = true ∨ (ll = false ∧ 240 < (s).d) by cases ll <;> simp_all) with rfl | ⟨rfl, hd⟩
                    · clear hlim
                      go_wp2_with fail
                      go_roundw
                      case rel => exact ⟨1 + 1, (cc, true), by omega, h1, h2, fun h => Bool.noConfusion h, fun h => by omega, (fun h => by omega), (fun _ => ⟨_, HST.out, HX.out⟩), rfl, rfl, rfl, by (repeat' (first | (with_reducible first | apply Zl1 | apply Zl2 | apply Zl3 | apply Zl4 | apply Zl5 | apply Zl6 | apply Zl7 | apply Zl8 | apply Zl9 | apply Zla | apply Zlb | apply Zlc) | (dsimp only; with_reducible first | apply Zl8 | apply Zl2 | apply Zld) | with_reducible assumption | omega | (dsimp only; omega)))⟩
                      case measure => simp [intOf]
                    · clear hlim
                      have hdd : decide (240 < (s).d) = true := decide_eq_true hd
                      go_wp2_with fail
                      go_roundw
                      case rel => exact ⟨1 + 1, (cc, true), by omega, h1, h2, fun h => Bool.noConfusion h, fun h => by omega, (fun h => by omega), (fun _ => ⟨_, HST.out, HX.out⟩), rfl, rfl, rfl, by (repeat' (first | (with_reducible first | apply Zl1 | apply Zl2 | apply Zl3 | apply Zl4 | apply Zl5 | apply Zl6 | apply Zl7 | apply Zl8 | apply Zl9 | apply Zla | apply Zlb | apply Zlc) | (dsimp only; with_reducible first | apply Zl8 | apply Zl2 | apply Zld) | with_reducible assumption | omega | (dsimp only; omega)))⟩
                      case measure => simp [intOf]
                  · have HX := Lib.hid (ckX_go (st := (cc, ll)) HNR.out hlim)
                    obtain ⟨rfl, hd⟩ : ll = false ∧ (s).d ≤ 240 := by cases ll <;> simp_all
                    have hc240 := H3.out rfl
                    obtain ⟨a1, a2, a3, a4, a5⟩ := lcI_spec h1 s1
                    have a6 := (lcI_bd h1 s1).1
                    have a7 : cc * (s).d ≤ 240 * 240 := Int.mul_le_mul hc240 hd (by omega) (by omega)
                    have hn : cc / (Int.gcd cc (s).d : Int) * (s).d = lcI cc (s).d := rfl
                    have hg0 : 1 ≤ (Int.gcd cc (s).d : Int) := by have := Int.gcd_pos_of_ne_zero_left (s).d (show cc ≠ 0 by omega); omega
                    clear hlim a3 a4
                    have hdd : decide (240 < (s).d) = false := decide_eq_false (by omega)
                    generalize lcI cc (s).d = L at *
                    go_wp2_with fail
                    refine wp_region_bel (by kernel_rfl) (by kernel_rfl) ?_
                    repeat (go_big_quiet_step ((go_at_call 35; exact bel_of (tgcd_any _ _ _ (by omega) (by omega) (by omega) (by omega)))))
                    refine wpQuiet_nil ?_
                    rintro _ ⟨z, rfl⟩
                    go_wp2_with fail
                    go_roundw
                    case rel => exact ⟨1 + 1, (L, decide (240 < L)), by omega, by omega, by omega, fun h => by have := of_decide_eq_false h; omega, fun h => by omega, (fun h => by omega), (fun _ => ⟨_, HST.out, HX.out⟩), rfl, rfl, rfl, by (repeat' (first | (with_reducible first | apply Zl1 | apply Zl2 | apply Zl3 | apply Zl4 | apply Zl5 | apply Zl6 | apply Zl7 | apply Zl8 | apply Zl9 | apply Zla | apply Zlb | apply Zlc) | (dsimp only; with_reducible first | apply Zl8 | apply Zl2 | apply Zld) | with_reducible assumption | omega | (dsimp only; omega)))⟩
                    case measure => simp [intOf]
            · obtain rfl : j = 2 := by omega
              obtain ⟨st1, e1, e2⟩ := HJ2.out rfl
              have HN2 := Lib.hid (HNXT.out _ (ckT_3 HR1.out HR2.out e1 e2))
              clear hj2 hj e1 e2
              go_wp2_with fail
              go_roundw
              case rel => exact ⟨k + 1, cc, ll, by omega, HN2.out, h1, h2, H3.out, rfl, rfl, by go_num, by (repeat' (first | (with_reducible first | apply Zl1 | apply Zl2 | apply Zl3 | apply Zl4 | apply Zl5 | apply Zl6 | apply Zl7 | apply Zl8 | apply Zl9 | apply Zla | apply Zlb | apply Zlc) | (dsimp only; with_reducible first | apply Zl8 | apply Zl2 | apply Zld) | with_reducible assumption | omega | (dsimp only; omega)))⟩
              case measure => simp [intOf]; omega
    · obtain rfl : k = 12 := by omega
      have HE := Lib.hid (HEND.out _ HCK.out)
      cases lm
      · go_wp2
        go_ret
        exact Ret.mk (by exact val_i64 (by rw [HE.out]; rfl)) (by (repeat' (first | (with_reducible first | apply Zl1 | apply Zl2 | apply Zl3 | apply Zl4 | apply Zl5 | apply Zl6 | apply Zl7 | apply Zl8 | apply Zl9 | apply Zla | apply Zlb | apply Zlc) | (dsimp only; with_reducible first | apply Zl8 | apply Zl2 | apply Zld) | with_reducible assumption | omega | (dsimp only; omega))))
      · go_wp2
        go_ret
        exact Ret.mk (by exact val_i64 (by rw [HE.out]; rfl)) (by (repeat' (first | (with_reducible first | apply Zl1 | apply Zl2 | apply Zl3 | apply Zl4 | apply Zl5 | apply Zl6 | apply Zl7 | apply Zl8 | apply Zl9 | apply Zla | apply Zlb | apply Zlc) | (dsimp only; with_reducible first | apply Zl8 | apply Zl2 | apply Zld) | with_reducible assumption | omega | (dsimp only; omega))))
end Go.Proofs.YtehgeoipbgpocaaGreatDoor
