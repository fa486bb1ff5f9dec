/- divide, by long division. divide and DivMod, whole. -/
import Derived.Deep.Cut
import Derived.Deep.RegionHeld3
import Derived.Laws.CopyOwn
import Derived.Test.YtehgeoipbgpocaaGreatDoorIn7
namespace Go.Proofs.YtehgeoipbgpocaaGreatDoor.I
set_option linter.unusedVariables false
set_option linter.unusedSimpArgs false
open Go.RowKit Go.Shelf
attribute [local go_sem low] Bel.cell Bel.frozen alloc_cell alloc_frozen
attribute [local go_sem] calmOp chainOp yieldsC grows

set_option maxRecDepth 100000 in
set_option maxHeartbeats 25600000 in
theorem divide_full (a b : Option Addr) (cap cap' m n : Nat) (w : World) (h1 : Limbs w a (lim m)) (h2 : Limbs w b (lim n)) (hl1 : (lim m).length ≤ 5000) (hnm : n ≤ m) (hk : 2 ≤ (lim n).length) :
    Calls Tryz.prog 286 #[.slice a (lim m).length cap, .slice b (lim n).length cap'] w (DivRet w (m / n) (m % n)) := by
  obtain ⟨i0, hi0, hz0, hz1, hz2⟩ := info_parts Tryz.infoU
  have hnl := lim_mono hnm
  obtain ⟨k2, hk2⟩ : ∃ k, (lim n).length = k + 2 := ⟨(lim n).length - 2, by omega⟩
  obtain ⟨top, ht⟩ : ∃ x, (lim n)[k2 + 1]? = some x := ⟨_, List.getElem?_eq_getElem (by omega)⟩
  obtain ⟨d, hd⟩ : ∃ d, BB / (top + 1) = d := ⟨_, rfl⟩
  obtain ⟨d0, d1, dl⟩ := norm_of (k := k2 + 1) hk2 ht
  rw [hd] at d0 d1 dl
  have htop : top < BB := lim_at ht
  have hup := lim_mul_le (m := m) d1
  have hlow := lim_mono (show m ≤ m * d from Nat.le_mul_of_pos_right m d0)
  have hld := lim_one (show d ≠ 0 by omega) d1
  have hinit := fun (p : Nat) (hp : (lim (m * d)).length + p = (lim m).length + 1) => div_init (m := m) (n := n) d0 hk2 dl (by omega) rfl hp (by omega)
  have HCM := Lib.hid (compare_any a b cap cap' m n w h1 h2 (by omega) (by omega))
  have hcm : decide (cmpN m n < 0) = false := by
    unfold cmpN
    rw [if_neg (by omega)]
    split <;> decide
  have HTU := Lib.hid (fun (pd : Option Addr) (cd : Nat) (w' : World) (h : Limbs w' a (lim m)) (h' : Limbs w' pd (lim d)) => times_cap a pd cap cd m d w' h h' (by omega) (by rw [hld]; simp))
  have HTV := Lib.hid (fun (pd : Option Addr) (cd : Nat) (w' : World) (h : Limbs w' b (lim n)) (h' : Limbs w' pd (lim d)) => times_any b pd cap' cd n d w' h h' (by omega) (by rw [hld]; simp))
  rw [hld] at HTU HTV
  simp only [List.length_singleton] at HTU HTV
  obtain ⟨b2, o2, rfl, c2⟩ := h2 (by omega)
  have g2 := c2 (k2 + 1) top ht
  have HL2 := Lib.hid h2
  have HL1 := Lib.hid h1
  clear h1 h2 c2 ht
  obtain ⟨lm, hlm⟩ : ∃ l, (lim m).length = l := ⟨_, rfl⟩
  obtain ⟨kk, hkk⟩ : ∃ l, (lim n).length = l := ⟨_, rfl⟩
  rw [hlm] at hl1 hnl hup hlow hinit HCM HTU ⊢
  rw [hkk] at hk hk2 hnl HCM HTV ⊢
  replace hk2 := hk2.symm
  have hne1 : ((kk : Int) == 1) = false := beq_eq_false_iff_ne.2 (by omega)
  obtain ⟨k1, hk1⟩ : ∃ k, k2 + 1 = k := ⟨_, rfl⟩
  rw [hk1] at g2
  have t1 : IntKind.i64.wrap ((kk : Int) - 1) = (k1 : Int) := by rw [IntWalk.i64_in _ (by omega)]; omega
  have hb1 : (k1 : Int) < (kk : Int) := by omega
  obtain ⟨tp, htp⟩ : ∃ t, top + 1 = t := ⟨_, rfl⟩
  have htp' : (top : Int) + 1 = (tp : Int) := by omega
  have htpb : tp ≤ 1000000000 := by unfold BB at htop; omega
  have htp1 : 1 ≤ (tp : Int) := by omega
  have hdq : (1000000000 : Int) / (tp : Int) = (d : Int) := by rw [← hd, htp]; simp
  have HD := Lib.hid hd
  have HDL := Lib.hid (show (lim (n * d)).length = kk by rw [dl]; omega)
  clear hd dl hld
  generalize cmpN m n = cm at *
  go_enter Tryz.func286, Tryz.ntmps286
  go_wp2_with fail
  (with_reducible refine HCM.out.mono ?_)
  rintro _ _ ⟨rfl, x1, rfl⟩
  have hx1 := x1.size_le
  go_wp2_with fail
  have hoD := ownV_one x1.w 76 (.int .u64 (d : Int))
  have HO := Lib.hid (show OwnV (x1.w.alloc (.cells #[.int .u64 (d : Int)] 76)) x1.w.heap.size 76 (.slice (some ⟨x1.w.heap.size, 0, none⟩) 1 1) (uVs [d]) from hoD)
  have hLd := limbs_one x1.w d
  have hbd : Below w.heap.size w (x1.w.alloc (.cells #[.int .u64 (d : Int)] 76)) := by (repeat' (first | (with_reducible first | apply Zl1 | apply Zl2 | apply Zl3 | apply Zl4 | apply Zl5 | apply Zl6 | apply Zl7 | apply Zl8 | apply Zl9 | apply Zla | apply Zlb | apply Zlc) | (dsimp only; with_reducible first | apply Zl8 | apply Zl2 | apply Zld) | with_reducible assumption | omega | (dsimp only; omega)))
  have hszd : (x1.w.alloc (.cells #[.int .u64 (d : Int)] 76)).heap.size = x1.w.heap.size + 1 := by simp
  generalize x1.w.alloc (.cells #[.int .u64 (d : Int)] 76) = wd at *
  obtain ⟨gD, hgD⟩ : ∃ g, x1.w.heap.size = g := ⟨_, rfl⟩
  rw [hgD] at HO hLd hszd hx1 ⊢
  have HTU1 := Lib.hid (HTU.out _ 1 wd (limbs_of HL1.out hbd) hLd)
  clear hoD hgD HTU hLd
  refine HTU1.out.mono ?_
  rintro _ _ ⟨cu, rfl, hcu, y1, rfl, huo⟩
  have hy1 := y1.size_le
  have HDo := Lib.hid (ownV_bel HO.out y1)
  have hbY1 : Below w.heap.size w y1.w := hbd.trans (y1.below.mono hbd.size)
  have HLd2 := Lib.hid (show Limbs y1.w (some ⟨gD, 0, none⟩) [d] from (limbs_own HDo.out).elim fun a h => h.elim fun c h => by
    have h1 := h.1
    injection h1 with e1
    rw [e1]; exact h.2)
  have HTV1 := Lib.hid (HTV.out _ 1 y1.w (limbs_of HL2.out hbY1) HLd2.out)
  have HUo := Lib.hid huo
  have hUsz := own_lt huo
  clear HO HTV huo HLd2 HL1 HL2 HTU1
  dsimp only
  go_wp2_with fail
  refine HTV1.out.mono ?_
  rintro _ _ ⟨vv, rfl, y2, rfl, hvo⟩
  have hy2 := y2.size_le
  obtain ⟨gV, cV, hvv, hgVb, hgVs, _⟩ := ownV_cells hvo (by rw [uVs_len, HDL.out]; omega)
  rw [uVs_len, HDL.out] at hvv
  subst hvv
  have HDo2 := Lib.hid (ownV_bel HDo.out y2)
  have HUo2 := Lib.hid (ownV_bel HUo.out y2)
  have HVo := Lib.hid hvo
  have hbY2 : Below w.heap.size w y2.w := hbY1.trans (y2.below.mono hbY1.size)
  clear hvo HTV1 HDo HUo
  obtain ⟨lu, hlu⟩ : ∃ l, (lim (m * d)).length = l := ⟨_, rfl⟩
  rw [hlu] at HUo2 hup hlow hinit ⊢
  obtain ⟨T, hT⟩ : ∃ T, lm + 1 = T := ⟨_, rfl⟩
  rw [hT] at hup hinit hcu
  obtain ⟨p, hp⟩ : ∃ p, T - lu = p := ⟨_, rfl⟩
  have hI := hinit p (by omega)
  have t2 : IntKind.i64.wrap ((lm : Int) + 1) = (T : Int) := by rw [IntWalk.i64_in _ (by omega)]; omega
  have t3 : IntKind.i64.wrap ((T : Int) - (lu : Int)) = (p : Int) := by rw [IntWalk.i64_in _ (by omega)]; omega
  have hlp : lu + p = T := by omega
  have hlp' : (lu : Int) + (p : Int) = (T : Int) := by omega
  obtain ⟨K, hK⟩ : ∃ k, T - kk = k := ⟨_, rfl⟩
  have t4 : IntKind.i64.wrap ((T : Int) - (kk : Int)) = (K : Int) := by rw [IntWalk.i64_in _ (by omega)]; omega
  have t5 : IntKind.i64.wrap ((K : Int) - 1) = (K : Int) - 1 := IntWalk.i64_in _ (by omega)
  have hmax : max (p : Int) 0 = (p : Int) := by omega
  have hmax2 : max 0 (p : Int) = (p : Int) := by omega
  have HI := Lib.hid hI
  obtain ⟨gU, hgU⟩ : ∃ g, wd.heap.size = g := ⟨_, rfl⟩
  rw [hgU] at hszd hy1 HUo2 hUsz ⊢
  subst hszd
  clear hinit hI hlu
  dsimp only
  go_wp2_with (first | (at_builtin; refine wpList_appz rfl _ _ 260 3 rfl 76 i0 (.int .u64 0) .i64 .i64 Tryz.underlying260 Tryz.underlying3 hi0 hz0 hz1 hz2 rfl rfl (gD + 1) (gD + 1) lu cu p (uVs (lim (m * d))) HUo2.out rfl rfl (by omega) (by omega) ?_; intro w3 hown3 hgrow3) | (at_make; refine wpList_make_full _ rfl _ _ 260 rfl (0) 76 i0 (.int .u64 0) 1 Tryz.underlying260 hi0 hz0 hz1 _ _ _ _ (K) rfl rfl (by first | rfl | omega | (simp <;> omega)) (by first | rfl | omega | (simp <;> omega)) (by rw [hz2] <;> omega) (by unfold maxLen; omega) (by first | omega | (simp <;> omega)) ?_; intro wM hownM hgrowM))
  rw [uVs_app] at hown3
  rw [hlp] at hown3
  have hb3 : Below w.heap.size w w3 := hbY2.grown hgrow3 (by have := hbY2.size; omega) (fun k e => by injection e with e; have := hbd.size; omega)
  have hD3 : OwnV w3 0 76 (.slice (some ⟨gD, 0, none⟩) 1 1) (uVs [d]) := World.ownsRow.kept (ownV_mono HDo2.out (Nat.zero_le _)) hgrow3 (.inr (fun e => by injection e with e; have : gD = gD + 1 := e; omega))
  have hV3 : OwnV w3 0 76 (.slice (some ⟨gV, 0, none⟩) kk cV) (uVs (lim (n * d))) := World.ownsRow.kept (ownV_mono HVo.out (Nat.zero_le _)) hgrow3 (.inr (fun e => by injection e with e; have : gV = gD + 1 := e; omega))
  have hU3 := ownV_mono hown3 (Nat.zero_le _)
  have hs3 := hgrow3.size
  have hbM : Below w3.heap.size w3 wM := (Below.refl _ _).grown hgrowM (Nat.le_refl _) (fun k e => by cases e)
  have hbW : Below w.heap.size w wM := hb3.trans (hbM.mono hb3.size)
  have hq1 := own_lt hD3
  have hq2 := own_lt hV3
  have hq3 := own_lt hU3
  have hwb := hbd.size
  have hvd : gV ≠ gD := by omega
  have hD4 : OwnV wM 0 76 (.slice (some ⟨gD, 0, none⟩) 1 1) (uVs [d]) := ownV_kept hD3 hgrowM
  have hV4 : OwnV wM 0 76 (.slice (some ⟨gV, 0, none⟩) kk cV) (uVs (lim (n * d))) := ownV_kept hV3 hgrowM
  have hU4 : OwnV wM 0 76 (.slice (some ⟨gD + 1, 0, none⟩) T cu) (uVs (lim (m * d) ++ List.replicate p 0)) := ownV_kept hU3 hgrowM
  have hQ4 : OwnV wM 0 76 (.slice (some ⟨w3.heap.size, 0, none⟩) K K) (uVs (List.replicate K 0)) := by
    unfold OwnV
    rw [uVs_rep, List.length_replicate]
    have := hownM
    rw [Nat.mul_one, show (Value.int .u64 0).cells = #[Value.int .u64 0] from rfl, toList_madeCells_one] at this
    exact this
  obtain ⟨gQ, hgQ⟩ : ∃ g, w3.heap.size = g := ⟨_, rfl⟩
  rw [hgQ] at hq1 hq2 hq3 hQ4 ⊢
  have HI0 := Lib.hid (show DivInv (m * d) (n * d) T K K (lim (m * d) ++ List.replicate p 0) (List.replicate K 0) by
    have := HI.out
    rw [show k2 + 2 = kk by omega, hK] at this
    exact this)
  have hVlen := HDL.out
  obtain ⟨v1, hv1⟩ : ∃ x, (lim (n * d))[k1]? = some x := ⟨_, List.getElem?_eq_getElem (by omega)⟩
  obtain ⟨v2, hv2⟩ : ∃ x, (lim (n * d))[k2]? = some x := ⟨_, List.getElem?_eq_getElem (by omega)⟩
  have hv0 : v1 ≠ 0 := by
    have h1 : lim (n * d) = (lim (n * d)).take k1 ++ [v1] := by
      have := (List.take_append_drop k1 (lim (n * d))).symm
      rwa [drop_cons hv1, List.drop_of_length_le (by omega)] at this
    exact limbs_last (by decide) (n * d) _ _ h1
  have hv1b := lim_at hv1
  have hv2b := lim_at hv2
  have HV1 := Lib.hid hv1
  have HV2 := Lib.hid hv2
  have hVpos : 0 < n * d := Nat.mul_pos (by
    refine Nat.pos_of_ne_zero fun h => ?_
    subst h
    rw [Nat.zero_mul, show lim 0 = [] from limbs_zero _] at hVlen
    simp at hVlen
    omega) d0
  have HIN := Lib.hid (And.intro hU4 (And.intro hQ4 (And.intro hV4 hD4)))
  clear hownM hgrowM hown3 hgrow3 hD3 hV3 hU3 hD4 hV4 hU4 hQ4 HDo2 HVo HUo2 hbY2 hbY1 hbd hgQ hbM hb3 hv1 hv2 HI hVlen
  go_loopw [12] (fun j wr => ∃ (jj : Nat) (L Q : List Nat), j = .int .i64 ((jj : Int) - 1) ∧ jj ≤ K ∧ DivInv (m * d) (n * d) T K jj L Q ∧ OwnV wr 0 76 (.slice (some ⟨gD + 1, 0, none⟩) T cu) (uVs L) ∧
    OwnV wr 0 76 (.slice (some ⟨gQ, 0, none⟩) K K) (uVs Q) ∧ OwnV wr 0 76 (.slice (some ⟨gV, 0, none⟩) kk cV) (uVs (lim (n * d))) ∧ OwnV wr 0 76 (.slice (some ⟨gD, 0, none⟩) 1 1) (uVs [d]) ∧ Below w.heap.size w wr) (fun j _ => (intOf j + 1).toNat)
  case atStart => exact ⟨K, _, _, rfl, Nat.le_refl _, HI0.out, HIN.out.1, HIN.out.2.1, HIN.out.2.2.1, HIN.out.2.2.2, hbW⟩
  case round =>
    clear HI0 HIN hbW
    obtain ⟨jj, L, Q, rfl, hjj, hinv, hU, hQ, hV, hDo, hb⟩ := hrel
    have hbs := hb.size
    by_cases hj0 : jj = 0
    · subst hj0
      obtain ⟨e1, e2⟩ := div_end hinv d0 (Nat.pos_of_ne_zero fun h => by rw [h, Nat.zero_mul] at hVpos; exact absurd hVpos (by decide))
      have hU2 : OwnV wr 0 76 (.slice (some ⟨gD + 1, 0, none⟩) L.length cu) (uVs L) := by rw [hinv.len]; exact hU
      have hQ2 : OwnV wr 0 76 (.slice (some ⟨gQ, 0, none⟩) Q.length K) (uVs Q) := by rw [hinv.qlen]; exact hQ
      have hTb : L.length ≤ 100000 := by rw [hinv.len]; omega
      have hKb : Q.length ≤ 100000 := by rw [hinv.qlen]; omega
      have hUt := trim_own hU2 hTb
      have hUo := own_trim hU2
      rw [trim_lim hinv.lim e2] at hUt hUo
      rw [hinv.len] at hUt
      have hQo := own_trim hQ2
      rw [trim_lim hinv.qlim e1] at hQo
      have hrl : (lim (d * (m % n))).length ≤ 10000 := by
        rw [← trim_lim hinv.lim e2]
        exact Nat.le_trans (trimL_len L) (by have := hinv.len; omega)
      have hQL := hinv.qlim
      have hql := hinv.qlen
      have HUT := Lib.hid (fun (w' : World) (h : Below wr.heap.size wr w') => (show Calls Tryz.prog 215 #[.slice (some ⟨gD + 1, 0, none⟩) T cu] w' (Ret (.slice (some ⟨gD + 1, 0, none⟩) (lim (d * (m % n))).length cu) w') by
        have h1 := trim_own (show OwnV w' 0 76 (.slice (some ⟨gD + 1, 0, none⟩) L.length cu) (uVs L) from ownV_bel hU2 ⟨w', h⟩) hTb
        rw [trim_lim hinv.lim e2, hinv.len] at h1
        exact h1))
      have HQT := Lib.hid (fun (w' : World) (h : Below wr.heap.size wr w') => (show Calls Tryz.prog 215 #[.slice (some ⟨gQ, 0, none⟩) K K] w' (Ret (.slice (some ⟨gQ, 0, none⟩) (lim (m / n)).length K) w') by
        have h1 := trim_own (show OwnV w' 0 76 (.slice (some ⟨gQ, 0, none⟩) Q.length K) (uVs Q) from ownV_bel hQ2 ⟨w', h⟩) hKb
        rw [trim_lim hinv.qlim e1, hinv.qlen] at h1
        exact h1))
      have HUL := Lib.hid (fun (w' : World) (h : Below wr.heap.size wr w') => (show Limbs w' (some ⟨gD + 1, 0, none⟩) (lim (d * (m % n))) from by
        obtain ⟨a', c', hv', hl'⟩ := limbs_own (ownV_bel hUo ⟨w', h⟩)
        injection hv' with e1
        rw [e1]; exact hl'))
      have HQO := Lib.hid hQo
      obtain ⟨g5, _⟩ := own_at hDo (j := 0) (x := d) rfl
      have hbyq : d * (m % n) / d = m % n := Nat.mul_div_cancel_left _ d0
      clear hinv hU hQ hV hDo hU2 hQ2 hUt hUo hQo e1 e2 hQL
      have SK := Lib.hid (show ∀ v : World, Below wr.heap.size wr v → v.cell? ⟨gD, 0, none⟩ = some (.int .u64 (d : Int)) ∧ Below wr.heap.size wr v from fun v h => ⟨cell_carry h g5, h⟩)
      have hRf : Below wr.heap.size wr wr := Below.refl _ _
      go_wp2_with fail
      go_region_held3 (fun v => v.cell? ⟨gD, 0, none⟩ = some (.int .u64 (d : Int)) ∧ Below wr.heap.size wr v) (exact SK.out _ (by (repeat' (first | (with_reducible first | apply Zl1 | apply Zl2 | apply Zl3 | apply Zl4 | apply Zl5 | apply Zl6 | apply Zl7 | apply Zl8 | apply Zl9 | apply Zla | apply Zlb | apply Zlc) | (dsimp only; with_reducible first | apply Zl8 | apply Zl2 | apply Zld) | with_reducible assumption | omega | (dsimp only; omega))))) (first | (go_at_call 215; refine (HUT.out _ (by (repeat' (first | (with_reducible first | apply Zl1 | apply Zl2 | apply Zl3 | apply Zl4 | apply Zl5 | apply Zl6 | apply Zl7 | apply Zl8 | apply Zl9 | apply Zla | apply Zlb | apply Zlc) | (dsimp only; with_reducible first | apply Zl8 | apply Zl2 | apply Zld) | with_reducible assumption | omega | (dsimp only; omega))))).mono ?_; rintro _ _ ⟨rfl, y, rfl⟩; have hy := y.size_le) | (go_at_call 310; refine (by_any _ cu _ d _ (HUL.out _ (by (repeat' (first | (with_reducible first | apply Zl1 | apply Zl2 | apply Zl3 | apply Zl4 | apply Zl5 | apply Zl6 | apply Zl7 | apply Zl8 | apply Zl9 | apply Zla | apply Zlb | apply Zlc) | (dsimp only; with_reducible first | apply Zl8 | apply Zl2 | apply Zld) | with_reducible assumption | omega | (dsimp only; omega))))) hrl d0 d1).mono ?_; rintro _ _ ⟨v, rfl, z, rfl, hvo⟩; have hz := z.size_le))
      have hzz : Below wr.heap.size wr z.w := by (repeat' (first | (with_reducible first | apply Zl1 | apply Zl2 | apply Zl3 | apply Zl4 | apply Zl5 | apply Zl6 | apply Zl7 | apply Zl8 | apply Zl9 | apply Zla | apply Zlb | apply Zlc) | (dsimp only; with_reducible first | apply Zl8 | apply Zl2 | apply Zld) | with_reducible assumption | omega | (dsimp only; omega)))
      rw [hbyq] at hvo
      have HVO := Lib.hid hvo
      obtain ⟨va, vc, rfl, _⟩ := limbs_own HVO.out
      clear hvo
      go_wp2_with fail
      refine (HQT.out z.w hzz).mono ?_
      rintro _ _ ⟨rfl, u, rfl⟩
      dsimp only
      go_wp2
      go_ret2
      have huu : Below wr.heap.size wr u.w := hzz.trans (u.below.mono hzz.size)
      exact ⟨_, _, rfl, ⟨u.w, hb.trans (huu.mono hbs)⟩, rfl, LV.own (ownV_bel HQO.out ⟨u.w, huu⟩), LV.own (ownV_bel HVO.out u)⟩
    · obtain ⟨j, rfl⟩ : ∃ j, jj = j + 1 := ⟨jj - 1, by omega⟩
      have hTK : T = K + kk := by omega
      obtain ⟨jk, hjk⟩ : ∃ x, j + kk = x := ⟨_, rfl⟩
      obtain ⟨j1, hj1⟩ : ∃ x, j + k1 = x := ⟨_, rfl⟩
      obtain ⟨j2, hj2⟩ : ∃ x, j + k2 = x := ⟨_, rfl⟩
      obtain ⟨u0, hu0⟩ : ∃ x, L[jk]? = some x := ⟨_, List.getElem?_eq_getElem (by rw [hinv.len]; omega)⟩
      obtain ⟨u1, hu1⟩ : ∃ x, L[j1]? = some x := ⟨_, List.getElem?_eq_getElem (by rw [hinv.len]; omega)⟩
      obtain ⟨u2, hu2⟩ : ∃ x, L[j2]? = some x := ⟨_, List.getElem?_eq_getElem (by rw [hinv.len]; omega)⟩
      obtain ⟨hdg, hz0⟩ := digit_of (W := lim (n * d)) (k := k2) hinv.lim (lim_lt _) (vB_lim _) (by rw [HDL.out]; omega) (by rw [hk1]; exact HV1.out) HV2.out hv0 (by rw [show j + k2 + 2 = jk by omega]; exact hu0) (by rw [show j + k2 + 1 = j1 by omega]; exact hu1) (by rw [hj2]; exact hu2) hinv.low
      obtain ⟨P, hP⟩ : ∃ P, vB (L.drop j) = P := ⟨_, rfl⟩
      obtain ⟨V, hVe⟩ : ∃ V, n * d = V := ⟨_, rfl⟩
      rw [hP, hVe] at hdg
      have ga0 := (own_at hU hu0).1
      have ga1 := (own_at hU hu1).1
      have ga2 := (own_at hU hu2).1
      have gb1 := (own_at hV HV1.out).1
      have gb2 := (own_at hV HV2.out).1
      have hu0b := hinv.lim u0 (List.mem_of_getElem? hu0)
      have hu1b := hinv.lim u1 (List.mem_of_getElem? hu1)
      have hu2b := hinv.lim u2 (List.mem_of_getElem? hu2)
      unfold BB at hu0b hu1b hu2b
      have s1 : IntKind.i64.wrap ((j : Int) + (kk : Int)) = (jk : Int) := by rw [IntWalk.i64_in _ (by omega)]; omega
      have s2 : IntKind.i64.wrap ((jk : Int) - 1) = (j1 : Int) := by rw [IntWalk.i64_in _ (by omega)]; omega
      have s3 : IntKind.i64.wrap ((jk : Int) - 2) = (j2 : Int) := by rw [IntWalk.i64_in _ (by omega)]; omega
      have s4 : IntKind.i64.wrap ((kk : Int) - 2) = (k2 : Int) := by rw [IntWalk.i64_in _ (by omega)]; omega
      have b1 : (jk : Int) < (T : Int) := by omega
      have b2' : (j1 : Int) < (T : Int) := by omega
      have b3 : (j2 : Int) < (T : Int) := by omega
      have b4 : (k2 : Int) < (kk : Int) := by omega
      obtain ⟨a1, ha1⟩ : ∃ a, u0 * 1000000000 = a := ⟨_, rfl⟩
      have ha1' : (u0 : Int) * 1000000000 = (a1 : Int) := by omega
      obtain ⟨tq, htq⟩ : ∃ t, a1 + u1 = t := ⟨_, rfl⟩
      have htq' : (a1 : Int) + (u1 : Int) = (tq : Int) := by omega
      have htqb : tq ≤ 999999999999999999 := by omega
      have hv11 : 1 ≤ (v1 : Int) := by omega
      obtain ⟨g0, hg0⟩ : ∃ g, tq / v1 = g := ⟨_, rfl⟩
      obtain ⟨r0, hr0⟩ : ∃ r, tq % v1 = r := ⟨_, rfl⟩
      have hg0' : (tq : Int) / (v1 : Int) = (g0 : Int) := by rw [← hg0]; simp
      have hr0' : (tq : Int) % (v1 : Int) = (r0 : Int) := by rw [← hr0]; simp
      have hst := guess_start hdg
      rw [show u0 * BB + u1 = tq by rw [← htq, ← ha1], hg0, hr0] at hst
      have hg0b : g0 ≤ tq := by rw [← hg0]; exact Nat.div_le_self _ _
      have t6 : ((j + 1 : Nat) : Int) - 1 = (j : Int) := by omega
      have t7 : IntKind.i64.wrap ((j : Int) - 1) = (j : Int) - 1 := IntWalk.i64_in _ (by omega)
      rw [t6]
      have HDG := Lib.hid hdg
      have HINV := Lib.hid hinv
      have HPV := Lib.hid hP
      have HVE := Lib.hid hVe
      have HJ := Lib.hid (And.intro hjk (And.intro hj1 (And.intro hj2 (And.intro hTK (And.intro hk1 hk2)))))
      have HST := Lib.hid hst
      have HTQ := Lib.hid htq
      have HA1 := Lib.hid ha1
      have HUo := Lib.hid hU
      have HQo := Lib.hid hQ
      have HVo := Lib.hid hV
      have HDo := Lib.hid hDo
      have HZ0 := Lib.hid hz0
      clear hinv hU hQ hV hDo hst hg0 hr0 hu0 hu1 hu2 ha1 htq t6 hdg hP hVe hz0 hVpos
      obtain ⟨wo, rfl⟩ : ∃ wo : World, wo = wr := ⟨_, rfl⟩
      go_wp2_with fail
      refine wp_region_bel (by kernel_rfl) (by kernel_rfl) ?_
      repeat (go_big_quiet_step (fail))
      refine wpQuiet_nil ?_
      rintro _ ⟨z1, rfl⟩
      have hz1 := z1.size_le
      rename_i K9 hK9
      have HK9 := Lib.hid hK9
      clear hK9
      go_wp2_with fail
      refine HK9.out _ _ ?_
      go_wp2_with fail
      refine wp_region_bel (by kernel_rfl) (by kernel_rfl) ?_
      repeat (go_big_quiet_step (fail))
      refine wpQuiet_nil ?_
      rintro _ ⟨z2, rfl⟩
      have hz2' := z2.size_le
      have hbz : Below wo.heap.size wo z2.w := (z1.below).trans (z2.below.mono hz1)
      rename_i K7 hK7
      have HK7 := Lib.hid hK7
      clear hK7
      go_wp2_with fail
      rw [hr0']
      refine HK7.out _ _ ?_
      obtain ⟨r1, r2, r3, r4, r5, r6⟩ := HJ.out
      have hinv := HINV.out
      have hVl : (lim V).length = kk := by rw [← HVE.out]; exact HDL.out
      have hUw := ownV_bel HUo.out ⟨z2.w, hbz⟩
      have hQw := ownV_bel HQo.out ⟨z2.w, hbz⟩
      have hVw := ownV_bel HVo.out ⟨z2.w, hbz⟩
      have hDw := ownV_bel HDo.out ⟨z2.w, hbz⟩
      rw [HVE.out] at hVw
      have hzz : vB (L.drop (j + kk + 1)) = 0 := by rw [show j + kk + 1 = j + k2 + 3 by omega]; exact HZ0.out
      refine divide_inner w z2.w j kk jk j2 k1 k2 T K gD (gD + 1) gQ gV cu cV P V d tq g0 r0 v1 v2 u0 u1 u2 L Q r1 (by omega) (by omega) hk (by omega) (by omega) s1 s3 s4 t1 b3 b4 hb1 hinv.len hinv.lim hzz HPV.out hVl hinv.qlen HDG.out (by rw [← HTQ.out, ← HA1.out]) htqb HST.out hg0b hv1b hv2b hu2b (cell_carry hbz ga2) (cell_carry hbz gb1) (cell_carry hbz gb2) hUw hQw hVw hDw (by omega) (by omega) (by omega) (by omega) (by omega) (hb.trans (hbz.mono hbs)) (by omega) (by omega) ?_
      intro y14 y15 y16 y17 y18 y110 y111 y112 y113 y114 y115 y116 y117 y118 y119 y120 y121 y122 y123 y124 y125 y126 y127 y128 y129 y130 y131 y132 y133 y134 y135 y136 y137 y138 y139 y140 y141 y142 y143 y144 y145 y146 y147 y148 y149 y150 y151 y152 y153 y154 y155 y156 y157 y158 y159 y160 y161 y162 y163 y164 y165 y166 y167 y168 y169 y170 y171 y172 y173 y174 y175 y176 y177 y178 y179 y180 y181 y182 y183 y184 y185 y186 y187 y188 w7 hU7 hQ7 hV7 hD7 hb7
      have hVp : 0 < V := Nat.pos_of_ne_zero fun h => by
        rw [h, show lim 0 = [] from limbs_zero _] at hVl
        simp at hVl
        omega
      have hRl : (lim (P % V)).length ≤ kk + 1 := by
        have := lim_mono (Nat.le_of_lt (Nat.mod_lt P hVp))
        omega
      obtain ⟨X, hX1, hX2, hX3, hX4⟩ := copies (L := L) (R := lim (P % V)) (j := j) (n := kk + 1) (by rw [hinv.len]; omega) hRl (by rw [← Nat.add_assoc]; exact hzz)
      rw [hX1] at hU7 hX4
      have hP := HPV.out
      have hVE := HVE.out
      have hPV : P / V < BB := div_lt_of HDG.out.lt
      have HN := Lib.hid (show DivInv (m * d) (n * d) T K j (L.take j ++ (lim (P % V) ++ X)) (Q.set j (P / V)) by
        have := div_step (X := X) (R := lim (P % V)) hinv (by omega) (by omega) hX2 hX3 (lim_lt _) (by rw [vB_lim, hP, hVE]) (by rw [hVE]; exact hVp) (by rw [hP, hVE]; exact hPV) (by rw [hX4]; exact hinv.len)
        rw [hP, hVE] at this
        rw [hVE]
        exact this)
      have HV7 := Lib.hid (show OwnV w7 0 76 (.slice (some ⟨gV, 0, none⟩) kk cV) (uVs (lim (n * d))) by rw [hVE]; exact hV7)
      clear hinv hX1 hX2 hX3 hX4 hP hVE hUw hQw hVw hDw hzz r1 r2 r3 r4 r5 r6 hV7
      go_wp2
      go_roundw
      case rel => exact ⟨j, _, _, rfl, by omega, HN.out, hU7, hQ7, HV7.out, hD7, hb7⟩
      case measure => simp [intOf] <;> omega
end Go.Proofs.YtehgeoipbgpocaaGreatDoor.I

namespace Go.Proofs.YtehgeoipbgpocaaGreatDoor.I
set_option linter.unusedVariables false
set_option linter.unusedSimpArgs false
open Go.RowKit Go.Shelf

theorem divide_any (a b : Option Addr) (cap cap' m n : Nat) (w : World) (h1 : Limbs w a (lim m)) (h2 : Limbs w b (lim n)) (hl1 : (lim m).length ≤ 5000) (hl2 : (lim n).length ≤ 10000) (hn0 : n ≠ 0) :
    Calls Tryz.prog 286 #[.slice a (lim m).length cap, .slice b (lim n).length cap'] w (DivRet w (m / n) (m % n)) := by
  by_cases h : m < n
  · have := divide_lt a b cap cap' m n w h1 h2 (by omega) hl2 h
    rw [Nat.div_eq_of_lt h, Nat.mod_eq_of_lt h]
    exact this
  · by_cases hn : n < 1000000000
    · exact divide_one a b cap cap' m n w h1 h2 (by omega) (by omega) hn0 hn
    · refine divide_full a b cap cap' m n w h1 h2 hl1 (by omega) ?_
      refine Nat.le_of_not_lt fun hk => hn ?_
      have h3 := (limbs_bounds (B := 1000000000) (by decide) n).1
      have h4 : (1000000000 : Nat) ^ (limbs 1000000000 n).length ≤ 1000000000 ^ 1 := Nat.pow_le_pow_right (by decide) (show (lim n).length ≤ 1 by omega)
      omega
theorem divMod_any (a b : Int) (w : World) (ha : nd a ≤ 45000) (hb : nd b ≤ 70000) (hb0 : b ≠ 0) (hT : Tab w) :
    Calls Tryz.prog 259 #[.string ⟨(iT a).toArray⟩, .string ⟨(iT b).toArray⟩] w (Ret (.tuple #[.string ⟨(iT (dmQ a b)).toArray⟩, .string ⟨(iT (dmR a b)).toArray⟩, .int .i64 0]) w) :=
  divMod_of a b w (by omega) hb hb0 hT fun pa pb ca cb w' h1 h2 =>
    divide_any pa pb ca cb _ _ w' h1 h2 (lim_le2 (nd_lt a) (by omega)) (lim_nd b (by omega)) (by omega)
theorem dm_calc {A B q r : Int} (h : B * q + r = A) : q * B + r = A ∧ -q * B + -r = -A ∧ q * -B + -r = -A ∧ -q * -B + r = A ∧ -(q + 1) * B + (B - r) = -A ∧ -(q + 1) * -B + -(B - r) = A := by
  have e : q * B = B * q := Int.mul_comm _ _
  have e2 : (q + 1) * B = B * q + B := by rw [Int.add_mul, Int.one_mul, e]
  refine ⟨?_, ?_, ?_, ?_, ?_, ?_⟩ <;> simp only [Int.neg_mul, Int.mul_neg, Int.neg_neg, e, e2] <;> omega
set_option maxHeartbeats 3200000 in
/-- Quotient and rest by the floor. -/
theorem dm_law (a b : Int) (hb : b ≠ 0) : dmQ a b * b + dmR a b = a ∧ (dmR a b).natAbs < b.natAbs ∧ 0 ≤ dmR a b * b := by
  have h1 := Nat.div_add_mod a.natAbs b.natAbs
  have h2 := Nat.mod_lt a.natAbs (show 0 < b.natAbs by omega)
  unfold dmQ dmR dmX dmY sg
  obtain ⟨q, hq⟩ : ∃ q, a.natAbs / b.natAbs = q := ⟨_, rfl⟩
  obtain ⟨r, hr⟩ : ∃ r, a.natAbs % b.natAbs = r := ⟨_, rfl⟩
  rw [hq, hr] at h1 ⊢
  rw [hr] at h2
  clear hq hr
  have hrn : ∀ x : Int, 0 ≤ x → 0 ≤ x * (b.natAbs : Int) := fun x hx => Int.mul_nonneg hx (by omega)
  obtain ⟨B, hB⟩ : ∃ B, b.natAbs = B := ⟨_, rfl⟩
  obtain ⟨A, hA⟩ : ∃ A, a.natAbs = A := ⟨_, rfl⟩
  rw [hB, hA] at h1
  rw [hB] at h2 hrn ⊢
  obtain ⟨c1, c2, c3, c4, c5, c6⟩ := @dm_calc (A : Int) (B : Int) (q : Int) (r : Int) (by rw [← h1]; simp)
  have n1 := hrn r (by omega)
  have n2 := hrn ((B - r : Nat) : Int) (by omega)
  have eBr : ((B - r : Nat) : Int) = (B : Int) - (r : Int) := by omega
  have eq1 : ((q + 1 : Nat) : Int) = (q : Int) + 1 := by omega
  by_cases ha : a < 0 <;> by_cases hbn : b < 0
  · have ea : a = -(A : Int) := by omega
    have eb : b = -(B : Int) := by omega
    simp only [decide_eq_true ha, decide_eq_true hbn, ne_eq, not_true, false_and, if_false, bne_self_eq_false, Bool.false_eq_true, if_true]
    refine ⟨by rw [ea, eb]; exact c3, by omega, by rw [eb, Int.neg_mul_neg]; exact n1⟩
  · have ea : a = -(A : Int) := by omega
    have eb : b = (B : Int) := by omega
    simp only [decide_eq_true ha, decide_eq_false hbn, ne_eq, reduceCtorEq, not_false_iff, true_and, bne_iff_ne, if_true, Bool.false_eq_true, if_false]
    by_cases h0 : 0 < r
    · simp only [if_pos h0, eBr, eq1]
      rw [eBr] at n2
      exact ⟨by rw [ea, eb]; exact c5, by omega, by rw [eb]; exact n2⟩
    · have hr0 : r = 0 := by omega
      subst hr0
      simp only [if_neg h0]
      exact ⟨by rw [ea, eb]; simpa using c2, by omega, by rw [eb]; exact n1⟩
  · have ea : a = (A : Int) := by omega
    have eb : b = -(B : Int) := by omega
    simp only [decide_eq_false ha, decide_eq_true hbn, ne_eq, reduceCtorEq, not_false_iff, true_and, bne_iff_ne, if_true, Bool.false_eq_true, if_false]
    by_cases h0 : 0 < r
    · simp only [if_pos h0, eBr, eq1]
      rw [eBr] at n2
      exact ⟨by rw [ea, eb]; exact c6, by omega, by rw [eb, Int.neg_mul_neg]; exact n2⟩
    · have hr0 : r = 0 := by omega
      subst hr0
      simp only [if_neg h0]
      exact ⟨by rw [ea, eb]; simpa using c4, by omega, by rw [eb]; simp⟩
  · have ea : a = (A : Int) := by omega
    have eb : b = (B : Int) := by omega
    simp only [decide_eq_false ha, decide_eq_false hbn, ne_eq, not_true, false_and, if_false, bne_self_eq_false, Bool.false_eq_true, if_true]
    refine ⟨by rw [ea, eb]; exact c1, by omega, by rw [eb]; exact n1⟩
end Go.Proofs.YtehgeoipbgpocaaGreatDoor.I
