/- minimize.Reduce. -/
import Derived.Test.YtlnedapimmabdaaGreatDoorVr
namespace Go.Proofs.YtlnedapimmabdaaGreatDoor
set_option linter.unusedVariables false
set_option linter.unusedSimpArgs false
open Go.RowKit Go.Maps
attribute [local go_sem low] Bel.cell Bel.frozen alloc_cell alloc_frozen

set_option maxRecDepth 100000 in
set_option maxHeartbeats 12800000 in
theorem Reduce_ok (R : Fn3 → Dg3 → Prop) (K : List Nat) (G : List Gt) (O : List Nat) (v : Nat) (ga oa : Option Addr) (gc oc : Nat) (w : World) (hok : okL v G) (hg : InGt (fun b => b < w.heap.size) w ga (G.map gz)) (ho : InS (fun b => b < w.heap.size) w oa (intsN O)) (hO : ∀ o ∈ O, o < G.length) (hl : G.length ≤ 50000) (hol : O.length ≤ 1000000) (hoc : O.length ≤ oc) (hoc2 : oc ≤ 9223372036854775807) (hil : ∀ g ∈ G, g.2.2.length ≤ 17592186044416) (hbe : bErr v [((G, O), ga, gc, oa, oc)] = 0) (hv : v ≤ 100000000) (hT : Tab w) (hD : DgNet R (cleanG (G, O)).1 (reachG (cleanG (G, O)).1 (cleanG (G, O)).2)) (hK : KOk R (cleanG (G, O)).1 K) :
    Calls Tryz.prog 16 #[nV ga G.length gc oa O.length oc, .int .i64 (v : Int)] w (RetNe (cleanG (joinN K (cleanG (G, O)))) w) := by
  have hz : nErr (G.map gz) (intsN O) (v : Int) = 0 := nErr_of (n := (G, O)) ⟨hok, hO⟩ hl
  have CK := fun w' (hb : Below w.heap.size w w') => check_any (G.map gz) (intsN O) v _ ga oa gc oc w' (hg.of hb) (ho.of hb) (by rw [List.length_map]; omega) (gz_ins hil) (by rw [show (intsN O).length = O.length by simp [intsN]]; omega)
  have HB := fun w' (hb : Below w.heap.size w w') (T : Nat) (hr : w'.heap[T]? = some (.cells #[.slice ga G.length gc, .slice oa O.length oc] 25 (0, 0))) => bounded_any v [((G, O), ga, gc, oa, oc)] (some ⟨T, 0, none⟩) 1 v w' (fun x hx => by rw [List.mem_singleton.1 hx]; exact (nwok_arg hok hO hg ho hl hol hoc hoc2 hil).of hb) (inNs_one hr) (by simp)
  rw [hz, List.length_map] at CK
  rw [show (intsN O).length = O.length by simp [intsN]] at CK
  have CL := fun w' (hb : Below w.heap.size w w') => clean_any G O v _ _ ga oa gc oc w' hok (hg.of hb) (ho.of hb) hO hl hol hil hv (hT.of hb)
  have hcok := (cleanG_ok (n := (G, O)) ⟨hok, hO⟩)
  have hccl := cleanG_clean (n := (G, O)) ⟨hok, hO⟩
  rw [hbe] at HB
  obtain ⟨N, hN⟩ : ∃ N, cleanG (G, O) = N := ⟨_, rfl⟩
  rw [hN] at CL hcok hccl hD hK ⊢
  obtain ⟨n, hn⟩ : ∃ n, G.length = n := ⟨_, rfl⟩
  obtain ⟨m, hm⟩ : ∃ m, O.length = m := ⟨_, rfl⟩
  simp only [hn, hm] at CK HB CL
  unfold nV at CL
  unfold nV
  rw [hn, hm]
  have hb0 : Below w.heap.size w ((w.alloc (.cells #[.slice ga n gc, .slice oa m oc] 25)).alloc (.cells #[.slice none 0 0, .slice none 0 0] 25)) := ((Below.refl _ w).alloc (Nat.le_refl _) _).alloc (by simp) _
  have hnet := obj_in ((Below.refl _ (w.alloc (.cells #[.slice ga n gc, .slice oa m oc] 25))).alloc (Nat.le_refl _) (.cells #[.slice none 0 0, .slice none 0 0] 25 (0, 0))) (World.alloc_heap_new w (.cells #[.slice ga n gc, .slice oa m oc] 25 (0, 0)))
  have HNE := Lib.hid hnet
  have HCK := Lib.hid (CK _ hb0)
  have HBO := Lib.hid HB
  have HB0 := Lib.hid hb0
  have hNl : N.1.length ≤ 50000 := by have := hcok.2.1; dsimp only at this; omega
  have hMl : N.2.length ≤ 1000000 := by have := hcok.2.2.1; dsimp only at this; omega
  have HCL := Lib.hid CL
  have HOKN := Lib.hid hcok.1
  have HCC := Lib.hid hccl
  have HD := Lib.hid hD
  have HK := Lib.hid hK
  have HNL := Lib.hid hNl
  have HML := Lib.hid hMl
  have HT := Lib.hid hT
  have HVL := Lib.hid hv
  clear CK HB CL hb0 hg ho hn hm hol hl hz hok hO hil hoc hoc2 hnet hcok hccl hbe hv hT hD hK hN hNl hMl
  unfold RetNe
  go_enter Tryz.func16, Tryz.ntmps16
  go_wp2_with fail
  refine HCK.out.mono ?_
  rintro _ _ ⟨rfl, x, rfl⟩
  dsimp only
  obtain ⟨n1, n2, -⟩ := box2 (obj_in x.below HNE.out)
  go_wp2_with fail
  have hbx := HB0.out.trans (x.below.mono HB0.out.size)
  have hal : Below x.w.heap.size x.w (x.w.alloc (.cells #[.slice ga n gc, .slice oa m oc] 25)) := (Below.refl _ _).alloc (Nat.le_refl _) _
  have hnx := World.alloc_heap_new x.w (.cells #[.slice ga n gc, .slice oa m oc] 25 (0, 0))
  have hbx2 := hbx.trans (hal.mono hbx.size)
  have hne2 := obj_in hal (obj_in x.below HNE.out)
  have HC2 := Lib.hid (HBO.out _ hbx2 _ hnx)
  have HBX2 := Lib.hid hbx2
  have HNE2 := Lib.hid hne2
  clear hbx hal hnx hbx2 hne2
  refine HC2.out.mono ?_
  rintro _ _ ⟨rfl, y, rfl⟩
  dsimp only
  obtain ⟨m1, m2, -⟩ := box2 (obj_in y.below HNE2.out)
  go_wp2_with fail
  have hby := HBX2.out.trans (y.below.mono HBX2.out.size)
  have hys := y.below.size
  have hrb2 := obj_in y.below (obj_in ((Below.refl _ x.w).alloc (Nat.le_refl _) (.cells #[.slice ga n gc, .slice oa m oc] 25)) (obj_in x.below (World.alloc_heap_new (w.alloc (.cells #[.slice ga n gc, .slice oa m oc] 25)) (.cells #[.slice none 0 0, .slice none 0 0] 25 (0, 0)))))
  rw [World.size_alloc] at hrb2
  have hnb2 := obj_in y.below HNE2.out
  have hxs := x.below.size
  have hyl : w.heap.size + 1 < y.w.heap.size := (Array.getElem?_eq_some_iff.1 hrb2).1
  refine (HCL.out _ hby).mono ?_
  rintro _ W2 ⟨us, g2, c2, ov, hus, rfl, hk, hov, hd1, hd2, hb2⟩
  obtain ⟨oa2, oc2, rfl⟩ := ownV_shape hov
  have hol2 : (intsV (intsN N.2)).length = N.2.length := by simp [intsV, intsN]
  rw [hol2] at hov hd1 hd2 ⊢
  have hb2w := hby.trans (hb2.mono hby.size)
  have hnb3 := obj_in hb2 hnb2
  have hrb3 := obj_in hb2 hrb2
  have hs2 := hb2.size
  have HK2 := Lib.hid hk
  have HOV2 := Lib.hid hov
  have HD1 := Lib.hid hd1
  have HD2 := Lib.hid hd2
  have HB2 := Lib.hid hb2w
  have HUS := Lib.hid hus
  have HNB3 := Lib.hid hnb3
  have HRB3 := Lib.hid hrb3
  obtain ⟨q0, q1, q2, q3⟩ := box2 hnb3
  have hnb4 : (W2.setCell ⟨w.heap.size, 0, none⟩ (.slice g2 us.length c2)).heap[w.heap.size]? = some (.cells #[.slice g2 us.length c2, .slice oa m oc] 25 (0, 0)) := obj_set _ hnb3
  have hnb5 : ((W2.setCell ⟨w.heap.size, 0, none⟩ (.slice g2 us.length c2)).setCell ⟨w.heap.size, 1, none⟩ (.slice oa2 N.2.length oc2)).heap[w.heap.size]? = some (.cells #[.slice g2 us.length c2, .slice oa2 N.2.length oc2] 25 (0, 0)) := obj_set _ hnb4
  obtain ⟨-, p1, -, p3⟩ := box2 hnb4
  obtain ⟨s0, s1, -, -⟩ := box2 hnb5
  have HNB5 := Lib.hid hnb5
  clear hk hov hd1 hd2 hb2w hus hnb3 hrb3 hnb4 hnb5 hby hrb2 hnb2 hb2 n1 n2 m1 m2 hol2
  dsimp only
  go_wp2_with fail
  obtain ⟨B, hB⟩ : ∃ B, y.w.heap.size = B := ⟨_, rfl⟩
  obtain ⟨Z, hZ⟩ : ∃ Z, (W2.setCell ⟨w.heap.size, 0, none⟩ (.slice g2 us.length c2)).setCell ⟨w.heap.size, 1, none⟩ (.slice oa2 N.2.length oc2) = Z := ⟨_, rfl⟩
  have hBw : w.heap.size + 2 ≤ B := by omega
  have hkz : ∀ b, b ≠ w.heap.size → Z.heap[b]? = W2.heap[b]? := fun b hb => by rw [← hZ]; exact (set_heap_ne _ hb).trans (set_heap_ne _ hb)
  have hK2 := HK2.out
  have hOV2 := HOV2.out
  rw [hB] at hK2 hOV2
  have hkZ : OwnK Z B (.slice g2 us.length c2) us := ownK_heap hK2 fun b hb _ => hkz b (by omega)
  have hovZ : OwnV Z B 3 (.slice oa2 N.2.length oc2) (intsV (intsN N.2)) := ownV_heap hOV2 fun g hg => hkz g (by have := (ownV_lt hOV2 hg).1; omega)
  have hbZ : Below w.heap.size w Z := by rw [← hZ]; exact (HB2.out.setCell (p := ⟨w.heap.size, 0, none⟩) (by dsimp only; omega) _).setCell (p := ⟨w.heap.size, 1, none⟩) (by dsimp only; omega) _
  have hnbZ : Z.heap[w.heap.size]? = some (.cells #[.slice g2 us.length c2, .slice oa2 N.2.length oc2] 25 (0, 0)) := by rw [← hZ]; exact HNB5.out
  have hrbZ : Z.heap[w.heap.size + 1]? = some (.cells #[.slice none 0 0, .slice none 0 0] 25 (0, 0)) := (hkz _ (by omega)).trans HRB3.out
  have hBZ : B ≤ Z.heap.size := by rw [← hZ]; simp; omega
  rw [hZ] at s0 s1 ⊢
  have hn1 : us.length = N.1.length := by have := congrArg List.length HUS.out; simpa using this
  have hing : InGt (fun b => B ≤ b) Z g2 (N.1.map gz) := by
    obtain ⟨a', c', h1, h2⟩ := ownK_in hkZ
    injection h1 with h1 h3 h4
    subst h1
    rw [HUS.out] at h2
    exact h2
  have hinl : (intsN N.2).length = N.2.length := List.length_map ..
  have hino : InS (fun b => B ≤ b) Z oa2 (intsN N.2) := by
    have h := hovZ
    rw [← hinl] at h
    exact (inS_of_ownV h).imp fun _ _ hb => hb.1
  have hNl := HNL.out
  have hMl := HML.out
  have hins : ∀ g ∈ N.1, g.2.2.length ≤ 100000 := fun g hg => by have := irr_ins HOKN.out.1 HCC.out.irr g hg; omega
  have HDG := diagrams_any R N.1 N.2 v _ _ g2 oa2 c2 oc2 Z HD.out HOKN.out.1 hing hino HOKN.out.2 (by omega) (by omega) (fun g hg => by have := hins g hg; omega)
  unfold nV at HDG
  rw [← hn1] at HDG
  obtain ⟨n1, hn1e⟩ : ∃ n1, us.length = n1 := ⟨_, rfl⟩
  obtain ⟨m1, hm1e⟩ : ∃ m1, N.2.length = m1 := ⟨_, rfl⟩
  rw [hn1e, hm1e] at HDG
  rw [hn1e] at hkZ hnbZ hn1
  rw [hm1e] at hovZ hnbZ
  rw [hn1e, hm1e]
  have hn1l : n1 ≤ 50000 := by omega
  have hm1l : m1 ≤ 1000000 := by omega
  have HN1 := Lib.hid hn1
  have HN1E := Lib.hid hn1e
  have HM1E := Lib.hid hm1e
  have HKZ := Lib.hid hkZ
  have HOVZ := Lib.hid hovZ
  have HBZ := Lib.hid hbZ
  have HNBZ := Lib.hid hnbZ
  have HRBZ := Lib.hid hrbZ
  have HDGH := Lib.hid HDG
  have HBE := Lib.hid hB
  have HINS := Lib.hid hins
  clear hZ hkz hK2 hOV2 hkZ hovZ hbZ hnbZ hrbZ hn1 hing hinl hino hNl hMl HDG hn1e hm1e q0 q1 q2 q3 p1 p3 s0 s1 hB hys hxs hyl hs2 hins HK2 HOV2 HB2 HNB3 HRB3 HNB5 HBX2 HNE2 HCK HBO HB0 HCL HC2
  refine HDGH.out.mono ?_
  rintro _ W3 ⟨ds, T3, rfl, hds, hRd, hb3⟩
  rw [← HN1.out] at hds ⊢
  have hnb6 := obj_in hb3 HNBZ.out
  have hZ3 := hb3.size
  have hZw := HBZ.out.size
  have hZn : w.heap.size < Z.heap.size := (Array.getElem?_eq_some_iff.1 HNBZ.out).1
  obtain ⟨n1c, n2c, -⟩ := box2 hnb6
  have HDS := Lib.hid hds
  have HRD := Lib.hid hRd
  have HB3 := Lib.hid hb3
  have HNB6 := Lib.hid hnb6
  clear hds hRd hb3 hnb6
  have hmm := @run_makeMap Tryz.prog
  obtain ⟨i0, hi0, hz0, hz1, hz2⟩ := info_parts Tryz.infoI
  dsimp only
  obtain ⟨V0, hV0⟩ : ∃ V0, V0 = W3.alloc (.map #[] 0) := ⟨_, rfl⟩
  have hv0 : V0.heap[w.heap.size]? = some (.cells #[.slice g2 n1 c2, .slice oa2 m1 oc2] 25 (0, 0)) ∧ V0.heap[W3.heap.size]? = some (.map #[] 0) ∧ V0.heap.size = W3.heap.size + 1 ∧ Below W3.heap.size W3 V0 := by
    rw [hV0]
    exact ⟨obj_alloc _ HNB6.out, World.alloc_heap_new _ _, by simp, (Below.refl _ _).alloc (Nat.le_refl _) _⟩
  have HV0 := Lib.hid hv0
  have HV0E := Lib.hid hV0
  clear hV0 hv0
  go_wp2_with (at_make; refine wpList_make_full _ rfl _ _ 23 rfl (W3.heap.size) 3 i0 (.int .i64 0) 1 Tryz.underlying23 hi0 hz0 hz1 _ _ _ _ (n1) rfl rfl (by first | rfl | omega | (simp <;> omega)) (by first | rfl | omega | (simp <;> omega)) (by rw [hz2] <;> omega) (by unfold maxLen; omega) (by first | omega | (simp <;> omega)) ?_; intro wM hownM hgrowM; rw [← HV0E.out] at hgrowM; have HOM := Lib.hid hownM; have HGM := Lib.hid hgrowM; have hnet := (hgrowM.block w.heap.size (by have := HV0.out.2.2.1; omega) (by simp)).trans HV0.out.1; obtain ⟨n1m, n2m, -⟩ := box2 hnet; clear hownM hgrowM hnet)
  clear hmm n1c n2c
  have hVs := HV0.out.2.2.1
  have hsz1 : (W3.alloc (.map #[] 0)).heap.size = W3.heap.size + 1 := by simp
  have hkM : ∀ {b : Nat} {o : Obj}, V0.heap[b]? = some o → wM.heap[b]? = some o := fun {b o} h => (HGM.out.block b (Array.getElem?_eq_some_iff.1 h).1 (by simp)).trans h
  have hbM : Below W3.heap.size W3 wM := HV0.out.2.2.2.grown HGM.out (by omega) (fun k e => by cases e)
  have hto0 : ToS wM W3.heap.size (W3.heap.size + 1) n1 n1 [] := by
    refine ⟨?_, Nat.zero_le _⟩
    have := HOM.out
    rw [hsz1, Nat.mul_one, show (Value.int .i64 0).cells = #[Value.int .i64 0] from rfl, toList_madeCells_one] at this
    unfold OwnN natsV
    simpa using this
  have hfm0 : FunM Tryz.prog 9 3 wM W3.heap.size 0 (fun _ => none) := funM_obj0 (hkM HV0.out.2.1)
  have HTO := Lib.hid hto0
  have HFM := Lib.hid hfm0
  have HBM := Lib.hid hbM
  clear hto0 hfm0 hbM hkM hVs hsz1 n1m n2m
  go_loopw [55] (fun iv wr => ∃ (k c : Nat) (m : Value → Option Int), iv = .int .i64 (k : Int) ∧ k ≤ n1 ∧ FunM Tryz.prog 9 3 wr W3.heap.size c m ∧ c ≤ k ∧ MapUp K ds k m ∧ ToS wr W3.heap.size (W3.heap.size + 1) n1 n1 ((List.range k).map (fst1 K)) ∧ Below W3.heap.size W3 wr) (fun iv _ => n1 - (intOf iv).toNat)
  case atStart => exact ⟨0, 0, _, rfl, Nat.zero_le _, HFM.out, Nat.le_refl _, ⟨fun i x h => by omega, fun s z h => by cases h⟩, HTO.out, HBM.out⟩
  case round =>
    rename World => wr
    obtain ⟨k, c, m, rfl, hk, hm, hc, hup, hto, hbr⟩ := hrel
    have HM := Lib.hid hm
    have HUP := Lib.hid hup
    have HTO2 := Lib.hid hto
    have HBR := Lib.hid hbr
    have hwrs := hbr.size
    have hrl : ((List.range k).map (fst1 K)).length = k := by rw [List.length_map, List.length_range]
    have HRL := Lib.hid hrl
    clear hm hup hto hrl
    rcases Nat.lt_or_ge k n1 with hkl | hkl
    · have hd := HDS.out.of hbr
      obtain ⟨x, hx⟩ : ∃ x, ds[k]? = some x := ⟨_, List.getElem?_eq_getElem (by rw [HDS.out.len]; exact hkl)⟩
      obtain ⟨z0, z1, -, -⟩ := hd.at hx
      have hRx := HRD.out k x hx (HCC.out.all k (by rw [← HN1.out]; exact hkl))
      obtain ⟨hzr, hzn⟩ := HK.out.sz _ _ hRx
      have hzl := HD.out.len _ _ hRx
      have hTr : Tab wr := HT.out.of (HBZ.out.trans ((HB3.out.trans (hbr.mono HB3.out.size)).mono HBZ.out.size))
      have HKEY := Lib.hid (key_any x.2.2.1 x.2.2.2 x.1 x.2.1 wr (hd.ind x (List.mem_of_getElem? hx)).1 hzl hzr hzn hTr)
      have hlenk : (diagT x.2.2.1 x.2.2.2).length ≤ maxLen := diagT_len hzr hzn hzl
      have hkk := key_str (P := Tryz.prog) Tryz.underlying9 hlenk
      have HKK := Lib.hid hkk
      have HX := Lib.hid hx
      have HD2 := Lib.hid hd
      obtain ⟨e1, e2⟩ := HTO2.out.at hkl
      have HTOC := Lib.hid (And.intro e1 e2)
      have f0 : decide ((k : Int) < (n1 : Int)) = true := decide_eq_true (by omega)
      have hib : (0 ≤ (k : Int) ∧ (k : Int) < (n1 : Int)) := ⟨by omega, by omega⟩
      clear hd hRx hzr hzn hzl hTr hlenk hkk hx e1 e2
      go_wp2_with fail
      refine HKEY.out.mono ?_
      rintro _ _ ⟨rfl, y5, rfl⟩
      have hmY := HM.out.heap (w' := y5.w) fun o ho => obj_in y5.below ho
      have htY := HTO2.out.heap (y5.below.block _ HTO2.out.lt.2)
      have hbY : Below W3.heap.size W3 y5.w := HBR.out.trans (y5.below.mono hwrs)
      obtain ⟨Y, hY⟩ : ∃ Y, y5.w = Y := ⟨_, rfl⟩
      rw [hY] at hmY htY hbY ⊢
      have hkY := HKK.out
      obtain ⟨t0, t1⟩ := htY.at hkl
      have HMY := Lib.hid hmY
      have HTY := Lib.hid htY
      have HBY := Lib.hid hbY
      have hupl := HUP.out
      have hKO := HK.out
      have hRall : ∀ (i : Nat) (x : DN), ds[i]? = some x → R (fun ρ => vl ρ N.1 i) x.2.2 := fun i x hx => HRD.out i x hx (HCC.out.all i (by have := (List.getElem?_eq_some_iff.1 hx).1; rw [HDS.out.len, HN1.out] at this; exact this))
      have hdl : ds.length = N.1.length := by rw [HDS.out.len, HN1.out]
      have hkl2 : k < N.1.length := by rw [← HN1.out]; exact hkl
      cases hz : m (.string (kB x.2.2)) with
      | some z =>
        obtain ⟨hze, hup2⟩ := MapUp.hit hKO hRall hdl hupl hkl2 HX.out hz
        have hr1 := funM_run_ok (t := 78) (w := Y) (string_keyed Tryz.underlying9) Tryz.underlying78 Tryz.underlying3 (by rfl) hmY hkY
        have hr2 := funM_run (t := 78) (w := Y) (string_keyed Tryz.underlying9) Tryz.underlying78 Tryz.underlying3 (by rfl) hmY hkY
        rw [show Value.string ⟨(diagT x.2.2.1 x.2.2.2).toArray⟩ = .string (kB x.2.2) from rfl, hz] at hr1 hr2
        simp only [Option.getD_some, Option.isSome_some] at hr1 hr2
        rw [show Value.string (kB x.2.2) = .string ⟨(diagT x.2.2.1 x.2.2.2).toArray⟩ from rfl, hze] at hr1 hr2
        obtain ⟨q, hq⟩ : ∃ q, fst1 K k = q := ⟨_, rfl⟩
        rw [hq] at hr1 hr2
        have HUP2 := Lib.hid hup2
        have HQ := Lib.hid hq
        clear hmY htY hbY hkY hupl hKO hRall hdl hz hze hup2 hq hY
        dsimp only
        go_wp2
        go_roundw
        case rel =>
          have hs := HTY.out.set (by rw [HRL.out]; exact hkl) q
          rw [HRL.out] at hs
          refine ⟨k + 1, c, m, by go_num, by omega, HMY.out.heap fun o ho => obj_neD _ (by omega) ho, by omega, HUP2.out, ?_, HBY.out.setCell (p := ⟨W3.heap.size + 1, k, none⟩) (by dsimp only; omega) _⟩
          rw [fst1_snoc, HQ.out]
          exact hs
        case measure => simp [intOf]; omega
      | none =>
        obtain ⟨hfk, hup3⟩ := MapUp.miss hKO hRall hdl hupl hkl2 HX.out hz
        have hr1 := funM_run_ok (t := 78) (w := Y) (string_keyed Tryz.underlying9) Tryz.underlying78 Tryz.underlying3 (by rfl) hmY hkY
        rw [show Value.string ⟨(diagT x.2.2.1 x.2.2.2).toArray⟩ = .string (kB x.2.2) from rfl, hz] at hr1
        simp only [Option.getD_none, Option.isSome_none] at hr1
        rw [show Value.string (kB x.2.2) = .string ⟨(diagT x.2.2.1 x.2.2.2).toArray⟩ from rfl] at hr1
        have HUP3 := Lib.hid hup3
        have HFK := Lib.hid hfk
        clear hmY htY hbY hkY hupl hKO hRall hdl hz hfk hup3 hY t0 t1
        dsimp only
        go_wp2_with (at_mapUpdate; (refine wpList_update_funM _ rfl _ _ _ _ rfl 9 3 (string_keyed Tryz.underlying9) Tryz.underlying78 Tryz.underlying3 W3.heap.size c m rfl HMY.out (by unfold maxLen; omega) (.string ⟨(diagT x.2.2.1 x.2.2.2).toArray⟩) _ rfl HKK.out (k : Int) rfl (wf_i64D ⟨by omega, by omega⟩) ?_; intro w3 m3 hm3 hz3 ho3 hg3; have hr2 := funM_run (t := 78) (w := w3) (string_keyed Tryz.underlying9) Tryz.underlying78 Tryz.underlying3 (by rfl) hm3 HKK.out; rw [hz3] at hr2; simp only [Option.getD_some] at hr2; have hto3 := HTY.out.heap (hg3.block _ HTY.out.lt.2 (by simp)); obtain ⟨t2, t3⟩ := hto3.at hkl; have HM3 := Lib.hid hm3; have HH3 := Lib.hid (And.intro hz3 ho3); have HG3 := Lib.hid hg3; have HT3 := Lib.hid hto3; clear hm3 hz3 ho3 hg3 hto3))
        go_roundw
        case rel =>
          have hs := HT3.out.set (by rw [HRL.out]; exact hkl) k
          rw [HRL.out] at hs
          have hb3' := HBY.out.grown HG3.out HBY.out.size (fun q hq => by injection hq with hq; omega)
          refine ⟨k + 1, c + 1, m3, by go_num, by omega, HM3.out.heap fun o ho => obj_neD _ (by omega) ho, by omega, HUP3.out m3 HH3.out.1 HH3.out.2, ?_, hb3'.setCell (p := ⟨W3.heap.size + 1, k, none⟩) (by dsimp only; omega) _⟩
          rw [fst1_snoc, HFK.out]
          exact hs
        case measure => simp [intOf]; omega
    · have hke : k = n1 := by omega
      have f0 : decide ((k : Int) < (n1 : Int)) = false := decide_eq_false (by omega)
      have hW3 : Below Z.heap.size Z wr := HB3.out.trans (hbr.mono HB3.out.size)
      have hnb7 := obj_in hbr HNB6.out
      have hT : W3.heap.size + 1 < wr.heap.size := HTO2.out.lt.2
      have hrs : Rs W3.heap.size B w.heap.size (w.heap.size + 1) (W3.heap.size + 1) n1 w ((List.range n1).map (fst1 K)) us (.slice g2 n1 c2) (.slice oa2 m1 oc2) (intsN N.2) wr := by
        have h1 := HD1.out
        have h2 := HD2.out
        rw [HM1E.out] at h1 h2
        rw [HN1E.out] at h2
        have htt := HTO2.out
        rw [hke] at htt
        exact ⟨hnb7, obj_in hW3 HRBZ.out, htt, ownK_bel HKZ.out hW3, ownV_heap HOVZ.out fun g hg => hW3.block g (ownV_lt HOVZ.out hg).2, HBZ.out.trans (hW3.mono HBZ.out.size), fun b hb => ⟨h1 b hb, h2 b hb⟩, ⟨fun b hb => by have := (World.ownsRow.lt HKZ.out.1 b hb).2; omega, fun b hb => by have := (ownV_lt HOVZ.out hb).2; omega, fun u hu b hb => by have := (ownV_lt (HKZ.out.2.1 u hu).1 hb).2; omega⟩, by omega, by omega, by omega, by omega⟩
      have HRS := Lib.hid hrs
      obtain ⟨b1, b2, -, -⟩ := box2 hnb7
      obtain ⟨T, hTe⟩ : ∃ T, W3.heap.size + 1 = T := ⟨_, rfl⟩
      rw [hTe] at HRS ⊢
      clear hrs hnb7 hbr hke HTO2 HM HUP HBR HRL hwrs
      go_wp2_with fail
      clear b1 b2 f0
      obtain ⟨num, hnum⟩ : ∃ num, (List.range n1).map (fst1 K) = num := ⟨_, rfl⟩
      rw [hnum] at HRS
      have hnm : ∀ p, p < n1 → num.getD p 0 = fst1 K p := fun p hp => by rw [← hnum]; exact range_getD _ hp
      have HNM := Lib.hid hnm
      have HK2L := Lib.hid HK.out.len
      clear hnum hnm hW3 hT hTe HDS HRD HB3 HNB6 HV0 HV0E HOM HGM HTO HFM HBM HDGH HKZ HOVZ HNBZ HRBZ HD HK hZ3 hZw hZn
      go_loopw [84] (fun iv wr => ∃ (i : Nat) (us' : List UG), iv = .int .i64 (i : Int) ∧ i ≤ n1 ∧ Tr (joF K) us us' i 0 ∧ Rs W3.heap.size B w.heap.size (w.heap.size + 1) T n1 w num us' (.slice g2 n1 c2) (.slice oa2 m1 oc2) (intsN N.2) wr) (fun iv _ => n1 - (intOf iv).toNat)
      case atStart => exact ⟨0, us, rfl, Nat.zero_le _, Tr.start _ _, HRS.out⟩
      case round =>
        rename World => wo
        obtain ⟨i, us', rfl, hi, htr, hrs⟩ := hrel
        have HTR := Lib.hid htr
        have HRS2 := Lib.hid hrs
        obtain ⟨b1, b2, -, -⟩ := box2 hrs.net
        have hos := hrs.bel.size
        clear htr hrs
        rcases Nat.lt_or_ge i n1 with hil | hil
        · obtain ⟨u, hu⟩ : ∃ u, us[i]? = some u := ⟨_, List.getElem?_eq_getElem (by rw [HN1E.out]; exact hil)⟩
          have hu' := HTR.out.at hu
          rw [trL_zero] at hu'
          obtain ⟨⟨uk, ua, uis⟩, uad, uc⟩ := u
          dsimp only at hu'
          obtain ⟨gb, cb, hgv, c0, c1, c2c⟩ := ownK_cell HRS2.out.gts hu'
          injection hgv with hgv hgv2 hgv3
          clear hgv2 hgv3
          subst hgv
          unfold inV at c2c
          dsimp only at c0 c1 c2c
          have f1 : decide ((i : Int) < (n1 : Int)) = true := decide_eq_true (by omega)
          have hib : (0 ≤ (i : Int) ∧ (i : Int) < (n1 : Int)) := ⟨by omega, by omega⟩
          have HU := Lib.hid hu
          obtain ⟨ul, hul⟩ : ∃ ul, uis.length = ul := ⟨_, rfl⟩
          have HUL := Lib.hid hul
          have hull : ul ≤ 100000 := by
            obtain ⟨g, hg, hge⟩ := gz_row HUS.out HU.out
            have h1 := HINS.out g (List.mem_of_getElem? hg)
            have h2 := congrArg (fun x : GZ => x.2.2.length) hge
            simp only [gz, List.length_map] at h2
            omega
          rw [hul] at c2c
          clear hu hu' hul
          go_wp2_with fail
          clear b1 b2 c0 c1 c2c f1 hib
          go_loopw [94] (fun iv wr => ∃ (j : Nat) (us2 : List UG), iv = .int .i64 (j : Int) ∧ j ≤ ul ∧ Tr (joF K) us us2 i j ∧ Rs W3.heap.size B w.heap.size (w.heap.size + 1) T n1 w num us2 (.slice (some ⟨gb, 0, none⟩) n1 c2) (.slice oa2 m1 oc2) (intsN N.2) wr) (fun iv _ => ul - (intOf iv).toNat)
          case atStart => exact ⟨0, us', rfl, Nat.zero_le _, HTR.out, HRS2.out⟩
          case round =>
            rename World => wi
            obtain ⟨j, us2, rfl, hj, htr2, hrs2⟩ := hrel
            rcases Nat.lt_or_ge j ul with hjl | hjl
            · have hu2 := htr2.at HU.out
              dsimp only at hu2
              obtain ⟨gb', cb', hgv, e0, e1, e2⟩ := ownK_cell hrs2.gts hu2
              injection hgv with hgv hgv2 hgv3
              clear hgv2 hgv3
              injection hgv with hgv
              injection hgv with hgv hgv2 hgv3
              clear hgv2 hgv3
              subst hgv
              unfold inV at e2
              dsimp only at e2
              rw [trL_len, HUL.out] at e2
              have hown := (hrs2.gts.2.1 _ (List.mem_of_getElem? hu2)).1
              unfold inV at hown
              dsimp only at hown
              rw [trL_len, HUL.out] at hown
              obtain ⟨gi, hgi⟩ := ownV_addr hown (by rw [trL_len, HUL.out]; omega)
              subst hgi
              obtain ⟨x, hx⟩ : ∃ x, uis[j]? = some x := ⟨_, List.getElem?_eq_getElem (by rw [HUL.out]; exact hjl)⟩
              obtain ⟨p, hp, hpi⟩ := gz_in HOKN.out.1 HUS.out HU.out hx
              subst hp
              obtain ⟨v0, v1⟩ := ownV_cellsI hown (trL_at hx)
              have hpn : p < n1 := by omega
              obtain ⟨t0, -⟩ := hrs2.tos.at hpn
              rw [HNM.out p hpn] at t0
              obtain ⟨d1, d2, -, -⟩ := box2 hrs2.net
              obtain ⟨q, hq⟩ : ∃ q, fst1 K p = q := ⟨_, rfl⟩
              rw [hq] at t0
              have HQ := Lib.hid hq
              have HX := Lib.hid hx
              have HU2 := Lib.hid hu2
              have HTR3 := Lib.hid htr2
              have HRS3 := Lib.hid hrs2
              have f2 : decide ((j : Int) < (ul : Int)) = true := decide_eq_true (by omega)
              have hib : (0 ≤ (i : Int) ∧ (i : Int) < (n1 : Int)) := ⟨by omega, by omega⟩
              have hib2 : (0 ≤ (j : Int) ∧ (j : Int) < (ul : Int)) := ⟨by omega, by omega⟩
              have hib3 : (0 ≤ (p : Int) ∧ (p : Int) < (n1 : Int)) := ⟨by omega, by omega⟩
              clear hown hx hu2 htr2 hrs2 hq e0 e1 d2
              go_wp2_with fail
              go_region
              go_wp2
              go_roundw
              case rel =>
                have hs := HRS3.out.setIn HU2.out (show inV _ = .slice (some ⟨gi, 0, none⟩) _ _ from rfl) j (q : Int)
                have ht := HTR3.out.set HU.out HX.out
                rw [show joF K ((p : Nat) : Int) = (q : Int) by unfold joF; rw [Int.toNat_natCast, HQ.out]] at ht
                exact ⟨j + 1, _, by go_num, by omega, ht, hs.of ((Below.refl _ _).drew)⟩
              case measure => simp [intOf]; omega
            · have hke : j = ul := by omega
              have f2 : decide ((j : Int) < (ul : Int)) = false := decide_eq_false (by omega)
              have HTR3 := Lib.hid htr2
              have HRS3 := Lib.hid hrs2
              have HKE := Lib.hid hke
              clear htr2 hrs2 hke
              go_wp2
              refine ⟨⟨i + 1, us2, by go_num, by omega, ?_, HRS3.out⟩, by simp [intOf]; omega⟩
              have h := HTR3.out
              rw [HKE.out, ← HUL.out] at h
              exact h.next HU.out
        · have hke : i = n1 := by omega
          have f1 : decide ((i : Int) < (n1 : Int)) = false := decide_eq_false (by omega)
          have htf : us'.map (·.1) = (joinN K N).1.map gz := by
            have h := HTR.out
            rw [hke, ← HN1E.out] at h
            rw [h.done, HUS.out, join_gz]
          have HTF := Lib.hid htf
          clear hke htf
          go_wp2_with fail
          clear b1 b2 f1
          go_loopw [116] (fun iv wr => ∃ j : Nat, iv = .int .i64 (j : Int) ∧ j ≤ m1 ∧ Rs W3.heap.size B w.heap.size (w.heap.size + 1) T n1 w num us' (.slice g2 n1 c2) (.slice oa2 m1 oc2) (trL (joF K) (intsN N.2) j) wr) (fun iv _ => m1 - (intOf iv).toNat)
          case atStart => exact ⟨0, rfl, Nat.zero_le _, by rw [trL_zero]; exact HRS2.out⟩
          case round =>
            rename World => wi
            obtain ⟨j, rfl, hj, hrs2⟩ := hrel
            have hinl : (intsN N.2).length = m1 := by rw [← HM1E.out]; exact List.length_map ..
            rcases Nat.lt_or_ge j m1 with hjl | hjl
            · have hown := hrs2.ous
              obtain ⟨gi, hgi⟩ := ownV_addr hown (by rw [trL_len, hinl]; omega)
              subst hgi
              obtain ⟨p, hp⟩ : ∃ p, N.2[j]? = some p := ⟨_, List.getElem?_eq_getElem (by rw [HM1E.out]; exact hjl)⟩
              have hx : (intsN N.2)[j]? = some (p : Int) := by unfold intsN; rw [List.getElem?_map, hp]; rfl
              have hpn : p < n1 := by rw [HN1.out]; exact HOKN.out.2 p (List.mem_of_getElem? hp)
              obtain ⟨v0, v1⟩ := ownV_cellsI hown (trL_at hx)
              obtain ⟨t0, -⟩ := hrs2.tos.at hpn
              rw [HNM.out p hpn] at t0
              obtain ⟨d1, d2, -, -⟩ := box2 hrs2.net
              obtain ⟨q, hq⟩ : ∃ q, fst1 K p = q := ⟨_, rfl⟩
              rw [hq] at t0
              have HQ := Lib.hid hq
              have HX := Lib.hid hx
              have HRS3 := Lib.hid hrs2
              have f2 : decide ((j : Int) < (m1 : Int)) = true := decide_eq_true (by omega)
              have hib2 : (0 ≤ (j : Int) ∧ (j : Int) < (m1 : Int)) := ⟨by omega, by omega⟩
              have hib3 : (0 ≤ (p : Int) ∧ (p : Int) < (n1 : Int)) := ⟨by omega, by omega⟩
              clear hown hx hp hrs2 hq hinl d1
              go_wp2_with fail
              go_region
              go_wp2
              go_roundw
              case rel =>
                have hs := HRS3.out.setOut (show Value.slice (some ⟨gi, 0, none⟩) m1 oc2 = .slice (some ⟨gi, 0, none⟩) _ _ from rfl) j (q : Int)
                rw [show (q : Int) = joF K ((p : Nat) : Int) by unfold joF; rw [Int.toNat_natCast, HQ.out], trL_set HX.out] at hs
                rw [show (q : Int) = joF K ((p : Nat) : Int) by unfold joF; rw [Int.toNat_natCast, HQ.out]]
                exact ⟨j + 1, by go_num, by omega, hs.of ((Below.refl _ _).drew)⟩
              case measure => simp [intOf]; omega
            · have hke : j = m1 := by omega
              have f2 : decide ((j : Int) < (m1 : Int)) = false := decide_eq_false (by omega)
              rw [hke, ← hinl, trL_all, join_out] at hrs2
              rw [hinl] at hrs2
              obtain ⟨d1, d2, -, -⟩ := box2 hrs2.net
              have hjk := joinN_ok (t := K) HK2L.out HOKN.out
              have hjl1 : (joinN K N).1.length = n1 := by rw [joinN_len, HN1.out]
              have hjl2 : (joinN K N).2.length = m1 := by unfold joinN; rw [List.length_map, HM1E.out]
              have hing : InGt (fun _ => True) wi g2 ((joinN K N).1.map gz) := by
                obtain ⟨a', c', h1, h2⟩ := ownK_in hrs2.gts
                injection h1 with h1 h3 h4
                subst h1
                rw [HTF.out] at h2
                exact h2.imp fun _ _ _ => trivial
              have hino : InS (fun _ => True) wi oa2 (intsN (joinN K N).2) := by
                have h := hrs2.ous
                rw [show m1 = (intsN (joinN K N).2).length by rw [show (intsN (joinN K N).2).length = (joinN K N).2.length from List.length_map .., hjl2]] at h
                exact (inS_of_ownV h).imp fun _ _ _ => trivial
              have hTi : Tab wi := HT.out.of hrs2.bel
              have hinsJ : ∀ g ∈ (joinN K N).1, g.2.2.length ≤ 17592186044416 := fun g hg => by
                unfold joinN at hg
                obtain ⟨y, hy, rfl⟩ := List.mem_map.1 hg
                have := HINS.out y hy
                dsimp only
                rw [List.length_map]
                omega
              have hv2 := HVL.out
              have HCL2 := clean_any (joinN K N).1 (joinN K N).2 v _ _ g2 oa2 c2 oc2 wi hjk.1 hing hino hjk.2 (by omega) (by omega) hinsJ hv2 hTi
              rw [show (((joinN K N).1, (joinN K N).2) : Nt) = joinN K N from rfl] at HCL2
              rw [hjl1, hjl2] at HCL2
              unfold nV at HCL2
              have HCLH := Lib.hid HCL2
              have HRS3 := Lib.hid hrs2
              have hws := hrs2.bel.size
              have hrl : w.heap.size + 1 < wi.heap.size := (Array.getElem?_eq_some_iff.1 hrs2.res).1
              clear hjk hing hino hTi hinsJ hv2 HCL2 hke hrs2 hinl hjl1 hjl2
              go_wp2_with fail
              refine HCLH.out.mono ?_
              rintro _ W5 ⟨us5, g5, c5, _, hus5, rfl, hk5, hv5, hd5, he5, hb5⟩
              obtain ⟨oa5, ol5, oc5, rfl⟩ := ownV_is hv5
              obtain ⟨rb, hrb⟩ : ∃ rb, w.heap.size + 1 = rb := ⟨_, rfl⟩
              have hob2 := obj_in hb5 HRS3.out.res
              rw [hrb] at hob2 hrl ⊢
              obtain ⟨q0, q1, q2, q3⟩ := box2 hob2
              have ho3 : (W5.setCell ⟨rb, 0, none⟩ (.slice g5 us5.length c5)).heap[rb]? = some (.cells #[.slice g5 us5.length c5, .slice none 0 0] 25 (0, 0)) := obj_set _ hob2
              have ho4 : ((W5.setCell ⟨rb, 0, none⟩ (.slice g5 us5.length c5)).setCell ⟨rb, 1, none⟩ (.slice oa5 ol5 oc5)).heap[rb]? = some (.cells #[.slice g5 us5.length c5, .slice oa5 ol5 oc5] 25 (0, 0)) := obj_set _ ho3
              obtain ⟨-, p1, -, p3⟩ := box2 ho3
              obtain ⟨r0, r1, -, -⟩ := box2 ho4
              have HK5 := Lib.hid hk5
              have HV5 := Lib.hid hv5
              have HD5 := Lib.hid hd5
              have HE5 := Lib.hid he5
              have HB5 := Lib.hid hb5
              have HRB := Lib.hid hrb
              clear hk5 hv5 hd5 he5 hb5 hrb hob2 ho3 ho4 d1 d2
              dsimp only
              go_wp2_with fail
              refine bodyPost_ret (v := .tuple #[.agg #[.slice g5 us5.length c5, .slice oa5 ol5 oc5], .int .i64 0]) ?_ (by rfl) ?_
              · simp [results, Tryz.results16, go_sem, r0, r1]
              · have hr := HRB.out
                have hkk : ∀ b, wi.heap.size ≤ b → ((W5.setCell ⟨rb, 0, none⟩ (.slice g5 us5.length c5)).setCell ⟨rb, 1, none⟩ (.slice oa5 ol5 oc5)).heap[b]? = W5.heap[b]? := fun b hb => (set_heap_ne _ (by omega)).trans (set_heap_ne _ (by omega))
                exact ⟨us5, g5, c5, _, hus5, rfl, ownK_lo (ownK_heap HK5.out fun b hb _ => hkk b hb) hws, ownV_mono (ownV_heap HV5.out fun g hg => hkk g (ownV_lt HV5.out hg).1) hws, HD5.out, HE5.out, ((HRS3.out.bel.trans (HB5.out.mono hws)).setCell (p := ⟨rb, 0, none⟩) (by dsimp only; omega) _).setCell (p := ⟨rb, 1, none⟩) (by dsimp only; omega) _⟩
end Go.Proofs.YtlnedapimmabdaaGreatDoor
