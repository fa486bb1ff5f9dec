/- minimize.packed. The law's clean. -/
import Derived.Test.YtlnedapimmabdaaGreatDoorWs
namespace Go.Proofs.YtlnedapimmabdaaGreatDoor
set_option linter.unusedVariables false
set_option linter.unusedSimpArgs false
open Go.RowKit
attribute [local go_sem low] Bel.cell Bel.frozen alloc_cell alloc_frozen
attribute [local go_sem] calmOp chainOp yieldsC grows

set_option maxRecDepth 100000 in
set_option maxHeartbeats 12800000 in
theorem packed_any (G : List Gt) (O : List Nat) (v : Nat) (P Q : Nat → Prop) (ga oa : Option Addr) (gc oc : Nat) (w : World) (hok : okL v G) (hg : InGt P w ga (G.map gz)) (ho : InS Q w oa (intsN O)) (hO : ∀ o ∈ O, o < G.length) (hl : G.length ≤ 1000000) (hol : O.length ≤ 100000000) (hil : ∀ g ∈ G, g.2.2.length ≤ 17592186044416) :
    Calls Tryz.prog 59 #[nV ga G.length gc oa O.length oc] w (RetNt (packG (G, O)) w) := by
  obtain ⟨i0, hi0, hz0, hz1, hz2⟩ := info_parts Tryz.infoI
  obtain ⟨j0, hj0, hy0, hy1, hy2⟩ := info_parts Tryz.infoG
  have HJ := Lib.hid (And.intro hj0 (And.intro hy0 (And.intro hy1 hy2)))
  clear hj0 hy0 hy1 hy2
  have HRE := Lib.hid (fun w' (hb : Below w.heap.size w w') => reached_any G O v P Q ga oa oa gc oc O.length oc w' hok (hg.of hb) (ho.of hb) hO hl hol hil)
  have HG := Lib.hid hg
  have HOK := Lib.hid hok
  have HOI := Lib.hid ho
  have HO := Lib.hid hO
  have HIL := Lib.hid hil
  obtain ⟨on, hon⟩ : ∃ on, reachG G O = on := ⟨_, rfl⟩
  have HPK := Lib.hid (show packG (G, O) = ((packF on G ([], [])).1, O.map fun o => (packF on G ([], [])).2.getD o 0) from by unfold packG; dsimp only; rw [hon])
  rw [hon] at HRE
  obtain ⟨n, hn⟩ : ∃ n, G.length = n := ⟨_, rfl⟩
  have HN := Lib.hid hn
  rw [hn] at hl HRE ⊢
  unfold nV at HRE
  clear hok hg ho hO hil hn hon
  unfold nV
  go_enter Tryz.func59, Tryz.ntmps59
  go_wp2_with (at_make; refine wpList_make_full _ rfl _ _ 23 rfl (w.heap.size + 1 + 1 + 1) 3 i0 (.int .i64 0) 1 Tryz.underlying23 hi0 hz0 hz1 _ _ _ _ (n) rfl rfl (by first | rfl | omega | (simp <;> omega)) (by first | rfl | omega | (simp <;> omega)) (by rw [hz2] <;> omega) (by unfold maxLen; omega) (by first | omega | (simp <;> omega)) ?_; intro wM hownM hgrowM; have HOM := Lib.hid hownM; have HGM := Lib.hid hgrowM; have hnet := (hgrowM.block w.heap.size (by simp; omega) (by simp)).trans (obj_alloc _ (obj_alloc _ (World.alloc_heap_new w (.cells #[.slice ga n gc, .slice oa O.length oc] 25 (0, 0))))); obtain ⟨n1, n2, -⟩ := box2 hnet; clear hownM hgrowM hnet)
  have hbM : Below w.heap.size w wM := (show Below w.heap.size w _ by (repeat' (first | (with_reducible first | apply Zl1 | apply Zl2 | apply Zl3 | apply Zl4 | apply Zl5 | apply Zl6 | apply Zl7 | apply Zl8 | apply Zl9 | apply Zla | apply Zlb | apply Zlc) | (dsimp only; with_reducible first | apply Zl8 | apply Zl2 | apply Zld) | with_reducible assumption | omega | (dsimp only; omega)))).grown HGM.out (by simp; omega) (fun k e => by cases e)
  refine (HRE.out _ hbM).mono ?_
  rintro _ W1 ⟨gb, cb, rfl, hob, hb1⟩
  rw [bsOf_len]
  have hTl := World.ownsRow.lt HOM.out (w.heap.size + 1 + 1 + 1) (by simp [Value.ownBlock])
  have hkM : ∀ {b : Nat} {o : Obj}, (((w.alloc (.cells #[.slice ga n gc, .slice oa O.length oc] 25)).alloc (.cells #[.slice none 0 0, .slice none 0 0] 25)).alloc (.cells #[.slice none 0 0, .slice none 0 0] 25)).heap[b]? = some o → W1.heap[b]? = some o := fun {b o} h => obj_in hb1 ((HGM.out.block b (Array.getElem?_eq_some_iff.1 h).1 (by simp)).trans h)
  obtain ⟨ocur, o3⟩ := ownB_obj hob
  have hgb := ownB_lt hob
  have hb1s := hb1.size
  have hstart : Pk w w.heap.size (w.heap.size + 1 + 1 + 1) n n (w.heap.size + 1 + 1) (w.heap.size + 1) gb W1.heap.size #[.slice ga n gc, .slice oa O.length oc] (.cells ocur 4 (0, 0)) (packF on (G.take 0) ([], [])).2 [] (.slice none 0 0) W1 := by
    refine ⟨hkM (obj_alloc _ (obj_alloc _ (World.alloc_heap_new w _))), ⟨?_, Nat.zero_le _⟩, o3, hkM (newAt2 w _ _ _), hkM (obj_alloc _ (alloc2_new w _ _)), ownK_nil _ _, hbM.trans (hb1.mono hbM.size), Nat.le_refl _, ⟨by omega, by omega, by omega, by omega⟩, ⟨by omega, by omega, by omega, by omega, by omega⟩, ⟨by omega, by omega, by omega, by omega, by omega, by omega, by omega⟩⟩
    refine ownN_le (b := w.heap.size + 1 + 1 + 1) ?_ (by omega)
    refine ownsRow_heap (w := wM) ?_ (fun g hg => hb1.block g (by have : w.heap.size + 1 + 1 + 1 = g := (by simpa [Value.ownBlock] using hg); omega))
    have := HOM.out
    rw [Nat.mul_one, show (Value.int .i64 0).cells = #[Value.int .i64 0] from rfl, toList_madeCells_one] at this
    unfold natsV
    simpa [packF] using this
  have HOB := Lib.hid hob
  have HO3 := Lib.hid o3
  clear n1 n2
  obtain ⟨n1, n2, -⟩ := box2 hstart.net
  clear hob hb1 o3 hkM hbM hTl hb1s
  dsimp only
  have HST := Lib.hid hstart
  clear hstart
  go_wp2_with fail
  clear n1 n2
  go_loopw [21] (fun iv wr => ∃ (k : Nat) (us : List UG) (gv : Value), iv = .int .i64 (k : Int) ∧ k ≤ n ∧ us.map (·.1) = (packF on (G.take k) ([], [])).1.map gz ∧ Pk w w.heap.size (w.heap.size + 1 + 1 + 1) n n (w.heap.size + 1 + 1) (w.heap.size + 1) gb W1.heap.size #[.slice ga n gc, .slice oa O.length oc] (.cells ocur 4 (0, 0)) (packF on (G.take k) ([], [])).2 us gv wr) (fun iv _ => n - (intOf iv).toNat)
  case atStart => exact ⟨0, [], _, rfl, Nat.zero_le _, by simp [packF], HST.out⟩
  case round =>
    rename World => wo
    obtain ⟨k, us, gv, rfl, hk, hus, hP⟩ := hrel
    have HP := Lib.hid hP
    have HUS := Lib.hid hus
    obtain ⟨n1, n2, -⟩ := box2 hP.net
    have hnl : (packF on (G.take k) ([], [])).2.length = k := by rw [packF_len, List.length_take, HN.out]; simp; omega
    obtain ⟨num, hnum⟩ : ∃ num, (packF on (G.take k) ([], [])).2 = num := ⟨_, rfl⟩
    obtain ⟨L, hL⟩ : ∃ L, (packF on (G.take k) ([], [])).1 = L := ⟨_, rfl⟩
    rw [hnum] at hnl HP
    rw [hL] at HUS
    have hLk : L.length ≤ k := by
      have := packF_le on (G.take k) ([], [])
      rw [hL, List.length_take] at this
      simp at this
      omega
    have HNL := Lib.hid hnl
    have HPF := Lib.hid (And.intro hnum hL)
    clear hP hus hnl hnum hL
    rcases Nat.lt_or_ge k n with hkl | hkl
    · obtain ⟨gg, hgg⟩ : ∃ gg, G[k]? = some gg := ⟨_, List.getElem?_eq_getElem (by rw [HN.out]; exact hkl)⟩
      have hob := ownsRow_heap HOB.out (w' := wo) (fun g hg => by injection hg with hg; subst hg; exact HP.out.fx.trans HO3.out.symm)
      have e2 := ownB_is hob (bsOf_at hkl)
      obtain ⟨q, hq⟩ : ∃ q, on k = q := ⟨_, rfl⟩
      rw [hq] at e2
      have hpt := packF_take (on := on) hgg
      rw [hq, HPF.out.1, HPF.out.2] at hpt
      have f1 : decide ((k : Int) < (n : Int)) = true := decide_eq_true (by omega)
      have hib : (0 ≤ (k : Int) ∧ (k : Int) < (n : Int)) := ⟨by omega, by omega⟩
      have HPT := Lib.hid hpt
      clear hob hq hpt
      cases q
      · clear hgg
        go_wp2
        go_roundw
        case rel =>
          refine ⟨k + 1, us, gv, by go_num, by omega, ?_, ?_⟩
          · rw [HPT.out]
            exact HUS.out
          · rw [HPT.out]
            exact HP.out.skip (by rw [HNL.out]; exact hkl)
        case measure => simp [intOf]; omega
      · obtain ⟨b2, o2, hadd, hb2, ax, cx, y0, y1, y2, hiy⟩ := (HG.out.of HP.out.bel).at (show (G.map gz)[k]? = some (gz gg) by rw [List.getElem?_map, hgg]; rfl)
        subst hadd
        dsimp only [gz] at y0 y1 y2 hiy
        rw [List.length_map] at y2
        have hogl := HIL.out gg (List.mem_of_getElem? hgg)
        have hins := okG_ins (HOK.out k gg hgg)
        have HI2 := Lib.hid hiy
        have HINS := Lib.hid hins
        clear hgg hiy hins
        go_wp2_with fail
        refine wp_region_plan 14 (.calm 0 (.calm 1 (.calm 2 (.calm 3 (.calm 4 (.calm 5 (.calm 6 (.calm 7 (.calm 8 (.calm 9 (.calm 10 (.calm 11 (.calm 12 (.fork 13 .tail .none)))))))))))))) (by kernel_rfl) (by kernel_rfl) ?_
        simp only [Plan.walk, operAt, List.getElem?_cons_succ, List.getElem?_cons_zero, Option.getD_some, List.drop_succ_cons, List.drop_zero]
        repeat (refine wpX_calm (fun K hK => ?_); go_simp; first | (refine hK _ _ ?_; clear hK K) | (apply Exists.intro; refine ⟨fun _ => ?_, hK _ _ ?_⟩; (fail); clear hK K))
        refine wpX_only (fun K hK => ?_)
        go_simp
        intro x
        refine ⟨(Below.refl _ _).alloc (Nat.le_refl _) _, hK _ _ ?_⟩
        clear hK K
        repeat (refine wpX_calm (fun K hK => ?_); go_simp; first | (refine hK _ _ ?_; clear hK K) | (apply Exists.intro; refine ⟨fun _ => ?_, hK _ _ ?_⟩; (fail); clear hK K))
        refine wpX_tail ?_
        intro z
        have hbox := obj_bel z (World.alloc_heap_new x.w (.cells #[.int .i64 0, .int .i64 0, .slice none 0 0] 45 (0, 0)))
        have hbz : Below wo.heap.size wo z.w := by (repeat' (first | (with_reducible first | apply Zl1 | apply Zl2 | apply Zl3 | apply Zl4 | apply Zl5 | apply Zl6 | apply Zl7 | apply Zl8 | apply Zl9 | apply Zla | apply Zlb | apply Zlc) | (dsimp only; with_reducible first | apply Zl8 | apply Zl2 | apply Zld) | with_reducible assumption | omega | (dsimp only; omega)))
        have hgbx := x.size_le
        have hzs : x.w.heap.size + 1 ≤ z.w.heap.size := by have := z.size_le; simpa using this
        obtain ⟨GB, hGB⟩ : ∃ GB, x.w.heap.size = GB := ⟨_, rfl⟩
        obtain ⟨Z, hZ⟩ : ∃ Z, z.w = Z := ⟨_, rfl⟩
        rw [hGB] at hbox hgbx hzs ⊢
        rw [hZ] at hbox hbz hzs ⊢
        clear hGB hZ
        obtain ⟨q0, q1, q2⟩ := box3f hbox
        obtain ⟨p0, p1, p2⟩ := box3 hbox
        have hset := obj_set3 (.int .i64 (gg.1 : Int)) (.int .i64 (gg.2.1 : Int)) (.slice none 0 0) hbox
        have HBZ := Lib.hid hbz
        have HSET := Lib.hid hset
        have m1Z := below_cell hbz _ _ _ n1
        have m2Z := below_cell hbz _ _ _ y2
        have hwo := HP.out.bel.size
        have hneA : GB ≠ w.heap.size := by have := HP.out.sz; have := HP.out.hi; omega
        have hneA' : w.heap.size ≠ GB := Ne.symm hneA
        have hneB : GB ≠ b2 := by omega
        have hneB' : b2 ≠ GB := Ne.symm hneB
        clear hbox hset hbz
        go_wp2_with fail
        clear m1Z m2Z hneA hneA' hneB hneB'
        obtain ⟨w2, hw2⟩ : ∃ w2, ((Z.setCell ⟨GB, 0, none⟩ (.int .i64 (gg.1 : Int))).setCell ⟨GB, 1, none⟩ (.int .i64 (gg.2.1 : Int))).setCell ⟨GB, 2, none⟩ (.slice none 0 0) = w2 := ⟨_, rfl⟩
        have hset2 := HSET.out
        have hb2w : Below wo.heap.size wo w2 := by rw [← hw2]; exact ((HBZ.out.setCell (p := ⟨GB, 0, none⟩) (by simp; omega) _).setCell (p := ⟨GB, 1, none⟩) (by simp; omega) _).setCell (p := ⟨GB, 2, none⟩) (by simp; omega) _
        rw [hw2] at hset2 ⊢
        have hgb2 : GB < w2.heap.size := (Array.getElem?_eq_some_iff.1 hset2).1
        have HSET2 := Lib.hid hset2
        have HB2W := Lib.hid hb2w
        have hP := HP.out
        have hwb := hP.sz
        have hlo := hP.lo
        have hhi := hP.hi
        clear hw2 HSET HBZ q0 q1 q2 p0 p1 p2 hset2 hb2w hP
        have HN1 := Lib.hid n1
        have HY2 := Lib.hid y2
        clear n1 n2 y0 y1 y2
        go_loopw [48] (fun iv wi => ∃ (j : Nat) (vv : Value), iv = .int .i64 (j : Int) ∧ j ≤ gg.2.2.length ∧ OwnV wi w2.heap.size 3 vv (intsV (intsN ((gg.2.2.take j).map fun i => num.getD i 0))) ∧ wi.heap[GB]? = some (.cells #[.int .i64 (gg.1 : Int), .int .i64 (gg.2.1 : Int), vv] 45 (0, 0)) ∧ Below wo.heap.size wo wi ∧ w2.heap.size ≤ wi.heap.size) (fun iv _ => gg.2.2.length - (intOf iv).toNat)
        case atStart => exact ⟨0, _, rfl, Nat.zero_le _, ownV_nil _ _ _, HSET2.out, HB2W.out, Nat.le_refl _⟩
        case round =>
          rename World => wi
          obtain ⟨j, vv, rfl, hj, hov, hbx, hbi, hszi⟩ := hrel
          have hlj : (intsV (intsN ((gg.2.2.take j).map fun i => num.getD i 0))).length = j := by
            unfold intsV intsN
            rw [List.length_map, List.length_map, List.length_map, List.length_take]
            omega
          obtain ⟨va, vc, hvv⟩ := ownV_shape hov
          rw [hlj] at hvv
          subst hvv
          have HOV := Lib.hid hov
          have HBX := Lib.hid hbx
          have HBI := Lib.hid hbi
          have HLJ := Lib.hid hlj
          have m1 := below_cell hbi _ _ _ HN1.out
          have m2 := below_cell hbi _ _ _ HY2.out
          obtain ⟨g0, g1, g2⟩ := box3 hbx
          obtain ⟨k0, k1, k2⟩ := box3f hbx
          clear hov hbx hlj
          rcases Nat.lt_or_ge j gg.2.2.length with hjl | hjl
          · obtain ⟨y, hy⟩ := some_at hjl
            have hyn := Nat.lt_trans (HINS.out y (List.mem_of_getElem? hy)) hkl
            obtain ⟨b3, o3, hadd, hb3, z0⟩ := (HI2.out.of hbi).at (show (gg.2.2.map fun k : Nat => (k : Int))[j]? = some (y : Int) by rw [List.getElem?_map, hy]; rfl)
            subst hadd
            have t0 := below_cell hbi _ _ _ (HP.out.to.at hyn).1
            obtain ⟨ty, hty⟩ : ∃ ty, num.getD y 0 = ty := ⟨_, rfl⟩
            rw [hty] at t0
            have HTK := Lib.hid (show intsN ((gg.2.2.take (j + 1)).map fun i => num.getD i 0) = intsN ((gg.2.2.take j).map fun i => num.getD i 0) ++ [(ty : Int)] from by
              rw [take_snoc hy, List.map_append]
              unfold intsN
              rw [List.map_append, List.map_singleton, List.map_singleton, hty])
            have f2 : decide ((j : Int) < (gg.2.2.length : Int)) = true := decide_eq_true (by omega)
            have hib2 : (0 ≤ (j : Int) ∧ (j : Int) < (gg.2.2.length : Int)) := ⟨by omega, by omega⟩
            have hib3 : (0 ≤ (y : Int) ∧ (y : Int) < (n : Int)) := ⟨by omega, by omega⟩
            clear hy hty
            go_wp2_with fail
            refine wp_region_plan 7 (.calm 0 (.calm 1 (.calm 2 (.calm 3 (.calm 4 (.calm 5 (.fork 6 .tail .none))))))) (by kernel_rfl) (by kernel_rfl) ?_
            simp only [Plan.walk, operAt, List.getElem?_cons_succ, List.getElem?_cons_zero, Option.getD_some, List.drop_succ_cons, List.drop_zero]
            repeat (refine wpX_calm (fun K hK => ?_); go_simp; first | (refine hK _ _ ?_; clear hK K) | (apply Exists.intro; refine ⟨fun _ => ?_, hK _ _ ?_⟩; (fail); clear hK K))
            refine wpX_only (fun K hK => ?_)
            go_simp
            intro x
            refine ⟨(Below.refl _ _).alloc (Nat.le_refl _) _, hK _ _ ?_⟩
            clear hK K
            repeat (refine wpX_calm (fun K hK => ?_); go_simp; first | (refine hK _ _ ?_; clear hK K) | (apply Exists.intro; refine ⟨fun _ => ?_, hK _ _ ?_⟩; (fail); clear hK K))
            refine wpX_tail ?_
            intro z
            have hsrc := obj_bel z (World.alloc_heap_new x.w (.cells #[.int .i64 (ty : Int)] 3 (0, 0)))
            have hbz : Below wi.heap.size wi z.w := by (repeat' (first | (with_reducible first | apply Zl1 | apply Zl2 | apply Zl3 | apply Zl4 | apply Zl5 | apply Zl6 | apply Zl7 | apply Zl8 | apply Zl9 | apply Zla | apply Zlb | apply Zlc) | (dsimp only; with_reducible first | apply Zl8 | apply Zl2 | apply Zld) | with_reducible assumption | omega | (dsimp only; omega)))
            have HOZ := Lib.hid (show OwnV z.w w2.heap.size 3 (.slice va j vc) (intsV (intsN ((gg.2.2.take j).map fun i => num.getD i 0))) from ownV_heap HOV.out fun g hg => hbz.block g (ownV_lt HOV.out hg).2)
            have HBXz := Lib.hid (obj_in hbz HBX.out)
            have HBZ := Lib.hid hbz
            have HSRC := Lib.hid hsrc
            have hszz := hbz.size
            have HLL := Lib.hid (show (intsN ((gg.2.2.take j).map fun i => num.getD i 0)).length = j from by unfold intsN; rw [List.length_map, List.length_map, List.length_take]; omega)
            clear hsrc hbz g0 g1 g2 k0 k1 k2
            go_wp2_with (at_builtin; refine wpList_appI rfl _ _ 23 rfl i0 Tryz.underlying23 hi0 hz0 hz1 hz2 _ w2.heap.size (.slice va j vc) (intsN ((gg.2.2.take j).map fun i => num.getD i 0)) (ty : Int) x.w.heap.size rfl HOZ.out rfl HSRC.out (by rw [HLL.out]; omega) (by omega) ?_; intro g' c' w1 ho1 hb1 hs1; rw [HLL.out] at ho1 ⊢; have HO1 := Lib.hid ho1; have HB1 := Lib.hid hb1; have hbx1 := obj_below hb1 hgb2 HBXz.out; have HBX1 := Lib.hid hbx1; obtain ⟨g0, g1, g2⟩ := box3 hbx1; obtain ⟨k0, k1, k2⟩ := box3f hbx1; clear ho1 hb1 hbx1)
            go_roundw
            case rel =>
              have hge := (ownV_lt HO1.out (g := g') rfl).1
              refine ⟨j + 1, .slice (some ⟨g', 0, none⟩) (j + 1) c', by go_num, by omega, ?_, ?_, ?_, by simp; omega⟩
              · rw [HTK.out]
                exact ownV_heap HO1.out fun g hg => set_heap_ne _ (by have : g' = g := (by simpa [Value.ownBlock] using hg); omega)
              · have := obj_setD (i := 2) (.slice (some ⟨g', 0, none⟩) (j + 1) c') HBX1.out
                simpa using this
              · exact ((HBI.out.trans (HBZ.out.mono (by omega))).trans (HB1.out.mono (by omega))).setCell (p := ⟨GB, 2, none⟩) (by simp; omega) _
            case measure => simp [intOf]; omega
          · have hke : j = gg.2.2.length := by omega
            subst hke
            have f2 : decide ((gg.2.2.length : Int) < (gg.2.2.length : Int)) = false := decide_eq_false (by omega)
            have hPi := HP.out.of hbi
            have hul : us.length = L.length := by have := congrArg List.length HUS.out; simpa using this
            obtain ⟨gva, gvc, hgv⟩ := ownK_val hPi.gts
            rw [hul] at hgv
            subst hgv
            obtain ⟨c0, c1, c2, c3⟩ := box2 hPi.out
            have hset3 := hPi.set (by rw [HNL.out]; exact hkl) L.length
            rw [HNL.out] at hset3
            have hT := hPi.to.at (k := k) hkl
            have hTs := hPi.to.lt.2
            have hne1 : w.heap.size + 1 + 1 + 1 ≠ w.heap.size + 1 + 1 := hPi.ne.2.2.2.2.2.2
            have hne2 : w.heap.size + 1 + 1 ≠ w.heap.size + 1 + 1 + 1 := Ne.symm hne1
            have hne3 : GB ≠ w.heap.size + 1 + 1 + 1 := by omega
            have hne4 : w.heap.size + 1 + 1 + 1 ≠ GB := Ne.symm hne3
            have hT2 := hT.2
            have hT1 := hT.1
            obtain ⟨d0, d1, d2, d3⟩ := box2 hset3.out
            have HS3 := Lib.hid hset3
            have hk1 : OwnV (wi.setCell ⟨w.heap.size + 1 + 1 + 1, k, none⟩ (.int .i64 (L.length : Int))) w2.heap.size 3 (.slice va gg.2.2.length vc) (intsV (intsN (gg.2.2.map fun i => num.getD i 0))) := by
              have := HOV.out
              rw [List.take_length] at this
              exact ownV_heap this fun g hg => set_heap_ne _ (by have := (ownV_lt this hg).1; omega)
            have HK1 := Lib.hid hk1
            obtain ⟨u, hu⟩ : ∃ u : UG, u = (((gg.1 : Int), (gg.2.1 : Int), intsN (gg.2.2.map fun i => num.getD i 0)), va, vc) := ⟨_, rfl⟩
            have hiv : inV u = .slice va gg.2.2.length vc := by rw [hu, inV]; dsimp only; unfold intsN; rw [List.length_map, List.length_map]
            have hsrc : ((wi.setCell ⟨w.heap.size + 1 + 1 + 1, k, none⟩ (.int .i64 (L.length : Int))).alloc (.cells #[.int .i64 (gg.1 : Int), .int .i64 (gg.2.1 : Int), .slice va gg.2.2.length vc] 45)).heap[wi.heap.size]? = some (.cells #[.int .i64 u.1.1, .int .i64 u.1.2.1, inV u] 45 (0, 0)) := by
              have := World.alloc_heap_new (wi.setCell ⟨w.heap.size + 1 + 1 + 1, k, none⟩ (.int .i64 (L.length : Int))) (.cells #[.int .i64 (gg.1 : Int), .int .i64 (gg.2.1 : Int), .slice va gg.2.2.length vc] 45 (0, 0))
              rw [World.size_setCell] at this
              rw [hiv, hu]
              exact this
            have hal : Below (wi.setCell ⟨w.heap.size + 1 + 1 + 1, k, none⟩ (.int .i64 (L.length : Int))).heap.size (wi.setCell ⟨w.heap.size + 1 + 1 + 1, k, none⟩ (.int .i64 (L.length : Int))) ((wi.setCell ⟨w.heap.size + 1 + 1 + 1, k, none⟩ (.int .i64 (L.length : Int))).alloc (.cells #[.int .i64 (gg.1 : Int), .int .i64 (gg.2.1 : Int), .slice va gg.2.2.length vc] 45)) := (Below.refl _ _).alloc (Nat.le_refl _) _
            have hPa := HS3.out.of hal
            have huV : OwnV ((wi.setCell ⟨w.heap.size + 1 + 1 + 1, k, none⟩ (.int .i64 (L.length : Int))).alloc (.cells #[.int .i64 (gg.1 : Int), .int .i64 (gg.2.1 : Int), .slice va gg.2.2.length vc] 45)) W1.heap.size 3 (inV u) (intsV u.1.2.2) := by
              rw [hiv, hu]
              exact ownV_mono (ownV_alloc HK1.out _) (by omega)
            have hb2v : ∀ b, (inV u).ownBlock = some b → w2.heap.size ≤ b := fun b hb => by rw [hiv] at hb; exact (ownV_lt HK1.out hb).1
            have hgk := HP.out.gts
            have HSRC := Lib.hid hsrc
            have HPA := Lib.hid hPa
            have HUV := Lib.hid huV
            have HUd := Lib.hid (show ∀ b, (inV u).ownBlock = some b → (Value.slice gva L.length gvc).ownBlock ≠ some b from fun b hb e => by have := (World.ownsRow.lt hgk.1 b e).2; have := hb2v b hb; have := HB2W.out.size; omega)
            have HUe := Lib.hid (show ∀ x ∈ us, ∀ b, (inV x).ownBlock = some b → (inV u).ownBlock ≠ some b from fun x hx b hb e => by have := (ownV_lt (hgk.2.1 x hx).1 hb).2; have := hb2v b e; have := HB2W.out.size; omega)
            have HUL := Lib.hid hul
            have HU := Lib.hid hu
            clear hPi hset3 hT hk1 hsrc hal hPa huV hb2v hgk hul hu hiv
            go_wp2_with (at_builtin; refine wpList_appK rfl _ _ 22 rfl j0 Tryz.underlying22 HJ.out.1 HJ.out.2.1 HJ.out.2.2.1 HJ.out.2.2.2 _ W1.heap.size (.slice gva L.length gvc) us u wi.heap.size rfl HPA.out.gts HUV.out HUd.out HUe.out rfl HSRC.out (by rw [HUL.out]; omega) HPA.out.sz ?_; intro g' c' w1 hk1 hb1 hs1; rw [HUL.out] at hk1 ⊢; have HK9 := Lib.hid hk1; have HB9 := Lib.hid hb1; have HS9 := Lib.hid hs1; have ho9 := obj_below hb1 HPA.out.hi.2.2.1 HPA.out.out; obtain ⟨e0, e1, e2, e3⟩ := box2 ho9; clear hk1 hb1 hs1 ho9)
            refine ⟨⟨k + 1, us ++ [u], .slice (some ⟨g', 0, none⟩) (L.length + 1) c', by go_num, by omega, ?_, ?_⟩, by simp [intOf]; omega⟩
            · rw [HPT.out, List.map_append, HUS.out, HU.out]
              simp [gz, intsN]
            · rw [HPT.out]
              exact HPA.out.app HK9.out HB9.out HS9.out
    · have hke : k = n := by omega
      subst hke
      have f1 : decide ((k : Int) < (k : Int)) = false := decide_eq_false (by omega)
      have hst := HP.out.start
      have HSTA := Lib.hid hst
      have hpk2 := HPK.out
      rw [show packF on G ([], []) = packF on (G.take k) ([], []) by rw [← HN.out, List.take_length], HPF.out.1, HPF.out.2] at hpk2
      have HPK2 := Lib.hid hpk2
      have hwos : w.heap.size ≤ wo.heap.size := HP.out.bel.size
      clear hst hpk2 HPK
      go_wp2_with fail
      go_loopw [78] (fun iv wi => ∃ (i : Nat) (ov : Value), iv = .int .i64 (i : Int) ∧ i ≤ O.length ∧ Po w w.heap.size (w.heap.size + 1 + 1 + 1) k k (w.heap.size + 1 + 1) (w.heap.size + 1) wo.heap.size #[.slice ga k gc, .slice oa O.length oc] num us gv ov ((O.take i).map fun o => num.getD o 0) wi) (fun iv _ => O.length - (intOf iv).toNat)
      case atStart => exact ⟨0, _, rfl, Nat.zero_le _, HSTA.out⟩
      case round =>
        rename World => wi
        obtain ⟨i, ov, rfl, hi, hPo⟩ := hrel
        have hll : (intsV (intsN ((O.take i).map fun o => num.getD o 0))).length = i := by
          unfold intsV intsN
          rw [List.length_map, List.length_map, List.length_map, List.length_take]
          omega
        obtain ⟨va, vc, hvv⟩ := ownV_shape hPo.ous
        rw [hll] at hvv
        subst hvv
        have HPO := Lib.hid hPo
        have HLL := Lib.hid (show (intsN ((O.take i).map fun o => num.getD o 0)).length = i from by unfold intsV at hll; rwa [List.length_map] at hll)
        obtain ⟨n1, n2, -⟩ := box2 hPo.net
        obtain ⟨c0, c1, c2, c3⟩ := box2 hPo.out
        have hPw := hPo.bel
        have hsz := hPo.sz
        have hhi := hPo.hi
        clear hll
        rcases Nat.lt_or_ge i O.length with hil | hil
        · obtain ⟨y, hy⟩ := some_at hil
          have hyn := HO.out y (List.mem_of_getElem? hy)
          rw [HN.out] at hyn
          obtain ⟨b3, o3, hadd, hb3, z0⟩ := (HOI.out.of hPw).at (show (intsN O)[i]? = some (y : Int) by unfold intsN; rw [List.getElem?_map, hy]; rfl)
          subst hadd
          have t0 := (hPo.to.at hyn).1
          obtain ⟨ty, hty⟩ : ∃ ty, num.getD y 0 = ty := ⟨_, rfl⟩
          rw [hty] at t0
          have HTK := Lib.hid (show (O.take (i + 1)).map (fun o => num.getD o 0) = ((O.take i).map fun o => num.getD o 0) ++ [ty] from by rw [take_snoc hy, List.map_append, List.map_singleton, hty])
          have f2 : decide ((i : Int) < (O.length : Int)) = true := decide_eq_true (by omega)
          have hib2 : (0 ≤ (i : Int) ∧ (i : Int) < (O.length : Int)) := ⟨by omega, by omega⟩
          have hib3 : (0 ≤ (y : Int) ∧ (y : Int) < (k : Int)) := ⟨by omega, by omega⟩
          clear hy hty hPo
          go_wp2_with fail
          refine wp_region_plan 7 (.calm 0 (.calm 1 (.calm 2 (.calm 3 (.calm 4 (.calm 5 (.fork 6 .tail .none))))))) (by kernel_rfl) (by kernel_rfl) ?_
          simp only [Plan.walk, operAt, List.getElem?_cons_succ, List.getElem?_cons_zero, Option.getD_some, List.drop_succ_cons, List.drop_zero]
          repeat (refine wpX_calm (fun K hK => ?_); go_simp; first | (refine hK _ _ ?_; clear hK K) | (apply Exists.intro; refine ⟨fun _ => ?_, hK _ _ ?_⟩; (fail); clear hK K))
          refine wpX_only (fun K hK => ?_)
          go_simp
          intro x
          refine ⟨(Below.refl _ _).alloc (Nat.le_refl _) _, hK _ _ ?_⟩
          clear hK K
          repeat (refine wpX_calm (fun K hK => ?_); go_simp; first | (refine hK _ _ ?_; clear hK K) | (apply Exists.intro; refine ⟨fun _ => ?_, hK _ _ ?_⟩; (fail); clear hK K))
          refine wpX_tail ?_
          intro z
          have hsrc := obj_bel z (World.alloc_heap_new x.w (.cells #[.int .i64 (ty : Int)] 3 (0, 0)))
          have hbz : Below wi.heap.size wi z.w := by (repeat' (first | (with_reducible first | apply Zl1 | apply Zl2 | apply Zl3 | apply Zl4 | apply Zl5 | apply Zl6 | apply Zl7 | apply Zl8 | apply Zl9 | apply Zla | apply Zlb | apply Zlc) | (dsimp only; with_reducible first | apply Zl8 | apply Zl2 | apply Zld) | with_reducible assumption | omega | (dsimp only; omega)))
          have HOZ := Lib.hid (show OwnV z.w wo.heap.size 3 (.slice va i vc) (intsV (intsN ((O.take i).map fun o => num.getD o 0))) from ownV_heap HPO.out.ous fun g hg => hbz.block g (ownV_lt HPO.out.ous hg).2)
          have HBXz := Lib.hid (obj_in hbz HPO.out.out)
          have HBZ := Lib.hid hbz
          have HSRC := Lib.hid hsrc
          have hszz := hbz.size
          clear hsrc hbz c0 c1 c2 c3
          go_wp2_with (at_builtin; refine wpList_appI rfl _ _ 23 rfl i0 Tryz.underlying23 hi0 hz0 hz1 hz2 _ wo.heap.size (.slice va i vc) (intsN ((O.take i).map fun o => num.getD o 0)) (ty : Int) x.w.heap.size rfl HOZ.out rfl HSRC.out (by rw [HLL.out]; omega) (by omega) ?_; intro g' c' w1 ho1 hb1 hs1; rw [HLL.out] at ho1 ⊢; have HO1 := Lib.hid ho1; have HB1 := Lib.hid hb1; have hbx1 := obj_below hb1 hhi.2.2.1 HBXz.out; have HBX1 := Lib.hid hbx1; obtain ⟨c0, c1, c2, c3⟩ := box2 hbx1; clear ho1 hb1 hbx1)
          go_roundw
          case rel =>
            refine ⟨i + 1, .slice (some ⟨g', 0, none⟩) (i + 1) c', by go_num, by omega, ?_⟩
            rw [HTK.out]
            exact (HPO.out.of HBZ.out).app HO1.out HB1.out (by omega)
          case measure => simp [intOf]; omega
        · have hke : i = O.length := by omega
          subst hke
          have f2 : decide ((O.length : Int) < (O.length : Int)) = false := decide_eq_false (by omega)
          obtain ⟨gva, gvc, hgv⟩ := ownK_val hPo.gts
          subst hgv
          obtain ⟨r0, r1, r2, r3⟩ := box2 hPo.res
          have hR := obj_set2 (.slice gva us.length gvc) (.slice va O.length vc) hPo.res
          obtain ⟨q0, q1, -⟩ := box2 hR
          clear hPo
          go_wp2
          refine bodyPost_ret (v := .agg #[.slice gva us.length gvc, .slice va O.length vc]) (by simp [results, Tryz.results59, go_sem, q0, q1]) rfl ?_
          have hp := HPO.out
          rw [List.take_length] at hp
          have := hp.done (G := L) HUS.out (.slice gva us.length gvc) (.slice va O.length vc) hp.ne.2.1
          rw [HPK2.out]
          exact this
end Go.Proofs.YtlnedapimmabdaaGreatDoor

namespace Go.Proofs.YtlnedapimmabdaaGreatDoor
set_option linter.unusedVariables false
set_option linter.unusedSimpArgs false
open Go.RowKit
attribute [local go_sem low] Bel.cell Bel.frozen alloc_cell alloc_frozen
attribute [local go_sem] calmOp chainOp yieldsC grows

structure Cs (w : World) (nv : Array Value) (L : List Gt) (st : List Nat) (lv sv : Value) (W : World) : Prop where
  net : W.heap[w.heap.size]? = some (.cells nv 25 (0, 0))
  res : W.heap[w.heap.size + 1]? = some (.cells #[.slice none 0 0, .slice none 0 0] 25 (0, 0))
  gts : OwnZ (fun b => w.heap.size + 2 ≤ b ∧ sv.ownBlock ≠ some b) W (w.heap.size + 2) 45 lv (L.map gz)
  sts : OwnV W (w.heap.size + 2) 3 sv (intsV (intsN st))
  ne : ∀ b, sv.ownBlock = some b → lv.ownBlock ≠ some b
  bel : Below w.heap.size w W
  sz : w.heap.size + 2 ≤ W.heap.size
variable {w : World} {nv : Array Value} {L : List Gt} {st : List Nat} {lv sv : Value} {W : World}
theorem Cs.of (h : Cs w nv L st lv sv W) {W' : World} (hb : Below W.heap.size W W') : Cs w nv L st lv sv W' := by
  have hs := h.sz
  exact ⟨obj_in hb h.net, obj_in hb h.res, ownZ_bel h.gts hb, ownV_heap h.sts fun g hg => hb.block g (ownV_lt h.sts hg).2, h.ne, h.bel.trans (hb.mono h.bel.size), Nat.le_trans hs hb.size⟩
theorem Cs.step (h : Cs w nv L st lv sv W) {r : List Gt × Nat} {e : Ending} {W' : World} (hr : GR (fun b => w.heap.size + 2 ≤ b ∧ sv.ownBlock ≠ some b) r (w.heap.size + 2) lv W e W') : ∃ lv', e = .returned (.tuple #[lv', .int .i64 (r.2 : Int)]) ∧ Cs w nv r.1 st lv' sv W' := by
  obtain ⟨lv', h1, h2, h3, h4, h5, h6⟩ := hr
  have hs := h.sz
  have hlv : ∀ b, b < w.heap.size + 2 → lv.ownBlock ≠ some b := fun b hb e => by have := (ownZ_block h.gts e).1; omega
  refine ⟨lv', h1, ⟨(h5 _ (by omega) (hlv _ (by omega))).trans h.net, (h5 _ (by omega) (hlv _ (by omega))).trans h.res, h2, ownV_heap h.sts fun g hg => h5 g (ownV_lt h.sts hg).2 (h.ne g hg), fun b hb e => ?_, h.bel.trans (h3.mono (by omega)), by omega⟩⟩
  have hl := (ownV_lt h.sts hb).2
  rcases h6 b e with h7 | h7
  · exact h.ne b hb h7
  · omega
theorem Cs.push (h : Cs w nv L st lv sv W) {W4 w1 : World} (hb : Below W.heap.size W W4) {a g c : Nat} (ho : OwnV w1 (w.heap.size + 2) 3 (.slice (some ⟨g, 0, none⟩) (st.length + 1) c) (intsV (intsN st ++ [(a : Int)]))) (hg : W4.grownBy w1 sv.ownBlock) (h5 : sv.ownBlock = some g ∨ g = W4.heap.size) : Cs w nv L (st ++ [a]) lv (.slice (some ⟨g, 0, none⟩) (st.length + 1) c) w1 := by
  have h4 := h.of hb
  have hs := h4.sz
  have hsv : ∀ b, b < w.heap.size + 2 → some b ≠ sv.ownBlock := fun b hb e => by have := (ownV_lt h4.sts e.symm).1; omega
  have hkeep : ∀ b, b < W4.heap.size → sv.ownBlock ≠ some b → w1.heap[b]? = W4.heap[b]? := fun b hb hn => hg.block b hb (fun e => hn e.symm)
  refine ⟨(hkeep _ (by omega) (fun e => hsv _ (by omega) e.symm)).trans h4.net, (hkeep _ (by omega) (fun e => hsv _ (by omega) e.symm)).trans h4.res, ?_, by unfold intsN; rw [List.map_append]; exact ho, fun b hb e => ?_, h4.bel.grown hg h4.bel.size (fun k hk => by have := (ownV_lt h4.sts hk).1; omega), by have := hg.size; omega⟩
  · refine ownZ_mv h4.gts (fun b hb => hkeep b (ownZ_block h4.gts hb).2 (fun e => h4.ne b e hb)) (fun b hl hp => ⟨⟨hp.1, fun e => ?_⟩, hkeep b hl hp.2⟩)
    have e : g = b := by simpa [Value.ownBlock] using e
    rcases h5 with h5 | h5
    · exact hp.2 (by rw [h5, e])
    · omega
  · have e2 : g = b := by simpa [Value.ownBlock] using hb
    subst e2
    rcases h5 with h5 | h5
    · exact h4.ne g h5 e
    · have := (ownZ_block h4.gts e).2
      omega
theorem irr_ins {v : Nat} {l : List Gt} (ho : okL v l) (hi : Irr l) : ∀ x ∈ l, x.2.2.length ≤ l.length + 1 := by
  intro x hx
  obtain ⟨i, hx⟩ := List.mem_iff_getElem?.1 hx
  have hil := (List.getElem?_eq_some_iff.1 hx).1
  rcases ho i x hx with ⟨_, _, e⟩ | ⟨_, _, k, e, _⟩ | ⟨hk, _, hin⟩ | ⟨_, _, e⟩
  · rw [e]; simp
  · rw [e]; simp
  · have hp := ((hi i x hx).2 hk).1
    have : x.2.2.length ≤ i := by
      have hnd : x.2.2.Nodup := hp.imp (fun h => Nat.ne_of_lt h)
      have hsub : x.2.2 ⊆ List.range i := fun k hk => List.mem_range.2 (hin k hk)
      have := hnd.length_le_of_subset hsub
      simpa using this
    omega
  · rw [e]; simp
end Go.Proofs.YtlnedapimmabdaaGreatDoor
