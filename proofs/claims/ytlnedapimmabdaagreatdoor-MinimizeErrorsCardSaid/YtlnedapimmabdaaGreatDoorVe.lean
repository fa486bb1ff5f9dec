/- minimize.clean. -/
import Derived.Test.YtlnedapimmabdaaGreatDoorVd
namespace Go.Proofs.YtlnedapimmabdaaGreatDoor
set_option linter.unusedVariables false
set_option linter.unusedSimpArgs false
open Go.RowKit Go.Maps
attribute [local go_sem low] Bel.cell Bel.frozen alloc_cell alloc_frozen
attribute [local go_sem] calmOp chainOp yieldsC grows

structure Ms (w : World) (n : Nat) (nv : Array Value) (L : List Gt) (st : List Nat) (gv : Value) (us : List UG) (W : World) : Prop where
  net : W.heap[w.heap.size]? = some (.cells nv 25 (0, 0))
  res : W.heap[w.heap.size + 1]? = some (.cells #[.slice none 0 0, .slice none 0 0] 25 (0, 0))
  cl : Cl w.heap.size (w.heap.size + 1 + 1 + 1) (w.heap.size + 1 + 1) (w.heap.size + 5) gv us L W
  to : ToS W w.heap.size (w.heap.size + 1 + 1 + 1 + 1) n n st
  bel : Below w.heap.size w W
variable {w : World} {n : Nat} {nv : Array Value} {L : List Gt} {st : List Nat} {gv gv' : Value} {us us' : List UG} {W W' : World}
theorem Ms.of (h : Ms w n nv L st gv us W) (hb : Below W.heap.size W W') : Ms w n nv L st gv us W' :=
  ⟨obj_in hb h.net, obj_in hb h.res, h.cl.of hb, h.to.heap (hb.block _ h.to.lt.2), h.bel.trans (hb.mono h.bel.size)⟩
theorem Ms.step (h : Ms w n nv L st gv us W) {r : List Gt × Nat} {e : Ending} (hr : AskR w.heap.size (w.heap.size + 1 + 1 + 1) (w.heap.size + 1 + 1) (w.heap.size + 5) gv W r e W') : e = .returned (.int .i64 (r.2 : Int)) ∧ ∃ gv' us', Ms w n nv r.1 st gv' us' W' := by
  obtain ⟨h1, gv', us', h2, h3⟩ := hr
  have hd := h.cl.dist.2.2.2.2.2
  have hgv : ∀ b, b < w.heap.size + 5 → gv.ownBlock ≠ some b := fun b hb e => by have := (h.cl.own e).1; omega
  refine ⟨h1, gv', us', ⟨(h3.keep _ (by omega) (by omega) (by omega) (hgv _ (by omega))).trans h.net, (h3.keep _ (by omega) (by omega) (by omega) (hgv _ (by omega))).trans h.res, h2, h.to.heap (h3.keep _ (by omega) (by omega) (by omega) (hgv _ (by omega))), h.bel.trans h3.below⟩⟩
theorem Ms.set (h : Ms w n nv L st gv us W) (hn : st.length < n) (x : Nat) : Ms w n nv L (st ++ [x]) gv us (W.setCell ⟨w.heap.size + 1 + 1 + 1 + 1, st.length, none⟩ (.int .i64 (x : Int))) := by
  have hd := h.cl.dist
  obtain ⟨c, m, p1, p2⟩ := h.cl.map
  exact ⟨obj_neD _ (by omega) h.net, obj_neD _ (by omega) h.res, ⟨obj_neD _ (by omega) h.cl.obj, ownK_heap h.cl.gts fun b hb _ => set_heap_ne _ (by omega), h.cl.eq, ⟨c, m, p1.heap fun o ho => obj_neD _ (by omega) ho, p2⟩, hd.1, hd.2.1, hd.2.2.1, hd.2.2.2.1, hd.2.2.2.2.1, by rw [World.size_setCell]; exact hd.2.2.2.2.2⟩, h.to.set hn x, h.bel.setCell (p := ⟨w.heap.size + 1 + 1 + 1 + 1, st.length, none⟩) (by simp; omega) _⟩
theorem cl_made (w V : World) (vs : Array Value) (hb : Below w.heap.size w V) (hC : V.heap[w.heap.size + 1 + 1 + 1]? = some (.cells #[.slice none 0 0, .map (some (w.heap.size + 1 + 1))] 105 (0, 0))) (hm : V.heap[w.heap.size + 1 + 1]? = some (.map #[] 0)) (hs : w.heap.size + 5 ≤ V.heap.size) : Cl w.heap.size (w.heap.size + 1 + 1 + 1) (w.heap.size + 1 + 1) (w.heap.size + 5) (.slice none 0 0) [] [] V := by
  refine ⟨hC, ownK_nil _ _, rfl, ⟨0, fun _ => none, ?_, Nat.le_refl _, fun i g h => by simp at h, fun g z h => by cases h⟩, by omega, by omega, by omega, by omega, by omega, hs⟩
  have h0 := funM_made w Tryz.prog 9 3
  obtain ⟨D, hD, hk⟩ := h0
  refine ⟨D, ?_, hk⟩
  obtain ⟨es, clock, h1, h2⟩ := hD
  rw [World.alloc_heap_new] at h1
  injection h1 with h1
  injection h1 with h1 h3
  subst h1 h3
  exact ⟨_, _, hm, h2⟩
set_option maxRecDepth 100000 in
set_option maxHeartbeats 25600000 in
theorem clean_any (G : List Gt) (O : List Nat) (v : Nat) (P Q : Nat → Prop) (ga oa : Option Addr) (gc oc : Nat) (w : World) (hok : okL v G) (hg : InGt P w ga (G.map gz)) (ho : InS Q w oa (intsN O)) (hO : ∀ o ∈ O, o < G.length) (hl : G.length ≤ 50000) (hol : O.length ≤ 1000000) (hil : ∀ g ∈ G, g.2.2.length ≤ 17592186044416) (hv : v ≤ 100000000) (hT : Tab w) :
    Calls Tryz.prog 31 #[nV ga G.length gc oa O.length oc] w (RetNt (cleanG (G, O)) w) := by
  obtain ⟨i0, hi0, hz0, hz1, hz2⟩ := info_parts Tryz.infoI
  have HG := Lib.hid hg
  have HOK := Lib.hid hok
  have HOI := Lib.hid ho
  have HO := Lib.hid hO
  have HIL := Lib.hid hil
  have HT := Lib.hid hT
  obtain ⟨n, hn⟩ : ∃ n, G.length = n := ⟨_, rfl⟩
  have HN := Lib.hid hn
  rw [hn] at hl ⊢
  clear hok hg ho hO hil hn hT
  unfold nV
  go_enter Tryz.func31, Tryz.ntmps31
  have hmm := @run_makeMap Tryz.prog
  obtain ⟨V0, hV0⟩ : ∃ V0, V0 = ((((w.alloc (.cells #[.slice ga n gc, .slice oa O.length oc] 25)).alloc (.cells #[.slice none 0 0, .slice none 0 0] 25)).alloc (.map #[] 0)).alloc (.cells #[.slice none 0 0, .map (some (w.heap.size + 1 + 1))] 105)) := ⟨_, rfl⟩
  have hv0 : V0.heap[w.heap.size]? = some (.cells #[.slice ga n gc, .slice oa O.length oc] 25 (0, 0)) ∧ V0.heap[w.heap.size + 1]? = some (.cells #[.slice none 0 0, .slice none 0 0] 25 (0, 0)) ∧ V0.heap[w.heap.size + 1 + 1]? = some (.map #[] 0) ∧ V0.heap[w.heap.size + 1 + 1 + 1]? = some (.cells #[.slice none 0 0, .map (some (w.heap.size + 1 + 1))] 105 (0, 0)) ∧ V0.heap.size = w.heap.size + 1 + 1 + 1 + 1 ∧ Below w.heap.size w V0 := by
    rw [hV0]
    exact ⟨obj_alloc _ (obj_alloc _ (obj_alloc _ (World.alloc_heap_new w _))), obj_alloc _ (obj_alloc _ (alloc2_new w _ _)), obj_alloc _ (newAt2 w _ _ _), newAt3 w _ _ _ _, by simp, by (repeat' (first | (with_reducible first | apply Zl1 | apply Zl2 | apply Zl3 | apply Zl4 | apply Zl5 | apply Zl6 | apply Zl7 | apply Zl8 | apply Zl9 | apply Zla | apply Zlb | apply Zlc) | (dsimp only; with_reducible first | apply Zl8 | apply Zl2 | apply Zld) | with_reducible assumption | omega | (dsimp only; omega)))⟩
  have HV0 := Lib.hid hv0
  have HV0E := Lib.hid hV0
  clear hV0 hv0
  go_wp2_with (at_make; refine wpList_make_full _ rfl _ _ 23 rfl (w.heap.size) 3 i0 (.int .i64 0) 1 Tryz.underlying23 hi0 hz0 hz1 _ _ _ _ (n) rfl rfl (by first | rfl | omega | (simp <;> omega)) (by first | rfl | omega | (simp <;> omega)) (by rw [hz2] <;> omega) (by unfold maxLen; omega) (by first | omega | (simp <;> omega)) ?_; intro wM hownM hgrowM; rw [← HV0E.out] at hgrowM; have HOM := Lib.hid hownM; have HGM := Lib.hid hgrowM; have hnet := (hgrowM.block w.heap.size (by have := HV0.out.2.2.2.2.1; omega) (by simp)).trans HV0.out.1; obtain ⟨n1, n2, -⟩ := box2 hnet; clear hownM hgrowM hnet)
  clear hmm
  have hVs := HV0.out.2.2.2.2.1
  have hTl := World.ownsRow.lt HOM.out (w.heap.size + 1 + 1 + 1 + 1) (by simp [Value.ownBlock])
  have hkM : ∀ {b : Nat} {o : Obj}, V0.heap[b]? = some o → wM.heap[b]? = some o := fun {b o} h => (HGM.out.block b (Array.getElem?_eq_some_iff.1 h).1 (by simp)).trans h
  have hbM : Below w.heap.size w wM := HV0.out.2.2.2.2.2.grown HGM.out (by omega) (fun k e => by cases e)
  have hstart : Ms w n #[.slice ga n gc, .slice oa O.length oc] [] [] (.slice none 0 0) [] wM := by
    refine ⟨hkM HV0.out.1, hkM HV0.out.2.1, cl_made w wM #[] hbM (hkM HV0.out.2.2.2.1) (hkM HV0.out.2.2.1) (by omega), ⟨?_, Nat.zero_le _⟩, hbM⟩
    have := HOM.out
    rw [Nat.mul_one, show (Value.int .i64 0).cells = #[Value.int .i64 0] from rfl, toList_madeCells_one] at this
    unfold OwnN natsV
    simpa using this
  have HST := Lib.hid hstart
  clear hstart hkM hbM hVs hTl n1 n2
  go_loopw [23] (fun iv wr => ∃ (k : Nat) (gv : Value) (us : List UG), iv = .int .i64 (k : Int) ∧ k ≤ n ∧ Ms w n #[.slice ga n gc, .slice oa O.length oc] (foldG (G.take k) ([], [])).1 (foldG (G.take k) ([], [])).2 gv us wr) (fun iv _ => n - (intOf iv).toNat)
  case atStart => exact ⟨0, _, _, rfl, Nat.zero_le _, HST.out⟩
  case round =>
    rename World => wo
    obtain ⟨k, gv, us, rfl, hk, hM⟩ := hrel
    have hfo := foldG_ok (okL_take HOK.out k)
    obtain ⟨s, hs⟩ : ∃ s, foldG (G.take k) ([], []) = s := ⟨_, rfl⟩
    rw [hs] at hM hfo
    obtain ⟨L, st⟩ := s
    dsimp only at hM hfo
    have HS := Lib.hid hs
    have HFO := Lib.hid hfo
    have hLl : L.length ≤ k := by have := hfo.le; rw [List.length_take] at this; omega
    have hstl : st.length = k := by have := hfo.len; rw [List.length_take, HN.out] at this; omega
    have HM := Lib.hid hM
    have HSL := Lib.hid hstl
    obtain ⟨n1, n2, -⟩ := box2 hM.net
    have hsz := hM.cl.dist.2.2.2.2.2
    clear hM hfo hs hstl
    rcases Nat.lt_or_ge k n with hkl | hkl
    · obtain ⟨gg, hgg⟩ : ∃ gg, G[k]? = some gg := ⟨_, List.getElem?_eq_getElem (by rw [HN.out]; exact hkl)⟩
      obtain ⟨b2, o2, hadd, hb2, ax, cx, y0, y1, y2, hiy⟩ := (HG.out.of HM.out.bel).at (show (G.map gz)[k]? = some (gz gg) by rw [List.getElem?_map, hgg]; rfl)
      subst hadd
      dsimp only [gz] at y0 y1 y2 hiy
      rw [List.length_map] at y2
      have hft := foldG_take hgg
      rw [HS.out] at hft
      dsimp only at hft
      obtain ⟨r, hr⟩ : ∃ r, stepG L st gg = r := ⟨_, rfl⟩
      rw [hr] at hft
      have HFT := Lib.hid hft
      have HR := Lib.hid hr
      have HOG := Lib.hid (HOK.out k gg hgg)
      have HI2 := Lib.hid hiy
      have hgl := HIL.out gg (List.mem_of_getElem? hgg)
      have hins := okG_ins HOG.out
      have hlt : ∀ y ∈ gg.2.2, st.getD y 0 < L.length := fun y hy => by
        have hyk : y < st.length := by rw [HSL.out]; exact hins y hy
        exact HFO.out.lt y _ (by rw [List.getD_eq_getElem?_getD, List.getElem?_eq_getElem hyk]; rfl)
      have HLT := Lib.hid hlt
      have f1 : decide ((k : Int) < (n : Int)) = true := decide_eq_true (by omega)
      have hib : (0 ≤ (k : Int) ∧ (k : Int) < (n : Int)) := ⟨by omega, by omega⟩
      have hal : Below wo.heap.size wo (wo.alloc (.cells #[.int .i64 (gg.1 : Int), .int .i64 (gg.2.1 : Int), .slice ax gg.2.2.length cx] 45)) := (Below.refl _ _).alloc (Nat.le_refl _) _
      have HM2 := Lib.hid (HM.out.of hal)
      have HAL := Lib.hid hal
      clear hgg hiy hft hr hal hlt
      have hz1 := hz1
      by_cases h2 : gg.1 = 2
      · have f2 : ((gg.1 : Int) == 2) = true := by simp [h2]
        obtain ⟨k0, hk0, hki⟩ : ∃ k0, gg.2.2 = [k0] ∧ k0 < k := by
          rcases HOG.out with ⟨h, _⟩ | ⟨_, _, k0, h, h'⟩ | ⟨h, _⟩ | ⟨h, _⟩
          · omega
          · exact ⟨k0, h, h'⟩
          · omega
          · omega
        obtain ⟨a, ha⟩ : ∃ a, st.getD k0 0 = a := ⟨_, rfl⟩
        have haL : a < L.length := by rw [← ha]; exact HLT.out k0 (by rw [hk0]; simp)
        have hjr := not_any v HM2.out.cl HFO.out.ok a haL (by omega) (HT.out.of HM2.out.bel)
        rw [show notG L a = r by rw [← HR.out, stepG, if_neg (by omega), if_neg (by omega), hk0, List.headD_cons, ha]; rfl] at hjr
        have t0 := (HM.out.to.at (k := k0) (by omega)).1
        rw [ha] at t0
        have hi2 := HI2.out
        rw [hk0] at y2 hi2 HM2 HAL hjr
        obtain ⟨b3, o3, hadd, hb3, z3⟩ := hi2.at (j := 0) (x := (k0 : Int)) rfl
        subst hadd
        rw [Nat.add_zero] at z3
        dsimp only [List.length_cons, List.length_nil, Nat.zero_add] at y2 HM2 HAL hjr
        have HJR := Lib.hid hjr
        have hib2 : (0 ≤ (k0 : Int) ∧ (k0 : Int) < (n : Int)) := ⟨by omega, by omega⟩
        clear h2 hjr hi2 ha hk0
        go_wp2_with fail
        refine HJR.out.mono ?_
        rintro e W9 hr9
        obtain ⟨rfl, gv9, us9, hM9⟩ := HM2.out.step hr9
        have hset9 := hM9.set (by rw [HSL.out]; exact hkl) r.2
        rw [HSL.out] at hset9
        have HSET9 := Lib.hid hset9
        obtain ⟨t1, t2⟩ := hM9.to.at (k := k) hkl
        clear hr9 hM9 hset9
        dsimp only
        go_wp2
        refine ⟨⟨k + 1, gv9, us9, by go_num, by omega, ?_⟩, by simp [intOf]; omega⟩
        rw [HFT.out]
        exact HSET9.out
      have f2 : ((gg.1 : Int) == 2) = false := by simp; omega
      by_cases h34 : gg.1 = 3 ∨ gg.1 = 4
      · have hbx := World.alloc_heap_new wo (.cells #[.int .i64 (gg.1 : Int), .int .i64 (gg.2.1 : Int), .slice ax gg.2.2.length cx] 45 (0, 0))
        have hjr0 : ∀ (ins : List Nat) (va : Option Addr) (vc : Nat) (W' : World), Below wo.heap.size wo W' → (gg.2.2.map fun i => st.getD i 0) = ins → InS (fun _ => True) W' va (intsN ins) → Calls Tryz.prog 57 #[.pointer (some ⟨w.heap.size + 1 + 1 + 1, 0, none⟩), .int .i64 (gg.1 : Int), .slice va ins.length vc] W' (AskR w.heap.size (w.heap.size + 1 + 1 + 1) (w.heap.size + 1 + 1) (w.heap.size + 5) gv W' r) := fun ins va vc W' hb hE hIS => by
          have hMi := HM.out.of hb
          have := joinC_any v gg.1 h34 hMi.cl HFO.out.ok HFO.out.irr ins _ va vc hIS (fun i hi => by
            rw [← hE] at hi
            obtain ⟨y, hy, rfl⟩ := List.mem_map.1 hi
            exact HLT.out y hy) (by omega) (by rw [← hE, List.length_map]; omega) (HT.out.of hMi.bel)
          rwa [show joinG L gg.1 ins = r by rw [← HR.out, stepG, if_pos h34, hE]] at this
        have HJR0 := Lib.hid hjr0
        have HBX0 := Lib.hid hbx
        have hgbl : wo.heap.size < (wo.alloc (.cells #[.int .i64 (gg.1 : Int), .int .i64 (gg.2.1 : Int), .slice ax gg.2.2.length cx] 45)).heap.size := by simp
        clear hjr0 hbx
        by_cases h3 : gg.1 = 3
        · have f3 : ((gg.1 : Int) == 3) = true := by simp [h3]
          clear h3
          clear h34 h2
          go_wp2_with fail
          obtain ⟨w2, hw2⟩ : ∃ w2, wo.alloc (.cells #[.int .i64 (gg.1 : Int), .int .i64 (gg.2.1 : Int), .slice ax gg.2.2.length cx] 45) = w2 := ⟨_, rfl⟩
          obtain ⟨GB, hGB⟩ : ∃ GB, wo.heap.size = GB := ⟨_, rfl⟩
          have hbx := HBX0.out
          have hb2w := HAL.out
          rw [hw2] at hbx hgbl hb2w HM2 ⊢
          have HB2W := Lib.hid hb2w
          rw [hGB] at hbx hgbl ⊢
          have HBX := Lib.hid hbx
          clear HBX0 HAL hbx hb2w hw2 hGB n1 n2 y0 y1 y2
          go_loopw [7, 59] (fun nv iv wi => ∃ j : Nat, iv = .int .i64 (j : Int) ∧ j ≤ gg.2.2.length ∧ OwnV wi w2.heap.size 3 nv (intsV (intsN ((gg.2.2.take j).map fun i => st.getD i 0))) ∧ Below w2.heap.size w2 wi) (fun _ iv _ => gg.2.2.length - (intOf iv).toNat)
          case atStart => exact ⟨0, rfl, Nat.zero_le _, ownV_nil _ _ _, Below.refl _ _⟩
          case round =>
            rename World => wi
            obtain ⟨j, rfl, hj, hov, hbi⟩ := hrel
            have hlj : (intsN ((gg.2.2.take j).map fun i => st.getD i 0)).length = j := by
              unfold intsN
              rw [List.length_map, List.length_map, List.length_take]
              omega
            obtain ⟨va, vc, hvv⟩ := ownV_shape hov
            rw [show (intsV (intsN ((gg.2.2.take j).map fun i => st.getD i 0))).length = j by unfold intsV; rw [List.length_map]; exact hlj] at hvv
            subst hvv
            have HOV := Lib.hid hov
            have HBI := Lib.hid hbi
            have HLJ := Lib.hid hlj
            have hwis := hbi.size
            obtain ⟨p0, p1, p2⟩ := box3 (obj_in hbi HBX.out)
            clear hov hlj
            rcases Nat.lt_or_ge j gg.2.2.length with hjl | hjl
            · obtain ⟨y, hy⟩ := some_at hjl
              have hyk := hins y (List.mem_of_getElem? hy)
              obtain ⟨ty, hty⟩ : ∃ ty, st.getD y 0 = ty := ⟨_, rfl⟩
              obtain ⟨b3, o3, hadd, hb3, z0⟩ := ((HI2.out.of HB2W.out).of hbi).at (show (gg.2.2.map fun k : Nat => (k : Int))[j]? = some (y : Int) by rw [List.getElem?_map, hy]; rfl)
              subst hadd
              have z1 := below_cell hbi _ _ _ (HM2.out.to.at (k := y) (by omega)).1
              rw [hty] at z1
              have HTK := Lib.hid (show intsN ((gg.2.2.take (j + 1)).map fun i => st.getD i 0) = intsN ((gg.2.2.take j).map fun i => st.getD i 0) ++ [(ty : Int)] from by
                rw [take_snoc hy, List.map_append]
                unfold intsN
                rw [List.map_append, List.map_singleton, List.map_singleton, hty])
              have f5 : decide ((j : Int) < (gg.2.2.length : Int)) = true := decide_eq_true (by omega)
              have hib2 : (0 ≤ (j : Int) ∧ (j : Int) < (gg.2.2.length : Int)) := ⟨by omega, by omega⟩
              have hib3 : (0 ≤ (y : Int) ∧ (y : Int) < (n : Int)) := ⟨by omega, by omega⟩
              clear hy hty
              go_wp2_with (at_builtin; refine wpList_appI rfl _ _ 23 rfl i0 Tryz.underlying23 hi0 hz0 hz1 hz2 _ w2.heap.size (.slice va j vc) (intsN ((gg.2.2.take j).map fun i => st.getD i 0)) (ty : Int) wi.heap.size rfl (ownV_alloc HOV.out _) rfl (World.alloc_heap_new wi _) (by rw [HLJ.out]; omega) (by simp; omega) ?_; intro g1 c1 w1 ho1 hb1 hs1; rw [HLJ.out] at ho1 ⊢; have HO1 := Lib.hid ho1; have HB1 := Lib.hid hb1; clear ho1 hb1)
              go_roundw
              case rel =>
                refine ⟨j + 1, by go_num, by omega, ?_, HBI.out.trans (((Below.refl _ wi).alloc hwis _).trans HB1.out)⟩
                rw [HTK.out]
                exact HO1.out
              case measure => simp [intOf]; omega
            · have hke : j = gg.2.2.length := by omega
              subst hke
              have f5 : decide ((gg.2.2.length : Int) < (gg.2.2.length : Int)) = false := decide_eq_false (by omega)
              have hov := HOV.out
              rw [List.take_length] at hov
              obtain ⟨ins, hinsE⟩ : ∃ ins, (gg.2.2.map fun i => st.getD i 0) = ins := ⟨_, rfl⟩
              rw [hinsE] at hov
              have hinl : gg.2.2.length = ins.length := by rw [← hinsE, List.length_map]
              have hIS : InS (fun _ => True) wi va (intsN ins) := by
                have h := hov
                rw [hinl, show ins.length = (intsN ins).length by unfold intsN; rw [List.length_map]] at h
                exact (inS_of_ownV h).imp fun _ _ _ => trivial
              have hjr := HJR0.out ins va vc wi (HB2W.out.trans (hbi.mono HB2W.out.size)) hinsE hIS
              rw [← hinl] at hjr
              have HJR := Lib.hid hjr
              have HM2 := Lib.hid (HM2.out.of hbi)
              clear hov hinsE hinl hIS hjr
              go_wp2_with fail
              refine HJR.out.mono ?_
              rintro e W9 hr9
              obtain ⟨rfl, gv9, us9, hM9⟩ := HM2.out.step hr9
              have hset9 := hM9.set (by rw [HSL.out]; exact hkl) r.2
              rw [HSL.out] at hset9
              have HSET9 := Lib.hid hset9
              obtain ⟨t1, t2⟩ := hM9.to.at (k := k) hkl
              clear hr9 hM9 hset9
              dsimp only
              go_wp2
              refine ⟨⟨k + 1, gv9, us9, by go_num, by omega, ?_⟩, by simp [intOf]; omega⟩
              rw [HFT.out]
              exact HSET9.out
        · have f3 : ((gg.1 : Int) == 3) = false := by simp; omega
          have f4 : ((gg.1 : Int) == 4) = true := by simp; omega
          clear h3
          clear h34 h2
          go_wp2_with fail
          obtain ⟨w2, hw2⟩ : ∃ w2, wo.alloc (.cells #[.int .i64 (gg.1 : Int), .int .i64 (gg.2.1 : Int), .slice ax gg.2.2.length cx] 45) = w2 := ⟨_, rfl⟩
          obtain ⟨GB, hGB⟩ : ∃ GB, wo.heap.size = GB := ⟨_, rfl⟩
          have hbx := HBX0.out
          have hb2w := HAL.out
          rw [hw2] at hbx hgbl hb2w HM2 ⊢
          have HB2W := Lib.hid hb2w
          rw [hGB] at hbx hgbl ⊢
          have HBX := Lib.hid hbx
          clear HBX0 HAL hbx hb2w hw2 hGB n1 n2 y0 y1 y2
          go_loopw [7, 59] (fun nv iv wi => ∃ j : Nat, iv = .int .i64 (j : Int) ∧ j ≤ gg.2.2.length ∧ OwnV wi w2.heap.size 3 nv (intsV (intsN ((gg.2.2.take j).map fun i => st.getD i 0))) ∧ Below w2.heap.size w2 wi) (fun _ iv _ => gg.2.2.length - (intOf iv).toNat)
          case atStart => exact ⟨0, rfl, Nat.zero_le _, ownV_nil _ _ _, Below.refl _ _⟩
          case round =>
            rename World => wi
            obtain ⟨j, rfl, hj, hov, hbi⟩ := hrel
            have hlj : (intsN ((gg.2.2.take j).map fun i => st.getD i 0)).length = j := by
              unfold intsN
              rw [List.length_map, List.length_map, List.length_take]
              omega
            obtain ⟨va, vc, hvv⟩ := ownV_shape hov
            rw [show (intsV (intsN ((gg.2.2.take j).map fun i => st.getD i 0))).length = j by unfold intsV; rw [List.length_map]; exact hlj] at hvv
            subst hvv
            have HOV := Lib.hid hov
            have HBI := Lib.hid hbi
            have HLJ := Lib.hid hlj
            have hwis := hbi.size
            obtain ⟨p0, p1, p2⟩ := box3 (obj_in hbi HBX.out)
            clear hov hlj
            rcases Nat.lt_or_ge j gg.2.2.length with hjl | hjl
            · obtain ⟨y, hy⟩ := some_at hjl
              have hyk := hins y (List.mem_of_getElem? hy)
              obtain ⟨ty, hty⟩ : ∃ ty, st.getD y 0 = ty := ⟨_, rfl⟩
              obtain ⟨b3, o3, hadd, hb3, z0⟩ := ((HI2.out.of HB2W.out).of hbi).at (show (gg.2.2.map fun k : Nat => (k : Int))[j]? = some (y : Int) by rw [List.getElem?_map, hy]; rfl)
              subst hadd
              have z1 := below_cell hbi _ _ _ (HM2.out.to.at (k := y) (by omega)).1
              rw [hty] at z1
              have HTK := Lib.hid (show intsN ((gg.2.2.take (j + 1)).map fun i => st.getD i 0) = intsN ((gg.2.2.take j).map fun i => st.getD i 0) ++ [(ty : Int)] from by
                rw [take_snoc hy, List.map_append]
                unfold intsN
                rw [List.map_append, List.map_singleton, List.map_singleton, hty])
              have f5 : decide ((j : Int) < (gg.2.2.length : Int)) = true := decide_eq_true (by omega)
              have hib2 : (0 ≤ (j : Int) ∧ (j : Int) < (gg.2.2.length : Int)) := ⟨by omega, by omega⟩
              have hib3 : (0 ≤ (y : Int) ∧ (y : Int) < (n : Int)) := ⟨by omega, by omega⟩
              clear hy hty
              go_wp2_with (at_builtin; refine wpList_appI rfl _ _ 23 rfl i0 Tryz.underlying23 hi0 hz0 hz1 hz2 _ w2.heap.size (.slice va j vc) (intsN ((gg.2.2.take j).map fun i => st.getD i 0)) (ty : Int) wi.heap.size rfl (ownV_alloc HOV.out _) rfl (World.alloc_heap_new wi _) (by rw [HLJ.out]; omega) (by simp; omega) ?_; intro g1 c1 w1 ho1 hb1 hs1; rw [HLJ.out] at ho1 ⊢; have HO1 := Lib.hid ho1; have HB1 := Lib.hid hb1; clear ho1 hb1)
              go_roundw
              case rel =>
                refine ⟨j + 1, by go_num, by omega, ?_, HBI.out.trans (((Below.refl _ wi).alloc hwis _).trans HB1.out)⟩
                rw [HTK.out]
                exact HO1.out
              case measure => simp [intOf]; omega
            · have hke : j = gg.2.2.length := by omega
              subst hke
              have f5 : decide ((gg.2.2.length : Int) < (gg.2.2.length : Int)) = false := decide_eq_false (by omega)
              have hov := HOV.out
              rw [List.take_length] at hov
              obtain ⟨ins, hinsE⟩ : ∃ ins, (gg.2.2.map fun i => st.getD i 0) = ins := ⟨_, rfl⟩
              rw [hinsE] at hov
              have hinl : gg.2.2.length = ins.length := by rw [← hinsE, List.length_map]
              have hIS : InS (fun _ => True) wi va (intsN ins) := by
                have h := hov
                rw [hinl, show ins.length = (intsN ins).length by unfold intsN; rw [List.length_map]] at h
                exact (inS_of_ownV h).imp fun _ _ _ => trivial
              have hjr := HJR0.out ins va vc wi (HB2W.out.trans (hbi.mono HB2W.out.size)) hinsE hIS
              rw [← hinl] at hjr
              have HJR := Lib.hid hjr
              have HM2 := Lib.hid (HM2.out.of hbi)
              clear hov hinsE hinl hIS hjr
              go_wp2_with fail
              refine HJR.out.mono ?_
              rintro e W9 hr9
              obtain ⟨rfl, gv9, us9, hM9⟩ := HM2.out.step hr9
              have hset9 := hM9.set (by rw [HSL.out]; exact hkl) r.2
              rw [HSL.out] at hset9
              have HSET9 := Lib.hid hset9
              obtain ⟨t1, t2⟩ := hM9.to.at (k := k) hkl
              clear hr9 hM9 hset9
              dsimp only
              go_wp2
              refine ⟨⟨k + 1, gv9, us9, by go_num, by omega, ?_⟩, by simp [intOf]; omega⟩
              rw [HFT.out]
              exact HSET9.out
      · have f3 : ((gg.1 : Int) == 3) = false := by simp; omega
        have f4 : ((gg.1 : Int) == 4) = false := by simp; omega
        have harg : gg.1 < 100 ∧ gg.2.1 < 1000000000000000 := by
          rcases HOG.out with ⟨h, h', _⟩ | ⟨h, h', _⟩ | ⟨h, h', _⟩ | ⟨h, h', _⟩ <;> omega
        have hjr := ask_any HM2.out.cl gg.1 gg.2.1 [] (fun _ => True) none 0 (inS_nil _ _ _) (by omega) harg.2 (fun x hx => by cases hx) (by omega) (by simp) (HT.out.of HM2.out.bel)
        rw [show findG L (gg.1, gg.2.1, []) = r by rw [← HR.out, stepG, if_neg h34, if_pos h2]] at hjr
        have HJR := Lib.hid hjr
        clear h2 h34 hjr harg
        go_wp2_with fail
        refine HJR.out.mono ?_
        rintro e W9 hr9
        obtain ⟨rfl, gv9, us9, hM9⟩ := HM2.out.step hr9
        have hset9 := hM9.set (by rw [HSL.out]; exact hkl) r.2
        rw [HSL.out] at hset9
        have HSET9 := Lib.hid hset9
        obtain ⟨t1, t2⟩ := hM9.to.at (k := k) hkl
        clear hr9 hM9 hset9
        dsimp only
        go_wp2
        refine ⟨⟨k + 1, gv9, us9, by go_num, by omega, ?_⟩, by simp [intOf]; omega⟩
        rw [HFT.out]
        exact HSET9.out
    · have hke : k = n := by omega
      subst hke
      have f1 : decide ((k : Int) < (k : Int)) = false := decide_eq_false (by omega)
      have hcl : cleanG (G, O) = packG (L, O.map fun o => st.getD o 0) := by
        have e : foldG G ([], []) = (L, st) := by
          have := HS.out
          rwa [show G.take k = G by rw [← HN.out, List.take_length]] at this
        unfold cleanG
        dsimp only
        rw [e]
      obtain ⟨la, lc, hgv, hing⟩ := HM.out.cl.val
      subst hgv
      obtain ⟨c0, c1, c2, c3⟩ := box2 HM.out.cl.obj
      have HIG := Lib.hid hing
      have hob := World.alloc_heap_new wo (.cells #[.slice la L.length lc, .slice none 0 0] 25 (0, 0))
      have hb3w : Below wo.heap.size wo (wo.alloc (.cells #[.slice la L.length lc, .slice none 0 0] 25)) := (Below.refl _ _).alloc (Nat.le_refl _) _
      have hobl : (wo.alloc (.cells #[.slice la L.length lc, .slice none 0 0] 25)).heap.size = wo.heap.size + 1 := World.size_alloc _ _
      have HOB0 := Lib.hid hob
      have HB30 := Lib.hid hb3w
      have HCL := Lib.hid hcl
      have hneC : wo.heap.size ≠ w.heap.size := by omega
      clear hcl hing hob hb3w
      go_wp2_with fail
      obtain ⟨w3, hw3⟩ : ∃ w3, wo.alloc (.cells #[.slice la L.length lc, .slice none 0 0] 25) = w3 := ⟨_, rfl⟩
      rw [hw3] at HOB0 HB30 hobl ⊢
      have HN1 := Lib.hid n2
      clear hw3 n1 n2 c0 c1 c2 c3
      go_loopw [88] (fun iv wi => ∃ (i : Nat) (ov : Value), iv = .int .i64 (i : Int) ∧ i ≤ O.length ∧ OwnV wi w3.heap.size 3 ov (intsV (intsN ((O.take i).map fun o => st.getD o 0))) ∧ wi.heap[wo.heap.size]? = some (.cells #[.slice la L.length lc, ov] 25 (0, 0)) ∧ Below wo.heap.size wo wi ∧ w3.heap.size ≤ wi.heap.size) (fun iv _ => O.length - (intOf iv).toNat)
      case atStart => exact ⟨0, _, rfl, Nat.zero_le _, ownV_nil _ _ _, HOB0.out, HB30.out, Nat.le_refl _⟩
      case round =>
        rename World => wi
        obtain ⟨i, ov, rfl, hi, hov, hob, hbi, hszi⟩ := hrel
        have hli : (intsN ((O.take i).map fun o => st.getD o 0)).length = i := by
          unfold intsN
          rw [List.length_map, List.length_map, List.length_take]
          omega
        obtain ⟨va, vc, hvv⟩ := ownV_shape hov
        rw [show (intsV (intsN ((O.take i).map fun o => st.getD o 0))).length = i by unfold intsV; rw [List.length_map]; exact hli] at hvv
        subst hvv
        have HOV := Lib.hid hov
        have HOB := Lib.hid hob
        have HBI := Lib.hid hbi
        have HLI := Lib.hid hli
        have m1 := below_cell hbi _ _ _ HN1.out
        obtain ⟨c0, c1, c2, c3⟩ := box2 hob
        clear hov hob hli
        rcases Nat.lt_or_ge i O.length with hil | hil
        · obtain ⟨y, hy⟩ := some_at hil
          have hyn := HO.out y (List.mem_of_getElem? hy)
          rw [HN.out] at hyn
          obtain ⟨ty, hty⟩ : ∃ ty, st.getD y 0 = ty := ⟨_, rfl⟩
          obtain ⟨b3, o3, hadd, hb3, z0⟩ := (HOI.out.of (HM.out.bel.trans (hbi.mono HM.out.bel.size))).at (show (intsN O)[i]? = some (y : Int) by unfold intsN; rw [List.getElem?_map, hy]; rfl)
          subst hadd
          have z1 := below_cell hbi _ _ _ (HM.out.to.at (k := y) hyn).1
          rw [hty] at z1
          have HTK := Lib.hid (show intsN ((O.take (i + 1)).map fun o => st.getD o 0) = intsN ((O.take i).map fun o => st.getD o 0) ++ [(ty : Int)] from by
            rw [take_snoc hy, List.map_append]
            unfold intsN
            rw [List.map_append, List.map_singleton, List.map_singleton, hty])
          have f2 : decide ((i : Int) < (O.length : Int)) = true := decide_eq_true (by omega)
          have hib2 : (0 ≤ (i : Int) ∧ (i : Int) < (O.length : Int)) := ⟨by omega, by omega⟩
          have hib3 : (0 ≤ (y : Int) ∧ (y : Int) < (k : Int)) := ⟨by omega, by omega⟩
          clear hy hty
          go_wp2_with fail
          refine wp_region_plan 7 (.calm 0 (.calm 1 (.calm 2 (.calm 3 (.calm 4 (.calm 5 (.fork 6 .tail .none))))))) (by kernel_rfl) (by kernel_rfl) ?_
          simp only [Plan.walk, operAt, List.getElem?_cons_succ, List.getElem?_cons_zero, Option.getD_some, List.drop_succ_cons, List.drop_zero]
          repeat (refine wpX_calm (fun K hK => ?_); go_simp; first | (refine hK _ _ ?_; clear hK K) | (apply Exists.intro; refine ⟨fun _ => ?_, hK _ _ ?_⟩; (fail); clear hK K))
          refine wpX_only (fun K hK => ?_)
          go_simp
          intro x
          refine ⟨(Below.refl _ _).alloc (Nat.le_refl _) _, hK _ _ ?_⟩
          clear hK K
          repeat (refine wpX_calm (fun K hK => ?_); go_simp; first | (refine hK _ _ ?_; clear hK K) | (apply Exists.intro; refine ⟨fun _ => ?_, hK _ _ ?_⟩; (fail); clear hK K))
          refine wpX_tail ?_
          intro z
          have hsrc := obj_bel z (World.alloc_heap_new x.w (.cells #[.int .i64 (ty : Int)] 3 (0, 0)))
          have hbz : Below wi.heap.size wi z.w := by (repeat' (first | (with_reducible first | apply Zl1 | apply Zl2 | apply Zl3 | apply Zl4 | apply Zl5 | apply Zl6 | apply Zl7 | apply Zl8 | apply Zl9 | apply Zla | apply Zlb | apply Zlc) | (dsimp only; with_reducible first | apply Zl8 | apply Zl2 | apply Zld) | with_reducible assumption | omega | (dsimp only; omega)))
          have HOZ := Lib.hid (show OwnV z.w w3.heap.size 3 (.slice va i vc) (intsV (intsN ((O.take i).map fun o => st.getD o 0))) from ownV_heap HOV.out fun g hg => hbz.block g (ownV_lt HOV.out hg).2)
          have HBXz := Lib.hid (obj_in hbz HOB.out)
          have HBZ := Lib.hid hbz
          have HSRC := Lib.hid hsrc
          have hszz := hbz.size
          have hwo3 : wo.heap.size < w3.heap.size := by omega
          clear hsrc hbz c0 c1 c2 c3
          go_wp2_with (at_builtin; refine wpList_appI rfl _ _ 23 rfl i0 Tryz.underlying23 hi0 hz0 hz1 hz2 _ w3.heap.size (.slice va i vc) (intsN ((O.take i).map fun o => st.getD o 0)) (ty : Int) x.w.heap.size rfl HOZ.out rfl HSRC.out (by rw [HLI.out]; omega) (by omega) ?_; intro g' c' w1 ho1 hb1 hs1; rw [HLI.out] at ho1 ⊢; have HO1 := Lib.hid ho1; have HB1 := Lib.hid hb1; have hbx1 := obj_below hb1 hwo3 HBXz.out; have HBX1 := Lib.hid hbx1; obtain ⟨c0, c1, c2, c3⟩ := box2 hbx1; clear ho1 hb1 hbx1)
          go_roundw
          case rel =>
            have hge := (ownV_lt HO1.out (g := g') rfl).1
            refine ⟨i + 1, .slice (some ⟨g', 0, none⟩) (i + 1) c', by go_num, by omega, ?_, ?_, ?_, by simp; omega⟩
            · rw [HTK.out]
              exact ownV_heap HO1.out fun g hg => set_heap_ne _ (by have : g' = g := (by simpa [Value.ownBlock] using hg); omega)
            · have := obj_setD (i := 1) (.slice (some ⟨g', 0, none⟩) (i + 1) c') HBX1.out
              simpa using this
            · exact ((HBI.out.trans (HBZ.out.mono (by omega))).trans (HB1.out.mono (by omega))).setCell (p := ⟨wo.heap.size, 1, none⟩) (by simp) _
          case measure => simp [intOf]; omega
        · have hke : i = O.length := by omega
          subst hke
          have f2 : decide ((O.length : Int) < (O.length : Int)) = false := decide_eq_false (by omega)
          have hov := HOV.out
          rw [List.take_length] at hov
          have hCi := HM.out.of hbi
          have hfo := HFO.out
          have hmo : ∀ o ∈ O.map (fun o => st.getD o 0), o < L.length := fun o ho => by
            obtain ⟨y, hy, rfl⟩ := List.mem_map.1 ho
            have hyk : y < st.length := by have := HO.out y hy; rw [HN.out] at this; rw [HSL.out]; exact this
            exact hfo.lt y _ (by rw [List.getD_eq_getElem?_getD, List.getElem?_eq_getElem hyk]; rfl)
          have hLi : ∀ x ∈ L, x.2.2.length ≤ 17592186044416 := fun x hx => by have := irr_ins hfo.ok hfo.irr x hx; omega
          have hIS2 : InS (fun b => w3.heap.size ≤ b ∧ (Value.slice va O.length vc).ownBlock = some b) wi va (intsN (O.map fun o => st.getD o 0)) := by
            have h := hov
            rw [show O.length = (intsN (O.map fun o => st.getD o 0)).length by unfold intsN; rw [List.length_map, List.length_map]] at h
            have h2 := inS_of_ownV h
            rwa [show (intsN (O.map fun o => st.getD o 0)).length = O.length by unfold intsN; rw [List.length_map, List.length_map]] at h2
          have hing := HIG.out.of hbi
          have hnd := packed_any L (O.map fun o => st.getD o 0) v _ _ la va lc vc wi hfo.ok hing hIS2 hmo (by omega) (by rw [List.length_map]; omega) hLi
          unfold nV at hnd
          rw [List.length_map] at hnd
          have HND := Lib.hid hnd
          have HCI := Lib.hid hCi
          clear hov hCi hfo hmo hLi hIS2 hing hnd
          go_wp2_with fail
          refine HND.out.mono ?_
          rintro e W9 hret
          have HRET := Lib.hid hret
          obtain ⟨us, ga2, gc2, ov2, -, rfl, -, hov2, -, -, hbel9⟩ := hret
          obtain ⟨oa2, oc2, rfl⟩ := ownV_shape hov2
          obtain ⟨ol, hol2⟩ : ∃ ol, (intsV (intsN (packG (L, O.map fun o => st.getD o 0)).2)).length = ol := ⟨_, rfl⟩
          rw [hol2] at HRET ⊢
          have hres := obj_in hbel9 HCI.out.res
          obtain ⟨r0, r1, r2, r3⟩ := box2 hres
          have hR := obj_set2 (.slice ga2 us.length gc2) (.slice oa2 ol oc2) hres
          obtain ⟨q0, q1, -⟩ := box2 hR
          clear hov2 hbel9 hres hR hol2
          dsimp only
          go_wp2
          refine bodyPost_ret (v := .agg #[.slice ga2 us.length gc2, .slice oa2 ol oc2]) (by simp [results, Tryz.results31, go_sem, q0, q1]) rfl ?_
          rw [HCL.out]
          exact HRET.out.store HCI.out.bel (by omega) (by have := HCI.out.cl.dist; omega) _ _
end Go.Proofs.YtlnedapimmabdaaGreatDoor
