/- The law's clean. -/
import Derived.Test.YtlnedapimmabdaaGreatDoorW6
namespace Go.Proofs.YtlnedapimmabdaaGreatDoor
set_option linter.unusedVariables false
set_option linter.unusedSimpArgs false
open Go.RowKit
attribute [local go_sem low] Bel.cell Bel.frozen alloc_cell alloc_frozen
attribute [local go_sem] calmOp chainOp yieldsC grows

theorem foldG_take {G : List Gt} {k : Nat} {g : Gt} (h : G[k]? = some g) : foldG (G.take (k + 1)) ([], []) = ((stepG (foldG (G.take k) ([], [])).1 (foldG (G.take k) ([], [])).2 g).1, (foldG (G.take k) ([], [])).2 ++ [(stepG (foldG (G.take k) ([], [])).1 (foldG (G.take k) ([], [])).2 g).2]) := by
  rw [take_snoc h, foldG_app, foldG, foldG]
theorem okL_take {v : Nat} {G : List Gt} (h : okL v G) (k : Nat) : okL v (G.take k) := fun i x hx => h i x (by
  rw [List.getElem?_take] at hx
  split at hx
  · exact hx
  · cases hx)
theorem RetNt.store {N : Nt} {w wi W9 : World} {e : Ending} (h : RetNt N wi e W9) (hb : Below w.heap.size w wi) {rb : Nat} (h1 : w.heap.size ≤ rb) (h2 : rb < wi.heap.size) (u1 u2 : Value) : RetNt N w e ((W9.setCell ⟨rb, 0, none⟩ u1).setCell ⟨rb, 1, none⟩ u2) := by
  obtain ⟨us, ga, gc, ov, e1, e2, e3, e4, e5, e6, e7⟩ := h
  have hs := hb.size
  have hk : ∀ b, wi.heap.size ≤ b → ((W9.setCell ⟨rb, 0, none⟩ u1).setCell ⟨rb, 1, none⟩ u2).heap[b]? = W9.heap[b]? := fun b hb => (set_heap_ne _ (by omega)).trans (set_heap_ne _ (by omega))
  exact ⟨us, ga, gc, ov, e1, e2, ownK_lo (ownK_heap e3 fun b hb _ => hk b hb) hs, ownV_mono (ownV_heap e4 fun g hg => hk g (ownV_lt e4 hg).1) hs, e5, e6, ((hb.trans (e7.mono hs)).setCell (p := ⟨rb, 0, none⟩) (by simp; omega) _).setCell (p := ⟨rb, 1, none⟩) (by simp; omega) _⟩
set_option maxRecDepth 100000 in
set_option maxHeartbeats 25600000 in
theorem lawClean_any (G : List Gt) (O : List Nat) (v : Nat) (P Q : Nat → Prop) (ga oa : Option Addr) (gc oc : Nat) (w : World) (hok : okL v G) (hg : InGt P w ga (G.map gz)) (ho : InS Q w oa (intsN O)) (hO : ∀ o ∈ O, o < G.length) (hl : G.length ≤ 10000) (hol : O.length ≤ 1000000) (hil : ∀ g ∈ G, g.2.2.length ≤ 1000000) :
    Calls Tryz.prog 15 #[nV ga G.length gc oa O.length oc] w (RetNt (cleanG (G, O)) w) := by
  obtain ⟨i0, hi0, hz0, hz1, hz2⟩ := info_parts Tryz.infoI
  have HG := Lib.hid hg
  have HOK := Lib.hid hok
  have HOI := Lib.hid ho
  have HO := Lib.hid hO
  have HIL := Lib.hid hil
  obtain ⟨n, hn⟩ : ∃ n, G.length = n := ⟨_, rfl⟩
  have HN := Lib.hid hn
  rw [hn] at hl ⊢
  clear hok hg ho hO hil hn
  unfold nV
  go_enter Tryz.func15, Tryz.ntmps15
  go_wp2_with fail
  have hstart : Cs w #[.slice ga n gc, .slice oa O.length oc] [] [] (.slice none 0 0) (.slice none 0 0) ((w.alloc (.cells #[.slice ga n gc, .slice oa O.length oc] 25)).alloc (.cells #[.slice none 0 0, .slice none 0 0] 25)) :=
    ⟨obj_alloc _ (World.alloc_heap_new w _), alloc2_new w _ _, ownZ_nil _ _ _ _, ownV_nil _ _ _, fun b h => by simp [Value.ownBlock] at h, by (repeat' (first | (with_reducible first | apply Zl1 | apply Zl2 | apply Zl3 | apply Zl4 | apply Zl5 | apply Zl6 | apply Zl7 | apply Zl8 | apply Zl9 | apply Zla | apply Zlb | apply Zlc) | (dsimp only; with_reducible first | apply Zl8 | apply Zl2 | apply Zld) | with_reducible assumption | omega | (dsimp only; omega))), by simp⟩
  have HST := Lib.hid hstart
  clear hstart
  go_loopw [3, 4, 5] (fun lv sv iv wr => ∃ (k : Nat), iv = .int .i64 (k : Int) ∧ k ≤ n ∧ Cs w #[.slice ga n gc, .slice oa O.length oc] (foldG (G.take k) ([], [])).1 (foldG (G.take k) ([], [])).2 lv sv wr) (fun _ _ iv _ => n - (intOf iv).toNat)
  case atStart => exact ⟨0, rfl, Nat.zero_le _, HST.out⟩
  case round =>
    rename World => wo
    obtain ⟨k, rfl, hk, hC⟩ := hrel
    have hfo := foldG_ok (okL_take HOK.out k)
    obtain ⟨s, hs⟩ : ∃ s, foldG (G.take k) ([], []) = s := ⟨_, rfl⟩
    rw [hs] at hC hfo
    obtain ⟨L, st⟩ := s
    dsimp only at hC hfo
    have HS := Lib.hid hs
    have HFO := Lib.hid hfo
    have hLl : L.length ≤ k := by have := hfo.le; rw [List.length_take] at this; omega
    have hstl : st.length = k := by have := hfo.len; rw [List.length_take, HN.out] at this; omega
    obtain ⟨la, lc, hlv⟩ := ownZ_val hC.gts
    rw [List.length_map] at hlv
    subst hlv
    obtain ⟨sa, sc, hsv⟩ := ownV_shape hC.sts
    rw [show (intsV (intsN st)).length = st.length by unfold intsV intsN; rw [List.length_map, List.length_map]] at hsv
    subst hsv
    have HC := Lib.hid hC
    have HSL := Lib.hid hstl
    obtain ⟨n1, n2, -⟩ := box2 hC.net
    have hsz := hC.sz
    clear hC hfo hs hstl
    rcases Nat.lt_or_ge k n with hkl | hkl
    · obtain ⟨gg, hgg⟩ : ∃ gg, G[k]? = some gg := ⟨_, List.getElem?_eq_getElem (by rw [HN.out]; exact hkl)⟩
      obtain ⟨b2, o2, hadd, hb2, ax, cx, y0, y1, y2, hiy⟩ := (HG.out.of HC.out.bel).at (show (G.map gz)[k]? = some (gz gg) by rw [List.getElem?_map, hgg]; rfl)
      subst hadd
      dsimp only [gz] at y0 y1 y2 hiy
      rw [List.length_map] at y2
      have hft := foldG_take hgg
      rw [HS.out] at hft
      dsimp only at hft
      obtain ⟨r, hr⟩ : ∃ r, stepG L st gg = r := ⟨_, rfl⟩
      rw [hr] at hft
      have HFT := Lib.hid hft
      have HR := Lib.hid hr
      have HOG := Lib.hid (HOK.out k gg hgg)
      have HGL := Lib.hid (HIL.out gg (List.mem_of_getElem? hgg))
      have HI2 := Lib.hid hiy
      have hgl := HGL.out
      have f1 : decide ((k : Int) < (n : Int)) = true := decide_eq_true (by omega)
      have hib : (0 ≤ (k : Int) ∧ (k : Int) < (n : Int)) := ⟨by omega, by omega⟩
      clear hgg hiy hft hr
      have hbx := World.alloc_heap_new wo (.cells #[.int .i64 (gg.1 : Int), .int .i64 (gg.2.1 : Int), .slice ax gg.2.2.length cx] 45 (0, 0))
      have hb2w : Below wo.heap.size wo (wo.alloc (.cells #[.int .i64 (gg.1 : Int), .int .i64 (gg.2.1 : Int), .slice ax gg.2.2.length cx] 45)) := (Below.refl _ _).alloc (Nat.le_refl _) _
      have hgbl : wo.heap.size < (wo.alloc (.cells #[.int .i64 (gg.1 : Int), .int .i64 (gg.2.1 : Int), .slice ax gg.2.2.length cx] 45)).heap.size := by simp
      have HBX0 := Lib.hid hbx
      have HB2 := Lib.hid hb2w
      clear hbx hb2w
      go_wp2_with fail
      obtain ⟨w2, hw2⟩ : ∃ w2, wo.alloc (.cells #[.int .i64 (gg.1 : Int), .int .i64 (gg.2.1 : Int), .slice ax gg.2.2.length cx] 45) = w2 := ⟨_, rfl⟩
      obtain ⟨GB, hGB⟩ : ∃ GB, wo.heap.size = GB := ⟨_, rfl⟩
      have hbx := HBX0.out
      have hb2w := HB2.out
      have hIS : InS (fun _ => True) wo sa (intsN st) := by
        have := HC.out.sts
        rw [show st.length = (intsN st).length by unfold intsN; rw [List.length_map]] at this
        exact (inS_of_ownV this).imp fun _ _ _ => trivial
      have hIL := (ownZ_in HC.out.gts)
      obtain ⟨ad', cap', hv2, hing⟩ := hIL
      injection hv2 with hv2 hv3 hv4
      subst hv2 hv4
      clear hv3
      have HC2 := Lib.hid (HC.out.of hb2w)
      have HIS := Lib.hid (hIS.of hb2w)
      have HIG := Lib.hid (hing.of hb2w)
      have HI3 := Lib.hid (HI2.out.of hb2w)
      rw [hw2] at hbx hgbl HC2 HIS HIG HI3 ⊢
      rw [hGB] at hbx hgbl ⊢
      have HBX := Lib.hid hbx
      have hins := okG_ins HOG.out
      have HLL := Lib.hid (show (intsN st).length = st.length from by unfold intsN; rw [List.length_map])
      clear HBX0 HB2 hbx hb2w hw2 hGB n1 n2 y0 y1 y2 HC HI2 hIS hing
      go_loopw [7, 8] (fun nv iv wi => ∃ j : Nat, iv = .int .i64 (j : Int) ∧ j ≤ gg.2.2.length ∧ OwnV wi w2.heap.size 3 nv (intsV (intsN ((gg.2.2.take j).map fun i => st.getD i 0))) ∧ Below w2.heap.size w2 wi) (fun _ iv _ => gg.2.2.length - (intOf iv).toNat)
      case atStart => exact ⟨0, rfl, Nat.zero_le _, ownV_nil _ _ _, Below.refl _ _⟩
      case round =>
        rename World => wi
        obtain ⟨j, rfl, hj, hov, hbi⟩ := hrel
        have hlj : (intsN ((gg.2.2.take j).map fun i => st.getD i 0)).length = j := by
          unfold intsN
          rw [List.length_map, List.length_map, List.length_take]
          omega
        obtain ⟨va, vc, hvv⟩ := ownV_shape hov
        rw [show (intsV (intsN ((gg.2.2.take j).map fun i => st.getD i 0))).length = j by unfold intsV; rw [List.length_map]; exact hlj] at hvv
        subst hvv
        have HOV := Lib.hid hov
        have HBI := Lib.hid hbi
        have HLJ := Lib.hid hlj
        have hwis := hbi.size
        obtain ⟨p0, p1, p2⟩ := box3 (obj_in hbi HBX.out)
        clear hov hlj
        rcases Nat.lt_or_ge j gg.2.2.length with hjl | hjl
        · obtain ⟨y, hy⟩ := some_at hjl
          have hyk := hins y (List.mem_of_getElem? hy)
          obtain ⟨ty, hty⟩ : ∃ ty, st[y]? = some ty := ⟨_, List.getElem?_eq_getElem (by rw [HSL.out]; exact hyk)⟩
          obtain ⟨b3, o3, hadd, hb3, z0⟩ := (HI3.out.of hbi).at (show (gg.2.2.map fun k : Nat => (k : Int))[j]? = some (y : Int) by rw [List.getElem?_map, hy]; rfl)
          obtain ⟨b4, o4, hadd2, hb4, z1⟩ := (HIS.out.of hbi).at (show (intsN st)[y]? = some (ty : Int) by unfold intsN; rw [List.getElem?_map, hty]; rfl)
          subst hadd hadd2
          have HTK := Lib.hid (show intsN ((gg.2.2.take (j + 1)).map fun i => st.getD i 0) = intsN ((gg.2.2.take j).map fun i => st.getD i 0) ++ [(ty : Int)] from by
            rw [take_snoc hy, List.map_append]
            unfold intsN
            rw [List.map_append, List.map_singleton, List.map_singleton, List.getD_eq_getElem?_getD, hty]
            rfl)
          have f2 : decide ((j : Int) < (gg.2.2.length : Int)) = true := decide_eq_true (by omega)
          have hib2 : (0 ≤ (j : Int) ∧ (j : Int) < (gg.2.2.length : Int)) := ⟨by omega, by omega⟩
          have hib3 : (0 ≤ (y : Int) ∧ (y : Int) < (st.length : Int)) := ⟨by omega, by have := HSL.out; omega⟩
          clear hy hty
          go_wp2_with (at_builtin; refine wpList_appI rfl _ _ 23 rfl i0 Tryz.underlying23 hi0 hz0 hz1 hz2 _ w2.heap.size (.slice va j vc) (intsN ((gg.2.2.take j).map fun i => st.getD i 0)) (ty : Int) wi.heap.size rfl (ownV_alloc HOV.out _) rfl (World.alloc_heap_new wi _) (by rw [HLJ.out]; omega) (by simp; omega) ?_; intro g1 c1 w1 ho1 hb1 hs1; rw [HLJ.out] at ho1 ⊢; have HO1 := Lib.hid ho1; have HB1 := Lib.hid hb1; clear ho1 hb1)
          go_roundw
          case rel =>
            refine ⟨j + 1, by go_num, by omega, ?_, HBI.out.trans (((Below.refl _ wi).alloc hwis _).trans HB1.out)⟩
            rw [HTK.out]
            exact HO1.out
          case measure => simp [intOf]; omega
        · have hke : j = gg.2.2.length := by omega
          subst hke
          have f2 : decide ((gg.2.2.length : Int) < (gg.2.2.length : Int)) = false := decide_eq_false (by omega)
          have hov := HOV.out
          rw [List.take_length] at hov
          obtain ⟨ins, hinsE⟩ : ∃ ins, (gg.2.2.map fun i => st.getD i 0) = ins := ⟨_, rfl⟩
          rw [hinsE] at hov
          have hinl : gg.2.2.length = ins.length := by rw [← hinsE, List.length_map]
          have hCi := HC2.out.of hbi
          have HCI := Lib.hid hCi
          have hfo := HFO.out
          have hlt : ∀ y ∈ gg.2.2, st.getD y 0 < L.length := fun y hy => by
            have hyk : y < st.length := by rw [HSL.out]; exact hins y hy
            exact hfo.lt y _ (by rw [List.getD_eq_getElem?_getD, List.getElem?_eq_getElem hyk]; rfl)
          have hinS : InS (fun b => (w.heap.size + 2 ≤ b ∧ (Value.slice sa st.length sc).ownBlock ≠ some b) ∧ (Value.slice la L.length lc).ownBlock ≠ some b) wi va (intsN ins) := by
            have h := hov
            rw [hinl, show ins.length = (intsN ins).length by unfold intsN; rw [List.length_map]] at h
            refine (inS_of_ownV h).imp fun b hl hb2 => ?_
            have hC2 := HC2.out
            refine ⟨⟨by have := hC2.sz; have := hb2.1; omega, fun e => ?_⟩, fun e => ?_⟩
            · have := (ownV_lt hC2.sts e).2; have := hb2.1; omega
            · have := (ownZ_block hC2.gts e).2; have := hb2.1; omega
          have hLi : ∀ x ∈ L, x.2.2.length ≤ 1000000 := fun x hx => by have := irr_ins hfo.ok hfo.irr x hx; omega
          have HFI := Lib.hid (fun (g : Gt) (hg : g.2.2 = []) => (show Calls Tryz.prog 36 #[.slice la L.length lc, .agg #[.int .i64 (g.1 : Int), .int .i64 (g.2.1 : Int), .slice none 0 0]] wi (GR (fun b => w.heap.size + 2 ≤ b ∧ (Value.slice sa st.length sc).ownBlock ≠ some b) (findG L g) (w.heap.size + 2) (.slice la L.length lc) wi) from by
            have := find_any L g (w.heap.size + 2) (.slice la L.length lc) none 0 wi hCi.sz hCi.gts (by rw [hg]; exact inS_nil _ _ _) (by omega) hLi (by rw [hg]; simp)
            unfold gV gz at this
            rw [hg] at this
            exact this))
          have hPc : ∀ b, wi.heap.size ≤ b → (w.heap.size + 2 ≤ b ∧ (Value.slice sa st.length sc).ownBlock ≠ some b) := fun b hb => ⟨by have := hCi.sz; omega, fun e => by have := (ownV_lt hCi.sts e).2; omega⟩
          have hlin : ∀ i ∈ ins, i < L.length := fun i hi => by
            rw [← hinsE] at hi
            obtain ⟨y, hy, rfl⟩ := List.mem_map.1 hi
            exact hlt y hy
          have HJO := Lib.hid (fun (hk : gg.1 = 3 ∨ gg.1 = 4) => (show Calls Tryz.prog 35 #[.slice la L.length lc, .int .i64 (gg.1 : Int), .slice va gg.2.2.length vc] wi (GR (fun b => w.heap.size + 2 ≤ b ∧ (Value.slice sa st.length sc).ownBlock ≠ some b) (joinG L gg.1 ins) (w.heap.size + 2) (.slice la L.length lc) wi) from by
            have := join_any L v gg.1 hk ins (w.heap.size + 2) (.slice la L.length lc) _ va vc wi hfo.ok hCi.sz hCi.gts hinS hlin (by omega) (by omega) hLi hPc
            rw [← hinl] at this
            exact this))
          have HFR := Lib.hid (show Calls Tryz.prog 36 #[.slice la L.length lc, .agg #[.int .i64 2, .int .i64 0, .slice va gg.2.2.length vc]] wi (GR (fun b => w.heap.size + 2 ≤ b ∧ (Value.slice sa st.length sc).ownBlock ≠ some b) (findG L (2, 0, ins)) (w.heap.size + 2) (.slice la L.length lc) wi) from by
            have := find_any L (2, 0, ins) (w.heap.size + 2) (.slice la L.length lc) va vc wi hCi.sz hCi.gts hinS (by omega) hLi (by dsimp only; omega)
            unfold gV gz at this
            dsimp only at this
            rw [List.length_map, ← hinl] at this
            exact this)
          have HIG2 := Lib.hid (HIG.out.of hbi)
          have HOV2 := Lib.hid hov
          have HE := Lib.hid hinsE
          have HLT := Lib.hid hlt
          have HHL := Lib.hid hinl
          have HOKL := Lib.hid hfo.ok
          clear hov hinsE hinl hCi hfo hlt hinS hLi hPc hlin hbi hgl hgbl hsz hins
          by_cases h3 : gg.1 = 3
          · have f3 : ((gg.1 : Int) == 3) = true := by simp [h3]
            have hjr := HJO.out (.inl h3)
            rw [show joinG L gg.1 ins = r by rw [← HR.out, stepG, if_pos (.inl h3), HE.out]] at hjr
            have HJR := Lib.hid hjr
            clear h3 hjr
            go_wp2_with fail
            refine HJR.out.mono ?_
            rintro e W9 hgr
            obtain ⟨lv9, rfl, hC9⟩ := HCI.out.step hgr
            have HC9 := Lib.hid hC9
            have hsz9 := hC9.sz
            clear hgr hC9
            dsimp only
            go_wp2_with (at_builtin; refine wpList_appI2 rfl _ _ 23 rfl i0 Tryz.underlying23 hi0 hz0 hz1 hz2 _ (w.heap.size + 2) (.slice sa st.length sc) (intsN st) (r.2 : Int) W9.heap.size rfl (ownV_alloc HC9.out.sts _) rfl (World.alloc_heap_new W9 _) (by rw [HLL.out, HSL.out]; omega) (by simp; omega) ?_; intro g1 c1 w1 ho1 hg1 h51; rw [HLL.out] at ho1 ⊢; have HO1 := Lib.hid ho1; have HG1 := Lib.hid hg1; have H51 := Lib.hid h51; clear ho1 hg1 h51)
            refine ⟨⟨k + 1, by go_num, by omega, ?_⟩, by simp [intOf]; omega⟩
            rw [HFT.out]
            exact HC9.out.push ((Below.refl _ W9).alloc (Nat.le_refl _) _) HO1.out HG1.out H51.out
          by_cases h4 : gg.1 = 4
          · have f3 : ((gg.1 : Int) == 3) = false := by simp; omega
            have f4 : ((gg.1 : Int) == 4) = true := by simp [h4]
            have hjr := HJO.out (.inr h4)
            rw [show joinG L gg.1 ins = r by rw [← HR.out, stepG, if_pos (.inr h4), HE.out]] at hjr
            have HJR := Lib.hid hjr
            clear h3 h4 hjr
            go_wp2_with fail
            refine HJR.out.mono ?_
            rintro e W9 hgr
            obtain ⟨lv9, rfl, hC9⟩ := HCI.out.step hgr
            have HC9 := Lib.hid hC9
            have hsz9 := hC9.sz
            clear hgr hC9
            dsimp only
            go_wp2_with (at_builtin; refine wpList_appI2 rfl _ _ 23 rfl i0 Tryz.underlying23 hi0 hz0 hz1 hz2 _ (w.heap.size + 2) (.slice sa st.length sc) (intsN st) (r.2 : Int) W9.heap.size rfl (ownV_alloc HC9.out.sts _) rfl (World.alloc_heap_new W9 _) (by rw [HLL.out, HSL.out]; omega) (by simp; omega) ?_; intro g1 c1 w1 ho1 hg1 h51; rw [HLL.out] at ho1 ⊢; have HO1 := Lib.hid ho1; have HG1 := Lib.hid hg1; have H51 := Lib.hid h51; clear ho1 hg1 h51)
            refine ⟨⟨k + 1, by go_num, by omega, ?_⟩, by simp [intOf]; omega⟩
            rw [HFT.out]
            exact HC9.out.push ((Below.refl _ W9).alloc (Nat.le_refl _) _) HO1.out HG1.out H51.out
          have h34 : ¬ (gg.1 = 3 ∨ gg.1 = 4) := fun h => h.elim h3 h4
          have f3 : ((gg.1 : Int) == 3) = false := by simp; omega
          have f4 : ((gg.1 : Int) == 4) = false := by simp; omega
          by_cases h2 : gg.1 ≠ 2
          · have f5 : ((gg.1 : Int) != 2) = true := by simp; omega
            have hjr := HFI.out (gg.1, gg.2.1, []) rfl
            rw [show findG L (gg.1, gg.2.1, []) = r by rw [← HR.out, stepG, if_neg h34, if_pos h2]] at hjr
            have HJR := Lib.hid hjr
            clear h3 h4 hjr h34 h2
            go_wp2_with fail
            refine HJR.out.mono ?_
            rintro e W9 hgr
            obtain ⟨lv9, rfl, hC9⟩ := HCI.out.step hgr
            have HC9 := Lib.hid hC9
            have hsz9 := hC9.sz
            clear hgr hC9
            dsimp only
            go_wp2_with (at_builtin; refine wpList_appI2 rfl _ _ 23 rfl i0 Tryz.underlying23 hi0 hz0 hz1 hz2 _ (w.heap.size + 2) (.slice sa st.length sc) (intsN st) (r.2 : Int) W9.heap.size rfl (ownV_alloc HC9.out.sts _) rfl (World.alloc_heap_new W9 _) (by rw [HLL.out, HSL.out]; omega) (by simp; omega) ?_; intro g1 c1 w1 ho1 hg1 h51; rw [HLL.out] at ho1 ⊢; have HO1 := Lib.hid ho1; have HG1 := Lib.hid hg1; have H51 := Lib.hid h51; clear ho1 hg1 h51)
            refine ⟨⟨k + 1, by go_num, by omega, ?_⟩, by simp [intOf]; omega⟩
            rw [HFT.out]
            exact HC9.out.push ((Below.refl _ W9).alloc (Nat.le_refl _) _) HO1.out HG1.out H51.out
          have f5 : ((gg.1 : Int) != 2) = false := by simp; omega
          obtain ⟨k0, hk0, hki⟩ : ∃ k0, gg.2.2 = [k0] ∧ k0 < k := by
            rcases HOG.out with ⟨h, _⟩ | ⟨_, _, k0, h, h'⟩ | ⟨h, _⟩ | ⟨h, _⟩
            · omega
            · exact ⟨k0, h, h'⟩
            · omega
            · omega
          obtain ⟨a, ha⟩ : ∃ a, st.getD k0 0 = a := ⟨_, rfl⟩
          have hins1 : ins = [a] := by rw [← HE.out, hk0, ← ha]; rfl
          have haL : a < L.length := by rw [← ha]; exact HLT.out k0 (by rw [hk0]; simp)
          have hlen1 : gg.2.2.length = 1 := by rw [hk0]; rfl
          have hov := HOV2.out
          have hH := HHL.out
          rw [hins1] at hov
          have hii : InS (fun _ => True) wi va (intsN [a]) := by
            rw [hlen1] at hov
            exact (inS_of_ownV hov).imp fun _ _ _ => trivial
          obtain ⟨b5, o5, hadd5, hb5, z5⟩ := hii.at (j := 0) (x := (a : Int)) rfl
          rw [Nat.add_zero] at z5
          obtain ⟨ga2, hga2⟩ : ∃ ga2, L[a]? = some ga2 := ⟨_, List.getElem?_eq_getElem haL⟩
          obtain ⟨b6, o6, hadd6, hb6, ax6, cx6, w0, -, w2c, hi6⟩ := HIG2.out.at (show (L.map gz)[a]? = some (gz ga2) by rw [List.getElem?_map, hga2]; rfl)
          dsimp only [gz] at w0 w2c hi6
          rw [List.length_map] at w2c
          have hkd : kd L a = ga2.1 := by rw [kd, gtAt_some hga2]
          have hh1 : hd1 L a = ga2.2.2.headD 0 := by rw [hd1, gtAt_some hga2]
          have hstep : stepG L st gg = (if kd L a = 5 ∨ kd L a = 6 then findG L (11 - kd L a, 0, []) else if kd L a = 2 then (L, hd1 L a) else findG L (2, 0, [a])) := by
            rw [stepG, if_neg h34, if_neg h2, hk0, List.headD_cons, ha]
          rw [HR.out, hkd, hh1] at hstep
          have hib5 : (0 ≤ (a : Int) ∧ (a : Int) < (L.length : Int)) := ⟨by omega, by omega⟩
          have HSTEP := Lib.hid hstep
          have HI6 := Lib.hid hi6
          have HGA := Lib.hid (HOKL.out a ga2 hga2)
          have hfr := HFR.out
          rw [hins1, hlen1] at hfr
          have HFR2 := Lib.hid hfr
          have HJC := Lib.hid (fun (kk : Nat) => HFI.out (kk, 0, []) rfl)
          subst hadd5 hadd6
          clear HI3 HFR HFI HJO hfr hstep hi6 hga2 hkd hh1 hii hov hH HOV2 HHL HE HLT h34 h2 h3 h4 hins1 hk0 ha HIG2
          rw [hlen1] at p2
          by_cases h6 : ga2.1 = 6
          · rw [h6] at w0
            have w0' : wi.cell? ⟨b6, o6 + a * 3, none⟩ = some (.int .i64 6) := w0
            have hjr := HJC.out 5
            have hs := HSTEP.out
            rw [if_pos (.inr h6), h6] at hs
            rw [show findG L (5, 0, []) = r from hs.symm] at hjr
            have HJR := Lib.hid hjr
            clear w0 hjr hs h6 w2c
            go_wp2_with fail
            refine HJR.out.mono ?_
            rintro e W9 hgr
            obtain ⟨lv9, rfl, hC9⟩ := HCI.out.step hgr
            have HC9 := Lib.hid hC9
            have hsz9 := hC9.sz
            clear hgr hC9
            dsimp only
            go_wp2_with (at_builtin; refine wpList_appI2 rfl _ _ 23 rfl i0 Tryz.underlying23 hi0 hz0 hz1 hz2 _ (w.heap.size + 2) (.slice sa st.length sc) (intsN st) (r.2 : Int) W9.heap.size rfl (ownV_alloc HC9.out.sts _) rfl (World.alloc_heap_new W9 _) (by rw [HLL.out, HSL.out]; omega) (by simp; omega) ?_; intro g1 c1 w1 ho1 hg1 h51; rw [HLL.out] at ho1 ⊢; have HO1 := Lib.hid ho1; have HG1 := Lib.hid hg1; have H51 := Lib.hid h51; clear ho1 hg1 h51)
            refine ⟨⟨k + 1, by go_num, by omega, ?_⟩, by simp [intOf]; omega⟩
            rw [HFT.out]
            exact HC9.out.push ((Below.refl _ W9).alloc (Nat.le_refl _) _) HO1.out HG1.out H51.out
          by_cases h5 : ga2.1 = 5
          · rw [h5] at w0
            have w0' : wi.cell? ⟨b6, o6 + a * 3, none⟩ = some (.int .i64 5) := w0
            have hjr := HJC.out 6
            have hs := HSTEP.out
            rw [if_pos (.inl h5), h5] at hs
            rw [show findG L (6, 0, []) = r from hs.symm] at hjr
            have HJR := Lib.hid hjr
            clear w0 hjr hs h5 h6 w2c
            go_wp2_with fail
            refine HJR.out.mono ?_
            rintro e W9 hgr
            obtain ⟨lv9, rfl, hC9⟩ := HCI.out.step hgr
            have HC9 := Lib.hid hC9
            have hsz9 := hC9.sz
            clear hgr hC9
            dsimp only
            go_wp2_with (at_builtin; refine wpList_appI2 rfl _ _ 23 rfl i0 Tryz.underlying23 hi0 hz0 hz1 hz2 _ (w.heap.size + 2) (.slice sa st.length sc) (intsN st) (r.2 : Int) W9.heap.size rfl (ownV_alloc HC9.out.sts _) rfl (World.alloc_heap_new W9 _) (by rw [HLL.out, HSL.out]; omega) (by simp; omega) ?_; intro g1 c1 w1 ho1 hg1 h51; rw [HLL.out] at ho1 ⊢; have HO1 := Lib.hid ho1; have HG1 := Lib.hid hg1; have H51 := Lib.hid h51; clear ho1 hg1 h51)
            refine ⟨⟨k + 1, by go_num, by omega, ?_⟩, by simp [intOf]; omega⟩
            rw [HFT.out]
            exact HC9.out.push ((Below.refl _ W9).alloc (Nat.le_refl _) _) HO1.out HG1.out H51.out
          have f6 : ((ga2.1 : Int) == 6) = false := by simp; omega
          have f7 : ((ga2.1 : Int) == 5) = false := by simp; omega
          have hs := HSTEP.out
          rw [if_neg (fun h => h.elim h5 h6)] at hs
          by_cases h2 : ga2.1 = 2
          · have f8 : ((ga2.1 : Int) == 2) = true := by simp [h2]
            obtain ⟨m, hm, hma⟩ : ∃ m, ga2.2.2 = [m] ∧ m < a := by
              rcases HGA.out with ⟨h, _⟩ | ⟨_, _, k0, h, h'⟩ | ⟨h, _⟩ | ⟨h, _⟩
              · omega
              · exact ⟨k0, h, h'⟩
              · omega
              · omega
            have hi6 := HI6.out
            rw [hm] at w2c hi6
            obtain ⟨b7, o7, hadd7, hb7, z7⟩ := hi6.at (j := 0) (x := (m : Int)) rfl
            subst hadd7
            rw [Nat.add_zero] at z7
            dsimp only [List.length_cons, List.length_nil, Nat.zero_add] at w2c
            rw [if_pos h2, hm, List.headD_cons] at hs
            have hr2 : r.2 = m := by rw [hs]
            have hr1 : r.1 = L := by rw [hs]
            have HR1 := Lib.hid (And.intro hr1 hr2)
            have HC9 := HCI
            have hsz9 := HC9.out.sz
            clear h2 h5 h6 hs hm hi6 hr1 hr2
            go_wp2_with (at_builtin; refine wpList_appI2 rfl _ _ 23 rfl i0 Tryz.underlying23 hi0 hz0 hz1 hz2 _ (w.heap.size + 2) (.slice sa st.length sc) (intsN st) (m : Int) wi.heap.size rfl (ownV_alloc HC9.out.sts _) rfl (World.alloc_heap_new wi _) (by rw [HLL.out, HSL.out]; omega) (by simp; omega) ?_; intro g1 c1 w1 ho1 hg1 h51; rw [HLL.out] at ho1 ⊢; have HO1 := Lib.hid ho1; have HG1 := Lib.hid hg1; have H51 := Lib.hid h51; clear ho1 hg1 h51)
            refine ⟨⟨k + 1, by go_num, by omega, ?_⟩, by simp [intOf]; omega⟩
            rw [HFT.out, HR1.out.1, HR1.out.2]
            exact HC9.out.push ((Below.refl _ wi).alloc (Nat.le_refl _) _) HO1.out HG1.out H51.out
          · have f8 : ((ga2.1 : Int) == 2) = false := by simp; omega
            rw [if_neg h2] at hs
            have hjr := HFR2.out
            rw [show findG L (2, 0, [a]) = r from hs.symm] at hjr
            have HJR := Lib.hid hjr
            clear hs hjr h2 h5 h6 w2c
            go_wp2_with fail
            refine HJR.out.mono ?_
            rintro e W9 hgr
            obtain ⟨lv9, rfl, hC9⟩ := HCI.out.step hgr
            have HC9 := Lib.hid hC9
            have hsz9 := hC9.sz
            clear hgr hC9
            dsimp only
            go_wp2_with (at_builtin; refine wpList_appI2 rfl _ _ 23 rfl i0 Tryz.underlying23 hi0 hz0 hz1 hz2 _ (w.heap.size + 2) (.slice sa st.length sc) (intsN st) (r.2 : Int) W9.heap.size rfl (ownV_alloc HC9.out.sts _) rfl (World.alloc_heap_new W9 _) (by rw [HLL.out, HSL.out]; omega) (by simp; omega) ?_; intro g1 c1 w1 ho1 hg1 h51; rw [HLL.out] at ho1 ⊢; have HO1 := Lib.hid ho1; have HG1 := Lib.hid hg1; have H51 := Lib.hid h51; clear ho1 hg1 h51)
            refine ⟨⟨k + 1, by go_num, by omega, ?_⟩, by simp [intOf]; omega⟩
            rw [HFT.out]
            exact HC9.out.push ((Below.refl _ W9).alloc (Nat.le_refl _) _) HO1.out HG1.out H51.out
    · have hke : k = n := by omega
      subst hke
      have f1 : decide ((k : Int) < (k : Int)) = false := decide_eq_false (by omega)
      have hcl : cleanG (G, O) = packG (L, O.map fun o => st.getD o 0) := by
        have e : foldG G ([], []) = (L, st) := by
          have := HS.out
          rwa [show G.take k = G by rw [← HN.out, List.take_length]] at this
        unfold cleanG
        dsimp only
        rw [e]
      have hIS : InS (fun _ => True) wo sa (intsN st) := by
        have := HC.out.sts
        rw [show st.length = (intsN st).length by unfold intsN; rw [List.length_map]] at this
        exact (inS_of_ownV this).imp fun _ _ _ => trivial
      have HIS := Lib.hid hIS
      have hob := World.alloc_heap_new wo (.cells #[.slice la L.length lc, .slice none 0 0] 25 (0, 0))
      have hb3w : Below wo.heap.size wo (wo.alloc (.cells #[.slice la L.length lc, .slice none 0 0] 25)) := (Below.refl _ _).alloc (Nat.le_refl _) _
      have hobl : (wo.alloc (.cells #[.slice la L.length lc, .slice none 0 0] 25)).heap.size = wo.heap.size + 1 := World.size_alloc _ _
      have HOB0 := Lib.hid hob
      have HB30 := Lib.hid hb3w
      have HCL := Lib.hid hcl
      clear hcl hIS hob hb3w
      go_wp2_with fail
      obtain ⟨w3, hw3⟩ : ∃ w3, wo.alloc (.cells #[.slice la L.length lc, .slice none 0 0] 25) = w3 := ⟨_, rfl⟩
      rw [hw3] at HOB0 HB30 hobl ⊢
      have HN1 := Lib.hid n2
      clear hw3 n1 n2
      go_loopw [11] (fun iv wi => ∃ (i : Nat) (ov : Value), iv = .int .i64 (i : Int) ∧ i ≤ O.length ∧ OwnV wi w3.heap.size 3 ov (intsV (intsN ((O.take i).map fun o => st.getD o 0))) ∧ wi.heap[wo.heap.size]? = some (.cells #[.slice la L.length lc, ov] 25 (0, 0)) ∧ Below wo.heap.size wo wi ∧ w3.heap.size ≤ wi.heap.size) (fun iv _ => O.length - (intOf iv).toNat)
      case atStart => exact ⟨0, _, rfl, Nat.zero_le _, ownV_nil _ _ _, HOB0.out, HB30.out, Nat.le_refl _⟩
      case round =>
        rename World => wi
        obtain ⟨i, ov, rfl, hi, hov, hob, hbi, hszi⟩ := hrel
        have hli : (intsN ((O.take i).map fun o => st.getD o 0)).length = i := by
          unfold intsN
          rw [List.length_map, List.length_map, List.length_take]
          omega
        obtain ⟨va, vc, hvv⟩ := ownV_shape hov
        rw [show (intsV (intsN ((O.take i).map fun o => st.getD o 0))).length = i by unfold intsV; rw [List.length_map]; exact hli] at hvv
        subst hvv
        have HOV := Lib.hid hov
        have HOB := Lib.hid hob
        have HBI := Lib.hid hbi
        have HLI := Lib.hid hli
        have m1 := below_cell hbi _ _ _ HN1.out
        obtain ⟨c0, c1, c2, c3⟩ := box2 hob
        clear hov hob hli
        rcases Nat.lt_or_ge i O.length with hil | hil
        · obtain ⟨y, hy⟩ := some_at hil
          have hyn := HO.out y (List.mem_of_getElem? hy)
          rw [HN.out] at hyn
          obtain ⟨ty, hty⟩ : ∃ ty, st[y]? = some ty := ⟨_, List.getElem?_eq_getElem (by rw [HSL.out]; exact hyn)⟩
          obtain ⟨b3, o3, hadd, hb3, z0⟩ := (HOI.out.of (HC.out.bel.trans (hbi.mono HC.out.bel.size))).at (show (intsN O)[i]? = some (y : Int) by unfold intsN; rw [List.getElem?_map, hy]; rfl)
          obtain ⟨b4, o4, hadd2, hb4, z1⟩ := (HIS.out.of hbi).at (show (intsN st)[y]? = some (ty : Int) by unfold intsN; rw [List.getElem?_map, hty]; rfl)
          subst hadd hadd2
          have HTK := Lib.hid (show intsN ((O.take (i + 1)).map fun o => st.getD o 0) = intsN ((O.take i).map fun o => st.getD o 0) ++ [(ty : Int)] from by
            rw [take_snoc hy, List.map_append]
            unfold intsN
            rw [List.map_append, List.map_singleton, List.map_singleton, List.getD_eq_getElem?_getD, hty]
            rfl)
          have f2 : decide ((i : Int) < (O.length : Int)) = true := decide_eq_true (by omega)
          have hib2 : (0 ≤ (i : Int) ∧ (i : Int) < (O.length : Int)) := ⟨by omega, by omega⟩
          have hib3 : (0 ≤ (y : Int) ∧ (y : Int) < (st.length : Int)) := ⟨by omega, by have := HSL.out; omega⟩
          clear hy hty
          go_wp2_with fail
          refine wp_region_plan 11 (.calm 0 (.calm 1 (.calm 2 (.calm 3 (.calm 4 (.calm 5 (.calm 6 (.calm 7 (.calm 8 (.calm 9 (.fork 10 .tail .none))))))))))) (by kernel_rfl) (by kernel_rfl) ?_
          simp only [Plan.walk, operAt, List.getElem?_cons_succ, List.getElem?_cons_zero, Option.getD_some, List.drop_succ_cons, List.drop_zero]
          repeat (refine wpX_calm (fun K hK => ?_); go_simp; first | (refine hK _ _ ?_; clear hK K) | (apply Exists.intro; refine ⟨fun _ => ?_, hK _ _ ?_⟩; (fail); clear hK K))
          refine wpX_only (fun K hK => ?_)
          go_simp
          intro x
          refine ⟨(Below.refl _ _).alloc (Nat.le_refl _) _, hK _ _ ?_⟩
          clear hK K
          repeat (refine wpX_calm (fun K hK => ?_); go_simp; first | (refine hK _ _ ?_; clear hK K) | (apply Exists.intro; refine ⟨fun _ => ?_, hK _ _ ?_⟩; (fail); clear hK K))
          refine wpX_tail ?_
          intro z
          have hsrc := obj_bel z (World.alloc_heap_new x.w (.cells #[.int .i64 (ty : Int)] 3 (0, 0)))
          have hbz : Below wi.heap.size wi z.w := by (repeat' (first | (with_reducible first | apply Zl1 | apply Zl2 | apply Zl3 | apply Zl4 | apply Zl5 | apply Zl6 | apply Zl7 | apply Zl8 | apply Zl9 | apply Zla | apply Zlb | apply Zlc) | (dsimp only; with_reducible first | apply Zl8 | apply Zl2 | apply Zld) | with_reducible assumption | omega | (dsimp only; omega)))
          have HOZ := Lib.hid (show OwnV z.w w3.heap.size 3 (.slice va i vc) (intsV (intsN ((O.take i).map fun o => st.getD o 0))) from ownV_heap HOV.out fun g hg => hbz.block g (ownV_lt HOV.out hg).2)
          have HBXz := Lib.hid (obj_in hbz HOB.out)
          have HBZ := Lib.hid hbz
          have HSRC := Lib.hid hsrc
          have hszz := hbz.size
          have hwo3 : wo.heap.size < w3.heap.size := by omega
          clear hsrc hbz c0 c1 c2 c3
          go_wp2_with (at_builtin; refine wpList_appI rfl _ _ 23 rfl i0 Tryz.underlying23 hi0 hz0 hz1 hz2 _ w3.heap.size (.slice va i vc) (intsN ((O.take i).map fun o => st.getD o 0)) (ty : Int) x.w.heap.size rfl HOZ.out rfl HSRC.out (by rw [HLI.out]; omega) (by omega) ?_; intro g' c' w1 ho1 hb1 hs1; rw [HLI.out] at ho1 ⊢; have HO1 := Lib.hid ho1; have HB1 := Lib.hid hb1; have hbx1 := obj_below hb1 hwo3 HBXz.out; have HBX1 := Lib.hid hbx1; obtain ⟨c0, c1, c2, c3⟩ := box2 hbx1; clear ho1 hb1 hbx1)
          go_roundw
          case rel =>
            have hge := (ownV_lt HO1.out (g := g') rfl).1
            refine ⟨i + 1, .slice (some ⟨g', 0, none⟩) (i + 1) c', by go_num, by omega, ?_, ?_, ?_, by simp; omega⟩
            · rw [HTK.out]
              exact ownV_heap HO1.out fun g hg => set_heap_ne _ (by have : g' = g := (by simpa [Value.ownBlock] using hg); omega)
            · have := obj_setD (i := 1) (.slice (some ⟨g', 0, none⟩) (i + 1) c') HBX1.out
              simpa using this
            · exact ((HBI.out.trans (HBZ.out.mono (by omega))).trans (HB1.out.mono (by omega))).setCell (p := ⟨wo.heap.size, 1, none⟩) (by simp) _
          case measure => simp [intOf]; omega
        · have hke : i = O.length := by omega
          subst hke
          have f2 : decide ((O.length : Int) < (O.length : Int)) = false := decide_eq_false (by omega)
          have hov := HOV.out
          rw [List.take_length] at hov
          have hCi := HC.out.of hbi
          have hfo := HFO.out
          have hmo : ∀ o ∈ O.map (fun o => st.getD o 0), o < L.length := fun o ho => by
            obtain ⟨y, hy, rfl⟩ := List.mem_map.1 ho
            have hyk : y < st.length := by have := HO.out y hy; rw [HN.out] at this; rw [HSL.out]; exact this
            exact hfo.lt y _ (by rw [List.getD_eq_getElem?_getD, List.getElem?_eq_getElem hyk]; rfl)
          have hLi : ∀ x ∈ L, x.2.2.length ≤ 100000000 := fun x hx => by have := irr_ins hfo.ok hfo.irr x hx; omega
          have hIS2 : InS (fun b => w3.heap.size ≤ b ∧ (Value.slice va O.length vc).ownBlock = some b) wi va (intsN (O.map fun o => st.getD o 0)) := by
            have h := hov
            rw [show O.length = (intsN (O.map fun o => st.getD o 0)).length by unfold intsN; rw [List.length_map, List.length_map]] at h
            have h2 := inS_of_ownV h
            rwa [show (intsN (O.map fun o => st.getD o 0)).length = O.length by unfold intsN; rw [List.length_map, List.length_map]] at h2
          obtain ⟨ad', cap', hv2, hing⟩ := ownZ_in hCi.gts
          injection hv2 with hv2 hv3 hv4
          subst hv2 hv4
          have hnd := needed_any L (O.map fun o => st.getD o 0) v _ _ la va lc vc wi hfo.ok hing hIS2 hmo (by omega) (by rw [List.length_map]; omega) hLi
          unfold nV at hnd
          rw [List.length_map] at hnd
          have HND := Lib.hid hnd
          have HCI := Lib.hid hCi
          clear hov hCi hfo hmo hLi hIS2 hing hnd hv3
          go_wp2_with fail
          refine HND.out.mono ?_
          rintro e W9 hret
          have HRET := Lib.hid hret
          obtain ⟨us, ga2, gc2, ov2, -, rfl, -, hov2, -, -, hbel9⟩ := hret
          obtain ⟨oa2, oc2, rfl⟩ := ownV_shape hov2
          obtain ⟨ol, hol2⟩ : ∃ ol, (intsV (intsN (packG (L, O.map fun o => st.getD o 0)).2)).length = ol := ⟨_, rfl⟩
          rw [hol2] at HRET ⊢
          have hres := obj_in hbel9 HCI.out.res
          obtain ⟨r0, r1, r2, r3⟩ := box2 hres
          have hR := obj_set2 (.slice ga2 us.length gc2) (.slice oa2 ol oc2) hres
          obtain ⟨q0, q1, -⟩ := box2 hR
          clear hov2 hbel9 hres hR hol2
          dsimp only
          go_wp2
          refine bodyPost_ret (v := .agg #[.slice ga2 us.length gc2, .slice oa2 ol oc2]) (by simp [results, Tryz.results15, go_sem, q0, q1]) rfl ?_
          rw [HCL.out]
          exact HRET.out.store HCI.out.bel (by omega) (by have := HCI.out.sz; omega) _ _
end Go.Proofs.YtlnedapimmabdaaGreatDoor
