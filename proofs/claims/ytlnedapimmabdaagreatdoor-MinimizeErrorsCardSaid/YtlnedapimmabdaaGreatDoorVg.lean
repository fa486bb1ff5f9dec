/- minimize.diagrams. -/
import Derived.Test.YtlnedapimmabdaaGreatDoorVf
namespace Go.Proofs.YtlnedapimmabdaaGreatDoor
set_option linter.unusedVariables false
set_option linter.unusedSimpArgs false
open Go.RowKit Go.Maps
attribute [local go_sem low] Bel.cell Bel.frozen alloc_cell alloc_frozen

theorem Tryz.infoDg : (Tryz.prog.info? 63).map (fun i => (i.zero, i.size, i.bytes)) = some (some (.agg #[.slice none 0 0, .int .i64 0]), 2, 32) := by kernel_rfl
def RetDs (R : Fn3 → Dg3 → Prop) (G : List Gt) (on : Nat → Bool) (w : World) (e : Ending) (w' : World) : Prop := ∃ (ds : List DN) (T : Nat), e = .returned (.tuple #[.slice (some ⟨T, 0, none⟩) G.length G.length, .int .i64 0]) ∧ DsS w' w.heap.size T G.length ds ∧ (∀ (i : Nat) (x : DN), ds[i]? = some x → on i = true → R (fun ρ => vl ρ G i) x.2.2) ∧ Below w.heap.size w w'
theorem con1 (w : World) : Calls Tryz.prog 62 #[.bool true] w (Ret (.agg #[.slice none 0 0, .int .i64 1]) w) := Constant_any true w
theorem con0 (w : World) : Calls Tryz.prog 62 #[.bool false] w (Ret (.agg #[.slice none 0 0, .int .i64 0]) w) := Constant_any false w
def Fj (G : List Gt) (i : Nat) (g : Gt) (j : Nat) : Fn3 := if g.1 = 3 then fun ρ => (g.2.2.take j).all (vl ρ G) else if g.1 = 4 then fun ρ => (g.2.2.take j).any (vl ρ G) else fun ρ => vl ρ G i
theorem Fj_all {v : Nat} {G : List Gt} (ho : okL v G) {i : Nat} {g : Gt} (h : G[i]? = some g) : Fj G i g g.2.2.length = fun ρ => vl ρ G i := by
  have hil := (List.getElem?_eq_some_iff.1 h).1
  unfold Fj
  split
  · rename_i h3
    funext ρ
    rw [List.take_length, vl_at ho ρ hil, gtAt_some h, ev1, if_neg (by omega), if_neg (by omega), if_pos h3]
  · split
    · rename_i h3 h4
      funext ρ
      rw [List.take_length, vl_at ho ρ hil, gtAt_some h, ev1, if_neg (by omega), if_neg (by omega), if_neg h3, if_pos h4]
    · rfl
theorem cellsDg_app : ∀ l r, cellsDg (l ++ r) = cellsDg l ++ cellsDg r
  | [], r => rfl
  | x :: l, r => by rw [List.cons_append, cellsDg, cellsDg, cellsDg_app l r]; rfl
theorem made_dg : ∀ n, (madeCells #[.slice none 0 0, .int .i64 0] (n * 2)).toList = cellsDg (List.replicate n (none, 0, [], 0))
  | 0 => by simp [madeCells, cellsDg]
  | n + 1 => by
    have ih := made_dg n
    rw [List.replicate_succ', cellsDg_app, ← ih]
    unfold madeCells
    simp only [Array.toList_map, Array.toList_range]
    rw [show (n + 1) * 2 = n * 2 + 1 + 1 by omega, List.range_succ, List.range_succ, List.map_append, List.map_append, List.append_assoc]
    congr 1
    have e1 : n * 2 % 2 = 0 := by omega
    have e2 : (n * 2 + 1) % 2 = 1 := by omega
    simp [cellsDg, e1, e2]
theorem dsS_made {wM : World} {n : Nat} {T : Nat} {lo : Nat} (h : wM.ownsRow lo 63 2 (.slice (some ⟨T, 0, none⟩) n n) n (madeCells (Value.agg #[.slice none 0 0, .int .i64 0]).cells (n * 2)).toList) : DsS wM lo T n (List.replicate n (none, 0, [], 0)) := by
  rw [show (Value.agg #[.slice none 0 0, .int .i64 0]).cells = #[.slice none 0 0, .int .i64 0] from rfl, made_dg] at h
  exact ⟨h, List.length_replicate .., fun x hx => by rw [(List.mem_replicate.1 hx).2]; exact ⟨inD_nil _ _ _, fun g off k e => by cases e⟩⟩
set_option maxRecDepth 100000 in
set_option maxHeartbeats 25600000 in
theorem diagrams_any (R : Fn3 → Dg3 → Prop) (G : List Gt) (O : List Nat) (v : Nat) (P Q : Nat → Prop) (ga oa : Option Addr) (gc oc : Nat) (w : World) (hD : DgNet R G (reachG G O)) (hok : okL v G) (hg : InGt P w ga (G.map gz)) (ho : InS Q w oa (intsN O)) (hO : ∀ o ∈ O, o < G.length) (hl : G.length ≤ 1000000) (hol : O.length ≤ 100000000) (hil : ∀ g ∈ G, g.2.2.length ≤ 17592186044416) :
    Calls Tryz.prog 39 #[nV ga G.length gc oa O.length oc] w (RetDs R G (reachG G O) w) := by
  obtain ⟨i0, hi0, hz0, hz1, hz2⟩ := info_parts Tryz.infoDg
  have HRE := Lib.hid (fun w' (hb : Below w.heap.size w w') => reached_any G O v P Q ga oa oa gc oc O.length oc w' hok (hg.of hb) (ho.of hb) hO hl hol hil)
  have HG := Lib.hid hg
  have HOK := Lib.hid hok
  have HIL := Lib.hid hil
  have HD := Lib.hid hD
  have HCLO := Lib.hid (show ∀ i k g, G[i]? = some g → reachG G O i = true → k ∈ g.2.2 → reachG G O k = true from fun i k g hi hon hk => reachG_closed hok O (List.getElem?_eq_some_iff.1 hi).1 hon (by rw [gtAt_some hi]; exact hk))
  unfold RetDs
  obtain ⟨on, hon⟩ : ∃ on, reachG G O = on := ⟨_, rfl⟩
  rw [hon] at HRE HD HCLO ⊢
  obtain ⟨n, hn⟩ : ∃ n, G.length = n := ⟨_, rfl⟩
  have HN := Lib.hid hn
  rw [hn] at hl HRE ⊢
  unfold nV at HRE
  clear hok hg ho hO hil hn hon hD
  unfold nV
  have hnet0 := World.alloc_heap_new w (.cells #[.slice ga n gc, .slice oa O.length oc] 25 (0, 0))
  have HNET0 := Lib.hid hnet0
  clear hnet0
  go_enter Tryz.func39, Tryz.ntmps39
  go_wp2_with (at_make; refine wpList_make_full _ rfl _ _ 46 rfl w.heap.size 63 i0 (.agg #[.slice none 0 0, .int .i64 0]) 2 Tryz.underlying46 hi0 hz0 hz1 _ _ _ _ n rfl rfl (by first | rfl | omega | (simp <;> omega)) (by first | rfl | omega | (simp <;> omega)) (by rw [hz2] <;> omega) (by unfold maxLen; omega) (by first | omega | (simp <;> omega)) ?_; intro wM hownM hgrowM; have HOM := Lib.hid hownM; have HGM := Lib.hid hgrowM; have hnet := (hgrowM.block w.heap.size (by simp) (by simp)).trans HNET0.out; obtain ⟨n1, n2, -⟩ := box2 hnet; have HNE := Lib.hid hnet; clear hownM hgrowM hnet)
  have hbM : Below w.heap.size w wM := ((Below.refl _ w).alloc (Nat.le_refl _) _).grown HGM.out (by simp) (fun k e => by cases e)
  have hds0 : DsS wM w.heap.size (w.heap.size + 1) n (List.replicate n (none, 0, [], 0)) := dsS_made (by have := HOM.out; rwa [World.size_alloc] at this)
  refine (HRE.out _ hbM).mono ?_
  rintro _ W1 ⟨gb, cb, rfl, hob, hb1⟩
  rw [bsOf_len]
  have hds1 := hds0.of hb1
  obtain ⟨ocur, o3⟩ := ownB_obj hob
  have hnet1 := obj_in hb1 HNE.out
  have hb1w := hbM.trans (hb1.mono hbM.size)
  have hgbl := ownB_lt hob
  have HOB := Lib.hid hob
  have HO3 := Lib.hid o3
  have HDS := Lib.hid hds1
  have HNE1 := Lib.hid hnet1
  have HB1 := Lib.hid hb1w
  clear n1 n2
  obtain ⟨n1, n2, -⟩ := box2 hnet1
  have hs1 := hb1.size
  have hdl := hds0.lt.2
  clear hob hb1 o3 hds0 hds1 hbM hnet1 hb1w HNE
  dsimp only
  go_wp2_with fail
  clear n1 n2
  go_loopw [23] (fun iv wr => ∃ (k : Nat) (ds : List DN), iv = .int .i64 (k : Int) ∧ k ≤ n ∧ DsS wr w.heap.size (w.heap.size + 1) n ds ∧ (∀ (i : Nat) (x : DN), ds[i]? = some x → i < k → on i = true → R (fun ρ => vl ρ G i) x.2.2) ∧ wr.heap[w.heap.size]? = some (.cells #[.slice ga n gc, .slice oa O.length oc] 25 (0, 0)) ∧ wr.heap[gb]? = some (.cells ocur 4 (0, 0)) ∧ Below w.heap.size w wr ∧ gb < wr.heap.size) (fun iv _ => n - (intOf iv).toNat)
  case atStart => exact ⟨0, _, rfl, Nat.zero_le _, HDS.out, fun i x _ h => by omega, HNE1.out, HO3.out, HB1.out, by omega⟩
  case round =>
    rename World => wo
    obtain ⟨k, ds, rfl, hk, hds, hRk, hnet, hgb, hbw, hgl⟩ := hrel
    have HDK := Lib.hid hds
    have HRK := Lib.hid hRk
    have HNO := Lib.hid hnet
    have HGO := Lib.hid hgb
    have HBW := Lib.hid hbw
    obtain ⟨n1, n2, -⟩ := box2 hnet
    have hdT := hds.lt.2
    have hbs := hbw.size
    clear hds hRk hnet hgb
    rcases Nat.lt_or_ge k n with hkl | hkl
    · obtain ⟨gg, hgg⟩ : ∃ gg, G[k]? = some gg := ⟨_, List.getElem?_eq_getElem (by rw [HN.out]; exact hkl)⟩
      obtain ⟨b2, o2, hadd, hb2, ax, cx, y0, y1, y2, hiy⟩ := (HG.out.of hbw).at (show (G.map gz)[k]? = some (gz gg) by rw [List.getElem?_map, hgg]; rfl)
      subst hadd
      dsimp only [gz] at y0 y1 y2 hiy
      rw [List.length_map] at y2
      have hob := ownsRow_heap HOB.out (w' := wo) (fun g hg => by injection hg with hg; subst hg; exact HGO.out.trans HO3.out.symm)
      have e2 := ownB_is hob (bsOf_at hkl)
      obtain ⟨q, hq⟩ : ∃ q, on k = q := ⟨_, rfl⟩
      rw [hq] at e2
      have HQ := Lib.hid hq
      have HGG := Lib.hid hgg
      have HOG := Lib.hid (HOK.out k gg hgg)
      have HI2 := Lib.hid hiy
      have hgl2 := HIL.out gg (List.mem_of_getElem? hgg)
      have hins := okG_ins HOG.out
      have f1 : decide ((k : Int) < (n : Int)) = true := decide_eq_true (by omega)
      have hib : (0 ≤ (k : Int) ∧ (k : Int) < (n : Int)) := ⟨by omega, by omega⟩
      have hal : Below wo.heap.size wo (wo.alloc (.cells #[.int .i64 (gg.1 : Int), .int .i64 (gg.2.1 : Int), .slice ax gg.2.2.length cx] 45)) := (Below.refl _ _).alloc (Nat.le_refl _) _
      have hgx := World.alloc_heap_new wo (.cells #[.int .i64 (gg.1 : Int), .int .i64 (gg.2.1 : Int), .slice ax gg.2.2.length cx] 45 (0, 0))
      have HAL := Lib.hid hal
      have HGX := Lib.hid hgx
      clear hgg hiy hob hq hal hgx hbw
      cases q
      · go_wp2
        refine ⟨⟨k + 1, ds, by go_num, by omega, HDK.out.of HAL.out, fun i x hx hi ho => ?_, obj_in HAL.out HNO.out, obj_in HAL.out HGO.out, HBW.out.trans (HAL.out.mono hbs), by simp; omega⟩, by simp [intOf]; omega⟩
        rcases Nat.lt_or_ge i k with h | h
        · exact HRK.out i x hx h ho
        · have : i = k := by omega
          subst this
          rw [HQ.out] at ho
          cases ho
      · obtain ⟨GB, hGB⟩ : ∃ GB, wo.heap.size = GB := ⟨_, rfl⟩
        have hgx := HGX.out
        rw [hGB] at hgx
        have HGB := Lib.hid hGB
        have hgx2 := hgx
        obtain ⟨p0, p1, p2⟩ := box3 hgx
        have HGX2 := Lib.hid hgx2
        clear hgx hgx2
        by_cases k1 : gg.1 = 1
        · have f1a : ((gg.1 : Int) == 1) = true := by simp [k1]
          have f3 : ((gg.1 : Int) == 3) = false := by simp; omega
          have f6 : ((gg.1 : Int) == 6) = false := by simp; omega
          have HLIT := Lib.hid (HD.out.lit k gg HGG.out HQ.out k1)
          have HK1 := Lib.hid k1
          clear k1
          go_wp2_with fail
          refine (con0 _).mono ?_
          rintro _ _ ⟨rfl, yC, rfl⟩
          have hV1b : Below wo.heap.size wo yC.w := HAL.out.trans (yC.below.mono HAL.out.size)
          have hV1g := obj_in yC.below HGX2.out
          obtain ⟨V1, hV1⟩ : ∃ V1, yC.w = V1 := ⟨_, rfl⟩
          rw [hV1] at hV1b hV1g ⊢
          have hV1s := hV1b.size
          have HV1B := Lib.hid hV1b
          have HV1G := Lib.hid hV1g
          have hV1l := (Array.getElem?_eq_some_iff.1 hV1g).1
          have hdb := World.alloc_heap_new V1 (.cells #[.slice none 0 0, .int .i64 0] 63 (0, 0))
          have hal2 : Below V1.heap.size V1 (V1.alloc (.cells #[.slice none 0 0, .int .i64 0] 63)) := (Below.refl _ _).alloc (Nat.le_refl _) _
          have HDB := Lib.hid hdb
          have HAL2 := Lib.hid hal2
          have hv2g := obj_in hal2 hV1g
          clear p0 p1 p2 hV1 hV1b hV1g hdb hal2
          obtain ⟨p0, p1, p2⟩ := box3 hv2g
          have HV2G := Lib.hid hv2g
          clear hv2g
          dsimp only
          go_wp2_with fail
          refine (HLIT.out _).mono ?_
          rintro e W3 ⟨d, hR, ad, cap, rfl, hi, hfd, hb3⟩
          have hb3w : Below wo.heap.size wo W3 := HV1B.out.trans ((HAL2.out.trans (hb3.mono HAL2.out.size)).mono hV1s)
          have hdb3 := obj_in hb3 HDB.out
          have hgb3 := obj_in hb3 HV2G.out
          have hsz3 : V1.heap.size < W3.heap.size := by have := hb3.size; simp at this; omega
          obtain ⟨DB, hDB⟩ : ∃ DB, V1.heap.size = DB := ⟨_, rfl⟩
          have hDGB : GB < DB := by rw [← hDB]; exact hV1l
          have hfd2 : ∀ g off k, ad = some ⟨g, off, k⟩ → DB < g := fun g off k e => by have := hfd g off k e; rw [World.size_alloc] at this; omega
          have hDwo : wo.heap.size ≤ DB := by omega
          rw [hDB] at hdb3 hsz3 ⊢
          have hset := obj_set2 (.slice ad d.1.length cap) (.int .i64 (d.2 : Int)) hdb3
          have HRF := Lib.hid hR
          have HSB := Lib.hid (show Below wo.heap.size wo ((W3.setCell ⟨DB, 0, none⟩ (.slice ad d.1.length cap)).setCell ⟨DB, 1, none⟩ (.int .i64 (d.2 : Int))) from (hb3w.setCell (p := ⟨DB, 0, none⟩) (by simp; omega) _).setCell (p := ⟨DB, 1, none⟩) (by simp; omega) _)
          have HSD := Lib.hid hset
          have HSG := Lib.hid (obj_neD (i := 1) (.int .i64 (d.2 : Int)) (show GB ≠ DB by omega) (obj_neD (i := 0) (.slice ad d.1.length cap) (show GB ≠ DB by omega) hgb3))
          have HSI := Lib.hid (show InD ((W3.setCell ⟨DB, 0, none⟩ (.slice ad d.1.length cap)).setCell ⟨DB, 1, none⟩ (.int .i64 (d.2 : Int))).heap.size ((W3.setCell ⟨DB, 0, none⟩ (.slice ad d.1.length cap)).setCell ⟨DB, 1, none⟩ (.int .i64 (d.2 : Int))) ad (d.1.map z3) from inD_keep (B := DB) hi (by simp) (fun b _ hb => (set_heap_ne _ hb).trans (set_heap_ne _ hb)) (fun g off k e => by have := hfd2 g off k e; omega))
          have HFD := Lib.hid hfd2
          clear p0 p1 p2
          obtain ⟨r0, r1, r2, r3⟩ := box2 hdb3
          obtain ⟨p0, p1, p2⟩ := box3 hgb3
          have hne1 : GB ≠ DB := by omega
          have hne2 : DB ≠ GB := by omega
          clear hR hi hfd hb3 hb3w hdb3 hgb3 hDB hfd2 hset HDB HAL2 HV2G
          dsimp only
          go_wp2_with fail
          clear p0 p1 p2 r0 r1 r2 r3
          obtain ⟨WS, hWS⟩ : ∃ WS, ((W3.setCell ⟨DB, 0, none⟩ (.slice ad d.1.length cap)).setCell ⟨DB, 1, none⟩ (.int .i64 (d.2 : Int))) = WS := ⟨_, rfl⟩
          rw [hWS] at HSB HSD HSG HSI ⊢
          clear hWS
          have HF0 := Lib.hid (show R (Fj G k gg 0) d from by rw [Fj, if_neg (by have := HK1.out; omega), if_neg (by have := HK1.out; omega)]; exact HRF.out)
          have f4 : ((gg.1 : Int) == 4) = false := by have := HK1.out; simp; omega
          have HN34 := Lib.hid (show gg.1 ≠ 3 ∧ gg.1 ≠ 4 from by have := HK1.out; exact ⟨by omega, by omega⟩)
          go_loopw [9, 68] (fun ev iv wi => ∃ (j : Nat) (d : Dg3) (ad : Option Addr) (cap : Nat), ev = .int .i64 0 ∧ iv = .int .i64 (j : Int) ∧ j ≤ gg.2.2.length ∧ R (Fj G k gg j) d ∧ InD wi.heap.size wi ad (d.1.map z3) ∧ (∀ g off k, ad = some ⟨g, off, k⟩ → DB < g) ∧ wi.heap[DB]? = some (.cells #[.slice ad d.1.length cap, .int .i64 (d.2 : Int)] 63 (0, 0)) ∧ wi.heap[GB]? = some (.cells #[.int .i64 (gg.1 : Int), .int .i64 (gg.2.1 : Int), .slice ax gg.2.2.length cx] 45 (0, 0)) ∧ Below wo.heap.size wo wi) (fun _ iv _ => gg.2.2.length - (intOf iv).toNat)
          case atStart => exact ⟨0, d, ad, cap, rfl, rfl, Nat.zero_le _, HF0.out, HSI.out, HFD.out, HSD.out, HSG.out, HSB.out⟩
          case round =>
            rename World => wi
            obtain ⟨j, d, ad, cap, rfl, rfl, hj, hRj, hij, hfj, hdj, hgj, hbj⟩ := hrel
            have HRJ := Lib.hid hRj
            have HIJ := Lib.hid hij
            have HFJ := Lib.hid hfj
            have HDJ := Lib.hid hdj
            have HGJ := Lib.hid hgj
            have HBJ := Lib.hid hbj
            have hbjs := hbj.size
            obtain ⟨p0, p1, p2⟩ := box3 hgj
            obtain ⟨r0, r1, r2, r3⟩ := box2 hdj
            have hdjl := (Array.getElem?_eq_some_iff.1 hdj).1
            clear hRj hij hfj hdj hgj
            rcases Nat.lt_or_ge j gg.2.2.length with hjl | hjl
            · obtain ⟨y, hy⟩ := some_at hjl
              have hyk := hins y (List.mem_of_getElem? hy)
              obtain ⟨b3, o3, hadd, hb3, z0⟩ := (HI2.out.of hbj).at (show (gg.2.2.map fun k : Nat => (k : Int))[j]? = some (y : Int) by rw [List.getElem?_map, hy]; rfl)
              first | subst hadd | (injection hadd with hadd; injection hadd with e1 e2 _; subst e1 e2)
              have HY := Lib.hid hy
              have f5 : decide ((j : Int) < (gg.2.2.length : Int)) = true := decide_eq_true (by omega)
              have hib2 : (0 ≤ (j : Int) ∧ (j : Int) < (gg.2.2.length : Int)) := ⟨by omega, by omega⟩
              have hib3 : (0 ≤ (y : Int) ∧ (y : Int) < (n : Int)) := ⟨by omega, by omega⟩
              clear hy hbj
              go_wp2
              go_roundw
              case rel => exact ⟨j + 1, d, ad, cap, rfl, by go_num, by omega, by (have := HRJ.out; rw [Fj, if_neg HN34.out.1, if_neg HN34.out.2] at this ⊢; exact this), HIJ.out, HFJ.out, HDJ.out, HGJ.out, HBJ.out⟩
              case measure => simp [intOf]; omega
            · have hke : j = gg.2.2.length := by omega
              subst hke
              have f5 : decide ((gg.2.2.length : Int) < (gg.2.2.length : Int)) = false := decide_eq_false (by omega)
              have hdo := HDK.out.of hbj
              obtain ⟨xk, hxk⟩ : ∃ xk, ds[k]? = some xk := ⟨_, List.getElem?_eq_getElem (by rw [HDK.out.len]; exact hkl)⟩
              obtain ⟨t0, t1, t2, t3⟩ := hdo.at hxk
              have hTlo : w.heap.size + 1 < DB := by omega
              have hset := hdo.set k (ad, cap, d) HIJ.out (fun g off k e => by have := HFJ.out g off k e; omega)
              have HSET := Lib.hid hset
              have HNO2 := Lib.hid (obj_in hbj HNO.out)
              have HGO2 := Lib.hid (obj_in hbj HGO.out)
              have hgbT := hgl
              have hneT : gb ≠ w.heap.size + 1 := by omega
              clear hdo hset hxk
              go_wp2
              refine ⟨⟨k + 1, ds.set k (ad, cap, d), by go_num, by omega, HSET.out, fun i x hx hi ho => ?_, obj_neD _ (by omega) (obj_neD _ (by omega) HNO2.out), obj_neD _ hneT (obj_neD _ hneT HGO2.out), ((HBW.out.trans (HBJ.out.mono hbs)).setCell (p := ⟨w.heap.size + 1, k * 2, none⟩) (by simp) _).setCell (p := ⟨w.heap.size + 1, k * 2 + 1, none⟩) (by simp) _, by simp; omega⟩, by simp [intOf]; omega⟩
              rw [List.getElem?_set] at hx
              by_cases hki : k = i
              · subst hki
                rw [if_pos rfl, if_pos (by rw [HDK.out.len]; exact hkl)] at hx
                injection hx with hx
                subst hx
                have := HRJ.out
                rwa [Fj_all HOK.out HGG.out] at this
              · rw [if_neg hki] at hx
                exact HRK.out i x hx (by omega) ho
        by_cases k2 : gg.1 = 2
        · have f1a : ((gg.1 : Int) == 1) = false := by simp; omega
          have f2a : ((gg.1 : Int) == 2) = true := by simp [k2]
          have f3 : ((gg.1 : Int) == 3) = false := by simp; omega
          have f6 : ((gg.1 : Int) == 6) = false := by simp; omega
          obtain ⟨k0, hk0, hki⟩ : ∃ k0, gg.2.2 = [k0] ∧ k0 < k := by
            rcases HOG.out with ⟨h, _⟩ | ⟨_, _, k0, h, h'⟩ | ⟨h, _⟩ | ⟨h, _⟩
            · omega
            · exact ⟨k0, h, h'⟩
            · omega
            · omega
          obtain ⟨x0, hx0⟩ : ∃ x0, ds[k0]? = some x0 := ⟨_, List.getElem?_eq_getElem (by rw [HDK.out.len]; omega)⟩
          have hon0 : on k0 = true := HCLO.out k k0 gg HGG.out HQ.out (by rw [hk0]; simp)
          have hR0 := HRK.out k0 x0 hx0 hki hon0
          obtain ⟨xa, xc, xd⟩ := x0
          have HNOT := Lib.hid (HD.out.neg k gg k0 HGG.out HQ.out k2 hk0 xd xa xc)
          have HR0 := Lib.hid hR0
          have HX0 := Lib.hid hx0
          have HK2 := Lib.hid (And.intro k2 hk0)
          have hlen1 : gg.2.2.length = 1 := by rw [hk0]; rfl
          have HL1 := Lib.hid hlen1
          clear k1 k2 hk0 hx0 hR0 hlen1 hon0
          go_wp2_with fail
          refine (con0 _).mono ?_
          rintro _ _ ⟨rfl, yC, rfl⟩
          have hV1b : Below wo.heap.size wo yC.w := HAL.out.trans (yC.below.mono HAL.out.size)
          have hV1g := obj_in yC.below HGX2.out
          obtain ⟨V1, hV1⟩ : ∃ V1, yC.w = V1 := ⟨_, rfl⟩
          rw [hV1] at hV1b hV1g ⊢
          have hV1s := hV1b.size
          have HV1B := Lib.hid hV1b
          have HV1G := Lib.hid hV1g
          have hV1l := (Array.getElem?_eq_some_iff.1 hV1g).1
          have hdb := World.alloc_heap_new V1 (.cells #[.slice none 0 0, .int .i64 0] 63 (0, 0))
          have hal2 : Below V1.heap.size V1 (V1.alloc (.cells #[.slice none 0 0, .int .i64 0] 63)) := (Below.refl _ _).alloc (Nat.le_refl _) _
          have HDB := Lib.hid hdb
          have HAL2 := Lib.hid hal2
          have hv2g := obj_in hal2 hV1g
          clear p0 p1 p2 hV1 hV1b hV1g hdb hal2
          obtain ⟨p0, p1, p2⟩ := box3 hv2g
          have HV2G := Lib.hid hv2g
          clear hv2g
          dsimp only
          have hb2V : Below wo.heap.size wo (V1.alloc (.cells #[.slice none 0 0, .int .i64 0] 63)) := HV1B.out.trans (HAL2.out.mono hV1s)
          have hdsV := HDK.out.of hb2V
          obtain ⟨t0, t1, -, -⟩ := hdsV.at HX0.out
          have hiV := hdsV.ind _ (List.mem_of_getElem? HX0.out)
          obtain ⟨b3, o3, hadd, hb3, z0⟩ := (HI2.out.of hb2V).at (show (gg.2.2.map fun k : Nat => (k : Int))[0]? = some (k0 : Int) by rw [HK2.out.2]; rfl)
          subst hadd
          rw [Nat.add_zero] at z0
          have HIV := Lib.hid hiV
          have hib0 : (0 ≤ (k0 : Int) ∧ (k0 : Int) < (n : Int)) := ⟨by omega, by omega⟩
          have hib1 : (0 ≤ (0 : Int) ∧ (0 : Int) < (gg.2.2.length : Int)) := ⟨by omega, by have := HL1.out; omega⟩
          clear hiV hdsV hb2V
          go_wp2_with fail
          refine (HNOT.out _ HR0.out HIV.out.1).mono ?_
          clear z0 t0 t1
          rintro e W3 ⟨d, hR, ad, cap, rfl, hi, hfd, hb3⟩
          have hb3w : Below wo.heap.size wo W3 := HV1B.out.trans ((HAL2.out.trans (hb3.mono HAL2.out.size)).mono hV1s)
          have hdb3 := obj_in hb3 HDB.out
          have hgb3 := obj_in hb3 HV2G.out
          have hsz3 : V1.heap.size < W3.heap.size := by have := hb3.size; simp at this; omega
          obtain ⟨DB, hDB⟩ : ∃ DB, V1.heap.size = DB := ⟨_, rfl⟩
          have hDGB : GB < DB := by rw [← hDB]; exact hV1l
          have hfd2 : ∀ g off k, ad = some ⟨g, off, k⟩ → DB < g := fun g off k e => by have := hfd g off k e; rw [World.size_alloc] at this; omega
          have hDwo : wo.heap.size ≤ DB := by omega
          rw [hDB] at hdb3 hsz3 ⊢
          have hset := obj_set2 (.slice ad d.1.length cap) (.int .i64 (d.2 : Int)) hdb3
          have HRF := Lib.hid hR
          have HSB := Lib.hid (show Below wo.heap.size wo ((W3.setCell ⟨DB, 0, none⟩ (.slice ad d.1.length cap)).setCell ⟨DB, 1, none⟩ (.int .i64 (d.2 : Int))) from (hb3w.setCell (p := ⟨DB, 0, none⟩) (by simp; omega) _).setCell (p := ⟨DB, 1, none⟩) (by simp; omega) _)
          have HSD := Lib.hid hset
          have HSG := Lib.hid (obj_neD (i := 1) (.int .i64 (d.2 : Int)) (show GB ≠ DB by omega) (obj_neD (i := 0) (.slice ad d.1.length cap) (show GB ≠ DB by omega) hgb3))
          have HSI := Lib.hid (show InD ((W3.setCell ⟨DB, 0, none⟩ (.slice ad d.1.length cap)).setCell ⟨DB, 1, none⟩ (.int .i64 (d.2 : Int))).heap.size ((W3.setCell ⟨DB, 0, none⟩ (.slice ad d.1.length cap)).setCell ⟨DB, 1, none⟩ (.int .i64 (d.2 : Int))) ad (d.1.map z3) from inD_keep (B := DB) hi (by simp) (fun b _ hb => (set_heap_ne _ hb).trans (set_heap_ne _ hb)) (fun g off k e => by have := hfd2 g off k e; omega))
          have HFD := Lib.hid hfd2
          clear p0 p1 p2
          obtain ⟨r0, r1, r2, r3⟩ := box2 hdb3
          obtain ⟨p0, p1, p2⟩ := box3 hgb3
          have hne1 : GB ≠ DB := by omega
          have hne2 : DB ≠ GB := by omega
          clear hR hi hfd hb3 hb3w hdb3 hgb3 hDB hfd2 hset HDB HAL2 HV2G
          dsimp only
          go_wp2_with fail
          clear p0 p1 p2 r0 r1 r2 r3
          obtain ⟨WS, hWS⟩ : ∃ WS, ((W3.setCell ⟨DB, 0, none⟩ (.slice ad d.1.length cap)).setCell ⟨DB, 1, none⟩ (.int .i64 (d.2 : Int))) = WS := ⟨_, rfl⟩
          rw [hWS] at HSB HSD HSG HSI ⊢
          clear hWS
          have HF0 := Lib.hid (show R (Fj G k gg 0) d from by rw [Fj, if_neg (by have := HK2.out.1; omega), if_neg (by have := HK2.out.1; omega)]; exact HRF.out)
          have f4 : ((gg.1 : Int) == 4) = false := by have := HK2.out.1; simp; omega
          have HN34 := Lib.hid (show gg.1 ≠ 3 ∧ gg.1 ≠ 4 from by have := HK2.out.1; exact ⟨by omega, by omega⟩)
          go_loopw [9, 68] (fun ev iv wi => ∃ (j : Nat) (d : Dg3) (ad : Option Addr) (cap : Nat), ev = .int .i64 0 ∧ iv = .int .i64 (j : Int) ∧ j ≤ gg.2.2.length ∧ R (Fj G k gg j) d ∧ InD wi.heap.size wi ad (d.1.map z3) ∧ (∀ g off k, ad = some ⟨g, off, k⟩ → DB < g) ∧ wi.heap[DB]? = some (.cells #[.slice ad d.1.length cap, .int .i64 (d.2 : Int)] 63 (0, 0)) ∧ wi.heap[GB]? = some (.cells #[.int .i64 (gg.1 : Int), .int .i64 (gg.2.1 : Int), .slice ((some ⟨b3, o3, none⟩)) gg.2.2.length cx] 45 (0, 0)) ∧ Below wo.heap.size wo wi) (fun _ iv _ => gg.2.2.length - (intOf iv).toNat)
          case atStart => exact ⟨0, d, ad, cap, rfl, rfl, Nat.zero_le _, HF0.out, HSI.out, HFD.out, HSD.out, HSG.out, HSB.out⟩
          case round =>
            rename World => wi
            obtain ⟨j, d, ad, cap, rfl, rfl, hj, hRj, hij, hfj, hdj, hgj, hbj⟩ := hrel
            have HRJ := Lib.hid hRj
            have HIJ := Lib.hid hij
            have HFJ := Lib.hid hfj
            have HDJ := Lib.hid hdj
            have HGJ := Lib.hid hgj
            have HBJ := Lib.hid hbj
            have hbjs := hbj.size
            obtain ⟨p0, p1, p2⟩ := box3 hgj
            obtain ⟨r0, r1, r2, r3⟩ := box2 hdj
            have hdjl := (Array.getElem?_eq_some_iff.1 hdj).1
            clear hRj hij hfj hdj hgj
            rcases Nat.lt_or_ge j gg.2.2.length with hjl | hjl
            · obtain ⟨y, hy⟩ := some_at hjl
              have hyk := hins y (List.mem_of_getElem? hy)
              obtain ⟨b3, o3, hadd, hb3, z0⟩ := (HI2.out.of hbj).at (show (gg.2.2.map fun k : Nat => (k : Int))[j]? = some (y : Int) by rw [List.getElem?_map, hy]; rfl)
              first | subst hadd | (injection hadd with hadd; injection hadd with e1 e2 _; subst e1 e2)
              have HY := Lib.hid hy
              have f5 : decide ((j : Int) < (gg.2.2.length : Int)) = true := decide_eq_true (by omega)
              have hib2 : (0 ≤ (j : Int) ∧ (j : Int) < (gg.2.2.length : Int)) := ⟨by omega, by omega⟩
              have hib3 : (0 ≤ (y : Int) ∧ (y : Int) < (n : Int)) := ⟨by omega, by omega⟩
              clear hy hbj
              go_wp2
              go_roundw
              case rel => exact ⟨j + 1, d, ad, cap, rfl, by go_num, by omega, by (have := HRJ.out; rw [Fj, if_neg HN34.out.1, if_neg HN34.out.2] at this ⊢; exact this), HIJ.out, HFJ.out, HDJ.out, HGJ.out, HBJ.out⟩
              case measure => simp [intOf]; omega
            · have hke : j = gg.2.2.length := by omega
              subst hke
              have f5 : decide ((gg.2.2.length : Int) < (gg.2.2.length : Int)) = false := decide_eq_false (by omega)
              have hdo := HDK.out.of hbj
              obtain ⟨xk, hxk⟩ : ∃ xk, ds[k]? = some xk := ⟨_, List.getElem?_eq_getElem (by rw [HDK.out.len]; exact hkl)⟩
              obtain ⟨t0, t1, t2, t3⟩ := hdo.at hxk
              have hTlo : w.heap.size + 1 < DB := by omega
              have hset := hdo.set k (ad, cap, d) HIJ.out (fun g off k e => by have := HFJ.out g off k e; omega)
              have HSET := Lib.hid hset
              have HNO2 := Lib.hid (obj_in hbj HNO.out)
              have HGO2 := Lib.hid (obj_in hbj HGO.out)
              have hgbT := hgl
              have hneT : gb ≠ w.heap.size + 1 := by omega
              clear hdo hset hxk
              go_wp2
              refine ⟨⟨k + 1, ds.set k (ad, cap, d), by go_num, by omega, HSET.out, fun i x hx hi ho => ?_, obj_neD _ (by omega) (obj_neD _ (by omega) HNO2.out), obj_neD _ hneT (obj_neD _ hneT HGO2.out), ((HBW.out.trans (HBJ.out.mono hbs)).setCell (p := ⟨w.heap.size + 1, k * 2, none⟩) (by simp) _).setCell (p := ⟨w.heap.size + 1, k * 2 + 1, none⟩) (by simp) _, by simp; omega⟩, by simp [intOf]; omega⟩
              rw [List.getElem?_set] at hx
              by_cases hki : k = i
              · subst hki
                rw [if_pos rfl, if_pos (by rw [HDK.out.len]; exact hkl)] at hx
                injection hx with hx
                subst hx
                have := HRJ.out
                rwa [Fj_all HOK.out HGG.out] at this
              · rw [if_neg hki] at hx
                exact HRK.out i x hx (by omega) ho
        have f1a : ((gg.1 : Int) == 1) = false := by simp; omega
        have f2a : ((gg.1 : Int) == 2) = false := by simp; omega
        by_cases k3 : gg.1 = 3
        · have f3 : ((gg.1 : Int) == 3) = true := by simp [k3]
          have HKA := Lib.hid k3
          clear k1 k2 k3
          go_wp2_with fail
          refine (con1 _).mono ?_
          rintro _ _ ⟨rfl, yC, rfl⟩
          have hV1b : Below wo.heap.size wo yC.w := HAL.out.trans (yC.below.mono HAL.out.size)
          have hV1g := obj_in yC.below HGX2.out
          obtain ⟨V1, hV1⟩ : ∃ V1, yC.w = V1 := ⟨_, rfl⟩
          rw [hV1] at hV1b hV1g ⊢
          have hV1s := hV1b.size
          have HV1B := Lib.hid hV1b
          have HV1G := Lib.hid hV1g
          have hV1l := (Array.getElem?_eq_some_iff.1 hV1g).1
          have hdb := World.alloc_heap_new V1 (.cells #[.slice none 0 0, .int .i64 1] 63 (0, 0))
          have hal2 : Below V1.heap.size V1 (V1.alloc (.cells #[.slice none 0 0, .int .i64 1] 63)) := (Below.refl _ _).alloc (Nat.le_refl _) _
          have HDB := Lib.hid hdb
          have HAL2 := Lib.hid hal2
          have hv2g := obj_in hal2 hV1g
          clear p0 p1 p2 hV1 hV1b hV1g hdb hal2
          obtain ⟨p0, p1, p2⟩ := box3 hv2g
          have HV2G := Lib.hid hv2g
          clear hv2g
          dsimp only
          have HSB := Lib.hid (show Below wo.heap.size wo (V1.alloc (.cells #[.slice none 0 0, .int .i64 1] 63)) from HV1B.out.trans (HAL2.out.mono hV1s))
          have HSI := Lib.hid (show InD (V1.alloc (.cells #[.slice none 0 0, .int .i64 1] 63)).heap.size (V1.alloc (.cells #[.slice none 0 0, .int .i64 1] 63)) none (([] : List (Nat × Nat × Nat)).map z3) from inD_nil _ _ _)
          go_wp2_with fail
          clear p0 p1 p2
          obtain ⟨DB, hDB⟩ : ∃ DB, V1.heap.size = DB := ⟨_, rfl⟩
          have hDGB : GB < DB := by rw [← hDB]; exact hV1l
          have hDwo : wo.heap.size ≤ DB := by omega
          have HFD := Lib.hid (show ∀ g off k, (none : Option Addr) = some ⟨g, off, k⟩ → DB < g from fun g off k e => by cases e)
          obtain ⟨WS, hWS⟩ : ∃ WS, V1.alloc (.cells #[.slice none 0 0, .int .i64 1] 63) = WS := ⟨_, rfl⟩
          rw [hWS] at HSB HSI HDB HV2G ⊢
          rw [hDB] at HDB ⊢
          have HSD := HDB
          have HSG := HV2G
          obtain ⟨d, hd⟩ : ∃ d : Dg3, d = ([], 1) := ⟨_, rfl⟩
          obtain ⟨ad, had⟩ : ∃ ad : Option Addr, ad = none := ⟨_, rfl⟩
          obtain ⟨cap, hcap⟩ : ∃ cap, cap = 0 := ⟨_, rfl⟩
          rw [show ([] : List (Nat × Nat × Nat)) = d.1 by rw [hd], ← had] at HSI
          rw [← had] at HFD
          have hcc := HD.out.con true
          rw [show (([], if true then 1 else 0) : Dg3) = d by rw [hd]; rfl] at hcc
          have hsd := HSD.out
          rw [show (Value.slice none 0 0) = .slice ad d.1.length cap by rw [hd, had, hcap]; rfl, show (Value.int .i64 1) = .int .i64 (d.2 : Int) by rw [hd]; rfl] at hsd
          have HSD := Lib.hid hsd
          clear hWS hDB HAL2 HV2G HDB hd had hcap hsd
          have HFE := Lib.hid (show ∀ j, Fj G k gg j = fun ρ => (gg.2.2.take j).all (vl ρ G) from fun j => by rw [Fj, if_pos HKA.out])
          have HF0 := Lib.hid (show R (Fj G k gg 0) d from by rw [HFE.out]; exact hcc)
          clear hcc
          go_loopw [9, 68] (fun ev iv wi => ∃ (j : Nat) (d : Dg3) (ad : Option Addr) (cap : Nat), ev = .int .i64 0 ∧ iv = .int .i64 (j : Int) ∧ j ≤ gg.2.2.length ∧ R (Fj G k gg j) d ∧ InD wi.heap.size wi ad (d.1.map z3) ∧ (∀ g off k, ad = some ⟨g, off, k⟩ → DB < g) ∧ wi.heap[DB]? = some (.cells #[.slice ad d.1.length cap, .int .i64 (d.2 : Int)] 63 (0, 0)) ∧ wi.heap[GB]? = some (.cells #[.int .i64 (gg.1 : Int), .int .i64 (gg.2.1 : Int), .slice ax gg.2.2.length cx] 45 (0, 0)) ∧ Below wo.heap.size wo wi) (fun _ iv _ => gg.2.2.length - (intOf iv).toNat)
          case atStart => exact ⟨0, d, ad, cap, rfl, rfl, Nat.zero_le _, HF0.out, HSI.out, HFD.out, HSD.out, HSG.out, HSB.out⟩
          case round =>
            rename World => wi
            obtain ⟨j, d, ad, cap, rfl, rfl, hj, hRj, hij, hfj, hdj, hgj, hbj⟩ := hrel
            have HRJ := Lib.hid hRj
            have HIJ := Lib.hid hij
            have HFJ := Lib.hid hfj
            have HDJ := Lib.hid hdj
            have HGJ := Lib.hid hgj
            have HBJ := Lib.hid hbj
            have hbjs := hbj.size
            obtain ⟨p0, p1, p2⟩ := box3 hgj
            obtain ⟨r0, r1, r2, r3⟩ := box2 hdj
            have hdjl := (Array.getElem?_eq_some_iff.1 hdj).1
            clear hRj hij hfj hdj hgj
            rcases Nat.lt_or_ge j gg.2.2.length with hjl | hjl
            · obtain ⟨y, hy⟩ := some_at hjl
              have hyk := hins y (List.mem_of_getElem? hy)
              obtain ⟨b3, o3, hadd, hb3, z0⟩ := (HI2.out.of hbj).at (show (gg.2.2.map fun k : Nat => (k : Int))[j]? = some (y : Int) by rw [List.getElem?_map, hy]; rfl)
              first | subst hadd | (injection hadd with hadd; injection hadd with e1 e2 _; subst e1 e2)
              have HY := Lib.hid hy
              have f5 : decide ((j : Int) < (gg.2.2.length : Int)) = true := decide_eq_true (by omega)
              have hib2 : (0 ≤ (j : Int) ∧ (j : Int) < (gg.2.2.length : Int)) := ⟨by omega, by omega⟩
              have hib3 : (0 ≤ (y : Int) ∧ (y : Int) < (n : Int)) := ⟨by omega, by omega⟩
              clear hy hbj
              obtain ⟨x0, hx0⟩ : ∃ x0, ds[y]? = some x0 := ⟨_, List.getElem?_eq_getElem (by rw [HDK.out.len]; omega)⟩
              have hon0 : on y = true := HCLO.out k y gg HGG.out HQ.out (List.mem_of_getElem? HY.out)
              have hR0 := HRK.out y x0 hx0 hyk hon0
              have hdsi := HDK.out.of HBJ.out
              obtain ⟨t0, t1, -, -⟩ := hdsi.at hx0
              have hIx := (hdsi.ind _ (List.mem_of_getElem? hx0)).1
              obtain ⟨xa, xc, xd⟩ := x0
              have HAND := Lib.hid (fun W' (hb : Below wi.heap.size wi W') => (show Calls Tryz.prog 64 #[.agg #[.slice ad d.1.length cap, .int .i64 (d.2 : Int)], .agg #[.slice xa xd.1.length xc, .int .i64 (xd.2 : Int)]] W' (fun e W5 => ∃ (d5 : Dg3) (ad5 : Option Addr) (cap5 : Nat), R (Fj G k gg (j + 1)) d5 ∧ e = .returned (.tuple #[.agg #[.slice ad5 d5.1.length cap5, .int .i64 (d5.2 : Int)], .int .i64 0]) ∧ InD W5.heap.size W5 ad5 (d5.1.map z3) ∧ (∀ g off k, ad5 = some ⟨g, off, k⟩ → wi.heap.size ≤ g) ∧ Below wi.heap.size wi W5) from by
                have hRj := HRJ.out
                rw [HFE.out] at hRj ⊢
                refine ((HD.out.conj) k gg HGG.out HQ.out HKA.out j y HY.out d xd ad xa cap xc W' hRj hR0 ((HIJ.out.of hb).up hb.size) ((hIx.of hb).up hb.size)).mono ?_
                rintro _ W5 ⟨d5, hR5, ad5, cap5, rfl, hi5, hf5, hb5⟩
                exact ⟨d5, ad5, cap5, hR5, rfl, hi5, fun g off k e => Nat.le_trans hb.size (hf5 g off k e), hb.trans (hb5.mono hb.size)⟩))
              clear hx0 hon0 hR0 hdsi hIx
              go_wp2_with fail
              have hRf : Below wi.heap.size wi wi := Below.refl _ _
              go_region_law (go_simp; refine (HAND.out _ (by (repeat' (first | (with_reducible first | apply Zl1 | apply Zl2 | apply Zl3 | apply Zl4 | apply Zl5 | apply Zl6 | apply Zl7 | apply Zl8 | apply Zl9 | apply Zla | apply Zlb | apply Zlc) | (dsimp only; with_reducible first | apply Zl8 | apply Zl2 | apply Zld) | with_reducible assumption | omega | (dsimp only; omega))))).mono ?_; rintro _ W5 ⟨d5, ad5, cap5, hR5, rfl, hi5, hf5, hb5⟩; have HR5 := Lib.hid hR5; have HI5 := Lib.hid hi5; have HF5 := Lib.hid hf5; have HB5 := Lib.hid hb5; have hd5 := obj_in hb5 HDJ.out; obtain ⟨s0, s1, s2, s3⟩ := box2 hd5; clear hR5 hi5 hf5 hb5 hd5; dsimp only)
              all_goals
                have hset5 := obj_set2 (.slice ad5 d5.1.length cap5) (.int .i64 (d5.2 : Int)) (obj_in HB5.out HDJ.out)
                have HSET5 := Lib.hid hset5
                have hB5s := HB5.out.size
                clear hset5 hRf HAND t0 t1
                go_wp2
                go_roundw
                case rel => exact ⟨j + 1, d5, ad5, cap5, rfl, by go_num, by omega, HR5.out, inD_keep (B := DB) HI5.out (by simp) (fun b _ hb => (set_heap_ne _ hb).trans (set_heap_ne _ hb)) (fun g off k e => by have := HF5.out g off k e; omega), fun g off k e => by have := HF5.out g off k e; omega, HSET5.out, obj_neD _ (by omega) (obj_neD _ (by omega) (obj_in HB5.out HGJ.out)), ((HBJ.out.trans (HB5.out.mono hbjs)).setCell (p := ⟨DB, 0, none⟩) (by simp; omega) _).setCell (p := ⟨DB, 1, none⟩) (by simp; omega) _⟩
                case measure => simp [intOf]; omega
            · have hke : j = gg.2.2.length := by omega
              subst hke
              have f5 : decide ((gg.2.2.length : Int) < (gg.2.2.length : Int)) = false := decide_eq_false (by omega)
              have hdo := HDK.out.of hbj
              obtain ⟨xk, hxk⟩ : ∃ xk, ds[k]? = some xk := ⟨_, List.getElem?_eq_getElem (by rw [HDK.out.len]; exact hkl)⟩
              obtain ⟨t0, t1, t2, t3⟩ := hdo.at hxk
              have hTlo : w.heap.size + 1 < DB := by omega
              have hset := hdo.set k (ad, cap, d) HIJ.out (fun g off k e => by have := HFJ.out g off k e; omega)
              have HSET := Lib.hid hset
              have HNO2 := Lib.hid (obj_in hbj HNO.out)
              have HGO2 := Lib.hid (obj_in hbj HGO.out)
              have hgbT := hgl
              have hneT : gb ≠ w.heap.size + 1 := by omega
              clear hdo hset hxk
              go_wp2
              refine ⟨⟨k + 1, ds.set k (ad, cap, d), by go_num, by omega, HSET.out, fun i x hx hi ho => ?_, obj_neD _ (by omega) (obj_neD _ (by omega) HNO2.out), obj_neD _ hneT (obj_neD _ hneT HGO2.out), ((HBW.out.trans (HBJ.out.mono hbs)).setCell (p := ⟨w.heap.size + 1, k * 2, none⟩) (by simp) _).setCell (p := ⟨w.heap.size + 1, k * 2 + 1, none⟩) (by simp) _, by simp; omega⟩, by simp [intOf]; omega⟩
              rw [List.getElem?_set] at hx
              by_cases hki : k = i
              · subst hki
                rw [if_pos rfl, if_pos (by rw [HDK.out.len]; exact hkl)] at hx
                injection hx with hx
                subst hx
                have := HRJ.out
                rwa [Fj_all HOK.out HGG.out] at this
              · rw [if_neg hki] at hx
                exact HRK.out i x hx (by omega) ho
        have f3 : ((gg.1 : Int) == 3) = false := by simp; omega
        by_cases k4 : gg.1 = 4
        · have f4 : ((gg.1 : Int) == 4) = true := by simp [k4]
          have f6 : ((gg.1 : Int) == 6) = false := by simp; omega
          have HKA := Lib.hid k4
          have HK3 := Lib.hid k3
          clear k1 k2 k3 k4
          go_wp2_with fail
          refine (con0 _).mono ?_
          rintro _ _ ⟨rfl, yC, rfl⟩
          have hV1b : Below wo.heap.size wo yC.w := HAL.out.trans (yC.below.mono HAL.out.size)
          have hV1g := obj_in yC.below HGX2.out
          obtain ⟨V1, hV1⟩ : ∃ V1, yC.w = V1 := ⟨_, rfl⟩
          rw [hV1] at hV1b hV1g ⊢
          have hV1s := hV1b.size
          have HV1B := Lib.hid hV1b
          have HV1G := Lib.hid hV1g
          have hV1l := (Array.getElem?_eq_some_iff.1 hV1g).1
          have hdb := World.alloc_heap_new V1 (.cells #[.slice none 0 0, .int .i64 0] 63 (0, 0))
          have hal2 : Below V1.heap.size V1 (V1.alloc (.cells #[.slice none 0 0, .int .i64 0] 63)) := (Below.refl _ _).alloc (Nat.le_refl _) _
          have HDB := Lib.hid hdb
          have HAL2 := Lib.hid hal2
          have hv2g := obj_in hal2 hV1g
          clear p0 p1 p2 hV1 hV1b hV1g hdb hal2
          obtain ⟨p0, p1, p2⟩ := box3 hv2g
          have HV2G := Lib.hid hv2g
          clear hv2g
          dsimp only
          have HSB := Lib.hid (show Below wo.heap.size wo (V1.alloc (.cells #[.slice none 0 0, .int .i64 0] 63)) from HV1B.out.trans (HAL2.out.mono hV1s))
          have HSI := Lib.hid (show InD (V1.alloc (.cells #[.slice none 0 0, .int .i64 0] 63)).heap.size (V1.alloc (.cells #[.slice none 0 0, .int .i64 0] 63)) none (([] : List (Nat × Nat × Nat)).map z3) from inD_nil _ _ _)
          go_wp2_with fail
          clear p0 p1 p2
          obtain ⟨DB, hDB⟩ : ∃ DB, V1.heap.size = DB := ⟨_, rfl⟩
          have hDGB : GB < DB := by rw [← hDB]; exact hV1l
          have hDwo : wo.heap.size ≤ DB := by omega
          have HFD := Lib.hid (show ∀ g off k, (none : Option Addr) = some ⟨g, off, k⟩ → DB < g from fun g off k e => by cases e)
          obtain ⟨WS, hWS⟩ : ∃ WS, V1.alloc (.cells #[.slice none 0 0, .int .i64 0] 63) = WS := ⟨_, rfl⟩
          rw [hWS] at HSB HSI HDB HV2G ⊢
          rw [hDB] at HDB ⊢
          have HSD := HDB
          have HSG := HV2G
          obtain ⟨d, hd⟩ : ∃ d : Dg3, d = ([], 0) := ⟨_, rfl⟩
          obtain ⟨ad, had⟩ : ∃ ad : Option Addr, ad = none := ⟨_, rfl⟩
          obtain ⟨cap, hcap⟩ : ∃ cap, cap = 0 := ⟨_, rfl⟩
          rw [show ([] : List (Nat × Nat × Nat)) = d.1 by rw [hd], ← had] at HSI
          rw [← had] at HFD
          have hcc := HD.out.con false
          rw [show (([], if false then 1 else 0) : Dg3) = d by rw [hd]; rfl] at hcc
          have hsd := HSD.out
          rw [show (Value.slice none 0 0) = .slice ad d.1.length cap by rw [hd, had, hcap]; rfl, show (Value.int .i64 0) = .int .i64 (d.2 : Int) by rw [hd]; rfl] at hsd
          have HSD := Lib.hid hsd
          clear hWS hDB HAL2 HV2G HDB hd had hcap hsd
          have HFE := Lib.hid (show ∀ j, Fj G k gg j = fun ρ => (gg.2.2.take j).any (vl ρ G) from fun j => by rw [Fj, if_neg HK3.out, if_pos HKA.out])
          have HF0 := Lib.hid (show R (Fj G k gg 0) d from by rw [HFE.out]; exact hcc)
          clear hcc
          go_loopw [9, 68] (fun ev iv wi => ∃ (j : Nat) (d : Dg3) (ad : Option Addr) (cap : Nat), ev = .int .i64 0 ∧ iv = .int .i64 (j : Int) ∧ j ≤ gg.2.2.length ∧ R (Fj G k gg j) d ∧ InD wi.heap.size wi ad (d.1.map z3) ∧ (∀ g off k, ad = some ⟨g, off, k⟩ → DB < g) ∧ wi.heap[DB]? = some (.cells #[.slice ad d.1.length cap, .int .i64 (d.2 : Int)] 63 (0, 0)) ∧ wi.heap[GB]? = some (.cells #[.int .i64 (gg.1 : Int), .int .i64 (gg.2.1 : Int), .slice ax gg.2.2.length cx] 45 (0, 0)) ∧ Below wo.heap.size wo wi) (fun _ iv _ => gg.2.2.length - (intOf iv).toNat)
          case atStart => exact ⟨0, d, ad, cap, rfl, rfl, Nat.zero_le _, HF0.out, HSI.out, HFD.out, HSD.out, HSG.out, HSB.out⟩
          case round =>
            rename World => wi
            obtain ⟨j, d, ad, cap, rfl, rfl, hj, hRj, hij, hfj, hdj, hgj, hbj⟩ := hrel
            have HRJ := Lib.hid hRj
            have HIJ := Lib.hid hij
            have HFJ := Lib.hid hfj
            have HDJ := Lib.hid hdj
            have HGJ := Lib.hid hgj
            have HBJ := Lib.hid hbj
            have hbjs := hbj.size
            obtain ⟨p0, p1, p2⟩ := box3 hgj
            obtain ⟨r0, r1, r2, r3⟩ := box2 hdj
            have hdjl := (Array.getElem?_eq_some_iff.1 hdj).1
            clear hRj hij hfj hdj hgj
            rcases Nat.lt_or_ge j gg.2.2.length with hjl | hjl
            · obtain ⟨y, hy⟩ := some_at hjl
              have hyk := hins y (List.mem_of_getElem? hy)
              obtain ⟨b3, o3, hadd, hb3, z0⟩ := (HI2.out.of hbj).at (show (gg.2.2.map fun k : Nat => (k : Int))[j]? = some (y : Int) by rw [List.getElem?_map, hy]; rfl)
              first | subst hadd | (injection hadd with hadd; injection hadd with e1 e2 _; subst e1 e2)
              have HY := Lib.hid hy
              have f5 : decide ((j : Int) < (gg.2.2.length : Int)) = true := decide_eq_true (by omega)
              have hib2 : (0 ≤ (j : Int) ∧ (j : Int) < (gg.2.2.length : Int)) := ⟨by omega, by omega⟩
              have hib3 : (0 ≤ (y : Int) ∧ (y : Int) < (n : Int)) := ⟨by omega, by omega⟩
              clear hy hbj
              obtain ⟨x0, hx0⟩ : ∃ x0, ds[y]? = some x0 := ⟨_, List.getElem?_eq_getElem (by rw [HDK.out.len]; omega)⟩
              have hon0 : on y = true := HCLO.out k y gg HGG.out HQ.out (List.mem_of_getElem? HY.out)
              have hR0 := HRK.out y x0 hx0 hyk hon0
              have hdsi := HDK.out.of HBJ.out
              obtain ⟨t0, t1, -, -⟩ := hdsi.at hx0
              have hIx := (hdsi.ind _ (List.mem_of_getElem? hx0)).1
              obtain ⟨xa, xc, xd⟩ := x0
              have HAND := Lib.hid (fun W' (hb : Below wi.heap.size wi W') => (show Calls Tryz.prog 65 #[.agg #[.slice ad d.1.length cap, .int .i64 (d.2 : Int)], .agg #[.slice xa xd.1.length xc, .int .i64 (xd.2 : Int)]] W' (fun e W5 => ∃ (d5 : Dg3) (ad5 : Option Addr) (cap5 : Nat), R (Fj G k gg (j + 1)) d5 ∧ e = .returned (.tuple #[.agg #[.slice ad5 d5.1.length cap5, .int .i64 (d5.2 : Int)], .int .i64 0]) ∧ InD W5.heap.size W5 ad5 (d5.1.map z3) ∧ (∀ g off k, ad5 = some ⟨g, off, k⟩ → wi.heap.size ≤ g) ∧ Below wi.heap.size wi W5) from by
                have hRj := HRJ.out
                rw [HFE.out] at hRj ⊢
                refine ((HD.out.disj) k gg HGG.out HQ.out HKA.out j y HY.out d xd ad xa cap xc W' hRj hR0 ((HIJ.out.of hb).up hb.size) ((hIx.of hb).up hb.size)).mono ?_
                rintro _ W5 ⟨d5, hR5, ad5, cap5, rfl, hi5, hf5, hb5⟩
                exact ⟨d5, ad5, cap5, hR5, rfl, hi5, fun g off k e => Nat.le_trans hb.size (hf5 g off k e), hb.trans (hb5.mono hb.size)⟩))
              clear hx0 hon0 hR0 hdsi hIx
              go_wp2_with fail
              have hRf : Below wi.heap.size wi wi := Below.refl _ _
              go_region_law (go_simp; refine (HAND.out _ (by (repeat' (first | (with_reducible first | apply Zl1 | apply Zl2 | apply Zl3 | apply Zl4 | apply Zl5 | apply Zl6 | apply Zl7 | apply Zl8 | apply Zl9 | apply Zla | apply Zlb | apply Zlc) | (dsimp only; with_reducible first | apply Zl8 | apply Zl2 | apply Zld) | with_reducible assumption | omega | (dsimp only; omega))))).mono ?_; rintro _ W5 ⟨d5, ad5, cap5, hR5, rfl, hi5, hf5, hb5⟩; have HR5 := Lib.hid hR5; have HI5 := Lib.hid hi5; have HF5 := Lib.hid hf5; have HB5 := Lib.hid hb5; have hd5 := obj_in hb5 HDJ.out; obtain ⟨s0, s1, s2, s3⟩ := box2 hd5; clear hR5 hi5 hf5 hb5 hd5; dsimp only)
              all_goals
                have hset5 := obj_set2 (.slice ad5 d5.1.length cap5) (.int .i64 (d5.2 : Int)) (obj_in HB5.out HDJ.out)
                have HSET5 := Lib.hid hset5
                have hB5s := HB5.out.size
                clear hset5 hRf HAND t0 t1
                go_wp2
                go_roundw
                case rel => exact ⟨j + 1, d5, ad5, cap5, rfl, by go_num, by omega, HR5.out, inD_keep (B := DB) HI5.out (by simp) (fun b _ hb => (set_heap_ne _ hb).trans (set_heap_ne _ hb)) (fun g off k e => by have := HF5.out g off k e; omega), fun g off k e => by have := HF5.out g off k e; omega, HSET5.out, obj_neD _ (by omega) (obj_neD _ (by omega) (obj_in HB5.out HGJ.out)), ((HBJ.out.trans (HB5.out.mono hbjs)).setCell (p := ⟨DB, 0, none⟩) (by simp; omega) _).setCell (p := ⟨DB, 1, none⟩) (by simp; omega) _⟩
                case measure => simp [intOf]; omega
            · have hke : j = gg.2.2.length := by omega
              subst hke
              have f5 : decide ((gg.2.2.length : Int) < (gg.2.2.length : Int)) = false := decide_eq_false (by omega)
              have hdo := HDK.out.of hbj
              obtain ⟨xk, hxk⟩ : ∃ xk, ds[k]? = some xk := ⟨_, List.getElem?_eq_getElem (by rw [HDK.out.len]; exact hkl)⟩
              obtain ⟨t0, t1, t2, t3⟩ := hdo.at hxk
              have hTlo : w.heap.size + 1 < DB := by omega
              have hset := hdo.set k (ad, cap, d) HIJ.out (fun g off k e => by have := HFJ.out g off k e; omega)
              have HSET := Lib.hid hset
              have HNO2 := Lib.hid (obj_in hbj HNO.out)
              have HGO2 := Lib.hid (obj_in hbj HGO.out)
              have hgbT := hgl
              have hneT : gb ≠ w.heap.size + 1 := by omega
              clear hdo hset hxk
              go_wp2
              refine ⟨⟨k + 1, ds.set k (ad, cap, d), by go_num, by omega, HSET.out, fun i x hx hi ho => ?_, obj_neD _ (by omega) (obj_neD _ (by omega) HNO2.out), obj_neD _ hneT (obj_neD _ hneT HGO2.out), ((HBW.out.trans (HBJ.out.mono hbs)).setCell (p := ⟨w.heap.size + 1, k * 2, none⟩) (by simp) _).setCell (p := ⟨w.heap.size + 1, k * 2 + 1, none⟩) (by simp) _, by simp; omega⟩, by simp [intOf]; omega⟩
              rw [List.getElem?_set] at hx
              by_cases hki : k = i
              · subst hki
                rw [if_pos rfl, if_pos (by rw [HDK.out.len]; exact hkl)] at hx
                injection hx with hx
                subst hx
                have := HRJ.out
                rwa [Fj_all HOK.out HGG.out] at this
              · rw [if_neg hki] at hx
                exact HRK.out i x hx (by omega) ho
        have f4 : ((gg.1 : Int) == 4) = false := by simp; omega
        have hkn := HN.out
        have hvl : (fun ρ => vl ρ G k) = fun _ => decide (gg.1 = 6) := by
          funext ρ
          rw [vl_at HOK.out ρ (by rw [hkn]; exact hkl), gtAt_some HGG.out, ev1, if_neg k1, if_neg k2, if_neg k3, if_neg k4]
        have HN34 := Lib.hid (show gg.1 ≠ 3 ∧ gg.1 ≠ 4 from ⟨k3, k4⟩)
        by_cases k6 : gg.1 = 6
        · have f6 : ((gg.1 : Int) == 6) = true := by simp [k6]
          rw [decide_eq_true k6] at hvl
          have HVL := Lib.hid hvl
          clear k1 k2 k3 k4 k6 hvl hkn
          go_wp2_with fail
          refine (con1 _).mono ?_
          rintro _ _ ⟨rfl, yC, rfl⟩
          have hV1b : Below wo.heap.size wo yC.w := HAL.out.trans (yC.below.mono HAL.out.size)
          have hV1g := obj_in yC.below HGX2.out
          obtain ⟨V1, hV1⟩ : ∃ V1, yC.w = V1 := ⟨_, rfl⟩
          rw [hV1] at hV1b hV1g ⊢
          have hV1s := hV1b.size
          have HV1B := Lib.hid hV1b
          have HV1G := Lib.hid hV1g
          have hV1l := (Array.getElem?_eq_some_iff.1 hV1g).1
          have hdb := World.alloc_heap_new V1 (.cells #[.slice none 0 0, .int .i64 1] 63 (0, 0))
          have hal2 : Below V1.heap.size V1 (V1.alloc (.cells #[.slice none 0 0, .int .i64 1] 63)) := (Below.refl _ _).alloc (Nat.le_refl _) _
          have HDB := Lib.hid hdb
          have HAL2 := Lib.hid hal2
          have hv2g := obj_in hal2 hV1g
          clear p0 p1 p2 hV1 hV1b hV1g hdb hal2
          obtain ⟨p0, p1, p2⟩ := box3 hv2g
          have HV2G := Lib.hid hv2g
          clear hv2g
          dsimp only
          have HSB := Lib.hid (show Below wo.heap.size wo (V1.alloc (.cells #[.slice none 0 0, .int .i64 1] 63)) from HV1B.out.trans (HAL2.out.mono hV1s))
          have HSI := Lib.hid (show InD (V1.alloc (.cells #[.slice none 0 0, .int .i64 1] 63)).heap.size (V1.alloc (.cells #[.slice none 0 0, .int .i64 1] 63)) none (([] : List (Nat × Nat × Nat)).map z3) from inD_nil _ _ _)
          go_wp2_with fail
          clear p0 p1 p2
          obtain ⟨DB, hDB⟩ : ∃ DB, V1.heap.size = DB := ⟨_, rfl⟩
          have hDGB : GB < DB := by rw [← hDB]; exact hV1l
          have hDwo : wo.heap.size ≤ DB := by omega
          have HFD := Lib.hid (show ∀ g off k, (none : Option Addr) = some ⟨g, off, k⟩ → DB < g from fun g off k e => by cases e)
          obtain ⟨WS, hWS⟩ : ∃ WS, V1.alloc (.cells #[.slice none 0 0, .int .i64 1] 63) = WS := ⟨_, rfl⟩
          rw [hWS] at HSB HSI HDB HV2G ⊢
          rw [hDB] at HDB ⊢
          have HSD := HDB
          have HSG := HV2G
          obtain ⟨d, hd⟩ : ∃ d : Dg3, d = ([], 1) := ⟨_, rfl⟩
          obtain ⟨ad, had⟩ : ∃ ad : Option Addr, ad = none := ⟨_, rfl⟩
          obtain ⟨cap, hcap⟩ : ∃ cap, cap = 0 := ⟨_, rfl⟩
          rw [show ([] : List (Nat × Nat × Nat)) = d.1 by rw [hd], ← had] at HSI
          rw [← had] at HFD
          have hcc := HD.out.con true
          rw [show (([], if true then 1 else 0) : Dg3) = d by rw [hd]; rfl] at hcc
          have hsd := HSD.out
          rw [show (Value.slice none 0 0) = .slice ad d.1.length cap by rw [hd, had, hcap]; rfl, show (Value.int .i64 1) = .int .i64 (d.2 : Int) by rw [hd]; rfl] at hsd
          have HSD := Lib.hid hsd
          clear hWS hDB HAL2 HV2G HDB hd had hcap hsd
          have HF0 := Lib.hid (show R (Fj G k gg 0) d from by rw [Fj, if_neg HN34.out.1, if_neg HN34.out.2, HVL.out]; exact hcc)
          clear hcc
          go_loopw [9, 68] (fun ev iv wi => ∃ (j : Nat) (d : Dg3) (ad : Option Addr) (cap : Nat), ev = .int .i64 0 ∧ iv = .int .i64 (j : Int) ∧ j ≤ gg.2.2.length ∧ R (Fj G k gg j) d ∧ InD wi.heap.size wi ad (d.1.map z3) ∧ (∀ g off k, ad = some ⟨g, off, k⟩ → DB < g) ∧ wi.heap[DB]? = some (.cells #[.slice ad d.1.length cap, .int .i64 (d.2 : Int)] 63 (0, 0)) ∧ wi.heap[GB]? = some (.cells #[.int .i64 (gg.1 : Int), .int .i64 (gg.2.1 : Int), .slice ax gg.2.2.length cx] 45 (0, 0)) ∧ Below wo.heap.size wo wi) (fun _ iv _ => gg.2.2.length - (intOf iv).toNat)
          case atStart => exact ⟨0, d, ad, cap, rfl, rfl, Nat.zero_le _, HF0.out, HSI.out, HFD.out, HSD.out, HSG.out, HSB.out⟩
          case round =>
            rename World => wi
            obtain ⟨j, d, ad, cap, rfl, rfl, hj, hRj, hij, hfj, hdj, hgj, hbj⟩ := hrel
            have HRJ := Lib.hid hRj
            have HIJ := Lib.hid hij
            have HFJ := Lib.hid hfj
            have HDJ := Lib.hid hdj
            have HGJ := Lib.hid hgj
            have HBJ := Lib.hid hbj
            have hbjs := hbj.size
            obtain ⟨p0, p1, p2⟩ := box3 hgj
            obtain ⟨r0, r1, r2, r3⟩ := box2 hdj
            have hdjl := (Array.getElem?_eq_some_iff.1 hdj).1
            clear hRj hij hfj hdj hgj
            rcases Nat.lt_or_ge j gg.2.2.length with hjl | hjl
            · obtain ⟨y, hy⟩ := some_at hjl
              have hyk := hins y (List.mem_of_getElem? hy)
              obtain ⟨b3, o3, hadd, hb3, z0⟩ := (HI2.out.of hbj).at (show (gg.2.2.map fun k : Nat => (k : Int))[j]? = some (y : Int) by rw [List.getElem?_map, hy]; rfl)
              first | subst hadd | (injection hadd with hadd; injection hadd with e1 e2 _; subst e1 e2)
              have HY := Lib.hid hy
              have f5 : decide ((j : Int) < (gg.2.2.length : Int)) = true := decide_eq_true (by omega)
              have hib2 : (0 ≤ (j : Int) ∧ (j : Int) < (gg.2.2.length : Int)) := ⟨by omega, by omega⟩
              have hib3 : (0 ≤ (y : Int) ∧ (y : Int) < (n : Int)) := ⟨by omega, by omega⟩
              clear hy hbj
              go_wp2
              go_roundw
              case rel => exact ⟨j + 1, d, ad, cap, rfl, by go_num, by omega, by (have := HRJ.out; rw [Fj, if_neg HN34.out.1, if_neg HN34.out.2] at this ⊢; exact this), HIJ.out, HFJ.out, HDJ.out, HGJ.out, HBJ.out⟩
              case measure => simp [intOf]; omega
            · have hke : j = gg.2.2.length := by omega
              subst hke
              have f5 : decide ((gg.2.2.length : Int) < (gg.2.2.length : Int)) = false := decide_eq_false (by omega)
              have hdo := HDK.out.of hbj
              obtain ⟨xk, hxk⟩ : ∃ xk, ds[k]? = some xk := ⟨_, List.getElem?_eq_getElem (by rw [HDK.out.len]; exact hkl)⟩
              obtain ⟨t0, t1, t2, t3⟩ := hdo.at hxk
              have hTlo : w.heap.size + 1 < DB := by omega
              have hset := hdo.set k (ad, cap, d) HIJ.out (fun g off k e => by have := HFJ.out g off k e; omega)
              have HSET := Lib.hid hset
              have HNO2 := Lib.hid (obj_in hbj HNO.out)
              have HGO2 := Lib.hid (obj_in hbj HGO.out)
              have hgbT := hgl
              have hneT : gb ≠ w.heap.size + 1 := by omega
              clear hdo hset hxk
              go_wp2
              refine ⟨⟨k + 1, ds.set k (ad, cap, d), by go_num, by omega, HSET.out, fun i x hx hi ho => ?_, obj_neD _ (by omega) (obj_neD _ (by omega) HNO2.out), obj_neD _ hneT (obj_neD _ hneT HGO2.out), ((HBW.out.trans (HBJ.out.mono hbs)).setCell (p := ⟨w.heap.size + 1, k * 2, none⟩) (by simp) _).setCell (p := ⟨w.heap.size + 1, k * 2 + 1, none⟩) (by simp) _, by simp; omega⟩, by simp [intOf]; omega⟩
              rw [List.getElem?_set] at hx
              by_cases hki : k = i
              · subst hki
                rw [if_pos rfl, if_pos (by rw [HDK.out.len]; exact hkl)] at hx
                injection hx with hx
                subst hx
                have := HRJ.out
                rwa [Fj_all HOK.out HGG.out] at this
              · rw [if_neg hki] at hx
                exact HRK.out i x hx (by omega) ho
        · have f6 : ((gg.1 : Int) == 6) = false := by simp; omega
          rw [decide_eq_false k6] at hvl
          have HVL := Lib.hid hvl
          clear k1 k2 k3 k4 k6 hvl hkn
          go_wp2_with fail
          refine (con0 _).mono ?_
          rintro _ _ ⟨rfl, yC, rfl⟩
          have hV1b : Below wo.heap.size wo yC.w := HAL.out.trans (yC.below.mono HAL.out.size)
          have hV1g := obj_in yC.below HGX2.out
          obtain ⟨V1, hV1⟩ : ∃ V1, yC.w = V1 := ⟨_, rfl⟩
          rw [hV1] at hV1b hV1g ⊢
          have hV1s := hV1b.size
          have HV1B := Lib.hid hV1b
          have HV1G := Lib.hid hV1g
          have hV1l := (Array.getElem?_eq_some_iff.1 hV1g).1
          have hdb := World.alloc_heap_new V1 (.cells #[.slice none 0 0, .int .i64 0] 63 (0, 0))
          have hal2 : Below V1.heap.size V1 (V1.alloc (.cells #[.slice none 0 0, .int .i64 0] 63)) := (Below.refl _ _).alloc (Nat.le_refl _) _
          have HDB := Lib.hid hdb
          have HAL2 := Lib.hid hal2
          have hv2g := obj_in hal2 hV1g
          clear p0 p1 p2 hV1 hV1b hV1g hdb hal2
          obtain ⟨p0, p1, p2⟩ := box3 hv2g
          have HV2G := Lib.hid hv2g
          clear hv2g
          dsimp only
          have HSB := Lib.hid (show Below wo.heap.size wo (V1.alloc (.cells #[.slice none 0 0, .int .i64 0] 63)) from HV1B.out.trans (HAL2.out.mono hV1s))
          have HSI := Lib.hid (show InD (V1.alloc (.cells #[.slice none 0 0, .int .i64 0] 63)).heap.size (V1.alloc (.cells #[.slice none 0 0, .int .i64 0] 63)) none (([] : List (Nat × Nat × Nat)).map z3) from inD_nil _ _ _)
          go_wp2_with fail
          clear p0 p1 p2
          obtain ⟨DB, hDB⟩ : ∃ DB, V1.heap.size = DB := ⟨_, rfl⟩
          have hDGB : GB < DB := by rw [← hDB]; exact hV1l
          have hDwo : wo.heap.size ≤ DB := by omega
          have HFD := Lib.hid (show ∀ g off k, (none : Option Addr) = some ⟨g, off, k⟩ → DB < g from fun g off k e => by cases e)
          obtain ⟨WS, hWS⟩ : ∃ WS, V1.alloc (.cells #[.slice none 0 0, .int .i64 0] 63) = WS := ⟨_, rfl⟩
          rw [hWS] at HSB HSI HDB HV2G ⊢
          rw [hDB] at HDB ⊢
          have HSD := HDB
          have HSG := HV2G
          obtain ⟨d, hd⟩ : ∃ d : Dg3, d = ([], 0) := ⟨_, rfl⟩
          obtain ⟨ad, had⟩ : ∃ ad : Option Addr, ad = none := ⟨_, rfl⟩
          obtain ⟨cap, hcap⟩ : ∃ cap, cap = 0 := ⟨_, rfl⟩
          rw [show ([] : List (Nat × Nat × Nat)) = d.1 by rw [hd], ← had] at HSI
          rw [← had] at HFD
          have hcc := HD.out.con false
          rw [show (([], if false then 1 else 0) : Dg3) = d by rw [hd]; rfl] at hcc
          have hsd := HSD.out
          rw [show (Value.slice none 0 0) = .slice ad d.1.length cap by rw [hd, had, hcap]; rfl, show (Value.int .i64 0) = .int .i64 (d.2 : Int) by rw [hd]; rfl] at hsd
          have HSD := Lib.hid hsd
          clear hWS hDB HAL2 HV2G HDB hd had hcap hsd
          have HF0 := Lib.hid (show R (Fj G k gg 0) d from by rw [Fj, if_neg HN34.out.1, if_neg HN34.out.2, HVL.out]; exact hcc)
          clear hcc
          go_loopw [9, 68] (fun ev iv wi => ∃ (j : Nat) (d : Dg3) (ad : Option Addr) (cap : Nat), ev = .int .i64 0 ∧ iv = .int .i64 (j : Int) ∧ j ≤ gg.2.2.length ∧ R (Fj G k gg j) d ∧ InD wi.heap.size wi ad (d.1.map z3) ∧ (∀ g off k, ad = some ⟨g, off, k⟩ → DB < g) ∧ wi.heap[DB]? = some (.cells #[.slice ad d.1.length cap, .int .i64 (d.2 : Int)] 63 (0, 0)) ∧ wi.heap[GB]? = some (.cells #[.int .i64 (gg.1 : Int), .int .i64 (gg.2.1 : Int), .slice ax gg.2.2.length cx] 45 (0, 0)) ∧ Below wo.heap.size wo wi) (fun _ iv _ => gg.2.2.length - (intOf iv).toNat)
          case atStart => exact ⟨0, d, ad, cap, rfl, rfl, Nat.zero_le _, HF0.out, HSI.out, HFD.out, HSD.out, HSG.out, HSB.out⟩
          case round =>
            rename World => wi
            obtain ⟨j, d, ad, cap, rfl, rfl, hj, hRj, hij, hfj, hdj, hgj, hbj⟩ := hrel
            have HRJ := Lib.hid hRj
            have HIJ := Lib.hid hij
            have HFJ := Lib.hid hfj
            have HDJ := Lib.hid hdj
            have HGJ := Lib.hid hgj
            have HBJ := Lib.hid hbj
            have hbjs := hbj.size
            obtain ⟨p0, p1, p2⟩ := box3 hgj
            obtain ⟨r0, r1, r2, r3⟩ := box2 hdj
            have hdjl := (Array.getElem?_eq_some_iff.1 hdj).1
            clear hRj hij hfj hdj hgj
            rcases Nat.lt_or_ge j gg.2.2.length with hjl | hjl
            · obtain ⟨y, hy⟩ := some_at hjl
              have hyk := hins y (List.mem_of_getElem? hy)
              obtain ⟨b3, o3, hadd, hb3, z0⟩ := (HI2.out.of hbj).at (show (gg.2.2.map fun k : Nat => (k : Int))[j]? = some (y : Int) by rw [List.getElem?_map, hy]; rfl)
              first | subst hadd | (injection hadd with hadd; injection hadd with e1 e2 _; subst e1 e2)
              have HY := Lib.hid hy
              have f5 : decide ((j : Int) < (gg.2.2.length : Int)) = true := decide_eq_true (by omega)
              have hib2 : (0 ≤ (j : Int) ∧ (j : Int) < (gg.2.2.length : Int)) := ⟨by omega, by omega⟩
              have hib3 : (0 ≤ (y : Int) ∧ (y : Int) < (n : Int)) := ⟨by omega, by omega⟩
              clear hy hbj
              go_wp2
              go_roundw
              case rel => exact ⟨j + 1, d, ad, cap, rfl, by go_num, by omega, by (have := HRJ.out; rw [Fj, if_neg HN34.out.1, if_neg HN34.out.2] at this ⊢; exact this), HIJ.out, HFJ.out, HDJ.out, HGJ.out, HBJ.out⟩
              case measure => simp [intOf]; omega
            · have hke : j = gg.2.2.length := by omega
              subst hke
              have f5 : decide ((gg.2.2.length : Int) < (gg.2.2.length : Int)) = false := decide_eq_false (by omega)
              have hdo := HDK.out.of hbj
              obtain ⟨xk, hxk⟩ : ∃ xk, ds[k]? = some xk := ⟨_, List.getElem?_eq_getElem (by rw [HDK.out.len]; exact hkl)⟩
              obtain ⟨t0, t1, t2, t3⟩ := hdo.at hxk
              have hTlo : w.heap.size + 1 < DB := by omega
              have hset := hdo.set k (ad, cap, d) HIJ.out (fun g off k e => by have := HFJ.out g off k e; omega)
              have HSET := Lib.hid hset
              have HNO2 := Lib.hid (obj_in hbj HNO.out)
              have HGO2 := Lib.hid (obj_in hbj HGO.out)
              have hgbT := hgl
              have hneT : gb ≠ w.heap.size + 1 := by omega
              clear hdo hset hxk
              go_wp2
              refine ⟨⟨k + 1, ds.set k (ad, cap, d), by go_num, by omega, HSET.out, fun i x hx hi ho => ?_, obj_neD _ (by omega) (obj_neD _ (by omega) HNO2.out), obj_neD _ hneT (obj_neD _ hneT HGO2.out), ((HBW.out.trans (HBJ.out.mono hbs)).setCell (p := ⟨w.heap.size + 1, k * 2, none⟩) (by simp) _).setCell (p := ⟨w.heap.size + 1, k * 2 + 1, none⟩) (by simp) _, by simp; omega⟩, by simp [intOf]; omega⟩
              rw [List.getElem?_set] at hx
              by_cases hki : k = i
              · subst hki
                rw [if_pos rfl, if_pos (by rw [HDK.out.len]; exact hkl)] at hx
                injection hx with hx
                subst hx
                have := HRJ.out
                rwa [Fj_all HOK.out HGG.out] at this
              · rw [if_neg hki] at hx
                exact HRK.out i x hx (by omega) ho
    · have hke : k = n := by omega
      subst hke
      have f1 : decide ((k : Int) < (k : Int)) = false := decide_eq_false (by omega)
      go_wp2
      refine bodyPost_ret (v := .tuple #[.slice (some ⟨w.heap.size + 1, 0, none⟩) k k, .int .i64 0]) (by simp [results, Tryz.results39, go_sem]) rfl ⟨ds, w.heap.size + 1, rfl, HDK.out, fun i x hx ho => HRK.out i x hx (by have := (List.getElem?_eq_some_iff.1 hx).1; have := HDK.out.len; omega) ho, HBW.out⟩
end Go.Proofs.YtlnedapimmabdaaGreatDoor
