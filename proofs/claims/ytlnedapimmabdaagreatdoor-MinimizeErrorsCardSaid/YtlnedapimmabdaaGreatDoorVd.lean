/- The cleaner's join, the walk. -/
import Derived.Test.YtlnedapimmabdaaGreatDoorV1
namespace Go.Proofs.YtlnedapimmabdaaGreatDoor
set_option linter.unusedVariables false
set_option linter.unusedSimpArgs false
open Go.RowKit Go.Maps
attribute [local go_sem low] Bel.cell Bel.frozen alloc_cell alloc_frozen
variable {b0 C mb base : Nat} {gv gv1 gv2 : Value} {us : List UG} {L : List Gt} {W W1 W2 : World}

theorem egJ1 : ∀ args w, (callFunc 82 args).run Tryz.prog w = .ok (.enter 82 args) w := fun args w => by kernel_rfl
set_option maxRecDepth 100000 in
set_option maxHeartbeats 25600000 in
theorem joinC_any (vv k : Nat) (hk : k = 3 ∨ k = 4) (h : Cl b0 C mb base gv us L W) (hok : okL vv L) (hir : Irr L) (ins : List Nat) (P : Nat → Prop) (ia : Option Addr) (ic : Nat) (hi : InS P W ia (intsN ins)) (hin : ∀ i ∈ ins, i < L.length) (hl : L.length ≤ 50000) (hil : ins.length ≤ 17592186044416) (hT : Tab W) :
    Calls Tryz.prog 57 #[.pointer (some ⟨C, 0, none⟩), .int .i64 (k : Int), .slice ia ins.length ic] W (AskR b0 C mb base gv W (joinG L k ins)) := by
  have hd0 := h.dist
  have HC := Lib.hid h
  have HT := Lib.hid hT
  have HI := Lib.hid hi
  have HIN := Lib.hid hin
  have HOK := Lib.hid hok
  have HIR := Lib.hid hir
  have HSC := Lib.hid (srt_compact hin)
  have HASK := Lib.hid (fun (kk : Nat) (hkk : kk ≤ 100) (w' : World) (hb : Below W.heap.size W w') => (show Calls Tryz.prog 58 #[.pointer (some ⟨C, 0, none⟩), .int .i64 (kk : Int), .int .i64 0, .slice none 0 0] w' (AskR b0 C mb base gv W (findG L (kk, 0, []))) from
    (ask_any (h.of hb) kk 0 [] (fun _ => True) none 0 (inS_nil _ _ _) (by omega) (by omega) (fun x hx => by cases hx) (by omega) (by simp) (hT.of hb)).mono fun e w'' hr => hr.ahead hb (by omega)))
  have HK := Lib.hid hk
  clear h hT hi hin hok hir
  rcases HK.out with rfl | rfl
  · obtain ⟨V0, hV0, hVb, hVx, hVw, hVs⟩ : ∃ V0, V0 = ((W.alloc (.cells #[.pointer (some ⟨C, 0, none⟩)] 103)).alloc (.cells #[.int .i64 6] 3)) ∧ Below W.heap.size W V0 ∧ V0.heap[W.heap.size]? = some (.cells #[.pointer (some ⟨C, 0, none⟩)] 103 (0, 0)) ∧ V0.heap[W.heap.size + 1]? = some (.cells #[.int .i64 6] 3 (0, 0)) ∧ V0.heap.size = W.heap.size + 2 := ⟨_, rfl, by (repeat' (first | (with_reducible first | apply Zl1 | apply Zl2 | apply Zl3 | apply Zl4 | apply Zl5 | apply Zl6 | apply Zl7 | apply Zl8 | apply Zl9 | apply Zla | apply Zlb | apply Zlc) | (dsimp only; with_reducible first | apply Zl8 | apply Zl2 | apply Zld) | with_reducible assumption | omega | (dsimp only; omega))), (obj_alloc _ (World.alloc_heap_new W _)), (alloc2_new W _ _), by simp⟩
    have HV0 := Lib.hid hV0
    have HVB := Lib.hid hVb
    have HVX := Lib.hid hVx
    have HVW := Lib.hid hVw
    have hVs2 : W.heap.size + 2 ≤ V0.heap.size := by omega
    clear hV0 hVb hVx hVw hVs
    go_enter Tryz.func57, Tryz.ntmps57
    go_wp2_with fail
    rw [← HV0.out]
    clear HV0
    refine (valuesF_any (.slice ia ins.length ic) ⟨_, _, _, rfl⟩ _).mono ?_
    rintro _ _ ⟨rfl, rfl⟩
    have hal : Below V0.heap.size V0 (V0.alloc (.cells #[.slice ia ins.length ic] 23)) := (Below.refl _ _).alloc (Nat.le_refl _) _
    have hb1 := HVB.out.trans (hal.mono HVB.out.size)
    have hI1 : InS (fun b => b < (V0.alloc (.cells #[.slice ia ins.length ic] 23)).heap.size) (V0.alloc (.cells #[.slice ia ins.length ic] 23)) ia (intsN ins) := ((HI.out.of HVB.out).of hal).imp fun b hb _ => hb
    have hsv := sortedV_any V0.heap.size ia ic (intsN ins) (V0.alloc (.cells #[.slice ia ins.length ic] 23)) (by unfold intsN; rw [List.length_map]; omega) (by simp) (box1 (by rw [show (intsN ins).length = ins.length by unfold intsN; rw [List.length_map]]; exact World.alloc_heap_new V0 _)) hI1
    have HSV := Lib.hid hsv
    have HAL := Lib.hid hal
    clear hal hb1 hI1 hsv
    dsimp only
    go_wp2_with fail
    refine HSV.out.mono ?_
    rintro _ W5 ⟨v5, rfl, hov5, hb5⟩
    have hb5V : Below V0.heap.size V0 W5 := HAL.out.trans (hb5.mono HAL.out.size)
    have hco := compact_own W5 (V0.alloc (.cells #[.slice ia ins.length ic] 23)).heap.size v5 _ hov5 (by rw [List.length_mergeSort]; unfold intsN; rw [List.length_map]; omega)
    rw [HSC.out] at hco
    have HCO := Lib.hid hco
    have HB5 := Lib.hid hb5V
    have hlo5 : ∀ g, v5.ownBlock = some g → V0.heap.size ≤ g := fun g hg => by have := (ownV_lt hov5 hg).1; simp at this; omega
    have HLO := Lib.hid hlo5
    clear hov5 hb5 hb5V hco hlo5 HSV
    dsimp only
    go_wp2_with fail
    refine HCO.out.mono ?_
    rintro _ W6 ⟨v6, rfl, hov6, hg6, hv6⟩
    obtain ⟨R0, hR0⟩ : ∃ R0, srtG L ins = R0 := ⟨_, rfl⟩
    rw [hR0] at hov6
    have hb6 : Below V0.heap.size V0 W6 := HB5.out.grown hg6 HB5.out.size HLO.out
    obtain ⟨sa, sc, hs6⟩ := ownV_shape hov6
    rw [show (intsV (intsN R0)).length = R0.length by unfold intsV intsN; rw [List.length_map, List.length_map]] at hs6
    have hlo6 : ∀ g, v6.ownBlock = some g → V0.heap.size ≤ g := fun g hg => HLO.out g (by rw [← hv6]; exact hg)
    subst hs6
    have hRl : R0.length ≤ 50000 := by
      rw [← hR0]
      exact Nat.le_trans (List.length_filter_le _ _) (by simp; omega)
    have hRm : ∀ i ∈ R0, i < L.length := fun i hi => by rw [← hR0] at hi; exact (mem_srt.1 hi).1
    have HR0 := Lib.hid hR0
    have HRM := Lib.hid hRm
    have HB6 := Lib.hid hb6
    have HO6 := Lib.hid hov6
    have HL6 := Lib.hid hlo6
    have hST : joinG L 3 ins = (if R0.any (stopsG L 3 R0) then findG L (5, 0, []) else match restG L 3 ins with | [] => findG L (6, 0, []) | [i] => (L, i) | _ => findG L (3, 0, restG L 3 ins)) := by
      rw [joinG, ← stops_srt (k := 3) HIR.out (by decide), hR0]
      rfl
    have HST := Lib.hid hST
    have h6s := hb6.size
    clear hR0 hRm hb6 hov6 hg6 hv6 hlo6 hST HCO HLO HB5
    dsimp only
    go_wp2_with fail
    have hi6 : InS (fun _ => True) W6 sa (intsN R0) := by
      have h := HO6.out
      rw [show R0.length = (intsN R0).length by unfold intsN; rw [List.length_map]] at h
      exact (inS_of_ownV h).imp fun _ _ _ => trivial
    have HI6 := Lib.hid hi6
    clear hi6
    go_loopw [22] (fun iv wr => ∃ j : Nat, iv = .int .i64 (j : Int) ∧ j ≤ R0.length ∧ Below W6.heap.size W6 wr ∧ (R0.take j).any (stopsG L 3 R0) = false) (fun iv _ => R0.length - (intOf iv).toNat)
    case atStart => exact ⟨0, rfl, Nat.zero_le _, Below.refl _ _, rfl⟩
    case round =>
      rename World => wo
      obtain ⟨j, rfl, hj, hbo, hst⟩ := hrel
      have HBO := Lib.hid hbo
      have HSTT := Lib.hid hst
      have hwo := hbo.size
      have hbW : Below W.heap.size W wo := HVB.out.trans ((HB6.out.trans (hbo.mono h6s)).mono (by omega))
      have HBW := Lib.hid hbW
      have hxo := obj_in (HB6.out.trans (hbo.mono h6s)) HVX.out
      have hwwo := obj_in (HB6.out.trans (hbo.mono h6s)) HVW.out
      have hCo := HC.out.of hbW
      have HCO := Lib.hid hCo
      obtain ⟨c0, c1, c2, c3⟩ := box2 hCo.obj
      have x0 := box1 hxo
      have w0 := box1 hwwo
      have HXO := Lib.hid hxo
      have HWO := Lib.hid hwwo
      obtain ⟨gva, gvc, hgv, hing⟩ := hCo.val
      clear hst hxo hwwo
      rcases Nat.lt_or_ge j R0.length with hjl | hjl
      · obtain ⟨i, hi⟩ := some_at hjl
        have hiL := HRM.out i (List.mem_of_getElem? hi)
        obtain ⟨b1, o1, hadd, -, hcs1⟩ := (HI6.out.of hbo) (by unfold intsN; rw [List.length_map]; omega)
        have z0 := hcs1 j (i : Int) (show (intsN R0)[j]? = some (i : Int) by unfold intsN; rw [List.getElem?_map, hi]; rfl)
        subst hadd
        have HCS1 := Lib.hid hcs1
        obtain ⟨gg, hgg⟩ : ∃ gg, L[i]? = some gg := ⟨_, List.getElem?_eq_getElem hiL⟩
        obtain ⟨b2, o2, hadd, hb2, ax, cx, y0, y1, y2, hiy⟩ := hing.at (show (L.map gz)[i]? = some (gz gg) by rw [List.getElem?_map, hgg]; rfl)
        subst hadd
        dsimp only [gz] at y0 y1 y2 hiy
        rw [List.length_map] at y2
        have hkd : kd L i = gg.1 := by rw [kd, gtAt_some hgg]
        have hog := HOK.out i gg hgg
        have hstop : ∀ b, stopsG L 3 R0 i = b → (b = true → joinG L 3 ins = findG L (5, 0, [])) ∧ (b = false → (R0.take (j + 1)).any (stopsG L 3 R0) = false) := fun b hsb => ⟨fun hbt => by
          subst hbt
          rw [HST.out, if_pos (List.any_eq_true.2 ⟨i, List.mem_of_getElem? hi, hsb⟩)], fun hbf => by
          subst hbf
          rw [take_snoc hi, List.any_append, HSTT.out]
          simp [hsb]⟩
        have HSTOP := Lib.hid hstop
        have f1 : decide ((j : Int) < (R0.length : Int)) = true := decide_eq_true (by omega)
        have hib : (0 ≤ (j : Int) ∧ (j : Int) < (R0.length : Int)) := ⟨by omega, by omega⟩
        have hib2 : (0 ≤ (i : Int) ∧ (i : Int) < (L.length : Int)) := ⟨by omega, by omega⟩
        subst hgv
        have hal : Below wo.heap.size wo (wo.alloc (.cells #[.int .i64 (gg.1 : Int), .int .i64 (gg.2.1 : Int), .slice ax gg.2.2.length cx] 45)) := (Below.refl _ _).alloc (Nat.le_refl _) _
        have HAL2 := Lib.hid (HBW.out.trans (hal.mono (by have := hbW.size; omega)))
        have HALO := Lib.hid (HBO.out.trans (hal.mono hwo))
        have HALS := Lib.hid hal
        clear hcs1 hing hCo hbo hbW hal hstop
        by_cases hd : gg.1 = 5
        · have f2 : ((gg.1 : Int) == 5) = true := by simp [hd]
          have hs1 : stopsG L 3 R0 i = true := by
            unfold stopsG
            rw [hkd, hd]
            simp [decK]
          have HS1 := Lib.hid hs1
          clear hi hgg hiy hkd hog hd hs1
          go_wp2_with fail
          refine (HASK.out 5 (by omega) _ HAL2.out).mono ?_
          rintro e W9 ⟨rfl, hr⟩
          have HR := Lib.hid hr
          clear hr
          dsimp only
          go_wp2
          refine bodyPost_ret (v := .int .i64 ((findG L (5, 0, [])).2 : Int)) (by simp [results, Tryz.results57, go_sem]) rfl ?_
          rw [(HSTOP.out true HS1.out).1 rfl]
          exact ⟨rfl, HR.out⟩
        have f2 : ((gg.1 : Int) == 5) = false := by simp; omega
        by_cases h2 : gg.1 = 2
        · have f3 : ((gg.1 : Int) == 2) = true := by simp [h2]
          obtain ⟨k0, hk0⟩ : ∃ k0, gg.2.2 = [k0] := by
            rcases hog with ⟨h, _⟩ | ⟨_, _, k0, h, h'⟩ | ⟨h, _⟩ | ⟨h, _⟩
            · omega
            · exact ⟨k0, h⟩
            · omega
            · omega
          have hiy2 := hiy
          rw [hk0] at y2 hiy2
          obtain ⟨b3, o3, hadd, hb3, z3⟩ := hiy2.at (j := 0) (x := (k0 : Int)) rfl
          subst hadd
          rw [Nat.add_zero] at z3
          dsimp only [List.length_cons, List.length_nil, Nat.zero_add] at y2
          obtain ⟨p, hp⟩ : ∃ p, decide (k0 ∈ R0) = p := ⟨_, rfl⟩
          have hs1 : stopsG L 3 R0 i = p := by
            unfold stopsG
            rw [hkd, show hd1 L i = k0 by rw [hd1, gtAt_some hgg, hk0]; rfl, hp]
            rw [show decide (gg.1 = decK 3) = false from decide_eq_false hd, show decide (gg.1 = 2) = true from decide_eq_true h2]
            simp
          have hct := Tryz.slices_Contains_int b1 o1 R0.length sc (intsN R0) (k0 : Int) (wo.alloc (.cells #[.int .i64 (gg.1 : Int), .int .i64 (gg.2.1 : Int), .slice (some ⟨b3, o3, none⟩) 1 cx] 45)) (by unfold intsN; rw [List.length_map]; exact Nat.le_refl _) (by omega) (fun q hq => by
            have hc := HCS1.out q _ (List.getElem?_eq_getElem hq)
            rw [show (intsN R0).getD q 0 = (intsN R0)[q] by rw [List.getD_eq_getElem?_getD, List.getElem?_eq_getElem hq]; rfl]
            exact below_cell ((Below.refl _ wo).alloc (Nat.le_refl _) _) _ _ _ hc)
          rw [show ((intsN R0).take R0.length).contains (k0 : Int) = p by
            rw [List.take_of_length_le (by unfold intsN; rw [List.length_map]; exact Nat.le_refl _), ← hp, Bool.eq_iff_iff, List.contains_iff_mem, decide_eq_true_eq]
            unfold intsN
            constructor
            · intro h
              obtain ⟨y, hy, e⟩ := List.mem_map.1 h
              have : y = k0 := by omega
              rwa [← this]
            · intro h
              exact List.mem_map.2 ⟨k0, h, rfl⟩] at hct
          have HCT := Lib.hid hct
          have HS1 := Lib.hid hs1
          rw [hk0] at HAL2 HALO HALS
          dsimp only [List.length_cons, List.length_nil, Nat.zero_add] at HAL2 HALO HALS
          clear hi hgg hiy hiy2 hkd hog hd hs1 h2 hk0 hp hct
          have hxz := obj_in HALS.out HXO.out
          have x0z := box1 hxz
          clear hxz
          cases p
          · go_wp2_with fail
            refine HCT.out.mono ?_
            rintro _ _ ⟨rfl, rfl⟩
            dsimp only
            go_wp2
            go_roundw
            case rel => exact ⟨j + 1, by go_num, by omega, HALO.out, (HSTOP.out false HS1.out).2 rfl⟩
            case measure => simp [intOf]; omega
          · go_wp2_with fail
            refine HCT.out.mono ?_
            rintro _ _ ⟨rfl, rfl⟩
            dsimp only
            go_wp2_with fail
            refine (HASK.out 5 (by omega) _ HAL2.out).mono ?_
            rintro e W9 ⟨rfl, hr⟩
            have HR := Lib.hid hr
            clear hr
            dsimp only
            go_wp2
            refine bodyPost_ret (v := .int .i64 ((findG L (5, 0, [])).2 : Int)) (by simp [results, Tryz.results57, go_sem]) rfl ?_
            rw [(HSTOP.out true HS1.out).1 rfl]
            exact ⟨rfl, HR.out⟩
        · have f3 : ((gg.1 : Int) == 2) = false := by simp; omega
          have hs1 : stopsG L 3 R0 i = false := by
            unfold stopsG
            rw [hkd, show decide (gg.1 = decK 3) = false from decide_eq_false hd, show decide (gg.1 = 2) = false from decide_eq_false h2]
            rfl
          have HS1 := Lib.hid hs1
          clear hi hgg hiy hkd hog hd hs1 h2
          go_wp2
          go_roundw
          case rel => exact ⟨j + 1, by go_num, by omega, HALO.out, (HSTOP.out false HS1.out).2 rfl⟩
          case measure => simp [intOf]; omega
      · have hke : j = R0.length := by omega
        subst hke
        have f1 : decide ((R0.length : Int) < (R0.length : Int)) = false := decide_eq_false (by omega)
        have hst := HSTT.out
        rw [List.take_length] at hst
        have hjn := HST.out
        rw [if_neg (by rw [hst]; decide)] at hjn
        have how := ownV_heap HO6.out fun g hg => hbo.block g (ownV_lt HO6.out hg).2
        have hdel := deleteF_own wo _ (.slice sa R0.length sc) (intsN R0) how (by unfold intsN; rw [List.length_map]; omega) 82 #[.pointer (some ⟨W.heap.size, 0, none⟩), .pointer (some ⟨W.heap.size + 1, 0, none⟩)] egJ1 (fun x => decide (kd L x.toNat = 6)) (fun W' hg x hx => by
          obtain ⟨i, hi, rfl⟩ := List.mem_map.1 hx
          have hbg : Below W.heap.size W W' := hbW.grown hg (by have := hbW.size; omega) (fun g hg => by have := HL6.out g hg; omega)
          have hkeep : ∀ b, b < W.heap.size + 2 → W'.heap[b]? = wo.heap[b]? := fun b hb => hg.block b (by omega) (fun e => by have := HL6.out b e.symm; omega)
          have := joinT_any (HC.out.of hbg) W.heap.size (W.heap.size + 1) 6 i (box1 ((hkeep _ (by omega)).trans HXO.out)) (box1 ((hkeep _ (by omega)).trans HWO.out)) (HRM.out i hi)
          rw [Int.toNat_natCast]
          exact this)
        have hfi : (intsN R0).filter (fun x => !decide (kd L x.toNat = 6)) = intsN (restG L 3 ins) := by
          rw [rest_srt, HR0.out]
          unfold intsN
          rw [List.filter_map]
          congr 1
          refine List.filter_congr fun i _ => ?_
          show (!decide (kd L ((i : Int).toNat) = 6)) = decide (kd L i ≠ 6)
          rw [Int.toNat_natCast]
          simp
        rw [hfi] at hdel
        have hRl2 : (restG L 3 ins).length ≤ 50000 := by
          rw [rest_srt, HR0.out]
          exact Nat.le_trans (List.length_filter_le _ _) hRl
        have hRm2 : ∀ i ∈ restG L 3 ins, i < L.length := fun i hi => (mem_rest.1 hi).1
        obtain ⟨R, hRR⟩ : ∃ R, restG L 3 ins = R := ⟨_, rfl⟩
        rw [hRR] at hjn hdel hRl2 hRm2
        have HJN := Lib.hid hjn
        have HDEL := Lib.hid hdel
        have HRM2 := Lib.hid hRm2
        clear hst hjn how hdel hfi hRm2 hRR hbo hbW hCo hgv hing
        go_wp2_with fail
        refine HDEL.out.mono ?_
        rintro _ W8 ⟨v8, rfl, hov8, hg8, hv8⟩
        obtain ⟨ra, rc, hs8⟩ := ownV_shape hov8
        rw [show (intsV (intsN R)).length = R.length by unfold intsV intsN; rw [List.length_map, List.length_map]] at hs8
        subst hs8
        have hb8 : Below W.heap.size W W8 := HBW.out.grown hg8 (by have := HBW.out.size; omega) (fun g hg => by have := HL6.out g hg; omega)
        have hkeep : ∀ b, b < W.heap.size + 2 → W8.heap[b]? = wo.heap[b]? := fun b hb => hg8.block b (by omega) (fun e => by have := HL6.out b e.symm; omega)
        have x8 := box1 ((hkeep _ (by omega)).trans HXO.out)
        have w8 := box1 ((hkeep _ (by omega)).trans HWO.out)
        have hi8 : InS (fun _ => True) W8 ra (intsN R) := by
          have h := hov8
          rw [show R.length = (intsN R).length by unfold intsN; rw [List.length_map]] at h
          exact (inS_of_ownV h).imp fun _ _ _ => trivial
        have HB8 := Lib.hid hb8
        have HI8 := Lib.hid hi8
        clear hov8 hg8 hv8 hb8 hkeep hi8 x0 w0 c0 c1 c2 c3
        dsimp only
        match R, hRl2, HJN, HI8, HRM2 with
        | [], hRl2, HJN, HI8, HRM2 =>
          dsimp only [List.length_nil]
          go_wp2_with fail
          refine (HASK.out 6 (by omega) _ HB8.out).mono ?_
          rintro e W9 ⟨rfl, hr⟩
          have HR := Lib.hid hr
          clear hr
          dsimp only
          go_wp2
          refine bodyPost_ret (v := .int .i64 ((findG L (6, 0, [])).2 : Int)) (by simp [results, Tryz.results57, go_sem]) rfl ?_
          rw [HJN.out]
          exact ⟨rfl, HR.out⟩
        | [x], hRl2, HJN, HI8, HRM2 =>
          obtain ⟨b3, o3, hadd, hb3, z0⟩ := HI8.out.at (j := 0) (x := (x : Int)) rfl
          subst hadd
          rw [Nat.add_zero] at z0
          dsimp only [List.length_cons, List.length_nil, Nat.zero_add]
          go_wp2
          refine bodyPost_ret (v := .int .i64 (x : Int)) (by simp [results, Tryz.results57, go_sem]) rfl ?_
          rw [HJN.out]
          exact ⟨rfl, _, _, HC.out.of HB8.out, (Kc.refl _ _ _ _ _).ahead HB8.out (by omega)⟩
        | x :: y :: r, hRl2, HJN, HI8, HRM2 =>
          have f5 : ((((x :: y :: r).length : Nat) : Int) == 0) = false := by simp; omega
          have f6 : ((((x :: y :: r).length : Nat) : Int) == 1) = false := by simp; omega
          obtain ⟨R, hR⟩ : ∃ R, x :: y :: r = R := ⟨_, rfl⟩
          have hj2 := HJN.out
          dsimp only at hj2
          rw [hR] at hj2 f5 f6 hRl2 HI8 HRM2 ⊢
          have HJ2 := Lib.hid hj2
          have hask := (ask_any (HC.out.of HB8.out) 3 0 R _ ra rc HI8.out (by omega) (by omega) (fun q hq => by have := HRM2.out q hq; omega) (by omega) (by omega) (HT.out.of HB8.out)).mono fun e w'' hr => hr.ahead HB8.out (by omega)
          have HAS := Lib.hid (show Calls Tryz.prog 58 #[.pointer (some ⟨C, 0, none⟩), .int .i64 3, .int .i64 0, .slice ra R.length rc] W8 (AskR b0 C mb base gv W (findG L (3, 0, R))) from hask)
          clear HJN hR hj2 hask
          go_wp2_with fail
          refine HAS.out.mono ?_
          rintro e W9 ⟨rfl, hr⟩
          have HR := Lib.hid hr
          clear hr
          dsimp only
          go_wp2
          refine bodyPost_ret (v := .int .i64 ((findG L (3, 0, R)).2 : Int)) (by simp [results, Tryz.results57, go_sem]) rfl ?_
          rw [HJ2.out]
          exact ⟨rfl, HR.out⟩
  · obtain ⟨V0, hV0, hVb, hVx, hVw, hVs⟩ : ∃ V0, V0 = ((W.alloc (.cells #[.pointer (some ⟨C, 0, none⟩)] 103)).alloc (.cells #[.int .i64 5] 3)) ∧ Below W.heap.size W V0 ∧ V0.heap[W.heap.size]? = some (.cells #[.pointer (some ⟨C, 0, none⟩)] 103 (0, 0)) ∧ V0.heap[W.heap.size + 1]? = some (.cells #[.int .i64 5] 3 (0, 0)) ∧ V0.heap.size = W.heap.size + 2 := ⟨_, rfl, by (repeat' (first | (with_reducible first | apply Zl1 | apply Zl2 | apply Zl3 | apply Zl4 | apply Zl5 | apply Zl6 | apply Zl7 | apply Zl8 | apply Zl9 | apply Zla | apply Zlb | apply Zlc) | (dsimp only; with_reducible first | apply Zl8 | apply Zl2 | apply Zld) | with_reducible assumption | omega | (dsimp only; omega))), (obj_alloc _ (World.alloc_heap_new W _)), (alloc2_new W _ _), by simp⟩
    have HV0 := Lib.hid hV0
    have HVB := Lib.hid hVb
    have HVX := Lib.hid hVx
    have HVW := Lib.hid hVw
    have hVs2 : W.heap.size + 2 ≤ V0.heap.size := by omega
    clear hV0 hVb hVx hVw hVs
    go_enter Tryz.func57, Tryz.ntmps57
    go_wp2_with fail
    rw [← HV0.out]
    clear HV0
    refine (valuesF_any (.slice ia ins.length ic) ⟨_, _, _, rfl⟩ _).mono ?_
    rintro _ _ ⟨rfl, rfl⟩
    have hal : Below V0.heap.size V0 (V0.alloc (.cells #[.slice ia ins.length ic] 23)) := (Below.refl _ _).alloc (Nat.le_refl _) _
    have hb1 := HVB.out.trans (hal.mono HVB.out.size)
    have hI1 : InS (fun b => b < (V0.alloc (.cells #[.slice ia ins.length ic] 23)).heap.size) (V0.alloc (.cells #[.slice ia ins.length ic] 23)) ia (intsN ins) := ((HI.out.of HVB.out).of hal).imp fun b hb _ => hb
    have hsv := sortedV_any V0.heap.size ia ic (intsN ins) (V0.alloc (.cells #[.slice ia ins.length ic] 23)) (by unfold intsN; rw [List.length_map]; omega) (by simp) (box1 (by rw [show (intsN ins).length = ins.length by unfold intsN; rw [List.length_map]]; exact World.alloc_heap_new V0 _)) hI1
    have HSV := Lib.hid hsv
    have HAL := Lib.hid hal
    clear hal hb1 hI1 hsv
    dsimp only
    go_wp2_with fail
    refine HSV.out.mono ?_
    rintro _ W5 ⟨v5, rfl, hov5, hb5⟩
    have hb5V : Below V0.heap.size V0 W5 := HAL.out.trans (hb5.mono HAL.out.size)
    have hco := compact_own W5 (V0.alloc (.cells #[.slice ia ins.length ic] 23)).heap.size v5 _ hov5 (by rw [List.length_mergeSort]; unfold intsN; rw [List.length_map]; omega)
    rw [HSC.out] at hco
    have HCO := Lib.hid hco
    have HB5 := Lib.hid hb5V
    have hlo5 : ∀ g, v5.ownBlock = some g → V0.heap.size ≤ g := fun g hg => by have := (ownV_lt hov5 hg).1; simp at this; omega
    have HLO := Lib.hid hlo5
    clear hov5 hb5 hb5V hco hlo5 HSV
    dsimp only
    go_wp2_with fail
    refine HCO.out.mono ?_
    rintro _ W6 ⟨v6, rfl, hov6, hg6, hv6⟩
    obtain ⟨R0, hR0⟩ : ∃ R0, srtG L ins = R0 := ⟨_, rfl⟩
    rw [hR0] at hov6
    have hb6 : Below V0.heap.size V0 W6 := HB5.out.grown hg6 HB5.out.size HLO.out
    obtain ⟨sa, sc, hs6⟩ := ownV_shape hov6
    rw [show (intsV (intsN R0)).length = R0.length by unfold intsV intsN; rw [List.length_map, List.length_map]] at hs6
    have hlo6 : ∀ g, v6.ownBlock = some g → V0.heap.size ≤ g := fun g hg => HLO.out g (by rw [← hv6]; exact hg)
    subst hs6
    have hRl : R0.length ≤ 50000 := by
      rw [← hR0]
      exact Nat.le_trans (List.length_filter_le _ _) (by simp; omega)
    have hRm : ∀ i ∈ R0, i < L.length := fun i hi => by rw [← hR0] at hi; exact (mem_srt.1 hi).1
    have HR0 := Lib.hid hR0
    have HRM := Lib.hid hRm
    have HB6 := Lib.hid hb6
    have HO6 := Lib.hid hov6
    have HL6 := Lib.hid hlo6
    have hST : joinG L 4 ins = (if R0.any (stopsG L 4 R0) then findG L (6, 0, []) else match restG L 4 ins with | [] => findG L (5, 0, []) | [i] => (L, i) | _ => findG L (4, 0, restG L 4 ins)) := by
      rw [joinG, ← stops_srt (k := 4) HIR.out (by decide), hR0]
      rfl
    have HST := Lib.hid hST
    have h6s := hb6.size
    clear hR0 hRm hb6 hov6 hg6 hv6 hlo6 hST HCO HLO HB5
    dsimp only
    go_wp2_with fail
    have hi6 : InS (fun _ => True) W6 sa (intsN R0) := by
      have h := HO6.out
      rw [show R0.length = (intsN R0).length by unfold intsN; rw [List.length_map]] at h
      exact (inS_of_ownV h).imp fun _ _ _ => trivial
    have HI6 := Lib.hid hi6
    clear hi6
    go_loopw [22] (fun iv wr => ∃ j : Nat, iv = .int .i64 (j : Int) ∧ j ≤ R0.length ∧ Below W6.heap.size W6 wr ∧ (R0.take j).any (stopsG L 4 R0) = false) (fun iv _ => R0.length - (intOf iv).toNat)
    case atStart => exact ⟨0, rfl, Nat.zero_le _, Below.refl _ _, rfl⟩
    case round =>
      rename World => wo
      obtain ⟨j, rfl, hj, hbo, hst⟩ := hrel
      have HBO := Lib.hid hbo
      have HSTT := Lib.hid hst
      have hwo := hbo.size
      have hbW : Below W.heap.size W wo := HVB.out.trans ((HB6.out.trans (hbo.mono h6s)).mono (by omega))
      have HBW := Lib.hid hbW
      have hxo := obj_in (HB6.out.trans (hbo.mono h6s)) HVX.out
      have hwwo := obj_in (HB6.out.trans (hbo.mono h6s)) HVW.out
      have hCo := HC.out.of hbW
      have HCO := Lib.hid hCo
      obtain ⟨c0, c1, c2, c3⟩ := box2 hCo.obj
      have x0 := box1 hxo
      have w0 := box1 hwwo
      have HXO := Lib.hid hxo
      have HWO := Lib.hid hwwo
      obtain ⟨gva, gvc, hgv, hing⟩ := hCo.val
      clear hst hxo hwwo
      rcases Nat.lt_or_ge j R0.length with hjl | hjl
      · obtain ⟨i, hi⟩ := some_at hjl
        have hiL := HRM.out i (List.mem_of_getElem? hi)
        obtain ⟨b1, o1, hadd, -, hcs1⟩ := (HI6.out.of hbo) (by unfold intsN; rw [List.length_map]; omega)
        have z0 := hcs1 j (i : Int) (show (intsN R0)[j]? = some (i : Int) by unfold intsN; rw [List.getElem?_map, hi]; rfl)
        subst hadd
        have HCS1 := Lib.hid hcs1
        obtain ⟨gg, hgg⟩ : ∃ gg, L[i]? = some gg := ⟨_, List.getElem?_eq_getElem hiL⟩
        obtain ⟨b2, o2, hadd, hb2, ax, cx, y0, y1, y2, hiy⟩ := hing.at (show (L.map gz)[i]? = some (gz gg) by rw [List.getElem?_map, hgg]; rfl)
        subst hadd
        dsimp only [gz] at y0 y1 y2 hiy
        rw [List.length_map] at y2
        have hkd : kd L i = gg.1 := by rw [kd, gtAt_some hgg]
        have hog := HOK.out i gg hgg
        have hstop : ∀ b, stopsG L 4 R0 i = b → (b = true → joinG L 4 ins = findG L (6, 0, [])) ∧ (b = false → (R0.take (j + 1)).any (stopsG L 4 R0) = false) := fun b hsb => ⟨fun hbt => by
          subst hbt
          rw [HST.out, if_pos (List.any_eq_true.2 ⟨i, List.mem_of_getElem? hi, hsb⟩)], fun hbf => by
          subst hbf
          rw [take_snoc hi, List.any_append, HSTT.out]
          simp [hsb]⟩
        have HSTOP := Lib.hid hstop
        have f1 : decide ((j : Int) < (R0.length : Int)) = true := decide_eq_true (by omega)
        have hib : (0 ≤ (j : Int) ∧ (j : Int) < (R0.length : Int)) := ⟨by omega, by omega⟩
        have hib2 : (0 ≤ (i : Int) ∧ (i : Int) < (L.length : Int)) := ⟨by omega, by omega⟩
        subst hgv
        have hal : Below wo.heap.size wo (wo.alloc (.cells #[.int .i64 (gg.1 : Int), .int .i64 (gg.2.1 : Int), .slice ax gg.2.2.length cx] 45)) := (Below.refl _ _).alloc (Nat.le_refl _) _
        have HAL2 := Lib.hid (HBW.out.trans (hal.mono (by have := hbW.size; omega)))
        have HALO := Lib.hid (HBO.out.trans (hal.mono hwo))
        have HALS := Lib.hid hal
        clear hcs1 hing hCo hbo hbW hal hstop
        by_cases hd : gg.1 = 6
        · have f2 : ((gg.1 : Int) == 6) = true := by simp [hd]
          have hs1 : stopsG L 4 R0 i = true := by
            unfold stopsG
            rw [hkd, hd]
            simp [decK]
          have HS1 := Lib.hid hs1
          clear hi hgg hiy hkd hog hd hs1
          go_wp2_with fail
          refine (HASK.out 6 (by omega) _ HAL2.out).mono ?_
          rintro e W9 ⟨rfl, hr⟩
          have HR := Lib.hid hr
          clear hr
          dsimp only
          go_wp2
          refine bodyPost_ret (v := .int .i64 ((findG L (6, 0, [])).2 : Int)) (by simp [results, Tryz.results57, go_sem]) rfl ?_
          rw [(HSTOP.out true HS1.out).1 rfl]
          exact ⟨rfl, HR.out⟩
        have f2 : ((gg.1 : Int) == 6) = false := by simp; omega
        by_cases h2 : gg.1 = 2
        · have f3 : ((gg.1 : Int) == 2) = true := by simp [h2]
          obtain ⟨k0, hk0⟩ : ∃ k0, gg.2.2 = [k0] := by
            rcases hog with ⟨h, _⟩ | ⟨_, _, k0, h, h'⟩ | ⟨h, _⟩ | ⟨h, _⟩
            · omega
            · exact ⟨k0, h⟩
            · omega
            · omega
          have hiy2 := hiy
          rw [hk0] at y2 hiy2
          obtain ⟨b3, o3, hadd, hb3, z3⟩ := hiy2.at (j := 0) (x := (k0 : Int)) rfl
          subst hadd
          rw [Nat.add_zero] at z3
          dsimp only [List.length_cons, List.length_nil, Nat.zero_add] at y2
          obtain ⟨p, hp⟩ : ∃ p, decide (k0 ∈ R0) = p := ⟨_, rfl⟩
          have hs1 : stopsG L 4 R0 i = p := by
            unfold stopsG
            rw [hkd, show hd1 L i = k0 by rw [hd1, gtAt_some hgg, hk0]; rfl, hp]
            rw [show decide (gg.1 = decK 4) = false from decide_eq_false hd, show decide (gg.1 = 2) = true from decide_eq_true h2]
            simp
          have hct := Tryz.slices_Contains_int b1 o1 R0.length sc (intsN R0) (k0 : Int) (wo.alloc (.cells #[.int .i64 (gg.1 : Int), .int .i64 (gg.2.1 : Int), .slice (some ⟨b3, o3, none⟩) 1 cx] 45)) (by unfold intsN; rw [List.length_map]; exact Nat.le_refl _) (by omega) (fun q hq => by
            have hc := HCS1.out q _ (List.getElem?_eq_getElem hq)
            rw [show (intsN R0).getD q 0 = (intsN R0)[q] by rw [List.getD_eq_getElem?_getD, List.getElem?_eq_getElem hq]; rfl]
            exact below_cell ((Below.refl _ wo).alloc (Nat.le_refl _) _) _ _ _ hc)
          rw [show ((intsN R0).take R0.length).contains (k0 : Int) = p by
            rw [List.take_of_length_le (by unfold intsN; rw [List.length_map]; exact Nat.le_refl _), ← hp, Bool.eq_iff_iff, List.contains_iff_mem, decide_eq_true_eq]
            unfold intsN
            constructor
            · intro h
              obtain ⟨y, hy, e⟩ := List.mem_map.1 h
              have : y = k0 := by omega
              rwa [← this]
            · intro h
              exact List.mem_map.2 ⟨k0, h, rfl⟩] at hct
          have HCT := Lib.hid hct
          have HS1 := Lib.hid hs1
          rw [hk0] at HAL2 HALO HALS
          dsimp only [List.length_cons, List.length_nil, Nat.zero_add] at HAL2 HALO HALS
          clear hi hgg hiy hiy2 hkd hog hd hs1 h2 hk0 hp hct
          have hxz := obj_in HALS.out HXO.out
          have x0z := box1 hxz
          clear hxz
          cases p
          · go_wp2_with fail
            refine HCT.out.mono ?_
            rintro _ _ ⟨rfl, rfl⟩
            dsimp only
            go_wp2
            go_roundw
            case rel => exact ⟨j + 1, by go_num, by omega, HALO.out, (HSTOP.out false HS1.out).2 rfl⟩
            case measure => simp [intOf]; omega
          · go_wp2_with fail
            refine HCT.out.mono ?_
            rintro _ _ ⟨rfl, rfl⟩
            dsimp only
            go_wp2_with fail
            refine (HASK.out 6 (by omega) _ HAL2.out).mono ?_
            rintro e W9 ⟨rfl, hr⟩
            have HR := Lib.hid hr
            clear hr
            dsimp only
            go_wp2
            refine bodyPost_ret (v := .int .i64 ((findG L (6, 0, [])).2 : Int)) (by simp [results, Tryz.results57, go_sem]) rfl ?_
            rw [(HSTOP.out true HS1.out).1 rfl]
            exact ⟨rfl, HR.out⟩
        · have f3 : ((gg.1 : Int) == 2) = false := by simp; omega
          have hs1 : stopsG L 4 R0 i = false := by
            unfold stopsG
            rw [hkd, show decide (gg.1 = decK 4) = false from decide_eq_false hd, show decide (gg.1 = 2) = false from decide_eq_false h2]
            rfl
          have HS1 := Lib.hid hs1
          clear hi hgg hiy hkd hog hd hs1 h2
          go_wp2
          go_roundw
          case rel => exact ⟨j + 1, by go_num, by omega, HALO.out, (HSTOP.out false HS1.out).2 rfl⟩
          case measure => simp [intOf]; omega
      · have hke : j = R0.length := by omega
        subst hke
        have f1 : decide ((R0.length : Int) < (R0.length : Int)) = false := decide_eq_false (by omega)
        have hst := HSTT.out
        rw [List.take_length] at hst
        have hjn := HST.out
        rw [if_neg (by rw [hst]; decide)] at hjn
        have how := ownV_heap HO6.out fun g hg => hbo.block g (ownV_lt HO6.out hg).2
        have hdel := deleteF_own wo _ (.slice sa R0.length sc) (intsN R0) how (by unfold intsN; rw [List.length_map]; omega) 82 #[.pointer (some ⟨W.heap.size, 0, none⟩), .pointer (some ⟨W.heap.size + 1, 0, none⟩)] egJ1 (fun x => decide (kd L x.toNat = 5)) (fun W' hg x hx => by
          obtain ⟨i, hi, rfl⟩ := List.mem_map.1 hx
          have hbg : Below W.heap.size W W' := hbW.grown hg (by have := hbW.size; omega) (fun g hg => by have := HL6.out g hg; omega)
          have hkeep : ∀ b, b < W.heap.size + 2 → W'.heap[b]? = wo.heap[b]? := fun b hb => hg.block b (by omega) (fun e => by have := HL6.out b e.symm; omega)
          have := joinT_any (HC.out.of hbg) W.heap.size (W.heap.size + 1) 5 i (box1 ((hkeep _ (by omega)).trans HXO.out)) (box1 ((hkeep _ (by omega)).trans HWO.out)) (HRM.out i hi)
          rw [Int.toNat_natCast]
          exact this)
        have hfi : (intsN R0).filter (fun x => !decide (kd L x.toNat = 5)) = intsN (restG L 4 ins) := by
          rw [rest_srt, HR0.out]
          unfold intsN
          rw [List.filter_map]
          congr 1
          refine List.filter_congr fun i _ => ?_
          show (!decide (kd L ((i : Int).toNat) = 5)) = decide (kd L i ≠ 5)
          rw [Int.toNat_natCast]
          simp
        rw [hfi] at hdel
        have hRl2 : (restG L 4 ins).length ≤ 50000 := by
          rw [rest_srt, HR0.out]
          exact Nat.le_trans (List.length_filter_le _ _) hRl
        have hRm2 : ∀ i ∈ restG L 4 ins, i < L.length := fun i hi => (mem_rest.1 hi).1
        obtain ⟨R, hRR⟩ : ∃ R, restG L 4 ins = R := ⟨_, rfl⟩
        rw [hRR] at hjn hdel hRl2 hRm2
        have HJN := Lib.hid hjn
        have HDEL := Lib.hid hdel
        have HRM2 := Lib.hid hRm2
        clear hst hjn how hdel hfi hRm2 hRR hbo hbW hCo hgv hing
        go_wp2_with fail
        refine HDEL.out.mono ?_
        rintro _ W8 ⟨v8, rfl, hov8, hg8, hv8⟩
        obtain ⟨ra, rc, hs8⟩ := ownV_shape hov8
        rw [show (intsV (intsN R)).length = R.length by unfold intsV intsN; rw [List.length_map, List.length_map]] at hs8
        subst hs8
        have hb8 : Below W.heap.size W W8 := HBW.out.grown hg8 (by have := HBW.out.size; omega) (fun g hg => by have := HL6.out g hg; omega)
        have hkeep : ∀ b, b < W.heap.size + 2 → W8.heap[b]? = wo.heap[b]? := fun b hb => hg8.block b (by omega) (fun e => by have := HL6.out b e.symm; omega)
        have x8 := box1 ((hkeep _ (by omega)).trans HXO.out)
        have w8 := box1 ((hkeep _ (by omega)).trans HWO.out)
        have hi8 : InS (fun _ => True) W8 ra (intsN R) := by
          have h := hov8
          rw [show R.length = (intsN R).length by unfold intsN; rw [List.length_map]] at h
          exact (inS_of_ownV h).imp fun _ _ _ => trivial
        have HB8 := Lib.hid hb8
        have HI8 := Lib.hid hi8
        clear hov8 hg8 hv8 hb8 hkeep hi8 x0 w0 c0 c1 c2 c3
        dsimp only
        match R, hRl2, HJN, HI8, HRM2 with
        | [], hRl2, HJN, HI8, HRM2 =>
          dsimp only [List.length_nil]
          go_wp2_with fail
          refine (HASK.out 5 (by omega) _ HB8.out).mono ?_
          rintro e W9 ⟨rfl, hr⟩
          have HR := Lib.hid hr
          clear hr
          dsimp only
          go_wp2
          refine bodyPost_ret (v := .int .i64 ((findG L (5, 0, [])).2 : Int)) (by simp [results, Tryz.results57, go_sem]) rfl ?_
          rw [HJN.out]
          exact ⟨rfl, HR.out⟩
        | [x], hRl2, HJN, HI8, HRM2 =>
          obtain ⟨b3, o3, hadd, hb3, z0⟩ := HI8.out.at (j := 0) (x := (x : Int)) rfl
          subst hadd
          rw [Nat.add_zero] at z0
          dsimp only [List.length_cons, List.length_nil, Nat.zero_add]
          go_wp2
          refine bodyPost_ret (v := .int .i64 (x : Int)) (by simp [results, Tryz.results57, go_sem]) rfl ?_
          rw [HJN.out]
          exact ⟨rfl, _, _, HC.out.of HB8.out, (Kc.refl _ _ _ _ _).ahead HB8.out (by omega)⟩
        | x :: y :: r, hRl2, HJN, HI8, HRM2 =>
          have f5 : ((((x :: y :: r).length : Nat) : Int) == 0) = false := by simp; omega
          have f6 : ((((x :: y :: r).length : Nat) : Int) == 1) = false := by simp; omega
          obtain ⟨R, hR⟩ : ∃ R, x :: y :: r = R := ⟨_, rfl⟩
          have hj2 := HJN.out
          dsimp only at hj2
          rw [hR] at hj2 f5 f6 hRl2 HI8 HRM2 ⊢
          have HJ2 := Lib.hid hj2
          have hask := (ask_any (HC.out.of HB8.out) 4 0 R _ ra rc HI8.out (by omega) (by omega) (fun q hq => by have := HRM2.out q hq; omega) (by omega) (by omega) (HT.out.of HB8.out)).mono fun e w'' hr => hr.ahead HB8.out (by omega)
          have HAS := Lib.hid (show Calls Tryz.prog 58 #[.pointer (some ⟨C, 0, none⟩), .int .i64 4, .int .i64 0, .slice ra R.length rc] W8 (AskR b0 C mb base gv W (findG L (4, 0, R))) from hask)
          clear HJN hR hj2 hask
          go_wp2_with fail
          refine HAS.out.mono ?_
          rintro e W9 ⟨rfl, hr⟩
          have HR := Lib.hid hr
          clear hr
          dsimp only
          go_wp2
          refine bodyPost_ret (v := .int .i64 ((findG L (4, 0, R)).2 : Int)) (by simp [results, Tryz.results57, go_sem]) rfl ?_
          rw [HJ2.out]
          exact ⟨rfl, HR.out⟩
end Go.Proofs.YtlnedapimmabdaaGreatDoor
