/- The law's reduce. -/
import Derived.Test.YtlnedapimmabdaaGreatDoorWw
namespace Go.Proofs.YtlnedapimmabdaaGreatDoor
set_option linter.unusedVariables false
set_option linter.unusedSimpArgs false
open Go.RowKit
attribute [local go_sem low] Bel.cell Bel.frozen alloc_cell alloc_frozen
attribute [local go_sem] calmOp chainOp yieldsC grows

theorem pad_last {num : List Nat} {n x : Nat} (y : Nat) (hn : num.length < n) : ((num ++ [x]) ++ List.replicate (n - (num ++ [x]).length) 0).set num.length y = (num ++ [y]) ++ List.replicate (n - (num ++ [y]).length) 0 := by
  rw [List.append_assoc, List.set_append_right _ _ (Nat.le_refl _), Nat.sub_self, List.append_assoc]
  simp
theorem ToS.last {W : World} {lo T c n x : Nat} {num : List Nat} (h : ToS W lo T c n (num ++ [x])) (y : Nat) : ToS (W.setCell ⟨T, num.length, none⟩ (.int .i64 (y : Int))) lo T c n (num ++ [y]) := by
  have hn : num.length < n := by have := h.2; rw [List.length_append, List.length_singleton] at this; omega
  refine ⟨?_, by rw [List.length_append, List.length_singleton]; omega⟩
  have hl : ((num ++ [x]) ++ List.replicate (n - (num ++ [x]).length) 0).length = n := by
    rw [List.length_append, List.length_replicate]
    have := h.2
    omega
  have h1 : W.ownsRow lo 3 1 (.slice (some ⟨T, 0, none⟩) n c) n (natsV ((num ++ [x]) ++ List.replicate (n - (num ++ [x]).length) 0)) := by have := h.1; unfold OwnN at this; rwa [hl] at this
  have h2 := (World.ownsRow.stored h1 num.length (.int .i64 (y : Int))).1
  unfold OwnN
  rw [← pad_last y hn, List.length_set, hl]
  unfold natsV at h2 ⊢
  rw [List.map_set]
  exact h2
def LeastF (t : List Nat) (i c m : Nat) : Prop := c ≤ m ∧ m ≤ i ∧ t.getD m 0 = t.getD i 0 ∧ ∀ j, c ≤ j → j < m → t.getD j 0 ≠ t.getD i 0
theorem LeastF.fst {t : List Nat} {i m : Nat} (hi : i < t.length) (h : LeastF t i 0 m) : m = fst1 t i := by
  obtain ⟨_, h1, h2, h3⟩ := h
  obtain ⟨f1, f2⟩ := fst1_spec hi
  rcases Nat.lt_trichotomy m (fst1 t i) with hl | he | hl
  · have hml : m < t.length := by omega
    have := List.not_of_lt_findIdx (p := (· == t.getD i 0)) (xs := t) (i := m) hl
    rw [List.getD_eq_getElem?_getD, List.getElem?_eq_getElem hml] at h2
    exact absurd h2 (beq_eq_false_iff_ne.1 this)
  · exact he
  · exact absurd f2 (h3 _ (Nat.zero_le _) hl)
theorem fst1_snoc (t : List Nat) (i : Nat) : (List.range (i + 1)).map (fst1 t) = (List.range i).map (fst1 t) ++ [fst1 t i] := by rw [List.range_succ, List.map_append]; rfl
set_option maxRecDepth 100000 in
set_option maxHeartbeats 25600000 in
theorem lawReduce_any (G : List Gt) (O : List Nat) (P Q : Nat → Prop) (ga oa : Option Addr) (gc oc : Nat) (w : World) (hok : okL 6 G) (hg : InGt P w ga (G.map gz)) (ho : InS Q w oa (intsN O)) (hO : ∀ o ∈ O, o < G.length) (hl : G.length ≤ 10000) (hol : O.length ≤ 1000000) (hil : ∀ g ∈ G, g.2.2.length ≤ 1000000) :
    Calls Tryz.prog 17 #[nV ga G.length gc oa O.length oc] w (RetNt (reduceG tabsG (G, O)) w) := by
  obtain ⟨i0, hi0, hz0, hz1, hz2⟩ := info_parts Tryz.infoI
  obtain ⟨j0, hj0, hy0, hy1, hy2⟩ := info_parts Tryz.infoG
  have HJ := Lib.hid (And.intro hj0 (And.intro hy0 (And.intro hy1 hy2)))
  clear hj0 hy0 hy1 hy2
  have hokN : okN 6 (G, O) := ⟨hok, hO⟩
  have hcl := cleanG_clean hokN
  obtain ⟨hck1, hck2, hck3, -⟩ := cleanG_ok hokN
  have HCLN := Lib.hid (fun w' (hb : Below w.heap.size w w') => lawClean_any G O 6 P Q ga oa gc oc w' hok (hg.of hb) (ho.of hb) hO hl hol hil)
  obtain ⟨G1, hG1⟩ : ∃ G1, (cleanG (G, O)).1 = G1 := ⟨_, rfl⟩
  obtain ⟨O1, hO1⟩ : ∃ O1, (cleanG (G, O)).2 = O1 := ⟨_, rfl⟩
  have hN1 : cleanG (G, O) = (G1, O1) := by rw [← hG1, ← hO1]
  have HRG := Lib.hid (show reduceG tabsG (G, O) = cleanG (joinN (tabsG G1) (G1, O1)) from by unfold reduceG; rw [hN1])
  rw [hN1] at hcl hck1 hck2 hck3 HCLN
  dsimp only at hck2 hck3
  have hil1 := irr_ins hck1.1 hcl.irr
  have HIL1 := Lib.hid hil1
  have HOK1 := Lib.hid hck1
  obtain ⟨n0, hn0⟩ : ∃ n, G.length = n := ⟨_, rfl⟩
  obtain ⟨n, hn⟩ : ∃ n, G1.length = n := ⟨_, rfl⟩
  have HN := Lib.hid hn
  obtain ⟨m, hm⟩ : ∃ m, O1.length = m := ⟨_, rfl⟩
  have HM := Lib.hid hm
  have hmo : m ≤ 1000000 := by omega
  rw [hn0] at hl hck2 HCLN ⊢
  rw [hn] at hck2
  unfold nV at HCLN
  clear hok hg ho hO hil hn hn0 hokN hcl hck1 hG1 hO1 hN1 hil1 hm hck3
  unfold nV
  go_enter Tryz.func17, Tryz.ntmps17
  go_wp2_with fail
  refine (HCLN.out _ (by (repeat' (first | (with_reducible first | apply Zl1 | apply Zl2 | apply Zl3 | apply Zl4 | apply Zl5 | apply Zl6 | apply Zl7 | apply Zl8 | apply Zl9 | apply Zla | apply Zlb | apply Zlc) | (dsimp only; with_reducible first | apply Zl8 | apply Zl2 | apply Zld) | with_reducible assumption | omega | (dsimp only; omega))))).mono ?_
  rintro e W9 hret
  obtain ⟨us1, ga1, gc1, ov1, hu1, rfl, hk1, hov1, -, -, hb1⟩ := hret
  obtain ⟨oa1, oc1, hov⟩ := ownV_shape hov1
  have hlen1 : us1.length = n := by have := congrArg List.length hu1; rw [← HN.out]; simpa using this
  have hlo1 : (intsV (intsN O1)).length = m := by unfold intsV intsN; rw [List.length_map, List.length_map, HM.out]
  rw [hlo1] at hov
  rw [hlen1] at hk1 ⊢
  subst hov
  have hnet := obj_set2 (.slice ga1 n gc1) (.slice oa1 m oc1) (obj_in hb1 (obj_alloc (.cells #[.slice none 0 0, .slice none 0 0] 25 (0, 0)) (World.alloc_heap_new w (.cells #[.slice ga n0 gc, .slice oa O.length oc] 25 (0, 0)))))
  have hres := obj_neD (i := 1) (.slice oa1 m oc1) (show w.heap.size + 1 ≠ w.heap.size by omega) (obj_neD (i := 0) (.slice ga1 n gc1) (show w.heap.size + 1 ≠ w.heap.size by omega) (obj_in hb1 (alloc2_new w (.cells #[.slice ga n0 gc, .slice oa O.length oc] 25) (.cells #[.slice none 0 0, .slice none 0 0] 25 (0, 0)))))
  have hkk : ∀ b, w.heap.size + 2 ≤ b → ((W9.setCell ⟨w.heap.size, 0, none⟩ (.slice ga1 n gc1)).setCell ⟨w.heap.size, 1, none⟩ (.slice oa1 m oc1)).heap[b]? = W9.heap[b]? := fun b hb => (set_heap_ne _ (by omega)).trans (set_heap_ne _ (by omega))
  have hk2 := ownK_heap hk1 (w' := (W9.setCell ⟨w.heap.size, 0, none⟩ (.slice ga1 n gc1)).setCell ⟨w.heap.size, 1, none⟩ (.slice oa1 m oc1)) (fun b hb _ => hkk b (by simpa using hb))
  have hov2 := ownV_heap hov1 (w' := (W9.setCell ⟨w.heap.size, 0, none⟩ (.slice ga1 n gc1)).setCell ⟨w.heap.size, 1, none⟩ (.slice oa1 m oc1)) (fun g hg => hkk g (by have := (ownV_lt hov1 hg).1; simp at this; omega))
  have hbw : Below w.heap.size w ((W9.setCell ⟨w.heap.size, 0, none⟩ (.slice ga1 n gc1)).setCell ⟨w.heap.size, 1, none⟩ (.slice oa1 m oc1)) := (((show Below w.heap.size w _ by (repeat' (first | (with_reducible first | apply Zl1 | apply Zl2 | apply Zl3 | apply Zl4 | apply Zl5 | apply Zl6 | apply Zl7 | apply Zl8 | apply Zl9 | apply Zla | apply Zlb | apply Zlc) | (dsimp only; with_reducible first | apply Zl8 | apply Zl2 | apply Zld) | with_reducible assumption | omega | (dsimp only; omega)))).trans (hb1.mono (by simp; omega))).setCell (p := ⟨w.heap.size, 0, none⟩) (by simp) _).setCell (p := ⟨w.heap.size, 1, none⟩) (by simp) _
  have hsz9 : w.heap.size + 2 ≤ W9.heap.size := by have := hb1.size; simp at this; omega
  obtain ⟨n1, n2, n3, n4⟩ := box2 (obj_in hb1 (obj_alloc (.cells #[.slice none 0 0, .slice none 0 0] 25 (0, 0)) (World.alloc_heap_new w (.cells #[.slice ga n0 gc, .slice oa O.length oc] 25 (0, 0)))))
  have hin2 := ownK_in hk2
  obtain ⟨ga1', gc1', hv, hing⟩ := hin2
  injection hv with hv1 hv2 hv3
  subst hv1 hv3
  rw [hu1] at hing
  have HTB := Lib.hid (tables_any G1 _ ga1 oa1 gc1 m oc1 _ HOK1.out.1 hing (by rw [HN.out]; omega) (fun g hg => by have := HIL1.out g hg; rw [HN.out] at this; omega))
  rw [HN.out] at HTB
  unfold nV at HTB
  have HK2 := Lib.hid hk2
  have HOV2 := Lib.hid hov2
  have HNET := Lib.hid hnet
  have HRES := Lib.hid hres
  have HBW := Lib.hid hbw
  clear hk1 hov1 hkk hk2 hov2 hnet hres hbw hing hv2 hb1
  dsimp only
  go_wp2_with fail
  obtain ⟨V1, hV1⟩ : ∃ V1, (W9.setCell ⟨w.heap.size, 0, none⟩ (.slice ga1 n gc1)).setCell ⟨w.heap.size, 1, none⟩ (.slice oa1 m oc1) = V1 := ⟨_, rfl⟩
  have hszV : w.heap.size + 2 ≤ V1.heap.size := by rw [← hV1]; simpa using hsz9
  rw [hV1] at HTB HK2 HOV2 HNET HRES HBW ⊢
  clear hV1 n1 n2 n3 n4 hsz9
  refine HTB.out.mono ?_
  rintro e W1 ⟨tv, rfl, htu, hb1⟩
  obtain ⟨ta, tc, htv, htcell⟩ := ownU_sl htu
  rw [tabs_len, HN.out] at htv htcell
  subst htv
  have HTC := Lib.hid htcell
  have HB1 := Lib.hid hb1
  have hs1 := hb1.size
  have hnet1 := obj_in hb1 HNET.out
  obtain ⟨n1, n2, -⟩ := box2 hnet1
  have HNE1 := Lib.hid hnet1
  clear htu htcell hnet1 hb1
  dsimp only
  go_wp2_with (at_make; refine wpList_make_full _ rfl _ _ 23 rfl (W1.heap.size) 3 i0 (.int .i64 0) 1 Tryz.underlying23 hi0 hz0 hz1 _ _ _ _ (n) rfl rfl (by first | rfl | omega | (simp <;> omega)) (by first | rfl | omega | (simp <;> omega)) (by rw [hz2] <;> omega) (by unfold maxLen; omega) (by first | omega | (simp <;> omega)) ?_; intro wM hownM hgrowM; have HOM := Lib.hid hownM; have HGM := Lib.hid hgrowM; clear hownM hgrowM)
  have hTl := World.ownsRow.lt HOM.out W1.heap.size (by simp [Value.ownBlock])
  have hbM : Below W1.heap.size W1 wM := (Below.refl _ W1).grown HGM.out (Nat.le_refl _) (fun k e => by cases e)
  have hto : ToS wM W1.heap.size W1.heap.size n n [] := by
    refine ⟨?_, Nat.zero_le _⟩
    have := HOM.out
    rw [Nat.mul_one, show (Value.int .i64 0).cells = #[Value.int .i64 0] from rfl, toList_madeCells_one] at this
    unfold OwnN natsV
    simpa using this
  have HTO := Lib.hid hto
  have HBM := Lib.hid hbM
  clear hto hbM n1 n2
  obtain ⟨t, ht⟩ : ∃ t, tabsG G1 = t := ⟨_, rfl⟩
  have htl : t.length = n := by rw [← ht, tabs_len, HN.out]
  have HTL := Lib.hid htl
  have HTT := Lib.hid ht
  rw [ht] at HTC
  clear ht htl
  go_loopw [5] (fun iv wr => ∃ i : Nat, iv = .int .i64 (i : Int) ∧ i ≤ n ∧ ToS wr W1.heap.size W1.heap.size n n ((List.range i).map (fst1 t)) ∧ Below W1.heap.size W1 wr) (fun iv _ => n - (intOf iv).toNat)
  case atStart => exact ⟨0, rfl, Nat.zero_le _, HTO.out, HBM.out⟩
  case round =>
    rename World => wo
    obtain ⟨i, rfl, hi, hts, hbo⟩ := hrel
    have HTS := Lib.hid hts
    have HBO := Lib.hid hbo
    have hrl : ((List.range i).map (fst1 t)).length = i := by rw [List.length_map, List.length_range]
    have HRL := Lib.hid hrl
    clear hts hrl
    rcases Nat.lt_or_ge i n with hil | hil
    · obtain ⟨tg, hta, htg1, htg2, htc⟩ := HTC.out (by omega)
      subst hta
      have HTCC := Lib.hid htc
      obtain ⟨e1, e2⟩ := HTS.out.at hil
      have f1 : decide ((i : Int) < (n : Int)) = true := decide_eq_true (by omega)
      have hib : (0 ≤ (i : Int) ∧ (i : Int) < (n : Int)) := ⟨by omega, by omega⟩
      have hset := HTS.out.set (by rw [HRL.out]; exact hil) i
      rw [HRL.out] at hset
      have hbs : Below W1.heap.size W1 (wo.setCell ⟨W1.heap.size, i, none⟩ (.int .i64 (i : Int))) := hbo.setCell (p := ⟨W1.heap.size, i, none⟩) (by simp) _
      have HSET := Lib.hid hset
      have HBS := Lib.hid hbs
      clear htc hset hbs hbo
      go_wp2_with fail
      have HI := Lib.hid hi
      go_loopw [6] (fun iv wi => ∃ c m : Nat, iv = .int .i64 ((c : Int) - 1) ∧ c ≤ i ∧ ToS wi W1.heap.size W1.heap.size n n ((List.range i).map (fst1 t) ++ [m]) ∧ Below W1.heap.size W1 wi ∧ LeastF t i c m) (fun iv _ => (intOf iv + 1).toNat)
      case atStart => exact ⟨i, i, by go_num, Nat.le_refl _, HSET.out, HBS.out, Nat.le_refl _, Nat.le_refl _, rfl, fun j h1 h2 => by omega⟩
      case round =>
        rename World => wi
        obtain ⟨c, mm, rfl, hc, hts, hbi, hle⟩ := hrel
        have HTS2 := Lib.hid hts
        have HBI := Lib.hid hbi
        have HLE := Lib.hid hle
        clear hts hle
        rcases Nat.eq_zero_or_pos c with h0 | h0
        · subst h0
          have f2 : decide (0 ≤ ((0 : Nat) : Int) - 1) = false := rfl
          clear hbi
          go_wp2
          refine ⟨⟨i + 1, by go_num, by omega, ?_, HBI.out⟩, by simp [intOf]; omega⟩
          rw [fst1_snoc, ← HLE.out.fst (by rw [HTL.out]; exact hil)]
          exact HTS2.out
        · obtain ⟨j, rfl⟩ : ∃ j, c = j + 1 := ⟨c - 1, by omega⟩
          rw [show ((j + 1 : Nat) : Int) - 1 = (j : Int) by omega]
          have z1 := below_cell hbi _ _ _ (HTCC.out j (t.getD j 0) (by rw [List.getD_eq_getElem?_getD, List.getElem?_eq_getElem (by rw [HTL.out]; omega)]; rfl))
          have z2 := below_cell hbi _ _ _ (HTCC.out i (t.getD i 0) (by rw [List.getD_eq_getElem?_getD, List.getElem?_eq_getElem (by rw [HTL.out]; omega)]; rfl))
          obtain ⟨x, hx⟩ : ∃ x, t.getD j 0 = x := ⟨_, rfl⟩
          obtain ⟨y, hy⟩ : ∃ y, t.getD i 0 = y := ⟨_, rfl⟩
          rw [hx] at z1
          rw [hy] at z2
          have HXY := Lib.hid (And.intro hx hy)
          obtain ⟨e1, e2⟩ := HTS2.out.at hil
          have f2 : decide (0 ≤ (j : Int)) = true := decide_eq_true (by omega)
          have hib2 : (0 ≤ (j : Int) ∧ (j : Int) < (n : Int)) := ⟨by omega, by omega⟩
          clear hx hy h0 hbi
          by_cases hxy : x = y
          · have f3 : ((x : Int) == (y : Int)) = true := by simp [hxy]
            have HEQ := Lib.hid hxy
            clear hxy
            go_wp2_with fail
            refine wp_region_bel (by kernel_rfl) (by kernel_rfl) ?_
            repeat (go_big_quiet_step (fail))
            refine wpQuiet_nil ?_
            rintro _ ⟨z, rfl⟩
            have e1z := below_cell z.below _ _ _ e1
            have e2z : z.w.frozen? ⟨W1.heap.size, i, none⟩ = false := (frozen_in z.below e1).trans e2
            obtain ⟨Z, hZ⟩ : ∃ Z, z.w = Z := ⟨_, rfl⟩
            have hbz := z.below
            rw [hZ] at e1z e2z hbz ⊢
            have HBZ := Lib.hid hbz
            clear hbz hZ e1 e2 z1 z2
            go_wp2
            go_roundw
            case rel =>
              have h := (HTS2.out.heap (HBZ.out.block _ HTS2.out.lt.2)).last j
              rw [HRL.out] at h
              refine ⟨j, j, by go_num, by omega, h, ((HBI.out.trans (HBZ.out.mono HBI.out.size))).setCell (p := ⟨W1.heap.size, i, none⟩) (by simp) _, Nat.le_refl _, by omega, ?_, fun q h1 h2 => by omega⟩
              rw [HXY.out.1, HXY.out.2, HEQ.out]
            case measure => simp [intOf]
          · have f3 : ((x : Int) == (y : Int)) = false := by simp; omega
            have HNE := Lib.hid hxy
            clear hxy
            go_wp2_with fail
            refine wp_region_bel (by kernel_rfl) (by kernel_rfl) ?_
            repeat (go_big_quiet_step (fail))
            refine wpQuiet_nil ?_
            rintro _ ⟨z, rfl⟩
            go_wp2
            go_roundw
            case rel =>
              obtain ⟨l1, l2, l3, l4⟩ := HLE.out
              refine ⟨j, mm, by go_num, by omega, HTS2.out.heap (z.below.block _ HTS2.out.lt.2), HBI.out.trans (z.below.mono HBI.out.size), by omega, l2, l3, fun q h1 h2 => ?_⟩
              rcases Nat.lt_or_ge j q with h | h
              · exact l4 q h h2
              · have : q = j := by omega
                subst this
                rw [HXY.out.1, HXY.out.2]
                exact HNE.out
            case measure => simp [intOf]
    · have hke : i = n := by omega
      subst hke
      have f1 : decide ((i : Int) < (i : Int)) = false := decide_eq_false (by omega)
      obtain ⟨n, hn⟩ : ∃ n, n = i := ⟨_, rfl⟩
      have hBo := HBO.out
      have hWb := hBo.size
      have hTs := HTS.out.lt.2
      have hB1s := HB1.out.size
      have hnetb := obj_in hBo HNE1.out
      have hresb := obj_in (HB1.out.trans (hBo.mono HB1.out.size)) HRES.out
      have hgb : InGt (fun _ => True) wo ga1 (G1.map gz) := by
        obtain ⟨a', c', h1, h2⟩ := ownK_in (ownK_bel HK2.out (HB1.out.trans (hBo.mono HB1.out.size)))
        injection h1 with h1 h3 h4
        subst h1
        rw [hu1] at h2
        exact h2.imp fun _ _ _ => trivial
      have hob : InS (fun _ => True) wo oa1 (intsN O1) := by
        have h := ownV_heap HOV2.out fun g hg => (HB1.out.trans (hBo.mono HB1.out.size)).block g (ownV_lt HOV2.out hg).2
        rw [show m = (intsN O1).length by unfold intsN; rw [List.length_map, HM.out]] at h
        exact (inS_of_ownV h).imp fun _ _ _ => trivial
      have hstart : Pk w w.heap.size W1.heap.size i i wo.heap.size (w.heap.size + 1) w.heap.size (wo.heap.size + 1) #[.slice ga1 i gc1, .slice oa1 m oc1] (.cells #[.slice ga1 i gc1, .slice oa1 m oc1] 25 (0, 0)) ((List.range i).map (fst1 t)) [] (.slice none 0 0) (wo.alloc (.cells #[.slice none 0 0, .slice none 0 0] 25 (0, 0))) := by
        have hts := HTS.out
        have hlo : OwnN wo w.heap.size (.slice (some ⟨W1.heap.size, 0, none⟩) i i) ((List.range i).map (fst1 t) ++ List.replicate (i - ((List.range i).map (fst1 t)).length) 0) := ownN_le hts.1 (by have := HBW.out.size; omega)
        exact ⟨obj_alloc _ hnetb, ToS.heap ⟨hlo, hts.2⟩ (Below.heap_alloc _ _ _ hTs), obj_alloc _ hnetb, World.alloc_heap_new _ _, obj_alloc _ hresb, ownK_nil _ _, (HBW.out.trans ((HB1.out.trans (hBo.mono HB1.out.size)).mono HBW.out.size)).alloc (by have := HBW.out.size; omega) _, by simp, ⟨by omega, by omega, by omega, by omega⟩, ⟨by omega, by omega, by omega, by omega, by omega⟩, ⟨by omega, by omega, by omega, by omega, by omega, by omega, by omega⟩⟩
      obtain ⟨num, hnum⟩ : ∃ num, (List.range i).map (fst1 t) = num := ⟨_, rfl⟩
      rw [hnum] at hstart
      have hnm : ∀ y, y < i → num.getD y 0 = fst1 t y := fun y hy => by
        rw [← hnum, List.getD_eq_getElem?_getD, List.getElem?_map, List.getElem?_range hy]
        rfl
      have HNM := Lib.hid hnm
      have HST := Lib.hid hstart
      have HGB := Lib.hid hgb
      have HOBB := Lib.hid hob
      rename World => Wb
      have HJN := Lib.hid (show (joinN t (G1, O1)).1.length = i from by rw [joinN_len, HN.out])
      clear hnum hnm hstart hgb hob hnetb hresb hBo hn
      go_wp2_with fail
      go_loopw [8] (fun iv wr => ∃ (k : Nat) (us : List UG) (gv : Value), iv = .int .i64 (k : Int) ∧ k ≤ i ∧ us.map (·.1) = ((joinN t (G1, O1)).1.take k).map gz ∧ Pk w w.heap.size W1.heap.size i i Wb.heap.size (w.heap.size + 1) w.heap.size (Wb.heap.size + 1) #[.slice ga1 i gc1, .slice oa1 m oc1] (.cells #[.slice ga1 i gc1, .slice oa1 m oc1] 25 (0, 0)) num us gv wr ∧ Below Wb.heap.size Wb wr) (fun iv _ => i - (intOf iv).toNat)
      case atStart => exact ⟨0, [], _, rfl, Nat.zero_le _, rfl, HST.out, (Below.refl _ _).alloc (Nat.le_refl _) _⟩
      case round =>
        rename World => wo
        obtain ⟨k, us, gv, rfl, hk, hus, hP, hbb⟩ := hrel
        have HP := Lib.hid hP
        have HUS := Lib.hid hus
        have HBB := Lib.hid hbb
        obtain ⟨n1, n2, -⟩ := box2 hP.net
        have hulk : us.length = k := by have := congrArg List.length hus; simp only [List.length_map, List.length_take, HJN.out] at this; omega
        have HULK := Lib.hid hulk
        clear hP hus hbb hulk
        rcases Nat.lt_or_ge k i with hkl | hkl
        · obtain ⟨gg, hgg⟩ : ∃ gg, G1[k]? = some gg := ⟨_, List.getElem?_eq_getElem (by rw [HN.out]; exact hkl)⟩
          have hjt : (joinN t (G1, O1)).1.take (k + 1) = (joinN t (G1, O1)).1.take k ++ [(gg.1, gg.2.1, gg.2.2.map (fst1 t))] := take_snoc (by unfold joinN; rw [List.getElem?_map, hgg]; rfl)
          have HJT := Lib.hid hjt
          have f1 : decide ((k : Int) < (i : Int)) = true := decide_eq_true (by omega)
          have hib : (0 ≤ (k : Int) ∧ (k : Int) < (i : Int)) := ⟨by omega, by omega⟩
          clear hjt
          obtain ⟨b2, o2, hadd, hb2, ax, cx, y0, y1, y2, hiy⟩ := (HGB.out.of HBB.out).at (show (G1.map gz)[k]? = some (gz gg) by rw [List.getElem?_map, hgg]; rfl)
          subst hadd
          dsimp only [gz] at y0 y1 y2 hiy
          rw [List.length_map] at y2
          have hogl := HIL1.out gg (List.mem_of_getElem? hgg)
          rw [HN.out] at hogl
          have hins := okG_ins (HOK1.out.1 k gg hgg)
          have HI2 := Lib.hid hiy
          have HINS := Lib.hid hins
          clear hgg hiy hins
          go_wp2_with fail
          refine wp_region_plan 14 (.calm 0 (.calm 1 (.calm 2 (.calm 3 (.calm 4 (.calm 5 (.calm 6 (.calm 7 (.calm 8 (.calm 9 (.calm 10 (.calm 11 (.calm 12 (.fork 13 .tail .none)))))))))))))) (by kernel_rfl) (by kernel_rfl) ?_
          simp only [Plan.walk, operAt, List.getElem?_cons_succ, List.getElem?_cons_zero, Option.getD_some, List.drop_succ_cons, List.drop_zero]
          repeat (refine wpX_calm (fun K hK => ?_); go_simp; first | (refine hK _ _ ?_; clear hK K) | (apply Exists.intro; refine ⟨fun _ => ?_, hK _ _ ?_⟩; (fail); clear hK K))
          refine wpX_only (fun K hK => ?_)
          go_simp
          intro x
          refine ⟨(Below.refl _ _).alloc (Nat.le_refl _) _, hK _ _ ?_⟩
          clear hK K
          repeat (refine wpX_calm (fun K hK => ?_); go_simp; first | (refine hK _ _ ?_; clear hK K) | (apply Exists.intro; refine ⟨fun _ => ?_, hK _ _ ?_⟩; (fail); clear hK K))
          refine wpX_tail ?_
          intro z
          have hbox := obj_bel z (World.alloc_heap_new x.w (.cells #[.int .i64 0, .int .i64 0, .slice none 0 0] 45 (0, 0)))
          have hbz : Below wo.heap.size wo z.w := by (repeat' (first | (with_reducible first | apply Zl1 | apply Zl2 | apply Zl3 | apply Zl4 | apply Zl5 | apply Zl6 | apply Zl7 | apply Zl8 | apply Zl9 | apply Zla | apply Zlb | apply Zlc) | (dsimp only; with_reducible first | apply Zl8 | apply Zl2 | apply Zld) | with_reducible assumption | omega | (dsimp only; omega)))
          have hgbx := x.size_le
          have hzs : x.w.heap.size + 1 ≤ z.w.heap.size := by have := z.size_le; simpa using this
          obtain ⟨GB, hGB⟩ : ∃ GB, x.w.heap.size = GB := ⟨_, rfl⟩
          obtain ⟨Z, hZ⟩ : ∃ Z, z.w = Z := ⟨_, rfl⟩
          rw [hGB] at hbox hgbx hzs ⊢
          rw [hZ] at hbox hbz hzs ⊢
          clear hGB hZ
          obtain ⟨q0, q1, q2⟩ := box3f hbox
          obtain ⟨p0, p1, p2⟩ := box3 hbox
          have hset := obj_set3 (.int .i64 (gg.1 : Int)) (.int .i64 (gg.2.1 : Int)) (.slice none 0 0) hbox
          have HBZ := Lib.hid hbz
          have HSET := Lib.hid hset
          clear hbox hset hbz
          go_wp2_with fail
          obtain ⟨w2, hw2⟩ : ∃ w2, ((Z.setCell ⟨GB, 0, none⟩ (.int .i64 (gg.1 : Int))).setCell ⟨GB, 1, none⟩ (.int .i64 (gg.2.1 : Int))).setCell ⟨GB, 2, none⟩ (.slice none 0 0) = w2 := ⟨_, rfl⟩
          have hset2 := HSET.out
          have hb2w : Below wo.heap.size wo w2 := by rw [← hw2]; exact ((HBZ.out.setCell (p := ⟨GB, 0, none⟩) (by simp; omega) _).setCell (p := ⟨GB, 1, none⟩) (by simp; omega) _).setCell (p := ⟨GB, 2, none⟩) (by simp; omega) _
          rw [hw2] at hset2 ⊢
          have hgb2 : GB < w2.heap.size := (Array.getElem?_eq_some_iff.1 hset2).1
          have HSET2 := Lib.hid hset2
          have HB2W := Lib.hid hb2w
          have hP := HP.out
          have hwb := hP.sz
          have hlo := hP.lo
          have hhi := hP.hi
          clear hw2 HSET HBZ q0 q1 q2 p0 p1 p2 hset2 hb2w hP
          have HN1 := Lib.hid n1
          have HY2 := Lib.hid y2
          clear n1 n2 y0 y1 y2
          go_loopw [10] (fun iv wi => ∃ (j : Nat) (vv : Value), iv = .int .i64 (j : Int) ∧ j ≤ gg.2.2.length ∧ OwnV wi w2.heap.size 3 vv (intsV (intsN ((gg.2.2.take j).map fun i => num.getD i 0))) ∧ wi.heap[GB]? = some (.cells #[.int .i64 (gg.1 : Int), .int .i64 (gg.2.1 : Int), vv] 45 (0, 0)) ∧ Below wo.heap.size wo wi ∧ w2.heap.size ≤ wi.heap.size) (fun iv _ => gg.2.2.length - (intOf iv).toNat)
          case atStart => exact ⟨0, _, rfl, Nat.zero_le _, ownV_nil _ _ _, HSET2.out, HB2W.out, Nat.le_refl _⟩
          case round =>
            rename World => wi
            obtain ⟨j, vv, rfl, hj, hov, hbx, hbi, hszi⟩ := hrel
            have hlj : (intsV (intsN ((gg.2.2.take j).map fun i => num.getD i 0))).length = j := by
              unfold intsV intsN
              rw [List.length_map, List.length_map, List.length_map, List.length_take]
              omega
            obtain ⟨va, vc, hvv⟩ := ownV_shape hov
            rw [hlj] at hvv
            subst hvv
            have HOV := Lib.hid hov
            have HBX := Lib.hid hbx
            have HBI := Lib.hid hbi
            have HLJ := Lib.hid hlj
            have m1 := below_cell hbi _ _ _ HN1.out
            have m2 := below_cell hbi _ _ _ HY2.out
            obtain ⟨g0, g1, g2⟩ := box3 hbx
            obtain ⟨k0, k1, k2⟩ := box3f hbx
            clear hov hbx hlj
            rcases Nat.lt_or_ge j gg.2.2.length with hjl | hjl
            · obtain ⟨y, hy⟩ := some_at hjl
              have hyn := Nat.lt_trans (HINS.out y (List.mem_of_getElem? hy)) hkl
              obtain ⟨b3, o3, hadd, hb3, z0⟩ := (HI2.out.of hbi).at (show (gg.2.2.map fun k : Nat => (k : Int))[j]? = some (y : Int) by rw [List.getElem?_map, hy]; rfl)
              subst hadd
              have t0 := below_cell hbi _ _ _ (HP.out.to.at hyn).1
              obtain ⟨ty, hty⟩ : ∃ ty, num.getD y 0 = ty := ⟨_, rfl⟩
              rw [hty] at t0
              have HTK := Lib.hid (show intsN ((gg.2.2.take (j + 1)).map fun i => num.getD i 0) = intsN ((gg.2.2.take j).map fun i => num.getD i 0) ++ [(ty : Int)] from by
                rw [take_snoc hy, List.map_append]
                unfold intsN
                rw [List.map_append, List.map_singleton, List.map_singleton, hty])
              have f2 : decide ((j : Int) < (gg.2.2.length : Int)) = true := decide_eq_true (by omega)
              have hib2 : (0 ≤ (j : Int) ∧ (j : Int) < (gg.2.2.length : Int)) := ⟨by omega, by omega⟩
              have hib3 : (0 ≤ (y : Int) ∧ (y : Int) < (i : Int)) := ⟨by omega, by omega⟩
              clear hy hty
              go_wp2_with fail
              refine wp_region_plan 15 (.calm 0 (.calm 1 (.calm 2 (.calm 3 (.calm 4 (.calm 5 (.calm 6 (.calm 7 (.calm 8 (.calm 9 (.calm 10 (.calm 11 (.calm 12 (.calm 13 (.fork 14 .tail .none))))))))))))))) (by kernel_rfl) (by kernel_rfl) ?_
              simp only [Plan.walk, operAt, List.getElem?_cons_succ, List.getElem?_cons_zero, Option.getD_some, List.drop_succ_cons, List.drop_zero]
              repeat (refine wpX_calm (fun K hK => ?_); go_simp; first | (refine hK _ _ ?_; clear hK K) | (apply Exists.intro; refine ⟨fun _ => ?_, hK _ _ ?_⟩; (fail); clear hK K))
              refine wpX_only (fun K hK => ?_)
              go_simp
              intro x
              refine ⟨(Below.refl _ _).alloc (Nat.le_refl _) _, hK _ _ ?_⟩
              clear hK K
              repeat (refine wpX_calm (fun K hK => ?_); go_simp; first | (refine hK _ _ ?_; clear hK K) | (apply Exists.intro; refine ⟨fun _ => ?_, hK _ _ ?_⟩; (fail); clear hK K))
              refine wpX_tail ?_
              intro z
              have hsrc := obj_bel z (World.alloc_heap_new x.w (.cells #[.int .i64 (ty : Int)] 3 (0, 0)))
              have hbz : Below wi.heap.size wi z.w := by (repeat' (first | (with_reducible first | apply Zl1 | apply Zl2 | apply Zl3 | apply Zl4 | apply Zl5 | apply Zl6 | apply Zl7 | apply Zl8 | apply Zl9 | apply Zla | apply Zlb | apply Zlc) | (dsimp only; with_reducible first | apply Zl8 | apply Zl2 | apply Zld) | with_reducible assumption | omega | (dsimp only; omega)))
              have HOZ := Lib.hid (show OwnV z.w w2.heap.size 3 (.slice va j vc) (intsV (intsN ((gg.2.2.take j).map fun i => num.getD i 0))) from ownV_heap HOV.out fun g hg => hbz.block g (ownV_lt HOV.out hg).2)
              have HBXz := Lib.hid (obj_in hbz HBX.out)
              have HBZ := Lib.hid hbz
              have HSRC := Lib.hid hsrc
              have hszz := hbz.size
              have HLL := Lib.hid (show (intsN ((gg.2.2.take j).map fun i => num.getD i 0)).length = j from by unfold intsN; rw [List.length_map, List.length_map, List.length_take]; omega)
              clear hsrc hbz g0 g1 g2 k0 k1 k2
              go_wp2_with (at_builtin; refine wpList_appI rfl _ _ 23 rfl i0 Tryz.underlying23 hi0 hz0 hz1 hz2 _ w2.heap.size (.slice va j vc) (intsN ((gg.2.2.take j).map fun i => num.getD i 0)) (ty : Int) x.w.heap.size rfl HOZ.out rfl HSRC.out (by rw [HLL.out]; omega) (by omega) ?_; intro g' c' w1 ho1 hb1 hs1; rw [HLL.out] at ho1 ⊢; have HO1 := Lib.hid ho1; have HB1 := Lib.hid hb1; have hbx1 := obj_below hb1 hgb2 HBXz.out; have HBX1 := Lib.hid hbx1; obtain ⟨g0, g1, g2⟩ := box3 hbx1; obtain ⟨k0, k1, k2⟩ := box3f hbx1; clear ho1 hb1 hbx1)
              go_roundw
              case rel =>
                have hge := (ownV_lt HO1.out (g := g') rfl).1
                refine ⟨j + 1, .slice (some ⟨g', 0, none⟩) (j + 1) c', by go_num, by omega, ?_, ?_, ?_, by simp; omega⟩
                · rw [HTK.out]
                  exact ownV_heap HO1.out fun g hg => set_heap_ne _ (by have : g' = g := (by simpa [Value.ownBlock] using hg); omega)
                · have := obj_setD (i := 2) (.slice (some ⟨g', 0, none⟩) (j + 1) c') HBX1.out
                  simpa using this
                · exact ((HBI.out.trans (HBZ.out.mono (by omega))).trans (HB1.out.mono (by omega))).setCell (p := ⟨GB, 2, none⟩) (by simp; omega) _
              case measure => simp [intOf]; omega
            · have hke : j = gg.2.2.length := by omega
              subst hke
              have f2 : decide ((gg.2.2.length : Int) < (gg.2.2.length : Int)) = false := decide_eq_false (by omega)
              have hPi := HP.out.of hbi
              obtain ⟨gva, gvc, hgv⟩ := ownK_val hPi.gts
              rw [HULK.out] at hgv
              subst hgv
              obtain ⟨c0, c1, c2, c3⟩ := box2 hPi.out
              have hk1 := HOV.out
              rw [List.take_length] at hk1
              obtain ⟨u, hu⟩ : ∃ u : UG, u = (((gg.1 : Int), (gg.2.1 : Int), intsN (gg.2.2.map fun i => num.getD i 0)), va, vc) := ⟨_, rfl⟩
              have hiv : inV u = .slice va gg.2.2.length vc := by rw [hu, inV]; dsimp only; unfold intsN; rw [List.length_map, List.length_map]
              have hsrc : (wi.alloc (.cells #[.int .i64 (gg.1 : Int), .int .i64 (gg.2.1 : Int), .slice va gg.2.2.length vc] 45)).heap[wi.heap.size]? = some (.cells #[.int .i64 u.1.1, .int .i64 u.1.2.1, inV u] 45 (0, 0)) := by
                rw [hiv, hu]
                exact World.alloc_heap_new wi _
              have hal : Below wi.heap.size wi (wi.alloc (.cells #[.int .i64 (gg.1 : Int), .int .i64 (gg.2.1 : Int), .slice va gg.2.2.length vc] 45)) := (Below.refl _ _).alloc (Nat.le_refl _) _
              have hPa := hPi.of hal
              have huV : OwnV (wi.alloc (.cells #[.int .i64 (gg.1 : Int), .int .i64 (gg.2.1 : Int), .slice va gg.2.2.length vc] 45)) (Wb.heap.size + 1) 3 (inV u) (intsV u.1.2.2) := by
                rw [hiv, hu]
                exact ownV_mono (ownV_alloc hk1 _) (by omega)
              have hb2v : ∀ b, (inV u).ownBlock = some b → w2.heap.size ≤ b := fun b hb => by rw [hiv] at hb; exact (ownV_lt hk1 hb).1
              have hgk := HP.out.gts
              have HSRC := Lib.hid hsrc
              have HPA := Lib.hid hPa
              have HUV := Lib.hid huV
              have HUd := Lib.hid (show ∀ b, (inV u).ownBlock = some b → (Value.slice gva k gvc).ownBlock ≠ some b from fun b hb e => by have := (World.ownsRow.lt hgk.1 b e).2; have := hb2v b hb; have := HB2W.out.size; omega)
              have HUe := Lib.hid (show ∀ x ∈ us, ∀ b, (inV x).ownBlock = some b → (inV u).ownBlock ≠ some b from fun x hx b hb e => by have := (ownV_lt (hgk.2.1 x hx).1 hb).2; have := hb2v b e; have := HB2W.out.size; omega)
              have HU := Lib.hid hu
              have HALB := Lib.hid (HBB.out.trans ((hbi.trans (hal.mono (by have := hbi.size; omega))).mono HBB.out.size))
              have hINS := HINS.out
              have HCG := Lib.hid (show (gg.2.2.map fun y => num.getD y 0) = gg.2.2.map (fst1 t) from List.map_congr_left fun y hy => HNM.out y (by have := hINS y hy; omega))
              clear hPi hk1 hsrc hal hPa huV hb2v hgk hu hiv hINS
              go_wp2_with (at_builtin; refine wpList_appK rfl _ _ 22 rfl j0 Tryz.underlying22 HJ.out.1 HJ.out.2.1 HJ.out.2.2.1 HJ.out.2.2.2 _ (Wb.heap.size + 1) (.slice gva k gvc) us u wi.heap.size rfl HPA.out.gts HUV.out HUd.out HUe.out rfl HSRC.out (by rw [HULK.out]; omega) HPA.out.sz ?_; intro g' c' w1 hk1 hb1 hs1; rw [HULK.out] at hk1 ⊢; have HK9 := Lib.hid hk1; have HB9 := Lib.hid hb1; have HS9 := Lib.hid hs1; have ho9 := obj_below hb1 HPA.out.hi.2.2.1 HPA.out.out; obtain ⟨e0, e1, e2, e3⟩ := box2 ho9; clear hk1 hb1 hs1 ho9)
              refine ⟨⟨k + 1, us ++ [u], .slice (some ⟨g', 0, none⟩) (k + 1) c', by go_num, by omega, ?_, HPA.out.app HK9.out HB9.out HS9.out, (HALB.out.trans (HB9.out.mono (by omega))).setCell (p := ⟨Wb.heap.size, 0, none⟩) (by simp) _⟩, by simp [intOf]; omega⟩
              rw [HJT.out, List.map_append, List.map_append, HUS.out, HU.out, HCG.out]
              simp [gz, intsN]
        · have hke : k = i := by omega
          subst hke
          have f1 : decide ((k : Int) < (k : Int)) = false := decide_eq_false (by omega)
          obtain ⟨i, hik⟩ : ∃ i, i = k := ⟨_, rfl⟩
          have hst := HP.out.start
          have HSTA := Lib.hid hst
          have hwos : Wb.heap.size ≤ wo.heap.size := HBB.out.size
          clear hst
          go_wp2_with fail
          subst hik
          go_loopw [11] (fun iv wi => ∃ (q : Nat) (ov : Value), iv = .int .i64 (q : Int) ∧ q ≤ m ∧ Po w w.heap.size W1.heap.size i i Wb.heap.size (w.heap.size + 1) wo.heap.size #[.slice ga1 i gc1, .slice oa1 m oc1] num us gv ov ((O1.take q).map fun o => num.getD o 0) wi ∧ Below Wb.heap.size Wb wi) (fun iv _ => m - (intOf iv).toNat)
          case atStart => exact ⟨0, _, rfl, Nat.zero_le _, HSTA.out, HBB.out⟩
          case round =>
            rename World => wi
            obtain ⟨q, ov, rfl, hq, hPo, hbb⟩ := hrel
            have hll : (intsV (intsN ((O1.take q).map fun o => num.getD o 0))).length = q := by
              unfold intsV intsN
              rw [List.length_map, List.length_map, List.length_map, List.length_take, HM.out]
              omega
            obtain ⟨va, vc, hvv⟩ := ownV_shape hPo.ous
            rw [hll] at hvv
            subst hvv
            have HPO := Lib.hid hPo
            have HBB := Lib.hid hbb
            have HLL := Lib.hid (show (intsN ((O1.take q).map fun o => num.getD o 0)).length = q from by unfold intsV at hll; rwa [List.length_map] at hll)
            obtain ⟨n1, n2, -⟩ := box2 hPo.net
            obtain ⟨c0, c1, c2, c3⟩ := box2 hPo.out
            have hPw := hPo.bel
            have hsz := hPo.sz
            have hhi := hPo.hi
            clear hll
            rcases Nat.lt_or_ge q m with hil | hil
            · obtain ⟨y, hy⟩ := some_at (l := O1) (k := q) (by rw [HM.out]; exact hil)
              have hyn := HOK1.out.2 y (List.mem_of_getElem? hy)
              dsimp only at hyn
              rw [HN.out] at hyn
              obtain ⟨b3, o3, hadd, hb3, z0⟩ := (HOBB.out.of hbb).at (show (intsN O1)[q]? = some (y : Int) by unfold intsN; rw [List.getElem?_map, hy]; rfl)
              subst hadd
              have t0 := (hPo.to.at hyn).1
              obtain ⟨ty, hty⟩ : ∃ ty, num.getD y 0 = ty := ⟨_, rfl⟩
              rw [hty] at t0
              have HTK := Lib.hid (show (O1.take (q + 1)).map (fun o => num.getD o 0) = ((O1.take q).map fun o => num.getD o 0) ++ [ty] from by rw [take_snoc hy, List.map_append, List.map_singleton, hty])
              have f2 : decide ((q : Int) < (m : Int)) = true := decide_eq_true (by omega)
              have hib2 : (0 ≤ (q : Int) ∧ (q : Int) < (m : Int)) := ⟨by omega, by omega⟩
              have hib3 : (0 ≤ (y : Int) ∧ (y : Int) < (i : Int)) := ⟨by omega, by omega⟩
              clear hy hty hPo
              go_wp2_with fail
              refine wp_region_plan 11 (.calm 0 (.calm 1 (.calm 2 (.calm 3 (.calm 4 (.calm 5 (.calm 6 (.calm 7 (.calm 8 (.calm 9 (.fork 10 .tail .none))))))))))) (by kernel_rfl) (by kernel_rfl) ?_
              simp only [Plan.walk, operAt, List.getElem?_cons_succ, List.getElem?_cons_zero, Option.getD_some, List.drop_succ_cons, List.drop_zero]
              repeat (refine wpX_calm (fun K hK => ?_); go_simp; first | (refine hK _ _ ?_; clear hK K) | (apply Exists.intro; refine ⟨fun _ => ?_, hK _ _ ?_⟩; (fail); clear hK K))
              refine wpX_only (fun K hK => ?_)
              go_simp
              intro x
              refine ⟨(Below.refl _ _).alloc (Nat.le_refl _) _, hK _ _ ?_⟩
              clear hK K
              repeat (refine wpX_calm (fun K hK => ?_); go_simp; first | (refine hK _ _ ?_; clear hK K) | (apply Exists.intro; refine ⟨fun _ => ?_, hK _ _ ?_⟩; (fail); clear hK K))
              refine wpX_tail ?_
              intro z
              have hsrc := obj_bel z (World.alloc_heap_new x.w (.cells #[.int .i64 (ty : Int)] 3 (0, 0)))
              have hbz : Below wi.heap.size wi z.w := by (repeat' (first | (with_reducible first | apply Zl1 | apply Zl2 | apply Zl3 | apply Zl4 | apply Zl5 | apply Zl6 | apply Zl7 | apply Zl8 | apply Zl9 | apply Zla | apply Zlb | apply Zlc) | (dsimp only; with_reducible first | apply Zl8 | apply Zl2 | apply Zld) | with_reducible assumption | omega | (dsimp only; omega)))
              have HOZ := Lib.hid (show OwnV z.w wo.heap.size 3 (.slice va q vc) (intsV (intsN ((O1.take q).map fun o => num.getD o 0))) from ownV_heap HPO.out.ous fun g hg => hbz.block g (ownV_lt HPO.out.ous hg).2)
              have HBXz := Lib.hid (obj_in hbz HPO.out.out)
              have HBZ := Lib.hid hbz
              have HSRC := Lib.hid hsrc
              have hszz := hbz.size
              clear hsrc hbz c0 c1 c2 c3
              go_wp2_with (at_builtin; refine wpList_appI rfl _ _ 23 rfl i0 Tryz.underlying23 hi0 hz0 hz1 hz2 _ wo.heap.size (.slice va q vc) (intsN ((O1.take q).map fun o => num.getD o 0)) (ty : Int) x.w.heap.size rfl HOZ.out rfl HSRC.out (by rw [HLL.out]; omega) (by omega) ?_; intro g' c' w1 ho1 hb1 hs1; rw [HLL.out] at ho1 ⊢; have HO1 := Lib.hid ho1; have HB1 := Lib.hid hb1; have hbx1 := obj_below hb1 hhi.2.2.1 HBXz.out; have HBX1 := Lib.hid hbx1; obtain ⟨c0, c1, c2, c3⟩ := box2 hbx1; clear ho1 hb1 hbx1)
              go_roundw
              case rel =>
                refine ⟨q + 1, .slice (some ⟨g', 0, none⟩) (q + 1) c', by go_num, by omega, ?_, ((HBB.out.trans (HBZ.out.mono HBB.out.size)).trans (HB1.out.mono (by omega))).setCell (p := ⟨Wb.heap.size, 1, none⟩) (by simp) _⟩
                rw [HTK.out]
                exact (HPO.out.of HBZ.out).app HO1.out HB1.out (by omega)
              case measure => simp [intOf]; omega
            · have hke : q = m := by omega
              subst hke
              have f2 : decide ((q : Int) < (q : Int)) = false := decide_eq_false (by omega)
              have hull : us.length = i := HULK.out
              obtain ⟨gva, gvc, hgv⟩ := ownK_val hPo.gts
              rw [hull] at hgv
              subst hgv
              have hjg : us.map (·.1) = (joinN t (G1, O1)).1.map gz := by
                have h := HUS.out
                rwa [show (joinN t (G1, O1)).1.take i = (joinN t (G1, O1)).1 by rw [← HJN.out, List.take_length]] at h
              have hjo : O1.map (fun o => num.getD o 0) = (joinN t (G1, O1)).2 := List.map_congr_left fun y hy => HNM.out y (by have := HOK1.out.2 y hy; dsimp only at this; rw [HN.out] at this; exact this)
              have hov := hPo.ous
              rw [show O1.take q = O1 by rw [← HM.out, List.take_length], hjo] at hov
              have hjl : (joinN t (G1, O1)).2.length = q := by rw [← hjo, List.length_map, HM.out]
              have hjok : okN 6 (joinN t (G1, O1)) := joinN_ok (by rw [HTL.out, HN.out]) HOK1.out
              have hjil : ∀ g ∈ (joinN t (G1, O1)).1, g.2.2.length ≤ 1000000 := fun g hg => by
                unfold joinN at hg
                obtain ⟨x, hx, rfl⟩ := List.mem_map.1 hg
                have := HIL1.out x hx
                rw [HN.out] at this
                dsimp only
                rw [List.length_map]
                omega
              obtain ⟨J, hJ⟩ : ∃ J, joinN t (G1, O1) = J := ⟨_, rfl⟩
              rw [hJ] at hjg hov hjl hjok hjil
              have hjn := HJN.out
              rw [hJ] at hjn
              obtain ⟨JG, JO⟩ := J
              dsimp only at hjg hov hjl hjok hjil hjn
              have hIS2 : InS (fun _ => True) wi va (intsN JO) := by
                have h := hov
                rw [show q = (intsN JO).length by unfold intsN; rw [List.length_map, hjl]] at h
                exact (inS_of_ownV h).imp fun _ _ _ => trivial
              obtain ⟨a', c', h1, hing⟩ := ownK_in hPo.gts
              injection h1 with h1 h3 h4
              subst h1
              rw [hjg] at hing
              have hnd := lawClean_any JG JO 6 _ _ gva va gvc vc wi hjok.1 hing hIS2 hjok.2 (by rw [hjn]; omega) (by rw [hjl]; omega) hjil
              unfold nV at hnd
              rw [hjn, hjl] at hnd
              have HFIN := Lib.hid (show reduceG tabsG (G, O) = cleanG (JG, JO) from by rw [HRG.out, HTT.out, hJ])
              have HND := Lib.hid hnd
              have hwi : w.heap.size + 1 < wi.heap.size := by have := hPo.sz; omega
              clear hov hjg hjo hjl hjok hjil hjn hIS2 hing hnd h3 h4 hull hJ hPo
              go_wp2_with fail
              refine HND.out.mono ?_
              rintro e W8 hret
              have HRET := Lib.hid hret
              obtain ⟨us8, ga8, gc8, ov8, -, rfl, -, hov8, -, -, hbel8⟩ := hret
              obtain ⟨oa8, oc8, rfl⟩ := ownV_shape hov8
              obtain ⟨ol, hol2⟩ : ∃ ol, (intsV (intsN (cleanG (JG, JO)).2)).length = ol := ⟨_, rfl⟩
              rw [hol2] at HRET ⊢
              have hres := obj_in hbel8 HPO.out.res
              obtain ⟨r0, r1, r2, r3⟩ := box2 hres
              have hR := obj_set2 (.slice ga8 us8.length gc8) (.slice oa8 ol oc8) hres
              obtain ⟨q0, q1, -⟩ := box2 hR
              clear hov8 hbel8 hres hR hol2
              dsimp only
              go_wp2
              refine bodyPost_ret (v := .agg #[.slice ga8 us8.length gc8, .slice oa8 ol oc8]) (by simp [results, Tryz.results17, go_sem, q0, q1]) rfl ?_
              rw [HFIN.out]
              exact HRET.out.store HPO.out.bel (by omega) hwi _ _
end Go.Proofs.YtlnedapimmabdaaGreatDoor
