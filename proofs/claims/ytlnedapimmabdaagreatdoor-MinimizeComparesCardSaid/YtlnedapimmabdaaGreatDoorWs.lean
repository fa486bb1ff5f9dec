/- The law's join. -/
import Derived.Test.YtlnedapimmabdaaGreatDoorW5
namespace Go.Proofs.YtlnedapimmabdaaGreatDoor
set_option linter.unusedVariables false
set_option linter.unusedSimpArgs false
open Go.RowKit
attribute [local go_sem low] Bel.cell Bel.frozen alloc_cell alloc_frozen

def GR (Pc : Nat → Prop) (r : List Gt × Nat) (base : Nat) (v : Value) (w : World) (e : Ending) (w' : World) : Prop := ∃ v', e = .returned (.tuple #[v', .int .i64 (r.2 : Int)]) ∧ OwnZ Pc w' base 45 v' (r.1.map gz) ∧ Below base w w' ∧ w.heap.size ≤ w'.heap.size ∧ KeepX v w w' ∧ (∀ b, v'.ownBlock = some b → v.ownBlock = some b ∨ w.heap.size ≤ b)
variable {Pc : Nat → Prop}
theorem GR.ahead {r : List Gt × Nat} {base : Nat} {v : Value} {w w1 w' : World} {e : Ending} (hb : Below w.heap.size w w1) (hbs : base ≤ w.heap.size) (h : GR Pc r base v w1 e w') : GR Pc r base v w e w' := by
  obtain ⟨v', h1, h2, h3, h4, h5, h6⟩ := h
  have hs := hb.size
  exact ⟨v', h1, h2, (hb.mono hbs).trans h3, by omega, fun b hl hn => (h5 b (by omega) hn).trans (hb.block b hl), fun b e => (h6 b e).imp id (fun h => by omega)⟩
theorem GR.same {L : List Gt} {base a : Nat} {v : Value} {w w1 : World} (hb : Below w.heap.size w w1) (hbs : base ≤ w.heap.size) (ho : OwnZ Pc w base 45 v (L.map gz)) : GR Pc (L, a) base v w (.returned (.tuple #[v, .int .i64 (a : Int)])) w1 :=
  ⟨v, rfl, ownZ_bel ho hb, hb.mono hbs, hb.size, fun b hl _ => hb.block b hl, fun b e => .inl e⟩
def mJ (L : List Gt) (NK : Nat) (l : List Nat) (j : Nat) : Bool := decide (j ∈ l) && decide (kd L j ≠ NK)
def rJ (L : List Gt) (NK : Nat) (ins : List Nat) (i : Nat) : List Nat := (List.range i).filter (mJ L NK ins)
theorem rJ_succ (L : List Gt) (NK : Nat) (ins : List Nat) (i : Nat) : rJ L NK ins (i + 1) = rJ L NK ins i ++ (if mJ L NK ins i then [i] else []) := by
  unfold rJ
  rw [List.range_succ, List.filter_append]
  congr 1
  cases h : mJ L NK ins i <;> simp [h]
theorem rJ_all (L : List Gt) (k : Nat) (ins : List Nat) : rJ L (neuK k) ins L.length = restG L k ins := rfl
theorem rJ_len (L : List Gt) (NK : Nat) (ins : List Nat) (i : Nat) : (rJ L NK ins i).length ≤ i := by
  unfold rJ
  exact Nat.le_trans (List.length_filter_le _ _) (by simp)
theorem mem_rJ {L : List Gt} {k : Nat} {ins : List Nat} {j : Nat} (hj : j < L.length) : decide (j ∈ restG L k ins) = mJ L (neuK k) ins j := by
  rw [Bool.eq_iff_iff, decide_eq_true_eq, mem_rest]
  unfold mJ
  simp [hj]
theorem rJ_sub {L : List Gt} {k : Nat} {ins : List Nat} {i : Nat} (hi : i < L.length) (hm : mJ L (neuK k) ins i = true) : i ∈ restG L k ins := by
  have := mem_rJ (L := L) (k := k) (ins := ins) hi
  rw [hm] at this
  exact of_decide_eq_true this
set_option maxRecDepth 100000 in
set_option maxHeartbeats 12800000 in
theorem join_any (L : List Gt) (vv : Nat) (k : Nat) (hk : k = 3 ∨ k = 4) (ins : List Nat) (base : Nat) (v : Value) (P : Nat → Prop) (ia : Option Addr) (ic : Nat) (w : World) (hok : okL vv L) (hb : base ≤ w.heap.size) (hown : OwnZ Pc w base 45 v (L.map gz)) (hi : InS P w ia (intsN ins)) (hin : ∀ i ∈ ins, i < L.length) (hl : L.length ≤ 100000) (hil : ins.length ≤ 1000000) (hLl : ∀ x ∈ L, x.2.2.length ≤ 1000000) (hPc : ∀ b, w.heap.size ≤ b → Pc b) :
    Calls Tryz.prog 35 #[v, .int .i64 (k : Int), .slice ia ins.length ic] w (GR Pc (joinG L k ins) base v w) := by
  obtain ⟨i0, hi0, hz0, hz1, hz2⟩ := info_parts Tryz.infoBo
  obtain ⟨j0, hj0, hy0, hy1, hy2⟩ := info_parts Tryz.infoI
  obtain ⟨a, c, hv⟩ := ownZ_val hown
  rw [List.length_map] at hv
  subst hv
  obtain ⟨ad, cap, hv2, hing⟩ := ownZ_in hown
  injection hv2 with hv2 hv3 hv4
  subst hv2 hv4
  clear hv3
  have HFC := Lib.hid (fun (kk : Nat) w' (hbw : Below w.heap.size w w') => (show Calls Tryz.prog 36 #[.slice a L.length c, .agg #[.int .i64 (kk : Int), .int .i64 0, .slice none 0 0]] w' (GR Pc (findG L (kk, 0, [])) base (.slice a L.length c) w') from
    find_any L (kk, 0, []) base (.slice a L.length c) none 0 w' (Nat.le_trans hb hbw.size) (ownZ_bel hown hbw) (inS_nil _ _ _) (by omega) hLl (by simp)))
  have HFR := Lib.hid (fun (R : List Nat) (ra : Option Addr) (rc : Nat) w' (hbw : Below w.heap.size w w') (hR : InS (fun b => Pc b ∧ (Value.slice a L.length c).ownBlock ≠ some b) w' ra (intsN R)) (hRl : R.length ≤ 1000000) => (show Calls Tryz.prog 36 #[.slice a L.length c, .agg #[.int .i64 (k : Int), .int .i64 0, .slice ra R.length rc]] w' (GR Pc (findG L (k, 0, R)) base (.slice a L.length c) w') from by
    have := find_any L (k, 0, R) base (.slice a L.length c) ra rc w' (Nat.le_trans hb hbw.size) (ownZ_bel hown hbw) hR (by omega) hLl hRl
    unfold gV gz at this
    dsimp only at this
    rw [List.length_map] at this
    exact this))
  have hvb : ∀ b, (Value.slice a L.length c).ownBlock = some b → b < w.heap.size := fun b h => (ownZ_block hown h).2
  have HVB := Lib.hid hvb
  have HZ := Lib.hid hown
  have HG := Lib.hid hing
  have HI := Lib.hid hi
  have HIN := Lib.hid hin
  have HOK := Lib.hid hok
  have HK := Lib.hid hk
  obtain ⟨n, hn⟩ : ∃ n, L.length = n := ⟨_, rfl⟩
  have HN := Lib.hid hn
  rw [hn] at hl HFC HFR HVB HZ ⊢
  clear hown hi hin hok hing hvb hn hLl
  rcases HK.out with rfl | rfl
  · go_enter Tryz.func35, Tryz.ntmps35
    go_wp2_with (at_make; refine wpList_make_full _ rfl _ _ 35 rfl (w.heap.size) 4 i0 (.bool false) 1 Tryz.underlying35 hi0 hz0 hz1 _ _ _ _ (n) rfl rfl (by first | rfl | omega | (simp <;> omega)) (by first | rfl | omega | (simp <;> omega)) (by rw [hz2] <;> omega) (by unfold maxLen; omega) (by first | omega | (simp <;> omega)) ?_; intro wM hownM hgrowM; have HOM := Lib.hid hownM; have HGM := Lib.hid hgrowM; clear hownM hgrowM)
    have hstart : OwnB wM w.heap.size w.heap.size n (bsOf n (mJ L 6 (ins.take 0))) ∧ Below w.heap.size w wM := by
      have hbs : bsOf n (mJ L 6 (ins.take 0)) = List.replicate n false := by
        rw [bsOf_congr (m' := fun _ => false) (fun j _ => by simp [mJ])]
        unfold bsOf
        rw [List.map_const', List.length_range]
      refine ⟨?_, (Below.refl _ w).grown HGM.out (Nat.le_refl _) (fun k e => by cases e)⟩
      rw [hbs]
      unfold OwnB boolsD
      rw [List.length_replicate, List.map_replicate]
      have := HOM.out
      rw [Nat.mul_one, show (Value.bool false).cells = #[Value.bool false] from rfl, toList_madeCells_one] at this
      exact this
    have HST := Lib.hid hstart
    clear hstart
    go_loopw [11] (fun iv wr => ∃ i : Nat, iv = .int .i64 (i : Int) ∧ i ≤ ins.length ∧ OwnB wr w.heap.size w.heap.size n (bsOf n (mJ L 6 (ins.take i))) ∧ Below w.heap.size w wr) (fun iv _ => ins.length - (intOf iv).toNat)
    case atStart => exact ⟨0, rfl, Nat.zero_le _, HST.out⟩
    case round =>
      obtain ⟨i, rfl, hile, hob, hbw⟩ := hrel
      have HOB := Lib.hid hob
      have HBW := Lib.hid hbw
      have hws := hbw.size
      clear hob
      rcases Nat.lt_or_ge i ins.length with hkl | hkl
      · obtain ⟨x, hx⟩ := some_at hkl
        have hxn := HIN.out x (List.mem_of_getElem? hx)
        rw [HN.out] at hxn
        obtain ⟨bb, -, e3⟩ := ownB_at HOB.out (j := x) (by rw [bsOf_len]; exact hxn)
        have e2 := ownB_is HOB.out (bsOf_at hxn)
        obtain ⟨b1, o1, hadd, hb1, x0⟩ := (HI.out.of hbw).at (show (intsN ins)[i]? = some (x : Int) by rw [intsN, List.getElem?_map, hx]; rfl)
        subst hadd
        obtain ⟨gg, hgg⟩ : ∃ gg, L[x]? = some gg := ⟨_, List.getElem?_eq_getElem (by rw [HN.out]; exact hxn)⟩
        obtain ⟨b2, o2, hadd, hb2, ax, cx, y0, y1, y2, hiy⟩ := (HG.out.of hbw).at (show (L.map gz)[x]? = some (gz gg) by rw [List.getElem?_map, hgg]; rfl)
        subst hadd
        dsimp only [gz] at y0 y1 y2
        have hkd : kd L x = gg.1 := by rw [kd, gtAt_some hgg]
        obtain ⟨q, hq⟩ : ∃ q, ((gg.1 : Int) != (6 : Int)) = q := ⟨_, rfl⟩
        have hq2 : decide (kd L x ≠ 6) = q := by
          rw [← hq, hkd, Bool.eq_iff_iff]
          simp
          omega
        have f1 : decide ((i : Int) < (ins.length : Int)) = true := decide_eq_true (by omega)
        have hib : (0 ≤ (i : Int) ∧ (i : Int) < (ins.length : Int)) := ⟨by omega, by omega⟩
        have hib2 : (0 ≤ (x : Int) ∧ (x : Int) < (n : Int)) := ⟨by omega, by omega⟩
        have HX := Lib.hid hx
        have HQ := Lib.hid hq2
        clear hx hq2 hkd hgg hiy hbw
        go_wp2_with fail
        refine wp_region_belT 16 (by kernel_rfl) (by kernel_rfl) ?_
        simp only [List.take_succ_cons, List.take_zero, List.drop_succ_cons, List.drop_zero]
        repeat (go_big_quiet_step (fail))
        refine wpQuiet_nil ?_
        rintro _ ⟨z, rfl⟩
        go_wp2
        go_roundw
        case rel =>
          refine ⟨i + 1, by go_num, by omega, ?_, (HBW.out.trans (z.below.mono hws)).setCell (p := ⟨w.heap.size, x, none⟩) (by simp) _⟩
          have := ownB_store (ownB_bel HOB.out z.below) x q
          rw [bsOf_setb] at this
          rw [bsOf_congr (m' := fun j => if j = x then q else mJ L 6 (ins.take i) j) (fun j _ => ?_)]
          · exact this
          · unfold mJ
            rw [List.take_add_one, HX.out]
            by_cases hj : j = x
            · subst hj
              rw [if_pos rfl, HQ.out]
              simp
            · rw [if_neg hj]
              simp [hj]
        case measure => simp [intOf]; omega
      · have hke : i = ins.length := by omega
        subst hke
        have f1 : decide ((ins.length : Int) < (ins.length : Int)) = false := decide_eq_false (by omega)
        have hob := HOB.out
        rw [List.take_length] at hob
        have HB2 := Lib.hid hob
        rename World => W2
        clear hob
        go_wp2
        go_loopw [12, 13] (fun rv iv wr => ∃ i : Nat, iv = .int .i64 (i : Int) ∧ i ≤ n ∧ OwnV wr W2.heap.size 3 rv (intsV (intsN (rJ L 6 ins i))) ∧ Below W2.heap.size W2 wr ∧ (rJ L 6 ins i).any (stopsG L 3 (restG L 3 ins)) = false) (fun _ iv _ => n - (intOf iv).toNat)
        case atStart => exact ⟨0, rfl, by omega, World.ownsRow_nil _ _ _ _, Below.refl _ _, rfl⟩
        case round =>
          obtain ⟨i, rfl, hile2, how, hbe, hst⟩ := hrel
          have HOV := Lib.hid how
          have HBE := Lib.hid hbe
          have HST2 := Lib.hid hst
          have hll := rJ_len L 6 ins i
          have hwW : Below w.heap.size w wr := HBW.out.trans (hbe.mono hws)
          have HWW := Lib.hid hwW
          have hws2 := hbe.size
          clear how hbe hst
          rcases Nat.lt_or_ge i n with hil2 | hil2
          · obtain ⟨gg, hgg⟩ : ∃ gg, L[i]? = some gg := ⟨_, List.getElem?_eq_getElem (by rw [HN.out]; exact hil2)⟩
            obtain ⟨b2, o2, hadd, hb2, ax, cx, y0, y1, y2, hiy⟩ := (HG.out.of hwW).at (show (L.map gz)[i]? = some (gz gg) by rw [List.getElem?_map, hgg]; rfl)
            subst hadd
            dsimp only [gz] at y0 y1 y2 hiy
            rw [List.length_map] at y2
            have hkd : kd L i = gg.1 := by rw [kd, gtAt_some hgg]
            have hog := HOK.out i gg hgg
            have hob3 := ownB_bel HB2.out HBE.out
            have e2 := ownB_is hob3 (bsOf_at hil2)
            obtain ⟨q, hq⟩ : ∃ q, mJ L 6 ins i = q := ⟨_, rfl⟩
            rw [hq] at e2
            have HQ := Lib.hid hq
            have HOB3 := Lib.hid hob3
            have HKD := Lib.hid hkd
            have f1 : decide ((i : Int) < (n : Int)) = true := decide_eq_true (by omega)
            have hib : (0 ≤ (i : Int) ∧ (i : Int) < (n : Int)) := ⟨by omega, by omega⟩
            clear hq hwW hob3
            cases q
            · clear hgg hiy hkd hog
              go_wp2
              go_roundw
              case rel =>
                have hrs : rJ L 6 ins (i + 1) = rJ L 6 ins i := by
                  rw [rJ_succ, HQ.out]
                  simp
                refine ⟨i + 1, by go_num, by omega, ?_, HBE.out, ?_⟩
                · rw [hrs]
                  exact HOV.out
                · rw [hrs]
                  exact HST2.out
              case measure => simp [intOf]; omega
            · have hir : i ∈ restG L 3 ins := rJ_sub (by rw [HN.out]; exact hil2) HQ.out
              have hstop : ∀ b, stopsG L 3 (restG L 3 ins) i = b → (b = true → joinG L 3 ins = findG L (5, 0, [])) ∧ (b = false → (rJ L 6 ins (i + 1)).any (stopsG L 3 (restG L 3 ins)) = false) := fun b hsb => ⟨fun hbt => by
                subst hbt
                rw [joinG, if_pos (List.any_eq_true.2 ⟨i, hir, hsb⟩)]
                rfl, fun hbf => by
                subst hbf
                rw [rJ_succ, HQ.out, if_pos rfl, List.any_append, HST2.out]
                simp [hsb]⟩
              have HSTOP := Lib.hid hstop
              have HRS := Lib.hid (show rJ L 6 ins (i + 1) = rJ L 6 ins i ++ [i] by rw [rJ_succ, HQ.out, if_pos rfl])
              clear hir hstop
              by_cases hd : gg.1 = 5
              · have f2 : ((gg.1 : Int) == 5) = true := by simp [hd]
                have hs1 : stopsG L 3 (restG L 3 ins) i = true := by
                  unfold stopsG
                  rw [HKD.out, hd]
                  simp [decK]
                have HS1 := Lib.hid hs1
                clear hgg hiy hkd hog hd hs1
                go_wp2_with fail
                refine (HFC.out 5 wr HWW.out).mono ?_
                rintro e W9 hgr
                obtain ⟨v9, rfl, hgr2⟩ := hgr
                have HGR := Lib.hid hgr2
                clear hgr2
                dsimp only
                go_wp2
                refine bodyPost_ret (v := .tuple #[v9, .int .i64 ((findG L (5, 0, [])).2 : Int)]) (by simp [results, Tryz.results35, go_sem]) rfl ?_
                rw [(HSTOP.out true HS1.out).1 rfl]
                exact GR.ahead HWW.out hb ⟨v9, rfl, HGR.out⟩
              · have f2 : ((gg.1 : Int) == 5) = false := by simp; omega
                by_cases h2 : gg.1 = 2
                · have f3 : ((gg.1 : Int) == 2) = true := by simp [h2]
                  obtain ⟨k0, hk0, hki⟩ : ∃ k0, gg.2.2 = [k0] ∧ k0 < i := by
                    rcases hog with ⟨h, _⟩ | ⟨_, _, k0, h, h'⟩ | ⟨h, _⟩ | ⟨h, _⟩
                    · omega
                    · exact ⟨k0, h, h'⟩
                    · omega
                    · omega
                  rw [hk0] at y2 hiy
                  obtain ⟨b3, o3, hadd, hb3, z0⟩ := hiy.at (j := 0) (x := (k0 : Int)) rfl
                  subst hadd
                  rw [Nat.add_zero] at z0
                  have e4 := ownB_is HOB3.out (bsOf_at (m := mJ L 6 ins) (show k0 < n by omega))
                  obtain ⟨p, hp⟩ : ∃ p, mJ L 6 ins k0 = p := ⟨_, rfl⟩
                  rw [hp] at e4
                  have hs1 : stopsG L 3 (restG L 3 ins) i = p := by
                    unfold stopsG
                    rw [HKD.out, show hd1 L i = k0 by rw [hd1, gtAt_some hgg, hk0]; rfl, mem_rJ (by rw [HN.out]; omega), show mJ L (neuK 3) ins k0 = p from hp]
                    rw [show decide (gg.1 = decK 3) = false from decide_eq_false hd, show decide (gg.1 = 2) = true from decide_eq_true h2]
                    simp
                  have HS1 := Lib.hid hs1
                  have hib3 : (0 ≤ (k0 : Int) ∧ (k0 : Int) < (n : Int)) := ⟨by omega, by omega⟩
                  clear hgg hiy hkd hog hd hs1 h2 hk0 hp
                  dsimp only [List.length_cons, List.length_nil] at y2
                  cases p
                  · go_wp2_with (at_builtin; refine wpList_appI rfl _ _ 23 rfl j0 Tryz.underlying23 hj0 hy0 hy1 hy2 _ W2.heap.size u12 (intsN (rJ L 6 ins i)) (i : Int) wr.heap.size rfl (ownV_alloc HOV.out _) rfl (World.alloc_heap_new wr _) (by unfold intsN; rw [List.length_map]; omega) (by simp; omega) ?_; intro g1 c1 w1 ho1 hb1 hs1; have HO1 := Lib.hid ho1; have HB1 := Lib.hid hb1; clear ho1 hb1)
                    go_roundw
                    case rel =>
                      refine ⟨i + 1, by go_num, by omega, ?_, HBE.out.trans (((Below.refl _ wr).alloc hws2 _).trans HB1.out), (HSTOP.out false HS1.out).2 rfl⟩
                      rw [HRS.out, show intsN (rJ L 6 ins i ++ [i]) = intsN (rJ L 6 ins i) ++ [(i : Int)] by unfold intsN; rw [List.map_append]; rfl]
                      exact HO1.out
                    case measure => simp [intOf]; omega
                  · go_wp2_with fail
                    refine (HFC.out 5 wr HWW.out).mono ?_
                    rintro e W9 hgr
                    obtain ⟨v9, rfl, hgr2⟩ := hgr
                    have HGR := Lib.hid hgr2
                    clear hgr2
                    dsimp only
                    go_wp2
                    refine bodyPost_ret (v := .tuple #[v9, .int .i64 ((findG L (5, 0, [])).2 : Int)]) (by simp [results, Tryz.results35, go_sem]) rfl ?_
                    rw [(HSTOP.out true HS1.out).1 rfl]
                    exact GR.ahead HWW.out hb ⟨v9, rfl, HGR.out⟩
                · have f3 : ((gg.1 : Int) == 2) = false := by simp; omega
                  have hs1 : stopsG L 3 (restG L 3 ins) i = false := by
                    unfold stopsG
                    rw [HKD.out, show decide (gg.1 = decK 3) = false from decide_eq_false hd, show decide (gg.1 = 2) = false from decide_eq_false h2]
                    rfl
                  have HS1 := Lib.hid hs1
                  clear hgg hiy hkd hog hd hs1 h2
                  go_wp2_with (at_builtin; refine wpList_appI rfl _ _ 23 rfl j0 Tryz.underlying23 hj0 hy0 hy1 hy2 _ W2.heap.size u12 (intsN (rJ L 6 ins i)) (i : Int) wr.heap.size rfl (ownV_alloc HOV.out _) rfl (World.alloc_heap_new wr _) (by unfold intsN; rw [List.length_map]; omega) (by simp; omega) ?_; intro g1 c1 w1 ho1 hb1 hs1; have HO1 := Lib.hid ho1; have HB1 := Lib.hid hb1; clear ho1 hb1)
                  go_roundw
                  case rel =>
                    refine ⟨i + 1, by go_num, by omega, ?_, HBE.out.trans (((Below.refl _ wr).alloc hws2 _).trans HB1.out), (HSTOP.out false HS1.out).2 rfl⟩
                    rw [HRS.out, show intsN (rJ L 6 ins i ++ [i]) = intsN (rJ L 6 ins i) ++ [(i : Int)] by unfold intsN; rw [List.map_append]; rfl]
                    exact HO1.out
                  case measure => simp [intOf]; omega
          · have hke : i = n := by omega
            subst hke
            have f1 : decide ((i : Int) < (i : Int)) = false := decide_eq_false (by omega)
            have hR : rJ L 6 ins i = restG L 3 ins := by rw [← HN.out]; exact rJ_all L 3 ins
            rw [hR] at hll
            have ho := HOV.out
            have hs := HST2.out
            rw [hR] at ho hs
            have HOR := Lib.hid ho
            obtain ⟨ra, rc, hrv⟩ := ownV_shape ho
            have hlv : (intsV (intsN (restG L 3 ins))).length = (restG L 3 ins).length := by unfold intsV intsN; rw [List.length_map, List.length_map]
            rw [hlv] at hrv
            subst hrv
            have hjn : joinG L 3 ins = (match restG L 3 ins with | [] => findG L (6, 0, []) | [i] => (L, i) | _ => findG L (3, 0, restG L 3 ins)) := by
              rw [joinG, if_neg (by rw [hs]; decide)]
              rfl
            have hinS : InS (fun b => Pc b ∧ (Value.slice a i c).ownBlock ≠ some b) wr ra (intsN (restG L 3 ins)) := by
              have := ho
              rw [show (restG L 3 ins).length = (intsN (restG L 3 ins)).length by unfold intsN; rw [List.length_map]] at this
              exact (inS_of_ownV this).imp fun b hl hb2 => ⟨hPc b (by have := hb2.1; omega), fun e => by have := HVB.out b e; have := hb2.1; omega⟩
            have HJN := Lib.hid hjn
            have HIS := Lib.hid hinS
            clear hR ho hs hlv hjn hinS HOV hwW
            obtain ⟨R, hRR⟩ : ∃ R, restG L 3 ins = R := ⟨_, rfl⟩
            rw [hRR] at HJN HIS hll HOR ⊢
            clear HST2 hRR
            match R, hll, HJN, HIS, HOR with
            | [], hll, HJN, HIS, HOR =>
              dsimp only [List.length_nil]
              go_wp2_with fail
              refine (HFC.out 6 wr HWW.out).mono ?_
              rintro e W9 hgr
              obtain ⟨v9, rfl, hgr2⟩ := hgr
              have HGR := Lib.hid hgr2
              clear hgr2
              dsimp only
              go_wp2
              refine bodyPost_ret (v := .tuple #[v9, .int .i64 ((findG L (6, 0, [])).2 : Int)]) (by simp [results, Tryz.results35, go_sem]) rfl ?_
              rw [HJN.out]
              exact GR.ahead HWW.out hb ⟨v9, rfl, HGR.out⟩
            | [x], hll, HJN, HIS, HOR =>
              obtain ⟨b3, o3, hadd, hb3, z0⟩ := HIS.out.at (j := 0) (x := (x : Int)) rfl
              subst hadd
              rw [Nat.add_zero] at z0
              dsimp only [List.length_cons, List.length_nil, Nat.zero_add]
              go_wp2_with fail
              refine wp_region_bel (by kernel_rfl) (by kernel_rfl) ?_
              repeat (go_big_quiet_step (fail))
              refine wpQuiet_nil ?_
              rintro _ ⟨z, rfl⟩
              go_wp2
              refine bodyPost_ret (v := .tuple #[.slice a i c, .int .i64 (x : Int)]) (by simp [results, Tryz.results35, go_sem]) rfl ?_
              rw [HJN.out]
              have := GR.same (a := x) (HWW.out.trans (z.below.mono HWW.out.size)) hb HZ.out
              exact this
            | x :: y :: r, hll, HJN, HIS, HOR =>
              have f5 : ((((x :: y :: r).length : Nat) : Int) == 0) = false := by simp; omega
              have f6 : ((((x :: y :: r).length : Nat) : Int) == 1) = false := by simp; omega
              obtain ⟨R, hR⟩ : ∃ R, x :: y :: r = R := ⟨_, rfl⟩
              have hj2 := HJN.out
              dsimp only at hj2
              rw [hR] at hj2 f5 f6 hll HIS ⊢
              have HJ2 := Lib.hid hj2
              clear HJN HOR hR hj2
              go_wp2_with fail
              refine (HFR.out R ra rc wr HWW.out HIS.out (by omega)).mono ?_
              rintro e W9 hgr
              obtain ⟨v9, rfl, hgr2⟩ := hgr
              have HGR := Lib.hid hgr2
              clear hgr2
              dsimp only
              go_wp2
              refine bodyPost_ret (v := .tuple #[v9, .int .i64 ((findG L (3, 0, R)).2 : Int)]) (by simp [results, Tryz.results35, go_sem]) rfl ?_
              rw [HJ2.out]
              exact GR.ahead HWW.out hb ⟨v9, rfl, HGR.out⟩
  · go_enter Tryz.func35, Tryz.ntmps35
    go_wp2_with (at_make; refine wpList_make_full _ rfl _ _ 35 rfl (w.heap.size) 4 i0 (.bool false) 1 Tryz.underlying35 hi0 hz0 hz1 _ _ _ _ (n) rfl rfl (by first | rfl | omega | (simp <;> omega)) (by first | rfl | omega | (simp <;> omega)) (by rw [hz2] <;> omega) (by unfold maxLen; omega) (by first | omega | (simp <;> omega)) ?_; intro wM hownM hgrowM; have HOM := Lib.hid hownM; have HGM := Lib.hid hgrowM; clear hownM hgrowM)
    have hstart : OwnB wM w.heap.size w.heap.size n (bsOf n (mJ L 5 (ins.take 0))) ∧ Below w.heap.size w wM := by
      have hbs : bsOf n (mJ L 5 (ins.take 0)) = List.replicate n false := by
        rw [bsOf_congr (m' := fun _ => false) (fun j _ => by simp [mJ])]
        unfold bsOf
        rw [List.map_const', List.length_range]
      refine ⟨?_, (Below.refl _ w).grown HGM.out (Nat.le_refl _) (fun k e => by cases e)⟩
      rw [hbs]
      unfold OwnB boolsD
      rw [List.length_replicate, List.map_replicate]
      have := HOM.out
      rw [Nat.mul_one, show (Value.bool false).cells = #[Value.bool false] from rfl, toList_madeCells_one] at this
      exact this
    have HST := Lib.hid hstart
    clear hstart
    go_loopw [11] (fun iv wr => ∃ i : Nat, iv = .int .i64 (i : Int) ∧ i ≤ ins.length ∧ OwnB wr w.heap.size w.heap.size n (bsOf n (mJ L 5 (ins.take i))) ∧ Below w.heap.size w wr) (fun iv _ => ins.length - (intOf iv).toNat)
    case atStart => exact ⟨0, rfl, Nat.zero_le _, HST.out⟩
    case round =>
      obtain ⟨i, rfl, hile, hob, hbw⟩ := hrel
      have HOB := Lib.hid hob
      have HBW := Lib.hid hbw
      have hws := hbw.size
      clear hob
      rcases Nat.lt_or_ge i ins.length with hkl | hkl
      · obtain ⟨x, hx⟩ := some_at hkl
        have hxn := HIN.out x (List.mem_of_getElem? hx)
        rw [HN.out] at hxn
        obtain ⟨bb, -, e3⟩ := ownB_at HOB.out (j := x) (by rw [bsOf_len]; exact hxn)
        have e2 := ownB_is HOB.out (bsOf_at hxn)
        obtain ⟨b1, o1, hadd, hb1, x0⟩ := (HI.out.of hbw).at (show (intsN ins)[i]? = some (x : Int) by rw [intsN, List.getElem?_map, hx]; rfl)
        subst hadd
        obtain ⟨gg, hgg⟩ : ∃ gg, L[x]? = some gg := ⟨_, List.getElem?_eq_getElem (by rw [HN.out]; exact hxn)⟩
        obtain ⟨b2, o2, hadd, hb2, ax, cx, y0, y1, y2, hiy⟩ := (HG.out.of hbw).at (show (L.map gz)[x]? = some (gz gg) by rw [List.getElem?_map, hgg]; rfl)
        subst hadd
        dsimp only [gz] at y0 y1 y2
        have hkd : kd L x = gg.1 := by rw [kd, gtAt_some hgg]
        obtain ⟨q, hq⟩ : ∃ q, ((gg.1 : Int) != (5 : Int)) = q := ⟨_, rfl⟩
        have hq2 : decide (kd L x ≠ 5) = q := by
          rw [← hq, hkd, Bool.eq_iff_iff]
          simp
          omega
        have f1 : decide ((i : Int) < (ins.length : Int)) = true := decide_eq_true (by omega)
        have hib : (0 ≤ (i : Int) ∧ (i : Int) < (ins.length : Int)) := ⟨by omega, by omega⟩
        have hib2 : (0 ≤ (x : Int) ∧ (x : Int) < (n : Int)) := ⟨by omega, by omega⟩
        have HX := Lib.hid hx
        have HQ := Lib.hid hq2
        clear hx hq2 hkd hgg hiy hbw
        go_wp2_with fail
        refine wp_region_belT 16 (by kernel_rfl) (by kernel_rfl) ?_
        simp only [List.take_succ_cons, List.take_zero, List.drop_succ_cons, List.drop_zero]
        repeat (go_big_quiet_step (fail))
        refine wpQuiet_nil ?_
        rintro _ ⟨z, rfl⟩
        go_wp2
        go_roundw
        case rel =>
          refine ⟨i + 1, by go_num, by omega, ?_, (HBW.out.trans (z.below.mono hws)).setCell (p := ⟨w.heap.size, x, none⟩) (by simp) _⟩
          have := ownB_store (ownB_bel HOB.out z.below) x q
          rw [bsOf_setb] at this
          rw [bsOf_congr (m' := fun j => if j = x then q else mJ L 5 (ins.take i) j) (fun j _ => ?_)]
          · exact this
          · unfold mJ
            rw [List.take_add_one, HX.out]
            by_cases hj : j = x
            · subst hj
              rw [if_pos rfl, HQ.out]
              simp
            · rw [if_neg hj]
              simp [hj]
        case measure => simp [intOf]; omega
      · have hke : i = ins.length := by omega
        subst hke
        have f1 : decide ((ins.length : Int) < (ins.length : Int)) = false := decide_eq_false (by omega)
        have hob := HOB.out
        rw [List.take_length] at hob
        have HB2 := Lib.hid hob
        rename World => W2
        clear hob
        go_wp2
        go_loopw [12, 13] (fun rv iv wr => ∃ i : Nat, iv = .int .i64 (i : Int) ∧ i ≤ n ∧ OwnV wr W2.heap.size 3 rv (intsV (intsN (rJ L 5 ins i))) ∧ Below W2.heap.size W2 wr ∧ (rJ L 5 ins i).any (stopsG L 4 (restG L 4 ins)) = false) (fun _ iv _ => n - (intOf iv).toNat)
        case atStart => exact ⟨0, rfl, by omega, World.ownsRow_nil _ _ _ _, Below.refl _ _, rfl⟩
        case round =>
          obtain ⟨i, rfl, hile2, how, hbe, hst⟩ := hrel
          have HOV := Lib.hid how
          have HBE := Lib.hid hbe
          have HST2 := Lib.hid hst
          have hll := rJ_len L 5 ins i
          have hwW : Below w.heap.size w wr := HBW.out.trans (hbe.mono hws)
          have HWW := Lib.hid hwW
          have hws2 := hbe.size
          clear how hbe hst
          rcases Nat.lt_or_ge i n with hil2 | hil2
          · obtain ⟨gg, hgg⟩ : ∃ gg, L[i]? = some gg := ⟨_, List.getElem?_eq_getElem (by rw [HN.out]; exact hil2)⟩
            obtain ⟨b2, o2, hadd, hb2, ax, cx, y0, y1, y2, hiy⟩ := (HG.out.of hwW).at (show (L.map gz)[i]? = some (gz gg) by rw [List.getElem?_map, hgg]; rfl)
            subst hadd
            dsimp only [gz] at y0 y1 y2 hiy
            rw [List.length_map] at y2
            have hkd : kd L i = gg.1 := by rw [kd, gtAt_some hgg]
            have hog := HOK.out i gg hgg
            have hob3 := ownB_bel HB2.out HBE.out
            have e2 := ownB_is hob3 (bsOf_at hil2)
            obtain ⟨q, hq⟩ : ∃ q, mJ L 5 ins i = q := ⟨_, rfl⟩
            rw [hq] at e2
            have HQ := Lib.hid hq
            have HOB3 := Lib.hid hob3
            have HKD := Lib.hid hkd
            have f1 : decide ((i : Int) < (n : Int)) = true := decide_eq_true (by omega)
            have hib : (0 ≤ (i : Int) ∧ (i : Int) < (n : Int)) := ⟨by omega, by omega⟩
            clear hq hwW hob3
            cases q
            · clear hgg hiy hkd hog
              go_wp2
              go_roundw
              case rel =>
                have hrs : rJ L 5 ins (i + 1) = rJ L 5 ins i := by
                  rw [rJ_succ, HQ.out]
                  simp
                refine ⟨i + 1, by go_num, by omega, ?_, HBE.out, ?_⟩
                · rw [hrs]
                  exact HOV.out
                · rw [hrs]
                  exact HST2.out
              case measure => simp [intOf]; omega
            · have hir : i ∈ restG L 4 ins := rJ_sub (by rw [HN.out]; exact hil2) HQ.out
              have hstop : ∀ b, stopsG L 4 (restG L 4 ins) i = b → (b = true → joinG L 4 ins = findG L (6, 0, [])) ∧ (b = false → (rJ L 5 ins (i + 1)).any (stopsG L 4 (restG L 4 ins)) = false) := fun b hsb => ⟨fun hbt => by
                subst hbt
                rw [joinG, if_pos (List.any_eq_true.2 ⟨i, hir, hsb⟩)]
                rfl, fun hbf => by
                subst hbf
                rw [rJ_succ, HQ.out, if_pos rfl, List.any_append, HST2.out]
                simp [hsb]⟩
              have HSTOP := Lib.hid hstop
              have HRS := Lib.hid (show rJ L 5 ins (i + 1) = rJ L 5 ins i ++ [i] by rw [rJ_succ, HQ.out, if_pos rfl])
              clear hir hstop
              by_cases hd : gg.1 = 6
              · have f2 : ((gg.1 : Int) == 6) = true := by simp [hd]
                have hs1 : stopsG L 4 (restG L 4 ins) i = true := by
                  unfold stopsG
                  rw [HKD.out, hd]
                  simp [decK]
                have HS1 := Lib.hid hs1
                clear hgg hiy hkd hog hd hs1
                go_wp2_with fail
                refine (HFC.out 6 wr HWW.out).mono ?_
                rintro e W9 hgr
                obtain ⟨v9, rfl, hgr2⟩ := hgr
                have HGR := Lib.hid hgr2
                clear hgr2
                dsimp only
                go_wp2
                refine bodyPost_ret (v := .tuple #[v9, .int .i64 ((findG L (6, 0, [])).2 : Int)]) (by simp [results, Tryz.results35, go_sem]) rfl ?_
                rw [(HSTOP.out true HS1.out).1 rfl]
                exact GR.ahead HWW.out hb ⟨v9, rfl, HGR.out⟩
              · have f2 : ((gg.1 : Int) == 6) = false := by simp; omega
                by_cases h2 : gg.1 = 2
                · have f3 : ((gg.1 : Int) == 2) = true := by simp [h2]
                  obtain ⟨k0, hk0, hki⟩ : ∃ k0, gg.2.2 = [k0] ∧ k0 < i := by
                    rcases hog with ⟨h, _⟩ | ⟨_, _, k0, h, h'⟩ | ⟨h, _⟩ | ⟨h, _⟩
                    · omega
                    · exact ⟨k0, h, h'⟩
                    · omega
                    · omega
                  rw [hk0] at y2 hiy
                  obtain ⟨b3, o3, hadd, hb3, z0⟩ := hiy.at (j := 0) (x := (k0 : Int)) rfl
                  subst hadd
                  rw [Nat.add_zero] at z0
                  have e4 := ownB_is HOB3.out (bsOf_at (m := mJ L 5 ins) (show k0 < n by omega))
                  obtain ⟨p, hp⟩ : ∃ p, mJ L 5 ins k0 = p := ⟨_, rfl⟩
                  rw [hp] at e4
                  have hs1 : stopsG L 4 (restG L 4 ins) i = p := by
                    unfold stopsG
                    rw [HKD.out, show hd1 L i = k0 by rw [hd1, gtAt_some hgg, hk0]; rfl, mem_rJ (by rw [HN.out]; omega), show mJ L (neuK 4) ins k0 = p from hp]
                    rw [show decide (gg.1 = decK 4) = false from decide_eq_false hd, show decide (gg.1 = 2) = true from decide_eq_true h2]
                    simp
                  have HS1 := Lib.hid hs1
                  have hib3 : (0 ≤ (k0 : Int) ∧ (k0 : Int) < (n : Int)) := ⟨by omega, by omega⟩
                  clear hgg hiy hkd hog hd hs1 h2 hk0 hp
                  dsimp only [List.length_cons, List.length_nil] at y2
                  cases p
                  · go_wp2_with (at_builtin; refine wpList_appI rfl _ _ 23 rfl j0 Tryz.underlying23 hj0 hy0 hy1 hy2 _ W2.heap.size u12 (intsN (rJ L 5 ins i)) (i : Int) wr.heap.size rfl (ownV_alloc HOV.out _) rfl (World.alloc_heap_new wr _) (by unfold intsN; rw [List.length_map]; omega) (by simp; omega) ?_; intro g1 c1 w1 ho1 hb1 hs1; have HO1 := Lib.hid ho1; have HB1 := Lib.hid hb1; clear ho1 hb1)
                    go_roundw
                    case rel =>
                      refine ⟨i + 1, by go_num, by omega, ?_, HBE.out.trans (((Below.refl _ wr).alloc hws2 _).trans HB1.out), (HSTOP.out false HS1.out).2 rfl⟩
                      rw [HRS.out, show intsN (rJ L 5 ins i ++ [i]) = intsN (rJ L 5 ins i) ++ [(i : Int)] by unfold intsN; rw [List.map_append]; rfl]
                      exact HO1.out
                    case measure => simp [intOf]; omega
                  · go_wp2_with fail
                    refine (HFC.out 6 wr HWW.out).mono ?_
                    rintro e W9 hgr
                    obtain ⟨v9, rfl, hgr2⟩ := hgr
                    have HGR := Lib.hid hgr2
                    clear hgr2
                    dsimp only
                    go_wp2
                    refine bodyPost_ret (v := .tuple #[v9, .int .i64 ((findG L (6, 0, [])).2 : Int)]) (by simp [results, Tryz.results35, go_sem]) rfl ?_
                    rw [(HSTOP.out true HS1.out).1 rfl]
                    exact GR.ahead HWW.out hb ⟨v9, rfl, HGR.out⟩
                · have f3 : ((gg.1 : Int) == 2) = false := by simp; omega
                  have hs1 : stopsG L 4 (restG L 4 ins) i = false := by
                    unfold stopsG
                    rw [HKD.out, show decide (gg.1 = decK 4) = false from decide_eq_false hd, show decide (gg.1 = 2) = false from decide_eq_false h2]
                    rfl
                  have HS1 := Lib.hid hs1
                  clear hgg hiy hkd hog hd hs1 h2
                  go_wp2_with (at_builtin; refine wpList_appI rfl _ _ 23 rfl j0 Tryz.underlying23 hj0 hy0 hy1 hy2 _ W2.heap.size u12 (intsN (rJ L 5 ins i)) (i : Int) wr.heap.size rfl (ownV_alloc HOV.out _) rfl (World.alloc_heap_new wr _) (by unfold intsN; rw [List.length_map]; omega) (by simp; omega) ?_; intro g1 c1 w1 ho1 hb1 hs1; have HO1 := Lib.hid ho1; have HB1 := Lib.hid hb1; clear ho1 hb1)
                  go_roundw
                  case rel =>
                    refine ⟨i + 1, by go_num, by omega, ?_, HBE.out.trans (((Below.refl _ wr).alloc hws2 _).trans HB1.out), (HSTOP.out false HS1.out).2 rfl⟩
                    rw [HRS.out, show intsN (rJ L 5 ins i ++ [i]) = intsN (rJ L 5 ins i) ++ [(i : Int)] by unfold intsN; rw [List.map_append]; rfl]
                    exact HO1.out
                  case measure => simp [intOf]; omega
          · have hke : i = n := by omega
            subst hke
            have f1 : decide ((i : Int) < (i : Int)) = false := decide_eq_false (by omega)
            have hR : rJ L 5 ins i = restG L 4 ins := by rw [← HN.out]; exact rJ_all L 4 ins
            rw [hR] at hll
            have ho := HOV.out
            have hs := HST2.out
            rw [hR] at ho hs
            have HOR := Lib.hid ho
            obtain ⟨ra, rc, hrv⟩ := ownV_shape ho
            have hlv : (intsV (intsN (restG L 4 ins))).length = (restG L 4 ins).length := by unfold intsV intsN; rw [List.length_map, List.length_map]
            rw [hlv] at hrv
            subst hrv
            have hjn : joinG L 4 ins = (match restG L 4 ins with | [] => findG L (5, 0, []) | [i] => (L, i) | _ => findG L (4, 0, restG L 4 ins)) := by
              rw [joinG, if_neg (by rw [hs]; decide)]
              rfl
            have hinS : InS (fun b => Pc b ∧ (Value.slice a i c).ownBlock ≠ some b) wr ra (intsN (restG L 4 ins)) := by
              have := ho
              rw [show (restG L 4 ins).length = (intsN (restG L 4 ins)).length by unfold intsN; rw [List.length_map]] at this
              exact (inS_of_ownV this).imp fun b hl hb2 => ⟨hPc b (by have := hb2.1; omega), fun e => by have := HVB.out b e; have := hb2.1; omega⟩
            have HJN := Lib.hid hjn
            have HIS := Lib.hid hinS
            clear hR ho hs hlv hjn hinS HOV hwW
            obtain ⟨R, hRR⟩ : ∃ R, restG L 4 ins = R := ⟨_, rfl⟩
            rw [hRR] at HJN HIS hll HOR ⊢
            clear HST2 hRR
            match R, hll, HJN, HIS, HOR with
            | [], hll, HJN, HIS, HOR =>
              dsimp only [List.length_nil]
              go_wp2_with fail
              refine (HFC.out 5 wr HWW.out).mono ?_
              rintro e W9 hgr
              obtain ⟨v9, rfl, hgr2⟩ := hgr
              have HGR := Lib.hid hgr2
              clear hgr2
              dsimp only
              go_wp2
              refine bodyPost_ret (v := .tuple #[v9, .int .i64 ((findG L (5, 0, [])).2 : Int)]) (by simp [results, Tryz.results35, go_sem]) rfl ?_
              rw [HJN.out]
              exact GR.ahead HWW.out hb ⟨v9, rfl, HGR.out⟩
            | [x], hll, HJN, HIS, HOR =>
              obtain ⟨b3, o3, hadd, hb3, z0⟩ := HIS.out.at (j := 0) (x := (x : Int)) rfl
              subst hadd
              rw [Nat.add_zero] at z0
              dsimp only [List.length_cons, List.length_nil, Nat.zero_add]
              go_wp2_with fail
              refine wp_region_bel (by kernel_rfl) (by kernel_rfl) ?_
              repeat (go_big_quiet_step (fail))
              refine wpQuiet_nil ?_
              rintro _ ⟨z, rfl⟩
              go_wp2
              refine bodyPost_ret (v := .tuple #[.slice a i c, .int .i64 (x : Int)]) (by simp [results, Tryz.results35, go_sem]) rfl ?_
              rw [HJN.out]
              have := GR.same (a := x) (HWW.out.trans (z.below.mono HWW.out.size)) hb HZ.out
              exact this
            | x :: y :: r, hll, HJN, HIS, HOR =>
              have f5 : ((((x :: y :: r).length : Nat) : Int) == 0) = false := by simp; omega
              have f6 : ((((x :: y :: r).length : Nat) : Int) == 1) = false := by simp; omega
              obtain ⟨R, hR⟩ : ∃ R, x :: y :: r = R := ⟨_, rfl⟩
              have hj2 := HJN.out
              dsimp only at hj2
              rw [hR] at hj2 f5 f6 hll HIS ⊢
              have HJ2 := Lib.hid hj2
              clear HJN HOR hR hj2
              go_wp2_with fail
              refine (HFR.out R ra rc wr HWW.out HIS.out (by omega)).mono ?_
              rintro e W9 hgr
              obtain ⟨v9, rfl, hgr2⟩ := hgr
              have HGR := Lib.hid hgr2
              clear hgr2
              dsimp only
              go_wp2
              refine bodyPost_ret (v := .tuple #[v9, .int .i64 ((findG L (4, 0, R)).2 : Int)]) (by simp [results, Tryz.results35, go_sem]) rfl ?_
              rw [HJ2.out]
              exact GR.ahead HWW.out hb ⟨v9, rfl, HGR.out⟩
end Go.Proofs.YtlnedapimmabdaaGreatDoor
