/- The program's walk over a diagram. The builder's result: the diagram of a place. -/
import Derived.Laws.EntriesVeiled
import Derived.Test.YtlnedapimmabdaaGreatDoorXB
import Derived.Test.YtlnedapimmabdaaGreatDoorPl
import Derived.Maps.OwnSet
namespace Go.Proofs.YtlnedapimmabdaaGreatDoor
set_option linter.unusedVariables false
set_option linter.unusedSimpArgs false
open Go.RowKit Go.Maps
attribute [local go_sem low] Bel.cell Bel.frozen alloc_cell alloc_frozen
attribute [local go_sem] calmOp chainOp yieldsC grows

def fromV (BL BF BN BO : Nat) : Value := .func (.func 108) #[] #[.pointer (some ⟨BL, 0, none⟩), .pointer (some ⟨BF, 0, none⟩), .pointer (some ⟨BN, 0, none⟩), .pointer (some ⟨BO, 0, none⟩)]
structure WkS (w : World) (BL BF BN BO lm base : Nat) (nv : Value) (l : List Nat) : Prop where
  lb : w.heap[BL]? = some (.cells #[.map (some lm)] 160 (0, 0))
  fb : w.heap[BF]? = some (.cells #[fromV BL BF BN BO] 161 (0, 0))
  nb : w.heap[BN]? = some (.cells #[nv] 61 (0, 0))
  ob : ∃ v, w.heap[BO]? = some (.cells #[v] 23 (0, 0)) ∧ OwnN w base v l
  mp : ∃ n S, FunB Tryz.prog 3 4 w lm n S ∧ n ≤ l.length ∧ ∀ p : Nat, S (.int .i64 (p : Int)) = decide (p ∈ l)
structure WkD (n0 BL BF BN BO lm base : Nat) : Prop where
  lo : n0 ≤ BL ∧ n0 ≤ BF ∧ n0 ≤ BN ∧ n0 ≤ BO ∧ n0 ≤ lm
  hi : BL < base ∧ BF < base ∧ BN < base ∧ BO < base ∧ lm < base
  ne : BL ≠ BF ∧ BL ≠ BN ∧ BL ≠ BO ∧ BL ≠ lm ∧ BF ≠ BN ∧ BF ≠ BO ∧ BF ≠ lm ∧ BN ≠ BO ∧ BN ≠ lm ∧ BO ≠ lm
theorem WkS.bel {w w' : World} {BL BF BN BO lm base : Nat} {nv : Value} {l : List Nat} (h : WkS w BL BF BN BO lm base nv l) (hb : Below w.heap.size w w') : WkS w' BL BF BN BO lm base nv l := by
  obtain ⟨h1, h2, h3, ⟨v, h4, h5⟩, ⟨n, S, h6, h7, h8⟩⟩ := h
  exact ⟨obj_in hb h1, obj_in hb h2, obj_in hb h3, ⟨v, obj_in hb h4, ownN_row h5 fun c o ho _ => obj_in hb ho⟩, ⟨n, S, h6.heap fun o ho => obj_in hb ho, h7, h8⟩⟩
def WkRet (n0 BL BF BN BO lm base : Nat) (nv : Value) (w : World) (l : List Nat) (e : Ending) (w' : World) : Prop :=
  (∃ v, e = .returned v) ∧ Below n0 w w' ∧ WkS w' BL BF BN BO lm base nv l
theorem wk_done {n0 BL BF BN BO lm base : Nat} (hD : WkD n0 BL BF BN BO lm base) {W w3 w4 : World} {nv v v4 : Value} {l : List Nat} {p : Nat} {S S' : Value → Bool} {k : Nat} {o : Obj} (h : WkS W BL BF BN BO lm base nv l) (hb : W.heap[BO]? = some (.cells #[v] 23 (0, 0))) (hown : OwnN W base v l) (hbs : base ≤ W.heap.size) (hk : k ≤ l.length)
    (hS : ∀ q : Nat, S (.int .i64 (q : Int)) = decide (q ∈ l)) (hm : FunB Tryz.prog 3 4 w3 lm (k + 1) S') (hS' : S' (.int .i64 (p : Int)) = true) (ho : ∀ j, j ≠ .int .i64 (p : Int) → S' j = S j) (hg3 : W.grownBy w3 (some lm))
    (hown4 : w4.ownsRow base 3 1 v4 (l.length + 1) (natsV l ++ [.int .i64 (p : Int)])) (hg4 : (w3.alloc o).grownBy w4 v.ownBlock) :
    WkS (w4.setCell ⟨BO, 0, none⟩ v4) BL BF BN BO lm base nv (l ++ [p]) ∧ Below n0 W (w4.setCell ⟨BO, 0, none⟩ v4) := by
  obtain ⟨l1, l2, l3, l4, l5⟩ := hD.lo
  obtain ⟨u1, u2, u3, u4, u5⟩ := hD.hi
  obtain ⟨n1, n2, n3, n4, n5, n6, n7, n8, n9, n10⟩ := hD.ne
  have hvb : ∀ c, c < base → some c ≠ v.ownBlock := fun c hc e => by
    have := World.ownsRow.lt hown c e.symm
    omega
  have hs3 := hg3.size
  have hk3 : ∀ (c : Nat) (ob : Obj), W.heap[c]? = some ob → c < base → c ≠ lm → w4.heap[c]? = some ob := fun c ob hc hlt hne => by
    have h1 := (hg3.block c (Array.getElem?_eq_some_iff.1 hc).1 (fun e => hne (by injection e))).trans hc
    have h2 := (World.grownBy_alloc w3 o none).block c (Array.getElem?_eq_some_iff.1 h1).1 (by simp)
    exact (hg4.block c (by simp; omega) (hvb c hlt)).trans (h2.trans h1)
  have hl4 : ∀ ob, w3.heap[lm]? = some ob → (w4.setCell ⟨BO, 0, none⟩ v4).heap[lm]? = some ob := fun ob hc => by
    have h2 := (World.grownBy_alloc w3 o none).block lm (Array.getElem?_eq_some_iff.1 hc).1 (by simp)
    exact obj_neD _ (Ne.symm n10) ((hg4.block lm (by simp; omega) (hvb lm u5)).trans (h2.trans hc))
  refine ⟨⟨obj_neD _ n3 (hk3 _ _ h.lb u1 n4), obj_neD _ n6 (hk3 _ _ h.fb u2 n7), obj_neD _ n8 (hk3 _ _ h.nb u3 n9), ⟨v4, obj_setD _ (hk3 _ _ hb u4 n10), ?_⟩, ⟨k + 1, S', hm.heap hl4, by rw [List.length_append, List.length_singleton]; omega, fun q => ?_⟩⟩, ?_⟩
  · have e : natsV (l ++ [p]) = natsV l ++ [.int .i64 (p : Int)] := natsV_app l [p]
    have hrow : OwnN w4 base v4 (l ++ [p]) := by
      show w4.ownsRow base 3 1 v4 (l ++ [p]).length (natsV (l ++ [p]))
      rw [e, List.length_append]
      exact hown4
    refine ownN_row hrow fun c ob hc hv => obj_neD _ (fun e => ?_) hc
    have := (World.ownsRow.lt hown4 c hv).1
    omega
  · by_cases hq : q = p
    · subst hq
      rw [hS', decide_eq_true (by simp)]
    · rw [ho _ (fun e => hq (by injection e with _ e2; omega)), hS q]
      congr 1
      simp [hq]
  · have b1 : Below n0 W w3 := (Below.refl _ W).grown hg3 (by omega) (fun k hk => by injection hk with hk; omega)
    have b2 : Below n0 W (w3.alloc o) := b1.alloc (by omega) o
    have b3 := b2.grown hg4 (by simp; omega) (fun k hk => by have := World.ownsRow.lt hown k hk; omega)
    exact b3.setCell (p := ⟨BO, 0, none⟩) l4 _
theorem box1f {W : World} {b : Nat} {x : Value} {e : TypeId} (h : W.heap[b]? = some (.cells #[x] e (0, 0))) : W.frozen? ⟨b, 0, none⟩ = false := by
  simp [World.frozen?, h]
set_option maxRecDepth 100000 in
set_option maxHeartbeats 6400000 in
theorem walk1_any {N : List (Nat × Nat × Nat)} (hN : Good N) (hl : N.length ≤ 2000000) (n0 BL BF BN BO lm base : Nat) (hD : WkD n0 BL BF BN BO lm base) (ad : Option Addr) (cap : Nat) : ∀ (K p : Nat), p < K → p < N.length + 2 → ∀ (l : List Nat) (w : World), Ordr3 N l → base ≤ w.heap.size → WkS w BL BF BN BO lm base (.slice ad N.length cap) l → InD n0 w ad (N.map z3) →
    Calls Tryz.prog 108 #[.int .i64 (p : Int), .pointer (some ⟨BL, 0, none⟩), .pointer (some ⟨BF, 0, none⟩), .pointer (some ⟨BN, 0, none⟩), .pointer (some ⟨BO, 0, none⟩)] w (WkRet n0 BL BF BN BO lm base (.slice ad N.length cap) w (dfs3 N (p + 1) p l)) := by
  intro K
  induction K with
  | zero => intro p h; omega
  | succ K ih =>
    intro p hpK hp l w ho hbs hs hi
    obtain ⟨i0, hi0, hz0, hz1, hz2⟩ := info_parts Tryz.infoI
    have hoN := dfs3_ordr hN (p + 1) p l (Nat.lt_succ_self p) hp ho
    have hll := ordr3_len hoN
    have hl0 := ordr3_len ho
    have HS := Lib.hid hs
    obtain ⟨h1, h2, h3, ⟨v, h4, h5⟩, ⟨n, S, h6, h7, h8⟩⟩ := hs
    have c1 := box1 h1
    have c2 := box1 h2
    unfold fromV at c2
    have c3 := box1 h3
    have hS := h8 p
    rcases Nat.lt_or_ge p 2 with hp2 | hp2
    · have f0 : decide ((p : Int) < 2) = true := decide_eq_true (by omega)
      have e : dfs3 N (p + 1) p l = l := by rw [dfs3, if_pos (.inl hp2)]
      rw [e]
      clear h1 h2 h3 h4 h5 h6 h7 h8 hS ih
      go_enter Tryz.func108, Tryz.ntmps108
      go_wp2
      go_end0
      exact ⟨⟨_, rfl⟩, Below.refl _ _, HS.out⟩
    · have f0 : decide ((p : Int) < 2) = false := decide_eq_false (by omega)
      by_cases hm : p ∈ l
      · have e : dfs3 N (p + 1) p l = l := by rw [dfs3, if_pos (.inr hm)]
        rw [e]
        have hrun : (Instr.lookup 160 (.map (some lm)) (.int .i64 (p : Int)) false).run Tryz.prog w = .ok (.bool true) w := by
          have := funB_run (t := 160) (w := w) keyedI Tryz.underlying160 Tryz.underlying4 (by rfl) h6 (key_i (z := (p : Int)) (wf_nat (by omega)))
          rw [hS, decide_eq_true hm] at this
          exact this
        clear h1 h2 h3 h4 h5 h6 h7 h8 hS ih
        go_enter Tryz.func108, Tryz.ntmps108
        go_wp2
        go_end0
        exact ⟨⟨_, rfl⟩, Below.refl _ _, HS.out⟩
      · have hrun : (Instr.lookup 160 (.map (some lm)) (.int .i64 (p : Int)) false).run Tryz.prog w = .ok (.bool false) w := by
          have := funB_run (t := 160) (w := w) keyedI Tryz.underlying160 Tryz.underlying4 (by rfl) h6 (key_i (z := (p : Int)) (wf_nat (by omega)))
          rw [hS, decide_eq_false hm] at this
          exact this
        obtain ⟨a1, a2, _⟩ := node3_ok hN hp hp2
        have e : dfs3 N (p + 1) p l = dfs3 N ((node3 N p).2.2 + 1) (node3 N p).2.2 (dfs3 N ((node3 N p).2.1 + 1) (node3 N p).2.1 l) ++ [p] := by
          rw [dfs3, if_neg (fun h => h.elim (fun h => by omega) hm), dfs3_fuel hN p ((node3 N p).2.1 + 1) (node3 N p).2.1 l (by omega) (by omega) (by omega), dfs3_fuel hN p ((node3 N p).2.2 + 1) (node3 N p).2.2 _ (by omega) (by omega) (by omega)]
        have ho1 := dfs3_ordr hN ((node3 N p).2.1 + 1) (node3 N p).2.1 l (Nat.lt_succ_self _) (by omega) ho
        have hoN2 := hoN.2
        rw [e] at hoN2 hll ⊢
        have hpn := (List.nodup_append.1 hoN2).2.2
        obtain ⟨g, off, hadd, hg, hcs⟩ := hi (by rw [List.length_map]; omega)
        cases hadd
        obtain ⟨x0, x1, x2⟩ := hcs (p - 2) (z3 (node3 N p)) (by rw [List.getElem?_map, node3_some hp hp2]; rfl)
        dsimp only [z3] at x0 x1 x2
        obtain ⟨xn, hxn⟩ : ∃ xn, (node3 N p).2.1 = xn := ⟨_, rfl⟩
        obtain ⟨xy, hxy⟩ : ∃ xy, (node3 N p).2.2 = xy := ⟨_, rfl⟩
        rw [hxn] at x1 a1 ho1
        rw [hxy] at x2 a2
        rw [hxn, hxy] at hpn hll ⊢
        have HI := Lib.hid hi
        have HO0 := Lib.hid ho
        have HX2 := Lib.hid x2
        have HIH := Lib.hid ih
        have HO1 := Lib.hid ho1
        have HO2 := Lib.hid (dfs3_ordr hN (xy + 1) xy _ (Nat.lt_succ_self _) (by omega) ho1)
        have HPN := Lib.hid hpn
        have HD := Lib.hid hD
        have HM := Lib.hid hm
        obtain ⟨l1, hl1⟩ : ∃ l1, dfs3 N (xn + 1) xn l = l1 := ⟨_, rfl⟩
        obtain ⟨l2, hl2⟩ : ∃ l2, dfs3 N (xy + 1) xy l1 = l2 := ⟨_, rfl⟩
        rw [hl1] at HO1 HO2 HPN hll ⊢
        rw [hl2] at HO2 HPN hll ⊢
        rw [List.length_append, List.length_singleton] at hll
        obtain ⟨q, hqe⟩ : ∃ q, p - 2 = q := ⟨_, rfl⟩
        rw [hqe] at x0 x1 x2 HX2
        have hq : ((p : Int) - 2) = (q : Int) := by omega
        have hib : (0 ≤ (q : Int) ∧ (q : Int) < (N.length : Int)) := ⟨by omega, by omega⟩
        have HL1 := Lib.hid hl1
        have HXY := Lib.hid hxy
        have HL2 := Lib.hid hl2
        clear h1 h2 h3 h4 h5 h6 h7 h8 hS hm e ho ho1 hoN hoN2 hpn hi hcs x0 x2 hxn hxy ih hl1 hl2 hD
        go_enter Tryz.func108, Tryz.ntmps108
        go_wp2_with fail
        refine wp_region_belT 7 (by kernel_rfl) (by kernel_rfl) ?_
        simp only [List.take_succ_cons, List.take_zero, List.drop_succ_cons, List.drop_zero]
        repeat (go_big_quiet_step (fail))
        refine wpQuiet_nil ?_
        rintro _ ⟨z, rfl⟩
        go_wp2_with fail
        have hbz : Below w.heap.size w z.w := z.below
        have hsz := hbz.size
        have hwb := HD.out.lo
        have hwh := HD.out.hi
        have e1 := HL1.out
        refine (HIH.out xn (by omega) (by omega) l _ HO0.out (by omega) (HS.out.bel hbz) (HI.out.of (hbz.mono (by omega)))).mono ?_
        rintro _ W1 ⟨⟨u1, rfl⟩, hb1, hs1⟩
        rw [e1] at hs1
        have hi1 := HI.out.of ((hbz.mono (show n0 ≤ w.heap.size by omega)).trans hb1)
        have HB1 := Lib.hid ((hbz.mono (show n0 ≤ w.heap.size by omega)).trans hb1)
        have hsz1 := hb1.size
        have HS1 := Lib.hid hs1
        have HI1 := Lib.hid hi1
        obtain ⟨g', off', hadd, _, hcs1⟩ := hi1 (by rw [List.length_map]; omega)
        cases hadd
        obtain ⟨-, -, x2⟩ := hcs1 q (z3 (node3 N p)) (by rw [List.getElem?_map, ← hqe, node3_some hp hp2]; rfl)
        dsimp only [z3] at x2
        rw [HXY.out] at x2
        have c1 := box1 hs1.lb
        have c2 := box1 hs1.fb
        unfold fromV at c2
        have c3 := box1 hs1.nb
        have hszz : w.heap.size ≤ W1.heap.size := by omega
        clear hb1 hs1 hi1 hbz hcs1 hsz hsz1 z e1 hrun HX2 HI HS x1
        dsimp only
        go_wp2_with fail
        refine wp_region_belT 7 (by kernel_rfl) (by kernel_rfl) ?_
        simp only [List.take_succ_cons, List.take_zero, List.drop_succ_cons, List.drop_zero]
        repeat (go_big_quiet_step (fail))
        refine wpQuiet_nil ?_
        rintro _ ⟨z, rfl⟩
        go_wp2_with fail
        have hbz : Below W1.heap.size W1 z.w := z.below
        have hsz2 := hbz.size
        have e2 := HL2.out
        refine (HIH.out xy (by omega) (by omega) l1 _ HO1.out (by omega) (HS1.out.bel hbz) (HI1.out.of (hbz.mono (by omega)))).mono ?_
        rintro _ W2 ⟨⟨u2, rfl⟩, hb2, hs2⟩
        rw [e2] at hs2
        have HB2 := Lib.hid (HB1.out.trans ((hbz.mono (show n0 ≤ W1.heap.size by omega)).trans hb2))
        have hsz3 := hb2.size
        have HS2 := Lib.hid hs2
        obtain ⟨s1, s2, s3, ⟨v2, s4, s5⟩, ⟨k2, S2, s6, s7, s8⟩⟩ := hs2
        have c1 := box1 s1
        have HM2 := Lib.hid s6
        have HB4 := Lib.hid s4
        have HO4 := Lib.hid s5
        have HS8 := Lib.hid s8
        have hbs2 : base ≤ W2.heap.size := by omega
        have hszy : W1.heap.size ≤ W2.heap.size := by omega
        clear hb2 hbz hsz2 hsz3 z e2 x2 HS1 HI1 s1 s2 s3 s4 s5 s6 s8 HIH c2 c3
        dsimp only
        go_wp2_with (first | (at_mapUpdate; (refine wpList_update_funB _ rfl _ _ _ _ rfl 3 4 keyedI Tryz.underlying160 Tryz.underlying4 lm k2 S2 rfl HM2.out (by unfold maxLen; omega) (.int .i64 (p : Int)) _ rfl (key_i (wf_nat (by omega))) rfl ?_; intro w3 S3 hm3 hz3 ho3 hg3; have HM3 := Lib.hid hm3; have HH3 := Lib.hid (And.intro hz3 ho3); have HG3 := Lib.hid hg3; have hs3 := hg3.size; have HB5 := Lib.hid ((hg3.block BO (Array.getElem?_eq_some_iff.1 HB4.out).1 (fun e => by injection e with e; have := HD.out.ne; omega)).trans HB4.out); have HO5 := Lib.hid (show w3.ownsRow base 3 1 v2 l2.length (natsV l2) from ownN_row HO4.out fun c o ho hv => (hg3.block c (Array.getElem?_eq_some_iff.1 ho).1 (fun e => by injection e with e; have := (World.ownsRow.lt HO4.out c hv).1; omega)).trans ho); have c5 := box1 HB5.out; clear hm3 hz3 ho3 hg3)) | (at_builtin; refine wpList_append_own _ rfl _ _ 23 rfl base 3 i0 (.int .i64 0) 1 8 Tryz.underlying23 hi0 hz0 hz1 hz2 rfl (by decide) v2 l2.length (natsV l2) rfl (World.ownsRow.alloc (HO5.out) _) ⟨w3.heap.size, 0, none⟩ 1 1 [.int .i64 (p : Int)] rfl rfl (cell_one_new _ _ _) (by simp [Value.oneCell']) (by unfold maxLen; omega) (by omega) (by simp; omega) ?_; intro v4 w4 hown4 hgrow4 hnil4; clear hnil4; obtain ⟨g4, cap4, rfl⟩ := ownsRow_succ hown4; have HN4 := Lib.hid hown4; have HG4 := Lib.hid hgrow4; have hne4 : some BO ≠ v2.ownBlock := (fun e => by have := World.ownsRow.lt HO5.out BO e.symm; have := HD.out.hi; omega); have c6 := hgrow4.cell (cell_in ((Below.refl w3.heap.size w3).alloc (Nat.le_refl _) (.cells #[.int .i64 (p : Int)] 3 (0, 0))) c5) hne4; have c7 : w4.frozen? ⟨BO, 0, none⟩ = false := ((hgrow4.frozen_far _ (World.block_lt_of_cell? _ _ (cell_in ((Below.refl w3.heap.size w3).alloc (Nat.le_refl _) (.cells #[.int .i64 (p : Int)] 3 (0, 0))) c5)) hne4).trans (frozen_in ((Below.refl w3.heap.size w3).alloc (Nat.le_refl _) _) c5)).trans (box1f HB5.out); clear hown4 hgrow4))
        go_wp2
        go_end0
        obtain ⟨r1, r2⟩ := wk_done HD.out HS2.out HB4.out HO4.out hbs2 s7 HS8.out HM3.out HH3.out.1 HH3.out.2 HG3.out HN4.out HG4.out
        exact ⟨⟨_, rfl⟩, HB2.out.trans r2, r1⟩
theorem ownN_le {w : World} {b b' : Nat} {v : Value} {l : List Nat} (h : OwnN w b v l) (hb : b' ≤ b) : OwnN w b' v l := by
  rcases h with ⟨hxl, ⟨e1, e2⟩ | ⟨g, cap, cur, e1, hg, hh, hn, hc, hcs, hcur⟩⟩
  · exact ⟨hxl, .inl ⟨e1, e2⟩⟩
  · exact ⟨hxl, .inr ⟨g, cap, cur, e1, Nat.le_trans hb hg, hh, hn, hc, hcs, hcur⟩⟩
set_option maxRecDepth 100000 in
set_option maxHeartbeats 6400000 in
theorem walk_any {N : List (Nat × Nat × Nat)} (hN : Good N) (hl : N.length ≤ 2000000) (r : Nat) (hr : r < N.length + 2) (ad : Option Addr) (cap : Nat) (w : World) (hi : InD w.heap.size w ad (N.map z3)) :
    Calls Tryz.prog 96 #[.slice ad N.length cap, .int .i64 (r : Int)] w (fun e w' => ∃ v, e = .returned v ∧ OwnN w' w.heap.size v (dfs3 N (r + 1) r []) ∧ Below w.heap.size w w') := by
  have HI := Lib.hid hi
  clear hi
  have hmm := @run_makeMap Tryz.prog
  go_enter Tryz.func96, Tryz.ntmps96
  go_wp2_with fail
  have hst : WkS (((((w.alloc (.cells #[.slice ad N.length cap] 61 (0, 0))).alloc (.cells #[.slice none 0 0] 23 (0, 0))).alloc (.map #[] 0)).alloc (.cells #[.map (some (w.heap.size + 1 + 1))] 160 (0, 0))).alloc (.cells #[fromV (w.heap.size + 1 + 1 + 1) (w.heap.size + 1 + 1 + 1 + 1) w.heap.size (w.heap.size + 1)] 161 (0, 0)))
      (w.heap.size + 1 + 1 + 1) (w.heap.size + 1 + 1 + 1 + 1) w.heap.size (w.heap.size + 1) (w.heap.size + 1 + 1) (w.heap.size + 5) (.slice ad N.length cap) [] := by
    have a0 := World.alloc_heap_new w (.cells #[.slice ad N.length cap] 61 (0, 0))
    obtain ⟨w1, e1⟩ : ∃ w1, w.alloc (.cells #[.slice ad N.length cap] 61 (0, 0)) = w1 := ⟨_, rfl⟩
    have s1 : w1.heap.size = w.heap.size + 1 := by rw [← e1, World.size_alloc]
    rw [e1] at a0 ⊢
    have a1 := World.alloc_heap_new w1 (.cells #[.slice none 0 0] 23 (0, 0))
    have b0 := obj_alloc (.cells #[.slice none 0 0] 23 (0, 0)) a0
    obtain ⟨w2, e2⟩ : ∃ w2, w1.alloc (.cells #[.slice none 0 0] 23 (0, 0)) = w2 := ⟨_, rfl⟩
    have s2 : w2.heap.size = w.heap.size + 1 + 1 := by rw [← e2, World.size_alloc, s1]
    rw [s1] at a1
    rw [e2] at a1 b0 ⊢
    have hm := funB_made w2 Tryz.prog 3 4
    have c0 := obj_alloc (.map #[] 0) b0
    have c1 := obj_alloc (.map #[] 0) a1
    obtain ⟨w3, e3⟩ : ∃ w3, w2.alloc (.map #[] 0) = w3 := ⟨_, rfl⟩
    have s3 : w3.heap.size = w.heap.size + 1 + 1 + 1 := by rw [← e3, World.size_alloc, s2]
    rw [s2] at hm
    rw [e3] at hm c0 c1 ⊢
    have d2 := World.alloc_heap_new w3 (.cells #[.map (some (w.heap.size + 1 + 1))] 160 (0, 0))
    have d0 := obj_alloc (.cells #[.map (some (w.heap.size + 1 + 1))] 160 (0, 0)) c0
    have d1 := obj_alloc (.cells #[.map (some (w.heap.size + 1 + 1))] 160 (0, 0)) c1
    have hm1 := hm.heap (w' := w3.alloc (.cells #[.map (some (w.heap.size + 1 + 1))] 160 (0, 0))) fun o ho => obj_alloc _ ho
    obtain ⟨w4, e4⟩ : ∃ w4, w3.alloc (.cells #[.map (some (w.heap.size + 1 + 1))] 160 (0, 0)) = w4 := ⟨_, rfl⟩
    have s4 : w4.heap.size = w.heap.size + 1 + 1 + 1 + 1 := by rw [← e4, World.size_alloc, s3]
    rw [s3] at d2
    rw [e4] at d0 d1 d2 hm1 ⊢
    have f3 := World.alloc_heap_new w4 (.cells #[fromV (w.heap.size + 1 + 1 + 1) (w.heap.size + 1 + 1 + 1 + 1) w.heap.size (w.heap.size + 1)] 161 (0, 0))
    rw [s4] at f3
    exact ⟨obj_alloc _ d2, f3, obj_alloc _ d0, ⟨.slice none 0 0, obj_alloc _ d1, ⟨rfl, .inl ⟨rfl, rfl⟩⟩⟩, ⟨0, fun _ => false, hm1.heap fun o ho => obj_alloc _ ho, Nat.le_refl _, fun p => by simp⟩⟩
  refine (walk1_any hN hl w.heap.size (w.heap.size + 1 + 1 + 1) (w.heap.size + 1 + 1 + 1 + 1) w.heap.size (w.heap.size + 1) (w.heap.size + 1 + 1) (w.heap.size + 5) ⟨by omega, by omega, by omega⟩ ad cap (r + 1) r (by omega) hr [] _ (ordr3_nil N) (by simp) hst (HI.out.of (by (repeat' (first | (with_reducible first | apply Zl1 | apply Zl2 | apply Zl3 | apply Zl4 | apply Zl5 | apply Zl6 | apply Zl7 | apply Zl8 | apply Zl9 | apply Zla | apply Zlb | apply Zlc) | (dsimp only; with_reducible first | apply Zl8 | apply Zl2 | apply Zld) | with_reducible assumption | omega | (dsimp only; omega)))))).mono ?_
  rintro _ W1 ⟨⟨u1, rfl⟩, hb1, hs1⟩
  obtain ⟨s1, s2, s3, ⟨v2, s4, s5⟩, -⟩ := hs1
  have c4 := box1 s4
  have HV := Lib.hid (ownN_le (b' := w.heap.size) s5 (by omega))
  have HB1 := Lib.hid ((show Below w.heap.size w _ from by (repeat' (first | (with_reducible first | apply Zl1 | apply Zl2 | apply Zl3 | apply Zl4 | apply Zl5 | apply Zl6 | apply Zl7 | apply Zl8 | apply Zl9 | apply Zla | apply Zlb | apply Zlc) | (dsimp only; with_reducible first | apply Zl8 | apply Zl2 | apply Zld) | with_reducible assumption | omega | (dsimp only; omega)))).trans hb1)
  clear hst hb1 s1 s2 s3 s4 s5
  dsimp only
  go_wp2
  refine bodyPost_ret (v := v2) (by simp [results, Tryz.results96, go_sem]) rfl ⟨v2, rfl, HV.out, HB1.out⟩
end Go.Proofs.YtlnedapimmabdaaGreatDoor

namespace Go.Proofs.YtlnedapimmabdaaGreatDoor
set_option linter.unusedVariables false
set_option linter.unusedSimpArgs false
open Go.RowKit Go.Maps
attribute [local go_sem low] Bel.cell Bel.frozen alloc_cell alloc_frozen
attribute [local go_sem] calmOp chainOp yieldsC grows
variable {rk : Nat → Nat}

def RetDg (M : List (Nat × Nat × Nat)) (r : Nat) (w : World) (e : Ending) (w' : World) : Prop :=
  ∃ ad c, e = .returned (.tuple #[.agg #[.slice ad M.length c, .int .i64 (r : Int)], .int .i64 0]) ∧ InD w'.heap.size w' ad (M.map z3) ∧ (∀ g off k, ad = some ⟨g, off, k⟩ → w.heap.size ≤ g) ∧ Below w.heap.size w w'
theorem ownD_fresh {w : World} {base : Nat} {e : TypeId} {a : Option Addr} {n c : Nat} {N : List (Nat × Nat × Nat)} (h : OwnD w base e (.slice a n c) N) : ∀ g off k, a = some ⟨g, off, k⟩ → base ≤ g := fun g off k ha => by
  subst ha
  rcases h with ⟨hxl, ⟨e1, e2⟩ | ⟨g', cap, cur, e1, hg, hh, hn, hc, hcs, hcur⟩⟩
  · cases e1
  · injection e1 with e1 _ _
    injection e1 with e1
    injection e1 with e1 _ _
    omega
theorem OwnN.bel {w w' : World} {b : Nat} {v : Value} {l : List Nat} (h : OwnN w b v l) (hb : Below w.heap.size w w') : OwnN w' b v l := ownN_row h fun c o ho _ => obj_in hb ho
theorem relab3_at {N : List (Nat × Nat × Nat)} {l : List Nat} {k q : Nat} (h : l[k]? = some q) : (relab3 N l)[k]? = some ((node3 N q).1, at3 l (node3 N q).2.1, at3 l (node3 N q).2.2) := by
  unfold relab3
  rw [List.getElem?_map, h]
  rfl
theorem relab3_len (N : List (Nat × Nat × Nat)) (l : List Nat) : (relab3 N l).length = l.length := List.length_map ..
theorem ownN_sl {w : World} {b : Nat} {v : Value} {l : List Nat} (h : OwnN w b v l) : ∃ a c, v = .slice a l.length c ∧ ∀ (j p : Nat), l[j]? = some p → ∃ g, a = some ⟨g, 0, none⟩ ∧ b ≤ g ∧ g < w.heap.size ∧ w.cell? ⟨g, j, none⟩ = some (.int .i64 (p : Int)) := by
  rcases Nat.lt_or_ge 0 l.length with h0 | h0
  · obtain ⟨g, c, e, hg, hs, hc⟩ := ownN_val h h0
    exact ⟨_, c, e, fun j p hj => ⟨g, rfl, hg, hs, hc j p hj⟩⟩
  · have hnil : l = [] := List.length_eq_zero_iff.1 (by omega)
    subst hnil
    rcases h with ⟨hxl, ⟨e1, e2⟩ | ⟨g, cap, cur, e1, hg, hh, hn, hc, hcs, hcur⟩⟩
    · exact ⟨_, _, e1, fun j p hj => by simp at hj⟩
    · exact ⟨_, _, e1, fun j p hj => by simp at hj⟩
section
variable {P : Program} (w : World) {ops : Array Oper} {rest : List Oper} {o : Oper} {a : Act} {Q : Exit → Act → World → Prop}
theorem wpList_insert_funM (hg : o.guard = none) (mo x v : Operand) (t : TypeId) (hop : o.op = Op.insert t mo x v) (k e : TypeId) (K : Keyed P k) (ht : P.underlying t = some (.map k e)) (he : P.underlying e = some (.int .i64))
    (b n : Nat) (m : Value → Option Int) (hm : a.eval mo = .map (some b)) (hown : FunM P k e w b n m) (hn : n < maxLen) (key : Value) (kl : Lit) (hx : a.eval x = key) (hkey : keyOf P k key = some kl) (z : Int) (hv : a.eval v = .int .i64 z) (hwz : (Lit.int .i64 z).wf = true)
    (hK : ∀ w' m', FunM P k e w' b (n + 1) m' → m' key = some z → (∀ j, j ≠ key → m' j = m j) → w.grownBy w' (some b) → wpList P ops Q rest (a.put o.dst undef) w') : wpList P ops Q (o :: rest) a w := by
  obtain ⟨D, hD, hat⟩ := hown
  refine wpList_plain hg fun K' hK' => ?_
  obtain ⟨w', hrun, h1, h2⟩ := hD.update K ht hn hkey (plainElem_int (H := Unit) he hwz)
  unfold Oper.wp
  simp [execOp, hop, hm, hx, hv, hrun, Result.andThen]
  refine hK' _ _ ?_
  classical
  refine hK w' (fun j => if j = key then some z else m j) ⟨_, h1, fun j jl hj => ?_⟩ (if_pos rfl) (fun j hj => if_neg hj) h2
  by_cases h : j = key
  · subst h
    rw [hkey] at hj
    cases hj
    rw [atKey_put_same hD.isMap (K.key hkey), has_put_same hD.isMap (K.key hkey)]
    dsimp only
    rw [if_pos rfl]
    exact ⟨rfl, rfl⟩
  · have hne : jl ≠ kl := fun e => h (K.inj (e ▸ hj) hkey)
    rw [atKey_put_other hne, has_put_other hne]
    dsimp only
    rw [if_neg h]
    exact hat j jl hj
end
def MapOk (m : Value → Option Int) (l : List Nat) (k : Nat) : Prop := m (.int .i64 0) = some 0 ∧ m (.int .i64 1) = some 1 ∧ ∀ (j q : Nat), j < k → l[j]? = some q → m (.int .i64 (q : Int)) = some ((j + 2 : Nat) : Int)
theorem mapOk_get {m : Value → Option Int} {l : List Nat} {k c : Nat} (h : MapOk m l k) (hn : l.Nodup) (hl : ∀ q ∈ l, 2 ≤ q) (hc : c < 2 ∨ ∃ j, j < k ∧ l[j]? = some c) : (m (.int .i64 (c : Int))).getD 0 = (at3 l c : Nat) := by
  rcases hc with hc | ⟨j, hj, he⟩
  · have e : at3 l c = c := by unfold at3; rw [if_pos hc]
    rw [e]
    have : c = 0 ∨ c = 1 := by omega
    rcases this with rfl | rfl
    · rw [show ((0 : Nat) : Int) = 0 from rfl, h.1]; rfl
    · rw [show ((1 : Nat) : Int) = 1 from rfl, h.2.1]; rfl
  · rw [h.2.2 j c hj he, at3_some hn he (hl c (List.mem_of_getElem? he))]
    rfl
theorem ownD_row {w w' : World} {base : Nat} {e : TypeId} {v : Value} {N : List (Nat × Nat × Nat)} (h : OwnD w base e v N) (hk : ∀ (c : Nat) (o : Obj), w.heap[c]? = some o → v.ownBlock = some c → w'.heap[c]? = some o) : OwnD w' base e v N := by
  rcases h with ⟨hxl, ⟨e1, e2⟩ | ⟨g, cap, cur, e1, hg, hh, hn, hc, hcs, hcur⟩⟩
  · exact ⟨hxl, .inl ⟨e1, e2⟩⟩
  · exact ⟨hxl, .inr ⟨g, cap, cur, e1, hg, hk g _ hh (by rw [e1]; rfl), hn, hc, hcs, hcur⟩⟩
theorem mapOk_next {m m' : Value → Option Int} {l : List Nat} {k q : Nat} (h : MapOk m l k) (hn : l.Nodup) (hq : l[k]? = some q) (h2 : 2 ≤ q) (h1 : m' (.int .i64 (q : Int)) = some ((k : Int) + 2)) (ho : ∀ j, j ≠ .int .i64 (q : Int) → m' j = m j) : MapOk m' l (k + 1) := by
  have hne : ∀ z : Int, z ≠ (q : Int) → m' (.int .i64 z) = m (.int .i64 z) := fun z hz => ho _ fun e => hz (by injection e)
  refine ⟨by rw [hne 0 (by omega)]; exact h.1, by rw [hne 1 (by omega)]; exact h.2.1, fun j q' hj hq' => ?_⟩
  by_cases e : j = k
  · subst e
    rw [hq] at hq'
    injection hq' with hq'
    subst hq'
    rw [h1]
    rfl
  · have hqq : q' ≠ q := fun e2 => by
      subst e2
      exact e ((List.getElem?_inj (List.getElem?_eq_some_iff.1 hq').1 hn).1 (hq'.trans hq.symm))
    rw [hne _ (by omega)]
    exact h.2.2 j q' (by omega) hq'
set_option maxRecDepth 100000 in
set_option maxHeartbeats 6400000 in
theorem result_any {w : World} {b0 B mp md base : Nat} {v : Value} {N : List (Nat × Nat × Nat)} {D : Nat} (h : Bld rk w b0 B mp md base v N D) (p : Nat) (hp : p < N.length + 2) (hl : N.length ≤ 1000000) (hlen : (dfs3 N (p + 1) p []).length ≤ 50000) :
    Calls Tryz.prog 91 #[.pointer (some ⟨B, 0, none⟩), .int .i64 (p : Int)] w (RetDg (relab3 N (dfs3 N (p + 1) p [])) (at3 (dfs3 N (p + 1) p []) p) w) := by
  obtain ⟨i0, hi0, hz0, hz1, hz2⟩ := info_parts Tryz.infoD
  have hg := h.good
  have hO := dfs3_ordr hg (p + 1) p [] (Nat.lt_succ_self p) hp (ordr3_nil N)
  have hPM := (dfs3_closed hg (p + 1) p [] (Nat.lt_succ_self p) hp (closed3_nil N)).2
  have HW := Lib.hid (fun ad cap w' hi => walk_any hg (by omega) p hp ad cap w' hi)
  obtain ⟨ls, hls⟩ : ∃ ls, dfs3 N (p + 1) p [] = ls := ⟨_, rfl⟩
  rw [hls] at hO hPM HW hlen ⊢
  have hd := h.dist
  obtain ⟨b1, b2, b3, b4, b5⟩ := bld_cells h
  obtain ⟨va, vc, rfl, hin⟩ := ownD_in h.own
  have HB := Lib.hid h
  have HO := Lib.hid hO
  have HPM := Lib.hid hPM
  have HIN := Lib.hid hin
  have hmm := @run_makeMap Tryz.prog
  clear h hin hO hls hPM
  go_enter Tryz.func91, Tryz.ntmps91
  go_wp2_with fail
  refine (HW.out va vc _ (show InD _ _ va (N.map z3) from (HIN.out.of (by (repeat' (first | (with_reducible first | apply Zl1 | apply Zl2 | apply Zl3 | apply Zl4 | apply Zl5 | apply Zl6 | apply Zl7 | apply Zl8 | apply Zl9 | apply Zla | apply Zlb | apply Zlc) | (dsimp only; with_reducible first | apply Zl8 | apply Zl2 | apply Zld) | with_reducible assumption | omega | (dsimp only; omega))))).up (by simp))).mono ?_
  rintro _ W1 ⟨lv, rfl, how, hb1⟩
  obtain ⟨la, lc, rfl, hlc⟩ := ownN_sl how
  have HLC := Lib.hid hlc
  have hBR := obj_in hb1 (World.alloc_heap_new w (.cells #[.slice none 0 0, .int .i64 0] 63 (0, 0)))
  have HBR := Lib.hid hBR
  have hbw : Below w.heap.size w W1 := ((Below.refl _ w).alloc (Nat.le_refl _) _).trans (hb1.mono (by simp))
  have HBW := Lib.hid hbw
  have HB1 := Lib.hid (HB.out.bel hbw)
  have hsw : w.heap.size + 1 ≤ W1.heap.size := by have := hb1.size; simpa using this
  have f1 : decide ((50000 : Int) < (ls.length : Int)) = false := decide_eq_false (by omega)
  clear how hlc hb1 hBR hbw b1 b2 b3 b4 b5 HW HIN
  dsimp only
  go_wp2_with (first | (refine wpList_insert_funM _ rfl _ _ _ _ rfl 3 3 keyedI Tryz.underlying157 Tryz.underlying3 W1.heap.size 0 (fun _ => none) rfl (funM_made W1 _ _ _) (by unfold maxLen; omega) (.int .i64 0) _ rfl (key_i (by decide)) 0 rfl (by decide) ?_; intro w2 m2 hm2 hz2' ho2 hg2; have HM2 := Lib.hid hm2; have HH2 := Lib.hid (And.intro hz2' ho2); have HG2 := Lib.hid hg2; have hs2 := hg2.size; rw [World.size_alloc] at hs2; clear hm2 hz2' ho2 hg2) | (refine wpList_insert_funM _ rfl _ _ _ _ rfl 3 3 keyedI Tryz.underlying157 Tryz.underlying3 W1.heap.size 1 m2 rfl HM2.out (by unfold maxLen; omega) (.int .i64 1) _ rfl (key_i (by decide)) 1 rfl (by decide) ?_; intro w3 m3 hm3 hz3' ho3 hg3; have HM3 := Lib.hid hm3; have HH3 := Lib.hid (And.intro hz3' ho3); have HG3 := Lib.hid hg3; have hs3 := hg3.size; clear hm3 hz3' ho3 hg3))
  have HB3 := Lib.hid (show Below W1.heap.size W1 w3 from ((((Below.refl _ W1).alloc (Nat.le_refl _) _).grown HG2.out (by simp) (fun k hk => by injection hk with hk; omega)).grown HG3.out (by omega) (fun k hk => by injection hk with hk; omega)))
  obtain ⟨BO, hBO⟩ : ∃ BO, w3.heap.size = BO := ⟨_, rfl⟩
  have HBO := Lib.hid hBO
  rw [hBO] at hs3 ⊢
  clear hBO
  go_loopw [31] (fun i wr => ∃ (k n : Nat) (m : Value → Option Int) (ov : Value), i = .int .i64 (k : Int) ∧ k ≤ ls.length ∧ FunM Tryz.prog 3 3 wr W1.heap.size n m ∧ n ≤ k + 2 ∧ MapOk m ls k ∧ wr.heap[BO]? = some (.cells #[ov, .int .i64 0] 63 (0, 0)) ∧ OwnD wr (BO + 1) 96 ov ((relab3 N ls).take k) ∧ Below W1.heap.size W1 wr ∧ BO + 1 ≤ wr.heap.size) (fun i _ => ls.length - (intOf i).toNat)
  case atStart =>
    have a0 := World.alloc_heap_new w3 (.cells #[.slice none 0 0, .int .i64 0] 63 (0, 0))
    rw [HBO.out] at a0
    refine ⟨0, 2, m3, .slice none 0 0, rfl, by omega, HM3.out.heap fun o ho => obj_alloc _ ho, Nat.le_refl _, ⟨?_, HH3.out.1, fun j q hj => by omega⟩, a0, ownD_nil _ _ _, HB3.out.alloc (by have := HBO.out; omega) _, by rw [World.size_alloc, HBO.out]; omega⟩
    rw [HH3.out.2 _ (by intro e; injection e with _ e; omega)]
    exact HH2.out.1
  case round =>
    obtain ⟨k, n, m, ov, rfl, hk, hm, hn, hmo, hbox, how, hbe, hsz⟩ := hrel
    have HM := Lib.hid hm
    have HMO := Lib.hid hmo
    have HBX := Lib.hid hbox
    have HOW := Lib.hid how
    have HBE := Lib.hid hbe
    have HBR1 := Lib.hid (HB1.out.bel hbe)
    obtain ⟨c8, c9⟩ : wr.cell? ⟨BO, 0, none⟩ = some ov ∧ wr.frozen? ⟨BO, 0, none⟩ = false := by
      refine ⟨?_, ?_⟩ <;> simp [World.cell?, World.frozen?, hbox]
    have hl2 : ∀ q ∈ ls, 2 ≤ q := fun q hq => by
      obtain ⟨j, hj⟩ := List.mem_iff_getElem?.1 hq
      exact (ordr3_kids hg HO.out hj).1
    have HL2 := Lib.hid hl2
    clear hbe hbox hmo hl2
    rcases Nat.lt_or_ge k ls.length with hkl | hkl
    · obtain ⟨q, hq⟩ : ∃ q, ls[k]? = some q := ⟨_, List.getElem?_eq_getElem hkl⟩
      obtain ⟨q2, qn, kno, kye⟩ := ordr3_kids hg HO.out hq
      have hrn := mapOk_get HMO.out HO.out.2 HL2.out kno
      have hry := mapOk_get HMO.out HO.out.2 HL2.out kye
      have HRK := Lib.hid (relab3_at (N := N) hq)
      obtain ⟨na, hna⟩ : ∃ x, (node3 N q).1 = x := ⟨_, rfl⟩
      obtain ⟨nn, hnn⟩ : ∃ x, (node3 N q).2.1 = x := ⟨_, rfl⟩
      obtain ⟨ny, hny⟩ : ∃ x, (node3 N q).2.2 = x := ⟨_, rfl⟩
      obtain ⟨gl, hla, hgl, hgls, hcl⟩ := HLC.out k q hq
      subst hla
      have hcl' := cell_in HBE.out hcl
      obtain ⟨b1, -⟩ := bld_cells HBR1.out
      obtain ⟨gb, cb, eb, x0, x1, x2⟩ := bld_node HBR1.out qn q2
      injection eb with eb1 eb2 eb3
      subst eb1
      have hkd := node3_ok hg qn q2
      rw [hna, hnn, hny] at hkd
      rw [hnn] at hrn x1
      rw [hny] at hry x2
      rw [hna] at x0
      rw [hna, hnn, hny] at HRK
      obtain ⟨rn, hrn'⟩ : ∃ x, at3 ls nn = x := ⟨_, rfl⟩
      obtain ⟨ry, hry'⟩ : ∃ x, at3 ls ny = x := ⟨_, rfl⟩
      rw [hrn'] at hrn HRK
      rw [hry'] at hry HRK
      obtain ⟨qq, hqq⟩ : ∃ qq, q - 2 = qq := ⟨_, rfl⟩
      rw [hqq] at x0 x1 x2
      have hqi : ((q : Int) - 2) = (qq : Int) := by omega
      have hib : (0 ≤ (qq : Int) ∧ (qq : Int) < (N.length : Int)) := ⟨by omega, by omega⟩
      have hik : (0 ≤ (k : Int) ∧ (k : Int) < (ls.length : Int)) := ⟨by omega, by omega⟩
      have f0 : decide ((k : Int) < (ls.length : Int)) = true := decide_eq_true (by omega)
      have hwn : (Lit.int .i64 (nn : Int)).wf = true := wf_nat (by omega)
      have hwy : (Lit.int .i64 (ny : Int)).wf = true := wf_nat (by omega)
      have hwq : (Lit.int .i64 (q : Int)).wf = true := wf_nat (by omega)
      have hrun1 : ∀ o, (Instr.lookup 157 (.map (some W1.heap.size)) (.int .i64 (nn : Int)) false).run Tryz.prog (wr.alloc o) = .ok (.int .i64 (rn : Int)) (wr.alloc o) := fun o => by
        have := funM_run (t := 157) (w := wr.alloc o) keyedI Tryz.underlying157 Tryz.underlying3 (by rfl) (HM.out.heap fun ob ho => obj_alloc o ho) (key_i hwn)
        rw [hrn] at this
        exact this
      have hrun2 : ∀ o, (Instr.lookup 157 (.map (some W1.heap.size)) (.int .i64 (ny : Int)) false).run Tryz.prog (wr.alloc o) = .ok (.int .i64 (ry : Int)) (wr.alloc o) := fun o => by
        have := funM_run (t := 157) (w := wr.alloc o) keyedI Tryz.underlying157 Tryz.underlying3 (by rfl) (HM.out.heap fun ob ho => obj_alloc o ho) (key_i hwy)
        rw [hry] at this
        exact this
      have HQ := Lib.hid hq
      clear hq kno kye hrn hry hna hnn hny hrn' hry' hcl hwn hwy hkd
      have hsrc : ∀ o1 o2, ((wr.alloc o1).alloc o2).heap[wr.heap.size + 1]? = some o2 := fun o1 o2 => by
        have := World.alloc_heap_new (wr.alloc o1) o2
        rwa [World.size_alloc] at this
      have HAL := Lib.hid (show ∀ o1 o2, Below wr.heap.size wr ((wr.alloc o1).alloc o2) from fun o1 o2 => ((Below.refl _ wr).alloc (Nat.le_refl _) _).alloc (by simp) _)
      have HSRC := Lib.hid hsrc
      have hneB : some BO ≠ ov.ownBlock := fun e => by have := ownD_lt HOW.out e.symm; omega
      have hneM : some W1.heap.size ≠ ov.ownBlock := fun e => by have := ownD_lt HOW.out e.symm; omega
      have hmlt := HM.out.lt
      have htk : ((relab3 N ls).take k).length = k := by rw [List.length_take, relab3_len]; omega
      clear hsrc how hm
      go_wp2_with (first | (at_builtin; refine wpList_appD rfl _ _ 61 96 rfl i0 Tryz.underlying61 hi0 hz0 hz1 hz2 _ (BO + 1) ov ((relab3 N ls).take k) na rn ry (wr.heap.size + 1) rfl (World.ownsRow.alloc (World.ownsRow.alloc (HOW.out) _) _) rfl (HSRC.out _ _) (by omega) (by simp; omega) ?_; intro g1 cp1 w4 hrow4 hg4 hgv4; rw [htk] at hrow4; have HRW := Lib.hid hrow4; have HG4 := Lib.hid hg4; have c8' := hg4.cell (cell_in (HAL.out _ _) c8) hneB; have c9' : w4.frozen? ⟨BO, 0, none⟩ = false := ((hg4.frozen_far _ (World.block_lt_of_cell? _ _ (cell_in (HAL.out _ _) c8)) hneB).trans (frozen_in (HAL.out _ _) c8)).trans c9; have HM4 := Lib.hid (show ∀ u, FunM Tryz.prog 3 3 (w4.setCell ⟨BO, 0, none⟩ u) W1.heap.size n m from fun u => HM.out.heap fun ob ho => obj_neD _ (by omega) ((hg4.block _ (by simp; omega) hneM).trans (obj_in (HAL.out _ _) ho))); have hs4 := hg4.size; simp only [World.size_alloc] at hs4; clear hrow4 hg4 hgv4) | (at_mapUpdate; refine wpList_update_funM _ rfl _ _ _ _ rfl 3 3 keyedI Tryz.underlying157 Tryz.underlying3 W1.heap.size n m rfl (HM4.out _) (by unfold maxLen; omega) (.int .i64 (q : Int)) _ rfl (key_i hwq) ((k : Int) + 2) rfl (wf_i64D ⟨by omega, by omega⟩) ?_; intro w5 m5 hm5 hz5 ho5 hg5; have HM5 := Lib.hid hm5; have HH5 := Lib.hid (And.intro hz5 ho5); have HG5 := Lib.hid hg5; have hs5 := hg5.size; clear hm5 hz5 ho5 hg5))
      have hb4 := (HG4.out.block BO (by simp; omega) hneB).trans (obj_in (HAL.out _ _) HBX.out)
      have HB4 := Lib.hid ((HG5.out.block BO (by simp; omega) (fun e => by injection e; omega)).trans (obj_setD (i := 0) (.slice (some ⟨g1, 0, none⟩) (k + 1) cp1) hb4))
      have HOW5 := Lib.hid (show OwnD w5 (BO + 1) 96 (.slice (some ⟨g1, 0, none⟩) (k + 1) cp1) ((relab3 N ls).take (k + 1)) from by
        have e : (relab3 N ls).take (k + 1) = (relab3 N ls).take k ++ [(na, rn, ry)] := by rw [List.take_add_one, HRK.out]; rfl
        rw [e]
        refine ownD_row (show OwnD w4 _ _ _ _ from HRW.out) fun c o hc hv => ?_
        have := (World.ownsRow.lt HRW.out c hv).1
        have h1 := obj_neD (i := 0) (.slice (some ⟨g1, 0, none⟩) (k + 1) cp1) (show c ≠ BO by omega) hc
        exact (HG5.out.block c (Array.getElem?_eq_some_iff.1 h1).1 (fun e => by injection e; omega)).trans h1)
      have HBE5 := Lib.hid (show Below W1.heap.size W1 w5 from by
        have e1 := HBE.out.trans ((HAL.out (.cells #[.int .i64 (na : Int), .int .i64 (nn : Int), .int .i64 (ny : Int)] 96 (0, 0)) (.cells #[.int .i64 (na : Int), .int .i64 (rn : Int), .int .i64 (ry : Int)] 96 (0, 0))).mono (show W1.heap.size ≤ wr.heap.size by omega))
        have e2 := e1.grown HG4.out (by simp; omega) (fun k hk => by have := ownD_lt HOW.out hk; omega)
        have e3 := e2.setCell (p := ⟨BO, 0, none⟩) (show W1.heap.size ≤ BO by omega) (.slice (some ⟨g1, 0, none⟩) (k + 1) cp1)
        exact e3.grown HG5.out (by simp; omega) (fun k hk => by injection hk with hk; omega))
      have hsz5 : BO + 1 ≤ w5.heap.size := by simp at hs5; omega
      go_roundw
      case rel =>
        refine ⟨_, _, _, _, ⟨k + 1, ?_, by omega, n + 1, m5, HM5.out, by omega, mapOk_next HMO.out HO.out.2 HQ.out q2 HH5.out.1 HH5.out.2, _, HB4.out, HOW5.out, HBE5.out, hsz5⟩, rfl, rfl, rfl, rfl⟩
        congr 1
      case measure => simp [intOf]; omega
    · have hke : k = ls.length := by omega
      subst hke
      have f0 : decide ((ls.length : Int) < (ls.length : Int)) = false := decide_eq_false (by omega)
      have hwp : (Lit.int .i64 (p : Int)).wf = true := wf_nat (by omega)
      have hrp := mapOk_get (c := p) HMO.out HO.out.2 HL2.out (HPM.out.imp_right fun hm => by
        obtain ⟨j, hj⟩ := List.mem_iff_getElem?.1 hm
        exact ⟨j, (List.getElem?_eq_some_iff.1 hj).1, hj⟩)
      obtain ⟨rp, hrp'⟩ : ∃ x, at3 ls p = x := ⟨_, rfl⟩
      rw [hrp'] at hrp
      have HRP := Lib.hid hrp'
      have hrun : (Instr.lookup 157 (.map (some W1.heap.size)) (.int .i64 (p : Int)) false).run Tryz.prog wr = .ok (.int .i64 (rp : Int)) wr := by
        have := funM_run (t := 157) (w := wr) keyedI Tryz.underlying157 Tryz.underlying3 (by rfl) HM.out (key_i hwp)
        rw [hrp] at this
        exact this
      rw [show (relab3 N ls).take ls.length = relab3 N ls from List.take_of_length_le (by rw [relab3_len]; omega)] at how HOW
      obtain ⟨oa, oc, rfl, hio⟩ := ownD_in how
      have hbr := obj_in HBE.out HBR.out
      have hbx := HBX.out
      obtain ⟨c10, c11⟩ : wr.cell? ⟨BO, 1, none⟩ = some (.int .i64 0) ∧ wr.frozen? ⟨BO, 1, none⟩ = false := by
        refine ⟨?_, ?_⟩ <;> simp [World.cell?, World.frozen?, hbx]
      obtain ⟨d0, d1, d2, d3⟩ : wr.cell? ⟨w.heap.size, 0, none⟩ = some (.slice none 0 0) ∧ wr.cell? ⟨w.heap.size, 1, none⟩ = some (.int .i64 0) ∧ wr.frozen? ⟨w.heap.size, 0, none⟩ = false ∧ wr.frozen? ⟨w.heap.size, 1, none⟩ = false := by
        refine ⟨?_, ?_, ?_, ?_⟩ <;> simp [World.cell?, World.frozen?, hbr]
      have hne1 : w.heap.size ≠ BO := by omega
      have hne2 : BO ≠ w.heap.size := by omega
      clear how hm hrp hrp' hio hbr hbx
      go_wp2
      refine bodyPost_ret (v := .tuple #[.agg #[.slice oa (relab3 N ls).length oc, .int .i64 (rp : Int)], .int .i64 0]) (by simp [results, Tryz.results91, go_sem, d0, d1]) rfl ?_
      have hF : OwnD (((wr.setCell ⟨BO, 1, none⟩ (.int .i64 (rp : Int))).setCell ⟨w.heap.size, 0, none⟩ (.slice oa (relab3 N ls).length oc)).setCell ⟨w.heap.size, 1, none⟩ (.int .i64 (rp : Int))) (BO + 1) 96 (.slice oa (relab3 N ls).length oc) (relab3 N ls) := ownD_row HOW.out fun c o hc hv => by
        have := (ownD_lt HOW.out hv).1
        exact obj_neD _ (by omega) (obj_neD _ (by omega) (obj_neD _ (by omega) hc))
      obtain ⟨a', c', e', hi'⟩ := ownD_in hF
      injection e' with e1 _ e3
      subst e1
      refine ⟨_, _, by rw [HRP.out], hi', fun g off k hg => Nat.le_trans (by omega) (ownD_fresh hF g off k hg), ?_⟩
      have e1 := HBW.out.trans (HBE.out.mono (by omega))
      exact ((e1.setCell (p := ⟨BO, 1, none⟩) (by simp; omega) _).setCell (p := ⟨w.heap.size, 0, none⟩) (Nat.le_refl _) _).setCell (p := ⟨w.heap.size, 1, none⟩) (Nat.le_refl _) _
end Go.Proofs.YtlnedapimmabdaaGreatDoor
