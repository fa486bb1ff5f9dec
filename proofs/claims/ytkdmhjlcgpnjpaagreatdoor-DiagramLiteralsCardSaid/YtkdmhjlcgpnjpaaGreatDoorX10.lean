/- The program's walk over a diagram. -/
import Derived.Laws.EntriesVeiled
import Derived.Test.YtkdmhjlcgpnjpaaGreatDoorX8o
import Derived.Test.YtkdmhjlcgpnjpaaGreatDoorXx
namespace Go.Proofs.YtkdmhjlcgpnjpaaGreatDoor
set_option linter.unusedVariables false
set_option linter.unusedSimpArgs false
open Go.RowKit Go.Maps
attribute [local go_sem low] Bel.cell Bel.frozen alloc_cell alloc_frozen
attribute [local go_sem] calmOp chainOp yieldsC grows

/-- The walk's own function. -/
def fromV (BL BF BN BO : Nat) : Value := .func (.func 108) #[] #[.pointer (some ⟨BL, 0, none⟩), .pointer (some ⟨BF, 0, none⟩), .pointer (some ⟨BN, 0, none⟩), .pointer (some ⟨BO, 0, none⟩)]
/-- The state of the walk: what it has left. -/
structure WkS (w : World) (BL BF BN BO lm base : Nat) (nv : Value) (l : List Nat) : Prop where
  lb : w.heap[BL]? = some (.cells #[.map (some lm)] 161 (0, 0))
  fb : w.heap[BF]? = some (.cells #[fromV BL BF BN BO] 162 (0, 0))
  nb : w.heap[BN]? = some (.cells #[nv] 28 (0, 0))
  ob : ∃ v, w.heap[BO]? = some (.cells #[v] 71 (0, 0)) ∧ OwnN w base v l
  mp : ∃ n S, FunB Tryz.prog 3 4 w lm n S ∧ n ≤ l.length ∧ ∀ p : Nat, S (.int .i64 (p : Int)) = decide (p ∈ l)
/-- How the walk's blocks lie. -/
structure WkD (n0 BL BF BN BO lm base : Nat) : Prop where
  lo : n0 ≤ BL ∧ n0 ≤ BF ∧ n0 ≤ BN ∧ n0 ≤ BO ∧ n0 ≤ lm
  hi : BL < base ∧ BF < base ∧ BN < base ∧ BO < base ∧ lm < base
  ne : BL ≠ BF ∧ BL ≠ BN ∧ BL ≠ BO ∧ BL ≠ lm ∧ BF ≠ BN ∧ BF ≠ BO ∧ BF ≠ lm ∧ BN ≠ BO ∧ BN ≠ lm ∧ BO ≠ lm
theorem WkS.bel {w w' : World} {BL BF BN BO lm base : Nat} {nv : Value} {l : List Nat} (h : WkS w BL BF BN BO lm base nv l) (hb : Below w.heap.size w w') : WkS w' BL BF BN BO lm base nv l := by
  obtain ⟨h1, h2, h3, ⟨v, h4, h5⟩, ⟨n, S, h6, h7, h8⟩⟩ := h
  exact ⟨obj_in hb h1, obj_in hb h2, obj_in hb h3, ⟨v, obj_in hb h4, ownN_row h5 fun c o ho _ => obj_in hb ho⟩, ⟨n, S, h6.heap fun o ho => obj_in hb ho, h7, h8⟩⟩
def WkRet (n0 BL BF BN BO lm base : Nat) (nv : Value) (w : World) (l : List Nat) (e : Ending) (w' : World) : Prop :=
  (∃ v, e = .returned v) ∧ Below n0 w w' ∧ WkS w' BL BF BN BO lm base nv l
theorem wk_done {n0 BL BF BN BO lm base : Nat} (hD : WkD n0 BL BF BN BO lm base) {W w3 w4 : World} {nv v v4 : Value} {l : List Nat} {p : Nat} {S S' : Value → Bool} {k : Nat} {o : Obj} (h : WkS W BL BF BN BO lm base nv l) (hb : W.heap[BO]? = some (.cells #[v] 71 (0, 0))) (hown : OwnN W base v l) (hbs : base ≤ W.heap.size) (hk : k ≤ l.length)
    (hS : ∀ q : Nat, S (.int .i64 (q : Int)) = decide (q ∈ l)) (hm : FunB Tryz.prog 3 4 w3 lm (k + 1) S') (hS' : S' (.int .i64 (p : Int)) = true) (ho : ∀ j, j ≠ .int .i64 (p : Int) → S' j = S j) (hg3 : W.grownBy w3 (some lm))
    (hown4 : w4.ownsRow base 3 1 v4 (l.length + 1) (natsV l ++ [.int .i64 (p : Int)])) (hg4 : (w3.alloc o).grownBy w4 v.ownBlock) :
    WkS (w4.setCell ⟨BO, 0, none⟩ v4) BL BF BN BO lm base nv (l ++ [p]) ∧ Below n0 W (w4.setCell ⟨BO, 0, none⟩ v4) := by
  obtain ⟨l1, l2, l3, l4, l5⟩ := hD.lo
  obtain ⟨u1, u2, u3, u4, u5⟩ := hD.hi
  obtain ⟨n1, n2, n3, n4, n5, n6, n7, n8, n9, n10⟩ := hD.ne
  have hvb : ∀ c, c < base → some c ≠ v.ownBlock := fun c hc e => by
    have := World.ownsRow.lt hown c e.symm
    omega
  have hs3 := hg3.size
  have hk3 : ∀ (c : Nat) (ob : Obj), W.heap[c]? = some ob → c < base → c ≠ lm → w4.heap[c]? = some ob := fun c ob hc hlt hne => by
    have h1 := (hg3.block c (Array.getElem?_eq_some_iff.1 hc).1 (fun e => hne (by injection e))).trans hc
    have h2 := (World.grownBy_alloc w3 o none).block c (Array.getElem?_eq_some_iff.1 h1).1 (by simp)
    exact (hg4.block c (by simp; omega) (hvb c hlt)).trans (h2.trans h1)
  have hl4 : ∀ ob, w3.heap[lm]? = some ob → (w4.setCell ⟨BO, 0, none⟩ v4).heap[lm]? = some ob := fun ob hc => by
    have h2 := (World.grownBy_alloc w3 o none).block lm (Array.getElem?_eq_some_iff.1 hc).1 (by simp)
    exact obj_neD _ (Ne.symm n10) ((hg4.block lm (by simp; omega) (hvb lm u5)).trans (h2.trans hc))
  refine ⟨⟨obj_neD _ n3 (hk3 _ _ h.lb u1 n4), obj_neD _ n6 (hk3 _ _ h.fb u2 n7), obj_neD _ n8 (hk3 _ _ h.nb u3 n9), ⟨v4, obj_setD _ (hk3 _ _ hb u4 n10), ?_⟩, ⟨k + 1, S', hm.heap hl4, by rw [List.length_append, List.length_singleton]; omega, fun q => ?_⟩⟩, ?_⟩
  · have e : natsV (l ++ [p]) = natsV l ++ [.int .i64 (p : Int)] := natsV_app l [p]
    have hrow : OwnN w4 base v4 (l ++ [p]) := by
      show w4.ownsRow base 3 1 v4 (l ++ [p]).length (natsV (l ++ [p]))
      rw [e, List.length_append]
      exact hown4
    refine ownN_row hrow fun c ob hc hv => obj_neD _ (fun e => ?_) hc
    have := (World.ownsRow.lt hown4 c hv).1
    omega
  · by_cases hq : q = p
    · subst hq
      rw [hS', decide_eq_true (by simp)]
    · rw [ho _ (fun e => hq (by injection e with _ e2; omega)), hS q]
      congr 1
      simp [hq]
  · have b1 : Below n0 W w3 := (Below.refl _ W).grown hg3 (by omega) (fun k hk => by injection hk with hk; omega)
    have b2 : Below n0 W (w3.alloc o) := b1.alloc (by omega) o
    have b3 := b2.grown hg4 (by simp; omega) (fun k hk => by have := World.ownsRow.lt hown k hk; omega)
    exact b3.setCell (p := ⟨BO, 0, none⟩) l4 _
theorem box1f {W : World} {b : Nat} {x : Value} {e : TypeId} (h : W.heap[b]? = some (.cells #[x] e (0, 0))) : W.frozen? ⟨b, 0, none⟩ = false := by
  simp [World.frozen?, h]
set_option maxRecDepth 100000 in
set_option maxHeartbeats 6400000 in
theorem walk1_any {N : List (Nat × Nat × Nat)} (hN : Good N) (hl : N.length ≤ 2000000) (n0 BL BF BN BO lm base : Nat) (hD : WkD n0 BL BF BN BO lm base) (ad : Option Addr) (cap : Nat) : ∀ (K p : Nat), p < K → p < N.length + 2 → ∀ (l : List Nat) (w : World), Ordr3 N l → base ≤ w.heap.size → WkS w BL BF BN BO lm base (.slice ad N.length cap) l → InD n0 w ad (N.map z3) →
    Calls Tryz.prog 108 #[.int .i64 (p : Int), .pointer (some ⟨BL, 0, none⟩), .pointer (some ⟨BF, 0, none⟩), .pointer (some ⟨BN, 0, none⟩), .pointer (some ⟨BO, 0, none⟩)] w (WkRet n0 BL BF BN BO lm base (.slice ad N.length cap) w (dfs3 N (p + 1) p l)) := by
  intro K
  induction K with
  | zero => intro p h; omega
  | succ K ih =>
    intro p hpK hp l w ho hbs hs hi
    obtain ⟨i0, hi0, hz0, hz1, hz2⟩ := info_parts Tryz.infoI
    have hoN := dfs3_ordr hN (p + 1) p l (Nat.lt_succ_self p) hp ho
    have hll := ordr3_len hoN
    have hl0 := ordr3_len ho
    have HS := Lib.hid hs
    obtain ⟨h1, h2, h3, ⟨v, h4, h5⟩, ⟨n, S, h6, h7, h8⟩⟩ := hs
    have c1 := box1 h1
    have c2 := box1 h2
    unfold fromV at c2
    have c3 := box1 h3
    have hS := h8 p
    rcases Nat.lt_or_ge p 2 with hp2 | hp2
    · have f0 : decide ((p : Int) < 2) = true := decide_eq_true (by omega)
      have e : dfs3 N (p + 1) p l = l := by rw [dfs3, if_pos (.inl hp2)]
      rw [e]
      clear h1 h2 h3 h4 h5 h6 h7 h8 hS ih
      go_enter Tryz.func108, Tryz.ntmps108
      go_wp2
      go_end0
      exact ⟨⟨_, rfl⟩, Below.refl _ _, HS.out⟩
    · have f0 : decide ((p : Int) < 2) = false := decide_eq_false (by omega)
      by_cases hm : p ∈ l
      · have e : dfs3 N (p + 1) p l = l := by rw [dfs3, if_pos (.inr hm)]
        rw [e]
        have hrun : (Instr.lookup 161 (.map (some lm)) (.int .i64 (p : Int)) false).run Tryz.prog w = .ok (.bool true) w := by
          have := funB_run (t := 161) (w := w) keyedI Tryz.underlying161 Tryz.underlying4 (by rfl) h6 (key_i (z := (p : Int)) (wf_nat (by omega)))
          rw [hS, decide_eq_true hm] at this
          exact this
        clear h1 h2 h3 h4 h5 h6 h7 h8 hS ih
        go_enter Tryz.func108, Tryz.ntmps108
        go_wp2
        go_end0
        exact ⟨⟨_, rfl⟩, Below.refl _ _, HS.out⟩
      · have hrun : (Instr.lookup 161 (.map (some lm)) (.int .i64 (p : Int)) false).run Tryz.prog w = .ok (.bool false) w := by
          have := funB_run (t := 161) (w := w) keyedI Tryz.underlying161 Tryz.underlying4 (by rfl) h6 (key_i (z := (p : Int)) (wf_nat (by omega)))
          rw [hS, decide_eq_false hm] at this
          exact this
        obtain ⟨a1, a2, _⟩ := node3_ok hN hp hp2
        have e : dfs3 N (p + 1) p l = dfs3 N ((node3 N p).2.2 + 1) (node3 N p).2.2 (dfs3 N ((node3 N p).2.1 + 1) (node3 N p).2.1 l) ++ [p] := by
          rw [dfs3, if_neg (fun h => h.elim (fun h => by omega) hm), dfs3_fuel hN p ((node3 N p).2.1 + 1) (node3 N p).2.1 l (by omega) (by omega) (by omega), dfs3_fuel hN p ((node3 N p).2.2 + 1) (node3 N p).2.2 _ (by omega) (by omega) (by omega)]
        have ho1 := dfs3_ordr hN ((node3 N p).2.1 + 1) (node3 N p).2.1 l (Nat.lt_succ_self _) (by omega) ho
        have hoN2 := hoN.2
        rw [e] at hoN2 hll ⊢
        have hpn := (List.nodup_append.1 hoN2).2.2
        obtain ⟨g, off, hadd, hg, hcs⟩ := hi (by rw [List.length_map]; omega)
        cases hadd
        obtain ⟨x0, x1, x2⟩ := hcs (p - 2) (z3 (node3 N p)) (by rw [List.getElem?_map, node3_some hp hp2]; rfl)
        dsimp only [z3] at x0 x1 x2
        obtain ⟨xn, hxn⟩ : ∃ xn, (node3 N p).2.1 = xn := ⟨_, rfl⟩
        obtain ⟨xy, hxy⟩ : ∃ xy, (node3 N p).2.2 = xy := ⟨_, rfl⟩
        rw [hxn] at x1 a1 ho1
        rw [hxy] at x2 a2
        rw [hxn, hxy] at hpn hll ⊢
        have HI := Lib.hid hi
        have HO0 := Lib.hid ho
        have HX2 := Lib.hid x2
        have HIH := Lib.hid ih
        have HO1 := Lib.hid ho1
        have HO2 := Lib.hid (dfs3_ordr hN (xy + 1) xy _ (Nat.lt_succ_self _) (by omega) ho1)
        have HPN := Lib.hid hpn
        have HD := Lib.hid hD
        have HM := Lib.hid hm
        obtain ⟨l1, hl1⟩ : ∃ l1, dfs3 N (xn + 1) xn l = l1 := ⟨_, rfl⟩
        obtain ⟨l2, hl2⟩ : ∃ l2, dfs3 N (xy + 1) xy l1 = l2 := ⟨_, rfl⟩
        rw [hl1] at HO1 HO2 HPN hll ⊢
        rw [hl2] at HO2 HPN hll ⊢
        rw [List.length_append, List.length_singleton] at hll
        obtain ⟨q, hqe⟩ : ∃ q, p - 2 = q := ⟨_, rfl⟩
        rw [hqe] at x0 x1 x2 HX2
        have hq : ((p : Int) - 2) = (q : Int) := by omega
        have hib : (0 ≤ (q : Int) ∧ (q : Int) < (N.length : Int)) := ⟨by omega, by omega⟩
        have HL1 := Lib.hid hl1
        have HXY := Lib.hid hxy
        have HL2 := Lib.hid hl2
        clear h1 h2 h3 h4 h5 h6 h7 h8 hS hm e ho ho1 hoN hoN2 hpn hi hcs x0 x2 hxn hxy ih hl1 hl2 hD
        go_enter Tryz.func108, Tryz.ntmps108
        go_wp2_with fail
        refine wp_region_belT 7 (by kernel_rfl) (by kernel_rfl) ?_
        simp only [List.take_succ_cons, List.take_zero, List.drop_succ_cons, List.drop_zero]
        repeat (go_big_quiet_step (fail))
        refine wpQuiet_nil ?_
        rintro _ ⟨z, rfl⟩
        go_wp2_with fail
        have hbz : Below w.heap.size w z.w := z.below
        have hsz := hbz.size
        have hwb := HD.out.lo
        have hwh := HD.out.hi
        have e1 := HL1.out
        refine (HIH.out xn (by omega) (by omega) l _ HO0.out (by omega) (HS.out.bel hbz) (HI.out.of (hbz.mono (by omega)))).mono ?_
        rintro _ W1 ⟨⟨u1, rfl⟩, hb1, hs1⟩
        rw [e1] at hs1
        have hi1 := HI.out.of ((hbz.mono (show n0 ≤ w.heap.size by omega)).trans hb1)
        have HB1 := Lib.hid ((hbz.mono (show n0 ≤ w.heap.size by omega)).trans hb1)
        have hsz1 := hb1.size
        have HS1 := Lib.hid hs1
        have HI1 := Lib.hid hi1
        obtain ⟨g', off', hadd, _, hcs1⟩ := hi1 (by rw [List.length_map]; omega)
        cases hadd
        obtain ⟨-, -, x2⟩ := hcs1 q (z3 (node3 N p)) (by rw [List.getElem?_map, ← hqe, node3_some hp hp2]; rfl)
        dsimp only [z3] at x2
        rw [HXY.out] at x2
        have c1 := box1 hs1.lb
        have c2 := box1 hs1.fb
        unfold fromV at c2
        have c3 := box1 hs1.nb
        have hszz : w.heap.size ≤ W1.heap.size := by omega
        clear hb1 hs1 hi1 hbz hcs1 hsz hsz1 z e1 hrun HX2 HI HS x1
        dsimp only
        go_wp2_with fail
        refine wp_region_belT 7 (by kernel_rfl) (by kernel_rfl) ?_
        simp only [List.take_succ_cons, List.take_zero, List.drop_succ_cons, List.drop_zero]
        repeat (go_big_quiet_step (fail))
        refine wpQuiet_nil ?_
        rintro _ ⟨z, rfl⟩
        go_wp2_with fail
        have hbz : Below W1.heap.size W1 z.w := z.below
        have hsz2 := hbz.size
        have e2 := HL2.out
        refine (HIH.out xy (by omega) (by omega) l1 _ HO1.out (by omega) (HS1.out.bel hbz) (HI1.out.of (hbz.mono (by omega)))).mono ?_
        rintro _ W2 ⟨⟨u2, rfl⟩, hb2, hs2⟩
        rw [e2] at hs2
        have HB2 := Lib.hid (HB1.out.trans ((hbz.mono (show n0 ≤ W1.heap.size by omega)).trans hb2))
        have hsz3 := hb2.size
        have HS2 := Lib.hid hs2
        obtain ⟨s1, s2, s3, ⟨v2, s4, s5⟩, ⟨k2, S2, s6, s7, s8⟩⟩ := hs2
        have c1 := box1 s1
        have HM2 := Lib.hid s6
        have HB4 := Lib.hid s4
        have HO4 := Lib.hid s5
        have HS8 := Lib.hid s8
        have hbs2 : base ≤ W2.heap.size := by omega
        have hszy : W1.heap.size ≤ W2.heap.size := by omega
        clear hb2 hbz hsz2 hsz3 z e2 x2 HS1 HI1 s1 s2 s3 s4 s5 s6 s8 HIH c2 c3
        dsimp only
        go_wp2_with (first | (at_mapUpdate; (refine wpList_update_funB _ rfl _ _ _ _ rfl 3 4 keyedI Tryz.underlying161 Tryz.underlying4 lm k2 S2 rfl HM2.out (by unfold maxLen; omega) (.int .i64 (p : Int)) _ rfl (key_i (wf_nat (by omega))) rfl ?_; intro w3 S3 hm3 hz3 ho3 hg3; have HM3 := Lib.hid hm3; have HH3 := Lib.hid (And.intro hz3 ho3); have HG3 := Lib.hid hg3; have hs3 := hg3.size; have HB5 := Lib.hid ((hg3.block BO (Array.getElem?_eq_some_iff.1 HB4.out).1 (fun e => by injection e with e; have := HD.out.ne; omega)).trans HB4.out); have HO5 := Lib.hid (show w3.ownsRow base 3 1 v2 l2.length (natsV l2) from ownN_row HO4.out fun c o ho hv => (hg3.block c (Array.getElem?_eq_some_iff.1 ho).1 (fun e => by injection e with e; have := (World.ownsRow.lt HO4.out c hv).1; omega)).trans ho); have c5 := box1 HB5.out; clear hm3 hz3 ho3 hg3)) | (at_builtin; refine wpList_append_own _ rfl _ _ 71 rfl base 3 i0 (.int .i64 0) 1 8 Tryz.underlying71 hi0 hz0 hz1 hz2 rfl (by decide) v2 l2.length (natsV l2) rfl (World.ownsRow.alloc (HO5.out) _) ⟨w3.heap.size, 0, none⟩ 1 1 [.int .i64 (p : Int)] rfl rfl (cell_one_new _ _ _) (by simp [Value.oneCell']) (by unfold maxLen; omega) (by omega) (by simp; omega) ?_; intro v4 w4 hown4 hgrow4 hnil4; clear hnil4; obtain ⟨g4, cap4, rfl⟩ := ownsRow_succ hown4; have HN4 := Lib.hid hown4; have HG4 := Lib.hid hgrow4; have hne4 : some BO ≠ v2.ownBlock := (fun e => by have := World.ownsRow.lt HO5.out BO e.symm; have := HD.out.hi; omega); have c6 := hgrow4.cell (cell_in ((Below.refl w3.heap.size w3).alloc (Nat.le_refl _) (.cells #[.int .i64 (p : Int)] 3 (0, 0))) c5) hne4; have c7 : w4.frozen? ⟨BO, 0, none⟩ = false := ((hgrow4.frozen_far _ (World.block_lt_of_cell? _ _ (cell_in ((Below.refl w3.heap.size w3).alloc (Nat.le_refl _) (.cells #[.int .i64 (p : Int)] 3 (0, 0))) c5)) hne4).trans (frozen_in ((Below.refl w3.heap.size w3).alloc (Nat.le_refl _) _) c5)).trans (box1f HB5.out); clear hown4 hgrow4))
        go_wp2
        go_end0
        obtain ⟨r1, r2⟩ := wk_done HD.out HS2.out HB4.out HO4.out hbs2 s7 HS8.out HM3.out HH3.out.1 HH3.out.2 HG3.out HN4.out HG4.out
        exact ⟨⟨_, rfl⟩, HB2.out.trans r2, r1⟩
theorem ownN_le {w : World} {b b' : Nat} {v : Value} {l : List Nat} (h : OwnN w b v l) (hb : b' ≤ b) : OwnN w b' v l := by
  rcases h with ⟨hxl, ⟨e1, e2⟩ | ⟨g, cap, cur, e1, hg, hh, hn, hc, hcs, hcur⟩⟩
  · exact ⟨hxl, .inl ⟨e1, e2⟩⟩
  · exact ⟨hxl, .inr ⟨g, cap, cur, e1, Nat.le_trans hb hg, hh, hn, hc, hcs, hcur⟩⟩
set_option maxRecDepth 100000 in
set_option maxHeartbeats 6400000 in
theorem walk_any {N : List (Nat × Nat × Nat)} (hN : Good N) (hl : N.length ≤ 2000000) (r : Nat) (hr : r < N.length + 2) (ad : Option Addr) (cap : Nat) (w : World) (hi : InD w.heap.size w ad (N.map z3)) :
    Calls Tryz.prog 79 #[.slice ad N.length cap, .int .i64 (r : Int)] w (fun e w' => ∃ v, e = .returned v ∧ OwnN w' w.heap.size v (dfs3 N (r + 1) r []) ∧ Below w.heap.size w w') := by
  have HI := Lib.hid hi
  clear hi
  have hmm := @run_makeMap Tryz.prog
  go_enter Tryz.func79, Tryz.ntmps79
  go_wp2_with fail
  have hst : WkS (((((w.alloc (.cells #[.slice ad N.length cap] 28 (0, 0))).alloc (.cells #[.slice none 0 0] 71 (0, 0))).alloc (.map #[] 0)).alloc (.cells #[.map (some (w.heap.size + 1 + 1))] 161 (0, 0))).alloc (.cells #[fromV (w.heap.size + 1 + 1 + 1) (w.heap.size + 1 + 1 + 1 + 1) w.heap.size (w.heap.size + 1)] 162 (0, 0)))
      (w.heap.size + 1 + 1 + 1) (w.heap.size + 1 + 1 + 1 + 1) w.heap.size (w.heap.size + 1) (w.heap.size + 1 + 1) (w.heap.size + 5) (.slice ad N.length cap) [] := by
    have a0 := World.alloc_heap_new w (.cells #[.slice ad N.length cap] 28 (0, 0))
    obtain ⟨w1, e1⟩ : ∃ w1, w.alloc (.cells #[.slice ad N.length cap] 28 (0, 0)) = w1 := ⟨_, rfl⟩
    have s1 : w1.heap.size = w.heap.size + 1 := by rw [← e1, World.size_alloc]
    rw [e1] at a0 ⊢
    have a1 := World.alloc_heap_new w1 (.cells #[.slice none 0 0] 71 (0, 0))
    have b0 := obj_alloc (.cells #[.slice none 0 0] 71 (0, 0)) a0
    obtain ⟨w2, e2⟩ : ∃ w2, w1.alloc (.cells #[.slice none 0 0] 71 (0, 0)) = w2 := ⟨_, rfl⟩
    have s2 : w2.heap.size = w.heap.size + 1 + 1 := by rw [← e2, World.size_alloc, s1]
    rw [s1] at a1
    rw [e2] at a1 b0 ⊢
    have hm := funB_made w2 Tryz.prog 3 4
    have c0 := obj_alloc (.map #[] 0) b0
    have c1 := obj_alloc (.map #[] 0) a1
    obtain ⟨w3, e3⟩ : ∃ w3, w2.alloc (.map #[] 0) = w3 := ⟨_, rfl⟩
    have s3 : w3.heap.size = w.heap.size + 1 + 1 + 1 := by rw [← e3, World.size_alloc, s2]
    rw [s2] at hm
    rw [e3] at hm c0 c1 ⊢
    have d2 := World.alloc_heap_new w3 (.cells #[.map (some (w.heap.size + 1 + 1))] 161 (0, 0))
    have d0 := obj_alloc (.cells #[.map (some (w.heap.size + 1 + 1))] 161 (0, 0)) c0
    have d1 := obj_alloc (.cells #[.map (some (w.heap.size + 1 + 1))] 161 (0, 0)) c1
    have hm1 := hm.heap (w' := w3.alloc (.cells #[.map (some (w.heap.size + 1 + 1))] 161 (0, 0))) fun o ho => obj_alloc _ ho
    obtain ⟨w4, e4⟩ : ∃ w4, w3.alloc (.cells #[.map (some (w.heap.size + 1 + 1))] 161 (0, 0)) = w4 := ⟨_, rfl⟩
    have s4 : w4.heap.size = w.heap.size + 1 + 1 + 1 + 1 := by rw [← e4, World.size_alloc, s3]
    rw [s3] at d2
    rw [e4] at d0 d1 d2 hm1 ⊢
    have f3 := World.alloc_heap_new w4 (.cells #[fromV (w.heap.size + 1 + 1 + 1) (w.heap.size + 1 + 1 + 1 + 1) w.heap.size (w.heap.size + 1)] 162 (0, 0))
    rw [s4] at f3
    exact ⟨obj_alloc _ d2, f3, obj_alloc _ d0, ⟨.slice none 0 0, obj_alloc _ d1, ⟨rfl, .inl ⟨rfl, rfl⟩⟩⟩, ⟨0, fun _ => false, hm1.heap fun o ho => obj_alloc _ ho, Nat.le_refl _, fun p => by simp⟩⟩
  refine (walk1_any hN hl w.heap.size (w.heap.size + 1 + 1 + 1) (w.heap.size + 1 + 1 + 1 + 1) w.heap.size (w.heap.size + 1) (w.heap.size + 1 + 1) (w.heap.size + 5) ⟨by omega, by omega, by omega⟩ ad cap (r + 1) r (by omega) hr [] _ (ordr3_nil N) (by simp) hst (HI.out.of (by (repeat' (first | (with_reducible exact Below.refl _ _) | (with_reducible exact Nat.le_refl _) | (with_reducible refine Below.bel ?_ ?_) | (with_reducible refine Below.alloc ?_ ?_ _) | (with_reducible refine Below.drew ?_) | (with_reducible refine Below.drawsN ?_ _) | (with_reducible refine Below.setCell ?_ ?_ _) | (with_reducible refine le_bel ?_) | (with_reducible refine le_alloc ?_) | (with_reducible refine le_setCell ?_) | (with_reducible refine le_drew ?_) | (with_reducible refine le_drawsN ?_) | (dsimp only; with_reducible refine le_bel ?_) | (dsimp only; with_reducible refine Nat.le_refl _) | (dsimp only; with_reducible refine le_bel_add ?_) | (with_reducible assumption) | omega | (dsimp only; omega)))))).mono ?_
  rintro _ W1 ⟨⟨u1, rfl⟩, hb1, hs1⟩
  obtain ⟨s1, s2, s3, ⟨v2, s4, s5⟩, -⟩ := hs1
  have c4 := box1 s4
  have HV := Lib.hid (ownN_le (b' := w.heap.size) s5 (by omega))
  have HB1 := Lib.hid ((show Below w.heap.size w _ from by (repeat' (first | (with_reducible exact Below.refl _ _) | (with_reducible exact Nat.le_refl _) | (with_reducible refine Below.bel ?_ ?_) | (with_reducible refine Below.alloc ?_ ?_ _) | (with_reducible refine Below.drew ?_) | (with_reducible refine Below.drawsN ?_ _) | (with_reducible refine Below.setCell ?_ ?_ _) | (with_reducible refine le_bel ?_) | (with_reducible refine le_alloc ?_) | (with_reducible refine le_setCell ?_) | (with_reducible refine le_drew ?_) | (with_reducible refine le_drawsN ?_) | (dsimp only; with_reducible refine le_bel ?_) | (dsimp only; with_reducible refine Nat.le_refl _) | (dsimp only; with_reducible refine le_bel_add ?_) | (with_reducible assumption) | omega | (dsimp only; omega)))).trans hb1)
  clear hst hb1 s1 s2 s3 s4 s5
  dsimp only
  go_wp2
  refine bodyPost_ret (v := v2) (by simp [results, Tryz.results79, go_sem]) rfl ⟨v2, rfl, HV.out, HB1.out⟩
end Go.Proofs.YtkdmhjlcgpnjpaaGreatDoor
