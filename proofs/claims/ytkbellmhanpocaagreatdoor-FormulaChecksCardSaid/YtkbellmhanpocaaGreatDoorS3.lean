/- The variables of two formulas. -/
import Derived.Test.YtkbellmhanpocaaGreatDoorS2
namespace Go.Proofs.YtkbellmhanpocaaGreatDoor
set_option linter.unusedVariables false
set_option linter.unusedSimpArgs false
open Go.RowKit F
attribute [local go_sem low] Bel.cell Bel.frozen alloc_cell alloc_frozen
attribute [local go_sem] Oper.semAt_some

/-- What an earlier loop has put off lies where it lay. -/
def HasD (o : Option Nat) (W : World) : Prop := ∀ D, o = some D → W.heap[D]? = some (.deferred (some []))
theorem HasD.grown {o : Option Nat} {A B : World} {row : Option Nat} (h : HasD o A) (hg : A.grownBy B row) (hr : ∀ k, row = some k → ∃ ob : Obj, A.heap[k]? = some ob ∧ ob.isCells = true) : HasD o B := fun D hD => by
  have h1 := h D hD
  refine (hg.block D (Array.getElem?_eq_some_iff.1 h1).1 (fun e => ?_)).trans h1
  obtain ⟨ob, h2, h3⟩ := hr D e.symm
  rw [h1] at h2
  cases h2
  cases h3
theorem HasD.own {o : Option Nat} {B : Nat} (hD : ∀ D, o = some D → D < B) : OwnFrom B (fun (_ : List Nd) W => HasD o W) := fun s W W' row hs hg hr D e => by
  have h1 := hs D e
  refine (hg.block D (Array.getElem?_eq_some_iff.1 h1).1 (fun e' => ?_)).trans h1
  have := (hr D e'.symm).1
  have := hD D e
  omega
theorem HasD.bel {o : Option Nat} {W W' : World} (h : HasD o W) (hb : Below W.heap.size W W') : HasD o W' := fun D hD => obj_below hb (Array.getElem?_eq_some_iff.1 (h D hD)).1 (h D hD)
theorem ownFrom_and {β : Type} {B : Nat} {I J : β → World → Prop} (hI : OwnFrom B I) (hJ : OwnFrom B J) : OwnFrom B (fun s W => I s W ∧ J s W) := fun s W W' row hs hg hr => ⟨hI s W W' row hs.1 hg hr, hJ s W W' row hs.2 hg hr⟩
set_option maxRecDepth 100000 in
set_option maxHeartbeats 12800000 in
theorem support_two (P : Nat → Prop) (t u : F) (ad : Option Addr) (cap : Nat) (w : World) (hi : InsF P w ad [t, u]) (hbig : nodes t ≤ 50000000) (hbig2 : nodes u ≤ 50000000) :
    Calls Tryz.prog 36 #[.slice ad 2 cap] w (SupRet (supF [t, u]) w) := by
  obtain ⟨i0, hi0, hz0, hz1, hz2⟩ := info_parts Tryz.infoI
  have hlt : InsF (fun c => c < w.heap.size) w ad [t, u] := hi.imp fun b hb _ => hb
  obtain ⟨bb, off, rfl, hp, hcs⟩ := insF_at hlt (by simp)
  obtain ⟨c0, c1, ad', cap', c2, hit⟩ := cellF_open (hcs 0 t rfl)
  obtain ⟨d0, d1, ad2, cap2', d2, hiu⟩ := cellF_open (hcs 1 u rfl)
  rw [Nat.zero_mul, Nat.add_zero] at c0 c1 c2
  rw [Nat.one_mul] at d0 d1 d2
  have HIT := Lib.hid hit
  have HIU := Lib.hid hiu
  have HDU := Lib.hid (And.intro d0 (And.intro d1 d2))
  have HBB := Lib.hid hp
  clear hi hlt hcs hit hiu hp d0 d1 d2
  refine (callsIn_wide (n := 3)).1 ?_
  refine callsIn_of_wp_marks Tryz.func36 rfl trivial ?_ rfl
  simp only [Tryz.ntmps36, List.size_toArray, List.length_cons, List.length_nil, Nat.reduceAdd, Nat.reduceSub, Array.replicate_succ, Array.replicate_zero, List.push_toArray, List.append_toArray, List.nil_append, List.cons_append]
  gi_wp2
  refine wpIn_loop_rounds 3 ?_
  rw [roundsIn_succ]
  have HSTA := Lib.hid (And.intro (show ColSt w w.heap.size [] (w.alloc (.cells #[.slice none 0 0] 50)) from ⟨_, World.alloc_heap_new w _, ownV_nil _ _ _, (Below.refl _ _).alloc (Nat.le_refl _) _⟩) (show HasD none (w.alloc (.cells #[.slice none 0 0] 50)) from fun D h => by cases h))
  have hxs0 : ([] : List Int).length ≤ 50000000 := by simp
  have HITT := HIT
  have HODL : ∀ D, (none : Option Nat) = some D → D < w.heap.size + 1 + 3 := fun D h => by cases h
  gi_wp2_with (first | (refine ⟨trivial, ?_⟩; gi_at_call 39; refine (callsIn_wide.2 (nodes_any t ad' cap' _)).mono ?_; rintro _ _ ⟨rfl, rfl⟩))
  obtain ⟨W0, hW0⟩ : ∃ W0, (((w.alloc (.cells #[.slice none 0 0] 50)).alloc (.cells #[.int .i64 t.k, .int .i64 t.a, .slice ad' t.l.length cap'] 26)).alloc (.cells #[.int .i64 t.k, .int .i64 t.a, .slice ad' t.l.length cap'] 26)).alloc (.cells #[walkV ((w.heap.size + 1) + 1 + 1)] 87) = W0 := ⟨_, rfl⟩
  have hsz0 : W0.heap.size = (w.heap.size + 1) + 3 := by rw [← hW0]; simp
  have hwalk : WalkAt W0 ((w.heap.size + 1) + 1 + 1) := by
    rw [← hW0]
    have := World.alloc_heap_new (((w.alloc (.cells #[.slice none 0 0] 50)).alloc (.cells #[.int .i64 t.k, .int .i64 t.a, .slice ad' t.l.length cap'] 26)).alloc (.cells #[.int .i64 t.k, .int .i64 t.a, .slice ad' t.l.length cap'] 26)) (.cells #[walkV ((w.heap.size + 1) + 1 + 1)] 87)
    simp only [World.size_alloc] at this
    exact this
  have hbox : W0.heap[(w.heap.size + 1) + 1]? = some (.cells #[.int .i64 t.k, .int .i64 t.a, .slice ad' t.l.length cap'] 26 (0, 0)) := by
    rw [← hW0]
    have := heap3_1 (w.alloc (.cells #[.slice none 0 0] 50)) (.cells #[.int .i64 t.k, .int .i64 t.a, .slice ad' t.l.length cap'] 26) (.cells #[.int .i64 t.k, .int .i64 t.a, .slice ad' t.l.length cap'] 26) (.cells #[walkV ((w.heap.size + 1) + 1 + 1)] 87)
    simpa using this
  have hBA : Below (w.alloc (.cells #[.slice none 0 0] 50)).heap.size (w.alloc (.cells #[.slice none 0 0] 50)) W0 := by rw [← hW0]; (repeat' (first | (with_reducible exact Below.refl _ _) | (with_reducible exact Nat.le_refl _) | (with_reducible refine Below.bel ?_ ?_) | (with_reducible refine Below.alloc ?_ ?_ _) | (with_reducible refine Below.drew ?_) | (with_reducible refine Below.drawsN ?_ _) | (with_reducible refine Below.setCell ?_ ?_ _) | (with_reducible refine le_bel ?_) | (with_reducible refine le_alloc ?_) | (with_reducible refine le_setCell ?_) | (with_reducible refine le_drew ?_) | (with_reducible refine le_drawsN ?_) | (dsimp only; with_reducible refine le_bel ?_) | (dsimp only; with_reducible refine Nat.le_refl _) | (dsimp only; with_reducible refine le_bel_add ?_) | (with_reducible assumption) | omega | (dsimp only; omega)))
  have hst0 : ColSt w w.heap.size ([] : List Int) W0 := by
    obtain ⟨v, h1, h2, h3⟩ := HSTA.out.1
    exact ⟨v, obj_bel ⟨_, hBA⟩ h1, ownV_bel h2 ⟨_, hBA⟩, h3.trans (hBA.mono h3.size)⟩
  have hin0 : InsF (fun c => c < w.heap.size) W0 ad' t.l := HITT.out.of (by
    obtain ⟨v, h1, h2, h3⟩ := hst0
    exact h3)
  have hd0 : HasD none W0 := HSTA.out.2.bel hBA
  rw [hW0]
  clear hW0 hBA
  refine wpIn_rangeFunc_ownH rfl (by omega : 1 ≤ 3) (gf := 55) (lb := #[.pointer (some ⟨(w.heap.size + 1) + 1 + 1, 0, none⟩), .pointer (some ⟨(w.heap.size + 1) + 1, 0, none⟩)]) rfl trivial (enters_of Tryz.func55 (by kernel_rfl) rfl)
    (nodes_stops (3 - 1) w.heap.size ((w.heap.size + 1) + 1) ((w.heap.size + 1) + 1 + 1) ((w.heap.size + 1) + 1) t ad' cap' W0 (by omega) (Nat.le_refl _) (by omega) (by omega) (by omega) hin0 hwalk hbox) keepsB_t (keepsB_b (by omega)) (Below.refl _ _) (fun _ => rfl)
    (fun p W => ColSt w w.heap.size (([] : List Int) ++ varsP (p.map (·.1))) W ∧ HasD none W) (fun _ _ _ => False) (ownFrom_and (ColSt.own (xs := fun p => ([] : List Int) ++ varsP (p.map (·.1))) (by omega)) (HasD.own (fun D h => by have := HODL D h; omega))) (fun _ => fun _ _ _ _ h _ _ => h) ⟨by simpa [varsP] using hst0, hd0⟩
    (fun x a' W => ∃ Bx, W.heap[Bx]? = some (.cells #[.int .i64 x.1.k, .int .i64 x.1.a, .slice x.2.1 x.1.l.length x.2.2] 26 (0, 0)) ∧ a' = { tmps := (#[.slice (some ⟨bb, off, none⟩) 2 cap, undef, .slice none 0 0, .pointer (some ⟨w.heap.size, 0, none⟩), undef, .pointer (some ⟨w.heap.size + 1, 0, none⟩), .pointer (some ⟨Bx, 0, none⟩), .slice (some ⟨bb, off, none⟩) 2 cap, .int .i64 2, .int .i64 0, .bool true, .pointer (some ⟨bb, off, none⟩), .agg #[.int .i64 t.k, .int .i64 t.a, .slice ad' t.l.length cap'], .agg #[.int .i64 t.k, .int .i64 t.a, .slice ad' t.l.length cap'], .func (.func 55) #[] #[.pointer (some ⟨w.heap.size + 1 + 1 + 1, 0, none⟩), .pointer (some ⟨w.heap.size + 1 + 1, 0, none⟩)], .agg #[.int .i64 x.1.k, .int .i64 x.1.a, .slice x.2.1 x.1.l.length x.2.2], undef, undef, undef, undef, undef, undef, undef, undef, undef, undef, undef, undef, undef]), defers := [] })
    (fun x a' _ X Y row hs hg hr => by obtain ⟨Bx, e1, e2⟩ := hs; exact ⟨Bx, obj_own _ _ _ rfl () X Y row e1 hg hr, e2⟩)
    ?assign ?body ?done ?stop
  case assign =>
    rintro l p x W K hst hK
    have hlt := hst.1.lt
    dsimp only [ndV]
    gi_wp2
    exact hK _ _ ((KeepsOthers.alloc _ _).from _) (keepsB_alloc (keepsB_refl _ _ _) (by omega) _) ⟨ColSt.own (xs := fun p => ([] : List Int) ++ varsP (p.map (·.1))) (Nat.le_refl _) p W _ none hst.1 (World.grownBy_alloc W _ none) (fun r e => by cases e), hst.2.grown (World.grownBy_alloc W _ none) (fun r e => by cases e)⟩ ⟨W.heap.size, World.alloc_heap_new W _, rfl⟩
  case body =>
    rintro l p x a' W hl ⟨r, hrl⟩ hst ⟨Bx, hbx, rfl⟩ hlen
    obtain ⟨c0', c1', c2'⟩ := box3 hbx
    have hlt := hst.1.lt
    obtain ⟨⟨v, hv, hown, hb⟩, hdd⟩ := hst
    have HDD := Lib.hid hdd
    clear hdd
    have r0 := box1 hv
    have hpl : (varsP (p.map (·.1))).length ≤ p.length := by have := varsP_len (p.map (·.1)); rwa [List.length_map] at this
    have hvl : (intsV (([] : List Int) ++ varsP (p.map (·.1)))).length ≤ 200000000 := by unfold intsV; rw [List.length_map, List.length_append]; omega
    obtain ⟨NL, hNL⟩ : ∃ NL, (intsV (([] : List Int) ++ varsP (p.map (·.1)))).length = NL := ⟨_, rfl⟩
    have HOW := Lib.hid hown
    have HON := Lib.hid (show W.ownsRow (w.heap.size + 1) 3 1 v NL (intsV (([] : List Int) ++ varsP (p.map (·.1)))) from by rw [← hNL]; exact hown)
    have HNL := Lib.hid hNL
    rw [hNL] at hvl
    clear hNL
    have HV := Lib.hid hv
    have HB := Lib.hid hb
    clear hown hv hb hpl
    by_cases hk : x.1.k = 1
    · have f1 : (x.1.k == 1) = true := beq_iff_eq.2 hk
      have HXS := Lib.hid (show varsP ((p ++ [x]).map (·.1)) = varsP (p.map (·.1)) ++ [x.1.a] by rw [List.map_append, List.map_singleton, varsP_snoc, if_pos hk])
      clear hk
      gi_wp2_with (gi_at_builtin; refine wpListIn_append_own _ rfl _ _ 50 rfl (w.heap.size + 1) 3 i0 (.int .i64 0) 1 8 Tryz.underlying50 hi0 hz0 hz1 hz2 rfl (by decide) _ _ _ rfl (World.ownsRow.alloc HON.out _) ⟨W.heap.size, 0, none⟩ 1 1 [.int .i64 x.1.a] rfl rfl (cell_one_new _ _ _) (by simp [Value.oneCell']) (by unfold maxLen; omega) (by omega) (by simp; omega) ?_; intro v' w1 hown' hgrow _; obtain ⟨g', cap2, rfl⟩ := ownsRow_succ hown'; have hv1 := Lib.hid ((hgrow.block w.heap.size (by simp; omega) (fun e => by have := (World.ownsRow.lt HOW.out w.heap.size e.symm).1; omega)).trans ((Below.heap_alloc _ _ w.heap.size hlt).trans HV.out)); have r1 := box1 hv1.out; have r2 := Boxed.frozen hv1.out; have HO1 := Lib.hid hown'; have HG1 := Lib.hid hgrow; clear hown' hgrow)
      obtain ⟨v', hv'⟩ : ∃ v', (Value.slice (some ⟨g', 0, none⟩) (NL + 1) cap2) = v' := ⟨_, rfl⟩
      rw [hv'] at HO1 ⊢
      have hox := own_cells HOW.out
      have hsz1 := HG1.out.size
      simp at hsz1
      have hs1 := obj_set (i := 0) v' hv1.out
      have hox1 : ∀ k, v.ownBlock = some k → w.heap.size + 1 ≤ k ∧ ∃ cur, (W.alloc (.cells #[.int .i64 x.1.a] 3)).heap[k]? = some (.cells cur 3 (0, 0)) := fun k hk => by
        obtain ⟨h1, cur, h2⟩ := hox k hk
        exact ⟨h1, cur, (Below.heap_alloc _ _ k (Array.getElem?_eq_some_iff.1 h2).1).trans h2⟩
      refine ⟨(((KeepsOthers.alloc W _).trans (KeepsOthers.of_grownBy HG1.out (fun j o hj ho => ?_))).trans (KeepsOthers.setCell _ _ _)).from _, keepsB_set (keepsB_grown (keepsB_alloc (keepsB_refl _ _ _) (by omega) _) HG1.out (by simp; omega) (fun k hk => ?_)) (Nat.le_refl _) (by omega) _, ⟨⟨v', hs1, ?_, ?_⟩, ?_⟩⟩
      · obtain ⟨_, cur, h2⟩ := hox1 j hj
        rw [h2] at ho
        cases ho
        rfl
      · obtain ⟨h1, cur, h2⟩ := hox1 k hk
        refine ⟨by omega, fun vs e r he _ h3 => ?_⟩
        rw [h2] at h3
        cases h3
        rcases he with he | he <;> cases he
      · have h4 : OwnV w1 (w.heap.size + 1) 3 v' (intsV (([] : List Int) ++ varsP ((p ++ [x]).map (·.1)))) := by
          rw [HXS.out, ← List.append_assoc]
          unfold OwnV
          have e : intsV (([] : List Int) ++ varsP (p.map (·.1)) ++ [x.1.a]) = intsV (([] : List Int) ++ varsP (p.map (·.1))) ++ [.int .i64 x.1.a] := by simp [intsV]
          rw [e, List.length_append, HNL.out]
          exact HO1.out
        exact World.ownsRow.kept h4 (set_grown w1 w.heap.size 0 v') (.inr (ownsRow_ne h4 hv1.out (fun cur e => by cases e)))
      · exact (((HB.out.alloc (by omega) _).grown HG1.out (by simp; omega) (fun k hk => by have := (hox1 k hk).1; omega))).setCell (p := ⟨w.heap.size, 0, none⟩) (Nat.le_refl _) _
      · refine ((HDD.out.grown (World.grownBy_alloc W _ none) (fun r e => by cases e)).grown HG1.out (fun k hk => ?_)).grown (set_grown w1 w.heap.size 0 v') (fun k hk => ?_)
        · obtain ⟨_, cur, h2⟩ := hox1 k hk
          exact ⟨_, h2, rfl⟩
        · cases hk
          exact ⟨_, hv1.out, rfl⟩
    · have f1 : (x.1.k == 1) = false := beq_eq_false_iff_ne.2 hk
      have HXS := Lib.hid (show varsP ((p ++ [x]).map (·.1)) = varsP (p.map (·.1)) by rw [List.map_append, List.map_singleton, varsP_snoc, if_neg hk, List.append_nil])
      clear hk
      gi_wp2
      exact ⟨(KeepsOthers.refl _).from _, keepsB_refl _ _ _, ⟨⟨v, HV.out, by rw [HXS.out]; exact HOW.out, HB.out⟩, HDD.out⟩⟩
  case stop => rintro D c q W hD hq hx hK; exact hx.elim
  case done =>
    rintro DQ xs WQ hD hxs hst hK
    rw [hxs, List.nil_append, show pre t = preL [t] from by rw [preL, preL, List.append_nil]] at hst
    have HST1 := Lib.hid hst.1
    have hbW := hst.1.choose_spec.2.2
    have hOD : HasD (some DQ) WQ := fun DQ' h => by cases h; exact hK
    have hDl := (Array.getElem?_eq_some_iff.1 hK).1
    have HKD := Lib.hid hK
    have d0 := below_cell hbW _ _ _ HDU.out.1
    have d1 := below_cell hbW _ _ _ HDU.out.2.1
    have d2 := below_cell hbW _ _ _ HDU.out.2.2
    have HSTB := Lib.hid (And.intro hst.1 hOD)
    clear hxs hst hbW hOD hK HSTA
    gi_wp2
    rw [roundsIn_succ]
    have HSTA := HSTB
    have HITT := HIU
    have hxs0 : (varsP (preL [t])).length ≤ 50000000 := by have := varsP_len (preL [t]); rw [preL_len] at this; simp only [nodesL] at this; omega
    have HODL : ∀ DQ', some DQ = some DQ' → DQ' < WQ.heap.size + 3 := fun DQ' h => by cases h; omega
    gi_wp2_with (first | (refine ⟨trivial, ?_⟩; gi_at_call 39; refine (callsIn_wide.2 (nodes_any u ad2 cap2' _)).mono ?_; rintro _ _ ⟨rfl, rfl⟩))
    obtain ⟨W0, hW0⟩ : ∃ W0, ((WQ.alloc (.cells #[.int .i64 u.k, .int .i64 u.a, .slice ad2 u.l.length cap2'] 26)).alloc (.cells #[.int .i64 u.k, .int .i64 u.a, .slice ad2 u.l.length cap2'] 26)).alloc (.cells #[walkV (WQ.heap.size + 1 + 1)] 87) = W0 := ⟨_, rfl⟩
    have hsz0 : W0.heap.size = WQ.heap.size + 3 := by rw [← hW0]; simp
    have hwalk : WalkAt W0 (WQ.heap.size + 1 + 1) := by
      rw [← hW0]
      have := World.alloc_heap_new ((WQ.alloc (.cells #[.int .i64 u.k, .int .i64 u.a, .slice ad2 u.l.length cap2'] 26)).alloc (.cells #[.int .i64 u.k, .int .i64 u.a, .slice ad2 u.l.length cap2'] 26)) (.cells #[walkV (WQ.heap.size + 1 + 1)] 87)
      simp only [World.size_alloc] at this
      exact this
    have hbox : W0.heap[WQ.heap.size + 1]? = some (.cells #[.int .i64 u.k, .int .i64 u.a, .slice ad2 u.l.length cap2'] 26 (0, 0)) := by
      rw [← hW0]
      have := heap3_1 WQ (.cells #[.int .i64 u.k, .int .i64 u.a, .slice ad2 u.l.length cap2'] 26) (.cells #[.int .i64 u.k, .int .i64 u.a, .slice ad2 u.l.length cap2'] 26) (.cells #[walkV (WQ.heap.size + 1 + 1)] 87)
      simpa using this
    have hBA : Below WQ.heap.size WQ W0 := by rw [← hW0]; (repeat' (first | (with_reducible exact Below.refl _ _) | (with_reducible exact Nat.le_refl _) | (with_reducible refine Below.bel ?_ ?_) | (with_reducible refine Below.alloc ?_ ?_ _) | (with_reducible refine Below.drew ?_) | (with_reducible refine Below.drawsN ?_ _) | (with_reducible refine Below.setCell ?_ ?_ _) | (with_reducible refine le_bel ?_) | (with_reducible refine le_alloc ?_) | (with_reducible refine le_setCell ?_) | (with_reducible refine le_drew ?_) | (with_reducible refine le_drawsN ?_) | (dsimp only; with_reducible refine le_bel ?_) | (dsimp only; with_reducible refine Nat.le_refl _) | (dsimp only; with_reducible refine le_bel_add ?_) | (with_reducible assumption) | omega | (dsimp only; omega)))
    have hst0 : ColSt w w.heap.size (varsP (preL [t])) W0 := by
      obtain ⟨v, h1, h2, h3⟩ := HSTA.out.1
      exact ⟨v, obj_bel ⟨_, hBA⟩ h1, ownV_bel h2 ⟨_, hBA⟩, h3.trans (hBA.mono h3.size)⟩
    have hin0 : InsF (fun c => c < w.heap.size) W0 ad2 u.l := HITT.out.of (by
      obtain ⟨v, h1, h2, h3⟩ := hst0
      exact h3)
    have hd0 : HasD (some DQ) W0 := HSTA.out.2.bel hBA
    rw [hW0]
    clear hW0 hBA
    refine wpIn_rangeFunc_ownH rfl (by omega : 1 ≤ 3) (gf := 55) (lb := #[.pointer (some ⟨WQ.heap.size + 1 + 1, 0, none⟩), .pointer (some ⟨WQ.heap.size + 1, 0, none⟩)]) rfl trivial (enters_of Tryz.func55 (by kernel_rfl) rfl)
      (nodes_stops (3 - 1) w.heap.size (WQ.heap.size + 1) (WQ.heap.size + 1 + 1) (WQ.heap.size + 1) u ad2 cap2' W0 (by omega) (Nat.le_refl _) (by omega) (by omega) (by omega) hin0 hwalk hbox) keepsB_t (keepsB_b (by omega)) (Below.refl _ _) (fun _ => rfl)
      (fun p W => ColSt w w.heap.size ((varsP (preL [t])) ++ varsP (p.map (·.1))) W ∧ HasD (some DQ) W) (fun _ _ _ => False) (ownFrom_and (ColSt.own (xs := fun p => (varsP (preL [t])) ++ varsP (p.map (·.1))) (by omega)) (HasD.own (fun D h => by have := HODL D h; omega))) (fun _ => fun _ _ _ _ h _ _ => h) ⟨by simpa [varsP] using hst0, hd0⟩
      (fun x a' W => ∃ Bx, W.heap[Bx]? = some (.cells #[.int .i64 x.1.k, .int .i64 x.1.a, .slice x.2.1 x.1.l.length x.2.2] 26 (0, 0)) ∧ a' = { tmps := (#[.slice (some ⟨bb, off, none⟩) 2 cap, undef, .slice none 0 0, .pointer (some ⟨w.heap.size, 0, none⟩), undef, .pointer (some ⟨WQ.heap.size, 0, none⟩), .pointer (some ⟨Bx, 0, none⟩), .slice (some ⟨bb, off, none⟩) 2 cap, .int .i64 2, .int .i64 1, .bool true, .pointer (some ⟨bb, off + 3, none⟩), .agg #[.int .i64 u.k, .int .i64 u.a, .slice ad2 u.l.length cap2'], .agg #[.int .i64 u.k, .int .i64 u.a, .slice ad2 u.l.length cap2'], .func (.func 55) #[] #[.pointer (some ⟨WQ.heap.size + 1 + 1, 0, none⟩), .pointer (some ⟨WQ.heap.size + 1, 0, none⟩)], .agg #[.int .i64 x.1.k, .int .i64 x.1.a, .slice x.2.1 x.1.l.length x.2.2], undef, undef, undef, undef, undef, undef, undef, undef, .int .i64 1, undef, undef, undef, undef]), defers := [] })
      (fun x a' _ X Y row hs hg hr => by obtain ⟨Bx, e1, e2⟩ := hs; exact ⟨Bx, obj_own _ _ _ rfl () X Y row e1 hg hr, e2⟩)
      ?assign ?body ?done ?stop
    case assign =>
      rintro l p x W K hst hK
      have hlt := hst.1.lt
      dsimp only [ndV]
      gi_wp2
      exact hK _ _ ((KeepsOthers.alloc _ _).from _) (keepsB_alloc (keepsB_refl _ _ _) (by omega) _) ⟨ColSt.own (xs := fun p => (varsP (preL [t])) ++ varsP (p.map (·.1))) (Nat.le_refl _) p W _ none hst.1 (World.grownBy_alloc W _ none) (fun r e => by cases e), hst.2.grown (World.grownBy_alloc W _ none) (fun r e => by cases e)⟩ ⟨W.heap.size, World.alloc_heap_new W _, rfl⟩
    case body =>
      rintro l p x a' W hl ⟨r, hrl⟩ hst ⟨Bx, hbx, rfl⟩ hlen
      obtain ⟨c0', c1', c2'⟩ := box3 hbx
      have hlt := hst.1.lt
      obtain ⟨⟨v, hv, hown, hb⟩, hdd⟩ := hst
      have HDD := Lib.hid hdd
      clear hdd
      have r0 := box1 hv
      have hpl : (varsP (p.map (·.1))).length ≤ p.length := by have := varsP_len (p.map (·.1)); rwa [List.length_map] at this
      have hvl : (intsV ((varsP (preL [t])) ++ varsP (p.map (·.1)))).length ≤ 200000000 := by unfold intsV; rw [List.length_map, List.length_append]; omega
      obtain ⟨NL, hNL⟩ : ∃ NL, (intsV ((varsP (preL [t])) ++ varsP (p.map (·.1)))).length = NL := ⟨_, rfl⟩
      have HOW := Lib.hid hown
      have HON := Lib.hid (show W.ownsRow (w.heap.size + 1) 3 1 v NL (intsV ((varsP (preL [t])) ++ varsP (p.map (·.1)))) from by rw [← hNL]; exact hown)
      have HNL := Lib.hid hNL
      rw [hNL] at hvl
      clear hNL
      have HV := Lib.hid hv
      have HB := Lib.hid hb
      clear hown hv hb hpl
      by_cases hk : x.1.k = 1
      · have f1 : (x.1.k == 1) = true := beq_iff_eq.2 hk
        have HXS := Lib.hid (show varsP ((p ++ [x]).map (·.1)) = varsP (p.map (·.1)) ++ [x.1.a] by rw [List.map_append, List.map_singleton, varsP_snoc, if_pos hk])
        clear hk
        gi_wp2_with (gi_at_builtin; refine wpListIn_append_own _ rfl _ _ 50 rfl (w.heap.size + 1) 3 i0 (.int .i64 0) 1 8 Tryz.underlying50 hi0 hz0 hz1 hz2 rfl (by decide) _ _ _ rfl (World.ownsRow.alloc HON.out _) ⟨W.heap.size, 0, none⟩ 1 1 [.int .i64 x.1.a] rfl rfl (cell_one_new _ _ _) (by simp [Value.oneCell']) (by unfold maxLen; omega) (by omega) (by simp; omega) ?_; intro v' w1 hown' hgrow _; obtain ⟨g', cap2, rfl⟩ := ownsRow_succ hown'; have hv1 := Lib.hid ((hgrow.block w.heap.size (by simp; omega) (fun e => by have := (World.ownsRow.lt HOW.out w.heap.size e.symm).1; omega)).trans ((Below.heap_alloc _ _ w.heap.size hlt).trans HV.out)); have r1 := box1 hv1.out; have r2 := Boxed.frozen hv1.out; have HO1 := Lib.hid hown'; have HG1 := Lib.hid hgrow; clear hown' hgrow)
        obtain ⟨v', hv'⟩ : ∃ v', (Value.slice (some ⟨g', 0, none⟩) (NL + 1) cap2) = v' := ⟨_, rfl⟩
        rw [hv'] at HO1 ⊢
        have hox := own_cells HOW.out
        have hsz1 := HG1.out.size
        simp at hsz1
        have hs1 := obj_set (i := 0) v' hv1.out
        have hox1 : ∀ k, v.ownBlock = some k → w.heap.size + 1 ≤ k ∧ ∃ cur, (W.alloc (.cells #[.int .i64 x.1.a] 3)).heap[k]? = some (.cells cur 3 (0, 0)) := fun k hk => by
          obtain ⟨h1, cur, h2⟩ := hox k hk
          exact ⟨h1, cur, (Below.heap_alloc _ _ k (Array.getElem?_eq_some_iff.1 h2).1).trans h2⟩
        refine ⟨(((KeepsOthers.alloc W _).trans (KeepsOthers.of_grownBy HG1.out (fun j o hj ho => ?_))).trans (KeepsOthers.setCell _ _ _)).from _, keepsB_set (keepsB_grown (keepsB_alloc (keepsB_refl _ _ _) (by omega) _) HG1.out (by simp; omega) (fun k hk => ?_)) (Nat.le_refl _) (by omega) _, ⟨⟨v', hs1, ?_, ?_⟩, ?_⟩⟩
        · obtain ⟨_, cur, h2⟩ := hox1 j hj
          rw [h2] at ho
          cases ho
          rfl
        · obtain ⟨h1, cur, h2⟩ := hox1 k hk
          refine ⟨by omega, fun vs e r he _ h3 => ?_⟩
          rw [h2] at h3
          cases h3
          rcases he with he | he <;> cases he
        · have h4 : OwnV w1 (w.heap.size + 1) 3 v' (intsV ((varsP (preL [t])) ++ varsP ((p ++ [x]).map (·.1)))) := by
            rw [HXS.out, ← List.append_assoc]
            unfold OwnV
            have e : intsV ((varsP (preL [t])) ++ varsP (p.map (·.1)) ++ [x.1.a]) = intsV ((varsP (preL [t])) ++ varsP (p.map (·.1))) ++ [.int .i64 x.1.a] := by simp [intsV]
            rw [e, List.length_append, HNL.out]
            exact HO1.out
          exact World.ownsRow.kept h4 (set_grown w1 w.heap.size 0 v') (.inr (ownsRow_ne h4 hv1.out (fun cur e => by cases e)))
        · exact (((HB.out.alloc (by omega) _).grown HG1.out (by simp; omega) (fun k hk => by have := (hox1 k hk).1; omega))).setCell (p := ⟨w.heap.size, 0, none⟩) (Nat.le_refl _) _
        · refine ((HDD.out.grown (World.grownBy_alloc W _ none) (fun r e => by cases e)).grown HG1.out (fun k hk => ?_)).grown (set_grown w1 w.heap.size 0 v') (fun k hk => ?_)
          · obtain ⟨_, cur, h2⟩ := hox1 k hk
            exact ⟨_, h2, rfl⟩
          · cases hk
            exact ⟨_, hv1.out, rfl⟩
      · have f1 : (x.1.k == 1) = false := beq_eq_false_iff_ne.2 hk
        have HXS := Lib.hid (show varsP ((p ++ [x]).map (·.1)) = varsP (p.map (·.1)) by rw [List.map_append, List.map_singleton, varsP_snoc, if_neg hk, List.append_nil])
        clear hk
        gi_wp2
        exact ⟨(KeepsOthers.refl _).from _, keepsB_refl _ _ _, ⟨⟨v, HV.out, by rw [HXS.out]; exact HOW.out, HB.out⟩, HDD.out⟩⟩
    case stop => rintro D c q W hD hq hx hK; exact hx.elim
    case done =>
      rintro D xs2 W hD2 hxs2 hst2 hK
      rw [hxs2, show pre u = preL [u] from by rw [preL, preL, List.append_nil], ← varsP_app, ← preL_app, show [t] ++ [u] = [t, u] from rfl] at hst2
      obtain ⟨⟨v, hv, hown, hb⟩, hdd⟩ := hst2
      have r0 := box1 hv
      have HX := Lib.hid (And.intro hown (And.intro hb hv))
      have HK := Lib.hid hK
      have HDD := Lib.hid (hdd DQ rfl)
      have hne : DQ ≠ D := by omega
      clear hown hb hv hK hxs2 hdd
      gi_wp2
      rw [roundsIn_succ]
      gi_wp2_with fail
      refine ⟨trivial, (callsIn_wide.2 (sort_own W (w.heap.size + 1) v (varsP (preL [t, u])) HX.out.1 (by have := varsP_len (preL [t, u]); rw [preL_len] at this; simp only [nodesL] at this; omega))).mono ?_⟩
      rintro _ W2 ⟨rfl, hown2, hg2⟩
      have hox := own_cells HX.out.1
      have hlt := (Array.getElem?_eq_some_iff.1 HX.out.2.2).1
      have hv2 := (hg2.block w.heap.size hlt (fun e => by have := (hox _ e.symm).1; omega)).trans HX.out.2.2
      have r1 := box1 hv2
      have HB2 := Lib.hid (HX.out.2.1.grown hg2 (by omega) (fun k hk => by have := (hox k hk).1; omega))
      have HG2 := Lib.hid hg2
      have HO2 := Lib.hid hown2
      clear hown2 hg2
      dsimp only
      gi_wp2_with fail
      refine ⟨trivial, (callsIn_wide.2 (compact_own W2 (w.heap.size + 1) v _ HO2.out (by rw [List.length_mergeSort]; have := varsP_len (preL [t, u]); rw [preL_len] at this; simp only [nodesL] at this; omega))).mono ?_⟩
      rintro _ W3 ⟨v3, rfl, hown3, hg3, hv3⟩
      have HO3 := Lib.hid hown3
      have HG3 := Lib.hid hg3
      have HB3 := Lib.hid (HB2.out.grown hg3 (by have := HG2.out.size; omega) (fun k hk => by have := (hox k hk).1; omega))
      clear hown3 hg3
      dsimp only
      gi_wp2
      have hnd : some D ≠ v.ownBlock := fun e => by
        obtain ⟨_, cur, h2⟩ := hox D e.symm
        rw [HK.out] at h2
        cases h2
      have hDl := (Array.getElem?_eq_some_iff.1 HK.out).1
      have hK3 := (HG3.out.block D (by have := HG2.out.size; omega) hnd).trans ((HG2.out.block D hDl hnd).trans HK.out)
      have hsz3 := HB3.out.size
      have hndQ : some DQ ≠ v.ownBlock := fun e => by
        obtain ⟨_, cur, h2⟩ := hox DQ e.symm
        rw [HDD.out] at h2
        cases h2
      have hQl := (Array.getElem?_eq_some_iff.1 HDD.out).1
      have hQ3 := (HG3.out.block DQ (by have := HG2.out.size; omega) hndQ).trans ((HG2.out.block DQ hQl hndQ).trans HDD.out)
      have hg4 := grownBy_putObj' W3 D (.deferred none)
      have hQ4 : (W3.putObj D (.deferred none)).heap[DQ]? = some (.deferred (some [])) := (hg4.block DQ (Array.getElem?_eq_some_iff.1 hQ3).1 (fun e => hne (Option.some.inj e))).trans hQ3
      have hb4 := belowK_b (w := w) (Nat.le_refl _) W3 D _ (.deferred none) (by omega) hK3 rfl rfl
      have hb5 := belowK_b (w := w) (Nat.le_refl _) (W3.putObj D (.deferred none)) DQ _ (.deferred none) (by omega) hQ4 rfl rfl
      have hO4 := World.ownsRow.kept HO3.out hg4 (.inr (ownsRow_ne HO3.out hK3 (fun cur e => by cases e)))
      have hO5 := World.ownsRow.kept hO4 (grownBy_putObj' (W3.putObj D (.deferred none)) DQ (.deferred none)) (.inr (ownsRow_ne hO4 hQ4 (fun cur e => by cases e)))
      refine ⟨by simp, .inl ⟨_, _, rfl, run_takeDeferred hK3, ?_⟩⟩
      refine ⟨by simp, .inl ⟨_, _, rfl, run_takeDeferred hQ4, ?_⟩⟩
      refine ⟨v3, ?_, v3, rfl, ⟨_, (HB3.out.trans hb4).trans hb5⟩, rfl, ownV_mono hO5 (by omega)⟩
      simp [results, Tryz.f36, go_sem]
end Go.Proofs.YtkbellmhanpocaaGreatDoor
