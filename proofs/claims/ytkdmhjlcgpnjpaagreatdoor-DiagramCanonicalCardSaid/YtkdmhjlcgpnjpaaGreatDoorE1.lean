/- The variables of two formulas. Equivalent. -/
import Derived.Test.YtkdmhjlcgpnjpaaGreatDoorS2
import Derived.Test.YtkdmhjlcgpnjpaaGreatDoorVz
import Derived.Test.YtkdmhjlcgpnjpaaGreatDoorFz
import Derived.Test.YtkdmhjlcgpnjpaaGreatDoorQz
namespace Go.Proofs.YtkdmhjlcgpnjpaaGreatDoor
set_option linter.unusedVariables false
set_option linter.unusedSimpArgs false
open Go.RowKit F
attribute [local go_sem low] Bel.cell Bel.frozen alloc_cell alloc_frozen
attribute [local go_sem] Oper.semAt_some

/-- What an earlier loop has put off lies where it lay. -/
def HasD (o : Option Nat) (W : World) : Prop := ∀ D, o = some D → W.heap[D]? = some (.deferred (some []))
theorem HasD.grown {o : Option Nat} {A B : World} {row : Option Nat} (h : HasD o A) (hg : A.grownBy B row) (hr : ∀ k, row = some k → ∃ ob : Obj, A.heap[k]? = some ob ∧ ob.isCells = true) : HasD o B := fun D hD => by
  have h1 := h D hD
  refine (hg.block D (Array.getElem?_eq_some_iff.1 h1).1 (fun e => ?_)).trans h1
  obtain ⟨ob, h2, h3⟩ := hr D e.symm
  rw [h1] at h2
  cases h2
  cases h3
theorem HasD.own {o : Option Nat} {B : Nat} (hD : ∀ D, o = some D → D < B) : OwnFrom B (fun (_ : List Nd) W => HasD o W) := fun s W W' row hs hg hr D e => by
  have h1 := hs D e
  refine (hg.block D (Array.getElem?_eq_some_iff.1 h1).1 (fun e' => ?_)).trans h1
  have := (hr D e'.symm).1
  have := hD D e
  omega
theorem HasD.bel {o : Option Nat} {W W' : World} (h : HasD o W) (hb : Below W.heap.size W W') : HasD o W' := fun D hD => obj_below hb (Array.getElem?_eq_some_iff.1 (h D hD)).1 (h D hD)
theorem ownFrom_and {β : Type} {B : Nat} {I J : β → World → Prop} (hI : OwnFrom B I) (hJ : OwnFrom B J) : OwnFrom B (fun s W => I s W ∧ J s W) := fun s W W' row hs hg hr => ⟨hI s W W' row hs.1 hg hr, hJ s W W' row hs.2 hg hr⟩
set_option maxRecDepth 100000 in
set_option maxHeartbeats 12800000 in
theorem support_two (P : Nat → Prop) (t u : F) (ad : Option Addr) (cap : Nat) (w : World) (hi : InsF P w ad [t, u]) (hbig : nodes t ≤ 50000000) (hbig2 : nodes u ≤ 50000000) :
    Calls Tryz.prog 75 #[.slice ad 2 cap] w (SupRet (supF [t, u]) w) := by
  obtain ⟨i0, hi0, hz0, hz1, hz2⟩ := info_parts Tryz.infoFi
  have hlt : InsF (fun c => c < w.heap.size) w ad [t, u] := hi.imp fun b hb _ => hb
  obtain ⟨bb, off, rfl, hp, hcs⟩ := insF_at hlt (by simp)
  obtain ⟨c0, c1, ad', cap', c2, hit⟩ := cellF_open (hcs 0 t rfl)
  obtain ⟨d0, d1, ad2, cap2', d2, hiu⟩ := cellF_open (hcs 1 u rfl)
  rw [Nat.zero_mul, Nat.add_zero] at c0 c1 c2
  rw [Nat.one_mul] at d0 d1 d2
  have HIT := Lib.hid hit
  have HIU := Lib.hid hiu
  have HDU := Lib.hid (And.intro d0 (And.intro d1 d2))
  have HBB := Lib.hid hp
  clear hi hlt hcs hit hiu hp d0 d1 d2
  refine (callsIn_wide (n := 3)).1 ?_
  refine callsIn_of_wp_marks Tryz.func75 rfl trivial ?_ rfl
  simp only [Tryz.ntmps75, List.size_toArray, List.length_cons, List.length_nil, Nat.reduceAdd, Nat.reduceSub, Array.replicate_succ, Array.replicate_zero, List.push_toArray, List.append_toArray, List.nil_append, List.cons_append]
  gi_wp2
  refine wpIn_loop_rounds 3 ?_
  rw [roundsIn_succ]
  have HSTA := Lib.hid (And.intro (show ColSt w w.heap.size [] (w.alloc (.cells #[.slice none 0 0] 71)) from ⟨_, World.alloc_heap_new w _, ownV_nil _ _ _, (Below.refl _ _).alloc (Nat.le_refl _) _⟩) (show HasD none (w.alloc (.cells #[.slice none 0 0] 71)) from fun D h => by cases h))
  have hxs0 : ([] : List Int).length ≤ 50000000 := by simp
  have HITT := HIT
  have HODL : ∀ D, (none : Option Nat) = some D → D < w.heap.size + 1 + 3 := fun D h => by cases h
  gi_wp2_with (first | (refine ⟨trivial, ?_⟩; gi_at_call 86; refine (callsIn_wide.2 (nodes_any t ad' cap' _)).mono ?_; rintro _ _ ⟨rfl, rfl⟩))
  obtain ⟨W0, hW0⟩ : ∃ W0, (((w.alloc (.cells #[.slice none 0 0] 71)).alloc (.cells #[.int .i64 t.k, .int .i64 t.a, .slice ad' t.l.length cap'] 26)).alloc (.cells #[.int .i64 t.k, .int .i64 t.a, .slice ad' t.l.length cap'] 26)).alloc (.cells #[walkV ((w.heap.size + 1) + 1 + 1)] 166) = W0 := ⟨_, rfl⟩
  have hsz0 : W0.heap.size = (w.heap.size + 1) + 3 := by rw [← hW0]; simp
  have hwalk : WalkAt W0 ((w.heap.size + 1) + 1 + 1) := by
    rw [← hW0]
    have := World.alloc_heap_new (((w.alloc (.cells #[.slice none 0 0] 71)).alloc (.cells #[.int .i64 t.k, .int .i64 t.a, .slice ad' t.l.length cap'] 26)).alloc (.cells #[.int .i64 t.k, .int .i64 t.a, .slice ad' t.l.length cap'] 26)) (.cells #[walkV ((w.heap.size + 1) + 1 + 1)] 166)
    simp only [World.size_alloc] at this
    exact this
  have hbox : W0.heap[(w.heap.size + 1) + 1]? = some (.cells #[.int .i64 t.k, .int .i64 t.a, .slice ad' t.l.length cap'] 26 (0, 0)) := by
    rw [← hW0]
    have := heap3_1 (w.alloc (.cells #[.slice none 0 0] 71)) (.cells #[.int .i64 t.k, .int .i64 t.a, .slice ad' t.l.length cap'] 26) (.cells #[.int .i64 t.k, .int .i64 t.a, .slice ad' t.l.length cap'] 26) (.cells #[walkV ((w.heap.size + 1) + 1 + 1)] 166)
    simpa using this
  have hBA : Below (w.alloc (.cells #[.slice none 0 0] 71)).heap.size (w.alloc (.cells #[.slice none 0 0] 71)) W0 := by rw [← hW0]; (repeat' (first | (with_reducible first | exact Below.refl _ _ | exact Nat.le_refl _ | refine Below.bel ?_ ?_ | refine Below.alloc ?_ ?_ _ | refine Below.drew ?_ | refine Below.drawsN ?_ _ | refine Below.setCell ?_ ?_ _ | refine le_bel ?_ | refine le_alloc ?_ | refine le_setCell ?_ | refine le_drew ?_ | refine le_drawsN ?_) | (dsimp only; with_reducible first | refine le_bel ?_ | refine Nat.le_refl _ | refine le_bel_add ?_) | (with_reducible assumption) | omega | (dsimp only; omega)))
  have hst0 : ColSt w w.heap.size ([] : List Int) W0 := by
    obtain ⟨v, h1, h2, h3⟩ := HSTA.out.1
    exact ⟨v, obj_bel ⟨_, hBA⟩ h1, ownV_bel h2 ⟨_, hBA⟩, h3.trans (hBA.mono h3.size)⟩
  have hin0 : InsF (fun c => c < w.heap.size) W0 ad' t.l := HITT.out.of (by
    obtain ⟨v, h1, h2, h3⟩ := hst0
    exact h3)
  have hd0 : HasD none W0 := HSTA.out.2.bel hBA
  rw [hW0]
  clear hW0 hBA
  refine wpIn_rangeFunc_ownH rfl (by omega : 1 ≤ 3) (gf := 114) (lb := #[.pointer (some ⟨(w.heap.size + 1) + 1 + 1, 0, none⟩), .pointer (some ⟨(w.heap.size + 1) + 1, 0, none⟩)]) rfl trivial (enters_of Tryz.func114 (by kernel_rfl) rfl)
    (nodes_stops (3 - 1) w.heap.size ((w.heap.size + 1) + 1) ((w.heap.size + 1) + 1 + 1) ((w.heap.size + 1) + 1) t ad' cap' W0 (by omega) (Nat.le_refl _) (by omega) (by omega) (by omega) hin0 hwalk hbox) keepsB_t (keepsB_b (by omega)) (Below.refl _ _) (fun _ => rfl)
    (fun p W => ColSt w w.heap.size (([] : List Int) ++ varsP (p.map (·.1))) W ∧ HasD none W) (fun _ _ _ => False) (ownFrom_and (ColSt.own (xs := fun p => ([] : List Int) ++ varsP (p.map (·.1))) (by omega)) (HasD.own (fun D h => by have := HODL D h; omega))) (fun _ => fun _ _ _ _ h _ _ => h) ⟨by simpa [varsP] using hst0, hd0⟩
    (fun x a' W => ∃ Bx, W.heap[Bx]? = some (.cells #[.int .i64 x.1.k, .int .i64 x.1.a, .slice x.2.1 x.1.l.length x.2.2] 26 (0, 0)) ∧ a' = { tmps := (#[.slice (some ⟨bb, off, none⟩) 2 cap, undef, .slice none 0 0, .pointer (some ⟨w.heap.size, 0, none⟩), undef, .pointer (some ⟨w.heap.size + 1, 0, none⟩), .pointer (some ⟨Bx, 0, none⟩), .slice (some ⟨bb, off, none⟩) 2 cap, .int .i64 2, .int .i64 0, .bool true, .pointer (some ⟨bb, off, none⟩), .agg #[.int .i64 t.k, .int .i64 t.a, .slice ad' t.l.length cap'], .agg #[.int .i64 t.k, .int .i64 t.a, .slice ad' t.l.length cap'], .func (.func 114) #[] #[.pointer (some ⟨w.heap.size + 1 + 1 + 1, 0, none⟩), .pointer (some ⟨w.heap.size + 1 + 1, 0, none⟩)], .agg #[.int .i64 x.1.k, .int .i64 x.1.a, .slice x.2.1 x.1.l.length x.2.2], undef, undef, undef, undef, undef, undef, undef, undef, undef, undef, undef, undef, undef]), defers := [] })
    (fun x a' _ X Y row hs hg hr => by obtain ⟨Bx, e1, e2⟩ := hs; exact ⟨Bx, obj_own _ _ _ rfl () X Y row e1 hg hr, e2⟩)
    ?assign ?body ?done ?stop
  case assign =>
    rintro l p x W K hst hK
    have hlt := hst.1.lt
    dsimp only [ndV]
    gi_wp2
    exact hK _ _ ((KeepsOthers.alloc _ _).from _) (keepsB_alloc (keepsB_refl _ _ _) (by omega) _) ⟨ColSt.own (xs := fun p => ([] : List Int) ++ varsP (p.map (·.1))) (Nat.le_refl _) p W _ none hst.1 (World.grownBy_alloc W _ none) (fun r e => by cases e), hst.2.grown (World.grownBy_alloc W _ none) (fun r e => by cases e)⟩ ⟨W.heap.size, World.alloc_heap_new W _, rfl⟩
  case body =>
    rintro l p x a' W hl ⟨r, hrl⟩ hst ⟨Bx, hbx, rfl⟩ hlen
    obtain ⟨c0', c1', c2'⟩ := box3 hbx
    have hlt := hst.1.lt
    obtain ⟨⟨v, hv, hown, hb⟩, hdd⟩ := hst
    have HDD := Lib.hid hdd
    clear hdd
    have r0 := box1 hv
    have hpl : (varsP (p.map (·.1))).length ≤ p.length := by have := varsP_len (p.map (·.1)); rwa [List.length_map] at this
    have hvl : (intsV (([] : List Int) ++ varsP (p.map (·.1)))).length ≤ 200000000 := by unfold intsV; rw [List.length_map, List.length_append]; omega
    obtain ⟨NL, hNL⟩ : ∃ NL, (intsV (([] : List Int) ++ varsP (p.map (·.1)))).length = NL := ⟨_, rfl⟩
    have HOW := Lib.hid hown
    have HON := Lib.hid (show W.ownsRow (w.heap.size + 1) 3 1 v NL (intsV (([] : List Int) ++ varsP (p.map (·.1)))) from by rw [← hNL]; exact hown)
    have HNL := Lib.hid hNL
    rw [hNL] at hvl
    clear hNL
    have HV := Lib.hid hv
    have HB := Lib.hid hb
    clear hown hv hb hpl
    by_cases hk : x.1.k = 1
    · have f1 : (x.1.k == 1) = true := beq_iff_eq.2 hk
      have HXS := Lib.hid (show varsP ((p ++ [x]).map (·.1)) = varsP (p.map (·.1)) ++ [x.1.a] by rw [List.map_append, List.map_singleton, varsP_snoc, if_pos hk])
      clear hk
      gi_wp2_with (gi_at_builtin; refine wpListIn_append_own _ rfl _ _ 71 rfl (w.heap.size + 1) 3 i0 (.int .i64 0) 1 8 Tryz.underlying71 hi0 hz0 hz1 hz2 rfl (by decide) _ _ _ rfl (World.ownsRow.alloc HON.out _) ⟨W.heap.size, 0, none⟩ 1 1 [.int .i64 x.1.a] rfl rfl (cell_one_new _ _ _) (by simp [Value.oneCell']) (by unfold maxLen; omega) (by omega) (by simp; omega) ?_; intro v' w1 hown' hgrow _; obtain ⟨g', cap2, rfl⟩ := ownsRow_succ hown'; have hv1 := Lib.hid ((hgrow.block w.heap.size (by simp; omega) (fun e => by have := (World.ownsRow.lt HOW.out w.heap.size e.symm).1; omega)).trans ((Below.heap_alloc _ _ w.heap.size hlt).trans HV.out)); have r1 := box1 hv1.out; have r2 := Boxed.frozen hv1.out; have HO1 := Lib.hid hown'; have HG1 := Lib.hid hgrow; clear hown' hgrow)
      obtain ⟨v', hv'⟩ : ∃ v', (Value.slice (some ⟨g', 0, none⟩) (NL + 1) cap2) = v' := ⟨_, rfl⟩
      rw [hv'] at HO1 ⊢
      have hox := own_cells HOW.out
      have hsz1 := HG1.out.size
      simp at hsz1
      have hs1 := obj_set (i := 0) v' hv1.out
      have hox1 : ∀ k, v.ownBlock = some k → w.heap.size + 1 ≤ k ∧ ∃ cur, (W.alloc (.cells #[.int .i64 x.1.a] 3)).heap[k]? = some (.cells cur 3 (0, 0)) := fun k hk => by
        obtain ⟨h1, cur, h2⟩ := hox k hk
        exact ⟨h1, cur, (Below.heap_alloc _ _ k (Array.getElem?_eq_some_iff.1 h2).1).trans h2⟩
      refine ⟨(((KeepsOthers.alloc W _).trans (KeepsOthers.of_grownBy HG1.out (fun j o hj ho => ?_))).trans (KeepsOthers.setCell _ _ _)).from _, keepsB_set (keepsB_grown (keepsB_alloc (keepsB_refl _ _ _) (by omega) _) HG1.out (by simp; omega) (fun k hk => ?_)) (Nat.le_refl _) (by omega) _, ⟨⟨v', hs1, ?_, ?_⟩, ?_⟩⟩
      · obtain ⟨_, cur, h2⟩ := hox1 j hj
        rw [h2] at ho
        cases ho
        rfl
      · obtain ⟨h1, cur, h2⟩ := hox1 k hk
        refine ⟨by omega, fun vs e r he _ h3 => ?_⟩
        rw [h2] at h3
        cases h3
        rcases he with he | he <;> cases he
      · have h4 : OwnV w1 (w.heap.size + 1) 3 v' (intsV (([] : List Int) ++ varsP ((p ++ [x]).map (·.1)))) := by
          rw [HXS.out, ← List.append_assoc]
          unfold OwnV
          have e : intsV (([] : List Int) ++ varsP (p.map (·.1)) ++ [x.1.a]) = intsV (([] : List Int) ++ varsP (p.map (·.1))) ++ [.int .i64 x.1.a] := by simp [intsV]
          rw [e, List.length_append, HNL.out]
          exact HO1.out
        exact World.ownsRow.kept h4 (set_grown w1 w.heap.size 0 v') (.inr (ownsRow_ne h4 hv1.out (fun cur e => by cases e)))
      · exact (((HB.out.alloc (by omega) _).grown HG1.out (by simp; omega) (fun k hk => by have := (hox1 k hk).1; omega))).setCell (p := ⟨w.heap.size, 0, none⟩) (Nat.le_refl _) _
      · refine ((HDD.out.grown (World.grownBy_alloc W _ none) (fun r e => by cases e)).grown HG1.out (fun k hk => ?_)).grown (set_grown w1 w.heap.size 0 v') (fun k hk => ?_)
        · obtain ⟨_, cur, h2⟩ := hox1 k hk
          exact ⟨_, h2, rfl⟩
        · cases hk
          exact ⟨_, hv1.out, rfl⟩
    · have f1 : (x.1.k == 1) = false := beq_eq_false_iff_ne.2 hk
      have HXS := Lib.hid (show varsP ((p ++ [x]).map (·.1)) = varsP (p.map (·.1)) by rw [List.map_append, List.map_singleton, varsP_snoc, if_neg hk, List.append_nil])
      clear hk
      gi_wp2
      exact ⟨(KeepsOthers.refl _).from _, keepsB_refl _ _ _, ⟨⟨v, HV.out, by rw [HXS.out]; exact HOW.out, HB.out⟩, HDD.out⟩⟩
  case stop => rintro D c q W hD hq hx hK; exact hx.elim
  case done =>
    rintro DQ xs WQ hD hxs hst hK
    rw [hxs, List.nil_append, show pre t = preL [t] from by rw [preL, preL, List.append_nil]] at hst
    have HST1 := Lib.hid hst.1
    have hbW := hst.1.choose_spec.2.2
    have hOD : HasD (some DQ) WQ := fun DQ' h => by cases h; exact hK
    have hDl := (Array.getElem?_eq_some_iff.1 hK).1
    have HKD := Lib.hid hK
    have d0 := below_cell hbW _ _ _ HDU.out.1
    have d1 := below_cell hbW _ _ _ HDU.out.2.1
    have d2 := below_cell hbW _ _ _ HDU.out.2.2
    have HSTB := Lib.hid (And.intro hst.1 hOD)
    clear hxs hst hbW hOD hK HSTA
    gi_wp2
    rw [roundsIn_succ]
    have HSTA := HSTB
    have HITT := HIU
    have hxs0 : (varsP (preL [t])).length ≤ 50000000 := by have := varsP_len (preL [t]); rw [preL_len] at this; simp only [nodesL] at this; omega
    have HODL : ∀ DQ', some DQ = some DQ' → DQ' < WQ.heap.size + 3 := fun DQ' h => by cases h; omega
    gi_wp2_with (first | (refine ⟨trivial, ?_⟩; gi_at_call 86; refine (callsIn_wide.2 (nodes_any u ad2 cap2' _)).mono ?_; rintro _ _ ⟨rfl, rfl⟩))
    obtain ⟨W0, hW0⟩ : ∃ W0, ((WQ.alloc (.cells #[.int .i64 u.k, .int .i64 u.a, .slice ad2 u.l.length cap2'] 26)).alloc (.cells #[.int .i64 u.k, .int .i64 u.a, .slice ad2 u.l.length cap2'] 26)).alloc (.cells #[walkV (WQ.heap.size + 1 + 1)] 166) = W0 := ⟨_, rfl⟩
    have hsz0 : W0.heap.size = WQ.heap.size + 3 := by rw [← hW0]; simp
    have hwalk : WalkAt W0 (WQ.heap.size + 1 + 1) := by
      rw [← hW0]
      have := World.alloc_heap_new ((WQ.alloc (.cells #[.int .i64 u.k, .int .i64 u.a, .slice ad2 u.l.length cap2'] 26)).alloc (.cells #[.int .i64 u.k, .int .i64 u.a, .slice ad2 u.l.length cap2'] 26)) (.cells #[walkV (WQ.heap.size + 1 + 1)] 166)
      simp only [World.size_alloc] at this
      exact this
    have hbox : W0.heap[WQ.heap.size + 1]? = some (.cells #[.int .i64 u.k, .int .i64 u.a, .slice ad2 u.l.length cap2'] 26 (0, 0)) := by
      rw [← hW0]
      have := heap3_1 WQ (.cells #[.int .i64 u.k, .int .i64 u.a, .slice ad2 u.l.length cap2'] 26) (.cells #[.int .i64 u.k, .int .i64 u.a, .slice ad2 u.l.length cap2'] 26) (.cells #[walkV (WQ.heap.size + 1 + 1)] 166)
      simpa using this
    have hBA : Below WQ.heap.size WQ W0 := by rw [← hW0]; (repeat' (first | (with_reducible first | exact Below.refl _ _ | exact Nat.le_refl _ | refine Below.bel ?_ ?_ | refine Below.alloc ?_ ?_ _ | refine Below.drew ?_ | refine Below.drawsN ?_ _ | refine Below.setCell ?_ ?_ _ | refine le_bel ?_ | refine le_alloc ?_ | refine le_setCell ?_ | refine le_drew ?_ | refine le_drawsN ?_) | (dsimp only; with_reducible first | refine le_bel ?_ | refine Nat.le_refl _ | refine le_bel_add ?_) | (with_reducible assumption) | omega | (dsimp only; omega)))
    have hst0 : ColSt w w.heap.size (varsP (preL [t])) W0 := by
      obtain ⟨v, h1, h2, h3⟩ := HSTA.out.1
      exact ⟨v, obj_bel ⟨_, hBA⟩ h1, ownV_bel h2 ⟨_, hBA⟩, h3.trans (hBA.mono h3.size)⟩
    have hin0 : InsF (fun c => c < w.heap.size) W0 ad2 u.l := HITT.out.of (by
      obtain ⟨v, h1, h2, h3⟩ := hst0
      exact h3)
    have hd0 : HasD (some DQ) W0 := HSTA.out.2.bel hBA
    rw [hW0]
    clear hW0 hBA
    refine wpIn_rangeFunc_ownH rfl (by omega : 1 ≤ 3) (gf := 114) (lb := #[.pointer (some ⟨WQ.heap.size + 1 + 1, 0, none⟩), .pointer (some ⟨WQ.heap.size + 1, 0, none⟩)]) rfl trivial (enters_of Tryz.func114 (by kernel_rfl) rfl)
      (nodes_stops (3 - 1) w.heap.size (WQ.heap.size + 1) (WQ.heap.size + 1 + 1) (WQ.heap.size + 1) u ad2 cap2' W0 (by omega) (Nat.le_refl _) (by omega) (by omega) (by omega) hin0 hwalk hbox) keepsB_t (keepsB_b (by omega)) (Below.refl _ _) (fun _ => rfl)
      (fun p W => ColSt w w.heap.size ((varsP (preL [t])) ++ varsP (p.map (·.1))) W ∧ HasD (some DQ) W) (fun _ _ _ => False) (ownFrom_and (ColSt.own (xs := fun p => (varsP (preL [t])) ++ varsP (p.map (·.1))) (by omega)) (HasD.own (fun D h => by have := HODL D h; omega))) (fun _ => fun _ _ _ _ h _ _ => h) ⟨by simpa [varsP] using hst0, hd0⟩
      (fun x a' W => ∃ Bx, W.heap[Bx]? = some (.cells #[.int .i64 x.1.k, .int .i64 x.1.a, .slice x.2.1 x.1.l.length x.2.2] 26 (0, 0)) ∧ a' = { tmps := (#[.slice (some ⟨bb, off, none⟩) 2 cap, undef, .slice none 0 0, .pointer (some ⟨w.heap.size, 0, none⟩), undef, .pointer (some ⟨WQ.heap.size, 0, none⟩), .pointer (some ⟨Bx, 0, none⟩), .slice (some ⟨bb, off, none⟩) 2 cap, .int .i64 2, .int .i64 1, .bool true, .pointer (some ⟨bb, off + 3, none⟩), .agg #[.int .i64 u.k, .int .i64 u.a, .slice ad2 u.l.length cap2'], .agg #[.int .i64 u.k, .int .i64 u.a, .slice ad2 u.l.length cap2'], .func (.func 114) #[] #[.pointer (some ⟨WQ.heap.size + 1 + 1, 0, none⟩), .pointer (some ⟨WQ.heap.size + 1, 0, none⟩)], .agg #[.int .i64 x.1.k, .int .i64 x.1.a, .slice x.2.1 x.1.l.length x.2.2], undef, undef, undef, undef, undef, undef, undef, undef, .int .i64 1, undef, undef, undef, undef]), defers := [] })
      (fun x a' _ X Y row hs hg hr => by obtain ⟨Bx, e1, e2⟩ := hs; exact ⟨Bx, obj_own _ _ _ rfl () X Y row e1 hg hr, e2⟩)
      ?assign ?body ?done ?stop
    case assign =>
      rintro l p x W K hst hK
      have hlt := hst.1.lt
      dsimp only [ndV]
      gi_wp2
      exact hK _ _ ((KeepsOthers.alloc _ _).from _) (keepsB_alloc (keepsB_refl _ _ _) (by omega) _) ⟨ColSt.own (xs := fun p => (varsP (preL [t])) ++ varsP (p.map (·.1))) (Nat.le_refl _) p W _ none hst.1 (World.grownBy_alloc W _ none) (fun r e => by cases e), hst.2.grown (World.grownBy_alloc W _ none) (fun r e => by cases e)⟩ ⟨W.heap.size, World.alloc_heap_new W _, rfl⟩
    case body =>
      rintro l p x a' W hl ⟨r, hrl⟩ hst ⟨Bx, hbx, rfl⟩ hlen
      obtain ⟨c0', c1', c2'⟩ := box3 hbx
      have hlt := hst.1.lt
      obtain ⟨⟨v, hv, hown, hb⟩, hdd⟩ := hst
      have HDD := Lib.hid hdd
      clear hdd
      have r0 := box1 hv
      have hpl : (varsP (p.map (·.1))).length ≤ p.length := by have := varsP_len (p.map (·.1)); rwa [List.length_map] at this
      have hvl : (intsV ((varsP (preL [t])) ++ varsP (p.map (·.1)))).length ≤ 200000000 := by unfold intsV; rw [List.length_map, List.length_append]; omega
      obtain ⟨NL, hNL⟩ : ∃ NL, (intsV ((varsP (preL [t])) ++ varsP (p.map (·.1)))).length = NL := ⟨_, rfl⟩
      have HOW := Lib.hid hown
      have HON := Lib.hid (show W.ownsRow (w.heap.size + 1) 3 1 v NL (intsV ((varsP (preL [t])) ++ varsP (p.map (·.1)))) from by rw [← hNL]; exact hown)
      have HNL := Lib.hid hNL
      rw [hNL] at hvl
      clear hNL
      have HV := Lib.hid hv
      have HB := Lib.hid hb
      clear hown hv hb hpl
      by_cases hk : x.1.k = 1
      · have f1 : (x.1.k == 1) = true := beq_iff_eq.2 hk
        have HXS := Lib.hid (show varsP ((p ++ [x]).map (·.1)) = varsP (p.map (·.1)) ++ [x.1.a] by rw [List.map_append, List.map_singleton, varsP_snoc, if_pos hk])
        clear hk
        gi_wp2_with (gi_at_builtin; refine wpListIn_append_own _ rfl _ _ 71 rfl (w.heap.size + 1) 3 i0 (.int .i64 0) 1 8 Tryz.underlying71 hi0 hz0 hz1 hz2 rfl (by decide) _ _ _ rfl (World.ownsRow.alloc HON.out _) ⟨W.heap.size, 0, none⟩ 1 1 [.int .i64 x.1.a] rfl rfl (cell_one_new _ _ _) (by simp [Value.oneCell']) (by unfold maxLen; omega) (by omega) (by simp; omega) ?_; intro v' w1 hown' hgrow _; obtain ⟨g', cap2, rfl⟩ := ownsRow_succ hown'; have hv1 := Lib.hid ((hgrow.block w.heap.size (by simp; omega) (fun e => by have := (World.ownsRow.lt HOW.out w.heap.size e.symm).1; omega)).trans ((Below.heap_alloc _ _ w.heap.size hlt).trans HV.out)); have r1 := box1 hv1.out; have r2 := Boxed.frozen hv1.out; have HO1 := Lib.hid hown'; have HG1 := Lib.hid hgrow; clear hown' hgrow)
        obtain ⟨v', hv'⟩ : ∃ v', (Value.slice (some ⟨g', 0, none⟩) (NL + 1) cap2) = v' := ⟨_, rfl⟩
        rw [hv'] at HO1 ⊢
        have hox := own_cells HOW.out
        have hsz1 := HG1.out.size
        simp at hsz1
        have hs1 := obj_set (i := 0) v' hv1.out
        have hox1 : ∀ k, v.ownBlock = some k → w.heap.size + 1 ≤ k ∧ ∃ cur, (W.alloc (.cells #[.int .i64 x.1.a] 3)).heap[k]? = some (.cells cur 3 (0, 0)) := fun k hk => by
          obtain ⟨h1, cur, h2⟩ := hox k hk
          exact ⟨h1, cur, (Below.heap_alloc _ _ k (Array.getElem?_eq_some_iff.1 h2).1).trans h2⟩
        refine ⟨(((KeepsOthers.alloc W _).trans (KeepsOthers.of_grownBy HG1.out (fun j o hj ho => ?_))).trans (KeepsOthers.setCell _ _ _)).from _, keepsB_set (keepsB_grown (keepsB_alloc (keepsB_refl _ _ _) (by omega) _) HG1.out (by simp; omega) (fun k hk => ?_)) (Nat.le_refl _) (by omega) _, ⟨⟨v', hs1, ?_, ?_⟩, ?_⟩⟩
        · obtain ⟨_, cur, h2⟩ := hox1 j hj
          rw [h2] at ho
          cases ho
          rfl
        · obtain ⟨h1, cur, h2⟩ := hox1 k hk
          refine ⟨by omega, fun vs e r he _ h3 => ?_⟩
          rw [h2] at h3
          cases h3
          rcases he with he | he <;> cases he
        · have h4 : OwnV w1 (w.heap.size + 1) 3 v' (intsV ((varsP (preL [t])) ++ varsP ((p ++ [x]).map (·.1)))) := by
            rw [HXS.out, ← List.append_assoc]
            unfold OwnV
            have e : intsV ((varsP (preL [t])) ++ varsP (p.map (·.1)) ++ [x.1.a]) = intsV ((varsP (preL [t])) ++ varsP (p.map (·.1))) ++ [.int .i64 x.1.a] := by simp [intsV]
            rw [e, List.length_append, HNL.out]
            exact HO1.out
          exact World.ownsRow.kept h4 (set_grown w1 w.heap.size 0 v') (.inr (ownsRow_ne h4 hv1.out (fun cur e => by cases e)))
        · exact (((HB.out.alloc (by omega) _).grown HG1.out (by simp; omega) (fun k hk => by have := (hox1 k hk).1; omega))).setCell (p := ⟨w.heap.size, 0, none⟩) (Nat.le_refl _) _
        · refine ((HDD.out.grown (World.grownBy_alloc W _ none) (fun r e => by cases e)).grown HG1.out (fun k hk => ?_)).grown (set_grown w1 w.heap.size 0 v') (fun k hk => ?_)
          · obtain ⟨_, cur, h2⟩ := hox1 k hk
            exact ⟨_, h2, rfl⟩
          · cases hk
            exact ⟨_, hv1.out, rfl⟩
      · have f1 : (x.1.k == 1) = false := beq_eq_false_iff_ne.2 hk
        have HXS := Lib.hid (show varsP ((p ++ [x]).map (·.1)) = varsP (p.map (·.1)) by rw [List.map_append, List.map_singleton, varsP_snoc, if_neg hk, List.append_nil])
        clear hk
        gi_wp2
        exact ⟨(KeepsOthers.refl _).from _, keepsB_refl _ _ _, ⟨⟨v, HV.out, by rw [HXS.out]; exact HOW.out, HB.out⟩, HDD.out⟩⟩
    case stop => rintro D c q W hD hq hx hK; exact hx.elim
    case done =>
      rintro D xs2 W hD2 hxs2 hst2 hK
      rw [hxs2, show pre u = preL [u] from by rw [preL, preL, List.append_nil], ← varsP_app, ← preL_app, show [t] ++ [u] = [t, u] from rfl] at hst2
      obtain ⟨⟨v, hv, hown, hb⟩, hdd⟩ := hst2
      have r0 := box1 hv
      have HX := Lib.hid (And.intro hown (And.intro hb hv))
      have HK := Lib.hid hK
      have HDD := Lib.hid (hdd DQ rfl)
      have hne : DQ ≠ D := by omega
      clear hown hb hv hK hxs2 hdd
      gi_wp2
      rw [roundsIn_succ]
      gi_wp2_with fail
      refine ⟨trivial, (callsIn_wide.2 (sort_own W (w.heap.size + 1) v (varsP (preL [t, u])) HX.out.1 (by have := varsP_len (preL [t, u]); rw [preL_len] at this; simp only [nodesL] at this; omega))).mono ?_⟩
      rintro _ W2 ⟨rfl, hown2, hg2⟩
      have hox := own_cells HX.out.1
      have hlt := (Array.getElem?_eq_some_iff.1 HX.out.2.2).1
      have hv2 := (hg2.block w.heap.size hlt (fun e => by have := (hox _ e.symm).1; omega)).trans HX.out.2.2
      have r1 := box1 hv2
      have HB2 := Lib.hid (HX.out.2.1.grown hg2 (by omega) (fun k hk => by have := (hox k hk).1; omega))
      have HG2 := Lib.hid hg2
      have HO2 := Lib.hid hown2
      clear hown2 hg2
      dsimp only
      gi_wp2_with fail
      refine ⟨trivial, (callsIn_wide.2 (compact_own W2 (w.heap.size + 1) v _ HO2.out (by rw [List.length_mergeSort]; have := varsP_len (preL [t, u]); rw [preL_len] at this; simp only [nodesL] at this; omega))).mono ?_⟩
      rintro _ W3 ⟨v3, rfl, hown3, hg3, hv3⟩
      have HO3 := Lib.hid hown3
      have HG3 := Lib.hid hg3
      have HB3 := Lib.hid (HB2.out.grown hg3 (by have := HG2.out.size; omega) (fun k hk => by have := (hox k hk).1; omega))
      clear hown3 hg3
      dsimp only
      gi_wp2
      have hnd : some D ≠ v.ownBlock := fun e => by
        obtain ⟨_, cur, h2⟩ := hox D e.symm
        rw [HK.out] at h2
        cases h2
      have hDl := (Array.getElem?_eq_some_iff.1 HK.out).1
      have hK3 := (HG3.out.block D (by have := HG2.out.size; omega) hnd).trans ((HG2.out.block D hDl hnd).trans HK.out)
      have hsz3 := HB3.out.size
      have hndQ : some DQ ≠ v.ownBlock := fun e => by
        obtain ⟨_, cur, h2⟩ := hox DQ e.symm
        rw [HDD.out] at h2
        cases h2
      have hQl := (Array.getElem?_eq_some_iff.1 HDD.out).1
      have hQ3 := (HG3.out.block DQ (by have := HG2.out.size; omega) hndQ).trans ((HG2.out.block DQ hQl hndQ).trans HDD.out)
      have hg4 := grownBy_putObj' W3 D (.deferred none)
      have hQ4 : (W3.putObj D (.deferred none)).heap[DQ]? = some (.deferred (some [])) := (hg4.block DQ (Array.getElem?_eq_some_iff.1 hQ3).1 (fun e => hne (Option.some.inj e))).trans hQ3
      have hb4 := belowK_b (w := w) (Nat.le_refl _) W3 D _ (.deferred none) (by omega) hK3 rfl rfl
      have hb5 := belowK_b (w := w) (Nat.le_refl _) (W3.putObj D (.deferred none)) DQ _ (.deferred none) (by omega) hQ4 rfl rfl
      have hO4 := World.ownsRow.kept HO3.out hg4 (.inr (ownsRow_ne HO3.out hK3 (fun cur e => by cases e)))
      have hO5 := World.ownsRow.kept hO4 (grownBy_putObj' (W3.putObj D (.deferred none)) DQ (.deferred none)) (.inr (ownsRow_ne hO4 hQ4 (fun cur e => by cases e)))
      refine ⟨by simp, .inl ⟨_, _, rfl, run_takeDeferred hK3, ?_⟩⟩
      refine ⟨by simp, .inl ⟨_, _, rfl, run_takeDeferred hQ4, ?_⟩⟩
      refine ⟨v3, ?_, v3, rfl, ⟨_, (HB3.out.trans hb4).trans hb5⟩, rfl, ownV_mono hO5 (by omega)⟩
      simp [results, Tryz.f75, go_sem]
end Go.Proofs.YtkdmhjlcgpnjpaaGreatDoor

namespace Go.Proofs.YtkdmhjlcgpnjpaaGreatDoor
set_option linter.unusedVariables false
set_option linter.unusedSimpArgs false
open Go.RowKit F
attribute [local go_sem low] Bel.cell Bel.frozen alloc_cell alloc_frozen

theorem egE : ∀ args w, (callFunc 76 args).run Tryz.prog w = .ok (.enter 76 args) w := fun args w => by kernel_rfl
theorem wf_i64 {a : Int} (h : -9223372036854775808 ≤ a ∧ a < 9223372036854775808) : (Lit.int .i64 a).wf = true := by
  simp [Lit.wf, IntKind.min, IntKind.max, IntKind.bits, IntKind.signed]
  omega
theorem i64_and_nat (a b : Nat) (ha : a < 9223372036854775808) (hb : b < 9223372036854775808) : bits .and .i64 (a : Int) (b : Int) = ((a &&& b : Nat) : Int) := by
  have hx : a &&& b < 2 ^ 63 := Nat.and_lt_two_pow _ (by omega)
  show IntKind.i64.wrap ((BitVec.ofInt 64 (a : Int) &&& BitVec.ofInt 64 (b : Int)).toNat : Int) = _
  rw [BitVec.toNat_and, ofInt_u64 a (by omega), ofInt_u64 b (by omega)]
  generalize a &&& b = z at *
  simp [IntKind.wrap, IntKind.bits, IntKind.signed]
  omega
theorem testBit_and1i (x n : Nat) (h : x < 9223372036854775808) : (bits .and .i64 ((x : Int) / 2 ^ n) 1 == 1) = x.testBit n := by
  have e : (x : Int) / 2 ^ n = ((x / 2 ^ n : Nat) : Int) := by simp
  have := i64_and_nat (x / 2 ^ n) 1 (Nat.lt_of_le_of_lt (Nat.div_le_self _ _) h) (by omega)
  rw [e, show (1 : Int) = ((1 : Nat) : Int) from rfl, this, Nat.testBit_eq_decide_div_mod_eq, Nat.and_one_is_mod, Bool.eq_iff_iff]
  simp only [beq_iff_eq, decide_eq_true_iff]
  omega
theorem occ_range {t : F} (ht : okT t) {x : Int} (hx : occ x t = true) : 0 ≤ x ∧ x < 4096 := by
  obtain ⟨v, hv, hk, rfl⟩ := (occ_iff x t ht).1 hx
  have h2 := pre_okT t ht v hv
  rw [F_eta v] at h2
  rcases single_cases h2.1 with ⟨_, h3, h4, _⟩ | ⟨e, _⟩ | ⟨e, _⟩ | ⟨e, _⟩
  · exact ⟨h3, h4⟩
  all_goals omega
theorem cntL_lt {ls : List Int} {a : Int} (ha : a ∈ ls) : fcntL ls a < ls.length := by
  unfold fcntL
  have h1 := List.length_filter_le (fun y => decide (y < a)) ls
  rcases Nat.lt_or_ge (ls.filter fun y => decide (y < a)).length ls.length with h | h
  · exact h
  · have h2 := List.length_filter_eq_length_iff.1 (Nat.le_antisymm h1 h) a ha
    simp at h2
theorem cntL_idx {ls : List Int} (hs : ls.Pairwise (· < ·)) {k : Nat} {a : Int} (h : ls[k]? = some a) : fcntL ls a = k := by
  have h1 := fcntL_at hs (List.mem_of_getElem? h)
  obtain ⟨l1, e1⟩ := List.getElem?_eq_some_iff.1 h1
  obtain ⟨l2, e2⟩ := List.getElem?_eq_some_iff.1 h
  rcases Nat.lt_trichotomy (fcntL ls a) k with hl | hl | hl
  · have := List.pairwise_iff_getElem.1 hs _ _ l1 l2 hl
    omega
  · exact hl
  · have := List.pairwise_iff_getElem.1 hs _ _ l2 l1 hl
    omega
set_option maxRecDepth 100000 in
theorem ofAt_rows (ls : List Int) (row : Nat) (hrow : row < 9223372036854775808) (f : Int → Int) (hf : ∀ a ∈ ls, f a = (fcntL ls a : Nat)) (hls : ∀ a ∈ ls, -9223372036854775808 ≤ a ∧ a < 9223372036854775808) (hlen : ls.length ≤ 60) (BR BM MB n : Nat) (w : World) (hm : IntM Tryz.prog 3 3 w MB n f)
    (hr : w.heap[BR]? = some (.cells #[.int .i64 (row : Int)] 3 (0, 0))) (hb : w.heap[BM]? = some (.cells #[.map (some MB)] 105 (0, 0))) :
    OfAt 76 #[.pointer (some ⟨BR, 0, none⟩), .pointer (some ⟨BM, 0, none⟩)] (rowE ls row) (fun a => a ∈ ls) w := by
  intro W hW a ha
  have r0 := box1 (obj_below hW (Array.getElem?_eq_some_iff.1 hr).1 hr)
  have r1 := box1 (obj_below hW (Array.getElem?_eq_some_iff.1 hb).1 hb)
  have hmW := hm.heap (w' := W) (fun o ho => obj_below hW (Array.getElem?_eq_some_iff.1 ho).1 ho)
  have hrun := intM_run Tryz.underlying3 Tryz.underlying105 Tryz.underlying3 (by rfl) hmW a (wf_i64 (hls a ha))
  rw [hf a ha] at hrun
  have hcx := cntL_lt ha
  have hrv : rowE ls row a = row.testBit (fcntL ls a) := rfl
  rw [hrv]
  obtain ⟨c, hc⟩ : ∃ c, fcntL ls a = c := ⟨_, rfl⟩
  have hcl : c < ls.length := by rw [← hc]; exact hcx
  rw [hc] at hrun ⊢
  clear hr hb hm hmW hf hrv hc hcx
  show Calls _ _ #[.int .i64 a, .pointer (some ⟨BR, 0, none⟩), .pointer (some ⟨BM, 0, none⟩)] _ _
  go_enter Tryz.func76, Tryz.ntmps76
  go_wp2
  go_ret
  exact Ret.mk (by (rw [testBit_and1i row c hrow]; rfl)) (by (repeat' (first | (with_reducible first | exact Below.refl _ _ | exact Nat.le_refl _ | refine Below.bel ?_ ?_ | refine Below.alloc ?_ ?_ _ | refine Below.drew ?_ | refine Below.drawsN ?_ _ | refine Below.setCell ?_ ?_ _ | refine le_bel ?_ | refine le_alloc ?_ | refine le_setCell ?_ | refine le_drew ?_ | refine le_drawsN ?_) | (dsimp only; with_reducible first | refine le_bel ?_ | refine Nat.le_refl _ | refine le_bel_add ?_) | (with_reducible assumption) | omega | (dsimp only; omega))))
set_option maxRecDepth 100000 in
set_option maxHeartbeats 12800000 in
theorem Equivalent_ok (P P' : Nat → Prop) (t u : F) (ad ad' : Option Addr) (cap cap' : Nat) (b : Bool) (hbe : b = true ↔ eqv t u) (w : World) (hi : InsF P w ad t.l) (hi' : InsF P' w ad' u.l) (hok : okT t) (hok' : okT u) (hn : nodes t ≤ 10000) (hl : levels t ≤ 100) (hn' : nodes u ≤ 10000) (hl' : levels u ≤ 100) (hlen : (supF [t, u]).length ≤ 12) :
    Calls Tryz.prog 36 #[.agg #[.int .i64 t.k, .int .i64 t.a, .slice ad t.l.length cap], .agg #[.int .i64 u.k, .int .i64 u.a, .slice ad' u.l.length cap']] w (Ret (.tuple #[.bool b, .int .i64 0]) w) := by
  have hc0 : checkF t = 0 := checkF_ok.2 ⟨decide_eq_true (by omega), hok⟩
  have hc1 : checkF u = 0 := checkF_ok.2 ⟨decide_eq_true (by omega), hok'⟩
  have hlt : InsF (fun c => c < w.heap.size) w ad t.l := hi.imp fun b hb _ => hb
  have hlt' : InsF (fun c => c < w.heap.size) w ad' u.l := hi'.imp fun b hb _ => hb
  have HI := Lib.hid hlt
  have HI' := Lib.hid hlt'
  have HC := Lib.hid (fun P' ad' cap' w' (h : InsF P' w' ad' [t, u]) => fchecks_any [t, u] P' ad' cap' w' h (by rw [nodesL, nodesL, nodesL]; omega))
  have hch : chkL [t, u] = 0 := by rw [chkL, chkL, chkL, hc0, hc1]; rfl
  rw [hch] at HC
  have HS := Lib.hid (fun P' ad' cap' w' (h : InsF P' w' ad' [t, u]) => support_two P' t u ad' cap' w' h (by omega) (by omega))
  have hrows := eqv_rows hok hok'
  have hsup := supF_two hok hok'
  have hsp := supF_spec [t, u]
  have hvt : ∀ v ∈ pre t, v.k = 1 → v.a ∈ supF [t, u] := fun v hv hk => (hsp.2 _).2 ⟨v, by rw [preL]; exact List.mem_append_left _ hv, hk, rfl⟩
  have hvu : ∀ v ∈ pre u, v.k = 1 → v.a ∈ supF [t, u] := fun v hv hk => (hsp.2 _).2 ⟨v, by rw [preL, preL]; exact List.mem_append_right _ (List.mem_append_left _ hv), hk, rfl⟩
  have hrange : ∀ a ∈ supF [t, u], 0 ≤ a ∧ a < 4096 := fun a ha => by
    rcases (hsup a).1 ha with h | h
    · exact occ_range hok h
    · exact occ_range hok' h
  obtain ⟨ls, hls⟩ : ∃ ls, supF [t, u] = ls := ⟨_, rfl⟩
  rw [hls] at HS hrows hsp hvt hvu hrange hlen
  have HV := Lib.hid (fun (P' : Nat → Prop) w' g lb eg row (h : InsF P' w' ad t.l) (ho : OfAt g lb (rowE ls row) (fun a => a ∈ ls) w') => value_any g lb eg (rowE ls row) (fun a => a ∈ ls) (nodes t) t (Nat.le_refl _) hok hvt (by omega) P' ad cap w' h ho)
  have HV' := Lib.hid (fun (P' : Nat → Prop) w' g lb eg row (h : InsF P' w' ad' u.l) (ho : OfAt g lb (rowE ls row) (fun a => a ∈ ls) w') => value_any g lb eg (rowE ls row) (fun a => a ∈ ls) (nodes u) u (Nat.le_refl _) hok' hvu (by omega) P' ad' cap' w' h ho)
  have HR := Lib.hid (hbe.trans hrows.symm)
  have HSO := Lib.hid hsp.1
  have HRG := Lib.hid hrange
  have f0 : decide ((12 : Int) < (ls.length : Int)) = false := decide_eq_false (by omega)
  obtain ⟨n2, hn2⟩ : ∃ n2, 2 ^ ls.length = n2 := ⟨_, rfl⟩
  have hn2l : n2 ≤ 4096 := by rw [← hn2]; exact (Nat.pow_le_pow_right (by decide) hlen : 2 ^ ls.length ≤ 2 ^ 12)
  have hsh : wrap64 ((2 : Int) ^ ls.length) = (n2 : Int) := by
    rw [show (2 : Int) ^ ls.length = ((2 ^ ls.length : Nat) : Int) by simp, hn2]
    unfold wrap64
    omega
  rw [hn2] at HR
  clear hi hi' hlt hlt' hc0 hc1 hok hok' hch hrows hsup hsp hvt hvu hrange hls hn hl hn' hl' hbe
  go_enter Tryz.func36, Tryz.ntmps36
  go_wp2_with fail
  have hrow := World.alloc_heap_new ((w.alloc (.cells #[.int .i64 t.k, .int .i64 t.a, .slice ad t.l.length cap] 26)).alloc (.cells #[.int .i64 u.k, .int .i64 u.a, .slice ad' u.l.length cap'] 26)) (.cells #[.int .i64 t.k, .int .i64 t.a, .slice ad t.l.length cap, .int .i64 u.k, .int .i64 u.a, .slice ad' u.l.length cap'] 26)
  rw [show ((w.alloc (.cells #[.int .i64 t.k, .int .i64 t.a, .slice ad t.l.length cap] 26)).alloc (.cells #[.int .i64 u.k, .int .i64 u.a, .slice ad' u.l.length cap'] 26)).heap.size = w.heap.size + 1 + 1 by simp] at hrow
  refine (HC.out (fun c => True) _ _ _ (insF_two (E := 26) (ad := ad) (cap := cap) (ad' := ad') (cap' := cap') hrow trivial ((HI.out.of (by (repeat' (first | (with_reducible first | exact Below.refl _ _ | exact Nat.le_refl _ | refine Below.bel ?_ ?_ | refine Below.alloc ?_ ?_ _ | refine Below.drew ?_ | refine Below.drawsN ?_ _ | refine Below.setCell ?_ ?_ _ | refine le_bel ?_ | refine le_alloc ?_ | refine le_setCell ?_ | refine le_drew ?_ | refine le_drawsN ?_) | (dsimp only; with_reducible first | refine le_bel ?_ | refine Nat.le_refl _ | refine le_bel_add ?_) | (with_reducible assumption) | omega | (dsimp only; omega))))).imp fun _ _ _ => trivial) ((HI'.out.of (by (repeat' (first | (with_reducible first | exact Below.refl _ _ | exact Nat.le_refl _ | refine Below.bel ?_ ?_ | refine Below.alloc ?_ ?_ _ | refine Below.drew ?_ | refine Below.drawsN ?_ _ | refine Below.setCell ?_ ?_ _ | refine le_bel ?_ | refine le_alloc ?_ | refine le_setCell ?_ | refine le_drew ?_ | refine le_drawsN ?_) | (dsimp only; with_reducible first | refine le_bel ?_ | refine Nat.le_refl _ | refine le_bel_add ?_) | (with_reducible assumption) | omega | (dsimp only; omega))))).imp fun _ _ _ => trivial))).mono ?_
  rintro _ _ ⟨rfl, y1, rfl⟩
  have hs1 := y1.size_le
  simp at hs1
  have hO0 := obj_bel ⟨y1.w, (by (repeat' (first | (with_reducible first | exact Below.refl _ _ | exact Nat.le_refl _ | refine Below.bel ?_ ?_ | refine Below.alloc ?_ ?_ _ | refine Below.drew ?_ | refine Below.drawsN ?_ _ | refine Below.setCell ?_ ?_ _ | refine le_bel ?_ | refine le_alloc ?_ | refine le_setCell ?_ | refine le_drew ?_ | refine le_drawsN ?_) | (dsimp only; with_reducible first | refine le_bel ?_ | refine Nat.le_refl _ | refine le_bel_add ?_) | (with_reducible assumption) | omega | (dsimp only; omega))) : Below ((w.alloc (.cells #[.int .i64 t.k, .int .i64 t.a, .slice ad t.l.length cap] 26)).alloc (.cells #[.int .i64 u.k, .int .i64 u.a, .slice ad' u.l.length cap'] 26)).heap.size ((w.alloc (.cells #[.int .i64 t.k, .int .i64 t.a, .slice ad t.l.length cap] 26)).alloc (.cells #[.int .i64 u.k, .int .i64 u.a, .slice ad' u.l.length cap'] 26)) y1.w)⟩ (heap2_0 w (.cells #[.int .i64 t.k, .int .i64 t.a, .slice ad t.l.length cap] 26) (.cells #[.int .i64 u.k, .int .i64 u.a, .slice ad' u.l.length cap'] 26))
  have hO1 := obj_bel ⟨y1.w, (by (repeat' (first | (with_reducible first | exact Below.refl _ _ | exact Nat.le_refl _ | refine Below.bel ?_ ?_ | refine Below.alloc ?_ ?_ _ | refine Below.drew ?_ | refine Below.drawsN ?_ _ | refine Below.setCell ?_ ?_ _ | refine le_bel ?_ | refine le_alloc ?_ | refine le_setCell ?_ | refine le_drew ?_ | refine le_drawsN ?_) | (dsimp only; with_reducible first | refine le_bel ?_ | refine Nat.le_refl _ | refine le_bel_add ?_) | (with_reducible assumption) | omega | (dsimp only; omega))) : Below ((w.alloc (.cells #[.int .i64 t.k, .int .i64 t.a, .slice ad t.l.length cap] 26)).alloc (.cells #[.int .i64 u.k, .int .i64 u.a, .slice ad' u.l.length cap'] 26)).heap.size ((w.alloc (.cells #[.int .i64 t.k, .int .i64 t.a, .slice ad t.l.length cap] 26)).alloc (.cells #[.int .i64 u.k, .int .i64 u.a, .slice ad' u.l.length cap'] 26)) y1.w)⟩ (heap2_1 w (.cells #[.int .i64 t.k, .int .i64 t.a, .slice ad t.l.length cap] 26) (.cells #[.int .i64 u.k, .int .i64 u.a, .slice ad' u.l.length cap'] 26))
  have hb1 : Below w.heap.size w y1.w := by (repeat' (first | (with_reducible first | exact Below.refl _ _ | exact Nat.le_refl _ | refine Below.bel ?_ ?_ | refine Below.alloc ?_ ?_ _ | refine Below.drew ?_ | refine Below.drawsN ?_ _ | refine Below.setCell ?_ ?_ _ | refine le_bel ?_ | refine le_alloc ?_ | refine le_setCell ?_ | refine le_drew ?_ | refine le_drawsN ?_) | (dsimp only; with_reducible first | refine le_bel ?_ | refine Nat.le_refl _ | refine le_bel_add ?_) | (with_reducible assumption) | omega | (dsimp only; omega)))
  obtain ⟨W1, hW1⟩ : ∃ W1, y1.w = W1 := ⟨_, rfl⟩
  rw [hW1] at hs1 hb1 hO0 hO1 ⊢
  clear hW1 hrow y1
  obtain ⟨b0, b1, b2⟩ := box3 hO0
  obtain ⟨c0, c1, c2⟩ := box3 hO1
  dsimp only
  go_wp2_with fail
  refine (HS.out (fun c => True) _ _ _ (insF_two (E := 26) (ad := ad) (cap := cap) (ad' := ad') (cap' := cap') (World.alloc_heap_new _ _) trivial ((HI.out.of (by (repeat' (first | (with_reducible first | exact Below.refl _ _ | exact Nat.le_refl _ | refine Below.bel ?_ ?_ | refine Below.alloc ?_ ?_ _ | refine Below.drew ?_ | refine Below.drawsN ?_ _ | refine Below.setCell ?_ ?_ _ | refine le_bel ?_ | refine le_alloc ?_ | refine le_setCell ?_ | refine le_drew ?_ | refine le_drawsN ?_) | (dsimp only; with_reducible first | refine le_bel ?_ | refine Nat.le_refl _ | refine le_bel_add ?_) | (with_reducible assumption) | omega | (dsimp only; omega))))).imp fun _ _ _ => trivial) ((HI'.out.of (by (repeat' (first | (with_reducible first | exact Below.refl _ _ | exact Nat.le_refl _ | refine Below.bel ?_ ?_ | refine Below.alloc ?_ ?_ _ | refine Below.drew ?_ | refine Below.drawsN ?_ _ | refine Below.setCell ?_ ?_ _ | refine le_bel ?_ | refine le_alloc ?_ | refine le_setCell ?_ | refine le_drew ?_ | refine le_drawsN ?_) | (dsimp only; with_reducible first | refine le_bel ?_ | refine Nat.le_refl _ | refine le_bel_add ?_) | (with_reducible assumption) | omega | (dsimp only; omega))))).imp fun _ _ _ => trivial))).mono ?_
  rintro _ _ ⟨v2, rfl, y2, rfl, hown⟩
  have HOW := Lib.hid hown
  have hs2 := y2.size_le
  simp at hs2
  have hbW : Below W1.heap.size W1 y2.w := by (repeat' (first | (with_reducible first | exact Below.refl _ _ | exact Nat.le_refl _ | refine Below.bel ?_ ?_ | refine Below.alloc ?_ ?_ _ | refine Below.drew ?_ | refine Below.drawsN ?_ _ | refine Below.setCell ?_ ?_ _ | refine le_bel ?_ | refine le_alloc ?_ | refine le_setCell ?_ | refine le_drew ?_ | refine le_drawsN ?_) | (dsimp only; with_reducible first | refine le_bel ?_ | refine Nat.le_refl _ | refine le_bel_add ?_) | (with_reducible assumption) | omega | (dsimp only; omega)))
  have hO02 := obj_below hbW (by omega) hO0
  have hO12 := obj_below hbW (by omega) hO1
  have hb2 := hb1.trans (hbW.mono hb1.size)
  obtain ⟨W2, hW2⟩ : ∃ W2, y2.w = W2 := ⟨_, rfl⟩
  rw [hW2] at hs2 hb2 hO02 hO12 HOW ⊢
  clear hW2 hbW hO0 hO1 hb1 b0 b1 b2 c0 c1 c2 hown y2
  obtain ⟨a5, c5, rfl, hcl⟩ := showsV_at (ownV_shows HOW.out)
  have hil : (intsV ls).length = ls.length := by simp [intsV]
  rw [hil] at hcl ⊢
  have HCL := Lib.hid hcl
  have HB2 := Lib.hid hb2
  have HO0 := Lib.hid hO02
  have HO1 := Lib.hid hO12
  have hmm := @run_makeMap Tryz.prog
  clear hcl hil HOW hb2 hO02 hO12
  dsimp only
  go_wp2
  go_loopw [30] (fun i wr => ∃ (k : Nat) (f : Int → Int), i = .int .i64 (k : Int) ∧ k ≤ ls.length ∧ IntM Tryz.prog 3 3 wr W2.heap.size k f ∧ (∀ a ∈ ls.take k, f a = (fcntL ls a : Nat)) ∧ wr.heap[W2.heap.size + 1]? = some (.cells #[.map (some W2.heap.size)] 105 (0, 0)) ∧ Below W2.heap.size W2 wr ∧ W2.heap.size + 2 ≤ wr.heap.size) (fun i _ => ls.length - (intOf i).toNat)
  case atStart =>
    have hb0 := World.alloc_heap_new (W2.alloc (.map #[] 0)) (.cells #[.map (some W2.heap.size)] 105)
    rw [World.size_alloc] at hb0
    exact ⟨0, fun _ => 0, rfl, by omega, (intM_made W2 _ _ _).heap fun o ho => obj_below ((Below.refl _ _).alloc (Nat.le_refl _) _) (Array.getElem?_eq_some_iff.1 ho).1 ho, fun a ha => by simp at ha, hb0, by (repeat' (first | (with_reducible first | exact Below.refl _ _ | exact Nat.le_refl _ | refine Below.bel ?_ ?_ | refine Below.alloc ?_ ?_ _ | refine Below.drew ?_ | refine Below.drawsN ?_ _ | refine Below.setCell ?_ ?_ _ | refine le_bel ?_ | refine le_alloc ?_ | refine le_setCell ?_ | refine le_drew ?_ | refine le_drawsN ?_) | (dsimp only; with_reducible first | refine le_bel ?_ | refine Nat.le_refl _ | refine le_bel_add ?_) | (with_reducible assumption) | omega | (dsimp only; omega))), by simp⟩
  case round =>
    obtain ⟨k, f, rfl, hk, him, hf, hbox, hb, hsz⟩ := hrel
    have r0 := box1 hbox
    have HIM := Lib.hid him
    have HF := Lib.hid hf
    clear hf
    rcases Nat.lt_or_ge k ls.length with hkl | hkl
    · obtain ⟨a, ha⟩ := some_at hkl
      have hra := HRG.out a (List.mem_of_getElem? ha)
      have hidx := cntL_idx HSO.out ha
      obtain ⟨gb, go, hadd, hcc⟩ := HCL.out (by omega)
      subst hadd
      have hcell := below_cell hb _ _ _ (hcc k (.int .i64 a) (by unfold intsV; rw [List.getElem?_map, ha]; rfl))
      have hib2 : (0 ≤ (k : Int) ∧ (k : Int) < (ls.length : Int)) := ⟨by omega, by omega⟩
      have f1 : decide ((k : Int) < (ls.length : Int)) = true := decide_eq_true (by omega)
      have HTK := Lib.hid (show ls.take (k + 1) = ls.take k ++ [a] by rw [List.take_add_one, ha]; rfl)
      have HID := Lib.hid hidx
      have HB := Lib.hid hb
      have HBX := Lib.hid hbox
      clear hcc ha hidx him hb hbox
      go_wp2_with (at_mapUpdate; refine wpList_update_intM _ rfl _ _ _ _ rfl 3 3 Tryz.underlying3 Tryz.underlying105 Tryz.underlying3 W2.heap.size k f rfl HIM.out (by unfold maxLen; omega) a rfl (wf_i64 ⟨by omega, by omega⟩) (k : Int) rfl (wf_i64 ⟨by omega, by omega⟩) ?_; intro w3 hm3 hg3; have HM3 := Lib.hid hm3; have HG3 := Lib.hid hg3; have hs3 := hg3.size; clear hm3 hg3)
      go_roundw
      case rel =>
        refine ⟨k + 1, _, by go_num, by omega, HM3.out, fun y hy => ?_, ?_, HB.out.grown HG3.out (by omega) (fun j e => by injection e with e; omega), by omega⟩
        · rw [HTK.out] at hy
          split
          · rename_i e; rw [e, HID.out]
          · rename_i e
            rcases List.mem_append.1 hy with hy | hy
            · exact HF.out y hy
            · exact absurd (List.mem_singleton.1 hy) e
        · exact (HG3.out.block _ (by omega) (fun e => by injection e with e; omega)).trans HBX.out
      case measure => simp [intOf]; omega
    · have hke : k = ls.length := by omega
      subst hke
      have f1 : decide ((ls.length : Int) < (ls.length : Int)) = false := decide_eq_false (by omega)
      rw [List.take_length] at HF
      have HB := Lib.hid hb
      have HBX := Lib.hid hbox
      obtain ⟨W3, hW3⟩ : ∃ W3, W3 = wr := ⟨_, rfl⟩
      subst hW3
      obtain ⟨MB, hMB⟩ : ∃ MB, W2.heap.size = MB := ⟨_, rfl⟩
      clear him hb hbox
      have HIM3 := HIM
      clear HIM r0 hMB MB
      go_wp2
      go_loopw [42] (fun i wr => ∃ r : Nat, i = .int .i64 (r : Int) ∧ r ≤ n2 ∧ (∀ q : Nat, q < r → val (rowE ls q) t = val (rowE ls q) u) ∧ Below W3.heap.size W3 wr) (fun i _ => n2 - (intOf i).toNat)
      case atStart => exact ⟨0, rfl, by omega, fun q hq => absurd hq (Nat.not_lt_zero q), Below.refl _ _⟩
      case round =>
        obtain ⟨r, rfl, hr, hq, hb3⟩ := hrel
        have HQ := Lib.hid hq
        clear hq
        rcases Nat.lt_or_ge r n2 with hrl | hrl
        · have f2 : decide ((r : Int) < (n2 : Int)) = true := decide_eq_true (by omega)
          have hb3s := hb3.size
          have hb2r : Below W2.heap.size W2 wr := HB.out.trans (hb3.mono HB.out.size)
          have hbal : Below wr.heap.size wr (wr.alloc (.cells #[.int .i64 (r : Int)] 3)) := (Below.refl _ _).alloc (Nat.le_refl _) _
          have hb2a := hb2r.trans (hbal.mono hb2r.size)
          have hob0 := obj_below hb2a (Array.getElem?_eq_some_iff.1 HO0.out).1 HO0.out
          have hob1 := obj_below hb2a (Array.getElem?_eq_some_iff.1 HO1.out).1 HO1.out
          obtain ⟨b0, b1, b2⟩ := box3 hob0
          obtain ⟨c0, c1, c2⟩ := box3 hob1
          have hb3a := hb3.trans (hbal.mono hb3s)
          have HOF := Lib.hid (ofAt_rows ls r (by omega) f HF.out (fun a ha => by have := HRG.out a ha; omega) (by omega) wr.heap.size (W2.heap.size + 1) W2.heap.size ls.length (wr.alloc (.cells #[.int .i64 (r : Int)] 3))
            (HIM3.out.heap fun o ho => obj_below hb3a (Array.getElem?_eq_some_iff.1 ho).1 ho) (World.alloc_heap_new _ _) (obj_below hb3a (Array.getElem?_eq_some_iff.1 HBX.out).1 HBX.out))
          have HB0 := Lib.hid (HB2.out.trans (hb2a.mono HB2.out.size))
          have HBWR := Lib.hid (HB2.out.trans (hb2r.mono HB2.out.size))
          have HIt := Lib.hid (HI.out.of HB0.out)
          have HIu := Lib.hid (HI'.out.of HB0.out)
          have HB3 := Lib.hid hb3
          obtain ⟨vt, hvt⟩ : ∃ vt, val (rowE ls r) t = vt := ⟨_, rfl⟩
          obtain ⟨vu, hvu⟩ : ∃ vu, val (rowE ls r) u = vu := ⟨_, rfl⟩
          have HVt := Lib.hid (fun (P' : Nat → Prop) w' g lb eg (h : InsF P' w' ad t.l) (ho : OfAt g lb (rowE ls r) (fun a => a ∈ ls) w') => HV.out P' w' g lb eg r h ho)
          have HVu := Lib.hid (fun (P' : Nat → Prop) w' g lb eg (h : InsF P' w' ad' u.l) (ho : OfAt g lb (rowE ls r) (fun a => a ∈ ls) w') => HV'.out P' w' g lb eg r h ho)
          rw [hvt] at HVt
          rw [hvu] at HVu
          have HVT := Lib.hid (And.intro hvt hvu)
          clear hb2r hbal hb2a hob0 hob1 hb3a hb3 hvt hvu
          go_wp2_with fail
          refine wp_region_bel (by kernel_rfl) (by kernel_rfl) ?_
          repeat (go_big_quiet_step ((first | (go_at_call 77; with_reducible refine bel_of (HVt.out _ _ _ _ egE (HIt.out.of ?_) (HOF.out.of ?_)) <;> (repeat' (first | (with_reducible first | exact Below.refl _ _ | exact Nat.le_refl _ | refine Below.bel ?_ ?_ | refine Below.alloc ?_ ?_ _ | refine Below.drew ?_ | refine Below.drawsN ?_ _ | refine Below.setCell ?_ ?_ _ | refine le_bel ?_ | refine le_alloc ?_ | refine le_setCell ?_ | refine le_drew ?_ | refine le_drawsN ?_) | (dsimp only; with_reducible first | refine le_bel ?_ | refine Nat.le_refl _ | refine le_bel_add ?_) | (with_reducible assumption) | omega | (dsimp only; omega)))) | (go_at_call 77; with_reducible refine bel_of (HVu.out _ _ _ _ egE (HIu.out.of ?_) (HOF.out.of ?_)) <;> (repeat' (first | (with_reducible first | exact Below.refl _ _ | exact Nat.le_refl _ | refine Below.bel ?_ ?_ | refine Below.alloc ?_ ?_ _ | refine Below.drew ?_ | refine Below.drawsN ?_ _ | refine Below.setCell ?_ ?_ _ | refine le_bel ?_ | refine le_alloc ?_ | refine le_setCell ?_ | refine le_drew ?_ | refine le_drawsN ?_) | (dsimp only; with_reducible first | refine le_bel ?_ | refine Nat.le_refl _ | refine le_bel_add ?_) | (with_reducible assumption) | omega | (dsimp only; omega)))))))
          refine wpQuiet_nil ?_
          rintro _ ⟨z, rfl⟩
          have hzs := z.size_le
          simp at hzs
          have hbz := HB0.out.trans (z.below.mono HB0.out.size)
          have hb3z := HB3.out.trans (((Below.refl _ _).alloc (Nat.le_refl _) _).trans (z.below.mono (by simp)) |>.mono HB3.out.size)
          have HBZ := Lib.hid hbz
          have HB3Z := Lib.hid hb3z
          clear hbz hb3z
          cases vt
          · cases vu
            · go_wp2
              go_roundw
              case rel =>
                refine ⟨r + 1, by go_num, by omega, fun q hq => ?_, HB3Z.out⟩
                rcases Nat.lt_or_ge q r with h | h
                · exact HQ.out q h
                · have : q = r := by omega
                  rw [this, HVT.out.1, HVT.out.2]
              case measure => simp [intOf]; omega
            · have hbf : b = false := by
                cases hb : b
                · rfl
                · have h := HR.out.1 hb r hrl
                  rw [HVT.out.1, HVT.out.2] at h
                  cases h
              subst hbf
              go_wp2
              have hbw := HBWR.out
              have hbws := hbw.size
              refine bodyPost_ret (v := .tuple #[.bool false, .int .i64 0]) (by simp [results, Tryz.results36, go_sem]) rfl (Ret.mk (by rfl) (by (repeat' (first | (with_reducible first | exact Below.refl _ _ | exact Nat.le_refl _ | refine Below.bel ?_ ?_ | refine Below.alloc ?_ ?_ _ | refine Below.drew ?_ | refine Below.drawsN ?_ _ | refine Below.setCell ?_ ?_ _ | refine le_bel ?_ | refine le_alloc ?_ | refine le_setCell ?_ | refine le_drew ?_ | refine le_drawsN ?_) | (dsimp only; with_reducible first | refine le_bel ?_ | refine Nat.le_refl _ | refine le_bel_add ?_) | (with_reducible assumption) | omega | (dsimp only; omega)))))
          · cases vu
            · have hbf : b = false := by
                cases hb : b
                · rfl
                · have h := HR.out.1 hb r hrl
                  rw [HVT.out.1, HVT.out.2] at h
                  cases h
              subst hbf
              go_wp2
              have hbw := HBWR.out
              have hbws := hbw.size
              refine bodyPost_ret (v := .tuple #[.bool false, .int .i64 0]) (by simp [results, Tryz.results36, go_sem]) rfl (Ret.mk (by rfl) (by (repeat' (first | (with_reducible first | exact Below.refl _ _ | exact Nat.le_refl _ | refine Below.bel ?_ ?_ | refine Below.alloc ?_ ?_ _ | refine Below.drew ?_ | refine Below.drawsN ?_ _ | refine Below.setCell ?_ ?_ _ | refine le_bel ?_ | refine le_alloc ?_ | refine le_setCell ?_ | refine le_drew ?_ | refine le_drawsN ?_) | (dsimp only; with_reducible first | refine le_bel ?_ | refine Nat.le_refl _ | refine le_bel_add ?_) | (with_reducible assumption) | omega | (dsimp only; omega)))))
            · go_wp2
              go_roundw
              case rel =>
                refine ⟨r + 1, by go_num, by omega, fun q hq => ?_, HB3Z.out⟩
                rcases Nat.lt_or_ge q r with h | h
                · exact HQ.out q h
                · have : q = r := by omega
                  rw [this, HVT.out.1, HVT.out.2]
              case measure => simp [intOf]; omega
        · have hre : r = n2 := by omega
          subst hre
          have f2 : decide ((r : Int) < (r : Int)) = false := decide_eq_false (by omega)
          have hbt : b = true := HR.out.2 HQ.out
          subst hbt
          have HB0 := Lib.hid (HB2.out.trans ((HB.out.mono HB2.out.size).trans (hb3.mono (Nat.le_trans HB2.out.size HB.out.size))))
          clear hb3
          go_wp2
          have hbw := HB0.out
          refine bodyPost_ret (v := .tuple #[.bool true, .int .i64 0]) (by simp [results, Tryz.results36, go_sem]) rfl (Ret.mk (by rfl) (by (repeat' (first | (with_reducible first | exact Below.refl _ _ | exact Nat.le_refl _ | refine Below.bel ?_ ?_ | refine Below.alloc ?_ ?_ _ | refine Below.drew ?_ | refine Below.drawsN ?_ _ | refine Below.setCell ?_ ?_ _ | refine le_bel ?_ | refine le_alloc ?_ | refine le_setCell ?_ | refine le_drew ?_ | refine le_drawsN ?_) | (dsimp only; with_reducible first | refine le_bel ?_ | refine Nat.le_refl _ | refine le_bel_add ?_) | (with_reducible assumption) | omega | (dsimp only; omega)))))
end Go.Proofs.YtkdmhjlcgpnjpaaGreatDoor
