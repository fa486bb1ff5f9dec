/- The variables of a formula, or of two. -/
import Derived.Test.YtkbellmhanpocaaGreatDoorS1
namespace Go.Proofs.YtkbellmhanpocaaGreatDoor
set_option linter.unusedVariables false
set_option linter.unusedSimpArgs false
open Go.RowKit F
attribute [local go_sem low] Bel.cell Bel.frozen alloc_cell alloc_frozen
attribute [local go_sem] Oper.semAt_some

theorem Tryz.infoI : (Tryz.prog.info? 3).map (fun i => (i.zero, i.size, i.bytes)) = some (some (.int .i64 0), 1, 8) := by kernel_rfl
/-- What support returns. -/
def SupRet (xs : List Int) (w : World) (e : Ending) (w' : World) : Prop := ∃ v, e = .returned v ∧ ∃ y : Bel w, w' = y.w ∧ OwnV y.w w.heap.size 3 v (intsV xs)
theorem ownsRow_ne {W : World} {base : Nat} {e : TypeId} {size : Nat} {v : Value} {k : Nat} {xs : List Value} (h : W.ownsRow base e size v k xs) {j : Nat} {o : Obj} (hj : W.heap[j]? = some o) (hno : ∀ cur, o ≠ .cells cur e (0, 0)) : v.ownBlock ≠ some j := by
  rcases h.2 with ⟨rfl, _⟩ | ⟨g, cap, cur, rfl, _, hgb, _⟩
  · intro h; cases h
  · intro e'
    have : g = j := by simpa [Value.ownBlock] using e'
    subst this; rw [hgb] at hj; cases hj; exact hno cur rfl
/-- What has been collected: the box at b shows it. -/
def ColSt (w : World) (b : Nat) (xs : List Int) (W : World) : Prop := ∃ v, W.heap[b]? = some (.cells #[v] 50 (0, 0)) ∧ OwnV W (b + 1) 3 v (intsV xs) ∧ Below b w W
theorem ColSt.lt {w W : World} {b : Nat} {xs : List Int} (h : ColSt w b xs W) : b < W.heap.size := by
  obtain ⟨v, h1, _⟩ := h
  exact (Array.getElem?_eq_some_iff.1 h1).1
theorem ColSt.own {w : World} {b B : Nat} {xs : List Nd → List Int} (hb : b ≤ B) : OwnFrom B (fun (p : List Nd) W => ColSt w b (xs p) W) := fun s W W' row hs hg hr => by
  have hlt := hs.lt
  obtain ⟨v, h1, h2, h3⟩ := hs
  refine ⟨v, obj_own _ _ _ rfl () W W' row h1 hg hr, World.ownsRow.kept h2 hg ?_, h3.grown hg (by omega) (fun k hk => by have := (hr k hk).1; omega)⟩
  cases row with
  | none => cases hv : v.ownBlock <;> simp
  | some k =>
    obtain ⟨_, o, ho, hc⟩ := hr k rfl
    exact .inr (ownsRow_ne h2 ho (fun cur e => by rw [e] at hc; cases hc))
theorem own_cells {W : World} {base : Nat} {e : TypeId} {v : Value} {l : List Value} (h : OwnV W base e v l) : ∀ k, v.ownBlock = some k → base ≤ k ∧ ∃ cur, W.heap[k]? = some (.cells cur e (0, 0)) := fun k hk => by
  rcases h.2 with ⟨rfl, _⟩ | ⟨g, cap, cur, rfl, hg, hgb, _⟩
  · cases hk
  · cases hk
    exact ⟨hg, cur, hgb⟩
theorem varsP_snoc (l : List F) (t : F) : varsP (l ++ [t]) = varsP l ++ (if t.k = 1 then [t.a] else []) := by
  rw [varsP_app, varsP, varsP]
set_option maxRecDepth 100000 in
set_option maxHeartbeats 12800000 in
theorem support_one (P : Nat → Prop) (t : F) (ad : Option Addr) (cap : Nat) (w : World) (hi : InsF P w ad [t]) (hbig : nodes t ≤ 100000000) :
    Calls Tryz.prog 36 #[.slice ad 1 cap] w (SupRet (supF [t]) w) := by
  obtain ⟨i0, hi0, hz0, hz1, hz2⟩ := info_parts Tryz.infoI
  have hlt : InsF (fun c => c < w.heap.size) w ad [t] := hi.imp fun b hb _ => hb
  obtain ⟨bb, off, rfl, hp, hcs⟩ := insF_at hlt (by simp)
  obtain ⟨c0, c1, ad', cap', c2, hit⟩ := cellF_open (hcs 0 t rfl)
  rw [Nat.zero_mul, Nat.add_zero] at c0 c1 c2
  have HIT := Lib.hid hit
  clear hi hlt hcs hit hp
  refine (callsIn_wide (n := 3)).1 ?_
  refine callsIn_of_wp_marks Tryz.func36 rfl trivial ?_ rfl
  simp only [Tryz.ntmps36, List.size_toArray, List.length_cons, List.length_nil, Nat.reduceAdd, Nat.reduceSub, Array.replicate_succ, Array.replicate_zero, List.push_toArray, List.append_toArray, List.nil_append, List.cons_append]
  gi_wp2
  refine wpIn_loop_rounds 2 ?_
  rw [roundsIn_succ]
  have HSTA := Lib.hid (show ColSt w w.heap.size [] (w.alloc (.cells #[.slice none 0 0] 50)) from ⟨_, World.alloc_heap_new w _, ownV_nil _ _ _, (Below.refl _ _).alloc (Nat.le_refl _) _⟩)
  have hxs0 : ([] : List Int).length ≤ 100000000 := by simp
  gi_wp2_with (first | (refine ⟨trivial, ?_⟩; gi_at_call 39; refine (callsIn_wide.2 (nodes_any t ad' cap' _)).mono ?_; rintro _ _ ⟨rfl, rfl⟩))
  obtain ⟨W0, hW0⟩ : ∃ W0, (((w.alloc (.cells #[.slice none 0 0] 50)).alloc (.cells #[.int .i64 t.k, .int .i64 t.a, .slice ad' t.l.length cap'] 26)).alloc (.cells #[.int .i64 t.k, .int .i64 t.a, .slice ad' t.l.length cap'] 26)).alloc (.cells #[walkV ((w.heap.size + 1) + 1 + 1)] 87) = W0 := ⟨_, rfl⟩
  have hsz0 : W0.heap.size = (w.heap.size + 1) + 3 := by rw [← hW0]; simp
  have hwalk : WalkAt W0 ((w.heap.size + 1) + 1 + 1) := by
    rw [← hW0]
    have := World.alloc_heap_new (((w.alloc (.cells #[.slice none 0 0] 50)).alloc (.cells #[.int .i64 t.k, .int .i64 t.a, .slice ad' t.l.length cap'] 26)).alloc (.cells #[.int .i64 t.k, .int .i64 t.a, .slice ad' t.l.length cap'] 26)) (.cells #[walkV ((w.heap.size + 1) + 1 + 1)] 87)
    simp only [World.size_alloc] at this
    exact this
  have hbox : W0.heap[(w.heap.size + 1) + 1]? = some (.cells #[.int .i64 t.k, .int .i64 t.a, .slice ad' t.l.length cap'] 26 (0, 0)) := by
    rw [← hW0]
    have := heap3_1 (w.alloc (.cells #[.slice none 0 0] 50)) (.cells #[.int .i64 t.k, .int .i64 t.a, .slice ad' t.l.length cap'] 26) (.cells #[.int .i64 t.k, .int .i64 t.a, .slice ad' t.l.length cap'] 26) (.cells #[walkV ((w.heap.size + 1) + 1 + 1)] 87)
    simpa using this
  have hBA : Below (w.alloc (.cells #[.slice none 0 0] 50)).heap.size (w.alloc (.cells #[.slice none 0 0] 50)) W0 := by rw [← hW0]; (repeat' (first | (with_reducible exact Below.refl _ _) | (with_reducible exact Nat.le_refl _) | (with_reducible refine Below.bel ?_ ?_) | (with_reducible refine Below.alloc ?_ ?_ _) | (with_reducible refine Below.drew ?_) | (with_reducible refine Below.drawsN ?_ _) | (with_reducible refine Below.setCell ?_ ?_ _) | (with_reducible refine le_bel ?_) | (with_reducible refine le_alloc ?_) | (with_reducible refine le_setCell ?_) | (with_reducible refine le_drew ?_) | (with_reducible refine le_drawsN ?_) | (dsimp only; with_reducible refine le_bel ?_) | (dsimp only; with_reducible refine Nat.le_refl _) | (dsimp only; with_reducible refine le_bel_add ?_) | (with_reducible assumption) | omega | (dsimp only; omega)))
  have hst0 : ColSt w w.heap.size ([] : List Int) W0 := by
    obtain ⟨v, h1, h2, h3⟩ := HSTA.out
    exact ⟨v, obj_bel ⟨_, hBA⟩ h1, ownV_bel h2 ⟨_, hBA⟩, h3.trans (hBA.mono (by simp; try omega))⟩
  have hin0 : InsF (fun c => c < w.heap.size) W0 ad' t.l := HIT.out.of (by
    obtain ⟨v, h1, h2, h3⟩ := hst0
    exact h3)
  rw [hW0]
  clear hW0 hBA
  refine wpIn_rangeFunc_ownH rfl (by omega : 1 ≤ 3) (gf := 55) (lb := #[.pointer (some ⟨(w.heap.size + 1) + 1 + 1, 0, none⟩), .pointer (some ⟨(w.heap.size + 1) + 1, 0, none⟩)]) rfl trivial (enters_of Tryz.func55 (by kernel_rfl) rfl)
    (nodes_stops (3 - 1) w.heap.size ((w.heap.size + 1) + 1) ((w.heap.size + 1) + 1 + 1) ((w.heap.size + 1) + 1) t ad' cap' W0 (by omega) (Nat.le_refl _) (by omega) (by omega) (by omega) hin0 hwalk hbox) keepsB_t (keepsB_b (by omega)) (Below.refl _ _) (fun _ => rfl)
    (fun p W => ColSt w w.heap.size (([] : List Int) ++ varsP (p.map (·.1))) W) (fun _ _ _ => False) (ColSt.own (xs := fun p => ([] : List Int) ++ varsP (p.map (·.1))) (by omega)) (fun _ => fun _ _ _ _ h _ _ => h) (by simpa [varsP] using hst0)
    (fun x a' W => ∃ Bx, W.heap[Bx]? = some (.cells #[.int .i64 x.1.k, .int .i64 x.1.a, .slice x.2.1 x.1.l.length x.2.2] 26 (0, 0)) ∧ a' = { tmps := (#[.slice (some ⟨bb, off, none⟩) 1 cap, undef, .slice none 0 0, .pointer (some ⟨w.heap.size, 0, none⟩), undef, .pointer (some ⟨w.heap.size + 1, 0, none⟩), .pointer (some ⟨Bx, 0, none⟩), .slice (some ⟨bb, off, none⟩) 1 cap, .int .i64 1, .int .i64 0, .bool true, .pointer (some ⟨bb, off, none⟩), .agg #[.int .i64 t.k, .int .i64 t.a, .slice ad' t.l.length cap'], .agg #[.int .i64 t.k, .int .i64 t.a, .slice ad' t.l.length cap'], .func (.func 55) #[] #[.pointer (some ⟨w.heap.size + 1 + 1 + 1, 0, none⟩), .pointer (some ⟨w.heap.size + 1 + 1, 0, none⟩)], .agg #[.int .i64 x.1.k, .int .i64 x.1.a, .slice x.2.1 x.1.l.length x.2.2], undef, undef, undef, undef, undef, undef, undef, undef, undef, undef, undef, undef, undef]), defers := [] })
    (fun x a' _ X Y row hs hg hr => by obtain ⟨Bx, e1, e2⟩ := hs; exact ⟨Bx, obj_own _ _ _ rfl () X Y row e1 hg hr, e2⟩)
    ?assign ?body ?done ?stop
  case assign =>
    rintro l p x W K hst hK
    have hlt := hst.lt
    dsimp only [ndV]
    gi_wp2
    exact hK _ _ ((KeepsOthers.alloc _ _).from _) (keepsB_alloc (keepsB_refl _ _ _) (by omega) _) (ColSt.own (xs := fun p => ([] : List Int) ++ varsP (p.map (·.1))) (Nat.le_refl _) p W _ none hst (World.grownBy_alloc W _ none) (fun r e => by cases e)) ⟨W.heap.size, World.alloc_heap_new W _, rfl⟩
  case body =>
    rintro l p x a' W hl ⟨r, hrl⟩ hst ⟨Bx, hbx, rfl⟩ hlen
    obtain ⟨c0', c1', c2'⟩ := box3 hbx
    have hlt := hst.lt
    obtain ⟨v, hv, hown, hb⟩ := hst
    have r0 := box1 hv
    have hpl : (varsP (p.map (·.1))).length ≤ p.length := by have := varsP_len (p.map (·.1)); rwa [List.length_map] at this
    have hvl : (intsV (([] : List Int) ++ varsP (p.map (·.1)))).length ≤ 200000000 := by unfold intsV; rw [List.length_map, List.length_append]; omega
    obtain ⟨NL, hNL⟩ : ∃ NL, (intsV (([] : List Int) ++ varsP (p.map (·.1)))).length = NL := ⟨_, rfl⟩
    have HOW := Lib.hid hown
    have HON := Lib.hid (show W.ownsRow (w.heap.size + 1) 3 1 v NL (intsV (([] : List Int) ++ varsP (p.map (·.1)))) from by rw [← hNL]; exact hown)
    have HNL := Lib.hid hNL
    rw [hNL] at hvl
    clear hNL
    have HV := Lib.hid hv
    have HB := Lib.hid hb
    clear hown hv hb hpl
    by_cases hk : x.1.k = 1
    · have f1 : (x.1.k == 1) = true := beq_iff_eq.2 hk
      have HXS := Lib.hid (show varsP ((p ++ [x]).map (·.1)) = varsP (p.map (·.1)) ++ [x.1.a] by rw [List.map_append, List.map_singleton, varsP_snoc, if_pos hk])
      clear hk
      gi_wp2_with (gi_at_builtin; refine wpListIn_append_own _ rfl _ _ 50 rfl (w.heap.size + 1) 3 i0 (.int .i64 0) 1 8 Tryz.underlying50 hi0 hz0 hz1 hz2 rfl (by decide) _ _ _ rfl (World.ownsRow.alloc HON.out _) ⟨W.heap.size, 0, none⟩ 1 1 [.int .i64 x.1.a] rfl rfl (cell_one_new _ _ _) (by simp [Value.oneCell']) (by unfold maxLen; omega) (by omega) (by simp; omega) ?_; intro v' w1 hown' hgrow _; obtain ⟨g', cap2, rfl⟩ := ownsRow_succ hown'; have hv1 := Lib.hid ((hgrow.block w.heap.size (by simp; omega) (fun e => by have := (World.ownsRow.lt HOW.out w.heap.size e.symm).1; omega)).trans ((Below.heap_alloc _ _ w.heap.size hlt).trans HV.out)); have r1 := box1 hv1.out; have r2 := Boxed.frozen hv1.out; have HO1 := Lib.hid hown'; have HG1 := Lib.hid hgrow; clear hown' hgrow)
      obtain ⟨v', hv'⟩ : ∃ v', (Value.slice (some ⟨g', 0, none⟩) (NL + 1) cap2) = v' := ⟨_, rfl⟩
      rw [hv'] at HO1 ⊢
      have hox := own_cells HOW.out
      have hsz1 := HG1.out.size
      simp at hsz1
      have hs1 := obj_set (i := 0) v' hv1.out
      have hox1 : ∀ k, v.ownBlock = some k → w.heap.size + 1 ≤ k ∧ ∃ cur, (W.alloc (.cells #[.int .i64 x.1.a] 3)).heap[k]? = some (.cells cur 3 (0, 0)) := fun k hk => by
        obtain ⟨h1, cur, h2⟩ := hox k hk
        exact ⟨h1, cur, (Below.heap_alloc _ _ k (Array.getElem?_eq_some_iff.1 h2).1).trans h2⟩
      refine ⟨(((KeepsOthers.alloc W _).trans (KeepsOthers.of_grownBy HG1.out (fun j o hj ho => ?_))).trans (KeepsOthers.setCell _ _ _)).from _, keepsB_set (keepsB_grown (keepsB_alloc (keepsB_refl _ _ _) (by omega) _) HG1.out (by simp; omega) (fun k hk => ?_)) (Nat.le_refl _) (by omega) _, ⟨v', hs1, ?_, ?_⟩⟩
      · obtain ⟨_, cur, h2⟩ := hox1 j hj
        rw [h2] at ho
        cases ho
        rfl
      · obtain ⟨h1, cur, h2⟩ := hox1 k hk
        refine ⟨by omega, fun vs e r he _ h3 => ?_⟩
        rw [h2] at h3
        cases h3
        rcases he with he | he <;> cases he
      · have h4 : OwnV w1 (w.heap.size + 1) 3 v' (intsV (([] : List Int) ++ varsP ((p ++ [x]).map (·.1)))) := by
          rw [HXS.out, ← List.append_assoc]
          unfold OwnV
          have e : intsV (([] : List Int) ++ varsP (p.map (·.1)) ++ [x.1.a]) = intsV (([] : List Int) ++ varsP (p.map (·.1))) ++ [.int .i64 x.1.a] := by simp [intsV]
          rw [e, List.length_append, HNL.out]
          exact HO1.out
        exact World.ownsRow.kept h4 (set_grown w1 w.heap.size 0 v') (.inr (ownsRow_ne h4 hv1.out (fun cur e => by cases e)))
      · exact (((HB.out.alloc (by omega) _).grown HG1.out (by simp; omega) (fun k hk => by have := (hox1 k hk).1; omega))).setCell (p := ⟨w.heap.size, 0, none⟩) (Nat.le_refl _) _
    · have f1 : (x.1.k == 1) = false := beq_eq_false_iff_ne.2 hk
      have HXS := Lib.hid (show varsP ((p ++ [x]).map (·.1)) = varsP (p.map (·.1)) by rw [List.map_append, List.map_singleton, varsP_snoc, if_neg hk, List.append_nil])
      clear hk
      gi_wp2
      exact ⟨(KeepsOthers.refl _).from _, keepsB_refl _ _ _, ⟨v, HV.out, by rw [HXS.out]; exact HOW.out, HB.out⟩⟩
  case stop => rintro D c q W hD hq hx hK; exact hx.elim
  case done =>
    rintro D xs W hD hxs hst hK
    rw [hxs, List.nil_append, show pre t = preL [t] from by rw [preL, preL, List.append_nil]] at hst
    obtain ⟨v, hv, hown, hb⟩ := hst
    have r0 := box1 hv
    have HX := Lib.hid (And.intro hown (And.intro hb hv))
    have HK := Lib.hid hK
    clear hown hb hv hK hxs
    gi_wp2
    rw [roundsIn_succ]
    gi_wp2_with fail
    refine ⟨trivial, (callsIn_wide.2 (sort_own W (w.heap.size + 1) v (varsP (preL [t])) HX.out.1 (by have := varsP_len (preL [t]); rw [preL_len] at this; simp only [nodesL] at this; omega))).mono ?_⟩
    rintro _ W2 ⟨rfl, hown2, hg2⟩
    have hox := own_cells HX.out.1
    have hlt := (Array.getElem?_eq_some_iff.1 HX.out.2.2).1
    have hv2 := (hg2.block w.heap.size hlt (fun e => by have := (hox _ e.symm).1; omega)).trans HX.out.2.2
    have r1 := box1 hv2
    have HB2 := Lib.hid (HX.out.2.1.grown hg2 (by omega) (fun k hk => by have := (hox k hk).1; omega))
    have HG2 := Lib.hid hg2
    have HO2 := Lib.hid hown2
    clear hown2 hg2
    dsimp only
    gi_wp2_with fail
    refine ⟨trivial, (callsIn_wide.2 (compact_own W2 (w.heap.size + 1) v _ HO2.out (by rw [List.length_mergeSort]; have := varsP_len (preL [t]); rw [preL_len] at this; simp only [nodesL] at this; omega))).mono ?_⟩
    rintro _ W3 ⟨v3, rfl, hown3, hg3, hv3⟩
    have HO3 := Lib.hid hown3
    have HG3 := Lib.hid hg3
    have HB3 := Lib.hid (HB2.out.grown hg3 (by have := HG2.out.size; omega) (fun k hk => by have := (hox k hk).1; omega))
    clear hown3 hg3
    dsimp only
    gi_wp2
    have hnd : some D ≠ v.ownBlock := fun e => by
      obtain ⟨_, cur, h2⟩ := hox D e.symm
      rw [HK.out] at h2
      cases h2
    have hDl := (Array.getElem?_eq_some_iff.1 HK.out).1
    have hK3 := (HG3.out.block D (by have := HG2.out.size; omega) hnd).trans ((HG2.out.block D hDl hnd).trans HK.out)
    have hsz3 := HB3.out.size
    refine ⟨by simp, .inl ⟨_, _, rfl, run_takeDeferred hK3, ?_⟩⟩
    refine ⟨v3, ?_, v3, rfl, ⟨_, HB3.out.trans (belowK_b (w := w) (Nat.le_refl _) W3 D _ _ (by omega) hK3 rfl rfl)⟩, rfl, ownV_mono (World.ownsRow.kept HO3.out (grownBy_putObj' W3 D _) (.inr (ownsRow_ne HO3.out hK3 (fun cur e => by cases e)))) (by omega)⟩
    simp [results, Tryz.f36, go_sem]
end Go.Proofs.YtkbellmhanpocaaGreatDoor
