/- The reader of formulas, whole (under way). -/
import Derived.Test.YtkbellmhanpocaaGreatDoorI6
namespace Go.Proofs.YtkbellmhanpocaaGreatDoor
set_option linter.unusedVariables false
set_option linter.unusedSimpArgs false
open Go.RowKit Go.Shelf F
attribute [local go_sem low] Bel.cell Bel.frozen alloc_cell alloc_frozen

set_option maxRecDepth 100000 in
set_option maxHeartbeats 12800000 in
theorem formula_any (b : Nat) : ∀ (N : Nat) (t : F), nodes t ≤ N → okT t → ∀ (p r : List UInt8) (w : World), stopD r = true → (p ++ (txt t ++ r)).length ≤ 1000000 → RdAt w b (p ++ (txt t ++ r)) p.length →
    Calls Tryz.prog 48 #[.pointer (some ⟨b, 0, none⟩)] w (RdRet b (p ++ (txt t ++ r)) (p.length + (txt t).length) t w) := by
  intro N
  induction N with
  | zero => intro t h; have := nodes_pos t; omega
  | succ N ih =>
    intro t hN hok p r w hst hS h
    have hbw := h.lt
    have HNL := Lib.hid (show nodesL t.l ≤ N by rw [nodes_l] at hN; omega)
    have HOKL := Lib.hid (okT_l hok)
    clear hN
    obtain ⟨tk, ta, tl⟩ := t
    simp only [F.l] at HNL HOKL
    rcases single_cases hok.1 with ⟨rfl, h1, h2, rfl⟩ | ⟨rfl, rfl, t, rfl⟩ | ⟨hk, rfl, hl⟩ | ⟨hk, rfl, rfl⟩
    · rw [show txt (nd 1 ta []) = 120 :: dgs ta from by rw [txt, if_pos rfl]] at hS h ⊢
      rw [List.cons_append] at hS h ⊢
      have HV := Lib.hid (fun w' (h : RdAt w' b ((p ++ [120]) ++ (dgs ta ++ r)) (p ++ [120]).length) => variable_any b (p ++ [120]) r ta w' h1 h2 hst (by simpa using hS) h)
      have hpl : p.length + 1 ≤ 1000000 := by simp only [List.length_append, List.length_cons] at hS; omega
      have hb0 := byteAt_app p (120 :: (dgs ta ++ r)) 0
      rw [show byteAt (120 :: (dgs ta ++ r)) 0 = 120 from rfl, Nat.add_zero] at hb0
      have HN0 := Lib.hid (fun w' (h : RdAt w' b (p ++ (120 :: (dgs ta ++ r))) p.length) => next_any b (p ++ (120 :: (dgs ta ++ r))) p.length w' h hS (by omega))
      rw [hb0, show ((120 : UInt8).toNat : Int) = 120 from rfl] at HN0
      have HR := Lib.hid h
      clear h hb0
      go_enter Tryz.func48, Tryz.ntmps48
      go_wp2_with fail
      refine (HN0.out _ (HR.out.of (by (repeat' (first | (with_reducible exact Below.refl _ _) | (with_reducible exact Nat.le_refl _) | (with_reducible refine Below.bel ?_ ?_) | (with_reducible refine Below.alloc ?_ ?_ _) | (with_reducible refine Below.drew ?_) | (with_reducible refine Below.drawsN ?_ _) | (with_reducible refine Below.setCell ?_ ?_ _) | (with_reducible refine le_bel ?_) | (with_reducible refine le_alloc ?_) | (with_reducible refine le_setCell ?_) | (with_reducible refine le_drew ?_) | (with_reducible refine le_drawsN ?_) | (dsimp only; with_reducible refine le_bel ?_) | (dsimp only; with_reducible refine Nat.le_refl _) | (dsimp only; with_reducible refine le_bel_add ?_) | (with_reducible assumption) | omega | (dsimp only; omega)))))).mono ?_
      rintro _ _ ⟨rfl, y1, rfl⟩
      have hs1 := y1.size_le
      simp at hs1
      have hr1 := HR.out.of (by (repeat' (first | (with_reducible exact Below.refl _ _) | (with_reducible exact Nat.le_refl _) | (with_reducible refine Below.bel ?_ ?_) | (with_reducible refine Below.alloc ?_ ?_ _) | (with_reducible refine Below.drew ?_) | (with_reducible refine Below.drawsN ?_ _) | (with_reducible refine Below.setCell ?_ ?_ _) | (with_reducible refine le_bel ?_) | (with_reducible refine le_alloc ?_) | (with_reducible refine le_setCell ?_) | (with_reducible refine le_drew ?_) | (with_reducible refine le_drawsN ?_) | (dsimp only; with_reducible refine le_bel ?_) | (dsimp only; with_reducible refine Nat.le_refl _) | (dsimp only; with_reducible refine le_bel_add ?_) | (with_reducible assumption) | omega | (dsimp only; omega))) : Below w.heap.size w y1.w)
      obtain ⟨g0, g1, g2, g3⟩ := box2 hr1
      have hm := hr1.move (p.length + 1)
      rw [show ((p.length + 1 : Nat) : Int) = (p.length : Int) + 1 by omega] at hm
      have HM := Lib.hid hm
      have hres := obj_ne (c := b) (i := 1) (.int .i64 ((p.length : Int) + 1)) (by omega) (obj_bel y1 (World.alloc_heap_new w (.cells #[.int .i64 0, .int .i64 0, .slice none 0 0] 26)))
      have HRS := Lib.hid hres
      have HRK := Lib.hid ((RK.bel (by (repeat' (first | (with_reducible exact Below.refl _ _) | (with_reducible exact Nat.le_refl _) | (with_reducible refine Below.bel ?_ ?_) | (with_reducible refine Below.alloc ?_ ?_ _) | (with_reducible refine Below.drew ?_) | (with_reducible refine Below.drawsN ?_ _) | (with_reducible refine Below.setCell ?_ ?_ _) | (with_reducible refine le_bel ?_) | (with_reducible refine le_alloc ?_) | (with_reducible refine le_setCell ?_) | (with_reducible refine le_drew ?_) | (with_reducible refine le_drawsN ?_) | (dsimp only; with_reducible refine le_bel ?_) | (dsimp only; with_reducible refine Nat.le_refl _) | (dsimp only; with_reducible refine le_bel_add ?_) | (with_reducible assumption) | omega | (dsimp only; omega))) : Below w.heap.size w y1.w) (by omega : b ≤ w.heap.size)).trans (RK.set (i := 1) (.int .i64 ((p.length : Int) + 1))))
      clear hr1 hm hres
      dsimp only
      go_wp2_with fail
      refine (HV.out _ (by
        have h := HM.out
        rw [show p ++ (120 :: (dgs ta ++ r)) = (p ++ [120]) ++ (dgs ta ++ r) by simp, show p.length + 1 = (p ++ [120]).length by simp] at h
        exact h)).mono ?_
      rintro _ w2 ⟨v2, rfl, ⟨ad5, cap5, rfl, hi5⟩, hrd2, hrk2⟩
      have hres2 := hrk2.2 w.heap.size _ HRS.out (by omega)
      obtain ⟨r0, r1, r2⟩ := box3 hres2
      obtain ⟨q0, q1, q2⟩ := box3f hres2
      have HX := Lib.hid (And.intro hrd2 (HRK.out.trans hrk2))
      clear hi5 hrd2 hrk2
      simp only [F.k, F.a, F.l, List.length_nil]
      go_wp2
      have hR := obj_set3 (.int .i64 1) (.int .i64 ta) (.slice ad5 0 cap5) hres2
      obtain ⟨s0, s1, s2⟩ := box3 hR
      refine bodyPost_ret (v := .tuple #[.agg #[.int .i64 1, .int .i64 ta, .slice ad5 0 cap5], .bool true]) (by simp [results, Tryz.results48, go_sem, s0, s1, s2]) rfl ⟨_, rfl, ⟨ad5, cap5, rfl, insF_nil _ _ _⟩, ?_, ?_⟩
      · refine obj_ne _ (by omega) (obj_ne _ (by omega) (obj_ne _ (by omega) ?_))
        have h := HX.out.1
        have e : (p ++ [120]).length + (dgs ta).length = p.length + (120 :: dgs ta).length := by
          simp only [List.length_append, List.length_cons, List.length_nil]
          omega
        rw [show (p ++ [120]) ++ (dgs ta ++ r) = p ++ (120 :: (dgs ta ++ r)) by simp, e] at h
        exact h
      · exact ((HX.out.2.setNew (by omega) (by omega) _).setNew (by omega) (by omega) _).setNew (by omega) (by omega) _
    · -- a negation
      have ht : txt (nd 2 0 [t]) = 33 :: txt t := by simp [txt, txtH]
      rw [ht] at hS h ⊢
      rw [List.cons_append] at hS h ⊢
      have hnt : nodes t ≤ N := by have := HNL.out; have := nodesL_mem (List.mem_singleton_self t); omega
      have hot := okL_mem HOKL.out (List.mem_singleton_self t)
      have HV : ∀ w', RdAt w' b ((p ++ [33]) ++ (txt t ++ r)) (p ++ [33]).length → Calls Tryz.prog 48 #[.pointer (some ⟨b, 0, none⟩)] w' (RdRet b ((p ++ [33]) ++ (txt t ++ r)) ((p ++ [33]).length + (txt t).length) t w') := fun w' h' => ih t hnt hot (p ++ [33]) r w' hst (by simpa using hS) h'
      rw [show (p ++ [33]) ++ (txt t ++ r) = p ++ (33 :: (txt t ++ r)) from by simp, show (List.length (p ++ [33])) = p.length + 1 from by rw [List.length_append]; rfl] at HV
      have HVV := Lib.hid HV
      clear HV
      have hpl : p.length + 1 ≤ 1000000 := by simp only [List.length_append, List.length_cons] at hS; omega
      have hb0 := byteAt_app p (33 :: (txt t ++ r)) 0
      rw [show byteAt (33 :: (txt t ++ r)) 0 = 33 from rfl, Nat.add_zero] at hb0
      have HN0 := Lib.hid (fun w' (h : RdAt w' b (p ++ (33 :: (txt t ++ r))) p.length) => next_any b (p ++ (33 :: (txt t ++ r))) p.length w' h hS (by omega))
      rw [hb0, show ((33 : UInt8).toNat : Int) = 33 from rfl] at HN0
      have HR := Lib.hid h
      clear h hb0
      go_enter Tryz.func48, Tryz.ntmps48
      go_wp2_with fail
      refine (HN0.out _ (HR.out.of (by (repeat' (first | (with_reducible exact Below.refl _ _) | (with_reducible exact Nat.le_refl _) | (with_reducible refine Below.bel ?_ ?_) | (with_reducible refine Below.alloc ?_ ?_ _) | (with_reducible refine Below.drew ?_) | (with_reducible refine Below.drawsN ?_ _) | (with_reducible refine Below.setCell ?_ ?_ _) | (with_reducible refine le_bel ?_) | (with_reducible refine le_alloc ?_) | (with_reducible refine le_setCell ?_) | (with_reducible refine le_drew ?_) | (with_reducible refine le_drawsN ?_) | (dsimp only; with_reducible refine le_bel ?_) | (dsimp only; with_reducible refine Nat.le_refl _) | (dsimp only; with_reducible refine le_bel_add ?_) | (with_reducible assumption) | omega | (dsimp only; omega)))))).mono ?_
      rintro _ _ ⟨rfl, y1, rfl⟩
      have hs1 := y1.size_le
      simp at hs1
      have hr1 := HR.out.of (by (repeat' (first | (with_reducible exact Below.refl _ _) | (with_reducible exact Nat.le_refl _) | (with_reducible refine Below.bel ?_ ?_) | (with_reducible refine Below.alloc ?_ ?_ _) | (with_reducible refine Below.drew ?_) | (with_reducible refine Below.drawsN ?_ _) | (with_reducible refine Below.setCell ?_ ?_ _) | (with_reducible refine le_bel ?_) | (with_reducible refine le_alloc ?_) | (with_reducible refine le_setCell ?_) | (with_reducible refine le_drew ?_) | (with_reducible refine le_drawsN ?_) | (dsimp only; with_reducible refine le_bel ?_) | (dsimp only; with_reducible refine Nat.le_refl _) | (dsimp only; with_reducible refine le_bel_add ?_) | (with_reducible assumption) | omega | (dsimp only; omega))) : Below w.heap.size w y1.w)
      obtain ⟨g0, g1, g2, g3⟩ := box2 hr1
      have hm := hr1.move (p.length + 1)
      rw [show ((p.length + 1 : Nat) : Int) = (p.length : Int) + 1 by omega] at hm
      have HM := Lib.hid hm
      have hres := obj_ne (c := b) (i := 1) (.int .i64 ((p.length : Int) + 1)) (by omega) (obj_bel y1 (World.alloc_heap_new w (.cells #[.int .i64 0, .int .i64 0, .slice none 0 0] 26)))
      have HRS := Lib.hid hres
      have HRK := Lib.hid ((RK.bel (by (repeat' (first | (with_reducible exact Below.refl _ _) | (with_reducible exact Nat.le_refl _) | (with_reducible refine Below.bel ?_ ?_) | (with_reducible refine Below.alloc ?_ ?_ _) | (with_reducible refine Below.drew ?_) | (with_reducible refine Below.drawsN ?_ _) | (with_reducible refine Below.setCell ?_ ?_ _) | (with_reducible refine le_bel ?_) | (with_reducible refine le_alloc ?_) | (with_reducible refine le_setCell ?_) | (with_reducible refine le_drew ?_) | (with_reducible refine le_drawsN ?_) | (dsimp only; with_reducible refine le_bel ?_) | (dsimp only; with_reducible refine Nat.le_refl _) | (dsimp only; with_reducible refine le_bel_add ?_) | (with_reducible assumption) | omega | (dsimp only; omega))) : Below w.heap.size w y1.w) (by omega : b ≤ w.heap.size)).trans (RK.set (i := 1) (.int .i64 ((p.length : Int) + 1))))
      clear hr1 hm hres
      dsimp only
      have key := Lib.hid (fun W (hW : Below (y1.w.setCell ⟨b, 1, none⟩ (.int .i64 ((p.length : Int) + 1))).heap.size (y1.w.setCell ⟨b, 1, none⟩ (.int .i64 ((p.length : Int) + 1))) W) =>
        show Calls Tryz.prog 48 #[.pointer (some ⟨b, 0, none⟩)] W (fun e w2 => RdRet b (p ++ (33 :: (txt t ++ r))) (p.length + 1 + (txt t).length) t W e w2 ∧ w2.heap[w.heap.size]? = some (Obj.cells #[.int .i64 0, .int .i64 0, .slice none 0 0] 26) ∧ RK b w w2 ∧ w.heap.size + 1 ≤ W.heap.size) from
        (HVV.out W (HM.out.of hW)).mono (fun _ w2 hr => ⟨hr, by
          obtain ⟨_, _, _, _, hrk2⟩ := hr
          have hsz := hW.size
          simp at hsz
          exact ⟨hrk2.2 w.heap.size _ (obj_below hW (by simp; omega) HRS.out) (by omega), (RK.grow HRK.out hW (by simp; omega) (by simp; omega)).trans hrk2, by omega⟩⟩))
      clear HVV HM HRS HRK
      go_wp2_with fail
      refine (key.out _ (by (repeat' (first | (with_reducible exact Below.refl _ _) | (with_reducible exact Nat.le_refl _) | (with_reducible refine Below.bel ?_ ?_) | (with_reducible refine Below.alloc ?_ ?_ _) | (with_reducible refine Below.drew ?_) | (with_reducible refine Below.drawsN ?_ _) | (with_reducible refine Below.setCell ?_ ?_ _) | (with_reducible refine le_bel ?_) | (with_reducible refine le_alloc ?_) | (with_reducible refine le_setCell ?_) | (with_reducible refine le_drew ?_) | (with_reducible refine le_drawsN ?_) | (dsimp only; with_reducible refine le_bel ?_) | (dsimp only; with_reducible refine Nat.le_refl _) | (dsimp only; with_reducible refine le_bel_add ?_) | (with_reducible assumption) | omega | (dsimp only; omega))))).mono ?_
      rintro _ w2 ⟨⟨v2, rfl, ⟨ad5, cap5, rfl, hi5⟩, hrd2, -⟩, hres2, hrk2, hWs⟩
      have HX := Lib.hid (And.intro hrd2 hrk2)
      clear hrd2 hrk2 key
      obtain ⟨r0, r1, r2⟩ := box3 hres2
      obtain ⟨q0, q1, q2⟩ := box3f hres2
      obtain ⟨uk, ua, ul⟩ := t
      simp only [F.k, F.a, F.l] at hi5 ⊢
      go_wp2
      have hB : Below w2.heap.size w2 ((w2.alloc (Obj.cells #[.int .i64 uk, .int .i64 ua, .slice ad5 ul.length cap5] 26)).alloc (Obj.cells #[.int .i64 uk, .int .i64 ua, .slice ad5 ul.length cap5] 26)) := by (repeat' (first | (with_reducible exact Below.refl _ _) | (with_reducible exact Nat.le_refl _) | (with_reducible refine Below.bel ?_ ?_) | (with_reducible refine Below.alloc ?_ ?_ _) | (with_reducible refine Below.drew ?_) | (with_reducible refine Below.drawsN ?_ _) | (with_reducible refine Below.setCell ?_ ?_ _) | (with_reducible refine le_bel ?_) | (with_reducible refine le_alloc ?_) | (with_reducible refine le_setCell ?_) | (with_reducible refine le_drew ?_) | (with_reducible refine le_drawsN ?_) | (dsimp only; with_reducible refine le_bel ?_) | (dsimp only; with_reducible refine Nat.le_refl _) | (dsimp only; with_reducible refine le_bel_add ?_) | (with_reducible assumption) | omega | (dsimp only; omega)))
      have hrow : ((w2.alloc (Obj.cells #[.int .i64 uk, .int .i64 ua, .slice ad5 ul.length cap5] 26)).alloc (Obj.cells #[.int .i64 uk, .int .i64 ua, .slice ad5 ul.length cap5] 26)).heap[w2.heap.size + 1]? = some (Obj.cells #[.int .i64 uk, .int .i64 ua, .slice ad5 ul.length cap5] 26) := by
        have := World.alloc_heap_new (w2.alloc (Obj.cells #[.int .i64 uk, .int .i64 ua, .slice ad5 ul.length cap5] 26)) (Obj.cells #[.int .i64 uk, .int .i64 ua, .slice ad5 ul.length cap5] 26)
        simpa using this
      have hlt2 : w.heap.size < w2.heap.size := (Array.getElem?_eq_some_iff.1 hres2).1
      have hres3 := obj_below hB hlt2 hres2
      have hR := obj_set3 (.int .i64 2) (.int .i64 0) (.slice (some ⟨w2.heap.size + 1, 0, none⟩) 1 1) hres3
      obtain ⟨s0, s1, s2⟩ := box3 hR
      have hrow2 := obj_ne (c := w.heap.size) (i := 2) (.slice (some ⟨w2.heap.size + 1, 0, none⟩) 1 1) (by omega) (obj_ne (c := w.heap.size) (i := 1) (.int .i64 0) (by omega) (obj_ne (c := w.heap.size) (i := 0) (.int .i64 2) (by omega) hrow))
      obtain ⟨c0, c1, c2⟩ := box3 hrow2
      refine bodyPost_ret (v := .tuple #[.agg #[.int .i64 2, .int .i64 0, .slice (some ⟨w2.heap.size + 1, 0, none⟩) 1 1], .bool true]) (by simp [results, Tryz.results48, go_sem, s0, s1, s2]) rfl ⟨_, rfl, ⟨_, 1, rfl, insF_mk (show w.heap.size ≤ w2.heap.size + 1 by omega) ?_⟩, ?_, ?_⟩
      · intro j u hj
        cases j with
        | succ j => cases hj
        | zero =>
          cases hj
          refine cellF_mk (ad := ad5) (cap := cap5) c0 c1 c2 ?_
          refine hi5.move (fun c off u hp hu => ?_) (fun c _ hp => Nat.le_trans (by omega) hp)
          have hp' := Nat.le_trans hWs hp
          have hlt : c < w2.heap.size := World.block_lt_of_cell? w2 _ hu
          obtain ⟨o, ho⟩ : ∃ o, w2.heap[c]? = some o := ⟨_, Array.getElem?_eq_getElem hlt⟩
          have hne : c ≠ w.heap.size := by omega
          rw [World.cell?_of_block ((obj_ne _ hne (obj_ne _ hne (obj_ne _ hne (obj_below hB hlt ho)))).trans ho.symm)]
          exact hu
      · refine obj_ne _ (by omega) (obj_ne _ (by omega) (obj_ne _ (by omega) (obj_below hB (by omega) ?_)))
        have h := HX.out.1
        rw [show p.length + 1 + (txt (nd uk ua ul)).length = p.length + ((txt (nd uk ua ul)).length + 1) by omega] at h
        exact h
      · exact (((HX.out.2.grow hB (Nat.le_of_lt hlt2) (by omega)).setNew (by omega) (by omega) _).setNew (by omega) (by omega) _).setNew (by omega) (by omega) _
    · -- a join
      rcases hk with rfl | rfl
      · have ht : txt (nd 3 0 tl) = 38 :: 40 :: (txtL tl ++ [41]) := by simp [txt]
        rw [ht] at hS h ⊢
        rw [List.cons_append, List.cons_append, List.append_assoc, List.singleton_append] at hS h ⊢
        have HF : ReadsF b tl := fun u hu p r w => ih u (by have := HNL.out; have := nodesL_mem hu; omega) (okL_mem HOKL.out hu) p r w
        have HV : ∀ w', RdAt w' b ((p ++ [38]) ++ (40 :: (txtL tl ++ (41 :: r)))) (p ++ [38]).length → Calls Tryz.prog 61 #[.pointer (some ⟨b, 0, none⟩), .agg #[.int .i64 3, .int .i64 0, .slice none 0 0]] w' (RdRet b ((p ++ [38]) ++ (40 :: (txtL tl ++ (41 :: r)))) ((p ++ [38]).length + (txtL tl).length + 2) (nd 3 0 tl) w') := by
          intro w' h'
          by_cases he : tl = []
          · subst he
            have := list_nil b 3 (p ++ [38]) r w' (by simpa [txtL] using hS) (by simpa [txtL] using h')
            simpa [txtL] using this
          · exact list_some b 3 tl (p ++ [38]) r w' he HOKL.out (by omega) HF (by simpa using hS) h'
        rw [show (p ++ [38]) ++ (40 :: (txtL tl ++ (41 :: r))) = p ++ (38 :: 40 :: (txtL tl ++ (41 :: r))) from by simp, show (List.length (p ++ [38])) = p.length + 1 from by rw [List.length_append]; rfl] at HV
        have HVV := Lib.hid HV
        clear HV HF
        have hpl : p.length + 1 ≤ 1000000 := by simp only [List.length_append, List.length_cons] at hS; omega
        have hb0 := byteAt_app p (38 :: (40 :: (txtL tl ++ (41 :: r)))) 0
        rw [show byteAt (38 :: (40 :: (txtL tl ++ (41 :: r)))) 0 = 38 from rfl, Nat.add_zero] at hb0
        have HN0 := Lib.hid (fun w' (h : RdAt w' b (p ++ (38 :: (40 :: (txtL tl ++ (41 :: r))))) p.length) => next_any b (p ++ (38 :: (40 :: (txtL tl ++ (41 :: r))))) p.length w' h hS (by omega))
        rw [hb0, show ((38 : UInt8).toNat : Int) = 38 from rfl] at HN0
        have HR := Lib.hid h
        clear h hb0
        go_enter Tryz.func48, Tryz.ntmps48
        go_wp2_with fail
        refine (HN0.out _ (HR.out.of (by (repeat' (first | (with_reducible exact Below.refl _ _) | (with_reducible exact Nat.le_refl _) | (with_reducible refine Below.bel ?_ ?_) | (with_reducible refine Below.alloc ?_ ?_ _) | (with_reducible refine Below.drew ?_) | (with_reducible refine Below.drawsN ?_ _) | (with_reducible refine Below.setCell ?_ ?_ _) | (with_reducible refine le_bel ?_) | (with_reducible refine le_alloc ?_) | (with_reducible refine le_setCell ?_) | (with_reducible refine le_drew ?_) | (with_reducible refine le_drawsN ?_) | (dsimp only; with_reducible refine le_bel ?_) | (dsimp only; with_reducible refine Nat.le_refl _) | (dsimp only; with_reducible refine le_bel_add ?_) | (with_reducible assumption) | omega | (dsimp only; omega)))))).mono ?_
        rintro _ _ ⟨rfl, y1, rfl⟩
        have hs1 := y1.size_le
        simp at hs1
        have hr1 := HR.out.of (by (repeat' (first | (with_reducible exact Below.refl _ _) | (with_reducible exact Nat.le_refl _) | (with_reducible refine Below.bel ?_ ?_) | (with_reducible refine Below.alloc ?_ ?_ _) | (with_reducible refine Below.drew ?_) | (with_reducible refine Below.drawsN ?_ _) | (with_reducible refine Below.setCell ?_ ?_ _) | (with_reducible refine le_bel ?_) | (with_reducible refine le_alloc ?_) | (with_reducible refine le_setCell ?_) | (with_reducible refine le_drew ?_) | (with_reducible refine le_drawsN ?_) | (dsimp only; with_reducible refine le_bel ?_) | (dsimp only; with_reducible refine Nat.le_refl _) | (dsimp only; with_reducible refine le_bel_add ?_) | (with_reducible assumption) | omega | (dsimp only; omega))) : Below w.heap.size w y1.w)
        obtain ⟨g0, g1, g2, g3⟩ := box2 hr1
        have hm := hr1.move (p.length + 1)
        rw [show ((p.length + 1 : Nat) : Int) = (p.length : Int) + 1 by omega] at hm
        have HM := Lib.hid hm
        have hres := obj_ne (c := b) (i := 1) (.int .i64 ((p.length : Int) + 1)) (by omega) (obj_bel y1 (World.alloc_heap_new w (.cells #[.int .i64 0, .int .i64 0, .slice none 0 0] 26)))
        have HRS := Lib.hid hres
        have HRK := Lib.hid ((RK.bel (by (repeat' (first | (with_reducible exact Below.refl _ _) | (with_reducible exact Nat.le_refl _) | (with_reducible refine Below.bel ?_ ?_) | (with_reducible refine Below.alloc ?_ ?_ _) | (with_reducible refine Below.drew ?_) | (with_reducible refine Below.drawsN ?_ _) | (with_reducible refine Below.setCell ?_ ?_ _) | (with_reducible refine le_bel ?_) | (with_reducible refine le_alloc ?_) | (with_reducible refine le_setCell ?_) | (with_reducible refine le_drew ?_) | (with_reducible refine le_drawsN ?_) | (dsimp only; with_reducible refine le_bel ?_) | (dsimp only; with_reducible refine Nat.le_refl _) | (dsimp only; with_reducible refine le_bel_add ?_) | (with_reducible assumption) | omega | (dsimp only; omega))) : Below w.heap.size w y1.w) (by omega : b ≤ w.heap.size)).trans (RK.set (i := 1) (.int .i64 ((p.length : Int) + 1))))
        clear hr1 hm hres
        dsimp only
        have key := Lib.hid (fun W (hW : Below (y1.w.setCell ⟨b, 1, none⟩ (.int .i64 ((p.length : Int) + 1))).heap.size (y1.w.setCell ⟨b, 1, none⟩ (.int .i64 ((p.length : Int) + 1))) W) =>
          show Calls Tryz.prog 61 #[.pointer (some ⟨b, 0, none⟩), .agg #[.int .i64 3, .int .i64 0, .slice none 0 0]] W (fun e w2 => RdRet b (p ++ (38 :: 40 :: (txtL tl ++ (41 :: r)))) (p.length + 1 + (txtL tl).length + 2) (nd 3 0 tl) W e w2 ∧ w2.heap[w.heap.size]? = some (Obj.cells #[.int .i64 0, .int .i64 0, .slice none 0 0] 26) ∧ RK b w w2 ∧ w.heap.size + 1 ≤ W.heap.size) from
          (HVV.out W (HM.out.of hW)).mono (fun _ w2 hr => ⟨hr, by
            obtain ⟨_, _, _, _, hrk2⟩ := hr
            have hsz := hW.size
            simp at hsz
            exact ⟨hrk2.2 w.heap.size _ (obj_below hW (by simp; omega) HRS.out) (by omega), (RK.grow HRK.out hW (by simp; omega) (by simp; omega)).trans hrk2, by omega⟩⟩))
        clear HVV HM HRS HRK
        go_wp2_with fail
        refine (key.out _ (by (repeat' (first | (with_reducible exact Below.refl _ _) | (with_reducible exact Nat.le_refl _) | (with_reducible refine Below.bel ?_ ?_) | (with_reducible refine Below.alloc ?_ ?_ _) | (with_reducible refine Below.drew ?_) | (with_reducible refine Below.drawsN ?_ _) | (with_reducible refine Below.setCell ?_ ?_ _) | (with_reducible refine le_bel ?_) | (with_reducible refine le_alloc ?_) | (with_reducible refine le_setCell ?_) | (with_reducible refine le_drew ?_) | (with_reducible refine le_drawsN ?_) | (dsimp only; with_reducible refine le_bel ?_) | (dsimp only; with_reducible refine Nat.le_refl _) | (dsimp only; with_reducible refine le_bel_add ?_) | (with_reducible assumption) | omega | (dsimp only; omega))))).mono ?_
        rintro _ w2 ⟨⟨v2, rfl, ⟨ad5, cap5, rfl, hi5⟩, hrd2, -⟩, hres2, hrk2, hWs⟩
        have HX := Lib.hid (And.intro hrd2 hrk2)
        clear hrd2 hrk2 key
        obtain ⟨r0, r1, r2⟩ := box3 hres2
        obtain ⟨q0, q1, q2⟩ := box3f hres2
        simp only [F.k, F.a, F.l]
        go_wp2
        have hR := obj_set3 (.int .i64 3) (.int .i64 0) (.slice ad5 tl.length cap5) hres2
        obtain ⟨s0, s1, s2⟩ := box3 hR
        refine bodyPost_ret (v := .tuple #[.agg #[.int .i64 3, .int .i64 0, .slice ad5 tl.length cap5], .bool true]) (by simp [results, Tryz.results48, go_sem, s0, s1, s2]) rfl ⟨_, rfl, ⟨ad5, cap5, rfl, ?_⟩, ?_, ?_⟩
        · refine hi5.move (fun c off u hp hu => ?_) (fun c _ hp => Nat.le_trans (by omega) hp)
          have hp' := Nat.le_trans hWs hp
          obtain ⟨o, ho⟩ : ∃ o, w2.heap[c]? = some o := ⟨_, Array.getElem?_eq_getElem (World.block_lt_of_cell? w2 _ hu)⟩
          rw [World.cell?_of_block ((obj_ne _ (by omega) (obj_ne _ (by omega) (obj_ne _ (by omega) ho))).trans ho.symm)]
          exact hu
        · refine obj_ne _ (by omega) (obj_ne _ (by omega) (obj_ne _ (by omega) ?_))
          have h := HX.out.1
          rw [show p.length + 1 + (txtL tl).length + 2 = p.length + ((txtL tl ++ [41]).length + 1 + 1) by simp only [List.length_append, List.length_cons, List.length_nil]; omega] at h
          exact h
        · exact ((HX.out.2.setNew (by omega) (by omega) _).setNew (by omega) (by omega) _).setNew (by omega) (by omega) _
      · have ht : txt (nd 4 0 tl) = 124 :: 40 :: (txtL tl ++ [41]) := by simp [txt]
        rw [ht] at hS h ⊢
        rw [List.cons_append, List.cons_append, List.append_assoc, List.singleton_append] at hS h ⊢
        have HF : ReadsF b tl := fun u hu p r w => ih u (by have := HNL.out; have := nodesL_mem hu; omega) (okL_mem HOKL.out hu) p r w
        have HV : ∀ w', RdAt w' b ((p ++ [124]) ++ (40 :: (txtL tl ++ (41 :: r)))) (p ++ [124]).length → Calls Tryz.prog 61 #[.pointer (some ⟨b, 0, none⟩), .agg #[.int .i64 4, .int .i64 0, .slice none 0 0]] w' (RdRet b ((p ++ [124]) ++ (40 :: (txtL tl ++ (41 :: r)))) ((p ++ [124]).length + (txtL tl).length + 2) (nd 4 0 tl) w') := by
          intro w' h'
          by_cases he : tl = []
          · subst he
            have := list_nil b 4 (p ++ [124]) r w' (by simpa [txtL] using hS) (by simpa [txtL] using h')
            simpa [txtL] using this
          · exact list_some b 4 tl (p ++ [124]) r w' he HOKL.out (by omega) HF (by simpa using hS) h'
        rw [show (p ++ [124]) ++ (40 :: (txtL tl ++ (41 :: r))) = p ++ (124 :: 40 :: (txtL tl ++ (41 :: r))) from by simp, show (List.length (p ++ [124])) = p.length + 1 from by rw [List.length_append]; rfl] at HV
        have HVV := Lib.hid HV
        clear HV HF
        have hpl : p.length + 1 ≤ 1000000 := by simp only [List.length_append, List.length_cons] at hS; omega
        have hb0 := byteAt_app p (124 :: (40 :: (txtL tl ++ (41 :: r)))) 0
        rw [show byteAt (124 :: (40 :: (txtL tl ++ (41 :: r)))) 0 = 124 from rfl, Nat.add_zero] at hb0
        have HN0 := Lib.hid (fun w' (h : RdAt w' b (p ++ (124 :: (40 :: (txtL tl ++ (41 :: r))))) p.length) => next_any b (p ++ (124 :: (40 :: (txtL tl ++ (41 :: r))))) p.length w' h hS (by omega))
        rw [hb0, show ((124 : UInt8).toNat : Int) = 124 from rfl] at HN0
        have HR := Lib.hid h
        clear h hb0
        go_enter Tryz.func48, Tryz.ntmps48
        go_wp2_with fail
        refine (HN0.out _ (HR.out.of (by (repeat' (first | (with_reducible exact Below.refl _ _) | (with_reducible exact Nat.le_refl _) | (with_reducible refine Below.bel ?_ ?_) | (with_reducible refine Below.alloc ?_ ?_ _) | (with_reducible refine Below.drew ?_) | (with_reducible refine Below.drawsN ?_ _) | (with_reducible refine Below.setCell ?_ ?_ _) | (with_reducible refine le_bel ?_) | (with_reducible refine le_alloc ?_) | (with_reducible refine le_setCell ?_) | (with_reducible refine le_drew ?_) | (with_reducible refine le_drawsN ?_) | (dsimp only; with_reducible refine le_bel ?_) | (dsimp only; with_reducible refine Nat.le_refl _) | (dsimp only; with_reducible refine le_bel_add ?_) | (with_reducible assumption) | omega | (dsimp only; omega)))))).mono ?_
        rintro _ _ ⟨rfl, y1, rfl⟩
        have hs1 := y1.size_le
        simp at hs1
        have hr1 := HR.out.of (by (repeat' (first | (with_reducible exact Below.refl _ _) | (with_reducible exact Nat.le_refl _) | (with_reducible refine Below.bel ?_ ?_) | (with_reducible refine Below.alloc ?_ ?_ _) | (with_reducible refine Below.drew ?_) | (with_reducible refine Below.drawsN ?_ _) | (with_reducible refine Below.setCell ?_ ?_ _) | (with_reducible refine le_bel ?_) | (with_reducible refine le_alloc ?_) | (with_reducible refine le_setCell ?_) | (with_reducible refine le_drew ?_) | (with_reducible refine le_drawsN ?_) | (dsimp only; with_reducible refine le_bel ?_) | (dsimp only; with_reducible refine Nat.le_refl _) | (dsimp only; with_reducible refine le_bel_add ?_) | (with_reducible assumption) | omega | (dsimp only; omega))) : Below w.heap.size w y1.w)
        obtain ⟨g0, g1, g2, g3⟩ := box2 hr1
        have hm := hr1.move (p.length + 1)
        rw [show ((p.length + 1 : Nat) : Int) = (p.length : Int) + 1 by omega] at hm
        have HM := Lib.hid hm
        have hres := obj_ne (c := b) (i := 1) (.int .i64 ((p.length : Int) + 1)) (by omega) (obj_bel y1 (World.alloc_heap_new w (.cells #[.int .i64 0, .int .i64 0, .slice none 0 0] 26)))
        have HRS := Lib.hid hres
        have HRK := Lib.hid ((RK.bel (by (repeat' (first | (with_reducible exact Below.refl _ _) | (with_reducible exact Nat.le_refl _) | (with_reducible refine Below.bel ?_ ?_) | (with_reducible refine Below.alloc ?_ ?_ _) | (with_reducible refine Below.drew ?_) | (with_reducible refine Below.drawsN ?_ _) | (with_reducible refine Below.setCell ?_ ?_ _) | (with_reducible refine le_bel ?_) | (with_reducible refine le_alloc ?_) | (with_reducible refine le_setCell ?_) | (with_reducible refine le_drew ?_) | (with_reducible refine le_drawsN ?_) | (dsimp only; with_reducible refine le_bel ?_) | (dsimp only; with_reducible refine Nat.le_refl _) | (dsimp only; with_reducible refine le_bel_add ?_) | (with_reducible assumption) | omega | (dsimp only; omega))) : Below w.heap.size w y1.w) (by omega : b ≤ w.heap.size)).trans (RK.set (i := 1) (.int .i64 ((p.length : Int) + 1))))
        clear hr1 hm hres
        dsimp only
        have key := Lib.hid (fun W (hW : Below (y1.w.setCell ⟨b, 1, none⟩ (.int .i64 ((p.length : Int) + 1))).heap.size (y1.w.setCell ⟨b, 1, none⟩ (.int .i64 ((p.length : Int) + 1))) W) =>
          show Calls Tryz.prog 61 #[.pointer (some ⟨b, 0, none⟩), .agg #[.int .i64 4, .int .i64 0, .slice none 0 0]] W (fun e w2 => RdRet b (p ++ (124 :: 40 :: (txtL tl ++ (41 :: r)))) (p.length + 1 + (txtL tl).length + 2) (nd 4 0 tl) W e w2 ∧ w2.heap[w.heap.size]? = some (Obj.cells #[.int .i64 0, .int .i64 0, .slice none 0 0] 26) ∧ RK b w w2 ∧ w.heap.size + 1 ≤ W.heap.size) from
          (HVV.out W (HM.out.of hW)).mono (fun _ w2 hr => ⟨hr, by
            obtain ⟨_, _, _, _, hrk2⟩ := hr
            have hsz := hW.size
            simp at hsz
            exact ⟨hrk2.2 w.heap.size _ (obj_below hW (by simp; omega) HRS.out) (by omega), (RK.grow HRK.out hW (by simp; omega) (by simp; omega)).trans hrk2, by omega⟩⟩))
        clear HVV HM HRS HRK
        go_wp2_with fail
        refine (key.out _ (by (repeat' (first | (with_reducible exact Below.refl _ _) | (with_reducible exact Nat.le_refl _) | (with_reducible refine Below.bel ?_ ?_) | (with_reducible refine Below.alloc ?_ ?_ _) | (with_reducible refine Below.drew ?_) | (with_reducible refine Below.drawsN ?_ _) | (with_reducible refine Below.setCell ?_ ?_ _) | (with_reducible refine le_bel ?_) | (with_reducible refine le_alloc ?_) | (with_reducible refine le_setCell ?_) | (with_reducible refine le_drew ?_) | (with_reducible refine le_drawsN ?_) | (dsimp only; with_reducible refine le_bel ?_) | (dsimp only; with_reducible refine Nat.le_refl _) | (dsimp only; with_reducible refine le_bel_add ?_) | (with_reducible assumption) | omega | (dsimp only; omega))))).mono ?_
        rintro _ w2 ⟨⟨v2, rfl, ⟨ad5, cap5, rfl, hi5⟩, hrd2, -⟩, hres2, hrk2, hWs⟩
        have HX := Lib.hid (And.intro hrd2 hrk2)
        clear hrd2 hrk2 key
        obtain ⟨r0, r1, r2⟩ := box3 hres2
        obtain ⟨q0, q1, q2⟩ := box3f hres2
        simp only [F.k, F.a, F.l]
        go_wp2
        have hR := obj_set3 (.int .i64 4) (.int .i64 0) (.slice ad5 tl.length cap5) hres2
        obtain ⟨s0, s1, s2⟩ := box3 hR
        refine bodyPost_ret (v := .tuple #[.agg #[.int .i64 4, .int .i64 0, .slice ad5 tl.length cap5], .bool true]) (by simp [results, Tryz.results48, go_sem, s0, s1, s2]) rfl ⟨_, rfl, ⟨ad5, cap5, rfl, ?_⟩, ?_, ?_⟩
        · refine hi5.move (fun c off u hp hu => ?_) (fun c _ hp => Nat.le_trans (by omega) hp)
          have hp' := Nat.le_trans hWs hp
          obtain ⟨o, ho⟩ : ∃ o, w2.heap[c]? = some o := ⟨_, Array.getElem?_eq_getElem (World.block_lt_of_cell? w2 _ hu)⟩
          rw [World.cell?_of_block ((obj_ne _ (by omega) (obj_ne _ (by omega) (obj_ne _ (by omega) ho))).trans ho.symm)]
          exact hu
        · refine obj_ne _ (by omega) (obj_ne _ (by omega) (obj_ne _ (by omega) ?_))
          have h := HX.out.1
          rw [show p.length + 1 + (txtL tl).length + 2 = p.length + ((txtL tl ++ [41]).length + 1 + 1) by simp only [List.length_append, List.length_cons, List.length_nil]; omega] at h
          exact h
        · exact ((HX.out.2.setNew (by omega) (by omega) _).setNew (by omega) (by omega) _).setNew (by omega) (by omega) _
    · -- a constant
      rcases hk with rfl | rfl
      · rw [show txt (nd 5 0 []) = [48] from rfl] at hS h ⊢
        rw [List.singleton_append] at hS h ⊢
        have HV := Lib.hid (constant_any false)
        have hpl : p.length + 1 ≤ 1000000 := by simp only [List.length_append, List.length_cons] at hS; omega
        have hb0 := byteAt_app p (48 :: r) 0
        rw [show byteAt (48 :: r) 0 = 48 from rfl, Nat.add_zero] at hb0
        have HN0 := Lib.hid (fun w' (h : RdAt w' b (p ++ (48 :: r)) p.length) => next_any b (p ++ (48 :: r)) p.length w' h hS (by omega))
        rw [hb0, show ((48 : UInt8).toNat : Int) = 48 from rfl] at HN0
        have HR := Lib.hid h
        clear h hb0
        go_enter Tryz.func48, Tryz.ntmps48
        go_wp2_with fail
        refine (HN0.out _ (HR.out.of (by (repeat' (first | (with_reducible exact Below.refl _ _) | (with_reducible exact Nat.le_refl _) | (with_reducible refine Below.bel ?_ ?_) | (with_reducible refine Below.alloc ?_ ?_ _) | (with_reducible refine Below.drew ?_) | (with_reducible refine Below.drawsN ?_ _) | (with_reducible refine Below.setCell ?_ ?_ _) | (with_reducible refine le_bel ?_) | (with_reducible refine le_alloc ?_) | (with_reducible refine le_setCell ?_) | (with_reducible refine le_drew ?_) | (with_reducible refine le_drawsN ?_) | (dsimp only; with_reducible refine le_bel ?_) | (dsimp only; with_reducible refine Nat.le_refl _) | (dsimp only; with_reducible refine le_bel_add ?_) | (with_reducible assumption) | omega | (dsimp only; omega)))))).mono ?_
        rintro _ _ ⟨rfl, y1, rfl⟩
        have hs1 := y1.size_le
        simp at hs1
        have hr1 := HR.out.of (by (repeat' (first | (with_reducible exact Below.refl _ _) | (with_reducible exact Nat.le_refl _) | (with_reducible refine Below.bel ?_ ?_) | (with_reducible refine Below.alloc ?_ ?_ _) | (with_reducible refine Below.drew ?_) | (with_reducible refine Below.drawsN ?_ _) | (with_reducible refine Below.setCell ?_ ?_ _) | (with_reducible refine le_bel ?_) | (with_reducible refine le_alloc ?_) | (with_reducible refine le_setCell ?_) | (with_reducible refine le_drew ?_) | (with_reducible refine le_drawsN ?_) | (dsimp only; with_reducible refine le_bel ?_) | (dsimp only; with_reducible refine Nat.le_refl _) | (dsimp only; with_reducible refine le_bel_add ?_) | (with_reducible assumption) | omega | (dsimp only; omega))) : Below w.heap.size w y1.w)
        obtain ⟨g0, g1, g2, g3⟩ := box2 hr1
        have hm := hr1.move (p.length + 1)
        rw [show ((p.length + 1 : Nat) : Int) = (p.length : Int) + 1 by omega] at hm
        have HM := Lib.hid hm
        have hres := obj_ne (c := b) (i := 1) (.int .i64 ((p.length : Int) + 1)) (by omega) (obj_bel y1 (World.alloc_heap_new w (.cells #[.int .i64 0, .int .i64 0, .slice none 0 0] 26)))
        have HRS := Lib.hid hres
        have HRK := Lib.hid ((RK.bel (by (repeat' (first | (with_reducible exact Below.refl _ _) | (with_reducible exact Nat.le_refl _) | (with_reducible refine Below.bel ?_ ?_) | (with_reducible refine Below.alloc ?_ ?_ _) | (with_reducible refine Below.drew ?_) | (with_reducible refine Below.drawsN ?_ _) | (with_reducible refine Below.setCell ?_ ?_ _) | (with_reducible refine le_bel ?_) | (with_reducible refine le_alloc ?_) | (with_reducible refine le_setCell ?_) | (with_reducible refine le_drew ?_) | (with_reducible refine le_drawsN ?_) | (dsimp only; with_reducible refine le_bel ?_) | (dsimp only; with_reducible refine Nat.le_refl _) | (dsimp only; with_reducible refine le_bel_add ?_) | (with_reducible assumption) | omega | (dsimp only; omega))) : Below w.heap.size w y1.w) (by omega : b ≤ w.heap.size)).trans (RK.set (i := 1) (.int .i64 ((p.length : Int) + 1))))
        clear hr1 hm hres
        dsimp only
        go_wp2_with fail
        refine (HV.out _).mono ?_
        rintro _ _ ⟨v2, rfl, y2, rfl, ad5, cap5, rfl, hi5⟩
        have hres2 := obj_bel y2 HRS.out
        obtain ⟨r0, r1, r2⟩ := box3 hres2
        obtain ⟨q0, q1, q2⟩ := box3f hres2
        simp only [cst, F.k, F.a, F.l, List.length_nil, if_true, Bool.false_eq_true, if_false]
        go_wp2
        have hR := obj_set3 (.int .i64 5) (.int .i64 0) (.slice ad5 0 cap5) hres2
        obtain ⟨s0, s1, s2⟩ := box3 hR
        refine bodyPost_ret (v := .tuple #[.agg #[.int .i64 5, .int .i64 0, .slice ad5 0 cap5], .bool true]) (by simp [results, Tryz.results48, go_sem, s0, s1, s2]) rfl ⟨_, rfl, ⟨ad5, cap5, rfl, insF_nil _ _ _⟩, ?_, ?_⟩
        · exact obj_ne _ (by omega) (obj_ne _ (by omega) (obj_ne _ (by omega) (HM.out.of y2.below)))
        · exact (((HRK.out.trans (RK.bel y2.below (by simp; omega))).setNew (by omega) (by omega) _).setNew (by omega) (by omega) _).setNew (by omega) (by omega) _
      · rw [show txt (nd 6 0 []) = [49] from rfl] at hS h ⊢
        rw [List.singleton_append] at hS h ⊢
        have HV := Lib.hid (constant_any true)
        have hpl : p.length + 1 ≤ 1000000 := by simp only [List.length_append, List.length_cons] at hS; omega
        have hb0 := byteAt_app p (49 :: r) 0
        rw [show byteAt (49 :: r) 0 = 49 from rfl, Nat.add_zero] at hb0
        have HN0 := Lib.hid (fun w' (h : RdAt w' b (p ++ (49 :: r)) p.length) => next_any b (p ++ (49 :: r)) p.length w' h hS (by omega))
        rw [hb0, show ((49 : UInt8).toNat : Int) = 49 from rfl] at HN0
        have HR := Lib.hid h
        clear h hb0
        go_enter Tryz.func48, Tryz.ntmps48
        go_wp2_with fail
        refine (HN0.out _ (HR.out.of (by (repeat' (first | (with_reducible exact Below.refl _ _) | (with_reducible exact Nat.le_refl _) | (with_reducible refine Below.bel ?_ ?_) | (with_reducible refine Below.alloc ?_ ?_ _) | (with_reducible refine Below.drew ?_) | (with_reducible refine Below.drawsN ?_ _) | (with_reducible refine Below.setCell ?_ ?_ _) | (with_reducible refine le_bel ?_) | (with_reducible refine le_alloc ?_) | (with_reducible refine le_setCell ?_) | (with_reducible refine le_drew ?_) | (with_reducible refine le_drawsN ?_) | (dsimp only; with_reducible refine le_bel ?_) | (dsimp only; with_reducible refine Nat.le_refl _) | (dsimp only; with_reducible refine le_bel_add ?_) | (with_reducible assumption) | omega | (dsimp only; omega)))))).mono ?_
        rintro _ _ ⟨rfl, y1, rfl⟩
        have hs1 := y1.size_le
        simp at hs1
        have hr1 := HR.out.of (by (repeat' (first | (with_reducible exact Below.refl _ _) | (with_reducible exact Nat.le_refl _) | (with_reducible refine Below.bel ?_ ?_) | (with_reducible refine Below.alloc ?_ ?_ _) | (with_reducible refine Below.drew ?_) | (with_reducible refine Below.drawsN ?_ _) | (with_reducible refine Below.setCell ?_ ?_ _) | (with_reducible refine le_bel ?_) | (with_reducible refine le_alloc ?_) | (with_reducible refine le_setCell ?_) | (with_reducible refine le_drew ?_) | (with_reducible refine le_drawsN ?_) | (dsimp only; with_reducible refine le_bel ?_) | (dsimp only; with_reducible refine Nat.le_refl _) | (dsimp only; with_reducible refine le_bel_add ?_) | (with_reducible assumption) | omega | (dsimp only; omega))) : Below w.heap.size w y1.w)
        obtain ⟨g0, g1, g2, g3⟩ := box2 hr1
        have hm := hr1.move (p.length + 1)
        rw [show ((p.length + 1 : Nat) : Int) = (p.length : Int) + 1 by omega] at hm
        have HM := Lib.hid hm
        have hres := obj_ne (c := b) (i := 1) (.int .i64 ((p.length : Int) + 1)) (by omega) (obj_bel y1 (World.alloc_heap_new w (.cells #[.int .i64 0, .int .i64 0, .slice none 0 0] 26)))
        have HRS := Lib.hid hres
        have HRK := Lib.hid ((RK.bel (by (repeat' (first | (with_reducible exact Below.refl _ _) | (with_reducible exact Nat.le_refl _) | (with_reducible refine Below.bel ?_ ?_) | (with_reducible refine Below.alloc ?_ ?_ _) | (with_reducible refine Below.drew ?_) | (with_reducible refine Below.drawsN ?_ _) | (with_reducible refine Below.setCell ?_ ?_ _) | (with_reducible refine le_bel ?_) | (with_reducible refine le_alloc ?_) | (with_reducible refine le_setCell ?_) | (with_reducible refine le_drew ?_) | (with_reducible refine le_drawsN ?_) | (dsimp only; with_reducible refine le_bel ?_) | (dsimp only; with_reducible refine Nat.le_refl _) | (dsimp only; with_reducible refine le_bel_add ?_) | (with_reducible assumption) | omega | (dsimp only; omega))) : Below w.heap.size w y1.w) (by omega : b ≤ w.heap.size)).trans (RK.set (i := 1) (.int .i64 ((p.length : Int) + 1))))
        clear hr1 hm hres
        dsimp only
        go_wp2_with fail
        refine (HV.out _).mono ?_
        rintro _ _ ⟨v2, rfl, y2, rfl, ad5, cap5, rfl, hi5⟩
        have hres2 := obj_bel y2 HRS.out
        obtain ⟨r0, r1, r2⟩ := box3 hres2
        obtain ⟨q0, q1, q2⟩ := box3f hres2
        simp only [cst, F.k, F.a, F.l, List.length_nil, if_true, Bool.false_eq_true, if_false]
        go_wp2
        have hR := obj_set3 (.int .i64 6) (.int .i64 0) (.slice ad5 0 cap5) hres2
        obtain ⟨s0, s1, s2⟩ := box3 hR
        refine bodyPost_ret (v := .tuple #[.agg #[.int .i64 6, .int .i64 0, .slice ad5 0 cap5], .bool true]) (by simp [results, Tryz.results48, go_sem, s0, s1, s2]) rfl ⟨_, rfl, ⟨ad5, cap5, rfl, insF_nil _ _ _⟩, ?_, ?_⟩
        · exact obj_ne _ (by omega) (obj_ne _ (by omega) (obj_ne _ (by omega) (HM.out.of y2.below)))
        · exact (((HRK.out.trans (RK.bel y2.below (by simp; omega))).setNew (by omega) (by omega) _).setNew (by omega) (by omega) _).setNew (by omega) (by omega) _
end Go.Proofs.YtkbellmhanpocaaGreatDoor
