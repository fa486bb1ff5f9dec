/- Circles of fifths: Rest, Closes, Between, Note, above, index. -/
import Derived.Test.YtehgeoipbgpocaaGreatDoorTg
import Derived.Test.YtehgeoipbgpocaaGreatDoorTb
import Derived.Test.YtehgeoipbgpocaaGreatDoorSe
namespace Go.Proofs.YtehgeoipbgpocaaGreatDoor
set_option linter.unusedVariables false
set_option linter.unusedSimpArgs false
open Go.RowKit
attribute [local go_sem low] Bel.cell Bel.frozen alloc_cell alloc_frozen
attribute [local go_sem] calmOp chainOp yieldsC grows

theorem tcheck_ok (c : Cir) (w : World) (h : chkC c = 0) : Calls Tryz.prog 9 #[.agg (cirA c)] w (Ret (.int .i64 0) w) := by
  have := tcheck_any c w
  rwa [h] at this
def reM (c : Cir) : Option Sz := (suM c 12).bind fun s => lim1 (opS subQ s (octS 7)) (opE subQ s (octS 7))
set_option maxRecDepth 100000 in
set_option maxHeartbeats 6400000 in
theorem rest_any (c : Cir) (w : World) (hC : chkC c = 0) : Calls Tryz.prog 52 #[cirV c] w (Ret (oV (reM c)) w) := by
  have hVc : cirV c = .agg (cirA c) := rfl
  have HSM := Lib.hid (fun w' => sum_any c 12 w' (by omega))
  rw [hVc, show ((12 : Nat) : Int) = 12 from rfl] at HSM
  rw [hVc]
  have HCK := Lib.hid (fun w' => tcheck_ok c w' hC)
  have HOC := Lib.hid (fun w' => octaves_any 7 w')
  generalize hRR : oV (reM c) = RR at *
  have HRR := Lib.hid hRR
  have HNM : Hid (reM c = (suM c 12).bind fun s => lim1 (opS subQ s (octS 7)) (opE subQ s (octS 7))) := Lib.hid rfl
  obtain ⟨ov, hov⟩ : ∃ ov, octS 7 = ov := ⟨_, rfl⟩
  rw [hov] at HNM HOC
  rw [szV ov] at HOC
  clear hVc hRR hov hC
  cases hs : suM c 12 with
  | none =>
    have HNR : Hid (reM c = none) := Lib.hid (by rw [HNM.out, hs]; rfl)
    rw [hs, oV_none] at HSM
    clear hs
    go_enter Tryz.func52, Tryz.ntmps52
    go_wp2_with (refine wpList_ldC rfl _ rfl _ rfl (cirA c) (obj_alloc _ (obj_new _ _)) (cirA_size c) ?_)
    (with_reducible refine (HCK.out _).mono ?_)
    rintro _ _ ⟨rfl, x, rfl⟩
    have hxs := x.size_le
    rw [World.size_alloc, World.size_alloc] at hxs
    dsimp only
    go_wp2_with (refine wpList_ldC rfl _ rfl _ rfl (cirA c) (obj_bel x (obj_alloc _ (obj_new _ _))) (cirA_size c) ?_)
    (with_reducible refine (HSM.out _).mono ?_)
    rintro _ _ ⟨rfl, d, rfl⟩
    have hds := d.size_le
    have hd1 := obj_bel d (obj_bel x (obj_new1 w (.cells (cirA c) 36) (.cells #[.int .i64 0, .int .i64 0, .int .i64 0, .int .i64 0, .int .i64 0, .int .i64 0] 45)))
    · dsimp only
      have he1 := obj_alloc (.cells #[.int .i64 0, .int .i64 0, .int .i64 0, .int .i64 0, .int .i64 0, .int .i64 0] 45) hd1
      have hen := obj_new d.w (.cells #[.int .i64 0, .int .i64 0, .int .i64 0, .int .i64 0, .int .i64 0, .int .i64 0] 45)
      have heb : Below w.heap.size w (d.w.alloc (.cells #[.int .i64 0, .int .i64 0, .int .i64 0, .int .i64 0, .int .i64 0, .int .i64 0] 45)) := by (repeat' (first | (with_reducible first | apply Zl1 | apply Zl2 | apply Zl3 | apply Zl4 | apply Zl5 | apply Zl6 | apply Zl7 | apply Zl8 | apply Zl9 | apply Zla | apply Zlb | apply Zlc) | (dsimp only; with_reducible first | apply Zl8 | apply Zl2 | apply Zld) | with_reducible assumption | omega | (dsimp only; omega)))
      have hdl := obj_lt hd1
      obtain ⟨E, hE⟩ : ∃ E, d.w.alloc (.cells #[.int .i64 0, .int .i64 0, .int .i64 0, .int .i64 0, .int .i64 0, .int .i64 0] 45) = E := ⟨_, rfl⟩
      rw [hE] at he1 hen heb
      have HEQ := Lib.hid hE
      obtain ⟨b0, b1, b2, b3, b4, b5⟩ := froz6 he1
      obtain ⟨c0, c1, c2, c3, c4, c5⟩ := cells6 he1
      obtain ⟨f0, f1, f2, f3, f4, f5⟩ := froz6 hen
      obtain ⟨e0, e1, e2, e3, e4, e5⟩ := cells6 hen
      have HE1 := Lib.hid (obj_ne6 (.int .i64 0) (.int .i64 0) (.int .i64 0) (.int .i64 0) (.int .i64 0) (.int .i64 0) (show w.heap.size + 1 ≠ d.w.heap.size by omega) he1)
      clear hd1 he1 hen hE
      go_wp2_with (rw [HEQ.out])
      refine ret_obj (b := w.heap.size + 1) (vs := #[.int .i64 0, .int .i64 0, .int .i64 0, .int .i64 0, .int .i64 0, .int .i64 0]) (T := 45) (v := .tuple #[.agg #[.int .i64 0, .int .i64 0, .int .i64 0, .int .i64 0, .int .i64 0, .int .i64 0], .int .i64 4]) (obj_set6 _ _ _ _ _ _ HE1.out) (fun W' hW' => ?_) rfl ?_
      · obtain ⟨a0, a1, a2, a3, a4, a5⟩ := cells6 hW'
        simp [results, Tryz.results52, go_sem, a0, a1, a2, a3, a4, a5]
      · exact Ret.mk (by rw [← HRR.out, HNR.out]; rfl) (by (repeat' (first | (with_reducible first | apply Zl1 | apply Zl2 | apply Zl3 | apply Zl4 | apply Zl5 | apply Zl6 | apply Zl7 | apply Zl8 | apply Zl9 | apply Zla | apply Zlb | apply Zlc) | (dsimp only; with_reducible first | apply Zl8 | apply Zl2 | apply Zld) | with_reducible assumption | omega | (dsimp only; omega))))
  | some s =>
    have HNR : Hid (reM c = lim1 (opS subQ s ov) (opE subQ s ov)) := Lib.hid (by rw [HNM.out, hs]; rfl)
    rw [hs, oV_some] at HSM
    have HAD := Lib.hid (fun w' => isub_any s ov w')
    have HLI := Lib.hid (fun w' => limited_any (opS subQ s ov) (opE subQ s ov) w')
    rw [szV s, szV ov] at HAD
    generalize opS subQ s ov = rs at *
    generalize opE subQ s ov = re at *
    generalize lim1 rs re = o at *
    rw [szV rs] at HAD HLI
    rw [tupO] at HLI
    obtain ⟨t, ht⟩ : ∃ t, oS o = t := ⟨_, rfl⟩
    obtain ⟨te, hte⟩ : ∃ te, oE o = te := ⟨_, rfl⟩
    rw [ht, hte] at HLI
    have HT := Lib.hid ht
    have HTE := Lib.hid hte
    clear hs ht hte
    go_enter Tryz.func52, Tryz.ntmps52
    go_wp2_with (refine wpList_ldC rfl _ rfl _ rfl (cirA c) (obj_alloc _ (obj_new _ _)) (cirA_size c) ?_)
    (with_reducible refine (HCK.out _).mono ?_)
    rintro _ _ ⟨rfl, x, rfl⟩
    have hxs := x.size_le
    rw [World.size_alloc, World.size_alloc] at hxs
    dsimp only
    go_wp2_with (refine wpList_ldC rfl _ rfl _ rfl (cirA c) (obj_bel x (obj_alloc _ (obj_new _ _))) (cirA_size c) ?_)
    (with_reducible refine (HSM.out _).mono ?_)
    rintro _ _ ⟨rfl, d, rfl⟩
    have hds := d.size_le
    dsimp only
    go_wp2_with fail
    have hy1 := obj_alloc (.cells #[.int .i64 s.a.n, .int .i64 s.a.d, .int .i64 s.b.n, .int .i64 s.b.d, .int .i64 s.c.n, .int .i64 s.c.d] 45) (obj_bel d (obj_bel x (obj_new1 w (.cells (cirA c) 36) (.cells #[.int .i64 0, .int .i64 0, .int .i64 0, .int .i64 0, .int .i64 0, .int .i64 0] 45))))
    have hy2 := obj_new d.w (.cells #[.int .i64 s.a.n, .int .i64 s.a.d, .int .i64 s.b.n, .int .i64 s.b.d, .int .i64 s.c.n, .int .i64 s.c.d] 45)
    have hyb : Below w.heap.size w (d.w.alloc (.cells #[.int .i64 s.a.n, .int .i64 s.a.d, .int .i64 s.b.n, .int .i64 s.b.d, .int .i64 s.c.n, .int .i64 s.c.d] 45)) := by (repeat' (first | (with_reducible first | apply Zl1 | apply Zl2 | apply Zl3 | apply Zl4 | apply Zl5 | apply Zl6 | apply Zl7 | apply Zl8 | apply Zl9 | apply Zla | apply Zlb | apply Zlc) | (dsimp only; with_reducible first | apply Zl8 | apply Zl2 | apply Zld) | with_reducible assumption | omega | (dsimp only; omega)))
    generalize d.w.alloc (.cells #[.int .i64 s.a.n, .int .i64 s.a.d, .int .i64 s.b.n, .int .i64 s.b.d, .int .i64 s.c.n, .int .i64 s.c.d] 45) = Y at *
    generalize d.w.heap.size = SB at *
    obtain ⟨KE, hKE⟩ : ∃ KE : World → Prop, KE = KeepF w SB (.cells #[.int .i64 s.a.n, .int .i64 s.a.d, .int .i64 s.b.n, .int .i64 s.b.d, .int .i64 s.c.n, .int .i64 s.c.d] 45) (w.heap.size + 1) := ⟨_, rfl⟩
    have hK0 : KE Y := by rw [hKE]; exact ⟨hyb, hy2, ⟨_, _, _, _, _, _, hy1⟩⟩
    have hYw := hyb.size
    have KB := Lib.hid (show ∀ (V : World) (z : Bel V), KE V → Y.heap.size ≤ V.heap.size → KE z.w from fun V z h h2 => by rw [hKE] at h ⊢; exact KeepF.bel z (by omega) h)
    have KD := Lib.hid (show ∀ (V : World), KE V → KE V.drew from fun V h => by rw [hKE] at h ⊢; exact KeepF.drew h)
    have KS := Lib.hid (show ∀ (V : World) (i : Nat) (v : Value), i < 6 → KE V → KE (V.setCell ⟨w.heap.size + 1, i, none⟩ v) from fun V i v hi h => by rw [hKE] at h ⊢; exact KeepF.set h hi (by omega) (by omega))
    have KR := Lib.hid (show ∀ (V : World), KE V → KeepF w SB (.cells #[.int .i64 s.a.n, .int .i64 s.a.d, .int .i64 s.b.n, .int .i64 s.b.d, .int .i64 s.c.n, .int .i64 s.c.d] 45) (w.heap.size + 1) V from fun V h => by rw [hKE] at h; exact h)
    have SK := Lib.hid (show ∀ V : World, KE V ∧ Y.heap.size ≤ V.heap.size → V.cell? ⟨SB, 0, none⟩ = some (.int .i64 s.a.n) ∧ V.cell? ⟨SB, 1, none⟩ = some (.int .i64 s.a.d) ∧ V.cell? ⟨SB, 2, none⟩ = some (.int .i64 s.b.n) ∧ V.cell? ⟨SB, 3, none⟩ = some (.int .i64 s.b.d) ∧ V.cell? ⟨SB, 4, none⟩ = some (.int .i64 s.c.n) ∧ V.cell? ⟨SB, 5, none⟩ = some (.int .i64 s.c.d) ∧ KE V ∧ Y.heap.size ≤ V.heap.size from
      fun V h => have hb := (KR.out V h.1).b; ⟨(made_cell hb 0).1, (made_cell hb 1).1, (made_cell hb 2).1, (made_cell hb 3).1, (made_cell hb 4).1, (made_cell hb 5).1, h⟩)
    obtain ⟨i0, i1, i2, i3, i4, i5, _⟩ := SK.out Y ⟨hK0, Nat.le_refl _⟩
    clear hKE hy1 hy2 hyb
    go_region_held3 (fun V => V.cell? ⟨SB, 0, none⟩ = some (.int .i64 s.a.n) ∧ V.cell? ⟨SB, 1, none⟩ = some (.int .i64 s.a.d) ∧ V.cell? ⟨SB, 2, none⟩ = some (.int .i64 s.b.n) ∧ V.cell? ⟨SB, 3, none⟩ = some (.int .i64 s.b.d) ∧ V.cell? ⟨SB, 4, none⟩ = some (.int .i64 s.c.n) ∧ V.cell? ⟨SB, 5, none⟩ = some (.int .i64 s.c.d) ∧ KE V ∧ Y.heap.size ≤ V.heap.size) (exact SK.out _ (by (repeat' (first | with_reducible assumption | apply And.intro | (with_reducible apply KD.out) | (with_reducible apply KB.out) | (with_reducible apply KS.out) | (with_reducible first | apply Zl2 | apply Zlb | apply Zla | apply Zl8 | apply Zlc) | omega | decide)))) (first | (go_at_call 98; refine (HOC.out _).mono ?_; rintro _ _ ⟨rfl, u, rfl⟩; have hus := u.size_le) | (go_at_call 42; refine (HAD.out _).mono ?_; rintro _ _ ⟨rfl, x, rfl⟩; have hxs := x.size_le) | (go_at_call 41; refine (HLI.out _).mono ?_; rintro _ _ ⟨rfl, z, rfl⟩; have hzs := z.size_le; have hKz := KB.out _ z (by (repeat' (first | with_reducible assumption | (with_reducible apply KD.out) | (with_reducible apply KB.out) | (with_reducible first | apply Zl2 | apply Zlb | apply Zl8 | apply Zlc) | omega))) (by (repeat' (first | with_reducible assumption | (with_reducible first | apply Zl2 | apply Zlb | apply Zl8 | apply Zlc) | omega))); obtain ⟨x0, x1, x2, x3, x4, x5, hO1⟩ := (KR.out _ hKz).c1; obtain ⟨f0, f1, f2, f3, f4, f5⟩ := froz6 hO1; obtain ⟨e0, e1, e2, e3, e4, e5⟩ := cells6 hO1; have HO1 := Lib.hid hO1; clear hO1))
    all_goals
      rename_i hHeld
      have hE := KR.out _ hHeld.2.2.2.2.2.2.1
      have hN1 := obj_set6 (.int .i64 t.a.n) (.int .i64 t.a.d) (.int .i64 t.b.n) (.int .i64 t.b.d) (.int .i64 t.c.n) (.int .i64 t.c.d) HO1.out
      have HN1 := Lib.hid hN1
      have hbl := hE.bl
      clear hHeld hN1 e0 e1 e2 e3 e4 e5 f0 f1 f2 f3 f4 f5 i0 i1 i2 i3 i4 i5 KB KD KS KR SK hK0 HO1 hE
      go_wp2_with fail
      refine ret_obj (b := w.heap.size + 1) (vs := #[.int .i64 t.a.n, .int .i64 t.a.d, .int .i64 t.b.n, .int .i64 t.b.d, .int .i64 t.c.n, .int .i64 t.c.d]) (T := 45) (v := .tuple #[.agg #[.int .i64 t.a.n, .int .i64 t.a.d, .int .i64 t.b.n, .int .i64 t.b.d, .int .i64 t.c.n, .int .i64 t.c.d], .int .i64 te]) HN1.out (fun W' hW' => ?_) rfl ?_
      · obtain ⟨a0, a1, a2, a3, a4, a5⟩ := cells6 hW'
        simp [results, Tryz.results52, go_sem, a0, a1, a2, a3, a4, a5]
      · exact Ret.mk (by rw [← HRR.out, HNR.out, tupO, HT.out, HTE.out]) hbl
set_option maxRecDepth 100000 in
set_option maxHeartbeats 6400000 in
theorem tBetween_any (c : Cir) (f g : Nat) (w : World) (hC : chkC c = 0) (hf : f ≤ 127) (hg : g ≤ 127) (hT : I.Tab w) : Calls Tryz.prog 94 #[cirV c, .int .i64 (f : Int), .int .i64 (g : Int)] w (Ret (oV (btM c f g)) w) := by
  have hVc : cirV c = .agg (cirA c) := rfl
  have HBT := Lib.hid (fun w' hT => between_any c f g w' (by omega) (by omega) hT)
  rw [hVc] at HBT ⊢
  have HTA := Lib.hid hT
  have HCK := Lib.hid (fun w' => tcheck_ok c w' hC)
  generalize hRR : oV (btM c f g) = RR at *
  have HRR := Lib.hid hRR
  obtain ⟨o, ho⟩ : ∃ o, btM c f g = o := ⟨_, rfl⟩
  have HNR := Lib.hid ho
  rw [← hRR, ho, tupO] at HBT
  obtain ⟨t, ht⟩ : ∃ t, oS o = t := ⟨_, rfl⟩
  obtain ⟨te, hte⟩ : ∃ te, oE o = te := ⟨_, rfl⟩
  rw [ht, hte] at HBT
  have HT := Lib.hid ht
  have HTE := Lib.hid hte
  clear hVc hRR hC ho ht hte hT
  have f1 : decide ((f : Int) < 0) = false := decide_eq_false (by omega)
  have f2 : decide (127 < (f : Int)) = false := decide_eq_false (by omega)
  have f3 : decide ((g : Int) < 0) = false := decide_eq_false (by omega)
  have f4 : decide (127 < (g : Int)) = false := decide_eq_false (by omega)
  go_enter Tryz.func94, Tryz.ntmps94
  go_wp2_with (refine wpList_ldC rfl _ rfl _ rfl (cirA c) (obj_alloc _ (obj_new _ _)) (cirA_size c) ?_)
  (with_reducible refine (HCK.out _).mono ?_)
  rintro _ _ ⟨rfl, x, rfl⟩
  have hxs := x.size_le
  rw [World.size_alloc, World.size_alloc] at hxs
  dsimp only
  go_wp2_with (refine wpList_ldC rfl _ rfl _ rfl (cirA c) (obj_bel x (obj_alloc _ (obj_new _ _))) (cirA_size c) ?_)
  (with_reducible refine (HBT.out _ (HTA.out.of (by (repeat' (first | (with_reducible first | apply Zl1 | apply Zl2 | apply Zl3 | apply Zl4 | apply Zl5 | apply Zl6 | apply Zl7 | apply Zl8 | apply Zl9 | apply Zla | apply Zlb | apply Zlc) | (dsimp only; with_reducible first | apply Zl8 | apply Zl2 | apply Zld) | with_reducible assumption | omega | (dsimp only; omega)))))).mono ?_)
  rintro _ _ ⟨rfl, z, rfl⟩
  have hzs := z.size_le
  have hz1 := obj_bel z (obj_bel x (obj_new1 w (.cells (cirA c) 36) (.cells #[.int .i64 0, .int .i64 0, .int .i64 0, .int .i64 0, .int .i64 0, .int .i64 0] 45)))
  have hzb : Below w.heap.size w z.w := by (repeat' (first | (with_reducible first | apply Zl1 | apply Zl2 | apply Zl3 | apply Zl4 | apply Zl5 | apply Zl6 | apply Zl7 | apply Zl8 | apply Zl9 | apply Zla | apply Zlb | apply Zlc) | (dsimp only; with_reducible first | apply Zl8 | apply Zl2 | apply Zld) | with_reducible assumption | omega | (dsimp only; omega)))
  obtain ⟨U, hU⟩ : ∃ U, z.w = U := ⟨_, rfl⟩
  rw [hU] at hz1 hzb ⊢
  clear hU
  obtain ⟨f0, f1, f2, f3, f4, f5⟩ := froz6 hz1
  obtain ⟨e0, e1, e2, e3, e4, e5⟩ := cells6 hz1
  have HZ1 := Lib.hid hz1
  clear hz1
  dsimp only
  go_wp2_with fail
  refine ret_obj (b := w.heap.size + 1) (vs := #[.int .i64 t.a.n, .int .i64 t.a.d, .int .i64 t.b.n, .int .i64 t.b.d, .int .i64 t.c.n, .int .i64 t.c.d]) (T := 45) (v := .tuple #[.agg #[.int .i64 t.a.n, .int .i64 t.a.d, .int .i64 t.b.n, .int .i64 t.b.d, .int .i64 t.c.n, .int .i64 t.c.d], .int .i64 te]) (obj_set6 _ _ _ _ _ _ HZ1.out) (fun W' hW' => ?_) rfl ?_
  · obtain ⟨a0, a1, a2, a3, a4, a5⟩ := cells6 hW'
    simp [results, Tryz.results94, go_sem, a0, a1, a2, a3, a4, a5]
  · exact Ret.mk (by rw [← HRR.out, HNR.out, tupO, HT.out, HTE.out]) (by (repeat' (first | (with_reducible first | apply Zl1 | apply Zl2 | apply Zl3 | apply Zl4 | apply Zl5 | apply Zl6 | apply Zl7 | apply Zl8 | apply Zl9 | apply Zla | apply Zlb | apply Zlc) | (dsimp only; with_reducible first | apply Zl8 | apply Zl2 | apply Zld) | with_reducible assumption | omega | (dsimp only; omega))))
set_option maxRecDepth 100000 in
set_option maxHeartbeats 6400000 in
theorem tindex_any (c : Cir) (n : Nat) (w : World) (hC : chkC c = 0) (hn : n ≤ 11) : Calls Tryz.prog 198 #[.agg (cirA c), .int .i64 (n : Int)] w (Ret (.int .i64 0) w) := by
  have HCK := Lib.hid (fun w' => tcheck_ok c w' hC)
  clear hC
  have f1 : decide ((n : Int) < 0) = false := decide_eq_false (by omega)
  have f2 : decide (11 < (n : Int)) = false := decide_eq_false (by omega)
  go_enter Tryz.func198, Tryz.ntmps198
  go_wp2_with (refine wpList_ldC rfl _ rfl _ rfl (cirA c) (obj_new _ _) (cirA_size c) ?_)
  (with_reducible refine (HCK.out _).mono ?_)
  rintro _ _ ⟨rfl, x, rfl⟩
  dsimp only
  go_wp2
  go_ret
  exact Ret.mk (by rfl) (by (repeat' (first | (with_reducible first | apply Zl1 | apply Zl2 | apply Zl3 | apply Zl4 | apply Zl5 | apply Zl6 | apply Zl7 | apply Zl8 | apply Zl9 | apply Zla | apply Zlb | apply Zlc) | (dsimp only; with_reducible first | apply Zl8 | apply Zl2 | apply Zld) | with_reducible assumption | omega | (dsimp only; omega))))
set_option maxRecDepth 100000 in
set_option maxHeartbeats 6400000 in
theorem above_any (c : Cir) (n : Nat) (w : World) (hC : chkC c = 0) (hn : n ≤ 36) : Calls Tryz.prog 38 #[.agg (cirA c), .int .i64 (n : Int)] w (Ret (.int .i64 0) w) := by
  have HCK := Lib.hid (fun w' => tcheck_ok c w' hC)
  clear hC
  have f1 : decide ((n : Int) < 0) = false := decide_eq_false (by omega)
  have f2 : decide (36 < (n : Int)) = false := decide_eq_false (by omega)
  go_enter Tryz.func38, Tryz.ntmps38
  go_wp2_with (refine wpList_ldC rfl _ rfl _ rfl (cirA c) (obj_new _ _) (cirA_size c) ?_)
  (with_reducible refine (HCK.out _).mono ?_)
  rintro _ _ ⟨rfl, x, rfl⟩
  dsimp only
  go_wp2
  go_ret
  exact Ret.mk (by rfl) (by (repeat' (first | (with_reducible first | apply Zl1 | apply Zl2 | apply Zl3 | apply Zl4 | apply Zl5 | apply Zl6 | apply Zl7 | apply Zl8 | apply Zl9 | apply Zla | apply Zlb | apply Zlc) | (dsimp only; with_reducible first | apply Zl8 | apply Zl2 | apply Zld) | with_reducible assumption | omega | (dsimp only; omega))))
set_option maxRecDepth 100000 in
set_option maxHeartbeats 6400000 in
theorem tNote_any (c : Cir) (n : Nat) (w : World) (hC : chkC c = 0) (hn : n < 12) (hT : I.Tab w) : Calls Tryz.prog 135 #[cirV c, .int .i64 (n : Int)] w (Ret (oV (noM c n)) w) := by
  have hVc : cirV c = .agg (cirA c) := rfl
  have HBT := Lib.hid (fun w' hT => note_any c n w' hn hT)
  rw [hVc] at HBT ⊢
  have HTA := Lib.hid hT
  have HCK := Lib.hid (fun w' => tindex_any c n w' hC (by omega))
  generalize hRR : oV (noM c n) = RR at *
  have HRR := Lib.hid hRR
  obtain ⟨o, ho⟩ : ∃ o, noM c n = o := ⟨_, rfl⟩
  have HNR := Lib.hid ho
  rw [← hRR, ho, tupO] at HBT
  obtain ⟨t, ht⟩ : ∃ t, oS o = t := ⟨_, rfl⟩
  obtain ⟨te, hte⟩ : ∃ te, oE o = te := ⟨_, rfl⟩
  rw [ht, hte] at HBT
  have HT := Lib.hid ht
  have HTE := Lib.hid hte
  clear hVc hRR hC ho ht hte hT
  go_enter Tryz.func135, Tryz.ntmps135
  go_wp2_with (refine wpList_ldC rfl _ rfl _ rfl (cirA c) (obj_alloc _ (obj_new _ _)) (cirA_size c) ?_)
  (with_reducible refine (HCK.out _).mono ?_)
  rintro _ _ ⟨rfl, x, rfl⟩
  have hxs := x.size_le
  rw [World.size_alloc, World.size_alloc] at hxs
  dsimp only
  go_wp2_with (refine wpList_ldC rfl _ rfl _ rfl (cirA c) (obj_bel x (obj_alloc _ (obj_new _ _))) (cirA_size c) ?_)
  (with_reducible refine (HBT.out _ (HTA.out.of (by (repeat' (first | (with_reducible first | apply Zl1 | apply Zl2 | apply Zl3 | apply Zl4 | apply Zl5 | apply Zl6 | apply Zl7 | apply Zl8 | apply Zl9 | apply Zla | apply Zlb | apply Zlc) | (dsimp only; with_reducible first | apply Zl8 | apply Zl2 | apply Zld) | with_reducible assumption | omega | (dsimp only; omega)))))).mono ?_)
  rintro _ _ ⟨rfl, z, rfl⟩
  have hzs := z.size_le
  have hz1 := obj_bel z (obj_bel x (obj_new1 w (.cells (cirA c) 36) (.cells #[.int .i64 0, .int .i64 0, .int .i64 0, .int .i64 0, .int .i64 0, .int .i64 0] 45)))
  have hzb : Below w.heap.size w z.w := by (repeat' (first | (with_reducible first | apply Zl1 | apply Zl2 | apply Zl3 | apply Zl4 | apply Zl5 | apply Zl6 | apply Zl7 | apply Zl8 | apply Zl9 | apply Zla | apply Zlb | apply Zlc) | (dsimp only; with_reducible first | apply Zl8 | apply Zl2 | apply Zld) | with_reducible assumption | omega | (dsimp only; omega)))
  obtain ⟨U, hU⟩ : ∃ U, z.w = U := ⟨_, rfl⟩
  rw [hU] at hz1 hzb ⊢
  clear hU
  obtain ⟨f0, f1, f2, f3, f4, f5⟩ := froz6 hz1
  obtain ⟨e0, e1, e2, e3, e4, e5⟩ := cells6 hz1
  have HZ1 := Lib.hid hz1
  clear hz1
  dsimp only
  go_wp2_with fail
  refine ret_obj (b := w.heap.size + 1) (vs := #[.int .i64 t.a.n, .int .i64 t.a.d, .int .i64 t.b.n, .int .i64 t.b.d, .int .i64 t.c.n, .int .i64 t.c.d]) (T := 45) (v := .tuple #[.agg #[.int .i64 t.a.n, .int .i64 t.a.d, .int .i64 t.b.n, .int .i64 t.b.d, .int .i64 t.c.n, .int .i64 t.c.d], .int .i64 te]) (obj_set6 _ _ _ _ _ _ HZ1.out) (fun W' hW' => ?_) rfl ?_
  · obtain ⟨a0, a1, a2, a3, a4, a5⟩ := cells6 hW'
    simp [results, Tryz.results135, go_sem, a0, a1, a2, a3, a4, a5]
  · exact Ret.mk (by rw [← HRR.out, HNR.out, tupO, HT.out, HTE.out]) (by (repeat' (first | (with_reducible first | apply Zl1 | apply Zl2 | apply Zl3 | apply Zl4 | apply Zl5 | apply Zl6 | apply Zl7 | apply Zl8 | apply Zl9 | apply Zla | apply Zlb | apply Zlc) | (dsimp only; with_reducible first | apply Zl8 | apply Zl2 | apply Zld) | with_reducible assumption | omega | (dsimp only; omega))))
end Go.Proofs.YtehgeoipbgpocaaGreatDoor
