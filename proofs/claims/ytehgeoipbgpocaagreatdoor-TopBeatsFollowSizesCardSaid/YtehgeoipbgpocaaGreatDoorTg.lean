/- Circles of fifths: between. -/
import Derived.Test.YtehgeoipbgpocaaGreatDoorTf
namespace Go.Proofs.YtehgeoipbgpocaaGreatDoor
set_option linter.unusedVariables false
set_option linter.unusedSimpArgs false
open Go.RowKit
attribute [local go_sem low] Bel.cell Bel.frozen alloc_cell alloc_frozen
attribute [local go_sem] calmOp chainOp yieldsC grows

def btM (c : Cir) (f t : Nat) : Option Sz := (plM c f).bind fun a => (plM c t).bind fun b => lim1 (opS subQ b a) (opE subQ b a)
set_option maxRecDepth 100000 in
set_option maxHeartbeats 6400000 in
theorem between_any (c : Cir) (f g : Nat) (w : World) (hf : f ≤ 1000) (hg : g ≤ 1000) (hT : I.Tab w) : Calls Tryz.prog 40 #[cirV c, .int .i64 (f : Int), .int .i64 (g : Int)] w (Ret (oV (btM c f g)) w) := by
  have hVc : cirV c = .agg (cirA c) := rfl
  have HPF := Lib.hid (fun w' hT => place_any c f w' hf hT)
  have HPG := Lib.hid (fun w' hT => place_any c g w' hg hT)
  rw [hVc] at HPF HPG ⊢
  have HTA := Lib.hid hT
  generalize hRR : oV (btM c f g) = RR at *
  have HRR := Lib.hid hRR
  have HNM : Hid (btM c f g = (plM c f).bind fun a => (plM c g).bind fun b => lim1 (opS subQ b a) (opE subQ b a)) := Lib.hid rfl
  clear hVc hRR hT hf hg
  cases hs : plM c f with
  | none =>
    have HNR : Hid (btM c f g = none) := Lib.hid (by rw [HNM.out, hs]; rfl)
    rw [hs, oV_none] at HPF
    clear hs
    go_enter Tryz.func40, Tryz.ntmps40
    go_wp2_with (refine wpList_ldC rfl _ rfl _ rfl (cirA c) (obj_alloc _ (obj_new _ _)) (cirA_size c) ?_)
    (with_reducible refine (HPF.out _ (HTA.out.of (by (repeat' (first | (with_reducible first | apply Zl1 | apply Zl2 | apply Zl3 | apply Zl4 | apply Zl5 | apply Zl6 | apply Zl7 | apply Zl8 | apply Zl9 | apply Zla | apply Zlb | apply Zlc) | (dsimp only; with_reducible first | apply Zl8 | apply Zl2 | apply Zld) | with_reducible assumption | omega | (dsimp only; omega)))))).mono ?_)
    rintro _ _ ⟨rfl, d, rfl⟩
    have hds := d.size_le
    rw [World.size_alloc, World.size_alloc] at hds
    have hd1 := obj_bel d (obj_new1 w (.cells (cirA c) 36) (.cells #[.int .i64 0, .int .i64 0, .int .i64 0, .int .i64 0, .int .i64 0, .int .i64 0] 45))
    · dsimp only
      have he1 := obj_alloc (.cells #[.int .i64 0, .int .i64 0, .int .i64 0, .int .i64 0, .int .i64 0, .int .i64 0] 45) hd1
      have hen := obj_new d.w (.cells #[.int .i64 0, .int .i64 0, .int .i64 0, .int .i64 0, .int .i64 0, .int .i64 0] 45)
      have heb : Below w.heap.size w (d.w.alloc (.cells #[.int .i64 0, .int .i64 0, .int .i64 0, .int .i64 0, .int .i64 0, .int .i64 0] 45)) := by (repeat' (first | (with_reducible first | apply Zl1 | apply Zl2 | apply Zl3 | apply Zl4 | apply Zl5 | apply Zl6 | apply Zl7 | apply Zl8 | apply Zl9 | apply Zla | apply Zlb | apply Zlc) | (dsimp only; with_reducible first | apply Zl8 | apply Zl2 | apply Zld) | with_reducible assumption | omega | (dsimp only; omega)))
      have hdl := obj_lt hd1
      obtain ⟨E, hE⟩ : ∃ E, d.w.alloc (.cells #[.int .i64 0, .int .i64 0, .int .i64 0, .int .i64 0, .int .i64 0, .int .i64 0] 45) = E := ⟨_, rfl⟩
      rw [hE] at he1 hen heb
      have HEQ := Lib.hid hE
      obtain ⟨b0, b1, b2, b3, b4, b5⟩ := froz6 he1
      obtain ⟨c0, c1, c2, c3, c4, c5⟩ := cells6 he1
      obtain ⟨f0, f1, f2, f3, f4, f5⟩ := froz6 hen
      obtain ⟨e0, e1, e2, e3, e4, e5⟩ := cells6 hen
      have HE1 := Lib.hid (obj_ne6 (.int .i64 0) (.int .i64 0) (.int .i64 0) (.int .i64 0) (.int .i64 0) (.int .i64 0) (show w.heap.size + 1 ≠ d.w.heap.size by omega) he1)
      clear hd1 he1 hen hE
      go_wp2_with (rw [HEQ.out])
      refine ret_obj (b := w.heap.size + 1) (vs := #[.int .i64 0, .int .i64 0, .int .i64 0, .int .i64 0, .int .i64 0, .int .i64 0]) (T := 45) (v := .tuple #[.agg #[.int .i64 0, .int .i64 0, .int .i64 0, .int .i64 0, .int .i64 0, .int .i64 0], .int .i64 4]) (obj_set6 _ _ _ _ _ _ HE1.out) (fun W' hW' => ?_) rfl ?_
      · obtain ⟨a0, a1, a2, a3, a4, a5⟩ := cells6 hW'
        simp [results, Tryz.results40, go_sem, a0, a1, a2, a3, a4, a5]
      · exact Ret.mk (by rw [← HRR.out, HNR.out]; rfl) (by (repeat' (first | (with_reducible first | apply Zl1 | apply Zl2 | apply Zl3 | apply Zl4 | apply Zl5 | apply Zl6 | apply Zl7 | apply Zl8 | apply Zl9 | apply Zla | apply Zlb | apply Zlc) | (dsimp only; with_reducible first | apply Zl8 | apply Zl2 | apply Zld) | with_reducible assumption | omega | (dsimp only; omega))))
  | some aa =>
    rw [hs, oV_some] at HPF
    cases hs2 : plM c g with
    | none =>
      have HNR : Hid (btM c f g = none) := Lib.hid (by rw [HNM.out, hs, hs2]; rfl)
      rw [hs2, oV_none] at HPG
      clear hs hs2
      go_enter Tryz.func40, Tryz.ntmps40
      go_wp2_with (refine wpList_ldC rfl _ rfl _ rfl (cirA c) (obj_alloc _ (obj_new _ _)) (cirA_size c) ?_)
      (with_reducible refine (HPF.out _ (HTA.out.of (by (repeat' (first | (with_reducible first | apply Zl1 | apply Zl2 | apply Zl3 | apply Zl4 | apply Zl5 | apply Zl6 | apply Zl7 | apply Zl8 | apply Zl9 | apply Zla | apply Zlb | apply Zlc) | (dsimp only; with_reducible first | apply Zl8 | apply Zl2 | apply Zld) | with_reducible assumption | omega | (dsimp only; omega)))))).mono ?_)
      rintro _ _ ⟨rfl, y, rfl⟩
      have hys := y.size_le
      rw [World.size_alloc, World.size_alloc] at hys
      dsimp only
      go_wp2_with (refine wpList_ldC rfl _ rfl _ rfl (cirA c) (show (y.w.alloc (.cells #[.int .i64 aa.a.n, .int .i64 aa.a.d, .int .i64 aa.b.n, .int .i64 aa.b.d, .int .i64 aa.c.n, .int .i64 aa.c.d] 45)).heap[w.heap.size]? = _ from obj_alloc _ (obj_bel y (obj_alloc _ (obj_new _ _)))) (cirA_size c) ?_)
      (with_reducible refine (HPG.out _ (HTA.out.of (by (repeat' (first | (with_reducible first | apply Zl1 | apply Zl2 | apply Zl3 | apply Zl4 | apply Zl5 | apply Zl6 | apply Zl7 | apply Zl8 | apply Zl9 | apply Zla | apply Zlb | apply Zlc) | (dsimp only; with_reducible first | apply Zl8 | apply Zl2 | apply Zld) | with_reducible assumption | omega | (dsimp only; omega)))))).mono ?_)
      rintro _ _ ⟨rfl, d, rfl⟩
      have hds := d.size_le
      rw [World.size_alloc] at hds
      have hd1 := obj_bel d (obj_alloc (.cells #[.int .i64 aa.a.n, .int .i64 aa.a.d, .int .i64 aa.b.n, .int .i64 aa.b.d, .int .i64 aa.c.n, .int .i64 aa.c.d] 45) (obj_bel y (obj_new1 w (.cells (cirA c) 36) (.cells #[.int .i64 0, .int .i64 0, .int .i64 0, .int .i64 0, .int .i64 0, .int .i64 0] 45))))
      · dsimp only
        have he1 := obj_alloc (.cells #[.int .i64 0, .int .i64 0, .int .i64 0, .int .i64 0, .int .i64 0, .int .i64 0] 45) hd1
        have hen := obj_new d.w (.cells #[.int .i64 0, .int .i64 0, .int .i64 0, .int .i64 0, .int .i64 0, .int .i64 0] 45)
        have heb : Below w.heap.size w (d.w.alloc (.cells #[.int .i64 0, .int .i64 0, .int .i64 0, .int .i64 0, .int .i64 0, .int .i64 0] 45)) := by (repeat' (first | (with_reducible first | apply Zl1 | apply Zl2 | apply Zl3 | apply Zl4 | apply Zl5 | apply Zl6 | apply Zl7 | apply Zl8 | apply Zl9 | apply Zla | apply Zlb | apply Zlc) | (dsimp only; with_reducible first | apply Zl8 | apply Zl2 | apply Zld) | with_reducible assumption | omega | (dsimp only; omega)))
        have hdl := obj_lt hd1
        obtain ⟨E, hE⟩ : ∃ E, d.w.alloc (.cells #[.int .i64 0, .int .i64 0, .int .i64 0, .int .i64 0, .int .i64 0, .int .i64 0] 45) = E := ⟨_, rfl⟩
        rw [hE] at he1 hen heb
        have HEQ := Lib.hid hE
        obtain ⟨b0, b1, b2, b3, b4, b5⟩ := froz6 he1
        obtain ⟨c0, c1, c2, c3, c4, c5⟩ := cells6 he1
        obtain ⟨f0, f1, f2, f3, f4, f5⟩ := froz6 hen
        obtain ⟨e0, e1, e2, e3, e4, e5⟩ := cells6 hen
        have HE1 := Lib.hid (obj_ne6 (.int .i64 0) (.int .i64 0) (.int .i64 0) (.int .i64 0) (.int .i64 0) (.int .i64 0) (show w.heap.size + 1 ≠ d.w.heap.size by omega) he1)
        clear hd1 he1 hen hE
        go_wp2_with (rw [HEQ.out])
        refine ret_obj (b := w.heap.size + 1) (vs := #[.int .i64 0, .int .i64 0, .int .i64 0, .int .i64 0, .int .i64 0, .int .i64 0]) (T := 45) (v := .tuple #[.agg #[.int .i64 0, .int .i64 0, .int .i64 0, .int .i64 0, .int .i64 0, .int .i64 0], .int .i64 4]) (obj_set6 _ _ _ _ _ _ HE1.out) (fun W' hW' => ?_) rfl ?_
        · obtain ⟨a0, a1, a2, a3, a4, a5⟩ := cells6 hW'
          simp [results, Tryz.results40, go_sem, a0, a1, a2, a3, a4, a5]
        · exact Ret.mk (by rw [← HRR.out, HNR.out]; rfl) (by (repeat' (first | (with_reducible first | apply Zl1 | apply Zl2 | apply Zl3 | apply Zl4 | apply Zl5 | apply Zl6 | apply Zl7 | apply Zl8 | apply Zl9 | apply Zla | apply Zlb | apply Zlc) | (dsimp only; with_reducible first | apply Zl8 | apply Zl2 | apply Zld) | with_reducible assumption | omega | (dsimp only; omega))))
    | some bb =>
      have HNR : Hid (btM c f g = lim1 (opS subQ bb aa) (opE subQ bb aa)) := Lib.hid (by rw [HNM.out, hs, hs2]; rfl)
      rw [hs2, oV_some] at HPG
      have HSU := Lib.hid (fun w' => isub_any bb aa w')
      have HLI := Lib.hid (fun w' => limited_any (opS subQ bb aa) (opE subQ bb aa) w')
      rw [szV bb, szV aa] at HSU
      generalize opS subQ bb aa = rs at *
      generalize opE subQ bb aa = re at *
      generalize lim1 rs re = o at *
      rw [szV rs] at HSU HLI
      rw [tupO] at HLI
      obtain ⟨t, ht⟩ : ∃ t, oS o = t := ⟨_, rfl⟩
      obtain ⟨te, hte⟩ : ∃ te, oE o = te := ⟨_, rfl⟩
      rw [ht, hte] at HLI
      have HT := Lib.hid ht
      have HTE := Lib.hid hte
      clear hs hs2 ht hte
      go_enter Tryz.func40, Tryz.ntmps40
      go_wp2_with (refine wpList_ldC rfl _ rfl _ rfl (cirA c) (obj_alloc _ (obj_new _ _)) (cirA_size c) ?_)
      (with_reducible refine (HPF.out _ (HTA.out.of (by (repeat' (first | (with_reducible first | apply Zl1 | apply Zl2 | apply Zl3 | apply Zl4 | apply Zl5 | apply Zl6 | apply Zl7 | apply Zl8 | apply Zl9 | apply Zla | apply Zlb | apply Zlc) | (dsimp only; with_reducible first | apply Zl8 | apply Zl2 | apply Zld) | with_reducible assumption | omega | (dsimp only; omega)))))).mono ?_)
      rintro _ _ ⟨rfl, y, rfl⟩
      have hys := y.size_le
      rw [World.size_alloc, World.size_alloc] at hys
      dsimp only
      go_wp2_with (refine wpList_ldC rfl _ rfl _ rfl (cirA c) (show (y.w.alloc (.cells #[.int .i64 aa.a.n, .int .i64 aa.a.d, .int .i64 aa.b.n, .int .i64 aa.b.d, .int .i64 aa.c.n, .int .i64 aa.c.d] 45)).heap[w.heap.size]? = _ from obj_alloc _ (obj_bel y (obj_alloc _ (obj_new _ _)))) (cirA_size c) ?_)
      (with_reducible refine (HPG.out _ (HTA.out.of (by (repeat' (first | (with_reducible first | apply Zl1 | apply Zl2 | apply Zl3 | apply Zl4 | apply Zl5 | apply Zl6 | apply Zl7 | apply Zl8 | apply Zl9 | apply Zla | apply Zlb | apply Zlc) | (dsimp only; with_reducible first | apply Zl8 | apply Zl2 | apply Zld) | with_reducible assumption | omega | (dsimp only; omega)))))).mono ?_)
      rintro _ _ ⟨rfl, d, rfl⟩
      have hds := d.size_le
      rw [World.size_alloc] at hds
      dsimp only
      have hda := obj_bel d (obj_new y.w (.cells #[.int .i64 aa.a.n, .int .i64 aa.a.d, .int .i64 aa.b.n, .int .i64 aa.b.d, .int .i64 aa.c.n, .int .i64 aa.c.d] 45))
      obtain ⟨p0, p1, p2, p3, p4, p5⟩ := cells6 hda
      clear hda
      go_wp2_with fail
      (with_reducible refine (HSU.out _).mono ?_)
      rintro _ _ ⟨rfl, x, rfl⟩
      have hxs := x.size_le
      dsimp only
      go_wp2_with fail
      (with_reducible refine (HLI.out _).mono ?_)
      rintro _ _ ⟨rfl, z, rfl⟩
      have hzs := z.size_le
      have hz1 : z.w.heap[w.heap.size + 1]? = some (.cells #[.int .i64 0, .int .i64 0, .int .i64 0, .int .i64 0, .int .i64 0, .int .i64 0] 45) := by
        repeat' (with_reducible first | exact obj_new1 _ _ _ | apply obj_bel | apply obj_alloc)
      have hzb : Below w.heap.size w z.w := by (repeat' (first | (with_reducible first | apply Zl1 | apply Zl2 | apply Zl3 | apply Zl4 | apply Zl5 | apply Zl6 | apply Zl7 | apply Zl8 | apply Zl9 | apply Zla | apply Zlb | apply Zlc) | (dsimp only; with_reducible first | apply Zl8 | apply Zl2 | apply Zld) | with_reducible assumption | omega | (dsimp only; omega)))
      obtain ⟨U, hU⟩ : ∃ U, z.w = U := ⟨_, rfl⟩
      rw [hU] at hz1 hzb ⊢
      clear hU
      obtain ⟨f0, f1, f2, f3, f4, f5⟩ := froz6 hz1
      obtain ⟨e0, e1, e2, e3, e4, e5⟩ := cells6 hz1
      have HZ1 := Lib.hid hz1
      clear hz1
      dsimp only
      go_wp2_with fail
      refine ret_obj (b := w.heap.size + 1) (vs := #[.int .i64 t.a.n, .int .i64 t.a.d, .int .i64 t.b.n, .int .i64 t.b.d, .int .i64 t.c.n, .int .i64 t.c.d]) (T := 45) (v := .tuple #[.agg #[.int .i64 t.a.n, .int .i64 t.a.d, .int .i64 t.b.n, .int .i64 t.b.d, .int .i64 t.c.n, .int .i64 t.c.d], .int .i64 te]) (obj_set6 _ _ _ _ _ _ HZ1.out) (fun W' hW' => ?_) rfl ?_
      · obtain ⟨a0, a1, a2, a3, a4, a5⟩ := cells6 hW'
        simp [results, Tryz.results40, go_sem, a0, a1, a2, a3, a4, a5]
      · exact Ret.mk (by rw [← HRR.out, HNR.out, tupO, HT.out, HTE.out]) (by (repeat' (first | (with_reducible first | apply Zl1 | apply Zl2 | apply Zl3 | apply Zl4 | apply Zl5 | apply Zl6 | apply Zl7 | apply Zl8 | apply Zl9 | apply Zla | apply Zlb | apply Zlc) | (dsimp only; with_reducible first | apply Zl8 | apply Zl2 | apply Zld) | with_reducible assumption | omega | (dsimp only; omega))))
end Go.Proofs.YtehgeoipbgpocaaGreatDoor
