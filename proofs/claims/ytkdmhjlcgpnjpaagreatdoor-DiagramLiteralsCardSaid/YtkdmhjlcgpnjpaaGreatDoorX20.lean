/- Of, Literal, Constant, Implies. -/
import Derived.Test.YtkdmhjlcgpnjpaaGreatDoorX17
import Derived.Test.YtkdmhjlcgpnjpaaGreatDoorX6
import Derived.Test.YtkdmhjlcgpnjpaaGreatDoorG4
namespace Go.Proofs.YtkdmhjlcgpnjpaaGreatDoor
set_option linter.unusedVariables false
set_option linter.unusedSimpArgs false
open Go.RowKit Go.Maps F
attribute [local go_sem low] Bel.cell Bel.frozen alloc_cell alloc_frozen
attribute [local go_sem] calmOp chainOp yieldsC grows
variable {rk : Nat → Nat}

theorem egImplies : ∀ args w, (callFunc 81 args).run Tryz.prog w = .ok (.enter 81 args) w := fun args w => by kernel_rfl
theorem retC_table {n : Nat} {S : (Nat → Bool) → Bool} {t : Nat} {w w' : World} {e : Ending} (h : RetC rk n S w e w') (ht : t < 2 ^ 64) (hS : ∀ ρ, S ρ = t.testBit (idx6 ρ)) : RetDg (bldN t) (bldR t) w e w' := by
  obtain ⟨N, p, h1, h2, h3, h4, h5, h6⟩ := h
  rw [canonD_bld h1 (⟨h4, fun ρ => by rw [h5, hS]⟩ : Rep3 N p t) ht] at h6
  exact h6
theorem dnok_bld (rk : Nat → Nat) (hrk : ∀ a, a < 6 → VarOk rk a) {t : Nat} (ht : t < 2 ^ 64) {w : World} {ad : Option Addr} {cap : Nat} (hi : InD w.heap.size w ad ((bldN t).map z3)) : DNok rk w (ad, cap, bldN t, bldR t) := by
  obtain ⟨hd, _⟩ := dgm_bld ht
  exact ⟨hi, hd.good, fun y hy => hrk _ (hd.vars y hy), by have := hd.len; dsimp only; omega, hd.root, chkD_dgm hd⟩
set_option maxRecDepth 100000 in
set_option maxHeartbeats 6400000 in
theorem Of_ok (P : Nat → Prop) (t : F) (ad : Option Addr) (cap : Nat) (w : World) (hi : InsF P w ad t.l) (hok : okT t) (hv : V6 t) (hn : nodes t ≤ 700) (hc : checkF t = 0) :
    Calls Tryz.prog 15 #[.agg #[.int .i64 t.k, .int .i64 t.a, .slice ad t.l.length cap]] w (RetC rk6 50000 (vt t) w) := by
  have hlt : InsF (fun c => c < w.heap.size) w ad t.l := hi.imp fun b hb _ => hb
  have HK := Lib.hid (fun w' (hi' : InsF (fun c => c < w.heap.size) w' ad t.l) => check_any (fun c => c < w.heap.size) t ad cap w' hi' (by omega))
  rw [hc] at HK
  have hnl := nodes_l t
  have HF := Lib.hid (fun b0 B mp md base v w' (hi' : InsF (fun c => c < b0) w' ad t.l) (h' : Bld rk6 w' b0 B mp md base v [] 0) => bform_any b0 B mp md base (nodes t) t (Nat.le_refl _) hok hv ad cap v [] 0 w' hi' h' (by simp; omega) (by omega))
  have HI := Lib.hid hlt
  clear hi hlt hok hv hc
  go_enter Tryz.func15, Tryz.ntmps15
  go_wp2_with fail
  refine (HK.out _ (below_move HI.out (fun _ h => h) (by (repeat' (first | (with_reducible exact Below.refl _ _) | (with_reducible exact Nat.le_refl _) | (with_reducible refine Below.bel ?_ ?_) | (with_reducible refine Below.alloc ?_ ?_ _) | (with_reducible refine Below.drew ?_) | (with_reducible refine Below.drawsN ?_ _) | (with_reducible refine Below.setCell ?_ ?_ _) | (with_reducible refine le_bel ?_) | (with_reducible refine le_alloc ?_) | (with_reducible refine le_setCell ?_) | (with_reducible refine le_drew ?_) | (with_reducible refine le_drawsN ?_) | (dsimp only; with_reducible refine le_bel ?_) | (dsimp only; with_reducible refine Nat.le_refl _) | (dsimp only; with_reducible refine le_bel_add ?_) | (with_reducible assumption) | omega | (dsimp only; omega)))))).mono ?_
  rintro _ _ ⟨rfl, y1, rfl⟩
  have hb1 : Below w.heap.size w y1.w := by (repeat' (first | (with_reducible exact Below.refl _ _) | (with_reducible exact Nat.le_refl _) | (with_reducible refine Below.bel ?_ ?_) | (with_reducible refine Below.alloc ?_ ?_ _) | (with_reducible refine Below.drew ?_) | (with_reducible refine Below.drawsN ?_ _) | (with_reducible refine Below.setCell ?_ ?_ _) | (with_reducible refine le_bel ?_) | (with_reducible refine le_alloc ?_) | (with_reducible refine le_setCell ?_) | (with_reducible refine le_drew ?_) | (with_reducible refine le_drawsN ?_) | (dsimp only; with_reducible refine le_bel ?_) | (dsimp only; with_reducible refine Nat.le_refl _) | (dsimp only; with_reducible refine le_bel_add ?_) | (with_reducible assumption) | omega | (dsimp only; omega)))
  have o0 := obj_in y1.below (obj_alloc (.cells #[.slice none 0 0, .int .i64 0] 30 (0, 0)) (World.alloc_heap_new w (.cells #[.int .i64 t.k, .int .i64 t.a, .slice ad t.l.length cap] 26 (0, 0))))
  have o1 := obj_in y1.below (newAt1 w (.cells #[.int .i64 t.k, .int .i64 t.a, .slice ad t.l.length cap] 26 (0, 0)) (.cells #[.slice none 0 0, .int .i64 0] 30 (0, 0)))
  have hs1 := (Array.getElem?_eq_some_iff.1 o1).1
  obtain ⟨Z, hZ⟩ : ∃ Z, y1.w = Z := ⟨_, rfl⟩
  rw [hZ] at hb1 o0 o1 hs1 ⊢
  clear hZ y1
  have HB1 := Lib.hid hb1
  have HO := Lib.hid (And.intro o0 o1)
  clear hb1 o0 o1
  dsimp only
  go_wp2_with fail
  refine (newBuilder_any rk6 Z).mono ?_
  rintro _ W1 ⟨rfl, hbl1, hb2⟩
  have hs2 := hb2.size
  obtain ⟨q0, q1, q2⟩ := box3 (obj_in hb2 HO.out.1)
  have HBL := Lib.hid hbl1
  have HB2 := Lib.hid hb2
  clear hbl1 hb2
  dsimp only
  go_wp2_with fail
  refine (HF.out _ _ _ _ _ _ _ (InsF.imp (below_move HI.out (fun _ h => h) (HB1.out.trans (HB2.out.mono (by omega)))) fun b hb _ => (by omega)) HBL.out).mono ?_
  rintro _ W2 ⟨p, v2, M2, rfl, hB2, hK2, hM2, hp2, hS2⟩
  rw [List.nil_append] at hB2 hp2 hS2
  have hrl : M2.length ≤ 50000 := by omega
  have hO := ordr3_len (dfs3_ordr hB2.good (p + 1) p [] (Nat.lt_succ_self p) hp2 (ordr3_nil _))
  have hres := result_any hB2 p hp2 (by omega) (by omega)
  have hcan : canonD M2 p = (relab3 M2 (dfs3 M2 (p + 1) p []), at3 (dfs3 M2 (p + 1) p []) p) := by unfold canonD; rw [dfs3_fuel hB2.good (p + 1) (M2.length + 2) p [] (Nat.lt_succ_self p) hp2 hp2]
  rw [show relab3 M2 (dfs3 M2 (p + 1) p []) = (canonD M2 p).1 by rw [hcan], show at3 (dfs3 M2 (p + 1) p []) p = (canonD M2 p).2 by rw [hcan]] at hres
  obtain ⟨CM, hCM⟩ : ∃ x, (canonD M2 p).1 = x := ⟨_, rfl⟩
  obtain ⟨cr, hcr⟩ : ∃ x, (canonD M2 p).2 = x := ⟨_, rfl⟩
  rw [hCM, hcr] at hres
  have HRES := Lib.hid hres
  have HG := Lib.hid (And.intro hB2.good (And.intro hrl (And.intro hB2.vars (And.intro hp2 (And.intro hS2 (And.intro hCM hcr))))))
  have hb3 : Below Z.heap.size Z W2 := HB2.out.trans hK2.below
  have HB3 := Lib.hid hb3
  have hs3 := hb3.size
  clear hB2 hK2 hM2 hp2 hS2 hO hres hcan hCM hcr hb3 hrl
  dsimp only
  go_wp2_with fail
  refine HRES.out.mono ?_
  rintro _ W4 ⟨ad', c', rfl, hi', hf', hb'⟩
  have hb4 : Below Z.heap.size Z W4 := HB3.out.trans (hb'.mono hs3)
  obtain ⟨d0, d1, d2, d3⟩ := cells2 (obj_in hb4 HO.out.2)
  have HH := Lib.hid (And.intro hi' (And.intro hf' hb'))
  have HB4 := Lib.hid hb4
  clear hi' hf' hb' hb4
  dsimp only
  go_wp2
  refine bodyPost_ret (v := .tuple #[.agg #[.slice ad' CM.length c', .int .i64 (cr : Int)], .int .i64 0]) (by simp [results, Tryz.results15, go_sem, d0, d1]) rfl ⟨M2, p, HG.out.1, HG.out.2.1, HG.out.2.2.1, HG.out.2.2.2.1, HG.out.2.2.2.2.1, ?_⟩
  rw [HG.out.2.2.2.2.2.1, HG.out.2.2.2.2.2.2]
  exact fin_dg (HB1.out.trans (HB3.out.mono (by omega))) (by omega) (by omega) HH.out.1 HH.out.2.1 HH.out.2.2 _ _
set_option maxRecDepth 100000 in
set_option maxHeartbeats 6400000 in
theorem Of_err (P : Nat → Prop) (t : F) (ad : Option Addr) (cap : Nat) (q : Int) (w : World) (hi : InsF P w ad t.l) (hn : nodes t ≤ 100000000000) (hc : checkF t = q) (h0 : q ≠ 0) :
    Calls Tryz.prog 15 #[.agg #[.int .i64 t.k, .int .i64 t.a, .slice ad t.l.length cap]] w (Ret (.tuple #[.agg #[.slice none 0 0, .int .i64 0], .int .i64 q]) w) := by
  have hlt : InsF (fun c => c < w.heap.size) w ad t.l := hi.imp fun b hb _ => hb
  have HK := Lib.hid (fun w' (hi' : InsF (fun c => c < w.heap.size) w' ad t.l) => check_any (fun c => c < w.heap.size) t ad cap w' hi' (by omega))
  rw [hc] at HK
  have HI := Lib.hid hlt
  have f0 : (q != 0) = true := by simp [h0]
  clear hi hlt hc h0
  go_enter Tryz.func15, Tryz.ntmps15
  go_wp2_with fail
  refine (HK.out _ (below_move HI.out (fun _ h => h) (by (repeat' (first | (with_reducible exact Below.refl _ _) | (with_reducible exact Nat.le_refl _) | (with_reducible refine Below.bel ?_ ?_) | (with_reducible refine Below.alloc ?_ ?_ _) | (with_reducible refine Below.drew ?_) | (with_reducible refine Below.drawsN ?_ _) | (with_reducible refine Below.setCell ?_ ?_ _) | (with_reducible refine le_bel ?_) | (with_reducible refine le_alloc ?_) | (with_reducible refine le_setCell ?_) | (with_reducible refine le_drew ?_) | (with_reducible refine le_drawsN ?_) | (dsimp only; with_reducible refine le_bel ?_) | (dsimp only; with_reducible refine Nat.le_refl _) | (dsimp only; with_reducible refine le_bel_add ?_) | (with_reducible assumption) | omega | (dsimp only; omega)))))).mono ?_
  rintro _ _ ⟨rfl, y1, rfl⟩
  obtain ⟨d0, d1, d2, d3⟩ := cells2 (obj_in y1.below (newAt1 w _ _))
  dsimp only
  go_wp2
  refine bodyPost_ret (v := .tuple #[.agg #[.slice none 0 0, .int .i64 0], .int .i64 q]) (by simp [results, Tryz.results15, go_sem, d0, d1]) rfl (Ret.mk rfl (by (repeat' (first | (with_reducible exact Below.refl _ _) | (with_reducible exact Nat.le_refl _) | (with_reducible refine Below.bel ?_ ?_) | (with_reducible refine Below.alloc ?_ ?_ _) | (with_reducible refine Below.drew ?_) | (with_reducible refine Below.drawsN ?_ _) | (with_reducible refine Below.setCell ?_ ?_ _) | (with_reducible refine le_bel ?_) | (with_reducible refine le_alloc ?_) | (with_reducible refine le_setCell ?_) | (with_reducible refine le_drew ?_) | (with_reducible refine le_drawsN ?_) | (dsimp only; with_reducible refine le_bel ?_) | (dsimp only; with_reducible refine Nat.le_refl _) | (dsimp only; with_reducible refine le_bel_add ?_) | (with_reducible assumption) | omega | (dsimp only; omega)))))
end Go.Proofs.YtkdmhjlcgpnjpaaGreatDoor
