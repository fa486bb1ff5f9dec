/- Of, Literal, Constant, Implies. Literal, Constant, Implies. enough, Value. Value. -/
import Derived.Test.YtkdmhjlcgpnjpaaGreatDoorXF
import Derived.Test.YtkdmhjlcgpnjpaaGreatDoorXB
import Derived.Test.YtkdmhjlcgpnjpaaGreatDoorG4
import Derived.Test.YtkdmhjlcgpnjpaaGreatDoorXE
namespace Go.Proofs.YtkdmhjlcgpnjpaaGreatDoor
set_option linter.unusedVariables false
set_option linter.unusedSimpArgs false
open Go.RowKit Go.Maps F
attribute [local go_sem low] Bel.cell Bel.frozen alloc_cell alloc_frozen
attribute [local go_sem] calmOp chainOp yieldsC grows
variable {rk : Nat → Nat}

theorem retC_table {n : Nat} {S : (Nat → Bool) → Bool} {t : Nat} {w w' : World} {e : Ending} (h : RetC rk n S w e w') (ht : t < 2 ^ 64) (hS : ∀ ρ, S ρ = t.testBit (idx6 ρ)) : RetDg (bldN t) (bldR t) w e w' := by
  obtain ⟨N, p, h1, h2, h3, h4, h5, h6⟩ := h
  rw [canonD_bld h1 (⟨h4, fun ρ => by rw [h5, hS]⟩ : Rep3 N p t) ht] at h6
  exact h6
theorem dnok_bld (rk : Nat → Nat) (hrk : ∀ a, a < 6 → VarOk rk a) {t : Nat} (ht : t < 2 ^ 64) {w : World} {ad : Option Addr} {cap : Nat} (hi : InD w.heap.size w ad ((bldN t).map z3)) : DNok rk w (ad, cap, bldN t, bldR t) := by
  obtain ⟨hd, _⟩ := dgm_bld ht
  exact ⟨hi, hd.good, fun y hy => hrk _ (hd.vars y hy), by have := hd.len; dsimp only; omega, hd.root, chkD_dgm hd⟩
set_option maxRecDepth 100000 in
set_option maxHeartbeats 6400000 in
theorem Of_ok (P : Nat → Prop) (t : F) (ad : Option Addr) (cap : Nat) (w : World) (hi : InsF P w ad t.l) (hok : okT t) (hv : V6 t) (hn : nodes t ≤ 700) (hc : checkF t = 0) :
    Calls Tryz.prog 15 #[.agg #[.int .i64 t.k, .int .i64 t.a, .slice ad t.l.length cap]] w (RetC rk6 50000 (vt t) w) := by
  have hlt : InsF (fun c => c < w.heap.size) w ad t.l := hi.imp fun b hb _ => hb
  have HK := Lib.hid (fun w' (hi' : InsF (fun c => c < w.heap.size) w' ad t.l) => check_any (fun c => c < w.heap.size) t ad cap w' hi' (by omega))
  rw [hc] at HK
  have hnl := nodes_l t
  have HF := Lib.hid (fun b0 B mp md base v w' (hi' : InsF (fun c => c < b0) w' ad t.l) (h' : Bld rk6 w' b0 B mp md base v [] 0) => bform_any b0 B mp md base (nodes t) t (Nat.le_refl _) hok hv ad cap v [] 0 w' hi' h' (by simp; omega) (by omega))
  have HI := Lib.hid hlt
  clear hi hlt hok hv hc
  go_enter Tryz.func15, Tryz.ntmps15
  go_wp2_with fail
  refine (HK.out _ (below_move HI.out (fun _ h => h) (by (repeat' (first | (with_reducible first | exact Below.refl _ _ | exact Nat.le_refl _ | refine Below.bel ?_ ?_ | refine Below.alloc ?_ ?_ _ | refine Below.drew ?_ | refine Below.drawsN ?_ _ | refine Below.setCell ?_ ?_ _ | refine le_bel ?_ | refine le_alloc ?_ | refine le_setCell ?_ | refine le_drew ?_ | refine le_drawsN ?_) | (dsimp only; with_reducible first | refine le_bel ?_ | refine Nat.le_refl _ | refine le_bel_add ?_) | (with_reducible assumption) | omega | (dsimp only; omega)))))).mono ?_
  rintro _ _ ⟨rfl, y1, rfl⟩
  have hb1 : Below w.heap.size w y1.w := by (repeat' (first | (with_reducible first | exact Below.refl _ _ | exact Nat.le_refl _ | refine Below.bel ?_ ?_ | refine Below.alloc ?_ ?_ _ | refine Below.drew ?_ | refine Below.drawsN ?_ _ | refine Below.setCell ?_ ?_ _ | refine le_bel ?_ | refine le_alloc ?_ | refine le_setCell ?_ | refine le_drew ?_ | refine le_drawsN ?_) | (dsimp only; with_reducible first | refine le_bel ?_ | refine Nat.le_refl _ | refine le_bel_add ?_) | (with_reducible assumption) | omega | (dsimp only; omega)))
  have o0 := obj_in y1.below (obj_alloc (.cells #[.slice none 0 0, .int .i64 0] 30 (0, 0)) (World.alloc_heap_new w (.cells #[.int .i64 t.k, .int .i64 t.a, .slice ad t.l.length cap] 26 (0, 0))))
  have o1 := obj_in y1.below (newAt1 w (.cells #[.int .i64 t.k, .int .i64 t.a, .slice ad t.l.length cap] 26 (0, 0)) (.cells #[.slice none 0 0, .int .i64 0] 30 (0, 0)))
  have hs1 := (Array.getElem?_eq_some_iff.1 o1).1
  obtain ⟨Z, hZ⟩ : ∃ Z, y1.w = Z := ⟨_, rfl⟩
  rw [hZ] at hb1 o0 o1 hs1 ⊢
  clear hZ y1
  have HB1 := Lib.hid hb1
  have HO := Lib.hid (And.intro o0 o1)
  clear hb1 o0 o1
  dsimp only
  go_wp2_with fail
  refine (newBuilder_any rk6 Z).mono ?_
  rintro _ W1 ⟨rfl, hbl1, hb2⟩
  have hs2 := hb2.size
  obtain ⟨q0, q1, q2⟩ := box3 (obj_in hb2 HO.out.1)
  have HBL := Lib.hid hbl1
  have HB2 := Lib.hid hb2
  clear hbl1 hb2
  dsimp only
  go_wp2_with fail
  refine (HF.out _ _ _ _ _ _ _ (InsF.imp (below_move HI.out (fun _ h => h) (HB1.out.trans (HB2.out.mono (by omega)))) fun b hb _ => (by omega)) HBL.out).mono ?_
  rintro _ W2 ⟨p, v2, M2, rfl, hB2, hK2, hM2, hp2, hS2⟩
  rw [List.nil_append] at hB2 hp2 hS2
  have hrl : M2.length ≤ 50000 := by omega
  have hO := ordr3_len (dfs3_ordr hB2.good (p + 1) p [] (Nat.lt_succ_self p) hp2 (ordr3_nil _))
  have hres := result_any hB2 p hp2 (by omega) (by omega)
  have hcan : canonD M2 p = (relab3 M2 (dfs3 M2 (p + 1) p []), at3 (dfs3 M2 (p + 1) p []) p) := by unfold canonD; rw [dfs3_fuel hB2.good (p + 1) (M2.length + 2) p [] (Nat.lt_succ_self p) hp2 hp2]
  rw [show relab3 M2 (dfs3 M2 (p + 1) p []) = (canonD M2 p).1 by rw [hcan], show at3 (dfs3 M2 (p + 1) p []) p = (canonD M2 p).2 by rw [hcan]] at hres
  obtain ⟨CM, hCM⟩ : ∃ x, (canonD M2 p).1 = x := ⟨_, rfl⟩
  obtain ⟨cr, hcr⟩ : ∃ x, (canonD M2 p).2 = x := ⟨_, rfl⟩
  rw [hCM, hcr] at hres
  have HRES := Lib.hid hres
  have HG := Lib.hid (And.intro hB2.good (And.intro hrl (And.intro hB2.vars (And.intro hp2 (And.intro hS2 (And.intro hCM hcr))))))
  have hb3 : Below Z.heap.size Z W2 := HB2.out.trans hK2.below
  have HB3 := Lib.hid hb3
  have hs3 := hb3.size
  clear hB2 hK2 hM2 hp2 hS2 hO hres hcan hCM hcr hb3 hrl
  dsimp only
  go_wp2_with fail
  refine HRES.out.mono ?_
  rintro _ W4 ⟨ad', c', rfl, hi', hf', hb'⟩
  have hb4 : Below Z.heap.size Z W4 := HB3.out.trans (hb'.mono hs3)
  obtain ⟨d0, d1, d2, d3⟩ := cells2 (obj_in hb4 HO.out.2)
  have HH := Lib.hid (And.intro hi' (And.intro hf' hb'))
  have HB4 := Lib.hid hb4
  clear hi' hf' hb' hb4
  dsimp only
  go_wp2
  refine bodyPost_ret (v := .tuple #[.agg #[.slice ad' CM.length c', .int .i64 (cr : Int)], .int .i64 0]) (by simp [results, Tryz.results15, go_sem, d0, d1]) rfl ⟨M2, p, HG.out.1, HG.out.2.1, HG.out.2.2.1, HG.out.2.2.2.1, HG.out.2.2.2.2.1, ?_⟩
  rw [HG.out.2.2.2.2.2.1, HG.out.2.2.2.2.2.2]
  exact fin_dg (HB1.out.trans (HB3.out.mono (by omega))) (by omega) (by omega) HH.out.1 HH.out.2.1 HH.out.2.2 _ _
end Go.Proofs.YtkdmhjlcgpnjpaaGreatDoor

namespace Go.Proofs.YtkdmhjlcgpnjpaaGreatDoor
set_option linter.unusedVariables false
set_option linter.unusedSimpArgs false
open Go.RowKit Go.Maps
attribute [local go_sem low] Bel.cell Bel.frozen alloc_cell alloc_frozen
attribute [local go_sem] calmOp chainOp yieldsC grows
variable {rk : Nat → Nat}

set_option maxRecDepth 100000 in
theorem Constant_any (b : Bool) (w : World) : Calls Tryz.prog 27 #[.bool b] w (Ret (.agg #[.slice none 0 0, .int .i64 (if b then 1 else 0)]) w) := by
  cases b
  · go_enter Tryz.func27, Tryz.ntmps27
    go_wp2
    refine bodyPost_ret (v := .agg #[.slice none 0 0, .int .i64 0]) (by simp [results, Tryz.results27, go_sem]) rfl (Ret.mk rfl (by (repeat' (first | (with_reducible first | exact Below.refl _ _ | exact Nat.le_refl _ | refine Below.bel ?_ ?_ | refine Below.alloc ?_ ?_ _ | refine Below.drew ?_ | refine Below.drawsN ?_ _ | refine Below.setCell ?_ ?_ _ | refine le_bel ?_ | refine le_alloc ?_ | refine le_setCell ?_ | refine le_drew ?_ | refine le_drawsN ?_) | (dsimp only; with_reducible first | refine le_bel ?_ | refine Nat.le_refl _ | refine le_bel_add ?_) | (with_reducible assumption) | omega | (dsimp only; omega)))))
  · go_enter Tryz.func27, Tryz.ntmps27
    go_wp2
    refine bodyPost_ret (v := .agg #[.slice none 0 0, .int .i64 1]) (by simp [results, Tryz.results27, go_sem]) rfl (Ret.mk rfl (by (repeat' (first | (with_reducible first | exact Below.refl _ _ | exact Nat.le_refl _ | refine Below.bel ?_ ?_ | refine Below.alloc ?_ ?_ _ | refine Below.drew ?_ | refine Below.drawsN ?_ _ | refine Below.setCell ?_ ?_ _ | refine le_bel ?_ | refine le_alloc ?_ | refine le_setCell ?_ | refine le_drew ?_ | refine le_drawsN ?_) | (dsimp only; with_reducible first | refine le_bel ?_ | refine Nat.le_refl _ | refine le_bel_add ?_) | (with_reducible assumption) | omega | (dsimp only; omega)))))
set_option maxRecDepth 100000 in
set_option maxHeartbeats 6400000 in
theorem Implies_bad (x y : DI) (w : World) (q : Nat) (hx : DIok w x) (hy : DIok w y) (hq : firstD [x, y] = q) (h0 : q ≠ 0) :
    Calls Tryz.prog 40 #[diV x, diV y] w (Ret (.tuple #[.bool false, .int .i64 (q : Int)]) w) := by
  have HC := Lib.hid (fun w' g (hb : Below w.heap.size w w') (hd : w'.heap[g]? = some (.cells #[.slice x.1 x.2.2.1.length x.2.1, .int .i64 x.2.2.2, .slice y.1 y.2.2.1.length y.2.1, .int .i64 y.2.2.2] 30 (0, 0))) => combine_bad 81 #[] [x, y] g 0 2 w' (fun z hz => by
    rcases List.mem_cons.1 hz with rfl | hz
    · exact hx.of hb
    · rw [List.mem_singleton.1 hz]; exact hy.of hb) (disB2 x y hd) (by simp) q hq h0)
  have f0 : ((q : Int) == 0) = false := beq_eq_false_iff_ne.2 (by omega)
  obtain ⟨ad, cap, M, r⟩ := x
  obtain ⟨ad2, cap2, M2, r2⟩ := y
  dsimp only at HC hx hy ⊢
  clear hx hy hq h0
  go_enter Tryz.func40, Tryz.ntmps40
  go_wp2_with fail
  refine (HC.out _ _ (by (repeat' (first | (with_reducible first | exact Below.refl _ _ | exact Nat.le_refl _ | refine Below.bel ?_ ?_ | refine Below.alloc ?_ ?_ _ | refine Below.drew ?_ | refine Below.drawsN ?_ _ | refine Below.setCell ?_ ?_ _ | refine le_bel ?_ | refine le_alloc ?_ | refine le_setCell ?_ | refine le_drew ?_ | refine le_drawsN ?_) | (dsimp only; with_reducible first | refine le_bel ?_ | refine Nat.le_refl _ | refine le_bel_add ?_) | (with_reducible assumption) | omega | (dsimp only; omega)))) (newAt2 _ _ _ _)).mono ?_
  rintro _ _ ⟨rfl, y1, rfl⟩
  dsimp only
  go_wp2
  refine bodyPost_ret (v := .tuple #[.bool false, .int .i64 (q : Int)]) (by simp [results, Tryz.results40, go_sem]) rfl (Ret.mk rfl (by (repeat' (first | (with_reducible first | exact Below.refl _ _ | exact Nat.le_refl _ | refine Below.bel ?_ ?_ | refine Below.alloc ?_ ?_ _ | refine Below.drew ?_ | refine Below.drawsN ?_ _ | refine Below.setCell ?_ ?_ _ | refine le_bel ?_ | refine le_alloc ?_ | refine le_setCell ?_ | refine le_drew ?_ | refine le_drawsN ?_) | (dsimp only; with_reducible first | refine le_bel ?_ | refine Nat.le_refl _ | refine le_bel_add ?_) | (with_reducible assumption) | omega | (dsimp only; omega)))))
end Go.Proofs.YtkdmhjlcgpnjpaaGreatDoor

namespace Go.Proofs.YtkdmhjlcgpnjpaaGreatDoor
set_option linter.unusedVariables false
set_option linter.unusedSimpArgs false
open Go.RowKit Go.Maps
attribute [local go_sem low] Bel.cell Bel.frozen alloc_cell alloc_frozen
attribute [local go_sem] calmOp chainOp yieldsC grows

theorem egEnough : ∀ args w, (callFunc 91 args).run Tryz.prog w = .ok (.enter 91 args) w := fun args w => by kernel_rfl
set_option maxRecDepth 100000 in
theorem enough1_any (x : Int × Int × Int) (n : Int) (B : Nat) (w : World) (hb : w.cell? ⟨B, 0, none⟩ = some (.int .i64 n)) : Calls Tryz.prog 91 #[.agg #[.int .i64 x.1, .int .i64 x.2.1, .int .i64 x.2.2], .pointer (some ⟨B, 0, none⟩)] w (Ret (.bool (decide (n ≤ x.1))) w) := by
  have hB := World.block_lt_of_cell? _ _ hb
  have hb' := cell_in ((Below.refl w.heap.size w).alloc (Nat.le_refl _) (.cells #[.int .i64 x.1, .int .i64 x.2.1, .int .i64 x.2.2] 55 (0, 0))) hb
  obtain ⟨q, hq⟩ : ∃ q, decide (n ≤ x.1) = q := ⟨_, rfl⟩
  rw [hq]
  go_enter Tryz.func91, Tryz.ntmps91
  go_wp2
  go_ret
  exact Ret.mk (by rfl) (by (repeat' (first | (with_reducible first | exact Below.refl _ _ | exact Nat.le_refl _ | refine Below.bel ?_ ?_ | refine Below.alloc ?_ ?_ _ | refine Below.drew ?_ | refine Below.drawsN ?_ _ | refine Below.setCell ?_ ?_ _ | refine le_bel ?_ | refine le_alloc ?_ | refine le_setCell ?_ | refine le_drew ?_ | refine le_drawsN ?_) | (dsimp only; with_reducible first | refine le_bel ?_ | refine Nat.le_refl _ | refine le_bel_add ?_) | (with_reducible assumption) | omega | (dsimp only; omega))))
set_option maxRecDepth 100000 in
set_option maxHeartbeats 6400000 in
theorem dindex_any (L : List (Int × Int × Int)) (ad : Option Addr) (cap : Nat) (n : Int) (B : Nat) (w : World) (hi : InD w.heap.size w ad L) (hb : w.cell? ⟨B, 0, none⟩ = some (.int .i64 n)) (hl : L.length ≤ 1000000) :
    Calls Tryz.prog 115 #[.slice ad L.length cap, .func (.func 91) #[] #[.pointer (some ⟨B, 0, none⟩)]] w (fun e w' => ∃ i : Int, e = .returned (.int .i64 i) ∧ (0 ≤ i ↔ L.any (fun x => decide (n ≤ x.1)) = true) ∧ ∃ y : Bel w, w' = y.w) := by
  have HI := Lib.hid hi
  have HB := Lib.hid hb
  have eg := egEnough
  clear hi hb
  go_enter Tryz.func115, Tryz.ntmps115
  go_wp2
  go_loopw [8] (fun iv wr => ∃ k : Nat, iv = .int .i64 (k : Int) ∧ k ≤ L.length ∧ (L.take k).any (fun x => decide (n ≤ x.1)) = false ∧ ∃ y : Bel w, wr = y.w) (fun iv _ => L.length - (intOf iv).toNat)
  case atStart => exact ⟨0, rfl, by omega, rfl, ⟨w, Below.refl _ _⟩, rfl⟩
  case round =>
    obtain ⟨k, rfl, hk, hA, y, rfl⟩ := hrel
    have HA := Lib.hid hA
    clear hA
    rcases Nat.lt_or_ge k L.length with hkl | hkl
    · obtain ⟨x, hx⟩ : ∃ x, L[k]? = some x := ⟨_, List.getElem?_eq_getElem hkl⟩
      obtain ⟨g, off, hadd, hg, hcs⟩ := HI.out (by omega)
      subst hadd
      obtain ⟨x0, x1, x2⟩ := hcs k x hx
      have f0 : decide ((k : Int) < (L.length : Int)) = true := decide_eq_true (by omega)
      have hib : (0 ≤ (k : Int) ∧ (k : Int) < (L.length : Int)) := ⟨by omega, by omega⟩
      have HC := Lib.hid (fun w' (hb' : Below w.heap.size w w') => enough1_any x n B w' (cell_in hb' HB.out))
      have HX := Lib.hid hx
      obtain ⟨xa, xn, xy⟩ := x
      obtain ⟨q, hq⟩ : ∃ q, decide (n ≤ xa) = q := ⟨_, rfl⟩
      dsimp only at x0 x1 x2 HC
      rw [hq] at HC
      have HQ := Lib.hid hq
      clear hcs hx hq
      cases q
      · go_wp2_with (go_at_fn 91; refine (HC.out _ (by (repeat' (first | (with_reducible first | exact Below.refl _ _ | exact Nat.le_refl _ | refine Below.bel ?_ ?_ | refine Below.alloc ?_ ?_ _ | refine Below.drew ?_ | refine Below.drawsN ?_ _ | refine Below.setCell ?_ ?_ _ | refine le_bel ?_ | refine le_alloc ?_ | refine le_setCell ?_ | refine le_drew ?_ | refine le_drawsN ?_) | (dsimp only; with_reducible first | refine le_bel ?_ | refine Nat.le_refl _ | refine le_bel_add ?_) | (with_reducible assumption) | omega | (dsimp only; omega))))).mono ?_; rintro _ _ ⟨rfl, y1, rfl⟩)
        go_roundw
        case measure => simp [intOf]; omega
        case rel =>
          refine ⟨k + 1, by go_num, by omega, ?_, ⟨y1.w, by (repeat' (first | (with_reducible first | exact Below.refl _ _ | exact Nat.le_refl _ | refine Below.bel ?_ ?_ | refine Below.alloc ?_ ?_ _ | refine Below.drew ?_ | refine Below.drawsN ?_ _ | refine Below.setCell ?_ ?_ _ | refine le_bel ?_ | refine le_alloc ?_ | refine le_setCell ?_ | refine le_drew ?_ | refine le_drawsN ?_) | (dsimp only; with_reducible first | refine le_bel ?_ | refine Nat.le_refl _ | refine le_bel_add ?_) | (with_reducible assumption) | omega | (dsimp only; omega)))⟩, rfl⟩
          rw [List.take_add_one, HX.out, List.any_append, HA.out]
          simp
          exact of_decide_eq_false HQ.out |> fun h => by omega
      · go_wp2_with (go_at_fn 91; refine (HC.out _ (by (repeat' (first | (with_reducible first | exact Below.refl _ _ | exact Nat.le_refl _ | refine Below.bel ?_ ?_ | refine Below.alloc ?_ ?_ _ | refine Below.drew ?_ | refine Below.drawsN ?_ _ | refine Below.setCell ?_ ?_ _ | refine le_bel ?_ | refine le_alloc ?_ | refine le_setCell ?_ | refine le_drew ?_ | refine le_drawsN ?_) | (dsimp only; with_reducible first | refine le_bel ?_ | refine Nat.le_refl _ | refine le_bel_add ?_) | (with_reducible assumption) | omega | (dsimp only; omega))))).mono ?_; rintro _ _ ⟨rfl, y1, rfl⟩)
        go_ret
        refine ⟨_, rfl, ⟨fun _ => ?_, fun _ => by omega⟩, ⟨y1.w, by (repeat' (first | (with_reducible first | exact Below.refl _ _ | exact Nat.le_refl _ | refine Below.bel ?_ ?_ | refine Below.alloc ?_ ?_ _ | refine Below.drew ?_ | refine Below.drawsN ?_ _ | refine Below.setCell ?_ ?_ _ | refine le_bel ?_ | refine le_alloc ?_ | refine le_setCell ?_ | refine le_drew ?_ | refine le_drawsN ?_) | (dsimp only; with_reducible first | refine le_bel ?_ | refine Nat.le_refl _ | refine le_bel_add ?_) | (with_reducible assumption) | omega | (dsimp only; omega)))⟩, rfl⟩
        rw [List.any_eq_true]
        exact ⟨_, List.mem_of_getElem? HX.out, HQ.out⟩
    · have hke : k = L.length := by omega
      subst hke
      have f0 : decide ((L.length : Int) < (L.length : Int)) = false := decide_eq_false (by omega)
      go_wp2
      go_ret
      have h := HA.out
      rw [List.take_length] at h
      exact ⟨_, rfl, ⟨fun h0 => by omega, fun h0 => by rw [h] at h0; cases h0⟩, ⟨_, by (repeat' (first | (with_reducible first | exact Below.refl _ _ | exact Nat.le_refl _ | refine Below.bel ?_ ?_ | refine Below.alloc ?_ ?_ _ | refine Below.drew ?_ | refine Below.drawsN ?_ _ | refine Below.setCell ?_ ?_ _ | refine le_bel ?_ | refine le_alloc ?_ | refine le_setCell ?_ | refine le_drew ?_ | refine le_drawsN ?_) | (dsimp only; with_reducible first | refine le_bel ?_ | refine Nat.le_refl _ | refine le_bel_add ?_) | (with_reducible assumption) | omega | (dsimp only; omega)))⟩, rfl⟩
set_option maxRecDepth 100000 in
theorem dcontains_any (L : List (Int × Int × Int)) (ad : Option Addr) (cap : Nat) (n : Int) (B : Nat) (w : World) (hi : InD w.heap.size w ad L) (hb : w.cell? ⟨B, 0, none⟩ = some (.int .i64 n)) (hl : L.length ≤ 1000000) :
    Calls Tryz.prog 90 #[.slice ad L.length cap, .func (.func 91) #[] #[.pointer (some ⟨B, 0, none⟩)]] w (Ret (.bool (L.any (fun x => decide (n ≤ x.1)))) w) := by
  have HX := Lib.hid (dindex_any L ad cap n B w hi hb hl)
  obtain ⟨q, hq⟩ : ∃ q, L.any (fun x => decide (n ≤ x.1)) = q := ⟨_, rfl⟩
  rw [hq] at HX ⊢
  clear hi hb hq
  go_enter Tryz.func90, Tryz.ntmps90
  go_wp2_with fail
  refine HX.out.mono ?_
  rintro _ _ ⟨i, rfl, hi, y, rfl⟩
  have f0 : decide (0 ≤ i) = q := by
    cases q
    · exact decide_eq_false fun h0 => absurd (hi.1 h0) (by decide)
    · exact decide_eq_true (hi.2 rfl)
  clear hi
  dsimp only
  go_wp2
  go_ret
  exact Ret.mk (by rfl) (by (repeat' (first | (with_reducible first | exact Below.refl _ _ | exact Nat.le_refl _ | refine Below.bel ?_ ?_ | refine Below.alloc ?_ ?_ _ | refine Below.drew ?_ | refine Below.drawsN ?_ _ | refine Below.setCell ?_ ?_ _ | refine le_bel ?_ | refine le_alloc ?_ | refine le_setCell ?_ | refine le_drew ?_ | refine le_drawsN ?_) | (dsimp only; with_reducible first | refine le_bel ?_ | refine Nat.le_refl _ | refine le_bel_add ?_) | (with_reducible assumption) | omega | (dsimp only; omega))))
/-- Whether so many variables are enough. -/
def enoughD (L : List (Int × Int × Int)) (n : Int) : Bool := !L.any (fun x => decide (n ≤ x.1))
theorem enoughD_iff (L : List (Int × Int × Int)) (n : Int) : enoughD L n = true ↔ ∀ x ∈ L, x.1 < n := by
  unfold enoughD
  simp
set_option maxRecDepth 100000 in
theorem enough_any (L : List (Int × Int × Int)) (ad : Option Addr) (cap : Nat) (r n : Int) (w : World) (hi : InD w.heap.size w ad L) (hl : L.length ≤ 1000000) :
    Calls Tryz.prog 51 #[.agg #[.slice ad L.length cap, .int .i64 r], .int .i64 n] w (Ret (.bool (enoughD L n)) w) := by
  have HX := Lib.hid (fun w' B (hb : Below w.heap.size w w') (hc : w'.cell? ⟨B, 0, none⟩ = some (.int .i64 n)) => dcontains_any L ad cap n B w' ((hi.of hb).up hb.size) hc hl)
  obtain ⟨q, hq⟩ : ∃ q, L.any (fun x => decide (n ≤ x.1)) = q := ⟨_, rfl⟩
  unfold enoughD
  rw [hq] at HX ⊢
  clear hi hq
  go_enter Tryz.func51, Tryz.ntmps51
  go_wp2_with fail
  refine (HX.out _ _ (by (repeat' (first | (with_reducible first | exact Below.refl _ _ | exact Nat.le_refl _ | refine Below.bel ?_ ?_ | refine Below.alloc ?_ ?_ _ | refine Below.drew ?_ | refine Below.drawsN ?_ _ | refine Below.setCell ?_ ?_ _ | refine le_bel ?_ | refine le_alloc ?_ | refine le_setCell ?_ | refine le_drew ?_ | refine le_drawsN ?_) | (dsimp only; with_reducible first | refine le_bel ?_ | refine Nat.le_refl _ | refine le_bel_add ?_) | (with_reducible assumption) | omega | (dsimp only; omega)))) (box1 (newAt1 w _ _))).mono ?_
  rintro _ _ ⟨rfl, y, rfl⟩
  dsimp only
  go_wp2
  go_ret
  exact Ret.mk (by rfl) (by (repeat' (first | (with_reducible first | exact Below.refl _ _ | exact Nat.le_refl _ | refine Below.bel ?_ ?_ | refine Below.alloc ?_ ?_ _ | refine Below.drew ?_ | refine Below.drawsN ?_ _ | refine Below.setCell ?_ ?_ _ | refine le_bel ?_ | refine le_alloc ?_ | refine le_setCell ?_ | refine le_drew ?_ | refine le_drawsN ?_) | (dsimp only; with_reducible first | refine le_bel ?_ | refine Nat.le_refl _ | refine le_bel_add ?_) | (with_reducible assumption) | omega | (dsimp only; omega))))
end Go.Proofs.YtkdmhjlcgpnjpaaGreatDoor

namespace Go.Proofs.YtkdmhjlcgpnjpaaGreatDoor
set_option linter.unusedVariables false
set_option linter.unusedSimpArgs false
open Go.RowKit Go.Maps
attribute [local go_sem low] Bel.cell Bel.frozen alloc_cell alloc_frozen
attribute [local go_sem] calmOp chainOp yieldsC grows
variable {rk : Nat → Nat}

def boolsD (bl : List Bool) : List Value := bl.map Value.bool
set_option maxRecDepth 100000 in
set_option maxHeartbeats 6400000 in
theorem dValue_bad (x : DI) (va : Option Addr) (n vc : Nat) (w : World) (q : Nat) (hx : DIok w x) (hq : chkD x.2.2.1 x.2.2.2 = q) (h0 : q ≠ 0) :
    Calls Tryz.prog 38 #[diV x, .slice va n vc] w (Ret (.tuple #[.bool false, .int .i64 (q : Int)]) w) := by
  have HK := Lib.hid (fun w' (hb : Below w.heap.size w w') => (show Calls Tryz.prog 37 #[.agg #[.slice x.1 x.2.2.1.length x.2.1, .int .i64 x.2.2.2]] w' (Ret (.int .i64 (q : Int)) w') from by
    obtain ⟨o1, o2, o3, o4⟩ := hx.of hb
    have h := dCheck_any _ o2 o3 x.1 x.2.1 _ o4 w' o1
    rw [hq] at h
    exact h))
  have f0 : ((q : Int) != 0) = true := by simp; omega
  obtain ⟨ad, cap, M, r⟩ := x
  dsimp only at HK hx ⊢
  clear hx hq h0
  go_enter Tryz.func38, Tryz.ntmps38
  go_wp2_with fail
  refine (HK.out _ (by (repeat' (first | (with_reducible first | exact Below.refl _ _ | exact Nat.le_refl _ | refine Below.bel ?_ ?_ | refine Below.alloc ?_ ?_ _ | refine Below.drew ?_ | refine Below.drawsN ?_ _ | refine Below.setCell ?_ ?_ _ | refine le_bel ?_ | refine le_alloc ?_ | refine le_setCell ?_ | refine le_drew ?_ | refine le_drawsN ?_) | (dsimp only; with_reducible first | refine le_bel ?_ | refine Nat.le_refl _ | refine le_bel_add ?_) | (with_reducible assumption) | omega | (dsimp only; omega))))).mono ?_
  rintro _ _ ⟨rfl, y1, rfl⟩
  dsimp only
  go_wp2
  refine bodyPost_ret (v := .tuple #[.bool false, .int .i64 (q : Int)]) (by simp [results, Tryz.results38, go_sem]) rfl (Ret.mk rfl (by (repeat' (first | (with_reducible first | exact Below.refl _ _ | exact Nat.le_refl _ | refine Below.bel ?_ ?_ | refine Below.alloc ?_ ?_ _ | refine Below.drew ?_ | refine Below.drawsN ?_ _ | refine Below.setCell ?_ ?_ _ | refine le_bel ?_ | refine le_alloc ?_ | refine le_setCell ?_ | refine le_drew ?_ | refine le_drawsN ?_) | (dsimp only; with_reducible first | refine le_bel ?_ | refine Nat.le_refl _ | refine le_bel_add ?_) | (with_reducible assumption) | omega | (dsimp only; omega)))))
end Go.Proofs.YtkdmhjlcgpnjpaaGreatDoor
