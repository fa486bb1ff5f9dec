/- The function of Exists. Not, And, Or, Choose. Restrict, Exists, Implies. -/
import Derived.Test.YtkdmhjlcgpnjpaaGreatDoorXE
namespace Go.Proofs.YtkdmhjlcgpnjpaaGreatDoor
set_option linter.unusedVariables false
set_option linter.unusedSimpArgs false
open Go.RowKit Go.Maps
attribute [local go_sem low] Bel.cell Bel.frozen alloc_cell alloc_frozen
attribute [local go_sem] calmOp chainOp yieldsC grows
variable {rk : Nat → Nat}

theorem funM_obj {P : Program} {kT eT : TypeId} {w : World} {b : Nat} (h : w.heap[b]? = some (.map #[] 0)) : FunM P kT eT w b 0 (fun _ => none) := by
  obtain ⟨D, ⟨es, clock, h1, h2⟩, h3⟩ := funM_made w P kT eT
  rw [World.alloc_heap_new] at h1
  injection h1 with h1
  injection h1 with h4 h5
  subst h4 h5
  exact ⟨D, ⟨#[], 0, h, h2⟩, h3⟩
theorem doneR_obj {w : World} {b : Nat} (N : List (Nat × Nat × Nat)) (x : Nat) (c : Bool) (h : w.heap[b]? = some (.map #[] 0)) : DoneR w b N x c 0 := ⟨0, fun _ => none, funM_obj h, Nat.le_refl _, fun p z hz => (by cases hz)⟩
theorem drewHeap (w : World) : w.drew.heap = w.heap := rfl
theorem heap_second (w : World) (o1 o2 : Obj) : ((w.alloc o1).alloc o2).heap[w.heap.size + 1]? = some o2 := by
  have := World.alloc_heap_new (w.alloc o1) o2
  rwa [World.size_alloc] at this
theorem ex_mid {b0 B mp md base dm g bv : Nat} {p x : Int} {v v1 : Value} {w V W1 : World} {og : Obj} (hK : KbX b0 B mp md dm v V v1 W1) (hV : Below w.heap.size w V) (hog : w.heap[g]? = some og) (hg : base ≤ g) (hB : B < base ∧ mp < base ∧ md < base) (hdm : g ≠ dm) (hgo : v.ownBlock ≠ some g) (hbv : bv < b0) (hdb : b0 ≤ w.heap.size)
    (hc0 : w.cell? ⟨g, 0, none⟩ = some (.int .i64 p)) (v0 : w.cell? ⟨bv, 0, none⟩ = some (.int .i64 x)) :
    (∀ V' : World, Below W1.heap.size W1 V' → V'.cell? ⟨g, 0, none⟩ = some (.int .i64 p) ∧ V'.cell? ⟨bv, 0, none⟩ = some (.int .i64 x)) ∧ Below b0 w W1 ∧ W1.heap[g]? = some og := by
  have hgl := (Array.getElem?_eq_some_iff.1 hog).1
  have hgW := hK.keep g og (obj_in hV hog) (by omega) (by omega) (by omega) (by omega) hgo
  have hcW : W1.cell? ⟨g, 0, none⟩ = some (.int .i64 p) := (World.cell?_of_block (hgW.trans hog.symm)).trans hc0
  have hvW : W1.cell? ⟨bv, 0, none⟩ = some (.int .i64 x) := (hK.below.cell (p := ⟨bv, 0, none⟩) hbv).trans (cell_in hV v0)
  exact ⟨fun V' h => ⟨cell_in h hcW, cell_in h hvW⟩, (hV.mono hdb).trans hK.below, hgW⟩
theorem ex_own {b0 B mp md dm base D : Nat} {v v1 : Value} {V W1 : World} {N : List (Nat × Nat × Nat)} (hB : Bld rk W1 b0 B mp md base v1 N D) (hK : KbX b0 B mp md dm v V v1 W1) : ∀ d, v1.ownBlock = some d → d < W1.heap.size ∧ (v.ownBlock = some d ∨ V.heap.size ≤ d) := fun d e => ⟨(ownD_lt hB.own e).2, hK.own d e⟩
set_option maxRecDepth 100000 in
set_option maxHeartbeats 6400000 in
theorem mkExists {K c : Nat} (hc : c + 1 = 2 ^ K) (hrk : ∀ v, rk v ≤ K) (W0 : World) (bv x : Nat) (hx : x < 4096) (hv : W0.cell? ⟨bv, 0, none⟩ = some (.int .i64 (x : Int))) (y : DN) : MkC rk 66 #[.pointer (some ⟨bv, 0, none⟩)] W0 [y] (3 * c) (fun ρ => put3 y.2.2.1 y.2.2.2 x false ρ || put3 y.2.2.1 y.2.2.2 x true ρ) := by
  intro w b0 B mp md base v pv N D ps hbW hb0 hbl how hps hsm hnl hdl
  obtain ⟨pa, pc, rfl, hcell⟩ := ownN_sl how
  have hdb : b0 ≤ w.heap.size := by have := hbl.dist; omega
  have HBL := Lib.hid hbl
  obtain ⟨p, rfl⟩ : ∃ p, ps = [p] := List.length_eq_one_iff.1 hps
  obtain ⟨g, hpa, hg1, hg2, hc0⟩ := hcell 0 p rfl
  subst hpa
  have hs0 := hsm 0 p y rfl rfl
  have v0 := cell_in hbW hv
  have hbvl : bv < b0 := Nat.lt_of_lt_of_le (World.block_lt_of_cell? _ _ hv) hb0
  have hgo : v.ownBlock ≠ some g := fun e => by
    obtain ⟨_, h1⟩ := how
    rcases h1 with ⟨h1, _⟩ | ⟨g', cap, cur, e1, _, hh, _⟩
    · cases h1
    · injection e1 with e1 _ _
      injection e1 with e1
      injection e1 with e1 _ _
      subst e1
      obtain ⟨_, h2⟩ := hbl.own
      rcases h2 with ⟨h2, _⟩ | ⟨g2, cap2, cur2, e2, _, hh2, _⟩
      · rw [h2] at e; cases e
      · rw [e2] at e
        have : g2 = g := by injection e
        subst this
        rw [hh] at hh2
        injection hh2 with hh2
        injection hh2 with _ h5 _
        cases h5
  obtain ⟨og, hog⟩ : ∃ og, w.heap[g]? = some og := ⟨_, Array.getElem?_eq_getElem hg2⟩
  have HS0 := Lib.hid hs0
  have hd := hbl.dist
  have hbo := fun e => (ownD_lt hbl.own (b := w.heap.size) e).2
  have HR1 := Lib.hid (fun w' dm (h' : Below w.heap.size w w') (hd : DoneR w' dm N x false 0) (hdm : w.heap.size ≤ dm) => restrict_any b0 B mp md base dm x false hx (by have := hbl.dist; omega) K c hc v N D 0 p w' (hbl.bel h') hd (fun e => by have := ownD_lt hbl.own e; omega) hs0.1 (hrk _) (by omega) (by omega))
  have hvl := fun d (e : v.ownBlock = some d) => (ownD_lt hbl.own e).2
  have SK := Lib.hid (show ∀ V : World, Below w.heap.size w V → V.cell? ⟨g, 0, none⟩ = some (.int .i64 (p : Int)) ∧ V.cell? ⟨bv, 0, none⟩ = some (.int .i64 (x : Int)) from fun V h => ⟨cell_in h hc0, cell_in h v0⟩)
  have HOG := Lib.hid hog
  have HVL := Lib.hid hvl
  have HGO := Lib.hid hgo
  clear hbl how hps hsm hcell hs0 hv hbW hog hvl hbo hgo
  have hmm := @run_makeMap Tryz.prog
  show Calls _ _ #[.pointer (some ⟨B, 0, none⟩), .slice (some ⟨g, 0, none⟩) 1 pc, .pointer (some ⟨bv, 0, none⟩)] _ _
  go_enter Tryz.func66, Tryz.ntmps66
  go_wp2_with fail
  have hRf : Below w.heap.size w w := Below.refl _ _
  go_region_held3 (fun V => V.cell? ⟨g, 0, none⟩ = some (.int .i64 (p : Int)) ∧ V.cell? ⟨bv, 0, none⟩ = some (.int .i64 (x : Int))) (first | exact SK3.out _ (Below.refl _ _) | exact SK2.out _ (Below.refl _ _) | exact SK1.out _ (by (repeat' (first | (with_reducible first | exact Below.refl _ _ | exact Nat.le_refl _ | refine Below.bel ?_ ?_ | refine Below.alloc ?_ ?_ _ | refine Below.drew ?_ | refine Below.drawsN ?_ _ | refine Below.setCell ?_ ?_ _ | refine le_bel ?_ | refine le_alloc ?_ | refine le_setCell ?_ | refine le_drew ?_ | refine le_drawsN ?_) | (dsimp only; with_reducible first | refine le_bel ?_ | refine Nat.le_refl _ | refine le_bel_add ?_) | (with_reducible assumption) | omega | (dsimp only; omega)))) | exact SK.out _ (by (repeat' (first | (with_reducible first | exact Below.refl _ _ | exact Nat.le_refl _ | refine Below.bel ?_ ?_ | refine Below.alloc ?_ ?_ _ | refine Below.drew ?_ | refine Below.drawsN ?_ _ | refine Below.setCell ?_ ?_ _ | refine le_bel ?_ | refine le_alloc ?_ | refine le_setCell ?_ | refine le_drew ?_ | refine le_drawsN ?_) | (dsimp only; with_reducible first | refine le_bel ?_ | refine Nat.le_refl _ | refine le_bel_add ?_) | (with_reducible assumption) | omega | (dsimp only; omega))))) (first | (go_at_call 60; refine (HCH.out _ (by (repeat' (first | (with_reducible first | exact Below.refl _ _ | exact Nat.le_refl _ | refine Below.bel ?_ ?_ | refine Below.alloc ?_ ?_ _ | refine Below.drew ?_ | refine Below.drawsN ?_ _ | refine Below.setCell ?_ ?_ _ | refine le_bel ?_ | refine le_alloc ?_ | refine le_setCell ?_ | refine le_drew ?_ | refine le_drawsN ?_) | (dsimp only; with_reducible first | refine le_bel ?_ | refine Nat.le_refl _ | refine le_bel_add ?_) | (with_reducible assumption) | omega | (dsimp only; omega))))).mono ?_; rintro _ W3 ⟨p3, v3, M3, rfl, hB3, hK3, hM3, hp3, hv3⟩; obtain ⟨sk3, sb3, -⟩ := ex_mid (p := (p : Int)) (x := (x : Int)) (hK3.x mp) (by (repeat' (first | (with_reducible first | exact Below.refl _ _ | exact Nat.le_refl _ | refine Below.bel ?_ ?_ | refine Below.alloc ?_ ?_ _ | refine Below.drew ?_ | refine Below.drawsN ?_ _ | refine Below.setCell ?_ ?_ _ | refine le_bel ?_ | refine le_alloc ?_ | refine le_setCell ?_ | refine le_drew ?_ | refine le_drawsN ?_) | (dsimp only; with_reducible first | refine le_bel ?_ | refine Nat.le_refl _ | refine le_bel_add ?_) | (with_reducible assumption) | omega | (dsimp only; omega)))) HG2.out hg1 ⟨by omega, by omega, by omega⟩ (by omega) HGO2.out hbvl (by omega) (SK2.out _ (Below.refl _ _)).1 (SK2.out _ (Below.refl _ _)).2; have SK3 := Lib.hid sk3; clear sk3; have HB3 := Lib.hid hB3; have HK3 := Lib.hid sb3; have HN3 := Lib.hid (And.intro hM3 (And.intro hp3 hv3)); clear hB3 hK3 hM3 hp3 hv3) | (go_at_call 65; (with_reducible refine (HR2.out _ _ (by (repeat' (first | (with_reducible first | exact Below.refl _ _ | exact Nat.le_refl _ | refine Below.bel ?_ ?_ | refine Below.alloc ?_ ?_ _ | refine Below.drew ?_ | refine Below.drawsN ?_ _ | refine Below.setCell ?_ ?_ _ | refine le_bel ?_ | refine le_alloc ?_ | refine le_setCell ?_ | refine le_drew ?_ | refine le_drawsN ?_) | (dsimp only; with_reducible first | refine le_bel ?_ | refine Nat.le_refl _ | refine le_bel_add ?_) | (with_reducible assumption) | omega | (dsimp only; omega)))) (doneR_obj _ _ _ (by (first | ((try rw [drewHeap]); first | exact World.alloc_heap_new _ _ | exact obj_alloc _ (World.alloc_heap_new _ _) | exact heap_second _ _ _) | exact HKP.out _ _ (by ((try rw [drewHeap]); first | exact World.alloc_heap_new _ _ | exact obj_alloc _ (World.alloc_heap_new _ _) | exact heap_second _ _ _)) (by omega) (by omega) (by omega) (by omega) (fun e => by have := HVL.out _ e; omega)))) (fun e => by first | (have := (HOW1.out _ e).1; omega) | (rcases (HOW1.out _ e).2 with h | h; (have := HVL.out _ h; omega); (simp at h; omega))) (by omega)).mono ?_); rintro _ W2 ⟨p2, v2, M2, rfl, hB2, -, hK2, hM2, hp2, hv2⟩; have hRf2 : Below W2.heap.size W2 W2 := Below.refl _ _; have HB2 := Lib.hid hB2; obtain ⟨sk2, sb2, sg2⟩ := ex_mid (p := (p : Int)) (x := (x : Int)) hK2 (by (repeat' (first | (with_reducible first | exact Below.refl _ _ | exact Nat.le_refl _ | refine Below.bel ?_ ?_ | refine Below.alloc ?_ ?_ _ | refine Below.drew ?_ | refine Below.drawsN ?_ _ | refine Below.setCell ?_ ?_ _ | refine le_bel ?_ | refine le_alloc ?_ | refine le_setCell ?_ | refine le_drew ?_ | refine le_drawsN ?_) | (dsimp only; with_reducible first | refine le_bel ?_ | refine Nat.le_refl _ | refine le_bel_add ?_) | (with_reducible assumption) | omega | (dsimp only; omega)))) HG1.out hg1 ⟨by omega, by omega, by omega⟩ (by omega) HGO1.out hbvl (by omega) (SK1.out _ (Below.refl _ _)).1 (SK1.out _ (Below.refl _ _)).2; have SK2 := Lib.hid sk2; have hwW2 := sb2.size; have HG2 := Lib.hid sg2; have HK2 := Lib.hid sb2; have hs22 := hB2.dist.2.2.2.2.2.2.2.2.2; have HGO2 := Lib.hid (show v2.ownBlock ≠ some g from fun e => by rcases hK2.own _ e with h | h; exact HGO1.out h; (first | omega | (simp at h; omega))); have HN2 := Lib.hid (And.intro hM2 (And.intro hp2 hv2)); clear sk2 sb2 sg2; have HCH := Lib.hid (fun w' (h' : Below W2.heap.size W2 w') => chooseK hc hrk (hB2.bel h') p1 1 p2 (by have := HN1.out.2.1; rw [List.length_append]; omega) (by omega) hp2 (by rw [List.length_append, List.length_append]; have := HN1.out.1; omega) (by omega))) | (go_at_call 65; (with_reducible refine (HR1.out _ _ (by (repeat' (first | (with_reducible first | exact Below.refl _ _ | exact Nat.le_refl _ | refine Below.bel ?_ ?_ | refine Below.alloc ?_ ?_ _ | refine Below.drew ?_ | refine Below.drawsN ?_ _ | refine Below.setCell ?_ ?_ _ | refine le_bel ?_ | refine le_alloc ?_ | refine le_setCell ?_ | refine le_drew ?_ | refine le_drawsN ?_) | (dsimp only; with_reducible first | refine le_bel ?_ | refine Nat.le_refl _ | refine le_bel_add ?_) | (with_reducible assumption) | omega | (dsimp only; omega)))) (doneR_obj _ _ _ (by ((try rw [drewHeap]); first | exact World.alloc_heap_new _ _ | exact obj_alloc _ (World.alloc_heap_new _ _) | exact heap_second _ _ _))) (by first | exact Nat.le_refl _ | omega | (simp; omega))).mono ?_); rintro _ W1 ⟨p1, v1, M1, rfl, hB1, -, hK1, hM1, hp1, hv1⟩; have HR2 := Lib.hid (fun w' dm (h' : Below W1.heap.size W1 w') (hd : DoneR w' dm (N ++ M1) x true 0) (ho : v1.ownBlock ≠ some dm) (hdm : base ≤ dm) => restrict_any b0 B mp md base dm x true hx hdm K c hc v1 (N ++ M1) D 0 p w' (hB1.bel h') hd ho (by rw [List.length_append]; have := HS0.out.1; omega) (hrk _) (by rw [List.length_append]; omega) (by omega)); obtain ⟨sk1, sb1, sg1⟩ := ex_mid (p := (p : Int)) (x := (x : Int)) hK1 (by (repeat' (first | (with_reducible first | exact Below.refl _ _ | exact Nat.le_refl _ | refine Below.bel ?_ ?_ | refine Below.alloc ?_ ?_ _ | refine Below.drew ?_ | refine Below.drawsN ?_ _ | refine Below.setCell ?_ ?_ _ | refine le_bel ?_ | refine le_alloc ?_ | refine le_setCell ?_ | refine le_drew ?_ | refine le_drawsN ?_) | (dsimp only; with_reducible first | refine le_bel ?_ | refine Nat.le_refl _ | refine le_bel_add ?_) | (with_reducible assumption) | omega | (dsimp only; omega)))) HOG.out hg1 ⟨by omega, by omega, by omega⟩ (by omega) HGO.out hbvl hdb hc0 v0; have SK1 := Lib.hid sk1; have hwW := sb1.size; have HKP := Lib.hid hK1.keep; have HG1 := Lib.hid sg1; have HGO1 := Lib.hid (show v1.ownBlock ≠ some g from fun e => by rcases hK1.own _ e with h | h; exact HGO.out h; (first | omega | (simp at h; omega))); have HOW1 := Lib.hid (ex_own hB1 hK1); have hdW := hB1.dist.2.2.2.2.2.2.2.2.2; have HB1 := Lib.hid hB1; have HK1 := Lib.hid sb1; have hws2 := hK1.below.size; have HN1 := Lib.hid (And.intro hM1 (And.intro hp1 hv1)); clear hB1 hK1 hp1 hv1 sk1 sb1 sg1; have hRf1 : Below W1.heap.size W1 W1 := Below.refl _ _))
  all_goals
    go_wp2
    have hsb := HK1.out.trans (HK2.out.trans (show Below b0 _ W3 from HK3.out))
    refine bodyPost_ret (v := .int .i64 (p3 : Int)) (by simp [results, Tryz.results66, go_sem]) rfl ⟨p3, v3, M1 ++ (M2 ++ M3), D + c, rfl, ?_, hsb, ?_, ?_, fun ρ => ?_⟩
    · rw [← List.append_assoc, ← List.append_assoc]; exact HB3.out
    · rw [List.length_append, List.length_append]; have := HN3.out.1; have := HN2.out.1; omega
    · rw [← List.append_assoc, ← List.append_assoc]; exact HN3.out.2.1
    · rw [← List.append_assoc, ← List.append_assoc, HN3.out.2.2 ρ]
      unfold ite3
      rw [val3_1, HN2.out.2.2 ρ, val3_app ρ _ HN1.out.2.1, HN1.out.2.2 ρ, put3_app true HS0.out.1]
      have e1 : put3 N p x false ρ = put3 y.2.2.1 y.2.2.2 x false ρ := HS0.out.2.2 _
      have e2 : put3 N p x true ρ = put3 y.2.2.1 y.2.2.2 x true ρ := HS0.out.2.2 _
      rw [e1, e2]
      dsimp only
      cases put3 y.2.2.1 y.2.2.2 x false ρ <;> rfl
end Go.Proofs.YtkdmhjlcgpnjpaaGreatDoor

namespace Go.Proofs.YtkdmhjlcgpnjpaaGreatDoor
set_option linter.unusedVariables false
set_option linter.unusedSimpArgs false
open Go.RowKit Go.Maps
attribute [local go_sem low] Bel.cell Bel.frozen alloc_cell alloc_frozen
attribute [local go_sem] calmOp chainOp yieldsC grows
variable {rk : Nat → Nat}

/-- The value of a diagram. -/
abbrev dnV (x : DN) : Value := .agg #[.slice x.1 x.2.2.1.length x.2.1, .int .i64 (x.2.2.2 : Int)]
abbrev diV (x : DI) : Value := .agg #[.slice x.1 x.2.2.1.length x.2.1, .int .i64 x.2.2.2]
theorem fin_dg {w w5 W1 : World} {M : List (Nat × Nat × Nat)} {r c b : Nat} {ad : Option Addr} (hb5 : Below w.heap.size w w5) (hbl : w.heap.size ≤ b) (hbu : b < w5.heap.size) (hi : InD W1.heap.size W1 ad (M.map z3)) (hf : ∀ g off k, ad = some ⟨g, off, k⟩ → w5.heap.size ≤ g) (hb : Below w5.heap.size w5 W1) (u1 u2 : Value) :
    RetDg M r w (.returned (.tuple #[.agg #[.slice ad M.length c, .int .i64 (r : Int)], .int .i64 0])) ((W1.setCell ⟨b, 0, none⟩ u1).setCell ⟨b, 1, none⟩ u2) := by
  have hs := hb5.size
  have hfr : ∀ g off k, ad = some ⟨g, off, k⟩ → b + 1 ≤ g := fun g off k h => by have := hf g off k h; omega
  refine ⟨ad, c, rfl, ?_, fun g off k h => by have := hf g off k h; omega, ?_⟩
  · have := (hi.set hfr (b := b) (i := 0) (x := u1) (by omega)).set hfr (b := b) (i := 1) (x := u2) (by omega)
    simpa using this
  · exact (((hb5.trans (hb.mono hs)).setCell (p := ⟨b, 0, none⟩) hbl u1).setCell (p := ⟨b, 1, none⟩) hbl u2)
theorem cells2 {W : World} {b : Nat} {x y : Value} {e : TypeId} (h : W.heap[b]? = some (.cells #[x, y] e (0, 0))) : W.cell? ⟨b, 0, none⟩ = some x ∧ W.cell? ⟨b, 1, none⟩ = some y ∧ W.frozen? ⟨b, 0, none⟩ = false ∧ W.frozen? ⟨b, 1, none⟩ = false := by
  refine ⟨?_, ?_, ?_, ?_⟩ <;> simp [World.cell?, World.frozen?, h]
theorem dis1 {w : World} {g : Nat} (x : DN) (h : w.heap[g]? = some (.cells #[.slice x.1 x.2.2.1.length x.2.1, .int .i64 (x.2.2.2 : Int)] 30 (0, 0))) : DIs w g 0 ([x].map toI) := fun j y hj => by
  match j, hj with
  | 0, hj =>
    simp at hj
    subst hj
    refine ⟨?_, ?_⟩ <;> simp [World.cell?, h, toI]
  | j + 1, hj => simp at hj
theorem dis2 {w : World} {g : Nat} (x y : DN) (h : w.heap[g]? = some (.cells #[.slice x.1 x.2.2.1.length x.2.1, .int .i64 (x.2.2.2 : Int), .slice y.1 y.2.2.1.length y.2.1, .int .i64 (y.2.2.2 : Int)] 30 (0, 0))) : DIs w g 0 ([x, y].map toI) := fun j z hj => by
  match j, hj with
  | 0, hj =>
    simp at hj
    subst hj
    refine ⟨?_, ?_⟩ <;> simp [World.cell?, h, toI]
  | 1, hj =>
    simp at hj
    subst hj
    refine ⟨?_, ?_⟩ <;> simp [World.cell?, h, toI]
  | j + 2, hj => simp at hj
theorem newAt1 (w : World) (a b : Obj) : ((w.alloc a).alloc b).heap[w.heap.size + 1]? = some b := by
  have := World.alloc_heap_new (w.alloc a) b
  rwa [World.size_alloc] at this
theorem newAt2 (w : World) (a b c : Obj) : (((w.alloc a).alloc b).alloc c).heap[w.heap.size + 1 + 1]? = some c := by
  have := World.alloc_heap_new ((w.alloc a).alloc b) c
  rwa [World.size_alloc, World.size_alloc] at this
theorem newAt3 (w : World) (a b c d : Obj) : ((((w.alloc a).alloc b).alloc c).alloc d).heap[w.heap.size + 1 + 1 + 1]? = some d := by
  have := World.alloc_heap_new (((w.alloc a).alloc b).alloc c) d
  rwa [World.size_alloc, World.size_alloc, World.size_alloc] at this
theorem newAt4 (w : World) (a b c d e : Obj) : (((((w.alloc a).alloc b).alloc c).alloc d).alloc e).heap[w.heap.size + 1 + 1 + 1 + 1]? = some e := by
  have := World.alloc_heap_new ((((w.alloc a).alloc b).alloc c).alloc d) e
  rwa [World.size_alloc, World.size_alloc, World.size_alloc, World.size_alloc] at this
/-! Errors. -/
theorem disB1 {w : World} {g : Nat} (x : DI) (h : w.heap[g]? = some (.cells #[.slice x.1 x.2.2.1.length x.2.1, .int .i64 x.2.2.2] 30 (0, 0))) : DIs w g 0 [x] := fun j y hj => by
  match j, hj with
  | 0, hj =>
    simp at hj
    subst hj
    refine ⟨?_, ?_⟩ <;> simp [World.cell?, h]
  | j + 1, hj => simp at hj
theorem disB2 {w : World} {g : Nat} (x y : DI) (h : w.heap[g]? = some (.cells #[.slice x.1 x.2.2.1.length x.2.1, .int .i64 x.2.2.2, .slice y.1 y.2.2.1.length y.2.1, .int .i64 y.2.2.2] 30 (0, 0))) : DIs w g 0 [x, y] := fun j z hj => by
  match j, hj with
  | 0, hj =>
    simp at hj
    subst hj
    refine ⟨?_, ?_⟩ <;> simp [World.cell?, h]
  | 1, hj =>
    simp at hj
    subst hj
    refine ⟨?_, ?_⟩ <;> simp [World.cell?, h]
  | j + 2, hj => simp at hj
theorem disB3 {w : World} {g : Nat} (x y u : DI) (h : w.heap[g]? = some (.cells #[.slice x.1 x.2.2.1.length x.2.1, .int .i64 x.2.2.2, .slice y.1 y.2.2.1.length y.2.1, .int .i64 y.2.2.2, .slice u.1 u.2.2.1.length u.2.1, .int .i64 u.2.2.2] 30 (0, 0))) : DIs w g 0 [x, y, u] := fun j z hj => by
  match j, hj with
  | 0, hj =>
    simp at hj
    subst hj
    refine ⟨?_, ?_⟩ <;> simp [World.cell?, h]
  | 1, hj =>
    simp at hj
    subst hj
    refine ⟨?_, ?_⟩ <;> simp [World.cell?, h]
  | 2, hj =>
    simp at hj
    subst hj
    refine ⟨?_, ?_⟩ <;> simp [World.cell?, h]
  | j + 3, hj => simp at hj
set_option maxRecDepth 100000 in
set_option maxHeartbeats 6400000 in
theorem Not_bad (x : DI) (w : World) (q : Nat) (hx : DIok w x) (hq : firstD [x] = q) (h0 : q ≠ 0) :
    Calls Tryz.prog 28 #[diV x] w (Ret (.tuple #[.agg #[.slice none 0 0, .int .i64 0], .int .i64 (q : Int)]) w) := by
  have HC := Lib.hid (fun w' g (hb : Below w.heap.size w w') (hd : w'.heap[g]? = some (.cells #[.slice x.1 x.2.2.1.length x.2.1, .int .i64 x.2.2.2] 30 (0, 0))) => combine_bad 59 #[] [x] g 0 1 w' (fun y hy => by rw [List.mem_singleton.1 hy]; exact hx.of hb) (disB1 x hd) (by simp) q hq h0)
  obtain ⟨ad, cap, M, r⟩ := x
  dsimp only at HC hx ⊢
  clear hx hq h0
  go_enter Tryz.func28, Tryz.ntmps28
  go_wp2_with fail
  refine (HC.out _ _ (by (repeat' (first | (with_reducible first | exact Below.refl _ _ | exact Nat.le_refl _ | refine Below.bel ?_ ?_ | refine Below.alloc ?_ ?_ _ | refine Below.drew ?_ | refine Below.drawsN ?_ _ | refine Below.setCell ?_ ?_ _ | refine le_bel ?_ | refine le_alloc ?_ | refine le_setCell ?_ | refine le_drew ?_ | refine le_drawsN ?_) | (dsimp only; with_reducible first | refine le_bel ?_ | refine Nat.le_refl _ | refine le_bel_add ?_) | (with_reducible assumption) | omega | (dsimp only; omega)))) ((newAt2 _ _ _ _))).mono ?_
  rintro _ _ ⟨rfl, y1, rfl⟩
  obtain ⟨d0, d1, d2, d3⟩ := cells2 (obj_in y1.below ((obj_alloc _ (newAt1 _ _ _))))
  dsimp only
  go_wp2
  refine bodyPost_ret (v := .tuple #[.agg #[.slice none 0 0, .int .i64 0], .int .i64 (q : Int)]) (by simp [results, Tryz.results28, go_sem, d0, d1]) rfl (Ret.mk rfl (by (repeat' (first | (with_reducible first | exact Below.refl _ _ | exact Nat.le_refl _ | refine Below.bel ?_ ?_ | refine Below.alloc ?_ ?_ _ | refine Below.drew ?_ | refine Below.drawsN ?_ _ | refine Below.setCell ?_ ?_ _ | refine le_bel ?_ | refine le_alloc ?_ | refine le_setCell ?_ | refine le_drew ?_ | refine le_drawsN ?_) | (dsimp only; with_reducible first | refine le_bel ?_ | refine Nat.le_refl _ | refine le_bel_add ?_) | (with_reducible assumption) | omega | (dsimp only; omega)))))
set_option maxRecDepth 100000 in
set_option maxHeartbeats 6400000 in
theorem And_bad (x y : DI) (w : World) (q : Nat) (hx : DIok w x) (hy : DIok w y) (hq : firstD [x, y] = q) (h0 : q ≠ 0) :
    Calls Tryz.prog 29 #[diV x, diV y] w (Ret (.tuple #[.agg #[.slice none 0 0, .int .i64 0], .int .i64 (q : Int)]) w) := by
  have HC := Lib.hid (fun w' g (hb : Below w.heap.size w w') (hd : w'.heap[g]? = some (.cells #[.slice x.1 x.2.2.1.length x.2.1, .int .i64 x.2.2.2, .slice y.1 y.2.2.1.length y.2.1, .int .i64 y.2.2.2] 30 (0, 0))) => combine_bad 61 #[] [x, y] g 0 2 w' (fun z hz => by
    rcases List.mem_cons.1 hz with rfl | hz
    · exact hx.of hb
    · rw [List.mem_singleton.1 hz]; exact hy.of hb) (disB2 x y hd) (by simp) q hq h0)
  obtain ⟨ad, cap, M, r⟩ := x
  obtain ⟨ad2, cap2, M2, r2⟩ := y
  dsimp only at HC hx hy ⊢
  clear hx hy hq h0
  go_enter Tryz.func29, Tryz.ntmps29
  go_wp2_with fail
  refine (HC.out _ _ (by (repeat' (first | (with_reducible first | exact Below.refl _ _ | exact Nat.le_refl _ | refine Below.bel ?_ ?_ | refine Below.alloc ?_ ?_ _ | refine Below.drew ?_ | refine Below.drawsN ?_ _ | refine Below.setCell ?_ ?_ _ | refine le_bel ?_ | refine le_alloc ?_ | refine le_setCell ?_ | refine le_drew ?_ | refine le_drawsN ?_) | (dsimp only; with_reducible first | refine le_bel ?_ | refine Nat.le_refl _ | refine le_bel_add ?_) | (with_reducible assumption) | omega | (dsimp only; omega)))) ((newAt3 _ _ _ _ _))).mono ?_
  rintro _ _ ⟨rfl, y1, rfl⟩
  obtain ⟨d0, d1, d2, d3⟩ := cells2 (obj_in y1.below ((obj_alloc _ (newAt2 _ _ _ _))))
  dsimp only
  go_wp2
  refine bodyPost_ret (v := .tuple #[.agg #[.slice none 0 0, .int .i64 0], .int .i64 (q : Int)]) (by simp [results, Tryz.results29, go_sem, d0, d1]) rfl (Ret.mk rfl (by (repeat' (first | (with_reducible first | exact Below.refl _ _ | exact Nat.le_refl _ | refine Below.bel ?_ ?_ | refine Below.alloc ?_ ?_ _ | refine Below.drew ?_ | refine Below.drawsN ?_ _ | refine Below.setCell ?_ ?_ _ | refine le_bel ?_ | refine le_alloc ?_ | refine le_setCell ?_ | refine le_drew ?_ | refine le_drawsN ?_) | (dsimp only; with_reducible first | refine le_bel ?_ | refine Nat.le_refl _ | refine le_bel_add ?_) | (with_reducible assumption) | omega | (dsimp only; omega)))))
set_option maxRecDepth 100000 in
set_option maxHeartbeats 6400000 in
theorem Or_bad (x y : DI) (w : World) (q : Nat) (hx : DIok w x) (hy : DIok w y) (hq : firstD [x, y] = q) (h0 : q ≠ 0) :
    Calls Tryz.prog 30 #[diV x, diV y] w (Ret (.tuple #[.agg #[.slice none 0 0, .int .i64 0], .int .i64 (q : Int)]) w) := by
  have HC := Lib.hid (fun w' g (hb : Below w.heap.size w w') (hd : w'.heap[g]? = some (.cells #[.slice x.1 x.2.2.1.length x.2.1, .int .i64 x.2.2.2, .slice y.1 y.2.2.1.length y.2.1, .int .i64 y.2.2.2] 30 (0, 0))) => combine_bad 62 #[] [x, y] g 0 2 w' (fun z hz => by
    rcases List.mem_cons.1 hz with rfl | hz
    · exact hx.of hb
    · rw [List.mem_singleton.1 hz]; exact hy.of hb) (disB2 x y hd) (by simp) q hq h0)
  obtain ⟨ad, cap, M, r⟩ := x
  obtain ⟨ad2, cap2, M2, r2⟩ := y
  dsimp only at HC hx hy ⊢
  clear hx hy hq h0
  go_enter Tryz.func30, Tryz.ntmps30
  go_wp2_with fail
  refine (HC.out _ _ (by (repeat' (first | (with_reducible first | exact Below.refl _ _ | exact Nat.le_refl _ | refine Below.bel ?_ ?_ | refine Below.alloc ?_ ?_ _ | refine Below.drew ?_ | refine Below.drawsN ?_ _ | refine Below.setCell ?_ ?_ _ | refine le_bel ?_ | refine le_alloc ?_ | refine le_setCell ?_ | refine le_drew ?_ | refine le_drawsN ?_) | (dsimp only; with_reducible first | refine le_bel ?_ | refine Nat.le_refl _ | refine le_bel_add ?_) | (with_reducible assumption) | omega | (dsimp only; omega)))) ((newAt3 _ _ _ _ _))).mono ?_
  rintro _ _ ⟨rfl, y1, rfl⟩
  obtain ⟨d0, d1, d2, d3⟩ := cells2 (obj_in y1.below ((obj_alloc _ (newAt2 _ _ _ _))))
  dsimp only
  go_wp2
  refine bodyPost_ret (v := .tuple #[.agg #[.slice none 0 0, .int .i64 0], .int .i64 (q : Int)]) (by simp [results, Tryz.results30, go_sem, d0, d1]) rfl (Ret.mk rfl (by (repeat' (first | (with_reducible first | exact Below.refl _ _ | exact Nat.le_refl _ | refine Below.bel ?_ ?_ | refine Below.alloc ?_ ?_ _ | refine Below.drew ?_ | refine Below.drawsN ?_ _ | refine Below.setCell ?_ ?_ _ | refine le_bel ?_ | refine le_alloc ?_ | refine le_setCell ?_ | refine le_drew ?_ | refine le_drawsN ?_) | (dsimp only; with_reducible first | refine le_bel ?_ | refine Nat.le_refl _ | refine le_bel_add ?_) | (with_reducible assumption) | omega | (dsimp only; omega)))))
set_option maxRecDepth 100000 in
set_option maxHeartbeats 6400000 in
theorem Choose_bad (x y u : DI) (w : World) (q : Nat) (hx : DIok w x) (hy : DIok w y) (hu : DIok w u) (hq : firstD [x, y, u] = q) (h0 : q ≠ 0) :
    Calls Tryz.prog 31 #[diV x, diV y, diV u] w (Ret (.tuple #[.agg #[.slice none 0 0, .int .i64 0], .int .i64 (q : Int)]) w) := by
  have HC := Lib.hid (fun w' g (hb : Below w.heap.size w w') (hd : w'.heap[g]? = some (.cells #[.slice x.1 x.2.2.1.length x.2.1, .int .i64 x.2.2.2, .slice y.1 y.2.2.1.length y.2.1, .int .i64 y.2.2.2, .slice u.1 u.2.2.1.length u.2.1, .int .i64 u.2.2.2] 30 (0, 0))) => combine_bad 63 #[] [x, y, u] g 0 3 w' (fun z hz => by
    rcases List.mem_cons.1 hz with rfl | hz
    · exact hx.of hb
    · rcases List.mem_cons.1 hz with rfl | hz
      · exact hy.of hb
      · rw [List.mem_singleton.1 hz]; exact hu.of hb) (disB3 x y u hd) (by simp) q hq h0)
  obtain ⟨ad, cap, M, r⟩ := x
  obtain ⟨ad2, cap2, M2, r2⟩ := y
  obtain ⟨ad3, cap3, M3, r3⟩ := u
  dsimp only at HC hx hy hu ⊢
  clear hx hy hu hq h0
  go_enter Tryz.func31, Tryz.ntmps31
  go_wp2_with fail
  refine (HC.out _ _ (by (repeat' (first | (with_reducible first | exact Below.refl _ _ | exact Nat.le_refl _ | refine Below.bel ?_ ?_ | refine Below.alloc ?_ ?_ _ | refine Below.drew ?_ | refine Below.drawsN ?_ _ | refine Below.setCell ?_ ?_ _ | refine le_bel ?_ | refine le_alloc ?_ | refine le_setCell ?_ | refine le_drew ?_ | refine le_drawsN ?_) | (dsimp only; with_reducible first | refine le_bel ?_ | refine Nat.le_refl _ | refine le_bel_add ?_) | (with_reducible assumption) | omega | (dsimp only; omega)))) ((newAt4 _ _ _ _ _ _))).mono ?_
  rintro _ _ ⟨rfl, y1, rfl⟩
  obtain ⟨d0, d1, d2, d3⟩ := cells2 (obj_in y1.below ((obj_alloc _ (newAt3 _ _ _ _ _))))
  dsimp only
  go_wp2
  refine bodyPost_ret (v := .tuple #[.agg #[.slice none 0 0, .int .i64 0], .int .i64 (q : Int)]) (by simp [results, Tryz.results31, go_sem, d0, d1]) rfl (Ret.mk rfl (by (repeat' (first | (with_reducible first | exact Below.refl _ _ | exact Nat.le_refl _ | refine Below.bel ?_ ?_ | refine Below.alloc ?_ ?_ _ | refine Below.drew ?_ | refine Below.drawsN ?_ _ | refine Below.setCell ?_ ?_ _ | refine le_bel ?_ | refine le_alloc ?_ | refine le_setCell ?_ | refine le_drew ?_ | refine le_drawsN ?_) | (dsimp only; with_reducible first | refine le_bel ?_ | refine Nat.le_refl _ | refine le_bel_add ?_) | (with_reducible assumption) | omega | (dsimp only; omega)))))
end Go.Proofs.YtkdmhjlcgpnjpaaGreatDoor

namespace Go.Proofs.YtkdmhjlcgpnjpaaGreatDoor
set_option linter.unusedVariables false
set_option linter.unusedSimpArgs false
open Go.RowKit Go.Maps
attribute [local go_sem low] Bel.cell Bel.frozen alloc_cell alloc_frozen
attribute [local go_sem] calmOp chainOp yieldsC grows
variable {rk : Nat → Nat}

theorem egRestrict : ∀ args w, (callFunc 64 args).run Tryz.prog w = .ok (.enter 64 args) w := fun args w => by kernel_rfl
theorem egExists : ∀ args w, (callFunc 66 args).run Tryz.prog w = .ok (.enter 66 args) w := fun args w => by kernel_rfl
theorem egImplies : ∀ args w, (callFunc 81 args).run Tryz.prog w = .ok (.enter 81 args) w := fun args w => by kernel_rfl
theorem box1c {W : World} {b : Nat} {x : Value} {e : TypeId} (h : W.heap[b]? = some (.cells #[x] e (0, 0))) : W.cell? ⟨b, 0, none⟩ = some x := by simp [World.cell?, h]
set_option maxRecDepth 100000 in
set_option maxHeartbeats 6400000 in
theorem Restrict_ok {K c : Nat} (hc : c + 1 = 2 ^ K) (hrk : ∀ v, rk v ≤ K) (x : DN) (v : Nat) (b : Bool) (hv : v < 4096) (w : World) (hx : DNok rk w x) (hsum : x.2.2.1.length + c ≤ 50000) :
    Calls Tryz.prog 32 #[dnV x, .int .i64 (v : Int), .bool b] w (RetC rk (x.2.2.1.length + c) (fun ρ => put3 x.2.2.1 x.2.2.2 v b ρ) w) := by
  have HK := Lib.hid (fun w' (hb : Below w.heap.size w w') => (show Calls Tryz.prog 37 #[.agg #[.slice x.1 x.2.2.1.length x.2.1, .int .i64 (x.2.2.2 : Int)]] w' (Ret (.int .i64 0) w') from by
    obtain ⟨o1, o2, o3, o4⟩ := hx.di.of hb
    have h := dCheck_any _ o2 o3 x.1 x.2.1 _ o4 w' o1
    rw [show chkD (toI x).2.2.1 (toI x).2.2.2 = 0 from hx.chk, show (toI x).2.2.1.length = x.2.2.1.length from List.length_map ..] at h
    exact h))
  have HC := Lib.hid (fun w' g bv bb (hb : Below w.heap.size w w') (h1 : w'.heap[bv]? = some (.cells #[.int .i64 (v : Int)] 3 (0, 0))) (h2 : w'.heap[bb]? = some (.cells #[.bool b] 4 (0, 0))) (hd : w'.heap[g]? = some (.cells #[.slice x.1 x.2.2.1.length x.2.1, .int .i64 (x.2.2.2 : Int)] 30 (0, 0))) => combine_any rk 64 #[.pointer (some ⟨bv, 0, none⟩), .pointer (some ⟨bb, 0, none⟩)] egRestrict [x] g 0 1 c _ w' (fun y hy => by rw [List.mem_singleton.1 hy]; exact hx.of hb) (dis1 x hd) (mkRestrict hc hrk w' bv bb v b hv (box1c h1) (box1c h2) x) (by simp [sumN]; omega) (by simp))
  have hsn : sumN [x] = x.2.2.1.length := by simp [sumN]
  rw [hsn] at HC
  obtain ⟨ad, cap, M, r⟩ := x
  dsimp only at HC HK hsum hx ⊢
  have f1 : decide ((v : Int) < 0) = false := decide_eq_false (by omega)
  have f2 : decide ((4096 : Int) ≤ (v : Int)) = false := decide_eq_false (by omega)
  clear hx hsn
  go_enter Tryz.func32, Tryz.ntmps32
  go_wp2_with fail
  refine (HK.out _ (by (repeat' (first | (with_reducible first | exact Below.refl _ _ | exact Nat.le_refl _ | refine Below.bel ?_ ?_ | refine Below.alloc ?_ ?_ _ | refine Below.drew ?_ | refine Below.drawsN ?_ _ | refine Below.setCell ?_ ?_ _ | refine le_bel ?_ | refine le_alloc ?_ | refine le_setCell ?_ | refine le_drew ?_ | refine le_drawsN ?_) | (dsimp only; with_reducible first | refine le_bel ?_ | refine Nat.le_refl _ | refine le_bel_add ?_) | (with_reducible assumption) | omega | (dsimp only; omega))))).mono ?_
  rintro _ _ ⟨rfl, y1, rfl⟩
  dsimp only
  go_wp2_with fail
  have hys := y1.size_le
  simp only [World.size_alloc] at hys
  refine ((HC.out _ _ _ _ (by (repeat' (first | (with_reducible first | exact Below.refl _ _ | exact Nat.le_refl _ | refine Below.bel ?_ ?_ | refine Below.alloc ?_ ?_ _ | refine Below.drew ?_ | refine Below.drawsN ?_ _ | refine Below.setCell ?_ ?_ _ | refine le_bel ?_ | refine le_alloc ?_ | refine le_setCell ?_ | refine le_drew ?_ | refine le_drawsN ?_) | (dsimp only; with_reducible first | refine le_bel ?_ | refine Nat.le_refl _ | refine le_bel_add ?_) | (with_reducible assumption) | omega | (dsimp only; omega)))) (obj_alloc _ (obj_in y1.below (obj_alloc _ (obj_alloc _ (newAt1 _ _ _))))) (obj_alloc _ (obj_in y1.below (obj_alloc _ (newAt2 _ _ _ _)))) (World.alloc_heap_new _ _))).mono ?_
  rintro _ W1 ⟨N, p, hg, hl, hv, hp, hS, ad', c', rfl, hi', hf', hb'⟩
  obtain ⟨d0, d1, d2, d3⟩ := cells2 (obj_in hb' ((obj_alloc _ (obj_in y1.below (newAt3 _ _ _ _ _)))))
  obtain ⟨CM, hCM⟩ : ∃ x, (canonD N p).1 = x := ⟨_, rfl⟩
  obtain ⟨cr, hcr⟩ : ∃ x, (canonD N p).2 = x := ⟨_, rfl⟩
  rw [hCM] at hi' ⊢
  rw [hcr] at ⊢
  have HH := Lib.hid (And.intro hi' (And.intro hf' hb'))
  have HG := Lib.hid (And.intro hg (And.intro hl (And.intro hv (And.intro hp (And.intro hS (And.intro hCM hcr))))))
  clear hi' hf' hb' hg hl hv hp hS hCM hcr
  dsimp only
  go_wp2
  refine bodyPost_ret (v := .tuple #[.agg #[.slice ad' CM.length c', .int .i64 (cr : Int)], .int .i64 0]) (by simp [results, Tryz.results32, go_sem, d0, d1]) rfl ⟨N, p, HG.out.1, HG.out.2.1, HG.out.2.2.1, HG.out.2.2.2.1, HG.out.2.2.2.2.1, ?_⟩
  rw [HG.out.2.2.2.2.2.1, HG.out.2.2.2.2.2.2]
  exact fin_dg (by (repeat' (first | (with_reducible first | exact Below.refl _ _ | exact Nat.le_refl _ | refine Below.bel ?_ ?_ | refine Below.alloc ?_ ?_ _ | refine Below.drew ?_ | refine Below.drawsN ?_ _ | refine Below.setCell ?_ ?_ _ | refine le_bel ?_ | refine le_alloc ?_ | refine le_setCell ?_ | refine le_drew ?_ | refine le_drawsN ?_) | (dsimp only; with_reducible first | refine le_bel ?_ | refine Nat.le_refl _ | refine le_bel_add ?_) | (with_reducible assumption) | omega | (dsimp only; omega)))) (by omega) (by simp; omega) HH.out.1 HH.out.2.1 HH.out.2.2 _ _
set_option maxRecDepth 100000 in
set_option maxHeartbeats 6400000 in
theorem Exists_ok {K c : Nat} (hc : c + 1 = 2 ^ K) (hrk : ∀ v, rk v ≤ K) (x : DN) (v : Nat) (hv : v < 4096) (w : World) (hx : DNok rk w x) (hsum : x.2.2.1.length + 3 * c ≤ 50000) :
    Calls Tryz.prog 33 #[dnV x, .int .i64 (v : Int)] w (RetC rk (x.2.2.1.length + 3 * c) (fun ρ => put3 x.2.2.1 x.2.2.2 v false ρ || put3 x.2.2.1 x.2.2.2 v true ρ) w) := by
  have HK := Lib.hid (fun w' (hb : Below w.heap.size w w') => (show Calls Tryz.prog 37 #[.agg #[.slice x.1 x.2.2.1.length x.2.1, .int .i64 (x.2.2.2 : Int)]] w' (Ret (.int .i64 0) w') from by
    obtain ⟨o1, o2, o3, o4⟩ := hx.di.of hb
    have h := dCheck_any _ o2 o3 x.1 x.2.1 _ o4 w' o1
    rw [show chkD (toI x).2.2.1 (toI x).2.2.2 = 0 from hx.chk, show (toI x).2.2.1.length = x.2.2.1.length from List.length_map ..] at h
    exact h))
  have HC := Lib.hid (fun w' g bv (hb : Below w.heap.size w w') (h1 : w'.heap[bv]? = some (.cells #[.int .i64 (v : Int)] 3 (0, 0))) (hd : w'.heap[g]? = some (.cells #[.slice x.1 x.2.2.1.length x.2.1, .int .i64 (x.2.2.2 : Int)] 30 (0, 0))) => combine_any rk 66 #[.pointer (some ⟨bv, 0, none⟩)] egExists [x] g 0 1 (3 * c) _ w' (fun y hy => by rw [List.mem_singleton.1 hy]; exact hx.of hb) (dis1 x hd) (mkExists hc hrk w' bv v hv (box1c h1) x) (by simp [sumN]; omega) (by simp))
  have hsn : sumN [x] = x.2.2.1.length := by simp [sumN]
  rw [hsn] at HC
  obtain ⟨ad, cap, M, r⟩ := x
  dsimp only at HC HK hsum hx ⊢
  have f1 : decide ((v : Int) < 0) = false := decide_eq_false (by omega)
  have f2 : decide ((4096 : Int) ≤ (v : Int)) = false := decide_eq_false (by omega)
  clear hx hsn
  go_enter Tryz.func33, Tryz.ntmps33
  go_wp2_with fail
  refine (HK.out _ (by (repeat' (first | (with_reducible first | exact Below.refl _ _ | exact Nat.le_refl _ | refine Below.bel ?_ ?_ | refine Below.alloc ?_ ?_ _ | refine Below.drew ?_ | refine Below.drawsN ?_ _ | refine Below.setCell ?_ ?_ _ | refine le_bel ?_ | refine le_alloc ?_ | refine le_setCell ?_ | refine le_drew ?_ | refine le_drawsN ?_) | (dsimp only; with_reducible first | refine le_bel ?_ | refine Nat.le_refl _ | refine le_bel_add ?_) | (with_reducible assumption) | omega | (dsimp only; omega))))).mono ?_
  rintro _ _ ⟨rfl, y1, rfl⟩
  dsimp only
  go_wp2_with fail
  have hys := y1.size_le
  simp only [World.size_alloc] at hys
  refine ((HC.out _ _ _ (by (repeat' (first | (with_reducible first | exact Below.refl _ _ | exact Nat.le_refl _ | refine Below.bel ?_ ?_ | refine Below.alloc ?_ ?_ _ | refine Below.drew ?_ | refine Below.drawsN ?_ _ | refine Below.setCell ?_ ?_ _ | refine le_bel ?_ | refine le_alloc ?_ | refine le_setCell ?_ | refine le_drew ?_ | refine le_drawsN ?_) | (dsimp only; with_reducible first | refine le_bel ?_ | refine Nat.le_refl _ | refine le_bel_add ?_) | (with_reducible assumption) | omega | (dsimp only; omega)))) (obj_alloc _ (obj_in y1.below (obj_alloc _ (newAt1 _ _ _)))) (World.alloc_heap_new _ _))).mono ?_
  rintro _ W1 ⟨N, p, hg, hl, hv, hp, hS, ad', c', rfl, hi', hf', hb'⟩
  obtain ⟨d0, d1, d2, d3⟩ := cells2 (obj_in hb' ((obj_alloc _ (obj_in y1.below (newAt2 _ _ _ _)))))
  obtain ⟨CM, hCM⟩ : ∃ x, (canonD N p).1 = x := ⟨_, rfl⟩
  obtain ⟨cr, hcr⟩ : ∃ x, (canonD N p).2 = x := ⟨_, rfl⟩
  rw [hCM] at hi' ⊢
  rw [hcr] at ⊢
  have HH := Lib.hid (And.intro hi' (And.intro hf' hb'))
  have HG := Lib.hid (And.intro hg (And.intro hl (And.intro hv (And.intro hp (And.intro hS (And.intro hCM hcr))))))
  clear hi' hf' hb' hg hl hv hp hS hCM hcr
  dsimp only
  go_wp2
  refine bodyPost_ret (v := .tuple #[.agg #[.slice ad' CM.length c', .int .i64 (cr : Int)], .int .i64 0]) (by simp [results, Tryz.results33, go_sem, d0, d1]) rfl ⟨N, p, HG.out.1, HG.out.2.1, HG.out.2.2.1, HG.out.2.2.2.1, HG.out.2.2.2.2.1, ?_⟩
  rw [HG.out.2.2.2.2.2.1, HG.out.2.2.2.2.2.2]
  exact fin_dg (by (repeat' (first | (with_reducible first | exact Below.refl _ _ | exact Nat.le_refl _ | refine Below.bel ?_ ?_ | refine Below.alloc ?_ ?_ _ | refine Below.drew ?_ | refine Below.drawsN ?_ _ | refine Below.setCell ?_ ?_ _ | refine le_bel ?_ | refine le_alloc ?_ | refine le_setCell ?_ | refine le_drew ?_ | refine le_drawsN ?_) | (dsimp only; with_reducible first | refine le_bel ?_ | refine Nat.le_refl _ | refine le_bel_add ?_) | (with_reducible assumption) | omega | (dsimp only; omega)))) (by omega) (by simp; omega) HH.out.1 HH.out.2.1 HH.out.2.2 _ _
set_option maxRecDepth 100000 in
set_option maxHeartbeats 6400000 in
theorem Restrict_range (x : DN) (v : Int) (b : Bool) (hv : v < 0 ∨ 4096 ≤ v) (w : World) (hx : DNok rk w x) :
    Calls Tryz.prog 32 #[dnV x, .int .i64 v, .bool b] w (Ret (.tuple #[.agg #[.slice none 0 0, .int .i64 0], .int .i64 3]) w) := by
  have HK := Lib.hid (fun w' (hb : Below w.heap.size w w') => (show Calls Tryz.prog 37 #[.agg #[.slice x.1 x.2.2.1.length x.2.1, .int .i64 (x.2.2.2 : Int)]] w' (Ret (.int .i64 0) w') from by
    obtain ⟨o1, o2, o3, o4⟩ := hx.di.of hb
    have h := dCheck_any _ o2 o3 x.1 x.2.1 _ o4 w' o1
    rw [show chkD (toI x).2.2.1 (toI x).2.2.2 = 0 from hx.chk, show (toI x).2.2.1.length = x.2.2.1.length from List.length_map ..] at h
    exact h))
  obtain ⟨ad, cap, M, r⟩ := x
  dsimp only at HK hx ⊢
  clear hx
  by_cases h1 : v < 0
  · have f1 : decide (v < 0) = true := decide_eq_true h1
    clear hv
    go_enter Tryz.func32, Tryz.ntmps32
    go_wp2_with fail
    refine (HK.out _ (by (repeat' (first | (with_reducible first | exact Below.refl _ _ | exact Nat.le_refl _ | refine Below.bel ?_ ?_ | refine Below.alloc ?_ ?_ _ | refine Below.drew ?_ | refine Below.drawsN ?_ _ | refine Below.setCell ?_ ?_ _ | refine le_bel ?_ | refine le_alloc ?_ | refine le_setCell ?_ | refine le_drew ?_ | refine le_drawsN ?_) | (dsimp only; with_reducible first | refine le_bel ?_ | refine Nat.le_refl _ | refine le_bel_add ?_) | (with_reducible assumption) | omega | (dsimp only; omega))))).mono ?_
    rintro _ _ ⟨rfl, y1, rfl⟩
    obtain ⟨d0, d1, d2, d3⟩ := cells2 (obj_in y1.below ((newAt3 _ _ _ _ _)))
    dsimp only
    go_wp2
    refine bodyPost_ret (v := .tuple #[.agg #[.slice none 0 0, .int .i64 0], .int .i64 3]) (by simp [results, Tryz.results32, go_sem, d0, d1]) rfl (Ret.mk rfl (by (repeat' (first | (with_reducible first | exact Below.refl _ _ | exact Nat.le_refl _ | refine Below.bel ?_ ?_ | refine Below.alloc ?_ ?_ _ | refine Below.drew ?_ | refine Below.drawsN ?_ _ | refine Below.setCell ?_ ?_ _ | refine le_bel ?_ | refine le_alloc ?_ | refine le_setCell ?_ | refine le_drew ?_ | refine le_drawsN ?_) | (dsimp only; with_reducible first | refine le_bel ?_ | refine Nat.le_refl _ | refine le_bel_add ?_) | (with_reducible assumption) | omega | (dsimp only; omega)))))
  · have f1 : decide (v < 0) = false := decide_eq_false h1
    have f2 : decide (4096 ≤ v) = true := decide_eq_true (by omega)
    clear hv
    go_enter Tryz.func32, Tryz.ntmps32
    go_wp2_with fail
    refine (HK.out _ (by (repeat' (first | (with_reducible first | exact Below.refl _ _ | exact Nat.le_refl _ | refine Below.bel ?_ ?_ | refine Below.alloc ?_ ?_ _ | refine Below.drew ?_ | refine Below.drawsN ?_ _ | refine Below.setCell ?_ ?_ _ | refine le_bel ?_ | refine le_alloc ?_ | refine le_setCell ?_ | refine le_drew ?_ | refine le_drawsN ?_) | (dsimp only; with_reducible first | refine le_bel ?_ | refine Nat.le_refl _ | refine le_bel_add ?_) | (with_reducible assumption) | omega | (dsimp only; omega))))).mono ?_
    rintro _ _ ⟨rfl, y1, rfl⟩
    obtain ⟨d0, d1, d2, d3⟩ := cells2 (obj_in y1.below ((newAt3 _ _ _ _ _)))
    dsimp only
    go_wp2
    refine bodyPost_ret (v := .tuple #[.agg #[.slice none 0 0, .int .i64 0], .int .i64 3]) (by simp [results, Tryz.results32, go_sem, d0, d1]) rfl (Ret.mk rfl (by (repeat' (first | (with_reducible first | exact Below.refl _ _ | exact Nat.le_refl _ | refine Below.bel ?_ ?_ | refine Below.alloc ?_ ?_ _ | refine Below.drew ?_ | refine Below.drawsN ?_ _ | refine Below.setCell ?_ ?_ _ | refine le_bel ?_ | refine le_alloc ?_ | refine le_setCell ?_ | refine le_drew ?_ | refine le_drawsN ?_) | (dsimp only; with_reducible first | refine le_bel ?_ | refine Nat.le_refl _ | refine le_bel_add ?_) | (with_reducible assumption) | omega | (dsimp only; omega)))))
set_option maxRecDepth 100000 in
set_option maxHeartbeats 6400000 in
theorem Exists_range (x : DN) (v : Int) (hv : v < 0 ∨ 4096 ≤ v) (w : World) (hx : DNok rk w x) :
    Calls Tryz.prog 33 #[dnV x, .int .i64 v] w (Ret (.tuple #[.agg #[.slice none 0 0, .int .i64 0], .int .i64 3]) w) := by
  have HK := Lib.hid (fun w' (hb : Below w.heap.size w w') => (show Calls Tryz.prog 37 #[.agg #[.slice x.1 x.2.2.1.length x.2.1, .int .i64 (x.2.2.2 : Int)]] w' (Ret (.int .i64 0) w') from by
    obtain ⟨o1, o2, o3, o4⟩ := hx.di.of hb
    have h := dCheck_any _ o2 o3 x.1 x.2.1 _ o4 w' o1
    rw [show chkD (toI x).2.2.1 (toI x).2.2.2 = 0 from hx.chk, show (toI x).2.2.1.length = x.2.2.1.length from List.length_map ..] at h
    exact h))
  obtain ⟨ad, cap, M, r⟩ := x
  dsimp only at HK hx ⊢
  clear hx
  by_cases h1 : v < 0
  · have f1 : decide (v < 0) = true := decide_eq_true h1
    clear hv
    go_enter Tryz.func33, Tryz.ntmps33
    go_wp2_with fail
    refine (HK.out _ (by (repeat' (first | (with_reducible first | exact Below.refl _ _ | exact Nat.le_refl _ | refine Below.bel ?_ ?_ | refine Below.alloc ?_ ?_ _ | refine Below.drew ?_ | refine Below.drawsN ?_ _ | refine Below.setCell ?_ ?_ _ | refine le_bel ?_ | refine le_alloc ?_ | refine le_setCell ?_ | refine le_drew ?_ | refine le_drawsN ?_) | (dsimp only; with_reducible first | refine le_bel ?_ | refine Nat.le_refl _ | refine le_bel_add ?_) | (with_reducible assumption) | omega | (dsimp only; omega))))).mono ?_
    rintro _ _ ⟨rfl, y1, rfl⟩
    obtain ⟨d0, d1, d2, d3⟩ := cells2 (obj_in y1.below ((newAt2 _ _ _ _)))
    dsimp only
    go_wp2
    refine bodyPost_ret (v := .tuple #[.agg #[.slice none 0 0, .int .i64 0], .int .i64 3]) (by simp [results, Tryz.results33, go_sem, d0, d1]) rfl (Ret.mk rfl (by (repeat' (first | (with_reducible first | exact Below.refl _ _ | exact Nat.le_refl _ | refine Below.bel ?_ ?_ | refine Below.alloc ?_ ?_ _ | refine Below.drew ?_ | refine Below.drawsN ?_ _ | refine Below.setCell ?_ ?_ _ | refine le_bel ?_ | refine le_alloc ?_ | refine le_setCell ?_ | refine le_drew ?_ | refine le_drawsN ?_) | (dsimp only; with_reducible first | refine le_bel ?_ | refine Nat.le_refl _ | refine le_bel_add ?_) | (with_reducible assumption) | omega | (dsimp only; omega)))))
  · have f1 : decide (v < 0) = false := decide_eq_false h1
    have f2 : decide (4096 ≤ v) = true := decide_eq_true (by omega)
    clear hv
    go_enter Tryz.func33, Tryz.ntmps33
    go_wp2_with fail
    refine (HK.out _ (by (repeat' (first | (with_reducible first | exact Below.refl _ _ | exact Nat.le_refl _ | refine Below.bel ?_ ?_ | refine Below.alloc ?_ ?_ _ | refine Below.drew ?_ | refine Below.drawsN ?_ _ | refine Below.setCell ?_ ?_ _ | refine le_bel ?_ | refine le_alloc ?_ | refine le_setCell ?_ | refine le_drew ?_ | refine le_drawsN ?_) | (dsimp only; with_reducible first | refine le_bel ?_ | refine Nat.le_refl _ | refine le_bel_add ?_) | (with_reducible assumption) | omega | (dsimp only; omega))))).mono ?_
    rintro _ _ ⟨rfl, y1, rfl⟩
    obtain ⟨d0, d1, d2, d3⟩ := cells2 (obj_in y1.below ((newAt2 _ _ _ _)))
    dsimp only
    go_wp2
    refine bodyPost_ret (v := .tuple #[.agg #[.slice none 0 0, .int .i64 0], .int .i64 3]) (by simp [results, Tryz.results33, go_sem, d0, d1]) rfl (Ret.mk rfl (by (repeat' (first | (with_reducible first | exact Below.refl _ _ | exact Nat.le_refl _ | refine Below.bel ?_ ?_ | refine Below.alloc ?_ ?_ _ | refine Below.drew ?_ | refine Below.drawsN ?_ _ | refine Below.setCell ?_ ?_ _ | refine le_bel ?_ | refine le_alloc ?_ | refine le_setCell ?_ | refine le_drew ?_ | refine le_drawsN ?_) | (dsimp only; with_reducible first | refine le_bel ?_ | refine Nat.le_refl _ | refine le_bel_add ?_) | (with_reducible assumption) | omega | (dsimp only; omega)))))
set_option maxRecDepth 100000 in
set_option maxHeartbeats 6400000 in
theorem Restrict_bad (x : DI) (v : Int) (b : Bool) (w : World) (q : Nat) (hx : DIok w x) (hq : chkD x.2.2.1 x.2.2.2 = q) (h0 : q ≠ 0) :
    Calls Tryz.prog 32 #[diV x, .int .i64 v, .bool b] w (Ret (.tuple #[.agg #[.slice none 0 0, .int .i64 0], .int .i64 (q : Int)]) w) := by
  have HK := Lib.hid (fun w' (hb : Below w.heap.size w w') => (show Calls Tryz.prog 37 #[.agg #[.slice x.1 x.2.2.1.length x.2.1, .int .i64 x.2.2.2]] w' (Ret (.int .i64 (q : Int)) w') from by
    obtain ⟨o1, o2, o3, o4⟩ := hx.of hb
    have h := dCheck_any _ o2 o3 x.1 x.2.1 _ o4 w' o1
    rw [hq] at h
    exact h))
  have f0 : ((q : Int) != 0) = true := by simp; omega
  obtain ⟨ad, cap, M, r⟩ := x
  dsimp only at HK hx ⊢
  clear hx hq h0
  go_enter Tryz.func32, Tryz.ntmps32
  go_wp2_with fail
  refine (HK.out _ (by (repeat' (first | (with_reducible first | exact Below.refl _ _ | exact Nat.le_refl _ | refine Below.bel ?_ ?_ | refine Below.alloc ?_ ?_ _ | refine Below.drew ?_ | refine Below.drawsN ?_ _ | refine Below.setCell ?_ ?_ _ | refine le_bel ?_ | refine le_alloc ?_ | refine le_setCell ?_ | refine le_drew ?_ | refine le_drawsN ?_) | (dsimp only; with_reducible first | refine le_bel ?_ | refine Nat.le_refl _ | refine le_bel_add ?_) | (with_reducible assumption) | omega | (dsimp only; omega))))).mono ?_
  rintro _ _ ⟨rfl, y1, rfl⟩
  obtain ⟨d0, d1, d2, d3⟩ := cells2 (obj_in y1.below ((newAt3 _ _ _ _ _)))
  dsimp only
  go_wp2
  refine bodyPost_ret (v := .tuple #[.agg #[.slice none 0 0, .int .i64 0], .int .i64 (q : Int)]) (by simp [results, Tryz.results32, go_sem, d0, d1]) rfl (Ret.mk rfl (by (repeat' (first | (with_reducible first | exact Below.refl _ _ | exact Nat.le_refl _ | refine Below.bel ?_ ?_ | refine Below.alloc ?_ ?_ _ | refine Below.drew ?_ | refine Below.drawsN ?_ _ | refine Below.setCell ?_ ?_ _ | refine le_bel ?_ | refine le_alloc ?_ | refine le_setCell ?_ | refine le_drew ?_ | refine le_drawsN ?_) | (dsimp only; with_reducible first | refine le_bel ?_ | refine Nat.le_refl _ | refine le_bel_add ?_) | (with_reducible assumption) | omega | (dsimp only; omega)))))
set_option maxRecDepth 100000 in
set_option maxHeartbeats 6400000 in
theorem Exists_bad (x : DI) (v : Int) (w : World) (q : Nat) (hx : DIok w x) (hq : chkD x.2.2.1 x.2.2.2 = q) (h0 : q ≠ 0) :
    Calls Tryz.prog 33 #[diV x, .int .i64 v] w (Ret (.tuple #[.agg #[.slice none 0 0, .int .i64 0], .int .i64 (q : Int)]) w) := by
  have HK := Lib.hid (fun w' (hb : Below w.heap.size w w') => (show Calls Tryz.prog 37 #[.agg #[.slice x.1 x.2.2.1.length x.2.1, .int .i64 x.2.2.2]] w' (Ret (.int .i64 (q : Int)) w') from by
    obtain ⟨o1, o2, o3, o4⟩ := hx.of hb
    have h := dCheck_any _ o2 o3 x.1 x.2.1 _ o4 w' o1
    rw [hq] at h
    exact h))
  have f0 : ((q : Int) != 0) = true := by simp; omega
  obtain ⟨ad, cap, M, r⟩ := x
  dsimp only at HK hx ⊢
  clear hx hq h0
  go_enter Tryz.func33, Tryz.ntmps33
  go_wp2_with fail
  refine (HK.out _ (by (repeat' (first | (with_reducible first | exact Below.refl _ _ | exact Nat.le_refl _ | refine Below.bel ?_ ?_ | refine Below.alloc ?_ ?_ _ | refine Below.drew ?_ | refine Below.drawsN ?_ _ | refine Below.setCell ?_ ?_ _ | refine le_bel ?_ | refine le_alloc ?_ | refine le_setCell ?_ | refine le_drew ?_ | refine le_drawsN ?_) | (dsimp only; with_reducible first | refine le_bel ?_ | refine Nat.le_refl _ | refine le_bel_add ?_) | (with_reducible assumption) | omega | (dsimp only; omega))))).mono ?_
  rintro _ _ ⟨rfl, y1, rfl⟩
  obtain ⟨d0, d1, d2, d3⟩ := cells2 (obj_in y1.below ((newAt2 _ _ _ _)))
  dsimp only
  go_wp2
  refine bodyPost_ret (v := .tuple #[.agg #[.slice none 0 0, .int .i64 0], .int .i64 (q : Int)]) (by simp [results, Tryz.results33, go_sem, d0, d1]) rfl (Ret.mk rfl (by (repeat' (first | (with_reducible first | exact Below.refl _ _ | exact Nat.le_refl _ | refine Below.bel ?_ ?_ | refine Below.alloc ?_ ?_ _ | refine Below.drew ?_ | refine Below.drawsN ?_ _ | refine Below.setCell ?_ ?_ _ | refine le_bel ?_ | refine le_alloc ?_ | refine le_setCell ?_ | refine le_drew ?_ | refine le_drawsN ?_) | (dsimp only; with_reducible first | refine le_bel ?_ | refine Nat.le_refl _ | refine le_bel_add ?_) | (with_reducible assumption) | omega | (dsimp only; omega)))))
end Go.Proofs.YtkdmhjlcgpnjpaaGreatDoor
