/- The functions that combine places. -/
import Derived.Test.YtkdmhjlcgpnjpaaGreatDoorX14
import Derived.Test.YtkdmhjlcgpnjpaaGreatDoorX9
namespace Go.Proofs.YtkdmhjlcgpnjpaaGreatDoor
set_option linter.unusedVariables false
set_option linter.unusedSimpArgs false
open Go.RowKit Go.Maps
attribute [local go_sem low] Bel.cell Bel.frozen alloc_cell alloc_frozen
attribute [local go_sem] calmOp chainOp yieldsC grows
variable {rk : Nat → Nat}

theorem two_of {α : Type} {l : List α} (h : l.length = 2) : ∃ a b, l = [a, b] := by
  match l, h with
  | [a, b], _ => exact ⟨a, b, rfl⟩
theorem three_of {α : Type} {l : List α} (h : l.length = 3) : ∃ a b c, l = [a, b, c] := by
  match l, h with
  | [a, b, c], _ => exact ⟨a, b, c, rfl⟩
theorem chooseK {K c : Nat} (hc : c + 1 = 2 ^ K) (hrk : ∀ v, rk v ≤ K) {b0 B mp md base : Nat} {v : Value} {N : List (Nat × Nat × Nat)} {D : Nat} {w : World} (h : Bld rk w b0 B mp md base v N D) (p q r : Nat) (hp : p < N.length + 2) (hq : q < N.length + 2) (hr : r < N.length + 2) (hnl : N.length + c ≤ 1000000) (hdl : D + c ≤ 1000000) :
    Calls Tryz.prog 60 #[.pointer (some ⟨B, 0, none⟩), .int .i64 (p : Int), .int .i64 (q : Int), .int .i64 (r : Int)] w (RetB rk b0 B mp md base v N D w c c (ite3 N p q r)) :=
  choose_any b0 B mp md base K c hc v N D p q r w h hp hq hr (hrk _) (hrk _) (hrk _) hnl (by omega)
set_option maxRecDepth 100000 in
theorem mkNot {K c : Nat} (hc : c + 1 = 2 ^ K) (hrk : ∀ v, rk v ≤ K) (W0 : World) (x : DN) : MkC rk 59 #[] W0 [x] c (fun ρ => !val3 ρ x.2.2.1 x.2.2.2) := by
  intro w b0 B mp md base v pv N D ps hbW hb0 hbl how hps hsm hnl hdl
  obtain ⟨pa, pc, rfl, hcell⟩ := ownN_sl how
  have hdb : b0 ≤ w.heap.size := by have := hbl.dist; omega
  have HBL := Lib.hid hbl
  obtain ⟨p, rfl⟩ : ∃ p, ps = [p] := List.length_eq_one_iff.1 hps
  obtain ⟨g, hpa, _, _, hc0⟩ := hcell 0 p rfl
  subst hpa
  have hs0 := hsm 0 p x rfl rfl
  have HCH := Lib.hid (fun w' (hb : Below w.heap.size w w') => chooseK hc hrk (hbl.bel hb) p 0 1 hs0.1 (by omega) (by omega) hnl hdl)
  have HS0 := Lib.hid hs0
  clear hbl how hps hsm hcell hs0
  show Calls _ _ #[.pointer (some ⟨B, 0, none⟩), .slice (some ⟨g, 0, none⟩) 1 pc] _ _
  go_enter Tryz.func59, Tryz.ntmps59
  go_wp2_with fail
  refine (HCH.out _ (by (repeat' (first | (with_reducible exact Below.refl _ _) | (with_reducible exact Nat.le_refl _) | (with_reducible refine Below.bel ?_ ?_) | (with_reducible refine Below.alloc ?_ ?_ _) | (with_reducible refine Below.drew ?_) | (with_reducible refine Below.drawsN ?_ _) | (with_reducible refine Below.setCell ?_ ?_ _) | (with_reducible refine le_bel ?_) | (with_reducible refine le_alloc ?_) | (with_reducible refine le_setCell ?_) | (with_reducible refine le_drew ?_) | (with_reducible refine le_drawsN ?_) | (dsimp only; with_reducible refine le_bel ?_) | (dsimp only; with_reducible refine Nat.le_refl _) | (dsimp only; with_reducible refine le_bel_add ?_) | (with_reducible assumption) | omega | (dsimp only; omega))))).mono ?_
  rintro _ W1 hR
  obtain ⟨p1, v1, M1, rfl, hB1, hK1, hM1, hp1, hv1⟩ := RetB.ahead (w := w) (by (repeat' (first | (with_reducible exact Below.refl _ _) | (with_reducible exact Nat.le_refl _) | (with_reducible refine Below.bel ?_ ?_) | (with_reducible refine Below.alloc ?_ ?_ _) | (with_reducible refine Below.drew ?_) | (with_reducible refine Below.drawsN ?_ _) | (with_reducible refine Below.setCell ?_ ?_ _) | (with_reducible refine le_bel ?_) | (with_reducible refine le_alloc ?_) | (with_reducible refine le_setCell ?_) | (with_reducible refine le_drew ?_) | (with_reducible refine le_drawsN ?_) | (dsimp only; with_reducible refine le_bel ?_) | (dsimp only; with_reducible refine Nat.le_refl _) | (dsimp only; with_reducible refine le_bel_add ?_) | (with_reducible assumption) | omega | (dsimp only; omega)))) hdb hR
  have HB1 := Lib.hid hB1
  have HK1 := Lib.hid hK1.below
  have HV1 := Lib.hid (And.intro hM1 (And.intro hp1 hv1))
  clear hR hB1 hK1 hM1 hp1 hv1
  dsimp only
  go_wp2
  refine bodyPost_ret (v := .int .i64 (p1 : Int)) (by simp [results, Tryz.results59, go_sem]) rfl ⟨p1, v1, M1, _, rfl, HB1.out, HK1.out, HV1.out.1, HV1.out.2.1, fun ρ => ?_⟩
  rw [HV1.out.2.2 ρ]
  unfold ite3
  rw [HS0.out.2.2 ρ, val3_0, val3_1]
  dsimp only
  cases val3 ρ x.2.2.1 x.2.2.2 <;> rfl
set_option maxRecDepth 100000 in
theorem mkAnd {K c : Nat} (hc : c + 1 = 2 ^ K) (hrk : ∀ v, rk v ≤ K) (W0 : World) (x y : DN) : MkC rk 61 #[] W0 [x, y] c (fun ρ => (val3 ρ x.2.2.1 x.2.2.2 && val3 ρ y.2.2.1 y.2.2.2)) := by
  intro w b0 B mp md base v pv N D ps hbW hb0 hbl how hps hsm hnl hdl
  obtain ⟨pa, pc, rfl, hcell⟩ := ownN_sl how
  have hdb : b0 ≤ w.heap.size := by have := hbl.dist; omega
  have HBL := Lib.hid hbl
  obtain ⟨p, q, rfl⟩ : ∃ p q, ps = [p, q] := two_of hps
  obtain ⟨g, hpa, _, _, hc0⟩ := hcell 0 p rfl
  subst hpa
  obtain ⟨g', hpa, _, _, hc1⟩ := hcell 1 q rfl
  cases hpa
  have hs0 := hsm 0 p x rfl rfl
  have hs1 := hsm 1 q y rfl rfl
  have HCH := Lib.hid (fun w' (hb : Below w.heap.size w w') => chooseK hc hrk (hbl.bel hb) p q 0 hs0.1 hs1.1 (by omega) hnl hdl)
  have HS0 := Lib.hid (And.intro hs0 hs1)
  clear hbl how hps hsm hcell hs0 hs1
  show Calls _ _ #[.pointer (some ⟨B, 0, none⟩), .slice (some ⟨g, 0, none⟩) 2 pc] _ _
  go_enter Tryz.func61, Tryz.ntmps61
  go_wp2_with fail
  refine wp_region_belT 7 (by kernel_rfl) (by kernel_rfl) ?_
  simp only [List.take_succ_cons, List.take_zero, List.drop_succ_cons, List.drop_zero]
  repeat (go_big_quiet_step (fail))
  refine wpQuiet_nil ?_
  rintro _ ⟨z, rfl⟩
  go_wp2_with fail
  refine (HCH.out _ (by (repeat' (first | (with_reducible exact Below.refl _ _) | (with_reducible exact Nat.le_refl _) | (with_reducible refine Below.bel ?_ ?_) | (with_reducible refine Below.alloc ?_ ?_ _) | (with_reducible refine Below.drew ?_) | (with_reducible refine Below.drawsN ?_ _) | (with_reducible refine Below.setCell ?_ ?_ _) | (with_reducible refine le_bel ?_) | (with_reducible refine le_alloc ?_) | (with_reducible refine le_setCell ?_) | (with_reducible refine le_drew ?_) | (with_reducible refine le_drawsN ?_) | (dsimp only; with_reducible refine le_bel ?_) | (dsimp only; with_reducible refine Nat.le_refl _) | (dsimp only; with_reducible refine le_bel_add ?_) | (with_reducible assumption) | omega | (dsimp only; omega))))).mono ?_
  rintro _ W1 hR
  obtain ⟨p1, v1, M1, rfl, hB1, hK1, hM1, hp1, hv1⟩ := RetB.ahead (w := w) (by (repeat' (first | (with_reducible exact Below.refl _ _) | (with_reducible exact Nat.le_refl _) | (with_reducible refine Below.bel ?_ ?_) | (with_reducible refine Below.alloc ?_ ?_ _) | (with_reducible refine Below.drew ?_) | (with_reducible refine Below.drawsN ?_ _) | (with_reducible refine Below.setCell ?_ ?_ _) | (with_reducible refine le_bel ?_) | (with_reducible refine le_alloc ?_) | (with_reducible refine le_setCell ?_) | (with_reducible refine le_drew ?_) | (with_reducible refine le_drawsN ?_) | (dsimp only; with_reducible refine le_bel ?_) | (dsimp only; with_reducible refine Nat.le_refl _) | (dsimp only; with_reducible refine le_bel_add ?_) | (with_reducible assumption) | omega | (dsimp only; omega)))) hdb hR
  have HB1 := Lib.hid hB1
  have HK1 := Lib.hid hK1.below
  have HV1 := Lib.hid (And.intro hM1 (And.intro hp1 hv1))
  clear hR hB1 hK1 hM1 hp1 hv1
  dsimp only
  go_wp2
  refine bodyPost_ret (v := .int .i64 (p1 : Int)) (by simp [results, Tryz.results61, go_sem]) rfl ⟨p1, v1, M1, _, rfl, HB1.out, HK1.out, HV1.out.1, HV1.out.2.1, fun ρ => ?_⟩
  rw [HV1.out.2.2 ρ]
  unfold ite3
  rw [HS0.out.1.2.2 ρ, HS0.out.2.2.2 ρ]
  try rw [val3_0]
  try rw [val3_1]
  dsimp only
  cases val3 ρ x.2.2.1 x.2.2.2 <;> cases val3 ρ y.2.2.1 y.2.2.2 <;> rfl
set_option maxRecDepth 100000 in
theorem mkOr {K c : Nat} (hc : c + 1 = 2 ^ K) (hrk : ∀ v, rk v ≤ K) (W0 : World) (x y : DN) : MkC rk 62 #[] W0 [x, y] c (fun ρ => (val3 ρ x.2.2.1 x.2.2.2 || val3 ρ y.2.2.1 y.2.2.2)) := by
  intro w b0 B mp md base v pv N D ps hbW hb0 hbl how hps hsm hnl hdl
  obtain ⟨pa, pc, rfl, hcell⟩ := ownN_sl how
  have hdb : b0 ≤ w.heap.size := by have := hbl.dist; omega
  have HBL := Lib.hid hbl
  obtain ⟨p, q, rfl⟩ : ∃ p q, ps = [p, q] := two_of hps
  obtain ⟨g, hpa, _, _, hc0⟩ := hcell 0 p rfl
  subst hpa
  obtain ⟨g', hpa, _, _, hc1⟩ := hcell 1 q rfl
  cases hpa
  have hs0 := hsm 0 p x rfl rfl
  have hs1 := hsm 1 q y rfl rfl
  have HCH := Lib.hid (fun w' (hb : Below w.heap.size w w') => chooseK hc hrk (hbl.bel hb) p 1 q hs0.1 (by omega) hs1.1 hnl hdl)
  have HS0 := Lib.hid (And.intro hs0 hs1)
  clear hbl how hps hsm hcell hs0 hs1
  show Calls _ _ #[.pointer (some ⟨B, 0, none⟩), .slice (some ⟨g, 0, none⟩) 2 pc] _ _
  go_enter Tryz.func62, Tryz.ntmps62
  go_wp2_with fail
  refine wp_region_belT 7 (by kernel_rfl) (by kernel_rfl) ?_
  simp only [List.take_succ_cons, List.take_zero, List.drop_succ_cons, List.drop_zero]
  repeat (go_big_quiet_step (fail))
  refine wpQuiet_nil ?_
  rintro _ ⟨z, rfl⟩
  go_wp2_with fail
  refine (HCH.out _ (by (repeat' (first | (with_reducible exact Below.refl _ _) | (with_reducible exact Nat.le_refl _) | (with_reducible refine Below.bel ?_ ?_) | (with_reducible refine Below.alloc ?_ ?_ _) | (with_reducible refine Below.drew ?_) | (with_reducible refine Below.drawsN ?_ _) | (with_reducible refine Below.setCell ?_ ?_ _) | (with_reducible refine le_bel ?_) | (with_reducible refine le_alloc ?_) | (with_reducible refine le_setCell ?_) | (with_reducible refine le_drew ?_) | (with_reducible refine le_drawsN ?_) | (dsimp only; with_reducible refine le_bel ?_) | (dsimp only; with_reducible refine Nat.le_refl _) | (dsimp only; with_reducible refine le_bel_add ?_) | (with_reducible assumption) | omega | (dsimp only; omega))))).mono ?_
  rintro _ W1 hR
  obtain ⟨p1, v1, M1, rfl, hB1, hK1, hM1, hp1, hv1⟩ := RetB.ahead (w := w) (by (repeat' (first | (with_reducible exact Below.refl _ _) | (with_reducible exact Nat.le_refl _) | (with_reducible refine Below.bel ?_ ?_) | (with_reducible refine Below.alloc ?_ ?_ _) | (with_reducible refine Below.drew ?_) | (with_reducible refine Below.drawsN ?_ _) | (with_reducible refine Below.setCell ?_ ?_ _) | (with_reducible refine le_bel ?_) | (with_reducible refine le_alloc ?_) | (with_reducible refine le_setCell ?_) | (with_reducible refine le_drew ?_) | (with_reducible refine le_drawsN ?_) | (dsimp only; with_reducible refine le_bel ?_) | (dsimp only; with_reducible refine Nat.le_refl _) | (dsimp only; with_reducible refine le_bel_add ?_) | (with_reducible assumption) | omega | (dsimp only; omega)))) hdb hR
  have HB1 := Lib.hid hB1
  have HK1 := Lib.hid hK1.below
  have HV1 := Lib.hid (And.intro hM1 (And.intro hp1 hv1))
  clear hR hB1 hK1 hM1 hp1 hv1
  dsimp only
  go_wp2
  refine bodyPost_ret (v := .int .i64 (p1 : Int)) (by simp [results, Tryz.results62, go_sem]) rfl ⟨p1, v1, M1, _, rfl, HB1.out, HK1.out, HV1.out.1, HV1.out.2.1, fun ρ => ?_⟩
  rw [HV1.out.2.2 ρ]
  unfold ite3
  rw [HS0.out.1.2.2 ρ, HS0.out.2.2.2 ρ]
  try rw [val3_0]
  try rw [val3_1]
  dsimp only
  cases val3 ρ x.2.2.1 x.2.2.2 <;> cases val3 ρ y.2.2.1 y.2.2.2 <;> rfl
set_option maxRecDepth 100000 in
theorem mkImplies {K c : Nat} (hc : c + 1 = 2 ^ K) (hrk : ∀ v, rk v ≤ K) (W0 : World) (x y : DN) : MkC rk 81 #[] W0 [x, y] c (fun ρ => (!val3 ρ x.2.2.1 x.2.2.2 || val3 ρ y.2.2.1 y.2.2.2)) := by
  intro w b0 B mp md base v pv N D ps hbW hb0 hbl how hps hsm hnl hdl
  obtain ⟨pa, pc, rfl, hcell⟩ := ownN_sl how
  have hdb : b0 ≤ w.heap.size := by have := hbl.dist; omega
  have HBL := Lib.hid hbl
  obtain ⟨p, q, rfl⟩ : ∃ p q, ps = [p, q] := two_of hps
  obtain ⟨g, hpa, _, _, hc0⟩ := hcell 0 p rfl
  subst hpa
  obtain ⟨g', hpa, _, _, hc1⟩ := hcell 1 q rfl
  cases hpa
  have hs0 := hsm 0 p x rfl rfl
  have hs1 := hsm 1 q y rfl rfl
  have HCH := Lib.hid (fun w' (hb : Below w.heap.size w w') => chooseK hc hrk (hbl.bel hb) p q 1 hs0.1 hs1.1 (by omega) hnl hdl)
  have HS0 := Lib.hid (And.intro hs0 hs1)
  clear hbl how hps hsm hcell hs0 hs1
  show Calls _ _ #[.pointer (some ⟨B, 0, none⟩), .slice (some ⟨g, 0, none⟩) 2 pc] _ _
  go_enter Tryz.func81, Tryz.ntmps81
  go_wp2_with fail
  refine wp_region_belT 7 (by kernel_rfl) (by kernel_rfl) ?_
  simp only [List.take_succ_cons, List.take_zero, List.drop_succ_cons, List.drop_zero]
  repeat (go_big_quiet_step (fail))
  refine wpQuiet_nil ?_
  rintro _ ⟨z, rfl⟩
  go_wp2_with fail
  refine (HCH.out _ (by (repeat' (first | (with_reducible exact Below.refl _ _) | (with_reducible exact Nat.le_refl _) | (with_reducible refine Below.bel ?_ ?_) | (with_reducible refine Below.alloc ?_ ?_ _) | (with_reducible refine Below.drew ?_) | (with_reducible refine Below.drawsN ?_ _) | (with_reducible refine Below.setCell ?_ ?_ _) | (with_reducible refine le_bel ?_) | (with_reducible refine le_alloc ?_) | (with_reducible refine le_setCell ?_) | (with_reducible refine le_drew ?_) | (with_reducible refine le_drawsN ?_) | (dsimp only; with_reducible refine le_bel ?_) | (dsimp only; with_reducible refine Nat.le_refl _) | (dsimp only; with_reducible refine le_bel_add ?_) | (with_reducible assumption) | omega | (dsimp only; omega))))).mono ?_
  rintro _ W1 hR
  obtain ⟨p1, v1, M1, rfl, hB1, hK1, hM1, hp1, hv1⟩ := RetB.ahead (w := w) (by (repeat' (first | (with_reducible exact Below.refl _ _) | (with_reducible exact Nat.le_refl _) | (with_reducible refine Below.bel ?_ ?_) | (with_reducible refine Below.alloc ?_ ?_ _) | (with_reducible refine Below.drew ?_) | (with_reducible refine Below.drawsN ?_ _) | (with_reducible refine Below.setCell ?_ ?_ _) | (with_reducible refine le_bel ?_) | (with_reducible refine le_alloc ?_) | (with_reducible refine le_setCell ?_) | (with_reducible refine le_drew ?_) | (with_reducible refine le_drawsN ?_) | (dsimp only; with_reducible refine le_bel ?_) | (dsimp only; with_reducible refine Nat.le_refl _) | (dsimp only; with_reducible refine le_bel_add ?_) | (with_reducible assumption) | omega | (dsimp only; omega)))) hdb hR
  have HB1 := Lib.hid hB1
  have HK1 := Lib.hid hK1.below
  have HV1 := Lib.hid (And.intro hM1 (And.intro hp1 hv1))
  clear hR hB1 hK1 hM1 hp1 hv1
  dsimp only
  go_wp2
  refine bodyPost_ret (v := .int .i64 (p1 : Int)) (by simp [results, Tryz.results81, go_sem]) rfl ⟨p1, v1, M1, _, rfl, HB1.out, HK1.out, HV1.out.1, HV1.out.2.1, fun ρ => ?_⟩
  rw [HV1.out.2.2 ρ]
  unfold ite3
  rw [HS0.out.1.2.2 ρ, HS0.out.2.2.2 ρ]
  try rw [val3_0]
  try rw [val3_1]
  dsimp only
  cases val3 ρ x.2.2.1 x.2.2.2 <;> cases val3 ρ y.2.2.1 y.2.2.2 <;> rfl
set_option maxRecDepth 100000 in
theorem mkChoose {K c : Nat} (hc : c + 1 = 2 ^ K) (hrk : ∀ v, rk v ≤ K) (W0 : World) (x y u : DN) : MkC rk 63 #[] W0 [x, y, u] c (fun ρ => if val3 ρ x.2.2.1 x.2.2.2 then val3 ρ y.2.2.1 y.2.2.2 else val3 ρ u.2.2.1 u.2.2.2) := by
  intro w b0 B mp md base v pv N D ps hbW hb0 hbl how hps hsm hnl hdl
  obtain ⟨pa, pc, rfl, hcell⟩ := ownN_sl how
  have hdb : b0 ≤ w.heap.size := by have := hbl.dist; omega
  have HBL := Lib.hid hbl
  obtain ⟨p, q, r, rfl⟩ : ∃ p q r, ps = [p, q, r] := three_of hps
  obtain ⟨g, hpa, _, _, hc0⟩ := hcell 0 p rfl
  subst hpa
  obtain ⟨g', hpa, _, _, hc1⟩ := hcell 1 q rfl
  cases hpa
  obtain ⟨g', hpa, _, _, hc2⟩ := hcell 2 r rfl
  cases hpa
  have hs0 := hsm 0 p x rfl rfl
  have hs1 := hsm 1 q y rfl rfl
  have hs2 := hsm 2 r u rfl rfl
  have HCH := Lib.hid (fun w' (hb : Below w.heap.size w w') => chooseK hc hrk (hbl.bel hb) p q r hs0.1 hs1.1 hs2.1 hnl hdl)
  have HS0 := Lib.hid (And.intro hs0 (And.intro hs1 hs2))
  clear hbl how hps hsm hcell hs0 hs1 hs2
  show Calls _ _ #[.pointer (some ⟨B, 0, none⟩), .slice (some ⟨g, 0, none⟩) 3 pc] _ _
  go_enter Tryz.func63, Tryz.ntmps63
  go_wp2_with fail
  refine wp_region_belT 10 (by kernel_rfl) (by kernel_rfl) ?_
  simp only [List.take_succ_cons, List.take_zero, List.drop_succ_cons, List.drop_zero]
  repeat (go_big_quiet_step (fail))
  refine wpQuiet_nil ?_
  rintro _ ⟨z, rfl⟩
  go_wp2_with fail
  refine (HCH.out _ (by (repeat' (first | (with_reducible exact Below.refl _ _) | (with_reducible exact Nat.le_refl _) | (with_reducible refine Below.bel ?_ ?_) | (with_reducible refine Below.alloc ?_ ?_ _) | (with_reducible refine Below.drew ?_) | (with_reducible refine Below.drawsN ?_ _) | (with_reducible refine Below.setCell ?_ ?_ _) | (with_reducible refine le_bel ?_) | (with_reducible refine le_alloc ?_) | (with_reducible refine le_setCell ?_) | (with_reducible refine le_drew ?_) | (with_reducible refine le_drawsN ?_) | (dsimp only; with_reducible refine le_bel ?_) | (dsimp only; with_reducible refine Nat.le_refl _) | (dsimp only; with_reducible refine le_bel_add ?_) | (with_reducible assumption) | omega | (dsimp only; omega))))).mono ?_
  rintro _ W1 hR
  obtain ⟨p1, v1, M1, rfl, hB1, hK1, hM1, hp1, hv1⟩ := RetB.ahead (w := w) (by (repeat' (first | (with_reducible exact Below.refl _ _) | (with_reducible exact Nat.le_refl _) | (with_reducible refine Below.bel ?_ ?_) | (with_reducible refine Below.alloc ?_ ?_ _) | (with_reducible refine Below.drew ?_) | (with_reducible refine Below.drawsN ?_ _) | (with_reducible refine Below.setCell ?_ ?_ _) | (with_reducible refine le_bel ?_) | (with_reducible refine le_alloc ?_) | (with_reducible refine le_setCell ?_) | (with_reducible refine le_drew ?_) | (with_reducible refine le_drawsN ?_) | (dsimp only; with_reducible refine le_bel ?_) | (dsimp only; with_reducible refine Nat.le_refl _) | (dsimp only; with_reducible refine le_bel_add ?_) | (with_reducible assumption) | omega | (dsimp only; omega)))) hdb hR
  have HB1 := Lib.hid hB1
  have HK1 := Lib.hid hK1.below
  have HV1 := Lib.hid (And.intro hM1 (And.intro hp1 hv1))
  clear hR hB1 hK1 hM1 hp1 hv1
  dsimp only
  go_wp2
  refine bodyPost_ret (v := .int .i64 (p1 : Int)) (by simp [results, Tryz.results63, go_sem]) rfl ⟨p1, v1, M1, _, rfl, HB1.out, HK1.out, HV1.out.1, HV1.out.2.1, fun ρ => ?_⟩
  rw [HV1.out.2.2 ρ]
  unfold ite3
  rw [HS0.out.1.2.2 ρ, HS0.out.2.1.2.2 ρ, HS0.out.2.2.2.2 ρ]
/-- A new map of places. -/
theorem doneR_new (w : World) (N : List (Nat × Nat × Nat)) (x : Nat) (b : Bool) : DoneR (w.alloc (.map #[] 0)) w.heap.size N x b 0 := ⟨0, fun _ => none, funM_made w _ _ _, Nat.le_refl _, fun p z hz => (by cases hz)⟩
set_option maxRecDepth 100000 in
set_option maxHeartbeats 6400000 in
theorem mkRestrict {K c : Nat} (hc : c + 1 = 2 ^ K) (hrk : ∀ v, rk v ≤ K) (W0 : World) (bv bb x : Nat) (b : Bool) (hx : x < 4096) (hv : W0.cell? ⟨bv, 0, none⟩ = some (.int .i64 (x : Int))) (hb : W0.cell? ⟨bb, 0, none⟩ = some (.bool b)) (y : DN) : MkC rk 64 #[.pointer (some ⟨bv, 0, none⟩), .pointer (some ⟨bb, 0, none⟩)] W0 [y] c (fun ρ => put3 y.2.2.1 y.2.2.2 x b ρ) := by
  intro w b0 B mp md base v pv N D ps hbW hb0 hbl how hps hsm hnl hdl
  obtain ⟨pa, pc, rfl, hcell⟩ := ownN_sl how
  have hdb : b0 ≤ w.heap.size := by have := hbl.dist; omega
  have HBL := Lib.hid hbl
  obtain ⟨p, rfl⟩ : ∃ p, ps = [p] := List.length_eq_one_iff.1 hps
  obtain ⟨g, hpa, _, _, hc0⟩ := hcell 0 p rfl
  subst hpa
  have hs0 := hsm 0 p y rfl rfl
  have v0 := cell_in hbW hv
  have v1 := cell_in hbW hb
  have HS0 := Lib.hid hs0
  have HR := Lib.hid (fun w' dm (h' : Below w.heap.size w w') (hd : DoneR w' dm N x b 0) (hdm : w.heap.size ≤ dm) => restrict_any b0 B mp md base dm x b hx (by have := hbl.dist; omega) K c hc v N D 0 p w' (hbl.bel h') hd (fun e => by have := ownD_lt hbl.own e; omega) hs0.1 (hrk _) hnl (by omega))
  clear hbl how hps hsm hcell hs0 hv hb hbW
  have hmm := @run_makeMap Tryz.prog
  show Calls _ _ #[.pointer (some ⟨B, 0, none⟩), .slice (some ⟨g, 0, none⟩) 1 pc, .pointer (some ⟨bv, 0, none⟩), .pointer (some ⟨bb, 0, none⟩)] _ _
  go_enter Tryz.func64, Tryz.ntmps64
  go_wp2_with fail
  refine wp_region_plan 7 (.calm 0 (.calm 1 (.calm 2 (.calm 3 (.calm 4 (.calm 5 (.fork 6 .tail .none))))))) (by kernel_rfl) (by kernel_rfl) ?_
  simp only [Plan.walk, operAt, List.getElem?_cons_succ, List.getElem?_cons_zero, Option.getD_some, List.drop_succ_cons, List.drop_zero]
  repeat (refine wpX_calm (fun K hK => ?_); go_simp; first | (refine hK _ _ ?_; clear hK K) | (apply Exists.intro; refine ⟨fun _ => ?_, hK _ _ ?_⟩; (fail); clear hK K))
  refine wpX_only (fun K hK => ?_)
  go_simp
  intro x1
  refine ⟨(Below.refl _ _).alloc (Nat.le_refl _) _, hK _ _ ?_⟩
  clear hK K
  refine wpX_tail ?_
  intro z9
  go_wp2_with fail
  have hb1 : Below w.heap.size w x1.w := x1.below
  have hs1 := hb1.size
  have hb9 : Below w.heap.size w z9.w := by (repeat' (first | (with_reducible exact Below.refl _ _) | (with_reducible exact Nat.le_refl _) | (with_reducible refine Below.bel ?_ ?_) | (with_reducible refine Below.alloc ?_ ?_ _) | (with_reducible refine Below.drew ?_) | (with_reducible refine Below.drawsN ?_ _) | (with_reducible refine Below.setCell ?_ ?_ _) | (with_reducible refine le_bel ?_) | (with_reducible refine le_alloc ?_) | (with_reducible refine le_setCell ?_) | (with_reducible refine le_drew ?_) | (with_reducible refine le_drawsN ?_) | (dsimp only; with_reducible refine le_bel ?_) | (dsimp only; with_reducible refine Nat.le_refl _) | (dsimp only; with_reducible refine le_bel_add ?_) | (with_reducible assumption) | omega | (dsimp only; omega)))
  refine (HR.out _ x1.w.heap.size hb9 ((doneR_new x1.w N x b).lay z9.below) hs1).mono ?_
  rintro _ W1 ⟨p1, v1, M1, rfl, hB1, -, hK1, hM1, hp1, hv1⟩
  have HB1 := Lib.hid hB1
  have HK1 := Lib.hid ((hb9.mono hdb).trans hK1.below)
  have HV1 := Lib.hid (And.intro hM1 (And.intro hp1 hv1))
  clear hB1 hK1 hM1 hp1 hv1
  dsimp only
  go_wp2
  refine bodyPost_ret (v := .int .i64 (p1 : Int)) (by simp [results, Tryz.results64, go_sem]) rfl ⟨p1, v1, M1, _, rfl, HB1.out, HK1.out, HV1.out.1, HV1.out.2.1, fun ρ => ?_⟩
  rw [HV1.out.2.2 ρ]
  exact HS0.out.2.2 _
end Go.Proofs.YtkdmhjlcgpnjpaaGreatDoor
