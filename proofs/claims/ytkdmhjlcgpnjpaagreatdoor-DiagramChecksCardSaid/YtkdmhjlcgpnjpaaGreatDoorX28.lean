/- The worked examples. none; nodes that are the same. -/
import Derived.Test.YtkdmhjlcgpnjpaaGreatDoorJ1
import Derived.Test.YtkdmhjlcgpnjpaaGreatDoorX19
import Derived.Test.YtkdmhjlcgpnjpaaGreatDoorX27
import Derived.Test.YtkdmhjlcgpnjpaaGreatDoorXG
namespace Go.Proofs.YtkdmhjlcgpnjpaaGreatDoor
set_option linter.unusedVariables false
set_option linter.unusedSimpArgs false
open Go.RowKit Go.Maps F
attribute [local go_sem low] Bel.cell Bel.frozen alloc_cell alloc_frozen
attribute [local go_sem] calmOp chainOp yieldsC grows

def kF1 : F := nd 3 0 [nd 1 0 [], nd 1 1 []]
def kF2 : F := nd 4 0 [nd 3 0 [nd 1 0 [], nd 1 1 []], nd 3 0 [nd 2 0 [nd 1 0 []], nd 1 2 []]]
theorem kF1_ok : okT kF1 := (okT_iff _).2 (by decide +kernel)
theorem kF2_ok : okT kF2 := (okT_iff _).2 (by decide +kernel)
theorem kF1_v6 : V6 kF1 := by unfold V6; decide +kernel
theorem kF2_v6 : V6 kF2 := by unfold V6; decide +kernel
def kT1 : Nat := 9838263505978427528
def kT2 : Nat := 15625477333024561368
def kM1 : List (Nat × Nat × Nat) := [(1, 0, 1), (0, 0, 2)]
theorem kT1_vt (ρ : Nat → Bool) : vt kF1 ρ = kT1.testBit (idx6 ρ) := by
  have e : vt kF1 ρ = (ρ 0 && ρ 1) := by unfold vt; simp [kF1, nd, val, valA, valO]
  rw [e]
  unfold idx6
  generalize ρ 0 = a0
  generalize ρ 1 = a1
  generalize ρ 2 = a2
  generalize ρ 3 = a3
  generalize ρ 4 = a4
  generalize ρ 5 = a5
  revert a0 a1 a2 a3 a4 a5
  decide +kernel
theorem kT2_vt (ρ : Nat → Bool) : vt kF2 ρ = kT2.testBit (idx6 ρ) := by
  have e : vt kF2 ρ = ((ρ 0 && ρ 1) || (!ρ 0 && ρ 2)) := by unfold vt; simp [kF2, nd, val, valA, valO, valH]
  rw [e]
  unfold idx6
  generalize ρ 0 = a0
  generalize ρ 1 = a1
  generalize ρ 2 = a2
  generalize ρ 3 = a3
  generalize ρ 4 = a4
  generalize ρ 5 = a5
  revert a0 a1 a2 a3 a4 a5
  decide +kernel
theorem kM1_bld : bldN kT1 = kM1 ∧ bldR kT1 = 3 := by decide +kernel
theorem kM2_bld : (bldN kT2).length = 3 ∧ bldR kT2 = 4 := by decide +kernel
theorem kM1_ok {w : World} {ad : Option Addr} {cap : Nat} (hi : InD w.heap.size w ad (kM1.map z3)) : DNok rk6 w (ad, cap, kM1, 3) := by
  have h := dnok_bld (t := kT1) rk6 (fun a ha => varOk6 ha) (by decide) (w := w) (ad := ad) (cap := cap) (by rw [kM1_bld.1]; exact hi)
  rw [kM1_bld.1, kM1_bld.2] at h
  exact h
theorem kChk : chkD [(0, 0, 0)] 0 = 7 := by decide +kernel
theorem heap_next (w : World) (o1 o2 : Obj) : ((w.alloc o1).alloc o2).heap[w.heap.size + 1]? = some o2 := by
  have := World.alloc_heap_new (w.alloc o1) o2
  rwa [World.size_alloc] at this
theorem ownB_two {w : World} {base g cap : Nat} {a b : Bool} (h : OwnB w base g cap [a, b]) : w.cell? ⟨g, 0, none⟩ = some (.bool a) ∧ w.cell? ⟨g, 1, none⟩ = some (.bool b) := by
  obtain ⟨hxl, ⟨e1, e2⟩ | ⟨g', cap', cur, e1, hg, hh, hn, hc, hcs, hcur⟩⟩ := h
  · cases e1
  · injection e1 with e1 _ _
    injection e1 with e1
    injection e1 with e1 _ _
    subst e1
    have h0 : (boolsD [a, b])[0]? = some (.bool a) := rfl
    have h1 : (boolsD [a, b])[1]? = some (.bool b) := rfl
    rw [← hcur, List.getElem?_take_of_lt (by simp)] at h0 h1
    refine ⟨?_, ?_⟩
    · simp [World.cell?, hh]
      simpa using h0
    · simp [World.cell?, hh]
      simpa using h1
theorem kD_one {W : World} {g : Nat} {a b c : Int} (h : W.heap[g]? = some (.cells #[.int .i64 a, .int .i64 b, .int .i64 c] 55 (0, 0))) : InD W.heap.size W (some ⟨g, 0, none⟩) [(a, b, c)] := fun _ => by
  refine ⟨g, 0, rfl, (Array.getElem?_eq_some_iff.1 h).1, fun j x hj => ?_⟩
  match j, hj with
  | 0, hj => simp at hj; subst hj; refine ⟨?_, ?_, ?_⟩ <;> simp [World.cell?, h]
  | j + 1, hj => simp at hj
theorem kD_two {W : World} {g : Nat} {a b c d e f : Int} (h : W.heap[g]? = some (.cells #[.int .i64 a, .int .i64 b, .int .i64 c, .int .i64 d, .int .i64 e, .int .i64 f] 55 (0, 0))) : InD W.heap.size W (some ⟨g, 0, none⟩) [(a, b, c), (d, e, f)] := fun _ => by
  refine ⟨g, 0, rfl, (Array.getElem?_eq_some_iff.1 h).1, fun j x hj => ?_⟩
  match j, hj with
  | 0, hj => simp at hj; subst hj; refine ⟨?_, ?_, ?_⟩ <;> simp [World.cell?, h]
  | 1, hj => simp at hj; subst hj; refine ⟨?_, ?_, ?_⟩ <;> simp [World.cell?, h]
  | j + 2, hj => simp at hj
theorem kInI : InI [(0, 0, 0)] := fun x hx => by
  rw [List.mem_singleton] at hx
  subst hx
  exact ⟨⟨by decide, by decide⟩, ⟨by decide, by decide⟩, ⟨by decide, by decide⟩⟩
set_option maxRecDepth 100000 in
set_option maxHeartbeats 12800000 in
theorem known_any (w : World) (hT : Tab w) : Calls Tryz.prog 13 #[] w (Ret (.bool true) w) := by
  have HT := Lib.hid (show I.Tab w from hT)
  have HP1 := Lib.hid (fun w' => Parse_ok kF1 w' kF1_ok (by decide +kernel) (by decide +kernel) (by decide +kernel))
  have HP2 := Lib.hid (fun w' => Parse_ok kF2 w' kF2_ok (by decide +kernel) (by decide +kernel) (by decide +kernel))
  rw [show txt kF1 = [38, 40, 120, 48, 32, 120, 49, 41] from by decide +kernel] at HP1
  rw [show txt kF2 = [124, 40, 38, 40, 120, 48, 32, 120, 49, 41, 32, 38, 40, 33, 120, 48, 32, 120, 50, 41, 41] from by decide +kernel] at HP2
  have HO1 := Lib.hid (fun P ad cap w' hi => show Calls Tryz.prog 15 _ _ (RetDg kM1 3 w') from by
    have h := (Of_ok P kF1 ad cap w' hi kF1_ok kF1_v6 (by decide +kernel) (by decide +kernel)).mono fun _ _ h => retC_table (t := kT1) h (by decide) kT1_vt
    rw [kM1_bld.1, kM1_bld.2] at h
    exact h)
  obtain ⟨M2, hM2⟩ : ∃ M2, bldN kT2 = M2 := ⟨_, rfl⟩
  have hM2l := kM2_bld.1
  rw [hM2] at hM2l
  have HO2 := Lib.hid (fun P ad cap w' hi => show Calls Tryz.prog 15 _ _ (RetDg M2 4 w') from by
    have h := (Of_ok P kF2 ad cap w' hi kF2_ok kF2_v6 (by decide +kernel) (by decide +kernel)).mono fun _ _ h => retC_table (t := kT2) h (by decide) kT2_vt
    rw [hM2, kM2_bld.2] at h
    exact h)
  have HCN := Lib.hid (fun ad cap w' (hi : InD w'.heap.size w' ad (kM1.map z3)) (hT : I.Tab w') => show Calls Tryz.prog 20 #[.agg #[.slice ad 2 cap, .int .i64 3], .int .i64 2] w' (Ret (.tuple #[.string ⟨#[49]⟩, .int .i64 0]) w') from by
    have h := Count_ok (ad, cap, kM1, 3) 2 w' (kM1_ok hi) (by decide) (show enoughD (kM1.map z3) ((2 : Nat) : Int) = true from by decide +kernel) hT
    rw [show cntD (ad, cap, kM1, 3).2.2.1 (ad, cap, kM1, 3).2.2.2 2 = 1 from (by decide +kernel : cntD kM1 3 2 = 1)] at h
    rw [show (⟨(I.iT ((1 : Nat) : Int)).toArray⟩ : ByteArray) = ⟨#[49]⟩ from iT_1] at h
    exact h)
  have HWI := Lib.hid (fun ad cap w' (hi : InD w'.heap.size w' ad (kM1.map z3)) => show Calls Tryz.prog 24 #[.agg #[.slice ad 2 cap, .int .i64 3], .int .i64 2] w' (RetWit [true, true] w') from by
    have h := Witness_ok (ad, cap, kM1, 3) 2 w' (kM1_ok hi) (by decide) (show enoughD (kM1.map z3) ((2 : Nat) : Int) = true from by decide +kernel) (show (3 : Nat) ≠ 0 by decide)
    rw [show witD (ad, cap, kM1, 3).2.2.1 ((ad, cap, kM1, 3).2.2.2 + 1) (ad, cap, kM1, 3).2.2.2 (List.replicate 2 false) = [true, true] from (by decide +kernel : witD kM1 4 3 [false, false] = [true, true])] at h
    exact h)
  have HEQ := Lib.hid (fun a1 c1 a2 c2 w' (h1 : InD w'.heap.size w' a1 [(1, 0, 1), (0, 0, 2)]) (h2 : InD w'.heap.size w' a2 [(1, 0, 1), (0, 0, 2)]) => show Calls Tryz.prog 34 #[.agg #[.slice a1 2 c1, .int .i64 3], .agg #[.slice a2 2 c2, .int .i64 3]] w' (Ret (.bool true) w') from by
    have h := dEqual_any (a1, c1, [(1, 0, 1), (0, 0, 2)], 3) (a2, c2, [(1, 0, 1), (0, 0, 2)], 3) w' h1 h2 (show 2 ≤ 1000000 by decide) (show 2 ≤ 1000000 by decide)
    simpa using h)
  have HCK := Lib.hid (fun a1 c1 w' (h1 : InD w'.heap.size w' a1 [(0, 0, 0)]) => show Calls Tryz.prog 37 #[.agg #[.slice a1 1 c1, .int .i64 0]] w' (Ret (.int .i64 7) w') from by
    have h := dCheck_any [(0, 0, 0)] kInI (by decide) a1 c1 0 ⟨by decide, by decide⟩ w' h1
    rw [kChk] at h
    exact h)
  clear hT
  go_enter Tryz.func13, Tryz.ntmps13
  go_wp2_with fail
  refine (HP1.out _).mono ?_
  rintro _ _ ⟨_, rfl, y1, rfl, ad1, cap1, rfl, hi1⟩
  have HI1 := Lib.hid hi1
  clear hi1
  dsimp only
  go_wp2_with fail
  refine (HO1.out _ _ _ _ (HI1.out.of (by (repeat' (first | (with_reducible first | exact Below.refl _ _ | exact Nat.le_refl _ | refine Below.bel ?_ ?_ | refine Below.alloc ?_ ?_ _ | refine Below.drew ?_ | refine Below.drawsN ?_ _ | refine Below.setCell ?_ ?_ _ | refine le_bel ?_ | refine le_alloc ?_ | refine le_setCell ?_ | refine le_drew ?_ | refine le_drawsN ?_) | (dsimp only; with_reducible first | refine le_bel ?_ | refine Nat.le_refl _ | refine le_bel_add ?_) | (with_reducible assumption) | omega | (dsimp only; omega)))))).mono ?_
  rintro _ W2 ⟨ad2, cap2, rfl, hi2, -, hb2⟩
  have hw2 : Below w.heap.size w W2 := Below.trans (by (repeat' (first | (with_reducible first | exact Below.refl _ _ | exact Nat.le_refl _ | refine Below.bel ?_ ?_ | refine Below.alloc ?_ ?_ _ | refine Below.drew ?_ | refine Below.drawsN ?_ _ | refine Below.setCell ?_ ?_ _ | refine le_bel ?_ | refine le_alloc ?_ | refine le_setCell ?_ | refine le_drew ?_ | refine le_drawsN ?_) | (dsimp only; with_reducible first | refine le_bel ?_ | refine Nat.le_refl _ | refine le_bel_add ?_) | (with_reducible assumption) | omega | (dsimp only; omega)))) (hb2.mono (by have := y1.size_le; simp; omega))
  have hs2 := hw2.size
  have HI2 := Lib.hid hi2
  have o2 := World.alloc_heap_new W2 (.cells #[.slice ad2 kM1.length cap2, .int .i64 3] 30)
  clear hi2 hb2
  dsimp only
  go_wp2_with fail
  refine (HCN.out _ _ _ ((HI2.out.of (by (repeat' (first | (with_reducible first | exact Below.refl _ _ | exact Nat.le_refl _ | refine Below.bel ?_ ?_ | refine Below.alloc ?_ ?_ _ | refine Below.drew ?_ | refine Below.drawsN ?_ _ | refine Below.setCell ?_ ?_ _ | refine le_bel ?_ | refine le_alloc ?_ | refine le_setCell ?_ | refine le_drew ?_ | refine le_drawsN ?_) | (dsimp only; with_reducible first | refine le_bel ?_ | refine Nat.le_refl _ | refine le_bel_add ?_) | (with_reducible assumption) | omega | (dsimp only; omega))))).up (by simp)) (HT.out.of (by (repeat' (first | (with_reducible first | exact Below.refl _ _ | exact Nat.le_refl _ | refine Below.bel ?_ ?_ | refine Below.alloc ?_ ?_ _ | refine Below.drew ?_ | refine Below.drawsN ?_ _ | refine Below.setCell ?_ ?_ _ | refine le_bel ?_ | refine le_alloc ?_ | refine le_setCell ?_ | refine le_drew ?_ | refine le_drawsN ?_) | (dsimp only; with_reducible first | refine le_bel ?_ | refine Nat.le_refl _ | refine le_bel_add ?_) | (with_reducible assumption) | omega | (dsimp only; omega)))))).mono ?_
  rintro _ _ ⟨rfl, y3, rfl⟩
  have hs3 := y3.size_le
  simp at hs3
  have o3 := obj_bel y3 o2
  obtain ⟨c0, c1, -⟩ := cells2 o3
  dsimp only
  go_wp2_with fail
  refine (HWI.out _ _ _ ((HI2.out.of (by (repeat' (first | (with_reducible first | exact Below.refl _ _ | exact Nat.le_refl _ | refine Below.bel ?_ ?_ | refine Below.alloc ?_ ?_ _ | refine Below.drew ?_ | refine Below.drawsN ?_ _ | refine Below.setCell ?_ ?_ _ | refine le_bel ?_ | refine le_alloc ?_ | refine le_setCell ?_ | refine le_drew ?_ | refine le_drawsN ?_) | (dsimp only; with_reducible first | refine le_bel ?_ | refine Nat.le_refl _ | refine le_bel_add ?_) | (with_reducible assumption) | omega | (dsimp only; omega))))).up (by omega))).mono ?_
  rintro _ W4 ⟨g4, cap4, rfl, how4, hb4⟩
  have hw4 : Below w.heap.size w W4 := Below.trans (show Below w.heap.size w y3.w by (repeat' (first | (with_reducible first | exact Below.refl _ _ | exact Nat.le_refl _ | refine Below.bel ?_ ?_ | refine Below.alloc ?_ ?_ _ | refine Below.drew ?_ | refine Below.drawsN ?_ _ | refine Below.setCell ?_ ?_ _ | refine le_bel ?_ | refine le_alloc ?_ | refine le_setCell ?_ | refine le_drew ?_ | refine le_drawsN ?_) | (dsimp only; with_reducible first | refine le_bel ?_ | refine Nat.le_refl _ | refine le_bel_add ?_) | (with_reducible assumption) | omega | (dsimp only; omega)))) (hb4.mono (by omega))
  have hs4 := hw4.size
  have hq4 := hb4.size
  have o4 := obj_in hb4 o3
  have HO4 := Lib.hid how4
  have HB4 := Lib.hid (show Below W2.heap.size W2 W4 from Below.trans (by (repeat' (first | (with_reducible first | exact Below.refl _ _ | exact Nat.le_refl _ | refine Below.bel ?_ ?_ | refine Below.alloc ?_ ?_ _ | refine Below.drew ?_ | refine Below.drawsN ?_ _ | refine Below.setCell ?_ ?_ _ | refine le_bel ?_ | refine le_alloc ?_ | refine le_setCell ?_ | refine le_drew ?_ | refine le_drawsN ?_) | (dsimp only; with_reducible first | refine le_bel ?_ | refine Nat.le_refl _ | refine le_bel_add ?_) | (with_reducible assumption) | omega | (dsimp only; omega)))) (hb4.mono (by omega)))
  clear how4 c0 c1 o3
  dsimp only
  go_wp2_with fail
  refine (HP2.out _).mono ?_
  rintro _ _ ⟨_, rfl, y5, rfl, ad5, cap5, rfl, hi5⟩
  have hs5 := y5.size_le
  have HI5 := Lib.hid hi5
  clear hi5
  dsimp only
  go_wp2_with fail
  refine (HO2.out _ _ _ _ (HI5.out.of (by (repeat' (first | (with_reducible first | exact Below.refl _ _ | exact Nat.le_refl _ | refine Below.bel ?_ ?_ | refine Below.alloc ?_ ?_ _ | refine Below.drew ?_ | refine Below.drawsN ?_ _ | refine Below.setCell ?_ ?_ _ | refine le_bel ?_ | refine le_alloc ?_ | refine le_setCell ?_ | refine le_drew ?_ | refine le_drawsN ?_) | (dsimp only; with_reducible first | refine le_bel ?_ | refine Nat.le_refl _ | refine le_bel_add ?_) | (with_reducible assumption) | omega | (dsimp only; omega)))))).mono ?_
  rintro _ W6 ⟨ad6, cap6, rfl, hi6, -, hb6⟩
  have HB46 := Lib.hid (show Below W4.heap.size W4 W6 from Below.trans (by (repeat' (first | (with_reducible first | exact Below.refl _ _ | exact Nat.le_refl _ | refine Below.bel ?_ ?_ | refine Below.alloc ?_ ?_ _ | refine Below.drew ?_ | refine Below.drawsN ?_ _ | refine Below.setCell ?_ ?_ _ | refine le_bel ?_ | refine le_alloc ?_ | refine le_setCell ?_ | refine le_drew ?_ | refine le_drawsN ?_) | (dsimp only; with_reducible first | refine le_bel ?_ | refine Nat.le_refl _ | refine le_bel_add ?_) | (with_reducible assumption) | omega | (dsimp only; omega)))) (hb6.mono (by simp; omega)))
  have hs6 := HB46.out.size
  have hw6 : Below w.heap.size w W6 := hw4.trans (HB46.out.mono (by omega))
  have o6 := obj_in HB46.out o4
  have HI6 := Lib.hid hi6
  have hA6 := Below.alloc (Below.refl W6.heap.size W6) (Nat.le_refl _) (.cells #[.slice ad6 3 cap6, .int .i64 4] 30 (0, 0))
  obtain ⟨c0, c1, -⟩ := cells2 (obj_in hA6 o6)
  have q6 := World.alloc_heap_new W6 (.cells #[.slice ad6 3 cap6, .int .i64 4] 30)
  clear hi6 hb6 hb4 o2 o4
  dsimp only
  go_wp2_with fail
  have o7 := heap_next W6 (.cells #[.slice ad6 3 cap6, .int .i64 4] 30) (.cells #[.int .i64 1, .int .i64 0, .int .i64 1, .int .i64 0, .int .i64 0, .int .i64 2] 55)
  have hA7 : Below W6.heap.size W6 ((W6.alloc (.cells #[.slice ad6 3 cap6, .int .i64 4] 30)).alloc (.cells #[.int .i64 1, .int .i64 0, .int .i64 1, .int .i64 0, .int .i64 0, .int .i64 2] 55)) := by (repeat' (first | (with_reducible first | exact Below.refl _ _ | exact Nat.le_refl _ | refine Below.bel ?_ ?_ | refine Below.alloc ?_ ?_ _ | refine Below.drew ?_ | refine Below.drawsN ?_ _ | refine Below.setCell ?_ ?_ _ | refine le_bel ?_ | refine le_alloc ?_ | refine le_setCell ?_ | refine le_drew ?_ | refine le_drawsN ?_) | (dsimp only; with_reducible first | refine le_bel ?_ | refine Nat.le_refl _ | refine le_bel_add ?_) | (with_reducible assumption) | omega | (dsimp only; omega)))
  have hb7 := HB4.out.trans ((HB46.out.mono HB4.out.size).trans (hA7.mono (by have := HB4.out.size; omega)))
  have HO7 := Lib.hid (ownB_bel (ownB_bel HO4.out HB46.out) hA7)
  refine (HEQ.out _ _ _ _ _ ((HI2.out.of hb7).up hb7.size) (kD_two o7)).mono ?_
  rintro _ _ ⟨rfl, y7, rfl⟩
  obtain ⟨v0, v1⟩ := ownB_two (ownB_bel HO7.out y7.below)
  obtain ⟨e0, e1, -⟩ := cells2 (obj_bel y7 (obj_alloc (.cells #[.int .i64 1, .int .i64 0, .int .i64 1, .int .i64 0, .int .i64 0, .int .i64 2] 55) q6))
  clear c0 c1 o6 q6 o7 hb7 hA6
  dsimp only
  go_wp2_with fail
  refine (HCK.out _ _ _ (kD_one (World.alloc_heap_new _ _))).mono ?_
  rintro _ _ ⟨rfl, y8, rfl⟩
  dsimp only
  go_wp2
  go_ret
  have hb8 : Below w.heap.size w y7.w := hw6.trans ((hA7.mono (by omega)).trans (y7.below.mono (by have := hA7.size; omega)))
  exact Ret.mk rfl (by have := hb8.size; (repeat' (first | (with_reducible first | exact Below.refl _ _ | exact Nat.le_refl _ | refine Below.bel ?_ ?_ | refine Below.alloc ?_ ?_ _ | refine Below.drew ?_ | refine Below.drawsN ?_ _ | refine Below.setCell ?_ ?_ _ | refine le_bel ?_ | refine le_alloc ?_ | refine le_setCell ?_ | refine le_drew ?_ | refine le_drawsN ?_) | (dsimp only; with_reducible first | refine le_bel ?_ | refine Nat.le_refl _ | refine le_bel_add ?_) | (with_reducible assumption) | omega | (dsimp only; omega))))
end Go.Proofs.YtkdmhjlcgpnjpaaGreatDoor

namespace Go.Proofs.YtkdmhjlcgpnjpaaGreatDoor
set_option linter.unusedVariables false
set_option linter.unusedSimpArgs false
open Go.RowKit Go.Maps
attribute [local go_sem low] Bel.cell Bel.frozen alloc_cell alloc_frozen

set_option maxRecDepth 100000 in
theorem none_any (w : World) : Calls Tryz.prog 19 #[.agg #[.slice none 0 0, .int .i64 0]] w (Ret (.bool true) w) := by
  go_enter Tryz.func19, Tryz.ntmps19
  go_wp2
  go_ret
  exact Ret.mk (by rfl) (by (repeat' (first | (with_reducible first | exact Below.refl _ _ | exact Nat.le_refl _ | refine Below.bel ?_ ?_ | refine Below.alloc ?_ ?_ _ | refine Below.drew ?_ | refine Below.drawsN ?_ _ | refine Below.setCell ?_ ?_ _ | refine le_bel ?_ | refine le_alloc ?_ | refine le_setCell ?_ | refine le_drew ?_ | refine le_drawsN ?_) | (dsimp only; with_reducible first | refine le_bel ?_ | refine Nat.le_refl _ | refine le_bel_add ?_) | (with_reducible assumption) | omega | (dsimp only; omega))))
end Go.Proofs.YtkdmhjlcgpnjpaaGreatDoor
