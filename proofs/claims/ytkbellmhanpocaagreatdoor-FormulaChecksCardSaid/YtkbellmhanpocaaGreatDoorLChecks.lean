/- The walk of FormulaChecks. -/
import Derived.Test.YtkbellmhanpocaaGreatDoorK1
import Derived.Test.YtkbellmhanpocaaGreatDoorE0
import Derived.Test.YtkbellmhanpocaaGreatDoorE1
import Derived.Test.YtkbellmhanpocaaGreatDoorQ1
import Derived.Test.YtkbellmhanpocaaGreatDoorD1
import Derived.Test.YtkbellmhanpocaaGreatDoorD2
import Derived.Test.YtkbellmhanpocaaGreatDoorD3
import Derived.Test.YtkbellmhanpocaaGreatDoorD4
import Derived.Test.YtkbellmhanpocaaGreatDoorSm
import Derived.Test.YtkbellmhanpocaaGreatDoorY2
namespace Go.Proofs.YtkbellmhanpocaaGreatDoor
set_option linter.unusedVariables false
set_option linter.unusedSimpArgs false
open Go.RowKit F
attribute [local go_sem low] Bel.cell Bel.frozen alloc_cell alloc_frozen

theorem checkF_small {t : F} (h : nodes t ≤ 40) : checkF t = firstE (pre t) := by
  have := levels_le_nodes t
  rw [checkF, fitsF, if_pos (decide_eq_true (show nodes t ≤ 10000 ∧ levels t ≤ 100 by omega))]
theorem okT_small {t : F} (h : nodes t ≤ 40) (hc : checkF t = 0) : okT t := (checkF_ok.1 hc).2
def argsF (t : F) (ad : Option Addr) (cap : Nat) : Value := .agg #[.int .i64 t.k, .int .i64 t.a, .slice ad t.l.length cap]
set_option maxRecDepth 100000 in
set_option maxHeartbeats 12800000 in
theorem lawChecks_big1 (t u : F) (P P' : Nat → Prop) (ad ad3 : Option Addr) (cap cap3 : Nat) (w : World) (hT : Tab w) (hi : InsF P w ad t.l) (hi' : InsF P' w ad3 u.l) (h1 : ¬ nodes t ≤ 40) :
    Calls Tryz.prog 4 #[.agg #[.int .i64 t.k, .int .i64 t.a, .slice ad t.l.length cap], .agg #[.int .i64 u.k, .int .i64 u.a, .slice ad3 u.l.length cap3]] w (Ret (.bool true) w) := by
  have HT := Lib.hid hT
  have HI := Lib.hid (hi.imp fun _ _ _ => trivial : InsF (fun _ => True) _ _ _)
  have HJ := Lib.hid (hi'.imp fun _ _ _ => trivial : InsF (fun _ => True) _ _ _)
  have HSF := Lib.hid (fun (P : Nat → Prop) ad cap w' hi => small_any t P ad cap w' hi)
  have HSG := Lib.hid (fun (P : Nat → Prop) ad cap w' hi => small_any u P ad cap w' hi)
  rw [decide_eq_false h1] at HSF
  clear hT hi hi' h1
  go_enter Tryz.func4, Tryz.ntmps4
  go_wp2_with fail
  refine (known_any _ (HT.out.of (by (repeat' (first | (with_reducible exact Below.refl _ _) | (with_reducible exact Nat.le_refl _) | (with_reducible refine Below.bel ?_ ?_) | (with_reducible refine Below.alloc ?_ ?_ _) | (with_reducible refine Below.drew ?_) | (with_reducible refine Below.drawsN ?_ _) | (with_reducible refine Below.setCell ?_ ?_ _) | (with_reducible refine le_bel ?_) | (with_reducible refine le_alloc ?_) | (with_reducible refine le_setCell ?_) | (with_reducible refine le_drew ?_) | (with_reducible refine le_drawsN ?_) | (dsimp only; with_reducible refine le_bel ?_) | (dsimp only; with_reducible refine Nat.le_refl _) | (dsimp only; with_reducible refine le_bel_add ?_) | (with_reducible assumption) | omega | (dsimp only; omega)))))).mono ?_
  rintro _ _ ⟨rfl, y, rfl⟩
  have hsy := y.size_le
  have o2 := obj_bel y (heap2_0 w (.cells #[.int .i64 t.k, .int .i64 t.a, .slice ad t.l.length cap] 26) (.cells #[.int .i64 u.k, .int .i64 u.a, .slice ad3 u.l.length cap3] 26))
  have o3 := obj_bel y (heap2_1 w (.cells #[.int .i64 t.k, .int .i64 t.a, .slice ad t.l.length cap] 26) (.cells #[.int .i64 u.k, .int .i64 u.a, .slice ad3 u.l.length cap3] 26))
  have hB : Below w.heap.size w y.w := by (repeat' (first | (with_reducible exact Below.refl _ _) | (with_reducible exact Nat.le_refl _) | (with_reducible refine Below.bel ?_ ?_) | (with_reducible refine Below.alloc ?_ ?_ _) | (with_reducible refine Below.drew ?_) | (with_reducible refine Below.drawsN ?_ _) | (with_reducible refine Below.setCell ?_ ?_ _) | (with_reducible refine le_bel ?_) | (with_reducible refine le_alloc ?_) | (with_reducible refine le_setCell ?_) | (with_reducible refine le_drew ?_) | (with_reducible refine le_drawsN ?_) | (dsimp only; with_reducible refine le_bel ?_) | (dsimp only; with_reducible refine Nat.le_refl _) | (dsimp only; with_reducible refine le_bel_add ?_) | (with_reducible assumption) | omega | (dsimp only; omega)))
  have HI2 := Lib.hid (HI.out.of hB)
  have HI3 := Lib.hid (HJ.out.of hB)
  obtain ⟨V, hV⟩ : ∃ V, y.w = V := ⟨_, rfl⟩
  rw [hV] at o2 o3 hB HI2 HI3 ⊢
  clear hV hsy y
  obtain ⟨p0, q0, r0⟩ := box3 o2
  obtain ⟨p1, q1, r1⟩ := box3 o3
  dsimp only
  go_wp2_with fail
  clear p0 q0 r0 p1 q1 r1
  refine (HSF.out _ _ _ _ HI2.out).mono ?_
  rintro _ _ ⟨rfl, y, rfl⟩
  have hbn := y.below
  have o2' := obj_below hbn (Array.getElem?_eq_some_iff.1 o2).1 o2
  have o3' := obj_below hbn (Array.getElem?_eq_some_iff.1 o3).1 o3
  have HI2' := Lib.hid (HI2.out.of hbn)
  have HI3' := Lib.hid (HI3.out.of hbn)
  have hB' := hB.trans (hbn.mono hB.size)
  obtain ⟨V1, hV⟩ : ∃ V1, y.w = V1 := ⟨_, rfl⟩
  rw [hV] at hB' o2' o3' HI2' HI3' ⊢
  clear hV hbn hB o2 o3 HI2 HI3
  have o2 := o2'
  have o3 := o3'
  have HI2 := HI2'
  have HI3 := HI3'
  have hB := hB'
  clear hB' y o2' o3' HI2' HI3'
  obtain ⟨p0, q0, r0⟩ := box3 o2
  obtain ⟨p1, q1, r1⟩ := box3 o3
  dsimp only
  go_wp2_with fail
  clear p0 q0 r0 p1 q1 r1
  refine (known_any _ (HT.out.of hB)).mono ?_
  rintro _ _ ⟨rfl, y, rfl⟩
  have hBs := hB.size
  dsimp only
  go_wp2
  go_ret
  exact Ret.mk (by rfl) (by (repeat' (first | (with_reducible exact Below.refl _ _) | (with_reducible exact Nat.le_refl _) | (with_reducible refine Below.bel ?_ ?_) | (with_reducible refine Below.alloc ?_ ?_ _) | (with_reducible refine Below.drew ?_) | (with_reducible refine Below.drawsN ?_ _) | (with_reducible refine Below.setCell ?_ ?_ _) | (with_reducible refine le_bel ?_) | (with_reducible refine le_alloc ?_) | (with_reducible refine le_setCell ?_) | (with_reducible refine le_drew ?_) | (with_reducible refine le_drawsN ?_) | (dsimp only; with_reducible refine le_bel ?_) | (dsimp only; with_reducible refine Nat.le_refl _) | (dsimp only; with_reducible refine le_bel_add ?_) | (with_reducible assumption) | omega | (dsimp only; omega))))
set_option maxRecDepth 100000 in
set_option maxHeartbeats 12800000 in
theorem lawChecks_big2 (t u : F) (P P' : Nat → Prop) (ad ad3 : Option Addr) (cap cap3 : Nat) (w : World) (hT : Tab w) (hi : InsF P w ad t.l) (hi' : InsF P' w ad3 u.l) (h1 : nodes t ≤ 40) (h2 : ¬ nodes u ≤ 40) :
    Calls Tryz.prog 4 #[.agg #[.int .i64 t.k, .int .i64 t.a, .slice ad t.l.length cap], .agg #[.int .i64 u.k, .int .i64 u.a, .slice ad3 u.l.length cap3]] w (Ret (.bool true) w) := by
  have HT := Lib.hid hT
  have HI := Lib.hid (hi.imp fun _ _ _ => trivial : InsF (fun _ => True) _ _ _)
  have HJ := Lib.hid (hi'.imp fun _ _ _ => trivial : InsF (fun _ => True) _ _ _)
  have HSF := Lib.hid (fun (P : Nat → Prop) ad cap w' hi => small_any t P ad cap w' hi)
  have HSG := Lib.hid (fun (P : Nat → Prop) ad cap w' hi => small_any u P ad cap w' hi)
  rw [decide_eq_true h1] at HSF
  rw [decide_eq_false h2] at HSG
  clear hT hi hi' h1 h2
  go_enter Tryz.func4, Tryz.ntmps4
  go_wp2_with fail
  refine (known_any _ (HT.out.of (by (repeat' (first | (with_reducible exact Below.refl _ _) | (with_reducible exact Nat.le_refl _) | (with_reducible refine Below.bel ?_ ?_) | (with_reducible refine Below.alloc ?_ ?_ _) | (with_reducible refine Below.drew ?_) | (with_reducible refine Below.drawsN ?_ _) | (with_reducible refine Below.setCell ?_ ?_ _) | (with_reducible refine le_bel ?_) | (with_reducible refine le_alloc ?_) | (with_reducible refine le_setCell ?_) | (with_reducible refine le_drew ?_) | (with_reducible refine le_drawsN ?_) | (dsimp only; with_reducible refine le_bel ?_) | (dsimp only; with_reducible refine Nat.le_refl _) | (dsimp only; with_reducible refine le_bel_add ?_) | (with_reducible assumption) | omega | (dsimp only; omega)))))).mono ?_
  rintro _ _ ⟨rfl, y, rfl⟩
  have hsy := y.size_le
  have o2 := obj_bel y (heap2_0 w (.cells #[.int .i64 t.k, .int .i64 t.a, .slice ad t.l.length cap] 26) (.cells #[.int .i64 u.k, .int .i64 u.a, .slice ad3 u.l.length cap3] 26))
  have o3 := obj_bel y (heap2_1 w (.cells #[.int .i64 t.k, .int .i64 t.a, .slice ad t.l.length cap] 26) (.cells #[.int .i64 u.k, .int .i64 u.a, .slice ad3 u.l.length cap3] 26))
  have hB : Below w.heap.size w y.w := by (repeat' (first | (with_reducible exact Below.refl _ _) | (with_reducible exact Nat.le_refl _) | (with_reducible refine Below.bel ?_ ?_) | (with_reducible refine Below.alloc ?_ ?_ _) | (with_reducible refine Below.drew ?_) | (with_reducible refine Below.drawsN ?_ _) | (with_reducible refine Below.setCell ?_ ?_ _) | (with_reducible refine le_bel ?_) | (with_reducible refine le_alloc ?_) | (with_reducible refine le_setCell ?_) | (with_reducible refine le_drew ?_) | (with_reducible refine le_drawsN ?_) | (dsimp only; with_reducible refine le_bel ?_) | (dsimp only; with_reducible refine Nat.le_refl _) | (dsimp only; with_reducible refine le_bel_add ?_) | (with_reducible assumption) | omega | (dsimp only; omega)))
  have HI2 := Lib.hid (HI.out.of hB)
  have HI3 := Lib.hid (HJ.out.of hB)
  obtain ⟨V, hV⟩ : ∃ V, y.w = V := ⟨_, rfl⟩
  rw [hV] at o2 o3 hB HI2 HI3 ⊢
  clear hV hsy y
  obtain ⟨p0, q0, r0⟩ := box3 o2
  obtain ⟨p1, q1, r1⟩ := box3 o3
  dsimp only
  go_wp2_with fail
  clear p0 q0 r0 p1 q1 r1
  refine (HSF.out _ _ _ _ HI2.out).mono ?_
  rintro _ _ ⟨rfl, y, rfl⟩
  have hbn := y.below
  have o2' := obj_below hbn (Array.getElem?_eq_some_iff.1 o2).1 o2
  have o3' := obj_below hbn (Array.getElem?_eq_some_iff.1 o3).1 o3
  have HI2' := Lib.hid (HI2.out.of hbn)
  have HI3' := Lib.hid (HI3.out.of hbn)
  have hB' := hB.trans (hbn.mono hB.size)
  obtain ⟨V1, hV⟩ : ∃ V1, y.w = V1 := ⟨_, rfl⟩
  rw [hV] at hB' o2' o3' HI2' HI3' ⊢
  clear hV hbn hB o2 o3 HI2 HI3
  have o2 := o2'
  have o3 := o3'
  have HI2 := HI2'
  have HI3 := HI3'
  have hB := hB'
  clear hB' y o2' o3' HI2' HI3'
  obtain ⟨p0, q0, r0⟩ := box3 o2
  obtain ⟨p1, q1, r1⟩ := box3 o3
  dsimp only
  go_wp2_with fail
  clear p0 q0 r0 p1 q1 r1
  refine (HSG.out _ _ _ _ HI3.out).mono ?_
  rintro _ _ ⟨rfl, y, rfl⟩
  have hbn := y.below
  have o2' := obj_below hbn (Array.getElem?_eq_some_iff.1 o2).1 o2
  have o3' := obj_below hbn (Array.getElem?_eq_some_iff.1 o3).1 o3
  have HI2' := Lib.hid (HI2.out.of hbn)
  have HI3' := Lib.hid (HI3.out.of hbn)
  have hB' := hB.trans (hbn.mono hB.size)
  obtain ⟨V2, hV⟩ : ∃ V2, y.w = V2 := ⟨_, rfl⟩
  rw [hV] at hB' o2' o3' HI2' HI3' ⊢
  clear hV hbn hB o2 o3 HI2 HI3
  have o2 := o2'
  have o3 := o3'
  have HI2 := HI2'
  have HI3 := HI3'
  have hB := hB'
  clear hB' y o2' o3' HI2' HI3'
  obtain ⟨p0, q0, r0⟩ := box3 o2
  obtain ⟨p1, q1, r1⟩ := box3 o3
  dsimp only
  go_wp2_with fail
  clear p0 q0 r0 p1 q1 r1
  refine (known_any _ (HT.out.of hB)).mono ?_
  rintro _ _ ⟨rfl, y, rfl⟩
  have hBs := hB.size
  dsimp only
  go_wp2
  go_ret
  exact Ret.mk (by rfl) (by (repeat' (first | (with_reducible exact Below.refl _ _) | (with_reducible exact Nat.le_refl _) | (with_reducible refine Below.bel ?_ ?_) | (with_reducible refine Below.alloc ?_ ?_ _) | (with_reducible refine Below.drew ?_) | (with_reducible refine Below.drawsN ?_ _) | (with_reducible refine Below.setCell ?_ ?_ _) | (with_reducible refine le_bel ?_) | (with_reducible refine le_alloc ?_) | (with_reducible refine le_setCell ?_) | (with_reducible refine le_drew ?_) | (with_reducible refine le_drawsN ?_) | (dsimp only; with_reducible refine le_bel ?_) | (dsimp only; with_reducible refine Nat.le_refl _) | (dsimp only; with_reducible refine le_bel_add ?_) | (with_reducible assumption) | omega | (dsimp only; omega))))
set_option maxRecDepth 100000 in
set_option maxHeartbeats 12800000 in
theorem lawChecks_ok (t u : F) (P P' : Nat → Prop) (ad ad3 : Option Addr) (cap cap3 : Nat) (w : World) (hT : Tab w) (hi : InsF P w ad t.l) (hi' : InsF P' w ad3 u.l) (h1 : nodes t ≤ 40) (h2 : nodes u ≤ 40) (hc : checkF t = 0) :
    Calls Tryz.prog 4 #[.agg #[.int .i64 t.k, .int .i64 t.a, .slice ad t.l.length cap], .agg #[.int .i64 u.k, .int .i64 u.a, .slice ad3 u.l.length cap3]] w (Ret (.bool true) w) := by
  have HT := Lib.hid hT
  have HI := Lib.hid (hi.imp fun _ _ _ => trivial : InsF (fun _ => True) _ _ _)
  have HJ := Lib.hid (hi'.imp fun _ _ _ => trivial : InsF (fun _ => True) _ _ _)
  have HSF := Lib.hid (fun (P : Nat → Prop) ad cap w' hi => small_any t P ad cap w' hi)
  have HSG := Lib.hid (fun (P : Nat → Prop) ad cap w' hi => small_any u P ad cap w' hi)
  have HTR := Lib.hid (fun (P : Nat → Prop) ad cap w' hi => Tree_any (nodes t) t (Nat.le_refl _) P ad cap w' hi (by omega))
  have HTU := Lib.hid (fun (P : Nat → Prop) ad cap w' hi => Tree_any (nodes u) u (Nat.le_refl _) P ad cap w' hi (by omega))
  have HRC := Lib.hid (fun (P : Nat → Prop) ad cap w' hi => refCheck_any (nodes t) t (Nat.le_refl _) P ad cap w' hi (by omega))
  have HRU := Lib.hid (fun (P : Nat → Prop) ad cap w' hi => refCheck_any (nodes u) u (Nat.le_refl _) P ad cap w' hi (by omega))
  rw [← checkF_small h1] at HRC
  rw [← checkF_small h2] at HRU
  have HCK := Lib.hid (fun (P : Nat → Prop) ad cap w' hi => check_any P t ad cap w' hi (by omega))
  have HE1 := Lib.hid (fun (P P' : Nat → Prop) ad ad' cap cap' w' hi hi' => Equal_any (nodes t) t (Nat.le_refl _) u P P' ad ad' cap cap' w' hi hi' (by omega) (by omega))
  have HE2 := Lib.hid (fun (P P' : Nat → Prop) ad ad' cap cap' w' hi hi' => Equal_any (nodes t) t (Nat.le_refl _) t P P' ad ad' cap cap' w' hi hi' (by omega) (by omega))
  have HSM := Lib.hid (fun (P P' : Nat → Prop) ad ad' cap cap' w' hi hi' => same_any t u P P' ad ad' cap cap' w' hi hi' (by omega) (by omega))
  rw [(eqF_iff t t).2 rfl] at HE2
  obtain ⟨bq, hbq⟩ : ∃ bq, eqF t u = bq := ⟨_, rfl⟩
  rw [hbq] at HE1 HSM
  have fbq : (bq != bq) = false := by cases bq <;> rfl
  rw [decide_eq_true h1] at HSF
  rw [decide_eq_true h2] at HSG
  rw [hc] at HRC HCK
  have hok := okT_small h1 hc
  have hlv := levels_le_nodes t
  have HSZ := Lib.hid (fun (P : Nat → Prop) ad cap w' hi => Size_ok P t ad cap w' hi hok (by omega) (by omega))
  obtain ⟨b, e, hbe, HEV⟩ : ∃ (b : Bool) (e : Int), (checkF u ≠ 0 → b = false ∧ e = checkF u) ∧ Hid (∀ (P P' : Nat → Prop) ad ad' cap cap' w', InsF P w' ad t.l → InsF P' w' ad' u.l → Calls Tryz.prog 17 #[.agg #[.int .i64 t.k, .int .i64 t.a, .slice ad t.l.length cap], .agg #[.int .i64 u.k, .int .i64 u.a, .slice ad' u.l.length cap']] w' (Ret (.tuple #[.bool b, .int .i64 e]) w')) := by
    have hlu := levels_le_nodes u
    by_cases hu : checkF u = 0
    · have hoku := okT_small h2 hu
      by_cases hl : (supF [t, u]).length ≤ 12
      · obtain ⟨b, hb⟩ : ∃ b : Bool, b = true ↔ eqv t u := by
          by_cases h : eqv t u
          · exact ⟨true, by simp [h]⟩
          · exact ⟨false, by simp [h]⟩
        exact ⟨b, 0, fun h => absurd hu h, Lib.hid fun P P' ad ad' cap cap' w' hi hi' => Equivalent_ok P P' t u ad ad' cap cap' b hb w' hi hi' hok hoku (by omega) (by omega) (by omega) (by omega) hl⟩
      · exact ⟨false, 4, fun h => absurd hu h, Lib.hid fun P P' ad ad' cap cap' w' hi hi' => Equivalent_limit P P' t u ad ad' cap cap' w' hi hi' hok hoku (by omega) (by omega) (by omega) (by omega) (by omega)⟩
    · refine ⟨false, checkF u, fun _ => ⟨rfl, rfl⟩, Lib.hid fun P P' ad ad' cap cap' w' hi hi' => Equivalent_err P P' t u ad ad' cap cap' (checkF u) w' hi hi' (by omega) (by omega) ?_ hu⟩
      rw [chkL, if_pos hc, chkL, if_neg hu]
  obtain ⟨r, hr⟩ : ∃ r, checkF u = r := ⟨_, rfl⟩
  rw [hr] at HRU hbe
  have HND := Lib.hid (fun (P : Nat → Prop) ad cap w' hi => refNodes_any (nodes t) t (Nat.le_refl _) P ad cap w' hi (by omega))
  have HLV := Lib.hid (fun (P : Nat → Prop) ad cap w' hi => refLevels_any (nodes t) t (Nat.le_refl _) P ad cap w' hi (by omega))
  obtain ⟨NN, hNN⟩ : ∃ NN, nodes t = NN := ⟨_, rfl⟩
  obtain ⟨LL, hLL⟩ : ∃ LL, levels t = LL := ⟨_, rfl⟩
  rw [hNN, hLL] at HSZ
  rw [hNN] at HND
  rw [hLL] at HLV
  have HBE := Lib.hid hbe
  clear hT hi hi' h1 h2 hc hok hbq hbe hr hNN hLL hlv
  go_enter Tryz.func4, Tryz.ntmps4
  go_wp2_with fail
  refine (known_any _ (HT.out.of (by (repeat' (first | (with_reducible exact Below.refl _ _) | (with_reducible exact Nat.le_refl _) | (with_reducible refine Below.bel ?_ ?_) | (with_reducible refine Below.alloc ?_ ?_ _) | (with_reducible refine Below.drew ?_) | (with_reducible refine Below.drawsN ?_ _) | (with_reducible refine Below.setCell ?_ ?_ _) | (with_reducible refine le_bel ?_) | (with_reducible refine le_alloc ?_) | (with_reducible refine le_setCell ?_) | (with_reducible refine le_drew ?_) | (with_reducible refine le_drawsN ?_) | (dsimp only; with_reducible refine le_bel ?_) | (dsimp only; with_reducible refine Nat.le_refl _) | (dsimp only; with_reducible refine le_bel_add ?_) | (with_reducible assumption) | omega | (dsimp only; omega)))))).mono ?_
  rintro _ _ ⟨rfl, y, rfl⟩
  have hsy := y.size_le
  have o2 := obj_bel y (heap2_0 w (.cells #[.int .i64 t.k, .int .i64 t.a, .slice ad t.l.length cap] 26) (.cells #[.int .i64 u.k, .int .i64 u.a, .slice ad3 u.l.length cap3] 26))
  have o3 := obj_bel y (heap2_1 w (.cells #[.int .i64 t.k, .int .i64 t.a, .slice ad t.l.length cap] 26) (.cells #[.int .i64 u.k, .int .i64 u.a, .slice ad3 u.l.length cap3] 26))
  have hB : Below w.heap.size w y.w := by (repeat' (first | (with_reducible exact Below.refl _ _) | (with_reducible exact Nat.le_refl _) | (with_reducible refine Below.bel ?_ ?_) | (with_reducible refine Below.alloc ?_ ?_ _) | (with_reducible refine Below.drew ?_) | (with_reducible refine Below.drawsN ?_ _) | (with_reducible refine Below.setCell ?_ ?_ _) | (with_reducible refine le_bel ?_) | (with_reducible refine le_alloc ?_) | (with_reducible refine le_setCell ?_) | (with_reducible refine le_drew ?_) | (with_reducible refine le_drawsN ?_) | (dsimp only; with_reducible refine le_bel ?_) | (dsimp only; with_reducible refine Nat.le_refl _) | (dsimp only; with_reducible refine le_bel_add ?_) | (with_reducible assumption) | omega | (dsimp only; omega)))
  have HI2 := Lib.hid (HI.out.of hB)
  have HI3 := Lib.hid (HJ.out.of hB)
  obtain ⟨V, hV⟩ : ∃ V, y.w = V := ⟨_, rfl⟩
  rw [hV] at o2 o3 hB HI2 HI3 ⊢
  clear hV hsy y
  obtain ⟨p0, q0, r0⟩ := box3 o2
  obtain ⟨p1, q1, r1⟩ := box3 o3
  dsimp only
  go_wp2_with fail
  clear p0 q0 r0 p1 q1 r1
  refine (HSF.out _ _ _ _ HI2.out).mono ?_
  rintro _ _ ⟨rfl, y, rfl⟩
  have hbn := y.below
  have o2' := obj_below hbn (Array.getElem?_eq_some_iff.1 o2).1 o2
  have o3' := obj_below hbn (Array.getElem?_eq_some_iff.1 o3).1 o3
  have HI2' := Lib.hid (HI2.out.of hbn)
  have HI3' := Lib.hid (HI3.out.of hbn)
  have hB' := hB.trans (hbn.mono hB.size)
  obtain ⟨V1, hV⟩ : ∃ V1, y.w = V1 := ⟨_, rfl⟩
  rw [hV] at hB' o2' o3' HI2' HI3' ⊢
  clear hV hbn hB o2 o3 HI2 HI3
  have o2 := o2'
  have o3 := o3'
  have HI2 := HI2'
  have HI3 := HI3'
  have hB := hB'
  clear hB' y o2' o3' HI2' HI3'
  obtain ⟨p0, q0, r0⟩ := box3 o2
  obtain ⟨p1, q1, r1⟩ := box3 o3
  dsimp only
  go_wp2_with fail
  clear p0 q0 r0 p1 q1 r1
  refine (HSG.out _ _ _ _ HI3.out).mono ?_
  rintro _ _ ⟨rfl, y, rfl⟩
  have hbn := y.below
  have o2' := obj_below hbn (Array.getElem?_eq_some_iff.1 o2).1 o2
  have o3' := obj_below hbn (Array.getElem?_eq_some_iff.1 o3).1 o3
  have HI2' := Lib.hid (HI2.out.of hbn)
  have HI3' := Lib.hid (HI3.out.of hbn)
  have hB' := hB.trans (hbn.mono hB.size)
  obtain ⟨V2, hV⟩ : ∃ V2, y.w = V2 := ⟨_, rfl⟩
  rw [hV] at hB' o2' o3' HI2' HI3' ⊢
  clear hV hbn hB o2 o3 HI2 HI3
  have o2 := o2'
  have o3 := o3'
  have HI2 := HI2'
  have HI3 := HI3'
  have hB := hB'
  clear hB' y o2' o3' HI2' HI3'
  obtain ⟨p0, q0, r0⟩ := box3 o2
  obtain ⟨p1, q1, r1⟩ := box3 o3
  dsimp only
  go_wp2_with fail
  clear p0 q0 r0 p1 q1 r1
  refine (HTR.out _ _ _ _ HI2.out).mono ?_
  rintro _ _ ⟨_, rfl, y, rfl, ad4, cap4, rfl, hi4⟩
  have hbn := y.below
  have o2' := obj_below hbn (Array.getElem?_eq_some_iff.1 o2).1 o2
  have o3' := obj_below hbn (Array.getElem?_eq_some_iff.1 o3).1 o3
  have HI2' := Lib.hid (HI2.out.of hbn)
  have HI3' := Lib.hid (HI3.out.of hbn)
  have HI4 := Lib.hid (hi4.imp fun _ _ _ => trivial : InsF (fun _ => True) _ _ _)
  have hB' := hB.trans (hbn.mono hB.size)
  obtain ⟨V3, hV⟩ : ∃ V3, y.w = V3 := ⟨_, rfl⟩
  rw [hV] at hB' o2' o3' HI2' HI3' HI4 ⊢
  clear hV hbn hB o2 o3 HI2 HI3 hi4
  have o2 := o2'
  have o3 := o3'
  have HI2 := HI2'
  have HI3 := HI3'
  have hB := hB'
  clear hB' y o2' o3' HI2' HI3'
  obtain ⟨p0, q0, r0⟩ := box3 o2
  obtain ⟨p1, q1, r1⟩ := box3 o3
  dsimp only
  go_wp2_with fail
  clear p0 q0 r0 p1 q1 r1
  refine (HRC.out _ _ _ _ HI4.out).mono ?_
  rintro _ _ ⟨rfl, y, rfl⟩
  have hbn := y.below
  have o2' := obj_below hbn (Array.getElem?_eq_some_iff.1 o2).1 o2
  have o3' := obj_below hbn (Array.getElem?_eq_some_iff.1 o3).1 o3
  have HI2' := Lib.hid (HI2.out.of hbn)
  have HI3' := Lib.hid (HI3.out.of hbn)
  have hB' := hB.trans (hbn.mono hB.size)
  obtain ⟨V4, hV⟩ : ∃ V4, y.w = V4 := ⟨_, rfl⟩
  rw [hV] at hB' o2' o3' HI2' HI3' ⊢
  clear hV hbn hB o2 o3 HI2 HI3
  have o2 := o2'
  have o3 := o3'
  have HI2 := HI2'
  have HI3 := HI3'
  have hB := hB'
  clear hB' y o2' o3' HI2' HI3'
  obtain ⟨p0, q0, r0⟩ := box3 o2
  obtain ⟨p1, q1, r1⟩ := box3 o3
  dsimp only
  go_wp2_with fail
  clear p0 q0 r0 p1 q1 r1
  refine (HTU.out _ _ _ _ HI3.out).mono ?_
  rintro _ _ ⟨_, rfl, y, rfl, ad5, cap5, rfl, hi5⟩
  have hbn := y.below
  have o2' := obj_below hbn (Array.getElem?_eq_some_iff.1 o2).1 o2
  have o3' := obj_below hbn (Array.getElem?_eq_some_iff.1 o3).1 o3
  have HI2' := Lib.hid (HI2.out.of hbn)
  have HI3' := Lib.hid (HI3.out.of hbn)
  have HI5 := Lib.hid (hi5.imp fun _ _ _ => trivial : InsF (fun _ => True) _ _ _)
  have hB' := hB.trans (hbn.mono hB.size)
  obtain ⟨V5, hV⟩ : ∃ V5, y.w = V5 := ⟨_, rfl⟩
  rw [hV] at hB' o2' o3' HI2' HI3' HI5 ⊢
  clear hV hbn hB o2 o3 HI2 HI3 hi5
  have o2 := o2'
  have o3 := o3'
  have HI2 := HI2'
  have HI3 := HI3'
  have hB := hB'
  clear hB' y o2' o3' HI2' HI3'
  obtain ⟨p0, q0, r0⟩ := box3 o2
  obtain ⟨p1, q1, r1⟩ := box3 o3
  dsimp only
  go_wp2_with fail
  clear p0 q0 r0 p1 q1 r1
  refine (HRU.out _ _ _ _ HI5.out).mono ?_
  rintro _ _ ⟨rfl, y, rfl⟩
  have hbn := y.below
  have o2' := obj_below hbn (Array.getElem?_eq_some_iff.1 o2).1 o2
  have o3' := obj_below hbn (Array.getElem?_eq_some_iff.1 o3).1 o3
  have HI2' := Lib.hid (HI2.out.of hbn)
  have HI3' := Lib.hid (HI3.out.of hbn)
  have hB' := hB.trans (hbn.mono hB.size)
  obtain ⟨V6, hV⟩ : ∃ V6, y.w = V6 := ⟨_, rfl⟩
  rw [hV] at hB' o2' o3' HI2' HI3' ⊢
  clear hV hbn hB o2 o3 HI2 HI3
  have o2 := o2'
  have o3 := o3'
  have HI2 := HI2'
  have HI3 := HI3'
  have hB := hB'
  clear hB' y o2' o3' HI2' HI3'
  obtain ⟨p0, q0, r0⟩ := box3 o2
  obtain ⟨p1, q1, r1⟩ := box3 o3
  dsimp only
  go_wp2_with fail
  clear p0 q0 r0 p1 q1 r1
  refine (HSZ.out _ _ _ _ HI2.out).mono ?_
  rintro _ _ ⟨rfl, y, rfl⟩
  have hbn := y.below
  have o2' := obj_below hbn (Array.getElem?_eq_some_iff.1 o2).1 o2
  have o3' := obj_below hbn (Array.getElem?_eq_some_iff.1 o3).1 o3
  have HI2' := Lib.hid (HI2.out.of hbn)
  have HI3' := Lib.hid (HI3.out.of hbn)
  have hB' := hB.trans (hbn.mono hB.size)
  obtain ⟨V7, hV⟩ : ∃ V7, y.w = V7 := ⟨_, rfl⟩
  rw [hV] at hB' o2' o3' HI2' HI3' ⊢
  clear hV hbn hB o2 o3 HI2 HI3
  have o2 := o2'
  have o3 := o3'
  have HI2 := HI2'
  have HI3 := HI3'
  have hB := hB'
  clear hB' y o2' o3' HI2' HI3'
  obtain ⟨p0, q0, r0⟩ := box3 o2
  obtain ⟨p1, q1, r1⟩ := box3 o3
  dsimp only
  go_wp2_with fail
  clear p0 q0 r0 p1 q1 r1
  refine (HEV.out _ _ _ _ _ _ _ HI2.out HI3.out).mono ?_
  rintro _ _ ⟨rfl, y, rfl⟩
  have hbn := y.below
  have o2' := obj_below hbn (Array.getElem?_eq_some_iff.1 o2).1 o2
  have o3' := obj_below hbn (Array.getElem?_eq_some_iff.1 o3).1 o3
  have HI2' := Lib.hid (HI2.out.of hbn)
  have HI3' := Lib.hid (HI3.out.of hbn)
  have hB' := hB.trans (hbn.mono hB.size)
  obtain ⟨V8, hV⟩ : ∃ V8, y.w = V8 := ⟨_, rfl⟩
  rw [hV] at hB' o2' o3' HI2' HI3' ⊢
  clear hV hbn hB o2 o3 HI2 HI3
  have o2 := o2'
  have o3 := o3'
  have HI2 := HI2'
  have HI3 := HI3'
  have hB := hB'
  clear hB' y o2' o3' HI2' HI3'
  by_cases hr : r = 0
  · subst hr
    obtain ⟨p0, q0, r0⟩ := box3 o2
    obtain ⟨p1, q1, r1⟩ := box3 o3
    dsimp only
    go_wp2_with fail
    clear p0 q0 r0 p1 q1 r1
    obtain ⟨p0, q0, r0⟩ := box3 o2
    obtain ⟨p1, q1, r1⟩ := box3 o3
    refine wp_region_bel (by kernel_rfl) (by kernel_rfl) ?_
    go_big_quiet_step (fail)
    (go_big_quiet_step ((go_at_call 18; with_reducible refine bel_of (HCK.out _ _ _ _ (HI2.out.of ?_)) <;> (repeat' (first | (with_reducible exact Below.refl _ _) | (with_reducible exact Nat.le_refl _) | (with_reducible refine Below.bel ?_ ?_) | (with_reducible refine Below.alloc ?_ ?_ _) | (with_reducible refine Below.drew ?_) | (with_reducible refine Below.drawsN ?_ _) | (with_reducible refine Below.setCell ?_ ?_ _) | (with_reducible refine le_bel ?_) | (with_reducible refine le_alloc ?_) | (with_reducible refine le_setCell ?_) | (with_reducible refine le_drew ?_) | (with_reducible refine le_drawsN ?_) | (dsimp only; with_reducible refine le_bel ?_) | (dsimp only; with_reducible refine Nat.le_refl _) | (dsimp only; with_reducible refine le_bel_add ?_) | (with_reducible assumption) | omega | (dsimp only; omega))))))
    go_big_quiet_step (fail)
    go_big_quiet_step (fail)
    go_big_quiet_step (fail)
    go_big_quiet_step (fail)
    go_big_quiet_step (fail)
    (go_big_quiet_step ((go_at_call 19; with_reducible refine bel_of (HE1.out _ _ _ _ _ _ _ (HI2.out.of ?_) (HI3.out.of ?_)) <;> (repeat' (first | (with_reducible exact Below.refl _ _) | (with_reducible exact Nat.le_refl _) | (with_reducible refine Below.bel ?_ ?_) | (with_reducible refine Below.alloc ?_ ?_ _) | (with_reducible refine Below.drew ?_) | (with_reducible refine Below.drawsN ?_ _) | (with_reducible refine Below.setCell ?_ ?_ _) | (with_reducible refine le_bel ?_) | (with_reducible refine le_alloc ?_) | (with_reducible refine le_setCell ?_) | (with_reducible refine le_drew ?_) | (with_reducible refine le_drawsN ?_) | (dsimp only; with_reducible refine le_bel ?_) | (dsimp only; with_reducible refine Nat.le_refl _) | (dsimp only; with_reducible refine le_bel_add ?_) | (with_reducible assumption) | omega | (dsimp only; omega))))))
    go_big_quiet_step (fail)
    go_big_quiet_step (fail)
    (go_big_quiet_step ((go_at_call 20; with_reducible refine bel_of (HSM.out _ _ _ _ _ _ _ (HI2.out.of ?_) (HI3.out.of ?_)) <;> (repeat' (first | (with_reducible exact Below.refl _ _) | (with_reducible exact Nat.le_refl _) | (with_reducible refine Below.bel ?_ ?_) | (with_reducible refine Below.alloc ?_ ?_ _) | (with_reducible refine Below.drew ?_) | (with_reducible refine Below.drawsN ?_ _) | (with_reducible refine Below.setCell ?_ ?_ _) | (with_reducible refine le_bel ?_) | (with_reducible refine le_alloc ?_) | (with_reducible refine le_setCell ?_) | (with_reducible refine le_drew ?_) | (with_reducible refine le_drawsN ?_) | (dsimp only; with_reducible refine le_bel ?_) | (dsimp only; with_reducible refine Nat.le_refl _) | (dsimp only; with_reducible refine le_bel_add ?_) | (with_reducible assumption) | omega | (dsimp only; omega))))))
    go_big_quiet_step (fail)
    go_big_quiet_step (fail)
    go_big_quiet_step (fail)
    go_big_quiet_step (fail)
    go_big_quiet_step (fail)
    (go_big_quiet_step ((go_at_call 19; with_reducible refine bel_of (HE2.out _ _ _ _ _ _ _ (HI2.out.of ?_) (HI2.out.of ?_)) <;> (repeat' (first | (with_reducible exact Below.refl _ _) | (with_reducible exact Nat.le_refl _) | (with_reducible refine Below.bel ?_ ?_) | (with_reducible refine Below.alloc ?_ ?_ _) | (with_reducible refine Below.drew ?_) | (with_reducible refine Below.drawsN ?_ _) | (with_reducible refine Below.setCell ?_ ?_ _) | (with_reducible refine le_bel ?_) | (with_reducible refine le_alloc ?_) | (with_reducible refine le_setCell ?_) | (with_reducible refine le_drew ?_) | (with_reducible refine le_drawsN ?_) | (dsimp only; with_reducible refine le_bel ?_) | (dsimp only; with_reducible refine Nat.le_refl _) | (dsimp only; with_reducible refine le_bel_add ?_) | (with_reducible assumption) | omega | (dsimp only; omega))))))
    repeat (go_big_quiet_step (fail))
    refine wpQuiet_nil ?_
    rintro _ ⟨z, rfl⟩
    try clear p0 q0 r0 p1 q1 r1
    have hbn := z.below
    have o2' := obj_below hbn (Array.getElem?_eq_some_iff.1 o2).1 o2
    have o3' := obj_below hbn (Array.getElem?_eq_some_iff.1 o3).1 o3
    have HI2' := Lib.hid (HI2.out.of hbn)
    have HI3' := Lib.hid (HI3.out.of hbn)
    have hB' := hB.trans (hbn.mono hB.size)
    obtain ⟨V9, hV⟩ : ∃ V9, z.w = V9 := ⟨_, rfl⟩
    rw [hV] at hB' o2' o3' HI2' HI3' ⊢
    clear hV hbn hB o2 o3 HI2 HI3
    have o2 := o2'
    have o3 := o3'
    have HI2 := HI2'
    have HI3 := HI3'
    have hB := hB'
    clear hB' z o2' o3' HI2' HI3'
    obtain ⟨p0, q0, r0⟩ := box3 o2
    obtain ⟨p1, q1, r1⟩ := box3 o3
    go_wp2_with fail
    clear p0 q0 r0 p1 q1 r1
    refine (HTR.out _ _ _ _ HI2.out).mono ?_
    rintro _ _ ⟨_, rfl, y, rfl, ad6, cap6, rfl, hi6⟩
    have hbn := y.below
    have o2' := obj_below hbn (Array.getElem?_eq_some_iff.1 o2).1 o2
    have o3' := obj_below hbn (Array.getElem?_eq_some_iff.1 o3).1 o3
    have HI2' := Lib.hid (HI2.out.of hbn)
    have HI3' := Lib.hid (HI3.out.of hbn)
    have HI6 := Lib.hid (hi6.imp fun _ _ _ => trivial : InsF (fun _ => True) _ _ _)
    have hB' := hB.trans (hbn.mono hB.size)
    obtain ⟨V10, hV⟩ : ∃ V10, y.w = V10 := ⟨_, rfl⟩
    rw [hV] at hB' o2' o3' HI2' HI3' HI6 ⊢
    clear hV hbn hB o2 o3 HI2 HI3 hi6
    have o2 := o2'
    have o3 := o3'
    have HI2 := HI2'
    have HI3 := HI3'
    have hB := hB'
    clear hB' y o2' o3' HI2' HI3'
    obtain ⟨p0, q0, r0⟩ := box3 o2
    obtain ⟨p1, q1, r1⟩ := box3 o3
    dsimp only
    go_wp2_with fail
    clear p0 q0 r0 p1 q1 r1
    refine (HND.out _ _ _ _ HI6.out).mono ?_
    rintro _ _ ⟨rfl, y, rfl⟩
    have hbn := y.below
    have o2' := obj_below hbn (Array.getElem?_eq_some_iff.1 o2).1 o2
    have o3' := obj_below hbn (Array.getElem?_eq_some_iff.1 o3).1 o3
    have HI2' := Lib.hid (HI2.out.of hbn)
    have HI3' := Lib.hid (HI3.out.of hbn)
    have hB' := hB.trans (hbn.mono hB.size)
    obtain ⟨V11, hV⟩ : ∃ V11, y.w = V11 := ⟨_, rfl⟩
    rw [hV] at hB' o2' o3' HI2' HI3' ⊢
    clear hV hbn hB o2 o3 HI2 HI3
    have o2 := o2'
    have o3 := o3'
    have HI2 := HI2'
    have HI3 := HI3'
    have hB := hB'
    clear hB' y o2' o3' HI2' HI3'
    obtain ⟨p0, q0, r0⟩ := box3 o2
    obtain ⟨p1, q1, r1⟩ := box3 o3
    dsimp only
    go_wp2_with fail
    clear p0 q0 r0 p1 q1 r1
    refine (HTR.out _ _ _ _ HI2.out).mono ?_
    rintro _ _ ⟨_, rfl, y, rfl, ad7, cap7, rfl, hi7⟩
    have hbn := y.below
    have o2' := obj_below hbn (Array.getElem?_eq_some_iff.1 o2).1 o2
    have o3' := obj_below hbn (Array.getElem?_eq_some_iff.1 o3).1 o3
    have HI2' := Lib.hid (HI2.out.of hbn)
    have HI3' := Lib.hid (HI3.out.of hbn)
    have HI7 := Lib.hid (hi7.imp fun _ _ _ => trivial : InsF (fun _ => True) _ _ _)
    have hB' := hB.trans (hbn.mono hB.size)
    obtain ⟨V12, hV⟩ : ∃ V12, y.w = V12 := ⟨_, rfl⟩
    rw [hV] at hB' o2' o3' HI2' HI3' HI7 ⊢
    clear hV hbn hB o2 o3 HI2 HI3 hi7
    have o2 := o2'
    have o3 := o3'
    have HI2 := HI2'
    have HI3 := HI3'
    have hB := hB'
    clear hB' y o2' o3' HI2' HI3'
    obtain ⟨p0, q0, r0⟩ := box3 o2
    obtain ⟨p1, q1, r1⟩ := box3 o3
    dsimp only
    go_wp2_with fail
    clear p0 q0 r0 p1 q1 r1
    refine (HLV.out _ _ _ _ HI7.out).mono ?_
    rintro _ _ ⟨rfl, y, rfl⟩
    have hBs := hB.size
    dsimp only
    go_wp2
    go_ret
    exact Ret.mk (by rfl) (by (repeat' (first | (with_reducible exact Below.refl _ _) | (with_reducible exact Nat.le_refl _) | (with_reducible refine Below.bel ?_ ?_) | (with_reducible refine Below.alloc ?_ ?_ _) | (with_reducible refine Below.drew ?_) | (with_reducible refine Below.drawsN ?_ _) | (with_reducible refine Below.setCell ?_ ?_ _) | (with_reducible refine le_bel ?_) | (with_reducible refine le_alloc ?_) | (with_reducible refine le_setCell ?_) | (with_reducible refine le_drew ?_) | (with_reducible refine le_drawsN ?_) | (dsimp only; with_reducible refine le_bel ?_) | (dsimp only; with_reducible refine Nat.le_refl _) | (dsimp only; with_reducible refine le_bel_add ?_) | (with_reducible assumption) | omega | (dsimp only; omega))))
  · obtain ⟨hb0, he0⟩ := HBE.out hr
    subst hb0 he0
    have fr : (e != 0) = true := bne_iff_ne.2 hr
    have frr : (e != e) = false := by simp
    clear hr HBE
    obtain ⟨p0, q0, r0⟩ := box3 o2
    obtain ⟨p1, q1, r1⟩ := box3 o3
    dsimp only
    go_wp2_with fail
    clear p0 q0 r0 p1 q1 r1
    obtain ⟨p0, q0, r0⟩ := box3 o2
    obtain ⟨p1, q1, r1⟩ := box3 o3
    refine wp_region_bel (by kernel_rfl) (by kernel_rfl) ?_
    go_big_quiet_step (fail)
    (go_big_quiet_step ((go_at_call 18; with_reducible refine bel_of (HCK.out _ _ _ _ (HI2.out.of ?_)) <;> (repeat' (first | (with_reducible exact Below.refl _ _) | (with_reducible exact Nat.le_refl _) | (with_reducible refine Below.bel ?_ ?_) | (with_reducible refine Below.alloc ?_ ?_ _) | (with_reducible refine Below.drew ?_) | (with_reducible refine Below.drawsN ?_ _) | (with_reducible refine Below.setCell ?_ ?_ _) | (with_reducible refine le_bel ?_) | (with_reducible refine le_alloc ?_) | (with_reducible refine le_setCell ?_) | (with_reducible refine le_drew ?_) | (with_reducible refine le_drawsN ?_) | (dsimp only; with_reducible refine le_bel ?_) | (dsimp only; with_reducible refine Nat.le_refl _) | (dsimp only; with_reducible refine le_bel_add ?_) | (with_reducible assumption) | omega | (dsimp only; omega))))))
    go_big_quiet_step (fail)
    go_big_quiet_step (fail)
    go_big_quiet_step (fail)
    go_big_quiet_step (fail)
    go_big_quiet_step (fail)
    (go_big_quiet_step ((go_at_call 19; with_reducible refine bel_of (HE1.out _ _ _ _ _ _ _ (HI2.out.of ?_) (HI3.out.of ?_)) <;> (repeat' (first | (with_reducible exact Below.refl _ _) | (with_reducible exact Nat.le_refl _) | (with_reducible refine Below.bel ?_ ?_) | (with_reducible refine Below.alloc ?_ ?_ _) | (with_reducible refine Below.drew ?_) | (with_reducible refine Below.drawsN ?_ _) | (with_reducible refine Below.setCell ?_ ?_ _) | (with_reducible refine le_bel ?_) | (with_reducible refine le_alloc ?_) | (with_reducible refine le_setCell ?_) | (with_reducible refine le_drew ?_) | (with_reducible refine le_drawsN ?_) | (dsimp only; with_reducible refine le_bel ?_) | (dsimp only; with_reducible refine Nat.le_refl _) | (dsimp only; with_reducible refine le_bel_add ?_) | (with_reducible assumption) | omega | (dsimp only; omega))))))
    go_big_quiet_step (fail)
    go_big_quiet_step (fail)
    (go_big_quiet_step ((go_at_call 20; with_reducible refine bel_of (HSM.out _ _ _ _ _ _ _ (HI2.out.of ?_) (HI3.out.of ?_)) <;> (repeat' (first | (with_reducible exact Below.refl _ _) | (with_reducible exact Nat.le_refl _) | (with_reducible refine Below.bel ?_ ?_) | (with_reducible refine Below.alloc ?_ ?_ _) | (with_reducible refine Below.drew ?_) | (with_reducible refine Below.drawsN ?_ _) | (with_reducible refine Below.setCell ?_ ?_ _) | (with_reducible refine le_bel ?_) | (with_reducible refine le_alloc ?_) | (with_reducible refine le_setCell ?_) | (with_reducible refine le_drew ?_) | (with_reducible refine le_drawsN ?_) | (dsimp only; with_reducible refine le_bel ?_) | (dsimp only; with_reducible refine Nat.le_refl _) | (dsimp only; with_reducible refine le_bel_add ?_) | (with_reducible assumption) | omega | (dsimp only; omega))))))
    go_big_quiet_step (fail)
    go_big_quiet_step (fail)
    go_big_quiet_step (fail)
    go_big_quiet_step (fail)
    go_big_quiet_step (fail)
    (go_big_quiet_step ((go_at_call 19; with_reducible refine bel_of (HE2.out _ _ _ _ _ _ _ (HI2.out.of ?_) (HI2.out.of ?_)) <;> (repeat' (first | (with_reducible exact Below.refl _ _) | (with_reducible exact Nat.le_refl _) | (with_reducible refine Below.bel ?_ ?_) | (with_reducible refine Below.alloc ?_ ?_ _) | (with_reducible refine Below.drew ?_) | (with_reducible refine Below.drawsN ?_ _) | (with_reducible refine Below.setCell ?_ ?_ _) | (with_reducible refine le_bel ?_) | (with_reducible refine le_alloc ?_) | (with_reducible refine le_setCell ?_) | (with_reducible refine le_drew ?_) | (with_reducible refine le_drawsN ?_) | (dsimp only; with_reducible refine le_bel ?_) | (dsimp only; with_reducible refine Nat.le_refl _) | (dsimp only; with_reducible refine le_bel_add ?_) | (with_reducible assumption) | omega | (dsimp only; omega))))))
    repeat (go_big_quiet_step (fail))
    refine wpQuiet_nil ?_
    rintro _ ⟨z, rfl⟩
    try clear p0 q0 r0 p1 q1 r1
    have hbn := z.below
    have o2' := obj_below hbn (Array.getElem?_eq_some_iff.1 o2).1 o2
    have o3' := obj_below hbn (Array.getElem?_eq_some_iff.1 o3).1 o3
    have HI2' := Lib.hid (HI2.out.of hbn)
    have HI3' := Lib.hid (HI3.out.of hbn)
    have hB' := hB.trans (hbn.mono hB.size)
    obtain ⟨V9, hV⟩ : ∃ V9, z.w = V9 := ⟨_, rfl⟩
    rw [hV] at hB' o2' o3' HI2' HI3' ⊢
    clear hV hbn hB o2 o3 HI2 HI3
    have o2 := o2'
    have o3 := o3'
    have HI2 := HI2'
    have HI3 := HI3'
    have hB := hB'
    clear hB' z o2' o3' HI2' HI3'
    obtain ⟨p0, q0, r0⟩ := box3 o2
    obtain ⟨p1, q1, r1⟩ := box3 o3
    go_wp2_with fail
    clear p0 q0 r0 p1 q1 r1
    refine (HTR.out _ _ _ _ HI2.out).mono ?_
    rintro _ _ ⟨_, rfl, y, rfl, ad6, cap6, rfl, hi6⟩
    have hbn := y.below
    have o2' := obj_below hbn (Array.getElem?_eq_some_iff.1 o2).1 o2
    have o3' := obj_below hbn (Array.getElem?_eq_some_iff.1 o3).1 o3
    have HI2' := Lib.hid (HI2.out.of hbn)
    have HI3' := Lib.hid (HI3.out.of hbn)
    have HI6 := Lib.hid (hi6.imp fun _ _ _ => trivial : InsF (fun _ => True) _ _ _)
    have hB' := hB.trans (hbn.mono hB.size)
    obtain ⟨V10, hV⟩ : ∃ V10, y.w = V10 := ⟨_, rfl⟩
    rw [hV] at hB' o2' o3' HI2' HI3' HI6 ⊢
    clear hV hbn hB o2 o3 HI2 HI3 hi6
    have o2 := o2'
    have o3 := o3'
    have HI2 := HI2'
    have HI3 := HI3'
    have hB := hB'
    clear hB' y o2' o3' HI2' HI3'
    obtain ⟨p0, q0, r0⟩ := box3 o2
    obtain ⟨p1, q1, r1⟩ := box3 o3
    dsimp only
    go_wp2_with fail
    clear p0 q0 r0 p1 q1 r1
    refine (HND.out _ _ _ _ HI6.out).mono ?_
    rintro _ _ ⟨rfl, y, rfl⟩
    have hbn := y.below
    have o2' := obj_below hbn (Array.getElem?_eq_some_iff.1 o2).1 o2
    have o3' := obj_below hbn (Array.getElem?_eq_some_iff.1 o3).1 o3
    have HI2' := Lib.hid (HI2.out.of hbn)
    have HI3' := Lib.hid (HI3.out.of hbn)
    have hB' := hB.trans (hbn.mono hB.size)
    obtain ⟨V11, hV⟩ : ∃ V11, y.w = V11 := ⟨_, rfl⟩
    rw [hV] at hB' o2' o3' HI2' HI3' ⊢
    clear hV hbn hB o2 o3 HI2 HI3
    have o2 := o2'
    have o3 := o3'
    have HI2 := HI2'
    have HI3 := HI3'
    have hB := hB'
    clear hB' y o2' o3' HI2' HI3'
    obtain ⟨p0, q0, r0⟩ := box3 o2
    obtain ⟨p1, q1, r1⟩ := box3 o3
    dsimp only
    go_wp2_with fail
    clear p0 q0 r0 p1 q1 r1
    refine (HTR.out _ _ _ _ HI2.out).mono ?_
    rintro _ _ ⟨_, rfl, y, rfl, ad7, cap7, rfl, hi7⟩
    have hbn := y.below
    have o2' := obj_below hbn (Array.getElem?_eq_some_iff.1 o2).1 o2
    have o3' := obj_below hbn (Array.getElem?_eq_some_iff.1 o3).1 o3
    have HI2' := Lib.hid (HI2.out.of hbn)
    have HI3' := Lib.hid (HI3.out.of hbn)
    have HI7 := Lib.hid (hi7.imp fun _ _ _ => trivial : InsF (fun _ => True) _ _ _)
    have hB' := hB.trans (hbn.mono hB.size)
    obtain ⟨V12, hV⟩ : ∃ V12, y.w = V12 := ⟨_, rfl⟩
    rw [hV] at hB' o2' o3' HI2' HI3' HI7 ⊢
    clear hV hbn hB o2 o3 HI2 HI3 hi7
    have o2 := o2'
    have o3 := o3'
    have HI2 := HI2'
    have HI3 := HI3'
    have hB := hB'
    clear hB' y o2' o3' HI2' HI3'
    obtain ⟨p0, q0, r0⟩ := box3 o2
    obtain ⟨p1, q1, r1⟩ := box3 o3
    dsimp only
    go_wp2_with fail
    clear p0 q0 r0 p1 q1 r1
    refine (HLV.out _ _ _ _ HI7.out).mono ?_
    rintro _ _ ⟨rfl, y, rfl⟩
    have hBs := hB.size
    dsimp only
    go_wp2
    go_ret
    exact Ret.mk (by rfl) (by (repeat' (first | (with_reducible exact Below.refl _ _) | (with_reducible exact Nat.le_refl _) | (with_reducible refine Below.bel ?_ ?_) | (with_reducible refine Below.alloc ?_ ?_ _) | (with_reducible refine Below.drew ?_) | (with_reducible refine Below.drawsN ?_ _) | (with_reducible refine Below.setCell ?_ ?_ _) | (with_reducible refine le_bel ?_) | (with_reducible refine le_alloc ?_) | (with_reducible refine le_setCell ?_) | (with_reducible refine le_drew ?_) | (with_reducible refine le_drawsN ?_) | (dsimp only; with_reducible refine le_bel ?_) | (dsimp only; with_reducible refine Nat.le_refl _) | (dsimp only; with_reducible refine le_bel_add ?_) | (with_reducible assumption) | omega | (dsimp only; omega))))
set_option maxRecDepth 100000 in
set_option maxHeartbeats 12800000 in
theorem lawChecks_bad (t u : F) (P P' : Nat → Prop) (ad ad3 : Option Addr) (cap cap3 : Nat) (w : World) (hT : Tab w) (hi : InsF P w ad t.l) (hi' : InsF P' w ad3 u.l) (h1 : nodes t ≤ 40) (h2 : nodes u ≤ 40) (hc : checkF t ≠ 0) :
    Calls Tryz.prog 4 #[.agg #[.int .i64 t.k, .int .i64 t.a, .slice ad t.l.length cap], .agg #[.int .i64 u.k, .int .i64 u.a, .slice ad3 u.l.length cap3]] w (Ret (.bool true) w) := by
  have HT := Lib.hid hT
  have HI := Lib.hid (hi.imp fun _ _ _ => trivial : InsF (fun _ => True) _ _ _)
  have HJ := Lib.hid (hi'.imp fun _ _ _ => trivial : InsF (fun _ => True) _ _ _)
  have HSF := Lib.hid (fun (P : Nat → Prop) ad cap w' hi => small_any t P ad cap w' hi)
  have HSG := Lib.hid (fun (P : Nat → Prop) ad cap w' hi => small_any u P ad cap w' hi)
  have HTR := Lib.hid (fun (P : Nat → Prop) ad cap w' hi => Tree_any (nodes t) t (Nat.le_refl _) P ad cap w' hi (by omega))
  have HTU := Lib.hid (fun (P : Nat → Prop) ad cap w' hi => Tree_any (nodes u) u (Nat.le_refl _) P ad cap w' hi (by omega))
  have HRC := Lib.hid (fun (P : Nat → Prop) ad cap w' hi => refCheck_any (nodes t) t (Nat.le_refl _) P ad cap w' hi (by omega))
  have HRU := Lib.hid (fun (P : Nat → Prop) ad cap w' hi => refCheck_any (nodes u) u (Nat.le_refl _) P ad cap w' hi (by omega))
  rw [← checkF_small h1] at HRC
  rw [← checkF_small h2] at HRU
  have HCK := Lib.hid (fun (P : Nat → Prop) ad cap w' hi => check_any P t ad cap w' hi (by omega))
  have HE1 := Lib.hid (fun (P P' : Nat → Prop) ad ad' cap cap' w' hi hi' => Equal_any (nodes t) t (Nat.le_refl _) u P P' ad ad' cap cap' w' hi hi' (by omega) (by omega))
  have HE2 := Lib.hid (fun (P P' : Nat → Prop) ad ad' cap cap' w' hi hi' => Equal_any (nodes t) t (Nat.le_refl _) t P P' ad ad' cap cap' w' hi hi' (by omega) (by omega))
  have HSM := Lib.hid (fun (P P' : Nat → Prop) ad ad' cap cap' w' hi hi' => same_any t u P P' ad ad' cap cap' w' hi hi' (by omega) (by omega))
  rw [(eqF_iff t t).2 rfl] at HE2
  obtain ⟨bq, hbq⟩ : ∃ bq, eqF t u = bq := ⟨_, rfl⟩
  rw [hbq] at HE1 HSM
  have fbq : (bq != bq) = false := by cases bq <;> rfl
  rw [decide_eq_true h1] at HSF
  rw [decide_eq_true h2] at HSG
  have hch : chkL [t, u] = checkF t := by rw [chkL, if_neg hc]
  have HEV := Lib.hid (fun (P P' : Nat → Prop) ad ad' cap cap' w' hi hi' => Equivalent_err P P' t u ad ad' cap cap' (checkF t) w' hi hi' (by omega) (by omega) hch hc)
  have HSZ := Lib.hid (fun (P : Nat → Prop) ad cap w' hi => Size_err P t ad cap (checkF t) w' hi (by omega) rfl hc)
  have HVA := Lib.hid (fun (P : Nat → Prop) ad cap w' hi => Value_err P t ad cap (checkF t) w' hi (by omega) rfl hc)
  have HSP := Lib.hid (fun (P : Nat → Prop) ad cap w' hi => Support_err P t ad cap (checkF t) w' hi (by omega) rfl hc)
  have HNO := Lib.hid (fun (P : Nat → Prop) ad cap w' hi => Normal_err P t ad cap (checkF t) w' hi (by omega) rfl hc)
  have HSI := Lib.hid (fun (P : Nat → Prop) ad cap w' hi => Simplify_err P t ad cap (checkF t) w' hi (by omega) rfl hc)
  have HTX := Lib.hid (fun (P : Nat → Prop) ad cap w' hi => Text_err P t ad cap (checkF t) w' hi (by omega) rfl hc)
  have HSU := Lib.hid (fun (P P' : Nat → Prop) ad ad' cap cap' w' hi hi' => Substitute_err (-1) (checkF t) P P' t u ad ad' cap cap' w' hi hi' (by omega) (by omega) (by rw [hch, if_neg hc]) (fun h => absurd (hch.symm.trans h) hc))
  have HRS := Lib.hid (fun (P : Nat → Prop) ad cap w' hi => Restrict_err (-1) (checkF t) true P t ad cap w' hi (by omega) (by rw [if_neg hc]) (fun h => absurd h hc))
  unfold zeroE at HNO HSI HSU HRS
  obtain ⟨q, hq⟩ : ∃ q, checkF t = q := ⟨_, rfl⟩
  rw [hq] at HRC HCK HEV HSZ HVA HSP HNO HSI HTX HSU HRS hc
  have f0 : (q == 0) = false := beq_eq_false_iff_ne.2 hc
  have f1 : (q != 0) = true := bne_iff_ne.2 hc
  have f2 : (q != q) = false := by simp
  have f3 : (q == q) = true := by simp
  clear hT hi hi' h1 h2 hc hbq hch hq
  go_enter Tryz.func4, Tryz.ntmps4
  go_wp2_with fail
  refine (known_any _ (HT.out.of (by (repeat' (first | (with_reducible exact Below.refl _ _) | (with_reducible exact Nat.le_refl _) | (with_reducible refine Below.bel ?_ ?_) | (with_reducible refine Below.alloc ?_ ?_ _) | (with_reducible refine Below.drew ?_) | (with_reducible refine Below.drawsN ?_ _) | (with_reducible refine Below.setCell ?_ ?_ _) | (with_reducible refine le_bel ?_) | (with_reducible refine le_alloc ?_) | (with_reducible refine le_setCell ?_) | (with_reducible refine le_drew ?_) | (with_reducible refine le_drawsN ?_) | (dsimp only; with_reducible refine le_bel ?_) | (dsimp only; with_reducible refine Nat.le_refl _) | (dsimp only; with_reducible refine le_bel_add ?_) | (with_reducible assumption) | omega | (dsimp only; omega)))))).mono ?_
  rintro _ _ ⟨rfl, y, rfl⟩
  have hsy := y.size_le
  have o2 := obj_bel y (heap2_0 w (.cells #[.int .i64 t.k, .int .i64 t.a, .slice ad t.l.length cap] 26) (.cells #[.int .i64 u.k, .int .i64 u.a, .slice ad3 u.l.length cap3] 26))
  have o3 := obj_bel y (heap2_1 w (.cells #[.int .i64 t.k, .int .i64 t.a, .slice ad t.l.length cap] 26) (.cells #[.int .i64 u.k, .int .i64 u.a, .slice ad3 u.l.length cap3] 26))
  have hB : Below w.heap.size w y.w := by (repeat' (first | (with_reducible exact Below.refl _ _) | (with_reducible exact Nat.le_refl _) | (with_reducible refine Below.bel ?_ ?_) | (with_reducible refine Below.alloc ?_ ?_ _) | (with_reducible refine Below.drew ?_) | (with_reducible refine Below.drawsN ?_ _) | (with_reducible refine Below.setCell ?_ ?_ _) | (with_reducible refine le_bel ?_) | (with_reducible refine le_alloc ?_) | (with_reducible refine le_setCell ?_) | (with_reducible refine le_drew ?_) | (with_reducible refine le_drawsN ?_) | (dsimp only; with_reducible refine le_bel ?_) | (dsimp only; with_reducible refine Nat.le_refl _) | (dsimp only; with_reducible refine le_bel_add ?_) | (with_reducible assumption) | omega | (dsimp only; omega)))
  have HI2 := Lib.hid (HI.out.of hB)
  have HI3 := Lib.hid (HJ.out.of hB)
  obtain ⟨V, hV⟩ : ∃ V, y.w = V := ⟨_, rfl⟩
  rw [hV] at o2 o3 hB HI2 HI3 ⊢
  clear hV hsy y
  obtain ⟨p0, q0, r0⟩ := box3 o2
  obtain ⟨p1, q1, r1⟩ := box3 o3
  dsimp only
  go_wp2_with fail
  clear p0 q0 r0 p1 q1 r1
  refine (HSF.out _ _ _ _ HI2.out).mono ?_
  rintro _ _ ⟨rfl, y, rfl⟩
  have hbn := y.below
  have o2' := obj_below hbn (Array.getElem?_eq_some_iff.1 o2).1 o2
  have o3' := obj_below hbn (Array.getElem?_eq_some_iff.1 o3).1 o3
  have HI2' := Lib.hid (HI2.out.of hbn)
  have HI3' := Lib.hid (HI3.out.of hbn)
  have hB' := hB.trans (hbn.mono hB.size)
  obtain ⟨V1, hV⟩ : ∃ V1, y.w = V1 := ⟨_, rfl⟩
  rw [hV] at hB' o2' o3' HI2' HI3' ⊢
  clear hV hbn hB o2 o3 HI2 HI3
  have o2 := o2'
  have o3 := o3'
  have HI2 := HI2'
  have HI3 := HI3'
  have hB := hB'
  clear hB' y o2' o3' HI2' HI3'
  obtain ⟨p0, q0, r0⟩ := box3 o2
  obtain ⟨p1, q1, r1⟩ := box3 o3
  dsimp only
  go_wp2_with fail
  clear p0 q0 r0 p1 q1 r1
  refine (HSG.out _ _ _ _ HI3.out).mono ?_
  rintro _ _ ⟨rfl, y, rfl⟩
  have hbn := y.below
  have o2' := obj_below hbn (Array.getElem?_eq_some_iff.1 o2).1 o2
  have o3' := obj_below hbn (Array.getElem?_eq_some_iff.1 o3).1 o3
  have HI2' := Lib.hid (HI2.out.of hbn)
  have HI3' := Lib.hid (HI3.out.of hbn)
  have hB' := hB.trans (hbn.mono hB.size)
  obtain ⟨V2, hV⟩ : ∃ V2, y.w = V2 := ⟨_, rfl⟩
  rw [hV] at hB' o2' o3' HI2' HI3' ⊢
  clear hV hbn hB o2 o3 HI2 HI3
  have o2 := o2'
  have o3 := o3'
  have HI2 := HI2'
  have HI3 := HI3'
  have hB := hB'
  clear hB' y o2' o3' HI2' HI3'
  obtain ⟨p0, q0, r0⟩ := box3 o2
  obtain ⟨p1, q1, r1⟩ := box3 o3
  dsimp only
  go_wp2_with fail
  clear p0 q0 r0 p1 q1 r1
  refine (HTR.out _ _ _ _ HI2.out).mono ?_
  rintro _ _ ⟨_, rfl, y, rfl, ad4, cap4, rfl, hi4⟩
  have hbn := y.below
  have o2' := obj_below hbn (Array.getElem?_eq_some_iff.1 o2).1 o2
  have o3' := obj_below hbn (Array.getElem?_eq_some_iff.1 o3).1 o3
  have HI2' := Lib.hid (HI2.out.of hbn)
  have HI3' := Lib.hid (HI3.out.of hbn)
  have HI4 := Lib.hid (hi4.imp fun _ _ _ => trivial : InsF (fun _ => True) _ _ _)
  have hB' := hB.trans (hbn.mono hB.size)
  obtain ⟨V3, hV⟩ : ∃ V3, y.w = V3 := ⟨_, rfl⟩
  rw [hV] at hB' o2' o3' HI2' HI3' HI4 ⊢
  clear hV hbn hB o2 o3 HI2 HI3 hi4
  have o2 := o2'
  have o3 := o3'
  have HI2 := HI2'
  have HI3 := HI3'
  have hB := hB'
  clear hB' y o2' o3' HI2' HI3'
  obtain ⟨p0, q0, r0⟩ := box3 o2
  obtain ⟨p1, q1, r1⟩ := box3 o3
  dsimp only
  go_wp2_with fail
  clear p0 q0 r0 p1 q1 r1
  refine (HRC.out _ _ _ _ HI4.out).mono ?_
  rintro _ _ ⟨rfl, y, rfl⟩
  have hbn := y.below
  have o2' := obj_below hbn (Array.getElem?_eq_some_iff.1 o2).1 o2
  have o3' := obj_below hbn (Array.getElem?_eq_some_iff.1 o3).1 o3
  have HI2' := Lib.hid (HI2.out.of hbn)
  have HI3' := Lib.hid (HI3.out.of hbn)
  have hB' := hB.trans (hbn.mono hB.size)
  obtain ⟨V4, hV⟩ : ∃ V4, y.w = V4 := ⟨_, rfl⟩
  rw [hV] at hB' o2' o3' HI2' HI3' ⊢
  clear hV hbn hB o2 o3 HI2 HI3
  have o2 := o2'
  have o3 := o3'
  have HI2 := HI2'
  have HI3 := HI3'
  have hB := hB'
  clear hB' y o2' o3' HI2' HI3'
  obtain ⟨p0, q0, r0⟩ := box3 o2
  obtain ⟨p1, q1, r1⟩ := box3 o3
  dsimp only
  go_wp2_with fail
  clear p0 q0 r0 p1 q1 r1
  refine (HSZ.out _ _ _ _ HI2.out).mono ?_
  rintro _ _ ⟨rfl, y, rfl⟩
  have hbn := y.below
  have o2' := obj_below hbn (Array.getElem?_eq_some_iff.1 o2).1 o2
  have o3' := obj_below hbn (Array.getElem?_eq_some_iff.1 o3).1 o3
  have HI2' := Lib.hid (HI2.out.of hbn)
  have HI3' := Lib.hid (HI3.out.of hbn)
  have hB' := hB.trans (hbn.mono hB.size)
  obtain ⟨V5, hV⟩ : ∃ V5, y.w = V5 := ⟨_, rfl⟩
  rw [hV] at hB' o2' o3' HI2' HI3' ⊢
  clear hV hbn hB o2 o3 HI2 HI3
  have o2 := o2'
  have o3 := o3'
  have HI2 := HI2'
  have HI3 := HI3'
  have hB := hB'
  clear hB' y o2' o3' HI2' HI3'
  obtain ⟨p0, q0, r0⟩ := box3 o2
  obtain ⟨p1, q1, r1⟩ := box3 o3
  dsimp only
  go_wp2_with fail
  clear p0 q0 r0 p1 q1 r1
  refine (HEV.out _ _ _ _ _ _ _ HI2.out HI3.out).mono ?_
  rintro _ _ ⟨rfl, y, rfl⟩
  have hbn := y.below
  have o2' := obj_below hbn (Array.getElem?_eq_some_iff.1 o2).1 o2
  have o3' := obj_below hbn (Array.getElem?_eq_some_iff.1 o3).1 o3
  have HI2' := Lib.hid (HI2.out.of hbn)
  have HI3' := Lib.hid (HI3.out.of hbn)
  have hB' := hB.trans (hbn.mono hB.size)
  obtain ⟨V6, hV⟩ : ∃ V6, y.w = V6 := ⟨_, rfl⟩
  rw [hV] at hB' o2' o3' HI2' HI3' ⊢
  clear hV hbn hB o2 o3 HI2 HI3
  have o2 := o2'
  have o3 := o3'
  have HI2 := HI2'
  have HI3 := HI3'
  have hB := hB'
  clear hB' y o2' o3' HI2' HI3'
  obtain ⟨p0, q0, r0⟩ := box3 o2
  obtain ⟨p1, q1, r1⟩ := box3 o3
  dsimp only
  go_wp2_with fail
  clear p0 q0 r0 p1 q1 r1
  obtain ⟨p0, q0, r0⟩ := box3 o2
  obtain ⟨p1, q1, r1⟩ := box3 o3
  refine wp_region_bel (by kernel_rfl) (by kernel_rfl) ?_
  go_big_quiet_step (fail)
  (go_big_quiet_step ((go_at_call 18; with_reducible refine bel_of (HCK.out _ _ _ _ (HI2.out.of ?_)) <;> (repeat' (first | (with_reducible exact Below.refl _ _) | (with_reducible exact Nat.le_refl _) | (with_reducible refine Below.bel ?_ ?_) | (with_reducible refine Below.alloc ?_ ?_ _) | (with_reducible refine Below.drew ?_) | (with_reducible refine Below.drawsN ?_ _) | (with_reducible refine Below.setCell ?_ ?_ _) | (with_reducible refine le_bel ?_) | (with_reducible refine le_alloc ?_) | (with_reducible refine le_setCell ?_) | (with_reducible refine le_drew ?_) | (with_reducible refine le_drawsN ?_) | (dsimp only; with_reducible refine le_bel ?_) | (dsimp only; with_reducible refine Nat.le_refl _) | (dsimp only; with_reducible refine le_bel_add ?_) | (with_reducible assumption) | omega | (dsimp only; omega))))))
  go_big_quiet_step (fail)
  go_big_quiet_step (fail)
  go_big_quiet_step (fail)
  go_big_quiet_step (fail)
  go_big_quiet_step (fail)
  (go_big_quiet_step ((go_at_call 19; with_reducible refine bel_of (HE1.out _ _ _ _ _ _ _ (HI2.out.of ?_) (HI3.out.of ?_)) <;> (repeat' (first | (with_reducible exact Below.refl _ _) | (with_reducible exact Nat.le_refl _) | (with_reducible refine Below.bel ?_ ?_) | (with_reducible refine Below.alloc ?_ ?_ _) | (with_reducible refine Below.drew ?_) | (with_reducible refine Below.drawsN ?_ _) | (with_reducible refine Below.setCell ?_ ?_ _) | (with_reducible refine le_bel ?_) | (with_reducible refine le_alloc ?_) | (with_reducible refine le_setCell ?_) | (with_reducible refine le_drew ?_) | (with_reducible refine le_drawsN ?_) | (dsimp only; with_reducible refine le_bel ?_) | (dsimp only; with_reducible refine Nat.le_refl _) | (dsimp only; with_reducible refine le_bel_add ?_) | (with_reducible assumption) | omega | (dsimp only; omega))))))
  go_big_quiet_step (fail)
  go_big_quiet_step (fail)
  (go_big_quiet_step ((go_at_call 20; with_reducible refine bel_of (HSM.out _ _ _ _ _ _ _ (HI2.out.of ?_) (HI3.out.of ?_)) <;> (repeat' (first | (with_reducible exact Below.refl _ _) | (with_reducible exact Nat.le_refl _) | (with_reducible refine Below.bel ?_ ?_) | (with_reducible refine Below.alloc ?_ ?_ _) | (with_reducible refine Below.drew ?_) | (with_reducible refine Below.drawsN ?_ _) | (with_reducible refine Below.setCell ?_ ?_ _) | (with_reducible refine le_bel ?_) | (with_reducible refine le_alloc ?_) | (with_reducible refine le_setCell ?_) | (with_reducible refine le_drew ?_) | (with_reducible refine le_drawsN ?_) | (dsimp only; with_reducible refine le_bel ?_) | (dsimp only; with_reducible refine Nat.le_refl _) | (dsimp only; with_reducible refine le_bel_add ?_) | (with_reducible assumption) | omega | (dsimp only; omega))))))
  go_big_quiet_step (fail)
  go_big_quiet_step (fail)
  go_big_quiet_step (fail)
  go_big_quiet_step (fail)
  go_big_quiet_step (fail)
  (go_big_quiet_step ((go_at_call 19; with_reducible refine bel_of (HE2.out _ _ _ _ _ _ _ (HI2.out.of ?_) (HI2.out.of ?_)) <;> (repeat' (first | (with_reducible exact Below.refl _ _) | (with_reducible exact Nat.le_refl _) | (with_reducible refine Below.bel ?_ ?_) | (with_reducible refine Below.alloc ?_ ?_ _) | (with_reducible refine Below.drew ?_) | (with_reducible refine Below.drawsN ?_ _) | (with_reducible refine Below.setCell ?_ ?_ _) | (with_reducible refine le_bel ?_) | (with_reducible refine le_alloc ?_) | (with_reducible refine le_setCell ?_) | (with_reducible refine le_drew ?_) | (with_reducible refine le_drawsN ?_) | (dsimp only; with_reducible refine le_bel ?_) | (dsimp only; with_reducible refine Nat.le_refl _) | (dsimp only; with_reducible refine le_bel_add ?_) | (with_reducible assumption) | omega | (dsimp only; omega))))))
  repeat (go_big_quiet_step (fail))
  refine wpQuiet_nil ?_
  rintro _ ⟨z, rfl⟩
  try clear p0 q0 r0 p1 q1 r1
  have hbn := z.below
  have o2' := obj_below hbn (Array.getElem?_eq_some_iff.1 o2).1 o2
  have o3' := obj_below hbn (Array.getElem?_eq_some_iff.1 o3).1 o3
  have HI2' := Lib.hid (HI2.out.of hbn)
  have HI3' := Lib.hid (HI3.out.of hbn)
  have hB' := hB.trans (hbn.mono hB.size)
  obtain ⟨V7, hV⟩ : ∃ V7, z.w = V7 := ⟨_, rfl⟩
  rw [hV] at hB' o2' o3' HI2' HI3' ⊢
  clear hV hbn hB o2 o3 HI2 HI3
  have o2 := o2'
  have o3 := o3'
  have HI2 := HI2'
  have HI3 := HI3'
  have hB := hB'
  clear hB' z o2' o3' HI2' HI3'
  obtain ⟨p0, q0, r0⟩ := box3 o2
  obtain ⟨p1, q1, r1⟩ := box3 o3
  go_wp2_with fail
  clear p0 q0 r0 p1 q1 r1
  refine (HVA.out _ _ _ _ HI2.out).mono ?_
  rintro _ _ ⟨rfl, y, rfl⟩
  have hbn := y.below
  have o2' := obj_below hbn (Array.getElem?_eq_some_iff.1 o2).1 o2
  have o3' := obj_below hbn (Array.getElem?_eq_some_iff.1 o3).1 o3
  have HI2' := Lib.hid (HI2.out.of hbn)
  have HI3' := Lib.hid (HI3.out.of hbn)
  have hB' := hB.trans (hbn.mono hB.size)
  obtain ⟨V8, hV⟩ : ∃ V8, y.w = V8 := ⟨_, rfl⟩
  rw [hV] at hB' o2' o3' HI2' HI3' ⊢
  clear hV hbn hB o2 o3 HI2 HI3
  have o2 := o2'
  have o3 := o3'
  have HI2 := HI2'
  have HI3 := HI3'
  have hB := hB'
  clear hB' y o2' o3' HI2' HI3'
  obtain ⟨p0, q0, r0⟩ := box3 o2
  obtain ⟨p1, q1, r1⟩ := box3 o3
  dsimp only
  go_wp2_with fail
  clear p0 q0 r0 p1 q1 r1
  refine (HSP.out _ _ _ _ HI2.out).mono ?_
  rintro _ _ ⟨rfl, y, rfl⟩
  have hbn := y.below
  have o2' := obj_below hbn (Array.getElem?_eq_some_iff.1 o2).1 o2
  have o3' := obj_below hbn (Array.getElem?_eq_some_iff.1 o3).1 o3
  have HI2' := Lib.hid (HI2.out.of hbn)
  have HI3' := Lib.hid (HI3.out.of hbn)
  have hB' := hB.trans (hbn.mono hB.size)
  obtain ⟨V9, hV⟩ : ∃ V9, y.w = V9 := ⟨_, rfl⟩
  rw [hV] at hB' o2' o3' HI2' HI3' ⊢
  clear hV hbn hB o2 o3 HI2 HI3
  have o2 := o2'
  have o3 := o3'
  have HI2 := HI2'
  have HI3 := HI3'
  have hB := hB'
  clear hB' y o2' o3' HI2' HI3'
  obtain ⟨p0, q0, r0⟩ := box3 o2
  obtain ⟨p1, q1, r1⟩ := box3 o3
  dsimp only
  go_wp2_with fail
  clear p0 q0 r0 p1 q1 r1
  refine (HSU.out _ _ _ _ _ _ _ HI2.out HI3.out).mono ?_
  rintro _ _ ⟨rfl, y, rfl⟩
  have hsy := y.size_le
  have hbn : Below V9.heap.size V9 (y.w.alloc (.cells #[.int .i64 0, .int .i64 0, .slice none 0 0] 26)) := by (repeat' (first | (with_reducible exact Below.refl _ _) | (with_reducible exact Nat.le_refl _) | (with_reducible refine Below.bel ?_ ?_) | (with_reducible refine Below.alloc ?_ ?_ _) | (with_reducible refine Below.drew ?_) | (with_reducible refine Below.drawsN ?_ _) | (with_reducible refine Below.setCell ?_ ?_ _) | (with_reducible refine le_bel ?_) | (with_reducible refine le_alloc ?_) | (with_reducible refine le_setCell ?_) | (with_reducible refine le_drew ?_) | (with_reducible refine le_drawsN ?_) | (dsimp only; with_reducible refine le_bel ?_) | (dsimp only; with_reducible refine Nat.le_refl _) | (dsimp only; with_reducible refine le_bel_add ?_) | (with_reducible assumption) | omega | (dsimp only; omega)))
  have oN := World.alloc_heap_new y.w (.cells #[.int .i64 0, .int .i64 0, .slice none 0 0] 26)
  have o2' := obj_below hbn (Array.getElem?_eq_some_iff.1 o2).1 o2
  have o3' := obj_below hbn (Array.getElem?_eq_some_iff.1 o3).1 o3
  have HI2' := Lib.hid (HI2.out.of hbn)
  have HI3' := Lib.hid (HI3.out.of hbn)
  have hB' := hB.trans (hbn.mono hB.size)
  obtain ⟨p0, q0, r0⟩ := box3 o2'
  obtain ⟨p1, q1, r1⟩ := box3 o3'
  obtain ⟨p2, q2, r2⟩ := box3 oN
  dsimp only
  go_wp2_with fail
  clear p0 q0 r0 p1 q1 r1 p2 q2 r2
  obtain ⟨V10, hV⟩ : ∃ V10, y.w.alloc (.cells #[.int .i64 0, .int .i64 0, .slice none 0 0] 26) = V10 := ⟨_, rfl⟩
  rw [hV] at oN hB' o2' o3' HI2' HI3' ⊢
  clear hV hbn hB o2 o3 HI2 HI3
  have o2 := o2'
  have o3 := o3'
  have HI2 := HI2'
  have HI3 := HI3'
  have hB := hB'
  clear hB' o2' o3' HI2' HI3'
  obtain ⟨B16, hBi⟩ : ∃ B16, y.w.heap.size = B16 := ⟨_, rfl⟩
  rw [hBi] at oN ⊢
  have o16 := oN
  clear oN hBi hsy y
  refine (HRS.out _ _ _ _ HI2.out).mono ?_
  rintro _ _ ⟨rfl, y, rfl⟩
  have hsy := y.size_le
  have hbn : Below V10.heap.size V10 (y.w.alloc (.cells #[.int .i64 0, .int .i64 0, .slice none 0 0] 26)) := by (repeat' (first | (with_reducible exact Below.refl _ _) | (with_reducible exact Nat.le_refl _) | (with_reducible refine Below.bel ?_ ?_) | (with_reducible refine Below.alloc ?_ ?_ _) | (with_reducible refine Below.drew ?_) | (with_reducible refine Below.drawsN ?_ _) | (with_reducible refine Below.setCell ?_ ?_ _) | (with_reducible refine le_bel ?_) | (with_reducible refine le_alloc ?_) | (with_reducible refine le_setCell ?_) | (with_reducible refine le_drew ?_) | (with_reducible refine le_drawsN ?_) | (dsimp only; with_reducible refine le_bel ?_) | (dsimp only; with_reducible refine Nat.le_refl _) | (dsimp only; with_reducible refine le_bel_add ?_) | (with_reducible assumption) | omega | (dsimp only; omega)))
  have oN := World.alloc_heap_new y.w (.cells #[.int .i64 0, .int .i64 0, .slice none 0 0] 26)
  have o2' := obj_below hbn (Array.getElem?_eq_some_iff.1 o2).1 o2
  have o3' := obj_below hbn (Array.getElem?_eq_some_iff.1 o3).1 o3
  have o16' := obj_below hbn (Array.getElem?_eq_some_iff.1 o16).1 o16
  have HI2' := Lib.hid (HI2.out.of hbn)
  have HI3' := Lib.hid (HI3.out.of hbn)
  have hB' := hB.trans (hbn.mono hB.size)
  obtain ⟨p0, q0, r0⟩ := box3 o2'
  obtain ⟨p1, q1, r1⟩ := box3 o3'
  obtain ⟨p2, q2, r2⟩ := box3 o16'
  obtain ⟨p3, q3, r3⟩ := box3 oN
  dsimp only
  go_wp2_with fail
  clear p0 q0 r0 p1 q1 r1 p2 q2 r2 p3 q3 r3
  obtain ⟨V11, hV⟩ : ∃ V11, y.w.alloc (.cells #[.int .i64 0, .int .i64 0, .slice none 0 0] 26) = V11 := ⟨_, rfl⟩
  rw [hV] at oN hB' o2' o3' o16' HI2' HI3' ⊢
  clear hV hbn hB o2 o3 o16 HI2 HI3
  have o2 := o2'
  have o3 := o3'
  have o16 := o16'
  have HI2 := HI2'
  have HI3 := HI3'
  have hB := hB'
  clear hB' o2' o3' o16' HI2' HI3'
  obtain ⟨B18, hBi⟩ : ∃ B18, y.w.heap.size = B18 := ⟨_, rfl⟩
  rw [hBi] at oN ⊢
  have o18 := oN
  clear oN hBi hsy y
  refine (HNO.out _ _ _ _ HI2.out).mono ?_
  rintro _ _ ⟨rfl, y, rfl⟩
  have hsy := y.size_le
  have hbn : Below V11.heap.size V11 (y.w.alloc (.cells #[.int .i64 0, .int .i64 0, .slice none 0 0] 26)) := by (repeat' (first | (with_reducible exact Below.refl _ _) | (with_reducible exact Nat.le_refl _) | (with_reducible refine Below.bel ?_ ?_) | (with_reducible refine Below.alloc ?_ ?_ _) | (with_reducible refine Below.drew ?_) | (with_reducible refine Below.drawsN ?_ _) | (with_reducible refine Below.setCell ?_ ?_ _) | (with_reducible refine le_bel ?_) | (with_reducible refine le_alloc ?_) | (with_reducible refine le_setCell ?_) | (with_reducible refine le_drew ?_) | (with_reducible refine le_drawsN ?_) | (dsimp only; with_reducible refine le_bel ?_) | (dsimp only; with_reducible refine Nat.le_refl _) | (dsimp only; with_reducible refine le_bel_add ?_) | (with_reducible assumption) | omega | (dsimp only; omega)))
  have oN := World.alloc_heap_new y.w (.cells #[.int .i64 0, .int .i64 0, .slice none 0 0] 26)
  have o2' := obj_below hbn (Array.getElem?_eq_some_iff.1 o2).1 o2
  have o3' := obj_below hbn (Array.getElem?_eq_some_iff.1 o3).1 o3
  have o16' := obj_below hbn (Array.getElem?_eq_some_iff.1 o16).1 o16
  have o18' := obj_below hbn (Array.getElem?_eq_some_iff.1 o18).1 o18
  have HI2' := Lib.hid (HI2.out.of hbn)
  have HI3' := Lib.hid (HI3.out.of hbn)
  have hB' := hB.trans (hbn.mono hB.size)
  obtain ⟨p0, q0, r0⟩ := box3 o2'
  obtain ⟨p1, q1, r1⟩ := box3 o3'
  obtain ⟨p2, q2, r2⟩ := box3 o16'
  obtain ⟨p3, q3, r3⟩ := box3 o18'
  obtain ⟨p4, q4, r4⟩ := box3 oN
  dsimp only
  go_wp2_with fail
  clear p0 q0 r0 p1 q1 r1 p2 q2 r2 p3 q3 r3 p4 q4 r4
  obtain ⟨V12, hV⟩ : ∃ V12, y.w.alloc (.cells #[.int .i64 0, .int .i64 0, .slice none 0 0] 26) = V12 := ⟨_, rfl⟩
  rw [hV] at oN hB' o2' o3' o16' o18' HI2' HI3' ⊢
  clear hV hbn hB o2 o3 o16 o18 HI2 HI3
  have o2 := o2'
  have o3 := o3'
  have o16 := o16'
  have o18 := o18'
  have HI2 := HI2'
  have HI3 := HI3'
  have hB := hB'
  clear hB' o2' o3' o16' o18' HI2' HI3'
  obtain ⟨B20, hBi⟩ : ∃ B20, y.w.heap.size = B20 := ⟨_, rfl⟩
  rw [hBi] at oN ⊢
  have o20 := oN
  clear oN hBi hsy y
  refine (HSI.out _ _ _ _ HI2.out).mono ?_
  rintro _ _ ⟨rfl, y, rfl⟩
  have hsy := y.size_le
  have hbn : Below V12.heap.size V12 (y.w.alloc (.cells #[.int .i64 0, .int .i64 0, .slice none 0 0] 26)) := by (repeat' (first | (with_reducible exact Below.refl _ _) | (with_reducible exact Nat.le_refl _) | (with_reducible refine Below.bel ?_ ?_) | (with_reducible refine Below.alloc ?_ ?_ _) | (with_reducible refine Below.drew ?_) | (with_reducible refine Below.drawsN ?_ _) | (with_reducible refine Below.setCell ?_ ?_ _) | (with_reducible refine le_bel ?_) | (with_reducible refine le_alloc ?_) | (with_reducible refine le_setCell ?_) | (with_reducible refine le_drew ?_) | (with_reducible refine le_drawsN ?_) | (dsimp only; with_reducible refine le_bel ?_) | (dsimp only; with_reducible refine Nat.le_refl _) | (dsimp only; with_reducible refine le_bel_add ?_) | (with_reducible assumption) | omega | (dsimp only; omega)))
  have oN := World.alloc_heap_new y.w (.cells #[.int .i64 0, .int .i64 0, .slice none 0 0] 26)
  have o2' := obj_below hbn (Array.getElem?_eq_some_iff.1 o2).1 o2
  have o3' := obj_below hbn (Array.getElem?_eq_some_iff.1 o3).1 o3
  have o16' := obj_below hbn (Array.getElem?_eq_some_iff.1 o16).1 o16
  have o18' := obj_below hbn (Array.getElem?_eq_some_iff.1 o18).1 o18
  have o20' := obj_below hbn (Array.getElem?_eq_some_iff.1 o20).1 o20
  have HI2' := Lib.hid (HI2.out.of hbn)
  have HI3' := Lib.hid (HI3.out.of hbn)
  have hB' := hB.trans (hbn.mono hB.size)
  obtain ⟨p0, q0, r0⟩ := box3 o2'
  obtain ⟨p1, q1, r1⟩ := box3 o3'
  obtain ⟨p2, q2, r2⟩ := box3 o16'
  obtain ⟨p3, q3, r3⟩ := box3 o18'
  obtain ⟨p4, q4, r4⟩ := box3 o20'
  obtain ⟨p5, q5, r5⟩ := box3 oN
  dsimp only
  go_wp2_with fail
  clear p0 q0 r0 p1 q1 r1 p2 q2 r2 p3 q3 r3 p4 q4 r4 p5 q5 r5
  obtain ⟨V13, hV⟩ : ∃ V13, y.w.alloc (.cells #[.int .i64 0, .int .i64 0, .slice none 0 0] 26) = V13 := ⟨_, rfl⟩
  rw [hV] at oN hB' o2' o3' o16' o18' o20' HI2' HI3' ⊢
  clear hV hbn hB o2 o3 o16 o18 o20 HI2 HI3
  have o2 := o2'
  have o3 := o3'
  have o16 := o16'
  have o18 := o18'
  have o20 := o20'
  have HI2 := HI2'
  have HI3 := HI3'
  have hB := hB'
  clear hB' o2' o3' o16' o18' o20' HI2' HI3'
  obtain ⟨B22, hBi⟩ : ∃ B22, y.w.heap.size = B22 := ⟨_, rfl⟩
  rw [hBi] at oN ⊢
  have o22 := oN
  clear oN hBi hsy y
  refine (HTX.out _ _ _ _ HI2.out).mono ?_
  rintro _ _ ⟨rfl, y, rfl⟩
  have hbn := y.below
  have o2' := obj_below hbn (Array.getElem?_eq_some_iff.1 o2).1 o2
  have o3' := obj_below hbn (Array.getElem?_eq_some_iff.1 o3).1 o3
  have o16' := obj_below hbn (Array.getElem?_eq_some_iff.1 o16).1 o16
  have o18' := obj_below hbn (Array.getElem?_eq_some_iff.1 o18).1 o18
  have o20' := obj_below hbn (Array.getElem?_eq_some_iff.1 o20).1 o20
  have o22' := obj_below hbn (Array.getElem?_eq_some_iff.1 o22).1 o22
  have HI2' := Lib.hid (HI2.out.of hbn)
  have HI3' := Lib.hid (HI3.out.of hbn)
  have hB' := hB.trans (hbn.mono hB.size)
  obtain ⟨V14, hV⟩ : ∃ V14, y.w = V14 := ⟨_, rfl⟩
  rw [hV] at hB' o2' o3' o16' o18' o20' o22' HI2' HI3' ⊢
  clear hV hbn hB o2 o3 o16 o18 o20 o22 HI2 HI3
  have o2 := o2'
  have o3 := o3'
  have o16 := o16'
  have o18 := o18'
  have o20 := o20'
  have o22 := o22'
  have HI2 := HI2'
  have HI3 := HI3'
  have hB := hB'
  clear hB' y o2' o3' o16' o18' o20' o22' HI2' HI3'
  obtain ⟨p0, q0, r0⟩ := box3 o2
  obtain ⟨p1, q1, r1⟩ := box3 o3
  obtain ⟨p2, q2, r2⟩ := box3 o16
  obtain ⟨p3, q3, r3⟩ := box3 o18
  obtain ⟨p4, q4, r4⟩ := box3 o20
  obtain ⟨p5, q5, r5⟩ := box3 o22
  dsimp only
  go_wp2_with fail
  clear p0 q0 r0 p1 q1 r1 p2 q2 r2 p3 q3 r3 p4 q4 r4 p5 q5 r5
  refine (none_any _).mono ?_
  rintro _ _ ⟨rfl, y, rfl⟩
  have hbn := y.below
  have o2' := obj_below hbn (Array.getElem?_eq_some_iff.1 o2).1 o2
  have o3' := obj_below hbn (Array.getElem?_eq_some_iff.1 o3).1 o3
  have o16' := obj_below hbn (Array.getElem?_eq_some_iff.1 o16).1 o16
  have o18' := obj_below hbn (Array.getElem?_eq_some_iff.1 o18).1 o18
  have o20' := obj_below hbn (Array.getElem?_eq_some_iff.1 o20).1 o20
  have o22' := obj_below hbn (Array.getElem?_eq_some_iff.1 o22).1 o22
  have HI2' := Lib.hid (HI2.out.of hbn)
  have HI3' := Lib.hid (HI3.out.of hbn)
  have hB' := hB.trans (hbn.mono hB.size)
  obtain ⟨V15, hV⟩ : ∃ V15, y.w = V15 := ⟨_, rfl⟩
  rw [hV] at hB' o2' o3' o16' o18' o20' o22' HI2' HI3' ⊢
  clear hV hbn hB o2 o3 o16 o18 o20 o22 HI2 HI3
  have o2 := o2'
  have o3 := o3'
  have o16 := o16'
  have o18 := o18'
  have o20 := o20'
  have o22 := o22'
  have HI2 := HI2'
  have HI3 := HI3'
  have hB := hB'
  clear hB' y o2' o3' o16' o18' o20' o22' HI2' HI3'
  obtain ⟨p0, q0, r0⟩ := box3 o2
  obtain ⟨p1, q1, r1⟩ := box3 o3
  obtain ⟨p2, q2, r2⟩ := box3 o16
  obtain ⟨p3, q3, r3⟩ := box3 o18
  obtain ⟨p4, q4, r4⟩ := box3 o20
  obtain ⟨p5, q5, r5⟩ := box3 o22
  dsimp only
  go_wp2_with fail
  clear p0 q0 r0 p1 q1 r1 p2 q2 r2 p3 q3 r3 p4 q4 r4 p5 q5 r5
  refine (none_any _).mono ?_
  rintro _ _ ⟨rfl, y, rfl⟩
  have hbn := y.below
  have o2' := obj_below hbn (Array.getElem?_eq_some_iff.1 o2).1 o2
  have o3' := obj_below hbn (Array.getElem?_eq_some_iff.1 o3).1 o3
  have o16' := obj_below hbn (Array.getElem?_eq_some_iff.1 o16).1 o16
  have o18' := obj_below hbn (Array.getElem?_eq_some_iff.1 o18).1 o18
  have o20' := obj_below hbn (Array.getElem?_eq_some_iff.1 o20).1 o20
  have o22' := obj_below hbn (Array.getElem?_eq_some_iff.1 o22).1 o22
  have HI2' := Lib.hid (HI2.out.of hbn)
  have HI3' := Lib.hid (HI3.out.of hbn)
  have hB' := hB.trans (hbn.mono hB.size)
  obtain ⟨V16, hV⟩ : ∃ V16, y.w = V16 := ⟨_, rfl⟩
  rw [hV] at hB' o2' o3' o16' o18' o20' o22' HI2' HI3' ⊢
  clear hV hbn hB o2 o3 o16 o18 o20 o22 HI2 HI3
  have o2 := o2'
  have o3 := o3'
  have o16 := o16'
  have o18 := o18'
  have o20 := o20'
  have o22 := o22'
  have HI2 := HI2'
  have HI3 := HI3'
  have hB := hB'
  clear hB' y o2' o3' o16' o18' o20' o22' HI2' HI3'
  obtain ⟨p0, q0, r0⟩ := box3 o2
  obtain ⟨p1, q1, r1⟩ := box3 o3
  obtain ⟨p2, q2, r2⟩ := box3 o16
  obtain ⟨p3, q3, r3⟩ := box3 o18
  obtain ⟨p4, q4, r4⟩ := box3 o20
  obtain ⟨p5, q5, r5⟩ := box3 o22
  dsimp only
  go_wp2_with fail
  clear p0 q0 r0 p1 q1 r1 p2 q2 r2 p3 q3 r3 p4 q4 r4 p5 q5 r5
  refine (none_any _).mono ?_
  rintro _ _ ⟨rfl, y, rfl⟩
  have hbn := y.below
  have o2' := obj_below hbn (Array.getElem?_eq_some_iff.1 o2).1 o2
  have o3' := obj_below hbn (Array.getElem?_eq_some_iff.1 o3).1 o3
  have o16' := obj_below hbn (Array.getElem?_eq_some_iff.1 o16).1 o16
  have o18' := obj_below hbn (Array.getElem?_eq_some_iff.1 o18).1 o18
  have o20' := obj_below hbn (Array.getElem?_eq_some_iff.1 o20).1 o20
  have o22' := obj_below hbn (Array.getElem?_eq_some_iff.1 o22).1 o22
  have HI2' := Lib.hid (HI2.out.of hbn)
  have HI3' := Lib.hid (HI3.out.of hbn)
  have hB' := hB.trans (hbn.mono hB.size)
  obtain ⟨V17, hV⟩ : ∃ V17, y.w = V17 := ⟨_, rfl⟩
  rw [hV] at hB' o2' o3' o16' o18' o20' o22' HI2' HI3' ⊢
  clear hV hbn hB o2 o3 o16 o18 o20 o22 HI2 HI3
  have o2 := o2'
  have o3 := o3'
  have o16 := o16'
  have o18 := o18'
  have o20 := o20'
  have o22 := o22'
  have HI2 := HI2'
  have HI3 := HI3'
  have hB := hB'
  clear hB' y o2' o3' o16' o18' o20' o22' HI2' HI3'
  obtain ⟨p0, q0, r0⟩ := box3 o2
  obtain ⟨p1, q1, r1⟩ := box3 o3
  obtain ⟨p2, q2, r2⟩ := box3 o16
  obtain ⟨p3, q3, r3⟩ := box3 o18
  obtain ⟨p4, q4, r4⟩ := box3 o20
  obtain ⟨p5, q5, r5⟩ := box3 o22
  dsimp only
  go_wp2_with fail
  clear p0 q0 r0 p1 q1 r1 p2 q2 r2 p3 q3 r3 p4 q4 r4 p5 q5 r5
  refine (none_any _).mono ?_
  rintro _ _ ⟨rfl, y, rfl⟩
  have hBs := hB.size
  dsimp only
  go_wp2
  go_ret
  exact Ret.mk (by rfl) (by (repeat' (first | (with_reducible exact Below.refl _ _) | (with_reducible exact Nat.le_refl _) | (with_reducible refine Below.bel ?_ ?_) | (with_reducible refine Below.alloc ?_ ?_ _) | (with_reducible refine Below.drew ?_) | (with_reducible refine Below.drawsN ?_ _) | (with_reducible refine Below.setCell ?_ ?_ _) | (with_reducible refine le_bel ?_) | (with_reducible refine le_alloc ?_) | (with_reducible refine le_setCell ?_) | (with_reducible refine le_drew ?_) | (with_reducible refine le_drawsN ?_) | (dsimp only; with_reducible refine le_bel ?_) | (dsimp only; with_reducible refine Nat.le_refl _) | (dsimp only; with_reducible refine le_bel_add ?_) | (with_reducible assumption) | omega | (dsimp only; omega))))
end Go.Proofs.YtkbellmhanpocaaGreatDoor
