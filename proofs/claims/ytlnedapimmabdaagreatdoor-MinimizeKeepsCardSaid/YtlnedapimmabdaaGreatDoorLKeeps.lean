/- The walk of MinimizeKeeps. -/
import Derived.Test.YtlnedapimmabdaaGreatDoorV6
import Derived.Test.YtlnedapimmabdaaGreatDoorVw
import Derived.Deep.CutRange
import Derived.Deep.RegionHeld3
namespace Go.Proofs.YtlnedapimmabdaaGreatDoor
set_option linter.unusedVariables false
set_option linter.unusedSimpArgs false
open Go.RowKit Go.Maps
attribute [local go_sem low] Bel.cell Bel.frozen alloc_cell alloc_frozen
attribute [local go_sem] calmOp chainOp yieldsC grows

set_option maxRecDepth 100000 in
set_option maxHeartbeats 12800000 in
theorem lawKeeps_not (n m : Nat) (ga oa : Option Addr) (gc oc : Nat) (w : World) (hT : Tab w) (hs : ∀ w', Below w.heap.size w w' → Calls Tryz.prog 12 #[.agg #[.slice ga n gc, .slice oa m oc]] w' (Ret (.bool false) w')) : Calls Tryz.prog 6 #[.agg #[.slice ga n gc, .slice oa m oc]] w (Ret (.bool true) w) := by
  have HT := Lib.hid hT
  have HS := Lib.hid hs
  have hx := World.alloc_heap_new w (.cells #[.slice ga n gc, .slice oa m oc] 25 (0, 0))
  have HX := Lib.hid hx
  clear hT hs hx
  go_enter Tryz.func6, Tryz.ntmps6
  go_wp2_with fail
  (with_reducible refine (known_any _ (HT.out.of (by (repeat' (first | (with_reducible first | apply Zl1 | apply Zl2 | apply Zl3 | apply Zl4 | apply Zl5 | apply Zl6 | apply Zl7 | apply Zl8 | apply Zl9 | apply Zla | apply Zlb | apply Zlc) | (dsimp only; with_reducible first | apply Zl8 | apply Zl2 | apply Zld) | with_reducible assumption | omega | (dsimp only; omega)))))).mono ?_)
  rintro _ _ ⟨rfl, y1, rfl⟩
  obtain ⟨n1, n2, -⟩ := box2 (obj_in y1.below HX.out)
  dsimp only
  go_wp2_with fail
  (with_reducible refine (HS.out _ (by (repeat' (first | (with_reducible first | apply Zl1 | apply Zl2 | apply Zl3 | apply Zl4 | apply Zl5 | apply Zl6 | apply Zl7 | apply Zl8 | apply Zl9 | apply Zla | apply Zlb | apply Zlc) | (dsimp only; with_reducible first | apply Zl8 | apply Zl2 | apply Zld) | with_reducible assumption | omega | (dsimp only; omega))))).mono ?_)
  rintro _ _ ⟨rfl, y2, rfl⟩
  dsimp only
  go_wp2_with fail
  (with_reducible refine (known_any _ (HT.out.of (by (repeat' (first | (with_reducible first | apply Zl1 | apply Zl2 | apply Zl3 | apply Zl4 | apply Zl5 | apply Zl6 | apply Zl7 | apply Zl8 | apply Zl9 | apply Zla | apply Zlb | apply Zlc) | (dsimp only; with_reducible first | apply Zl8 | apply Zl2 | apply Zld) | with_reducible assumption | omega | (dsimp only; omega)))))).mono ?_)
  rintro _ _ ⟨rfl, y3, rfl⟩
  dsimp only
  go_wp2
  go_ret
  exact Ret.mk (by rfl) (by (repeat' (first | (with_reducible first | apply Zl1 | apply Zl2 | apply Zl3 | apply Zl4 | apply Zl5 | apply Zl6 | apply Zl7 | apply Zl8 | apply Zl9 | apply Zla | apply Zlb | apply Zlc) | (dsimp only; with_reducible first | apply Zl8 | apply Zl2 | apply Zld) | with_reducible assumption | omega | (dsimp only; omega))))
theorem outF_clean {v : Nat} {N : Nt} (h : okN v N) : outF N.1 N.2 = outF (cleanG N).1 (cleanG N).2 := by
  obtain ⟨_, _, h3, h4⟩ := cleanG_ok h
  refine List.ext_getElem? fun j => ?_
  unfold outF
  rw [List.getElem?_map, List.getElem?_map]
  cases hj : N.2[j]? with
  | none => rw [List.getElem?_eq_none (by rw [h3]; exact List.getElem?_eq_none_iff.1 hj)]; rfl
  | some o =>
    obtain ⟨p, hp, _⟩ := h4 (fun _ => false) j o hj
    rw [hp]
    simp only [Option.map_some, Option.some.injEq]
    funext ρ
    obtain ⟨p', hp', e⟩ := h4 ρ j o hj
    rw [hp] at hp'
    injection hp' with hp'
    rw [hp', e]
theorem outF_reduce {N : Nt} (h : okN 6 N) : outF N.1 N.2 = outF (reduceG tabsG N).1 (reduceG tabsG N).2 := by
  obtain ⟨_, _, h3, h4⟩ := reduceG_ok tabs_ok h
  refine List.ext_getElem? fun j => ?_
  unfold outF
  rw [List.getElem?_map, List.getElem?_map]
  cases hj : N.2[j]? with
  | none => rw [List.getElem?_eq_none (by rw [h3]; exact List.getElem?_eq_none_iff.1 hj)]; rfl
  | some o =>
    obtain ⟨p, hp, _⟩ := h4 (fun _ => false) trivial j o hj
    rw [hp]
    simp only [Option.map_some, Option.some.injEq]
    funext ρ
    obtain ⟨p', hp', e⟩ := h4 ρ trivial j o hj
    rw [hp] at hp'
    injection hp' with hp'
    rw [hp', e]
set_option maxRecDepth 100000 in
set_option maxHeartbeats 12800000 in
theorem lawKeeps_small (x : NW) (w : World) (hT : Tab w) (h : NWs 6 w x) (l1 : x.1.1.length ≤ 16) (l2 : x.1.2.length ≤ 8) (l3 : ∀ g ∈ x.1.1, g.2.2.length ≤ 8) : Calls Tryz.prog 6 #[nwV x] w (Ret (.bool true) w) := by
  have HOK := Lib.hid h.ok.ok
  have HX := Lib.hid h
  clear h
  unfold nwV nV
  have HT := Lib.hid hT
  clear hT
  go_enter Tryz.func6, Tryz.ntmps6
  go_wp2_with fail
  have hB : Below w.heap.size w (w.alloc (.cells #[.slice x.2.1 x.1.1.length x.2.2.1, .slice x.2.2.2.1 x.1.2.length x.2.2.2.2] 25 (0, 0))) := ((Below.refl w.heap.size w).alloc (Nat.le_refl _) _)
  have xb := World.alloc_heap_new w (.cells #[.slice x.2.1 x.1.1.length x.2.2.1, .slice x.2.2.2.1 x.1.2.length x.2.2.2.2] 25 (0, 0))
  have HX := Lib.hid (HX.out.of hB)
  obtain ⟨V1, hV⟩ : ∃ V1, (w.alloc (.cells #[.slice x.2.1 x.1.1.length x.2.2.1, .slice x.2.2.2.1 x.1.2.length x.2.2.2.2] 25 (0, 0))) = V1 := ⟨_, rfl⟩
  rw [hV] at hB xb HX ⊢
  clear hV
  refine (known_any _ (HT.out.of hB)).mono ?_
  rintro _ _ ⟨rfl, r1, rfl⟩
  have hbk := r1.below
  replace xb := obj_in hbk xb
  replace HX := Lib.hid (HX.out.of hbk)
  replace hB := hB.trans (hbk.mono hB.size)
  clear hbk
  obtain ⟨V2, hV⟩ : ∃ V2, r1.w = V2 := ⟨_, rfl⟩
  rw [hV] at hB xb HX ⊢
  clear hV
  obtain ⟨n0, m0, -⟩ := box2 xb
  dsimp only
  go_wp2_with fail
  clear n0 m0
  refine (small_nw x _ HX.out l1 l2 l3).mono ?_
  rintro _ _ ⟨rfl, r2, rfl⟩
  have hbk := r2.below
  replace xb := obj_in hbk xb
  replace HX := Lib.hid (HX.out.of hbk)
  replace hB := hB.trans (hbk.mono hB.size)
  clear hbk
  obtain ⟨V3, hV⟩ : ∃ V3, r2.w = V3 := ⟨_, rfl⟩
  rw [hV] at hB xb HX ⊢
  clear hV
  obtain ⟨n0, m0, -⟩ := box2 xb
  dsimp only
  go_wp2_with fail
  clear n0 m0
  refine (Clean_nw (v := 6) (by decide) x _ HX.out (HT.out.of hB)).mono ?_
  rintro _ W3 ⟨c1, hc, hn, rfl, hbk⟩
  replace xb := obj_in hbk xb
  replace HX := Lib.hid (HX.out.of hbk)
  replace hB := hB.trans (hbk.mono hB.size)
  have HCc1 := Lib.hid hc
  have Hc1 := Lib.hid hn
  clear hbk hc hn
  unfold nwV nV
  dsimp only
  obtain ⟨n0, m0, -⟩ := box2 xb
  go_wp2_with fail
  clear n0 m0
  have hbk : Below W3.heap.size W3 (W3.alloc (.cells #[.slice c1.2.1 c1.1.1.length c1.2.2.1, .slice c1.2.2.2.1 c1.1.2.length c1.2.2.2.2] 25 (0, 0))) := (Below.refl _ _).alloc (Nat.le_refl _) _
  replace xb := obj_in hbk xb
  replace HX := Lib.hid (HX.out.of hbk)
  replace Hc1 := Lib.hid (Hc1.out.of hbk)
  replace hB := hB.trans (hbk.mono hB.size)
  clear hbk
  have b1 := World.alloc_heap_new W3 (.cells #[.slice c1.2.1 c1.1.1.length c1.2.2.1, .slice c1.2.2.2.1 c1.1.2.length c1.2.2.2.2] 25 (0, 0))
  obtain ⟨V4, hV⟩ : ∃ V4, (W3.alloc (.cells #[.slice c1.2.1 c1.1.1.length c1.2.2.1, .slice c1.2.2.2.1 c1.1.2.length c1.2.2.2.2] 25 (0, 0))) = V4 := ⟨_, rfl⟩
  rw [hV] at hB xb b1 HX Hc1 ⊢
  clear hV
  refine (Reduce_nw (v := 6) (by decide) x _ HX.out (HT.out.of hB)).mono ?_
  rintro _ W4 ⟨r1, hc, hn, rfl, hbk⟩
  replace xb := obj_in hbk xb
  replace b1 := obj_in hbk b1
  replace HX := Lib.hid (HX.out.of hbk)
  replace Hc1 := Lib.hid (Hc1.out.of hbk)
  replace hB := hB.trans (hbk.mono hB.size)
  have HCr1 := Lib.hid hc
  have Hr1 := Lib.hid hn
  clear hbk hc hn
  unfold nwV nV
  dsimp only
  obtain ⟨n0, m0, -⟩ := box2 b1
  go_wp2_with fail
  clear n0 m0
  have hbk : Below W4.heap.size W4 (W4.alloc (.cells #[.slice r1.2.1 r1.1.1.length r1.2.2.1, .slice r1.2.2.2.1 r1.1.2.length r1.2.2.2.2] 25 (0, 0))) := (Below.refl _ _).alloc (Nat.le_refl _) _
  replace xb := obj_in hbk xb
  replace b1 := obj_in hbk b1
  replace HX := Lib.hid (HX.out.of hbk)
  replace Hc1 := Lib.hid (Hc1.out.of hbk)
  replace Hr1 := Lib.hid (Hr1.out.of hbk)
  replace hB := hB.trans (hbk.mono hB.size)
  clear hbk
  have b2 := World.alloc_heap_new W4 (.cells #[.slice r1.2.1 r1.1.1.length r1.2.2.1, .slice r1.2.2.2.1 r1.1.2.length r1.2.2.2.2] 25 (0, 0))
  obtain ⟨V5, hV⟩ : ∃ V5, (W4.alloc (.cells #[.slice r1.2.1 r1.1.1.length r1.2.2.1, .slice r1.2.2.2.1 r1.1.2.length r1.2.2.2.2] 25 (0, 0))) = V5 := ⟨_, rfl⟩
  rw [hV] at hB xb b1 b2 HX Hc1 Hr1 ⊢
  clear hV
  refine (Clean_nw (v := 6) (by decide) c1 _ Hc1.out (HT.out.of hB)).mono ?_
  rintro _ W5 ⟨c2, hc, hn, rfl, hbk⟩
  replace xb := obj_in hbk xb
  replace b1 := obj_in hbk b1
  replace b2 := obj_in hbk b2
  replace HX := Lib.hid (HX.out.of hbk)
  replace Hc1 := Lib.hid (Hc1.out.of hbk)
  replace Hr1 := Lib.hid (Hr1.out.of hbk)
  replace hB := hB.trans (hbk.mono hB.size)
  have HCc2 := Lib.hid hc
  have Hc2 := Lib.hid hn
  clear hbk hc hn
  unfold nwV nV
  dsimp only
  obtain ⟨n0, m0, -⟩ := box2 b2
  go_wp2_with fail
  clear n0 m0
  have hbk : Below W5.heap.size W5 (W5.alloc (.cells #[.slice c2.2.1 c2.1.1.length c2.2.2.1, .slice c2.2.2.2.1 c2.1.2.length c2.2.2.2.2] 25 (0, 0))) := (Below.refl _ _).alloc (Nat.le_refl _) _
  replace xb := obj_in hbk xb
  replace b1 := obj_in hbk b1
  replace b2 := obj_in hbk b2
  replace HX := Lib.hid (HX.out.of hbk)
  replace Hc1 := Lib.hid (Hc1.out.of hbk)
  replace Hr1 := Lib.hid (Hr1.out.of hbk)
  replace Hc2 := Lib.hid (Hc2.out.of hbk)
  replace hB := hB.trans (hbk.mono hB.size)
  clear hbk
  have b3 := World.alloc_heap_new W5 (.cells #[.slice c2.2.1 c2.1.1.length c2.2.2.1, .slice c2.2.2.2.1 c2.1.2.length c2.2.2.2.2] 25 (0, 0))
  obtain ⟨V6, hV⟩ : ∃ V6, (W5.alloc (.cells #[.slice c2.2.1 c2.1.1.length c2.2.2.1, .slice c2.2.2.2.1 c2.1.2.length c2.2.2.2.2] 25 (0, 0))) = V6 := ⟨_, rfl⟩
  rw [hV] at hB xb b1 b2 b3 HX Hc1 Hr1 Hc2 ⊢
  clear hV
  have e1 : c1.1 = c2.1 := by rw [HCc2.out, HCc1.out, cleanG_id (cleanG_clean HOK.out)]
  have E1 := Lib.hid e1
  clear e1
  refine (Reduce_nw (v := 6) (by decide) r1 _ Hr1.out (HT.out.of hB)).mono ?_
  rintro _ W6 ⟨r2, hc, hn, rfl, hbk⟩
  replace xb := obj_in hbk xb
  replace b1 := obj_in hbk b1
  replace b2 := obj_in hbk b2
  replace b3 := obj_in hbk b3
  replace HX := Lib.hid (HX.out.of hbk)
  replace Hc1 := Lib.hid (Hc1.out.of hbk)
  replace Hr1 := Lib.hid (Hr1.out.of hbk)
  replace Hc2 := Lib.hid (Hc2.out.of hbk)
  replace hB := hB.trans (hbk.mono hB.size)
  have HCr2 := Lib.hid hc
  have Hr2 := Lib.hid hn
  clear hbk hc hn
  unfold nwV nV
  dsimp only
  obtain ⟨n0, m0, -⟩ := box2 b1
  obtain ⟨n1, m1, -⟩ := box2 b3
  go_wp2_with fail
  clear n0 m0 n1 m1
  have hbk : Below W6.heap.size W6 (W6.alloc (.cells #[.slice r2.2.1 r2.1.1.length r2.2.2.1, .slice r2.2.2.2.1 r2.1.2.length r2.2.2.2.2] 25 (0, 0))) := (Below.refl _ _).alloc (Nat.le_refl _) _
  replace xb := obj_in hbk xb
  replace b1 := obj_in hbk b1
  replace b2 := obj_in hbk b2
  replace b3 := obj_in hbk b3
  replace HX := Lib.hid (HX.out.of hbk)
  replace Hc1 := Lib.hid (Hc1.out.of hbk)
  replace Hr1 := Lib.hid (Hr1.out.of hbk)
  replace Hc2 := Lib.hid (Hc2.out.of hbk)
  replace Hr2 := Lib.hid (Hr2.out.of hbk)
  replace hB := hB.trans (hbk.mono hB.size)
  clear hbk
  have b4 := World.alloc_heap_new W6 (.cells #[.slice r2.2.1 r2.1.1.length r2.2.2.1, .slice r2.2.2.2.1 r2.1.2.length r2.2.2.2.2] 25 (0, 0))
  obtain ⟨V7, hV⟩ : ∃ V7, (W6.alloc (.cells #[.slice r2.2.1 r2.1.1.length r2.2.2.1, .slice r2.2.2.2.1 r2.1.2.length r2.2.2.2.2] 25 (0, 0))) = V7 := ⟨_, rfl⟩
  rw [hV] at hB xb b1 b2 b3 b4 HX Hc1 Hr1 Hc2 Hr2 ⊢
  clear hV
  have e2 : r1.1 = r2.1 := by rw [HCr2.out, HCr1.out, reduceG_twice tabs_ok HOK.out]
  have E2 := Lib.hid e2
  clear e2
  have q1 := relEq_nw c1 c2 _ Hc1.out Hc2.out
  rw [decide_eq_true E1.out] at q1
  have Q1 := Lib.hid q1
  clear q1
  refine (Q1.out).mono ?_
  rintro _ _ ⟨rfl, r7, rfl⟩
  have hbk := r7.below
  replace xb := obj_in hbk xb
  replace b1 := obj_in hbk b1
  replace b2 := obj_in hbk b2
  replace b3 := obj_in hbk b3
  replace b4 := obj_in hbk b4
  replace HX := Lib.hid (HX.out.of hbk)
  replace Hc1 := Lib.hid (Hc1.out.of hbk)
  replace Hr1 := Lib.hid (Hr1.out.of hbk)
  replace Hc2 := Lib.hid (Hc2.out.of hbk)
  replace Hr2 := Lib.hid (Hr2.out.of hbk)
  replace hB := hB.trans (hbk.mono hB.size)
  clear hbk
  obtain ⟨V8, hV⟩ : ∃ V8, r7.w = V8 := ⟨_, rfl⟩
  rw [hV] at hB xb b1 b2 b3 b4 HX Hc1 Hr1 Hc2 Hr2 ⊢
  clear hV
  obtain ⟨n0, m0, -⟩ := box2 b2
  obtain ⟨n1, m1, -⟩ := box2 b4
  dsimp only
  go_wp2_with fail
  clear n0 m0 n1 m1
  have q2 := relEq_nw r1 r2 _ Hr1.out Hr2.out
  rw [decide_eq_true E2.out] at q2
  have Q2 := Lib.hid q2
  clear q2
  have g1 : r1.1.1.length ≤ c1.1.1.length := by rw [HCr1.out, HCc1.out]; exact (reduceG_ok tabs_ok HOK.out).2.1
  have g2 : c1.1.1.length ≤ x.1.1.length := by rw [HCc1.out]; exact (cleanG_ok HOK.out).2.1
  have f1 : decide ((c1.1.1.length : Int) < (r1.1.1.length : Int)) = false := decide_eq_false (by omega)
  have f3 : decide (c1.1.1.length < r1.1.1.length) = false := decide_eq_false (by omega)
  have f4 : decide (x.1.1.length < c1.1.1.length) = false := decide_eq_false (by omega)
  have f2 : decide ((x.1.1.length : Int) < (c1.1.1.length : Int)) = false := decide_eq_false (by omega)
  have l4 : x.1.2.length = c1.1.2.length := by rw [HCc1.out]; exact (cleanG_ok HOK.out).2.2.1.symm
  have l5 : x.1.2.length = r1.1.2.length := by rw [HCr1.out]; exact (reduceG_ok tabs_ok HOK.out).2.2.1.symm
  have L45 := Lib.hid (And.intro l4 l5)
  clear g1 g2 l4 l5
  refine (Q2.out).mono ?_
  rintro _ _ ⟨rfl, r8, rfl⟩
  have hbk := r8.below
  replace xb := obj_in hbk xb
  replace b1 := obj_in hbk b1
  replace b2 := obj_in hbk b2
  replace b3 := obj_in hbk b3
  replace b4 := obj_in hbk b4
  replace HX := Lib.hid (HX.out.of hbk)
  replace Hc1 := Lib.hid (Hc1.out.of hbk)
  replace Hr1 := Lib.hid (Hr1.out.of hbk)
  replace Hc2 := Lib.hid (Hc2.out.of hbk)
  replace Hr2 := Lib.hid (Hr2.out.of hbk)
  replace hB := hB.trans (hbk.mono hB.size)
  clear hbk
  obtain ⟨V9, hV⟩ : ∃ V9, r8.w = V9 := ⟨_, rfl⟩
  rw [hV] at hB xb b1 b2 b3 b4 HX Hc1 Hr1 Hc2 Hr2 ⊢
  clear hV
  obtain ⟨n0, m0, -⟩ := box2 b2
  obtain ⟨n1, m1, -⟩ := box2 b1
  obtain ⟨n2, m2, -⟩ := box2 xb
  dsimp only
  go_wp2_with fail
  clear n0 m0 n1 m1 n2 m2
  have q3 := Equal_yes (v := 6) (by decide) x c1 _ HX.out Hc1.out L45.out.1 (show outF x.1.1 x.1.2 = outF c1.1.1 c1.1.2 by rw [HCc1.out]; exact outF_clean HOK.out)
  have Q3 := Lib.hid q3
  clear q3
  refine (Q3.out).mono ?_
  rintro _ _ ⟨rfl, r9, rfl⟩
  have hbk := r9.below
  replace xb := obj_in hbk xb
  replace b1 := obj_in hbk b1
  replace b2 := obj_in hbk b2
  replace b3 := obj_in hbk b3
  replace b4 := obj_in hbk b4
  replace HX := Lib.hid (HX.out.of hbk)
  replace Hc1 := Lib.hid (Hc1.out.of hbk)
  replace Hr1 := Lib.hid (Hr1.out.of hbk)
  replace Hc2 := Lib.hid (Hc2.out.of hbk)
  replace Hr2 := Lib.hid (Hr2.out.of hbk)
  replace hB := hB.trans (hbk.mono hB.size)
  clear hbk
  obtain ⟨V10, hV⟩ : ∃ V10, r9.w = V10 := ⟨_, rfl⟩
  rw [hV] at hB xb b1 b2 b3 b4 HX Hc1 Hr1 Hc2 Hr2 ⊢
  clear hV
  obtain ⟨n0, m0, -⟩ := box2 xb
  obtain ⟨n1, m1, -⟩ := box2 b2
  dsimp only
  go_wp2_with fail
  clear n0 m0 n1 m1
  have q4 := Equal_yes (v := 6) (by decide) x r1 _ HX.out Hr1.out L45.out.2 (show outF x.1.1 x.1.2 = outF r1.1.1 r1.1.2 by rw [HCr1.out]; exact outF_reduce HOK.out)
  have Q4 := Lib.hid q4
  clear q4
  refine Q4.out.mono ?_
  rintro _ _ ⟨rfl, yz, rfl⟩
  dsimp only
  go_wp2
  go_ret
  exact Ret.mk rfl (hB.trans (yz.below.mono hB.size))
end Go.Proofs.YtlnedapimmabdaaGreatDoor
