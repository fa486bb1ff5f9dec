/- The walk of MinimizeReduces. -/
import Derived.Test.YtlnedapimmabdaaGreatDoorV6
import Derived.Test.YtlnedapimmabdaaGreatDoorVw
import Derived.Deep.CutRange
import Derived.Deep.RegionHeld3
namespace Go.Proofs.YtlnedapimmabdaaGreatDoor
set_option linter.unusedVariables false
set_option linter.unusedSimpArgs false
open Go.RowKit Go.Maps
attribute [local go_sem low] Bel.cell Bel.frozen alloc_cell alloc_frozen
attribute [local go_sem] calmOp chainOp yieldsC grows

set_option maxRecDepth 100000 in
set_option maxHeartbeats 12800000 in
theorem lawReduces_not (n m : Nat) (ga oa : Option Addr) (gc oc : Nat) (w : World) (hT : Tab w) (hs : ∀ w', Below w.heap.size w w' → Calls Tryz.prog 12 #[.agg #[.slice ga n gc, .slice oa m oc]] w' (Ret (.bool false) w')) : Calls Tryz.prog 4 #[.agg #[.slice ga n gc, .slice oa m oc]] w (Ret (.bool true) w) := by
  have HT := Lib.hid hT
  have HS := Lib.hid hs
  have hx := World.alloc_heap_new w (.cells #[.slice ga n gc, .slice oa m oc] 25 (0, 0))
  have HX := Lib.hid hx
  clear hT hs hx
  go_enter Tryz.func4, Tryz.ntmps4
  go_wp2_with fail
  (with_reducible refine (known_any _ (HT.out.of (by (repeat' (first | (with_reducible first | apply Zl1 | apply Zl2 | apply Zl3 | apply Zl4 | apply Zl5 | apply Zl6 | apply Zl7 | apply Zl8 | apply Zl9 | apply Zla | apply Zlb | apply Zlc) | (dsimp only; with_reducible first | apply Zl8 | apply Zl2 | apply Zld) | with_reducible assumption | omega | (dsimp only; omega)))))).mono ?_)
  rintro _ _ ⟨rfl, y1, rfl⟩
  obtain ⟨n1, n2, -⟩ := box2 (obj_in y1.below HX.out)
  dsimp only
  go_wp2_with fail
  (with_reducible refine (HS.out _ (by (repeat' (first | (with_reducible first | apply Zl1 | apply Zl2 | apply Zl3 | apply Zl4 | apply Zl5 | apply Zl6 | apply Zl7 | apply Zl8 | apply Zl9 | apply Zla | apply Zlb | apply Zlc) | (dsimp only; with_reducible first | apply Zl8 | apply Zl2 | apply Zld) | with_reducible assumption | omega | (dsimp only; omega))))).mono ?_)
  rintro _ _ ⟨rfl, y2, rfl⟩
  dsimp only
  go_wp2_with fail
  (with_reducible refine (known_any _ (HT.out.of (by (repeat' (first | (with_reducible first | apply Zl1 | apply Zl2 | apply Zl3 | apply Zl4 | apply Zl5 | apply Zl6 | apply Zl7 | apply Zl8 | apply Zl9 | apply Zla | apply Zlb | apply Zlc) | (dsimp only; with_reducible first | apply Zl8 | apply Zl2 | apply Zld) | with_reducible assumption | omega | (dsimp only; omega)))))).mono ?_)
  rintro _ _ ⟨rfl, y3, rfl⟩
  dsimp only
  go_wp2
  go_ret
  exact Ret.mk (by rfl) (by (repeat' (first | (with_reducible first | apply Zl1 | apply Zl2 | apply Zl3 | apply Zl4 | apply Zl5 | apply Zl6 | apply Zl7 | apply Zl8 | apply Zl9 | apply Zla | apply Zlb | apply Zlc) | (dsimp only; with_reducible first | apply Zl8 | apply Zl2 | apply Zld) | with_reducible assumption | omega | (dsimp only; omega))))
set_option maxRecDepth 100000 in
set_option maxHeartbeats 12800000 in
theorem lawReduces_small (x : NW) (w : World) (hT : Tab w) (h : NWs 6 w x) (l1 : x.1.1.length ≤ 16) (l2 : x.1.2.length ≤ 8) (l3 : ∀ g ∈ x.1.1, g.2.2.length ≤ 8) : Calls Tryz.prog 4 #[nwV x] w (Ret (.bool true) w) := by
  have HX := Lib.hid h
  clear h
  have hl1 : x.1.1.length ≤ 10000 := by omega
  unfold nwV nV
  have HT := Lib.hid hT
  clear hT
  go_enter Tryz.func4, Tryz.ntmps4
  go_wp2_with fail
  have hB : Below w.heap.size w (w.alloc (.cells #[.slice x.2.1 x.1.1.length x.2.2.1, .slice x.2.2.2.1 x.1.2.length x.2.2.2.2] 25 (0, 0))) := ((Below.refl w.heap.size w).alloc (Nat.le_refl _) _)
  have xb := World.alloc_heap_new w (.cells #[.slice x.2.1 x.1.1.length x.2.2.1, .slice x.2.2.2.1 x.1.2.length x.2.2.2.2] 25 (0, 0))
  have HX := Lib.hid (HX.out.of hB)
  obtain ⟨V1, hV⟩ : ∃ V1, (w.alloc (.cells #[.slice x.2.1 x.1.1.length x.2.2.1, .slice x.2.2.2.1 x.1.2.length x.2.2.2.2] 25 (0, 0))) = V1 := ⟨_, rfl⟩
  rw [hV] at hB xb HX ⊢
  clear hV
  refine (known_any _ (HT.out.of hB)).mono ?_
  rintro _ _ ⟨rfl, r1, rfl⟩
  have hbk := r1.below
  replace xb := obj_in hbk xb
  replace HX := Lib.hid (HX.out.of hbk)
  replace hB := hB.trans (hbk.mono hB.size)
  clear hbk
  obtain ⟨V2, hV⟩ : ∃ V2, r1.w = V2 := ⟨_, rfl⟩
  rw [hV] at hB xb HX ⊢
  clear hV
  obtain ⟨n0, m0, -⟩ := box2 xb
  dsimp only
  go_wp2_with fail
  clear n0 m0
  refine (small_nw x _ HX.out l1 l2 l3).mono ?_
  rintro _ _ ⟨rfl, r2, rfl⟩
  have hbk := r2.below
  replace xb := obj_in hbk xb
  replace HX := Lib.hid (HX.out.of hbk)
  replace hB := hB.trans (hbk.mono hB.size)
  clear hbk
  obtain ⟨V3, hV⟩ : ∃ V3, r2.w = V3 := ⟨_, rfl⟩
  rw [hV] at hB xb HX ⊢
  clear hV
  obtain ⟨n0, m0, -⟩ := box2 xb
  dsimp only
  go_wp2_with fail
  clear n0 m0
  refine (Reduce_nw (v := 6) (by decide) x _ HX.out (HT.out.of hB)).mono ?_
  rintro _ W3 ⟨c, hc, hn, rfl, hbk⟩
  replace xb := obj_in hbk xb
  replace HX := Lib.hid (HX.out.of hbk)
  replace hB := hB.trans (hbk.mono hB.size)
  have HCc := Lib.hid hc
  have Hc := Lib.hid hn
  clear hbk hc hn
  unfold nwV nV
  dsimp only
  go_wp2_with fail
  have hbk : Below W3.heap.size W3 (W3.alloc (.cells #[.slice c.2.1 c.1.1.length c.2.2.1, .slice c.2.2.2.1 c.1.2.length c.2.2.2.2] 25 (0, 0))) := (Below.refl _ _).alloc (Nat.le_refl _) _
  replace xb := obj_in hbk xb
  replace HX := Lib.hid (HX.out.of hbk)
  replace Hc := Lib.hid (Hc.out.of hbk)
  replace hB := hB.trans (hbk.mono hB.size)
  clear hbk
  have cb := World.alloc_heap_new W3 (.cells #[.slice c.2.1 c.1.1.length c.2.2.1, .slice c.2.2.2.1 c.1.2.length c.2.2.2.2] 25 (0, 0))
  obtain ⟨V4, hV⟩ : ∃ V4, (W3.alloc (.cells #[.slice c.2.1 c.1.1.length c.2.2.1, .slice c.2.2.2.1 c.1.2.length c.2.2.2.2] 25 (0, 0))) = V4 := ⟨_, rfl⟩
  rw [hV] at hB xb cb HX Hc ⊢
  clear hV
  obtain ⟨n0, m0, -⟩ := box2 xb
  obtain ⟨n1, m1, -⟩ := box2 cb
  skip
  obtain ⟨CB, hCB⟩ : ∃ b, W3.heap.size = b := ⟨_, rfl⟩
  rw [hCB] at n1 m1 ⊢
  have hRf : Below V4.heap.size V4 V4 := Below.refl _ _
  have SK := Lib.hid (show ∀ V : World, Below V4.heap.size V4 V → V.cell? ⟨w.heap.size, 0, none⟩ = some (.slice x.2.1 x.1.1.length x.2.2.1) ∧ V.cell? ⟨w.heap.size, 1, none⟩ = some (.slice x.2.2.2.1 x.1.2.length x.2.2.2.2) ∧ V.cell? ⟨CB, 0, none⟩ = some (.slice c.2.1 c.1.1.length c.2.2.1) ∧ V.cell? ⟨CB, 1, none⟩ = some (.slice c.2.2.2.1 c.1.2.length c.2.2.2.2) ∧ Below V4.heap.size V4 V from fun V h => ⟨below_cell h _ _ _ n0, below_cell h _ _ _ m0, below_cell h _ _ _ n1, below_cell h _ _ _ m1, h⟩)
  have HLC := Lib.hid (fun W (hb : Below V4.heap.size V4 W) => lawReduce_nw x W (HX.out.of hb) hl1)
  have HEQ := Lib.hid (fun W (d : NW) (hb : Below V4.heap.size V4 W) (hd : d.1 = reduceG tabsG x.1) (hn : NWs 6 W d) => (show Calls Tryz.prog 14 #[nwV c, nwV d] W (Ret (.bool true) W) from by
    have hh := relEq_nw c d W (Hc.out.of hb) hn
    rw [decide_eq_true (show c.1 = d.1 by rw [HCc.out, hd])] at hh
    exact hh))
  unfold nwV nV at HLC
  go_region_held3 (fun V => V.cell? ⟨w.heap.size, 0, none⟩ = some (.slice x.2.1 x.1.1.length x.2.2.1) ∧ V.cell? ⟨w.heap.size, 1, none⟩ = some (.slice x.2.2.2.1 x.1.2.length x.2.2.2.2) ∧ V.cell? ⟨CB, 0, none⟩ = some (.slice c.2.1 c.1.1.length c.2.2.1) ∧ V.cell? ⟨CB, 1, none⟩ = some (.slice c.2.2.2.1 c.1.2.length c.2.2.2.2) ∧ Below V4.heap.size V4 V) (exact SK.out _ (by (repeat' (first | (with_reducible first | apply Zl1 | apply Zl2 | apply Zl3 | apply Zl4 | apply Zl5 | apply Zl6 | apply Zl7 | apply Zl8 | apply Zl9 | apply Zla | apply Zlb | apply Zlc) | (dsimp only; with_reducible first | apply Zl8 | apply Zl2 | apply Zld) | with_reducible assumption | omega | (dsimp only; omega))))) (first | (go_at_call 17; refine (HLC.out _ (by (repeat' (first | (with_reducible first | apply Zl1 | apply Zl2 | apply Zl3 | apply Zl4 | apply Zl5 | apply Zl6 | apply Zl7 | apply Zl8 | apply Zl9 | apply Zla | apply Zlb | apply Zlc) | (dsimp only; with_reducible first | apply Zl8 | apply Zl2 | apply Zld) | with_reducible assumption | omega | (dsimp only; omega))))).mono ?_; rintro _ W5 ⟨d, hd5, hn5, rfl, hb5⟩; obtain ⟨y5, rfl⟩ : ∃ y5 : Bel _, W5 = y5.w := ⟨⟨W5, hb5⟩, rfl⟩; have HD5 := Lib.hid hd5; have HN5 := Lib.hid hn5; have hy5 := y5.size_le; clear hd5 hn5 hb5; unfold nwV nV; dsimp only) | (go_at_call 14; refine (HEQ.out _ d (by (repeat' (first | (with_reducible first | apply Zl1 | apply Zl2 | apply Zl3 | apply Zl4 | apply Zl5 | apply Zl6 | apply Zl7 | apply Zl8 | apply Zl9 | apply Zla | apply Zlb | apply Zlc) | (dsimp only; with_reducible first | apply Zl8 | apply Zl2 | apply Zld) | with_reducible assumption | omega | (dsimp only; omega)))) HD5.out HN5.out).mono ?_; rintro _ _ ⟨rfl, y6, rfl⟩; have hy6 := y6.size_le; dsimp only))
  all_goals (rename_i hHeld; go_wp2; go_ret; exact Ret.mk rfl (hB.trans (hHeld.2.2.2.2.mono hB.size)))
end Go.Proofs.YtlnedapimmabdaaGreatDoor
