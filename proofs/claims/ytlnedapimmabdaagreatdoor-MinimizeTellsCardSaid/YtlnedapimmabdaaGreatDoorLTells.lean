/- The walk of MinimizeTells. -/
import Derived.Test.YtlnedapimmabdaaGreatDoorV6
import Derived.Test.YtlnedapimmabdaaGreatDoorVw
import Derived.Test.YtlnedapimmabdaaGreatDoorUa
import Derived.Deep.CutRange
import Derived.Deep.RegionHeld3
namespace Go.Proofs.YtlnedapimmabdaaGreatDoor
set_option linter.unusedVariables false
set_option linter.unusedSimpArgs false
open Go.RowKit Go.Maps
attribute [local go_sem low] Bel.cell Bel.frozen alloc_cell alloc_frozen
attribute [local go_sem] calmOp chainOp yieldsC grows

theorem evaluate_nw (x : NW) (W : World) (hx : NWs 6 W x) (vals : List Bool) (hl : vals.length = 6) (vb vc : Nat) (hv : ∀ (j : Nat) b, vals[j]? = some b → W.cell? ⟨vb, j, none⟩ = some (.bool b)) : Calls Tryz.prog 24 #[nwV x, .slice (some ⟨vb, 0, none⟩) 6 vc] W (RetEv (x.1.2.map (vl (fun i => vals.getD i false) x.1.1)) W) := by
  have h := evaluate_any x.1.1 x.1.2 vals _ _ x.2.1 x.2.2.2.1 x.2.2.1 x.2.2.2.2 vb vc W (by rw [hl]; exact hx.ok.ok) hx.ok.hg hx.ok.ho hx.l1 (by have := hx.l2; omega) (fun g hg => by have := hx.l3 g hg; omega) hv
  rw [hl] at h
  exact h
theorem tells_ne {G H : List Gt} (hG : okL 6 G) (hH : okL 6 H) {o p : Nat} (ho : o < G.length) (hp : p < H.length) (hne : tabI G o ≠ tabI H p) : vl (fun i => (wantL (tabI G o ^^^ tabI H p) 0 6).getD i false) G o ≠ vl (fun i => (wantL (tabI G o ^^^ tabI H p) 0 6).getD i false) H p := by
  have h := want_env (Nat.xor_lt_two_pow (tabI_lt G o) (tabI_lt H p)) (fun e => hne (xor_zero.1 e))
  rw [Nat.testBit_xor] at h
  rw [vl_tab hG _ ho, vl_tab hH _ hp]
  intro e
  have e2 : (tabI G o).testBit (idx6 (envB6 (wantL (tabI G o ^^^ tabI H p) 0 6))) = (tabI H p).testBit (idx6 (envB6 (wantL (tabI G o ^^^ tabI H p) 0 6))) := e
  rw [e2] at h
  simp at h
theorem box_arr {W : World} {b : Nat} {va : Array Value} {t : TypeId} {bs : List Bool} (h : W.heap[b]? = some (.cells va t (0, 0))) (hv : va = (bs.map Value.bool).toArray) (j : Nat) (x : Bool) (hj : bs[j]? = some x) : W.cell? ⟨b, j, none⟩ = some (.bool x) := by
  subst hv
  simp [World.cell?, h, hj]
set_option maxRecDepth 100000 in
set_option maxHeartbeats 12800000 in
theorem lawTells_notx (n m n2 m2 : Nat) (ga oa gb ob : Option Addr) (gc oc gd od : Nat) (va : Array Value) (w : World) (hT : Tab w) (hs1 : ∀ w', Below w.heap.size w w' → Calls Tryz.prog 12 #[.agg #[.slice ga n gc, .slice oa m oc]] w' (Ret (.bool false) w')) : Calls Tryz.prog 8 #[.agg #[.slice ga n gc, .slice oa m oc], .agg #[.slice gb n2 gd, .slice ob m2 od], .agg va] w (Ret (.bool true) w) := by
  have HS1 := Lib.hid hs1
  clear hs1
  have HT := Lib.hid hT
  clear hT
  go_enter Tryz.func8, Tryz.ntmps8
  go_wp2_with fail
  have hB : Below w.heap.size w (((w.alloc (.cells #[.slice ga n gc, .slice oa m oc] 25 (0, 0))).alloc (.cells #[.slice gb n2 gd, .slice ob m2 od] 25 (0, 0))).alloc (.cells va 52 (0, 0))) := ((((Below.refl w.heap.size w).alloc (Nat.le_refl _) _).alloc (le_alloc (Nat.le_refl _)) _).alloc (le_alloc (le_alloc (Nat.le_refl _))) _)
  have xb := obj_alloc (.cells va 52 (0, 0)) (obj_alloc (.cells #[.slice gb n2 gd, .slice ob m2 od] 25 (0, 0)) (World.alloc_heap_new w (.cells #[.slice ga n gc, .slice oa m oc] 25 (0, 0))))
  have yb := obj_alloc (.cells va 52 (0, 0)) (newAt1 w (.cells #[.slice ga n gc, .slice oa m oc] 25 (0, 0)) (.cells #[.slice gb n2 gd, .slice ob m2 od] 25 (0, 0)))
  have zb := newAt2 w (.cells #[.slice ga n gc, .slice oa m oc] 25 (0, 0)) (.cells #[.slice gb n2 gd, .slice ob m2 od] 25 (0, 0)) (.cells va 52 (0, 0))
  obtain ⟨V1, hV⟩ : ∃ V1, (((w.alloc (.cells #[.slice ga n gc, .slice oa m oc] 25 (0, 0))).alloc (.cells #[.slice gb n2 gd, .slice ob m2 od] 25 (0, 0))).alloc (.cells va 52 (0, 0))) = V1 := ⟨_, rfl⟩
  rw [hV] at hB xb yb zb ⊢
  clear hV
  refine (known_any _ (HT.out.of hB)).mono ?_
  rintro _ _ ⟨rfl, r1, rfl⟩
  have hbk := r1.below
  replace xb := obj_in hbk xb
  replace yb := obj_in hbk yb
  replace zb := obj_in hbk zb
  replace hB := hB.trans (hbk.mono hB.size)
  clear hbk
  obtain ⟨V2, hV⟩ : ∃ V2, r1.w = V2 := ⟨_, rfl⟩
  rw [hV] at hB xb yb zb ⊢
  clear hV
  obtain ⟨n0, m0, -⟩ := box2 xb
  dsimp only
  go_wp2_with fail
  clear n0 m0
  refine (HS1.out _ hB).mono ?_
  rintro _ _ ⟨rfl, r2, rfl⟩
  have hbk := r2.below
  replace xb := obj_in hbk xb
  replace yb := obj_in hbk yb
  replace zb := obj_in hbk zb
  replace hB := hB.trans (hbk.mono hB.size)
  clear hbk
  obtain ⟨V3, hV⟩ : ∃ V3, r2.w = V3 := ⟨_, rfl⟩
  rw [hV] at hB xb yb zb ⊢
  clear hV
  dsimp only
  go_wp2_with fail
  refine (known_any _ (HT.out.of hB)).mono ?_
  rintro _ _ ⟨rfl, yz, rfl⟩
  dsimp only
  go_wp2
  go_ret
  exact Ret.mk rfl (hB.trans (yz.below.mono hB.size))
set_option maxRecDepth 100000 in
set_option maxHeartbeats 12800000 in
theorem lawTells_noty (n m n2 m2 : Nat) (ga oa gb ob : Option Addr) (gc oc gd od : Nat) (va : Array Value) (w : World) (hT : Tab w) (hs1 : ∀ w', Below w.heap.size w w' → Calls Tryz.prog 12 #[.agg #[.slice ga n gc, .slice oa m oc]] w' (Ret (.bool true) w')) (hs2 : ∀ w', Below w.heap.size w w' → Calls Tryz.prog 12 #[.agg #[.slice gb n2 gd, .slice ob m2 od]] w' (Ret (.bool false) w')) : Calls Tryz.prog 8 #[.agg #[.slice ga n gc, .slice oa m oc], .agg #[.slice gb n2 gd, .slice ob m2 od], .agg va] w (Ret (.bool true) w) := by
  have HS1 := Lib.hid hs1
  clear hs1
  have HS2 := Lib.hid hs2
  clear hs2
  have HT := Lib.hid hT
  clear hT
  go_enter Tryz.func8, Tryz.ntmps8
  go_wp2_with fail
  have hB : Below w.heap.size w (((w.alloc (.cells #[.slice ga n gc, .slice oa m oc] 25 (0, 0))).alloc (.cells #[.slice gb n2 gd, .slice ob m2 od] 25 (0, 0))).alloc (.cells va 52 (0, 0))) := ((((Below.refl w.heap.size w).alloc (Nat.le_refl _) _).alloc (le_alloc (Nat.le_refl _)) _).alloc (le_alloc (le_alloc (Nat.le_refl _))) _)
  have xb := obj_alloc (.cells va 52 (0, 0)) (obj_alloc (.cells #[.slice gb n2 gd, .slice ob m2 od] 25 (0, 0)) (World.alloc_heap_new w (.cells #[.slice ga n gc, .slice oa m oc] 25 (0, 0))))
  have yb := obj_alloc (.cells va 52 (0, 0)) (newAt1 w (.cells #[.slice ga n gc, .slice oa m oc] 25 (0, 0)) (.cells #[.slice gb n2 gd, .slice ob m2 od] 25 (0, 0)))
  have zb := newAt2 w (.cells #[.slice ga n gc, .slice oa m oc] 25 (0, 0)) (.cells #[.slice gb n2 gd, .slice ob m2 od] 25 (0, 0)) (.cells va 52 (0, 0))
  obtain ⟨V1, hV⟩ : ∃ V1, (((w.alloc (.cells #[.slice ga n gc, .slice oa m oc] 25 (0, 0))).alloc (.cells #[.slice gb n2 gd, .slice ob m2 od] 25 (0, 0))).alloc (.cells va 52 (0, 0))) = V1 := ⟨_, rfl⟩
  rw [hV] at hB xb yb zb ⊢
  clear hV
  refine (known_any _ (HT.out.of hB)).mono ?_
  rintro _ _ ⟨rfl, r1, rfl⟩
  have hbk := r1.below
  replace xb := obj_in hbk xb
  replace yb := obj_in hbk yb
  replace zb := obj_in hbk zb
  replace hB := hB.trans (hbk.mono hB.size)
  clear hbk
  obtain ⟨V2, hV⟩ : ∃ V2, r1.w = V2 := ⟨_, rfl⟩
  rw [hV] at hB xb yb zb ⊢
  clear hV
  obtain ⟨n0, m0, -⟩ := box2 xb
  dsimp only
  go_wp2_with fail
  clear n0 m0
  refine (HS1.out _ hB).mono ?_
  rintro _ _ ⟨rfl, r2, rfl⟩
  have hbk := r2.below
  replace xb := obj_in hbk xb
  replace yb := obj_in hbk yb
  replace zb := obj_in hbk zb
  replace hB := hB.trans (hbk.mono hB.size)
  clear hbk
  obtain ⟨V3, hV⟩ : ∃ V3, r2.w = V3 := ⟨_, rfl⟩
  rw [hV] at hB xb yb zb ⊢
  clear hV
  obtain ⟨n0, m0, -⟩ := box2 yb
  dsimp only
  go_wp2_with fail
  clear n0 m0
  refine (HS2.out _ hB).mono ?_
  rintro _ _ ⟨rfl, r3, rfl⟩
  have hbk := r3.below
  replace xb := obj_in hbk xb
  replace yb := obj_in hbk yb
  replace zb := obj_in hbk zb
  replace hB := hB.trans (hbk.mono hB.size)
  clear hbk
  obtain ⟨V4, hV⟩ : ∃ V4, r3.w = V4 := ⟨_, rfl⟩
  rw [hV] at hB xb yb zb ⊢
  clear hV
  dsimp only
  go_wp2_with fail
  refine (known_any _ (HT.out.of hB)).mono ?_
  rintro _ _ ⟨rfl, yz, rfl⟩
  dsimp only
  go_wp2
  go_ret
  exact Ret.mk rfl (hB.trans (yz.below.mono hB.size))
set_option maxRecDepth 100000 in
set_option maxHeartbeats 12800000 in
theorem lawTells_notl (n m n2 m2 : Nat) (ga oa gb ob : Option Addr) (gc oc gd od : Nat) (va : Array Value) (w : World) (hT : Tab w) (hs1 : ∀ w', Below w.heap.size w w' → Calls Tryz.prog 12 #[.agg #[.slice ga n gc, .slice oa m oc]] w' (Ret (.bool true) w')) (hs2 : ∀ w', Below w.heap.size w w' → Calls Tryz.prog 12 #[.agg #[.slice gb n2 gd, .slice ob m2 od]] w' (Ret (.bool true) w')) (hm : m ≠ m2) : Calls Tryz.prog 8 #[.agg #[.slice ga n gc, .slice oa m oc], .agg #[.slice gb n2 gd, .slice ob m2 od], .agg va] w (Ret (.bool true) w) := by
  have HS1 := Lib.hid hs1
  clear hs1
  have HS2 := Lib.hid hs2
  clear hs2
  have f1 : ((m : Int) != (m2 : Int)) = true := by simp; omega
  have f2 : ((m : Int) == (m2 : Int)) = false := by simp; omega
  clear hm
  have HT := Lib.hid hT
  clear hT
  go_enter Tryz.func8, Tryz.ntmps8
  go_wp2_with fail
  have hB : Below w.heap.size w (((w.alloc (.cells #[.slice ga n gc, .slice oa m oc] 25 (0, 0))).alloc (.cells #[.slice gb n2 gd, .slice ob m2 od] 25 (0, 0))).alloc (.cells va 52 (0, 0))) := ((((Below.refl w.heap.size w).alloc (Nat.le_refl _) _).alloc (le_alloc (Nat.le_refl _)) _).alloc (le_alloc (le_alloc (Nat.le_refl _))) _)
  have xb := obj_alloc (.cells va 52 (0, 0)) (obj_alloc (.cells #[.slice gb n2 gd, .slice ob m2 od] 25 (0, 0)) (World.alloc_heap_new w (.cells #[.slice ga n gc, .slice oa m oc] 25 (0, 0))))
  have yb := obj_alloc (.cells va 52 (0, 0)) (newAt1 w (.cells #[.slice ga n gc, .slice oa m oc] 25 (0, 0)) (.cells #[.slice gb n2 gd, .slice ob m2 od] 25 (0, 0)))
  have zb := newAt2 w (.cells #[.slice ga n gc, .slice oa m oc] 25 (0, 0)) (.cells #[.slice gb n2 gd, .slice ob m2 od] 25 (0, 0)) (.cells va 52 (0, 0))
  obtain ⟨V1, hV⟩ : ∃ V1, (((w.alloc (.cells #[.slice ga n gc, .slice oa m oc] 25 (0, 0))).alloc (.cells #[.slice gb n2 gd, .slice ob m2 od] 25 (0, 0))).alloc (.cells va 52 (0, 0))) = V1 := ⟨_, rfl⟩
  rw [hV] at hB xb yb zb ⊢
  clear hV
  refine (known_any _ (HT.out.of hB)).mono ?_
  rintro _ _ ⟨rfl, r1, rfl⟩
  have hbk := r1.below
  replace xb := obj_in hbk xb
  replace yb := obj_in hbk yb
  replace zb := obj_in hbk zb
  replace hB := hB.trans (hbk.mono hB.size)
  clear hbk
  obtain ⟨V2, hV⟩ : ∃ V2, r1.w = V2 := ⟨_, rfl⟩
  rw [hV] at hB xb yb zb ⊢
  clear hV
  obtain ⟨n0, m0, -⟩ := box2 xb
  dsimp only
  go_wp2_with fail
  clear n0 m0
  refine (HS1.out _ hB).mono ?_
  rintro _ _ ⟨rfl, r2, rfl⟩
  have hbk := r2.below
  replace xb := obj_in hbk xb
  replace yb := obj_in hbk yb
  replace zb := obj_in hbk zb
  replace hB := hB.trans (hbk.mono hB.size)
  clear hbk
  obtain ⟨V3, hV⟩ : ∃ V3, r2.w = V3 := ⟨_, rfl⟩
  rw [hV] at hB xb yb zb ⊢
  clear hV
  obtain ⟨n0, m0, -⟩ := box2 yb
  dsimp only
  go_wp2_with fail
  clear n0 m0
  refine (HS2.out _ hB).mono ?_
  rintro _ _ ⟨rfl, r3, rfl⟩
  have hbk := r3.below
  replace xb := obj_in hbk xb
  replace yb := obj_in hbk yb
  replace zb := obj_in hbk zb
  replace hB := hB.trans (hbk.mono hB.size)
  clear hbk
  obtain ⟨V4, hV⟩ : ∃ V4, r3.w = V4 := ⟨_, rfl⟩
  rw [hV] at hB xb yb zb ⊢
  clear hV
  obtain ⟨n0, m0, -⟩ := box2 xb
  obtain ⟨n1, m1, -⟩ := box2 yb
  dsimp only
  go_wp2_with fail
  clear n0 m0 n1 m1
  refine (known_any _ (HT.out.of hB)).mono ?_
  rintro _ _ ⟨rfl, yz, rfl⟩
  dsimp only
  go_wp2
  go_ret
  exact Ret.mk rfl (hB.trans (yz.below.mono hB.size))
set_option maxRecDepth 100000 in
set_option maxHeartbeats 12800000 in
theorem lawTells_same (x y : NW) (va : Array Value) (bs : List Bool) (w : World) (hT : Tab w) (hva : va = (bs.map Value.bool).toArray) (hbs : bs.length = 6) (h : NWs 6 w x) (h' : NWs 6 w y) (a1 : x.1.1.length ≤ 16) (a2 : x.1.2.length ≤ 8) (a3 : ∀ g ∈ x.1.1, g.2.2.length ≤ 8) (b1 : y.1.1.length ≤ 16) (b2 : y.1.2.length ≤ 8) (b3 : ∀ g ∈ y.1.1, g.2.2.length ≤ 8) (hl : x.1.2.length = y.1.2.length) (he : outF x.1.1 x.1.2 = outF y.1.1 y.1.2) : Calls Tryz.prog 8 #[nwV x, nwV y, .agg va] w (Ret (.bool true) w) := by
  have HOX := Lib.hid h.ok.ok
  have HOY := Lib.hid h'.ok.ok
  have HX := Lib.hid h
  have HY := Lib.hid h'
  clear h h'
  have f1 : ((x.1.2.length : Int) != (y.1.2.length : Int)) = false := by simp [hl]
  have f2 : ((x.1.2.length : Int) == (y.1.2.length : Int)) = true := by simp [hl]
  have HL := Lib.hid hl
  clear hl
  have HVA := Lib.hid hva
  have HBS := Lib.hid hbs
  clear hva hbs
  have HE := Lib.hid he
  clear he
  unfold nwV nV
  have HT := Lib.hid hT
  clear hT
  go_enter Tryz.func8, Tryz.ntmps8
  go_wp2_with fail
  have hB : Below w.heap.size w (((w.alloc (.cells #[.slice x.2.1 x.1.1.length x.2.2.1, .slice x.2.2.2.1 x.1.2.length x.2.2.2.2] 25 (0, 0))).alloc (.cells #[.slice y.2.1 y.1.1.length y.2.2.1, .slice y.2.2.2.1 y.1.2.length y.2.2.2.2] 25 (0, 0))).alloc (.cells va 52 (0, 0))) := ((((Below.refl w.heap.size w).alloc (Nat.le_refl _) _).alloc (le_alloc (Nat.le_refl _)) _).alloc (le_alloc (le_alloc (Nat.le_refl _))) _)
  have xb := obj_alloc (.cells va 52 (0, 0)) (obj_alloc (.cells #[.slice y.2.1 y.1.1.length y.2.2.1, .slice y.2.2.2.1 y.1.2.length y.2.2.2.2] 25 (0, 0)) (World.alloc_heap_new w (.cells #[.slice x.2.1 x.1.1.length x.2.2.1, .slice x.2.2.2.1 x.1.2.length x.2.2.2.2] 25 (0, 0))))
  have yb := obj_alloc (.cells va 52 (0, 0)) (newAt1 w (.cells #[.slice x.2.1 x.1.1.length x.2.2.1, .slice x.2.2.2.1 x.1.2.length x.2.2.2.2] 25 (0, 0)) (.cells #[.slice y.2.1 y.1.1.length y.2.2.1, .slice y.2.2.2.1 y.1.2.length y.2.2.2.2] 25 (0, 0)))
  have zb := newAt2 w (.cells #[.slice x.2.1 x.1.1.length x.2.2.1, .slice x.2.2.2.1 x.1.2.length x.2.2.2.2] 25 (0, 0)) (.cells #[.slice y.2.1 y.1.1.length y.2.2.1, .slice y.2.2.2.1 y.1.2.length y.2.2.2.2] 25 (0, 0)) (.cells va 52 (0, 0))
  have HX := Lib.hid (HX.out.of hB)
  have HY := Lib.hid (HY.out.of hB)
  obtain ⟨V1, hV⟩ : ∃ V1, (((w.alloc (.cells #[.slice x.2.1 x.1.1.length x.2.2.1, .slice x.2.2.2.1 x.1.2.length x.2.2.2.2] 25 (0, 0))).alloc (.cells #[.slice y.2.1 y.1.1.length y.2.2.1, .slice y.2.2.2.1 y.1.2.length y.2.2.2.2] 25 (0, 0))).alloc (.cells va 52 (0, 0))) = V1 := ⟨_, rfl⟩
  rw [hV] at hB xb yb zb HX HY ⊢
  clear hV
  refine (known_any _ (HT.out.of hB)).mono ?_
  rintro _ _ ⟨rfl, r1, rfl⟩
  have hbk := r1.below
  replace xb := obj_in hbk xb
  replace yb := obj_in hbk yb
  replace zb := obj_in hbk zb
  replace HX := Lib.hid (HX.out.of hbk)
  replace HY := Lib.hid (HY.out.of hbk)
  replace hB := hB.trans (hbk.mono hB.size)
  clear hbk
  obtain ⟨V2, hV⟩ : ∃ V2, r1.w = V2 := ⟨_, rfl⟩
  rw [hV] at hB xb yb zb HX HY ⊢
  clear hV
  obtain ⟨n0, m0, -⟩ := box2 xb
  dsimp only
  go_wp2_with fail
  clear n0 m0
  refine (small_nw x _ HX.out a1 a2 a3).mono ?_
  rintro _ _ ⟨rfl, r2, rfl⟩
  have hbk := r2.below
  replace xb := obj_in hbk xb
  replace yb := obj_in hbk yb
  replace zb := obj_in hbk zb
  replace HX := Lib.hid (HX.out.of hbk)
  replace HY := Lib.hid (HY.out.of hbk)
  replace hB := hB.trans (hbk.mono hB.size)
  clear hbk
  obtain ⟨V3, hV⟩ : ∃ V3, r2.w = V3 := ⟨_, rfl⟩
  rw [hV] at hB xb yb zb HX HY ⊢
  clear hV
  obtain ⟨n0, m0, -⟩ := box2 yb
  dsimp only
  go_wp2_with fail
  clear n0 m0
  refine (small_nw y _ HY.out b1 b2 b3).mono ?_
  rintro _ _ ⟨rfl, r3, rfl⟩
  have hbk := r3.below
  replace xb := obj_in hbk xb
  replace yb := obj_in hbk yb
  replace zb := obj_in hbk zb
  replace HX := Lib.hid (HX.out.of hbk)
  replace HY := Lib.hid (HY.out.of hbk)
  replace hB := hB.trans (hbk.mono hB.size)
  clear hbk
  obtain ⟨V4, hV⟩ : ∃ V4, r3.w = V4 := ⟨_, rfl⟩
  rw [hV] at hB xb yb zb HX HY ⊢
  clear hV
  obtain ⟨n0, m0, -⟩ := box2 xb
  obtain ⟨n1, m1, -⟩ := box2 yb
  dsimp only
  go_wp2_with fail
  clear n0 m0 n1 m1
  refine (Compare_same (v := 6) (by decide) x y V4 HX.out HY.out HL.out HE.out).mono ?_
  rintro _ _ ⟨rfl, yd, rfl⟩
  have hbk := yd.below
  replace xb := obj_in hbk xb
  replace yb := obj_in hbk yb
  replace zb := obj_in hbk zb
  replace HX := Lib.hid (HX.out.of hbk)
  replace HY := Lib.hid (HY.out.of hbk)
  replace hB := hB.trans (hbk.mono hB.size)
  clear hbk
  obtain ⟨n0, m0, -⟩ := box2 xb
  dsimp only
  go_wp2_with fail
  clear n0 m0
  have hbk : Below yd.w.heap.size yd.w (yd.w.alloc (.cells #[.int .i64 0, .slice none 0 0] 37 (0, 0))) := (Below.refl _ _).alloc (Nat.le_refl _) _
  replace xb := obj_in hbk xb
  replace yb := obj_in hbk yb
  replace zb := obj_in hbk zb
  replace HX := Lib.hid (HX.out.of hbk)
  replace HY := Lib.hid (HY.out.of hbk)
  replace hB := hB.trans (hbk.mono hB.size)
  clear hbk
  have db := World.alloc_heap_new yd.w (.cells #[.int .i64 0, .slice none 0 0] 37 (0, 0))
  obtain ⟨DB, hDB⟩ : ∃ b, yd.w.heap.size = b := ⟨_, rfl⟩
  rw [hDB] at db ⊢
  clear hDB
  obtain ⟨V5, hV⟩ : ∃ V5, yd.w.alloc (.cells #[.int .i64 0, .slice none 0 0] 37 (0, 0)) = V5 := ⟨_, rfl⟩
  rw [hV] at hB xb yb zb db HX HY ⊢
  clear hV
  refine (evaluate_nw x V5 HX.out bs HBS.out _ _ (fun j b hj => box_arr zb HVA.out j b hj)).mono ?_
  rintro _ WEx ⟨vx, rfl, hox, hbk⟩
  obtain ⟨ax, cx, rfl, hcx⟩ := ownBv_sl hox
  rw [List.length_map] at hcx ⊢
  replace xb := obj_in hbk xb
  replace yb := obj_in hbk yb
  replace zb := obj_in hbk zb
  replace db := obj_in hbk db
  replace HX := Lib.hid (HX.out.of hbk)
  replace HY := Lib.hid (HY.out.of hbk)
  replace hB := hB.trans (hbk.mono hB.size)
  have HCx := Lib.hid hcx
  clear hbk hcx hox
  obtain ⟨V6, hV⟩ : ∃ V6, WEx = V6 := ⟨_, rfl⟩
  rw [hV] at hB xb yb zb db HX HY HCx ⊢
  clear hV
  obtain ⟨n0, m0, -⟩ := box2 yb
  dsimp only
  go_wp2_with fail
  clear n0 m0
  refine (evaluate_nw y V6 HY.out bs HBS.out _ _ (fun j b hj => box_arr zb HVA.out j b hj)).mono ?_
  rintro _ WEy ⟨vy, rfl, hoy, hbk⟩
  obtain ⟨ay, cy, rfl, hcy⟩ := ownBv_sl hoy
  rw [List.length_map] at hcy ⊢
  replace xb := obj_in hbk xb
  replace yb := obj_in hbk yb
  replace zb := obj_in hbk zb
  replace db := obj_in hbk db
  replace HX := Lib.hid (HX.out.of hbk)
  replace HY := Lib.hid (HY.out.of hbk)
  replace hB := hB.trans (hbk.mono hB.size)
  have HBY := Lib.hid hbk
  have HCy := Lib.hid hcy
  clear hbk hcy hoy
  obtain ⟨n0, m0, -⟩ := box2 db
  dsimp only
  go_wp2_with fail
  go_loopw [15] (fun iv wr => ∃ i : Nat, iv = .int .i64 (i : Int) ∧ i ≤ x.1.2.length ∧ ∃ q : Bel WEy, wr = q.w) (fun iv _ => x.1.2.length - (intOf iv).toNat)
  case atStart => exact ⟨0, rfl, Nat.zero_le _, ⟨WEy, Below.refl _ _⟩, rfl⟩
  case round =>
    obtain ⟨i, rfl, hik, q, rfl⟩ := hrel
    have hBs := hB.size
    rcases Nat.lt_or_ge i x.1.2.length with hi1 | hi1
    · have hii := hi1
      have hi2 : i < y.1.2.length := by have := HL.out; omega
      have g4 : decide ((i : Int) < (x.1.2.length : Int)) = true := decide_eq_true (by omega)
      have g5 : (0 ≤ (i : Int) ∧ (i : Int) < (x.1.2.length : Int)) := ⟨by omega, by omega⟩
      have g6 : (0 ≤ (i : Int) ∧ (i : Int) < (y.1.2.length : Int)) := ⟨by omega, by omega⟩
      obtain ⟨gx, rfl, -, hgx, htx⟩ := HCx.out (by omega)
      obtain ⟨gy, rfl, -, hgy, hty⟩ := HCy.out (by omega)
      obtain ⟨ox, hox⟩ := some_at hi1
      obtain ⟨oy, hoy⟩ := some_at hi2
      replace htx := q.below.cell (p := ⟨gx, i, none⟩) (Nat.lt_of_lt_of_le hgx HBY.out.size) |>.trans ((HBY.out.cell (p := ⟨gx, i, none⟩) hgx).trans (htx i _ (show _ = some (vl (fun i => (bs).getD i false) x.1.1 ox) by rw [List.getElem?_map, hox]; rfl)))
      replace hty := (q.below.cell (p := ⟨gy, i, none⟩) hgy).trans (hty i _ (show _ = some (vl (fun i => (bs).getD i false) y.1.1 oy) by rw [List.getElem?_map, hoy]; rfl))
      have hvv : vl (fun i => (bs).getD i false) x.1.1 ox = vl (fun i => (bs).getD i false) y.1.1 oy := by
        have e : (outF x.1.1 x.1.2)[i]? = (outF y.1.1 y.1.2)[i]? := congrArg (fun l : List Fn3 => l[i]?) HE.out
        rw [outF_get (N := x.1) hox, outF_get (N := y.1) hoy] at e
        injection e with e
        exact congrFun e _
      obtain ⟨bb, hbb⟩ : ∃ b, vl (fun i => (bs).getD i false) x.1.1 ox = b := ⟨_, rfl⟩
      rw [hbb] at htx
      rw [← hvv, hbb] at hty
      have g7 : (bb != bb) = false := by cases bb <;> rfl
      clear hox hoy hbb hvv hgx hgy
      go_wp2_with fail
      go_region
      go_wp2
      go_roundw
      case rel => exact ⟨i + 1, by go_num, by omega, ⟨q.w.drew, q.below.drew⟩, rfl⟩
      case measure => simp [intOf]; omega
    · have g4 : decide ((i : Int) < (x.1.2.length : Int)) = false := decide_eq_false (by omega)
      go_wp2
      go_ret
      exact Ret.mk rfl (hB.trans (q.below.mono hBs))
set_option maxRecDepth 100000 in
set_option maxHeartbeats 12800000 in
theorem lawTells_diff (x y : NW) (va : Array Value) (bs : List Bool) (w : World) (hT : Tab w) (hva : va = (bs.map Value.bool).toArray) (hbs : bs.length = 6) (h : NWs 6 w x) (h' : NWs 6 w y) (a1 : x.1.1.length ≤ 16) (a2 : x.1.2.length ≤ 8) (a3 : ∀ g ∈ x.1.1, g.2.2.length ≤ 8) (b1 : y.1.1.length ≤ 16) (b2 : y.1.2.length ≤ 8) (b3 : ∀ g ∈ y.1.1, g.2.2.length ≤ 8) (hl : x.1.2.length = y.1.2.length) {k o p : Nat} (ho : x.1.2[k]? = some o) (hp : y.1.2[k]? = some p) (hne : tabI x.1.1 o ≠ tabI y.1.1 p) (hlt : ∀ j o p, j < k → x.1.2[j]? = some o → y.1.2[j]? = some p → tabI x.1.1 o = tabI y.1.1 p) : Calls Tryz.prog 8 #[nwV x, nwV y, .agg va] w (Ret (.bool true) w) := by
  have HOX := Lib.hid h.ok.ok
  have HOY := Lib.hid h'.ok.ok
  have HX := Lib.hid h
  have HY := Lib.hid h'
  clear h h'
  have f1 : ((x.1.2.length : Int) != (y.1.2.length : Int)) = false := by simp [hl]
  have f2 : ((x.1.2.length : Int) == (y.1.2.length : Int)) = true := by simp [hl]
  have HL := Lib.hid hl
  clear hl
  have HVA := Lib.hid hva
  have HBS := Lib.hid hbs
  clear hva hbs
  have HO := Lib.hid ho
  have HP := Lib.hid hp
  have HNE := Lib.hid hne
  have HLT := Lib.hid hlt
  clear ho hp hne hlt
  unfold nwV nV
  have HT := Lib.hid hT
  clear hT
  go_enter Tryz.func8, Tryz.ntmps8
  go_wp2_with fail
  have hB : Below w.heap.size w (((w.alloc (.cells #[.slice x.2.1 x.1.1.length x.2.2.1, .slice x.2.2.2.1 x.1.2.length x.2.2.2.2] 25 (0, 0))).alloc (.cells #[.slice y.2.1 y.1.1.length y.2.2.1, .slice y.2.2.2.1 y.1.2.length y.2.2.2.2] 25 (0, 0))).alloc (.cells va 52 (0, 0))) := ((((Below.refl w.heap.size w).alloc (Nat.le_refl _) _).alloc (le_alloc (Nat.le_refl _)) _).alloc (le_alloc (le_alloc (Nat.le_refl _))) _)
  have xb := obj_alloc (.cells va 52 (0, 0)) (obj_alloc (.cells #[.slice y.2.1 y.1.1.length y.2.2.1, .slice y.2.2.2.1 y.1.2.length y.2.2.2.2] 25 (0, 0)) (World.alloc_heap_new w (.cells #[.slice x.2.1 x.1.1.length x.2.2.1, .slice x.2.2.2.1 x.1.2.length x.2.2.2.2] 25 (0, 0))))
  have yb := obj_alloc (.cells va 52 (0, 0)) (newAt1 w (.cells #[.slice x.2.1 x.1.1.length x.2.2.1, .slice x.2.2.2.1 x.1.2.length x.2.2.2.2] 25 (0, 0)) (.cells #[.slice y.2.1 y.1.1.length y.2.2.1, .slice y.2.2.2.1 y.1.2.length y.2.2.2.2] 25 (0, 0)))
  have zb := newAt2 w (.cells #[.slice x.2.1 x.1.1.length x.2.2.1, .slice x.2.2.2.1 x.1.2.length x.2.2.2.2] 25 (0, 0)) (.cells #[.slice y.2.1 y.1.1.length y.2.2.1, .slice y.2.2.2.1 y.1.2.length y.2.2.2.2] 25 (0, 0)) (.cells va 52 (0, 0))
  have HX := Lib.hid (HX.out.of hB)
  have HY := Lib.hid (HY.out.of hB)
  obtain ⟨V1, hV⟩ : ∃ V1, (((w.alloc (.cells #[.slice x.2.1 x.1.1.length x.2.2.1, .slice x.2.2.2.1 x.1.2.length x.2.2.2.2] 25 (0, 0))).alloc (.cells #[.slice y.2.1 y.1.1.length y.2.2.1, .slice y.2.2.2.1 y.1.2.length y.2.2.2.2] 25 (0, 0))).alloc (.cells va 52 (0, 0))) = V1 := ⟨_, rfl⟩
  rw [hV] at hB xb yb zb HX HY ⊢
  clear hV
  refine (known_any _ (HT.out.of hB)).mono ?_
  rintro _ _ ⟨rfl, r1, rfl⟩
  have hbk := r1.below
  replace xb := obj_in hbk xb
  replace yb := obj_in hbk yb
  replace zb := obj_in hbk zb
  replace HX := Lib.hid (HX.out.of hbk)
  replace HY := Lib.hid (HY.out.of hbk)
  replace hB := hB.trans (hbk.mono hB.size)
  clear hbk
  obtain ⟨V2, hV⟩ : ∃ V2, r1.w = V2 := ⟨_, rfl⟩
  rw [hV] at hB xb yb zb HX HY ⊢
  clear hV
  obtain ⟨n0, m0, -⟩ := box2 xb
  dsimp only
  go_wp2_with fail
  clear n0 m0
  refine (small_nw x _ HX.out a1 a2 a3).mono ?_
  rintro _ _ ⟨rfl, r2, rfl⟩
  have hbk := r2.below
  replace xb := obj_in hbk xb
  replace yb := obj_in hbk yb
  replace zb := obj_in hbk zb
  replace HX := Lib.hid (HX.out.of hbk)
  replace HY := Lib.hid (HY.out.of hbk)
  replace hB := hB.trans (hbk.mono hB.size)
  clear hbk
  obtain ⟨V3, hV⟩ : ∃ V3, r2.w = V3 := ⟨_, rfl⟩
  rw [hV] at hB xb yb zb HX HY ⊢
  clear hV
  obtain ⟨n0, m0, -⟩ := box2 yb
  dsimp only
  go_wp2_with fail
  clear n0 m0
  refine (small_nw y _ HY.out b1 b2 b3).mono ?_
  rintro _ _ ⟨rfl, r3, rfl⟩
  have hbk := r3.below
  replace xb := obj_in hbk xb
  replace yb := obj_in hbk yb
  replace zb := obj_in hbk zb
  replace HX := Lib.hid (HX.out.of hbk)
  replace HY := Lib.hid (HY.out.of hbk)
  replace hB := hB.trans (hbk.mono hB.size)
  clear hbk
  obtain ⟨V4, hV⟩ : ∃ V4, r3.w = V4 := ⟨_, rfl⟩
  rw [hV] at hB xb yb zb HX HY ⊢
  clear hV
  obtain ⟨n0, m0, -⟩ := box2 xb
  obtain ⟨n1, m1, -⟩ := box2 yb
  dsimp only
  go_wp2_with fail
  clear n0 m0 n1 m1
  refine (Compare_diff x y V4 HX.out HY.out HL.out HO.out HP.out HNE.out HLT.out).mono ?_
  rintro _ Wd ⟨dg, dc, rfl, hod, hbk⟩
  replace xb := obj_in hbk xb
  replace yb := obj_in hbk yb
  replace zb := obj_in hbk zb
  replace HX := Lib.hid (HX.out.of hbk)
  replace HY := Lib.hid (HY.out.of hbk)
  replace hB := hB.trans (hbk.mono hB.size)
  clear hbk
  obtain ⟨n0, m0, -⟩ := box2 xb
  dsimp only
  go_wp2_with fail
  clear n0 m0
  have hbk : Below Wd.heap.size Wd (Wd.alloc (.cells #[.int .i64 (k : Int), .slice (some ⟨dg, 0, none⟩) 6 dc] 37 (0, 0))) := (Below.refl _ _).alloc (Nat.le_refl _) _
  replace xb := obj_in hbk xb
  replace yb := obj_in hbk yb
  replace zb := obj_in hbk zb
  replace HX := Lib.hid (HX.out.of hbk)
  replace HY := Lib.hid (HY.out.of hbk)
  replace hB := hB.trans (hbk.mono hB.size)
  have HOD := Lib.hid (ownB_bel hod hbk)
  clear hod
  clear hbk
  have db := World.alloc_heap_new Wd (.cells #[.int .i64 (k : Int), .slice (some ⟨dg, 0, none⟩) 6 dc] 37 (0, 0))
  obtain ⟨DB, hDB⟩ : ∃ b, Wd.heap.size = b := ⟨_, rfl⟩
  rw [hDB] at db ⊢
  clear hDB
  obtain ⟨V5, hV⟩ : ∃ V5, Wd.alloc (.cells #[.int .i64 (k : Int), .slice (some ⟨dg, 0, none⟩) 6 dc] 37 (0, 0)) = V5 := ⟨_, rfl⟩
  rw [hV] at hB xb yb zb db HX HY HOD ⊢
  clear hV
  refine (evaluate_nw x V5 HX.out (wantL (tabI x.1.1 o ^^^ tabI y.1.1 p) 0 6) (wantL_len 6 _ 0) _ _ (fun j b hj => ownB_get HOD.out hj)).mono ?_
  rintro _ WEx ⟨vx, rfl, hox, hbk⟩
  obtain ⟨ax, cx, rfl, hcx⟩ := ownBv_sl hox
  rw [List.length_map] at hcx ⊢
  replace xb := obj_in hbk xb
  replace yb := obj_in hbk yb
  replace zb := obj_in hbk zb
  replace db := obj_in hbk db
  replace HX := Lib.hid (HX.out.of hbk)
  replace HY := Lib.hid (HY.out.of hbk)
  replace hB := hB.trans (hbk.mono hB.size)
  replace HOD := Lib.hid (ownB_bel HOD.out hbk)
  have HCx := Lib.hid hcx
  clear hbk hcx hox
  obtain ⟨V6, hV⟩ : ∃ V6, WEx = V6 := ⟨_, rfl⟩
  rw [hV] at hB xb yb zb db HX HY HCx HOD ⊢
  clear hV
  obtain ⟨n0, m0, -⟩ := box2 yb
  dsimp only
  go_wp2_with fail
  clear n0 m0
  refine (evaluate_nw y V6 HY.out (wantL (tabI x.1.1 o ^^^ tabI y.1.1 p) 0 6) (wantL_len 6 _ 0) _ _ (fun j b hj => ownB_get HOD.out hj)).mono ?_
  rintro _ WEy ⟨vy, rfl, hoy, hbk⟩
  obtain ⟨ay, cy, rfl, hcy⟩ := ownBv_sl hoy
  rw [List.length_map] at hcy ⊢
  replace xb := obj_in hbk xb
  replace yb := obj_in hbk yb
  replace zb := obj_in hbk zb
  replace db := obj_in hbk db
  replace HX := Lib.hid (HX.out.of hbk)
  replace HY := Lib.hid (HY.out.of hbk)
  replace hB := hB.trans (hbk.mono hB.size)
  replace HOD := Lib.hid (ownB_bel HOD.out hbk)
  have HBY := Lib.hid hbk
  have HCy := Lib.hid hcy
  clear hbk hcy hoy
  obtain ⟨d0, d1, -⟩ := box2 db
  have hkx : k < x.1.2.length := (List.getElem?_eq_some_iff.1 HO.out).1
  have g1 : decide ((k : Int) < 0) = false := decide_eq_false (by omega)
  have g2 : decide ((x.1.2.length : Int) ≤ (k : Int)) = false := decide_eq_false (by omega)
  have g3 : decide (x.1.2.length ≤ k) = false := decide_eq_false (by omega)
  dsimp only
  go_wp2_with fail
  go_loopw [15] (fun iv wr => ∃ i : Nat, iv = .int .i64 (i : Int) ∧ i ≤ k ∧ ∃ q : Bel WEy, wr = q.w) (fun iv _ => x.1.2.length - (intOf iv).toNat)
  case atStart => exact ⟨0, rfl, Nat.zero_le _, ⟨WEy, Below.refl _ _⟩, rfl⟩
  case round =>
    obtain ⟨i, rfl, hik, q, rfl⟩ := hrel
    have hBs := hB.size
    have hi1 : i < x.1.2.length := by omega
    have hi2 : i < y.1.2.length := by have := HL.out; omega
    have g4 : decide ((i : Int) < (x.1.2.length : Int)) = true := decide_eq_true (by omega)
    have g5 : (0 ≤ (i : Int) ∧ (i : Int) < (x.1.2.length : Int)) := ⟨by omega, by omega⟩
    have g6 : (0 ≤ (i : Int) ∧ (i : Int) < (y.1.2.length : Int)) := ⟨by omega, by omega⟩
    obtain ⟨gx, rfl, -, hgx, htx⟩ := HCx.out (by omega)
    obtain ⟨gy, rfl, -, hgy, hty⟩ := HCy.out (by omega)
    obtain ⟨ox, hox⟩ := some_at hi1
    obtain ⟨oy, hoy⟩ := some_at hi2
    replace htx := q.below.cell (p := ⟨gx, i, none⟩) (Nat.lt_of_lt_of_le hgx HBY.out.size) |>.trans ((HBY.out.cell (p := ⟨gx, i, none⟩) hgx).trans (htx i _ (show _ = some (vl (fun i => ((wantL (tabI x.1.1 o ^^^ tabI y.1.1 p) 0 6)).getD i false) x.1.1 ox) by rw [List.getElem?_map, hox]; rfl)))
    replace hty := (q.below.cell (p := ⟨gy, i, none⟩) hgy).trans (hty i _ (show _ = some (vl (fun i => ((wantL (tabI x.1.1 o ^^^ tabI y.1.1 p) 0 6)).getD i false) y.1.1 oy) by rw [List.getElem?_map, hoy]; rfl))
    rcases Nat.lt_or_ge i k with hi0 | hi0
    · have hvv : vl (fun i => ((wantL (tabI x.1.1 o ^^^ tabI y.1.1 p) 0 6)).getD i false) x.1.1 ox = vl (fun i => ((wantL (tabI x.1.1 o ^^^ tabI y.1.1 p) 0 6)).getD i false) y.1.1 oy := (tabI_eq HOX.out.1 HOY.out.1 (HOX.out.2 _ (List.mem_of_getElem? hox)) (HOY.out.2 _ (List.mem_of_getElem? hoy))).1 (HLT.out i ox oy hi0 hox hoy) _
      obtain ⟨bb, hbb⟩ : ∃ b, vl (fun i => ((wantL (tabI x.1.1 o ^^^ tabI y.1.1 p) 0 6)).getD i false) x.1.1 ox = b := ⟨_, rfl⟩
      rw [hbb] at htx
      rw [← hvv, hbb] at hty
      have g7 : (bb != bb) = false := by cases bb <;> rfl
      clear hox hoy hbb hvv hgx hgy
      go_wp2_with fail
      go_region
      go_wp2
      go_roundw
      case rel => exact ⟨i + 1, by go_num, by omega, ⟨q.w.drew, q.below.drew⟩, rfl⟩
      case measure => simp [intOf]; omega
    · obtain rfl : i = k := by omega
      have e1 : ox = o := by have h := hox.symm.trans HO.out; injection h
      have e2 : oy = p := by have h := hoy.symm.trans HP.out; injection h
      subst e1 e2
      have hnn := tells_ne HOX.out.1 HOY.out.1 (HOX.out.2 _ (List.mem_of_getElem? hox)) (HOY.out.2 _ (List.mem_of_getElem? hoy)) HNE.out
      obtain ⟨bb, hbb⟩ : ∃ b, vl (fun i => ((wantL (tabI x.1.1 ox ^^^ tabI y.1.1 oy) 0 6)).getD i false) x.1.1 ox = b := ⟨_, rfl⟩
      obtain ⟨cc, hcc⟩ : ∃ b, vl (fun i => ((wantL (tabI x.1.1 ox ^^^ tabI y.1.1 oy) 0 6)).getD i false) y.1.1 oy = b := ⟨_, rfl⟩
      rw [hbb] at htx hnn
      rw [hcc] at hty hnn
      obtain ⟨e0, e1, -⟩ := box2 (obj_bel q db)
      have g8 : decide ((i : Int) ≤ (i : Int)) = true := decide_eq_true (by omega)
      have g9 : decide (i ≤ i) = true := decide_eq_true (by omega)
      clear hox hoy hbb hcc hgx hgy d0 d1
      cases bb <;> cases cc <;> first | exact absurd rfl hnn | (clear hnn; go_wp2_with fail; go_region; go_wp2; go_ret; exact Ret.mk rfl (hB.trans (q.below.drew.mono hBs)))
theorem least_of {P : Nat → Prop} : (∃ k, P k) → ∃ k, P k ∧ ∀ j, j < k → ¬P j := by
  rintro ⟨k, hk⟩
  induction k using Nat.strongRecOn with
  | ind k ih =>
    by_cases h : ∃ j, j < k ∧ P j
    · obtain ⟨j, hj, hp⟩ := h
      exact ih j hj hp
    · exact ⟨k, hk, fun j hj hp => h ⟨j, hj, hp⟩⟩
theorem lawTells_two (x y : NW) (va : Array Value) (bs : List Bool) (w : World) (hT : Tab w) (hva : va = (bs.map Value.bool).toArray) (hbs : bs.length = 6) (h : NWs 6 w x) (h' : NWs 6 w y) (a1 : x.1.1.length ≤ 16) (a2 : x.1.2.length ≤ 8) (a3 : ∀ g ∈ x.1.1, g.2.2.length ≤ 8) (b1 : y.1.1.length ≤ 16) (b2 : y.1.2.length ≤ 8) (b3 : ∀ g ∈ y.1.1, g.2.2.length ≤ 8) : Calls Tryz.prog 8 #[nwV x, nwV y, .agg va] w (Ret (.bool true) w) := by
  by_cases hl : x.1.2.length = y.1.2.length
  · by_cases he : ∃ (k o p : Nat), x.1.2[k]? = some o ∧ y.1.2[k]? = some p ∧ tabI x.1.1 o ≠ tabI y.1.1 p
    · obtain ⟨k, ⟨o, p, ho, hp, hne⟩, hmin⟩ := least_of (P := fun k => ∃ (o p : Nat), x.1.2[k]? = some o ∧ y.1.2[k]? = some p ∧ tabI x.1.1 o ≠ tabI y.1.1 p) he
      exact lawTells_diff x y va bs w hT hva hbs h h' a1 a2 a3 b1 b2 b3 hl ho hp hne fun j o p hj h1 h2 => Classical.byContradiction fun hn => hmin j hj ⟨o, p, h1, h2, hn⟩
    · refine lawTells_same x y va bs w hT hva hbs h h' a1 a2 a3 b1 b2 b3 hl (List.ext_getElem? fun i => ?_)
      rcases Nat.lt_or_ge i x.1.2.length with hi | hi
      · have ho := List.getElem?_eq_getElem hi
        have hp := List.getElem?_eq_getElem (show i < y.1.2.length by omega)
        rw [outF_get (N := x.1) ho, outF_get (N := y.1) hp]
        refine congrArg some (funext fun ρ => ?_)
        exact (tabI_eq h.ok.ok.1 h'.ok.ok.1 (h.ok.ok.2 _ (List.mem_of_getElem? ho)) (h'.ok.ok.2 _ (List.mem_of_getElem? hp))).1 (Classical.byContradiction fun hn => he ⟨i, _, _, ho, hp, hn⟩) ρ
      · rw [List.getElem?_eq_none (by unfold outF; rw [List.length_map]; omega), List.getElem?_eq_none (by unfold outF; rw [List.length_map]; omega)]
  · exact lawTells_notl x.1.1.length x.1.2.length y.1.1.length y.1.2.length x.2.1 x.2.2.2.1 y.2.1 y.2.2.2.1 x.2.2.1 x.2.2.2.2 y.2.2.1 y.2.2.2.2 va w hT (fun w' hb => small_nw x w' (h.of hb) a1 a2 a3) (fun w' hb => small_nw y w' (h'.of hb) b1 b2 b3) hl
end Go.Proofs.YtlnedapimmabdaaGreatDoor
