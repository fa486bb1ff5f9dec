/- The walk of MinimizeCompares. -/
import Derived.Test.YtlnedapimmabdaaGreatDoorV6
import Derived.Test.YtlnedapimmabdaaGreatDoorVw
import Derived.Deep.CutRange
import Derived.Deep.RegionHeld3
namespace Go.Proofs.YtlnedapimmabdaaGreatDoor
set_option linter.unusedVariables false
set_option linter.unusedSimpArgs false
open Go.RowKit Go.Maps
attribute [local go_sem low] Bel.cell Bel.frozen alloc_cell alloc_frozen
attribute [local go_sem] calmOp chainOp yieldsC grows

theorem out_at {x : NW} {W : World} (hn : NWs 6 W x) {i : Nat} (hi : i < x.1.2.length) : ∃ o b off, x.1.2[i]? = some o ∧ o < x.1.1.length ∧ x.2.2.2.1 = some ⟨b, off, none⟩ ∧ W.cell? ⟨b, off + i, none⟩ = some (.int .i64 (o : Int)) := by
  have h0 : 0 < (intsN x.1.2).length := by rw [show (intsN x.1.2).length = x.1.2.length from List.length_map ..]; omega
  obtain ⟨b, off, e, _, hc⟩ := hn.ok.ho h0
  have ho := List.getElem?_eq_getElem hi
  exact ⟨_, b, off, ho, hn.ok.ok.2 _ (List.mem_of_getElem? ho), e, hc i _ (by unfold intsN; rw [List.getElem?_map, ho]; rfl)⟩
theorem xor_same {T : Nat} (h : T < 2 ^ 64) : bits .xor .u64 (T : Int) (T : Int) = 0 := by rw [u64_xor_nat _ _ h h, Nat.xor_self]; rfl
theorem ownU_low {w : World} {b b' : Nat} {v : Value} {l : List Nat} (h : OwnU w b v l) (hb : b' ≤ b) : OwnU w b' v l := by
  obtain ⟨hxl, ⟨e1, e2⟩ | ⟨g, cap, cur, e1, hg, rest⟩⟩ := h
  · exact ⟨hxl, .inl ⟨e1, e2⟩⟩
  · exact ⟨hxl, .inr ⟨g, cap, cur, e1, Nat.le_trans hb hg, rest⟩⟩
theorem callsAt {p : Program} {f n : Nat} {a : Array Value} {v w : World} {P : World → Ending → World → Prop} {Q : Ending → World → Prop} (h : ∀ W, Below n v W → Calls p f a W (P W)) (hb : Below n v w) (hm : ∀ e w', P w e w' → Q e w') : Calls p f a w Q := (h w hb).mono hm
set_option maxRecDepth 100000 in
set_option maxHeartbeats 12800000 in
theorem lawCompares_notx (n m n2 m2 : Nat) (ga oa gb ob : Option Addr) (gc oc gd od : Nat) (w : World) (hT : Tab w) (hs1 : ∀ w', Below w.heap.size w w' → Calls Tryz.prog 12 #[.agg #[.slice ga n gc, .slice oa m oc]] w' (Ret (.bool false) w')) : Calls Tryz.prog 5 #[.agg #[.slice ga n gc, .slice oa m oc], .agg #[.slice gb n2 gd, .slice ob m2 od]] w (Ret (.bool true) w) := by
  have HS1 := Lib.hid hs1
  clear hs1
  have HT := Lib.hid hT
  clear hT
  go_enter Tryz.func5, Tryz.ntmps5
  go_wp2_with fail
  have hB : Below w.heap.size w ((w.alloc (.cells #[.slice ga n gc, .slice oa m oc] 25 (0, 0))).alloc (.cells #[.slice gb n2 gd, .slice ob m2 od] 25 (0, 0))) := (((Below.refl w.heap.size w).alloc (Nat.le_refl _) _).alloc (le_alloc (Nat.le_refl _)) _)
  have xb := obj_alloc (.cells #[.slice gb n2 gd, .slice ob m2 od] 25 (0, 0)) (World.alloc_heap_new w (.cells #[.slice ga n gc, .slice oa m oc] 25 (0, 0)))
  have yb := newAt1 w (.cells #[.slice ga n gc, .slice oa m oc] 25 (0, 0)) (.cells #[.slice gb n2 gd, .slice ob m2 od] 25 (0, 0))
  obtain ⟨V1, hV⟩ : ∃ V1, ((w.alloc (.cells #[.slice ga n gc, .slice oa m oc] 25 (0, 0))).alloc (.cells #[.slice gb n2 gd, .slice ob m2 od] 25 (0, 0))) = V1 := ⟨_, rfl⟩
  rw [hV] at hB xb yb ⊢
  clear hV
  refine (known_any _ (HT.out.of hB)).mono ?_
  rintro _ _ ⟨rfl, r1, rfl⟩
  have hbk := r1.below
  replace xb := obj_in hbk xb
  replace yb := obj_in hbk yb
  replace hB := hB.trans (hbk.mono hB.size)
  clear hbk
  obtain ⟨V2, hV⟩ : ∃ V2, r1.w = V2 := ⟨_, rfl⟩
  rw [hV] at hB xb yb ⊢
  clear hV
  obtain ⟨n0, m0, -⟩ := box2 xb
  dsimp only
  go_wp2_with fail
  clear n0 m0
  refine (HS1.out _ hB).mono ?_
  rintro _ _ ⟨rfl, r2, rfl⟩
  have hbk := r2.below
  replace xb := obj_in hbk xb
  replace yb := obj_in hbk yb
  replace hB := hB.trans (hbk.mono hB.size)
  clear hbk
  obtain ⟨V3, hV⟩ : ∃ V3, r2.w = V3 := ⟨_, rfl⟩
  rw [hV] at hB xb yb ⊢
  clear hV
  dsimp only
  go_wp2_with fail
  refine (known_any _ (HT.out.of hB)).mono ?_
  rintro _ _ ⟨rfl, yz, rfl⟩
  dsimp only
  go_wp2
  go_ret
  exact Ret.mk rfl (hB.trans (yz.below.mono hB.size))
set_option maxRecDepth 100000 in
set_option maxHeartbeats 12800000 in
theorem lawCompares_noty (n m n2 m2 : Nat) (ga oa gb ob : Option Addr) (gc oc gd od : Nat) (w : World) (hT : Tab w) (hs1 : ∀ w', Below w.heap.size w w' → Calls Tryz.prog 12 #[.agg #[.slice ga n gc, .slice oa m oc]] w' (Ret (.bool true) w')) (hs2 : ∀ w', Below w.heap.size w w' → Calls Tryz.prog 12 #[.agg #[.slice gb n2 gd, .slice ob m2 od]] w' (Ret (.bool false) w')) : Calls Tryz.prog 5 #[.agg #[.slice ga n gc, .slice oa m oc], .agg #[.slice gb n2 gd, .slice ob m2 od]] w (Ret (.bool true) w) := by
  have HS1 := Lib.hid hs1
  clear hs1
  have HS2 := Lib.hid hs2
  clear hs2
  have HT := Lib.hid hT
  clear hT
  go_enter Tryz.func5, Tryz.ntmps5
  go_wp2_with fail
  have hB : Below w.heap.size w ((w.alloc (.cells #[.slice ga n gc, .slice oa m oc] 25 (0, 0))).alloc (.cells #[.slice gb n2 gd, .slice ob m2 od] 25 (0, 0))) := (((Below.refl w.heap.size w).alloc (Nat.le_refl _) _).alloc (le_alloc (Nat.le_refl _)) _)
  have xb := obj_alloc (.cells #[.slice gb n2 gd, .slice ob m2 od] 25 (0, 0)) (World.alloc_heap_new w (.cells #[.slice ga n gc, .slice oa m oc] 25 (0, 0)))
  have yb := newAt1 w (.cells #[.slice ga n gc, .slice oa m oc] 25 (0, 0)) (.cells #[.slice gb n2 gd, .slice ob m2 od] 25 (0, 0))
  obtain ⟨V1, hV⟩ : ∃ V1, ((w.alloc (.cells #[.slice ga n gc, .slice oa m oc] 25 (0, 0))).alloc (.cells #[.slice gb n2 gd, .slice ob m2 od] 25 (0, 0))) = V1 := ⟨_, rfl⟩
  rw [hV] at hB xb yb ⊢
  clear hV
  refine (known_any _ (HT.out.of hB)).mono ?_
  rintro _ _ ⟨rfl, r1, rfl⟩
  have hbk := r1.below
  replace xb := obj_in hbk xb
  replace yb := obj_in hbk yb
  replace hB := hB.trans (hbk.mono hB.size)
  clear hbk
  obtain ⟨V2, hV⟩ : ∃ V2, r1.w = V2 := ⟨_, rfl⟩
  rw [hV] at hB xb yb ⊢
  clear hV
  obtain ⟨n0, m0, -⟩ := box2 xb
  dsimp only
  go_wp2_with fail
  clear n0 m0
  refine (HS1.out _ hB).mono ?_
  rintro _ _ ⟨rfl, r2, rfl⟩
  have hbk := r2.below
  replace xb := obj_in hbk xb
  replace yb := obj_in hbk yb
  replace hB := hB.trans (hbk.mono hB.size)
  clear hbk
  obtain ⟨V3, hV⟩ : ∃ V3, r2.w = V3 := ⟨_, rfl⟩
  rw [hV] at hB xb yb ⊢
  clear hV
  obtain ⟨n0, m0, -⟩ := box2 yb
  dsimp only
  go_wp2_with fail
  clear n0 m0
  refine (HS2.out _ hB).mono ?_
  rintro _ _ ⟨rfl, r3, rfl⟩
  have hbk := r3.below
  replace xb := obj_in hbk xb
  replace yb := obj_in hbk yb
  replace hB := hB.trans (hbk.mono hB.size)
  clear hbk
  obtain ⟨V4, hV⟩ : ∃ V4, r3.w = V4 := ⟨_, rfl⟩
  rw [hV] at hB xb yb ⊢
  clear hV
  dsimp only
  go_wp2_with fail
  refine (known_any _ (HT.out.of hB)).mono ?_
  rintro _ _ ⟨rfl, yz, rfl⟩
  dsimp only
  go_wp2
  go_ret
  exact Ret.mk rfl (hB.trans (yz.below.mono hB.size))
set_option maxRecDepth 100000 in
set_option maxHeartbeats 12800000 in
theorem lawCompares_notl (n m n2 m2 : Nat) (ga oa gb ob : Option Addr) (gc oc gd od : Nat) (w : World) (hT : Tab w) (hs1 : ∀ w', Below w.heap.size w w' → Calls Tryz.prog 12 #[.agg #[.slice ga n gc, .slice oa m oc]] w' (Ret (.bool true) w')) (hs2 : ∀ w', Below w.heap.size w w' → Calls Tryz.prog 12 #[.agg #[.slice gb n2 gd, .slice ob m2 od]] w' (Ret (.bool true) w')) (hm : m ≠ m2) : Calls Tryz.prog 5 #[.agg #[.slice ga n gc, .slice oa m oc], .agg #[.slice gb n2 gd, .slice ob m2 od]] w (Ret (.bool true) w) := by
  have HS1 := Lib.hid hs1
  clear hs1
  have HS2 := Lib.hid hs2
  clear hs2
  have f1 : ((m : Int) != (m2 : Int)) = true := by simp; omega
  have f2 : ((m : Int) == (m2 : Int)) = false := by simp; omega
  clear hm
  have HT := Lib.hid hT
  clear hT
  go_enter Tryz.func5, Tryz.ntmps5
  go_wp2_with fail
  have hB : Below w.heap.size w ((w.alloc (.cells #[.slice ga n gc, .slice oa m oc] 25 (0, 0))).alloc (.cells #[.slice gb n2 gd, .slice ob m2 od] 25 (0, 0))) := (((Below.refl w.heap.size w).alloc (Nat.le_refl _) _).alloc (le_alloc (Nat.le_refl _)) _)
  have xb := obj_alloc (.cells #[.slice gb n2 gd, .slice ob m2 od] 25 (0, 0)) (World.alloc_heap_new w (.cells #[.slice ga n gc, .slice oa m oc] 25 (0, 0)))
  have yb := newAt1 w (.cells #[.slice ga n gc, .slice oa m oc] 25 (0, 0)) (.cells #[.slice gb n2 gd, .slice ob m2 od] 25 (0, 0))
  obtain ⟨V1, hV⟩ : ∃ V1, ((w.alloc (.cells #[.slice ga n gc, .slice oa m oc] 25 (0, 0))).alloc (.cells #[.slice gb n2 gd, .slice ob m2 od] 25 (0, 0))) = V1 := ⟨_, rfl⟩
  rw [hV] at hB xb yb ⊢
  clear hV
  refine (known_any _ (HT.out.of hB)).mono ?_
  rintro _ _ ⟨rfl, r1, rfl⟩
  have hbk := r1.below
  replace xb := obj_in hbk xb
  replace yb := obj_in hbk yb
  replace hB := hB.trans (hbk.mono hB.size)
  clear hbk
  obtain ⟨V2, hV⟩ : ∃ V2, r1.w = V2 := ⟨_, rfl⟩
  rw [hV] at hB xb yb ⊢
  clear hV
  obtain ⟨n0, m0, -⟩ := box2 xb
  dsimp only
  go_wp2_with fail
  clear n0 m0
  refine (HS1.out _ hB).mono ?_
  rintro _ _ ⟨rfl, r2, rfl⟩
  have hbk := r2.below
  replace xb := obj_in hbk xb
  replace yb := obj_in hbk yb
  replace hB := hB.trans (hbk.mono hB.size)
  clear hbk
  obtain ⟨V3, hV⟩ : ∃ V3, r2.w = V3 := ⟨_, rfl⟩
  rw [hV] at hB xb yb ⊢
  clear hV
  obtain ⟨n0, m0, -⟩ := box2 yb
  dsimp only
  go_wp2_with fail
  clear n0 m0
  refine (HS2.out _ hB).mono ?_
  rintro _ _ ⟨rfl, r3, rfl⟩
  have hbk := r3.below
  replace xb := obj_in hbk xb
  replace yb := obj_in hbk yb
  replace hB := hB.trans (hbk.mono hB.size)
  clear hbk
  obtain ⟨V4, hV⟩ : ∃ V4, r3.w = V4 := ⟨_, rfl⟩
  rw [hV] at hB xb yb ⊢
  clear hV
  obtain ⟨n0, m0, -⟩ := box2 xb
  obtain ⟨n1, m1, -⟩ := box2 yb
  dsimp only
  go_wp2_with fail
  clear n0 m0 n1 m1
  refine (known_any _ (HT.out.of hB)).mono ?_
  rintro _ _ ⟨rfl, yz, rfl⟩
  dsimp only
  go_wp2
  go_ret
  exact Ret.mk rfl (hB.trans (yz.below.mono hB.size))
set_option maxRecDepth 100000 in
set_option maxHeartbeats 12800000 in
theorem lawCompares_same (x y : NW) (w : World) (hT : Tab w) (h : NWs 6 w x) (h' : NWs 6 w y) (a1 : x.1.1.length ≤ 16) (a2 : x.1.2.length ≤ 8) (a3 : ∀ g ∈ x.1.1, g.2.2.length ≤ 8) (b1 : y.1.1.length ≤ 16) (b2 : y.1.2.length ≤ 8) (b3 : ∀ g ∈ y.1.1, g.2.2.length ≤ 8) (hl : x.1.2.length = y.1.2.length) (he : outF x.1.1 x.1.2 = outF y.1.1 y.1.2) : Calls Tryz.prog 5 #[nwV x, nwV y] w (Ret (.bool true) w) := by
  have HOX := Lib.hid h.ok.ok
  have HOY := Lib.hid h'.ok.ok
  have HX := Lib.hid h
  have HY := Lib.hid h'
  clear h h'
  have f1 : ((x.1.2.length : Int) != (y.1.2.length : Int)) = false := by simp [hl]
  have f2 : ((x.1.2.length : Int) == (y.1.2.length : Int)) = true := by simp [hl]
  have HL := Lib.hid hl
  have lh := hl
  clear hl
  have HE := Lib.hid he
  clear he
  clear lh
  unfold nwV nV
  have HT := Lib.hid hT
  clear hT
  go_enter Tryz.func5, Tryz.ntmps5
  go_wp2_with fail
  have hB : Below w.heap.size w ((w.alloc (.cells #[.slice x.2.1 x.1.1.length x.2.2.1, .slice x.2.2.2.1 x.1.2.length x.2.2.2.2] 25 (0, 0))).alloc (.cells #[.slice y.2.1 y.1.1.length y.2.2.1, .slice y.2.2.2.1 y.1.2.length y.2.2.2.2] 25 (0, 0))) := (((Below.refl w.heap.size w).alloc (Nat.le_refl _) _).alloc (le_alloc (Nat.le_refl _)) _)
  have xb := obj_alloc (.cells #[.slice y.2.1 y.1.1.length y.2.2.1, .slice y.2.2.2.1 y.1.2.length y.2.2.2.2] 25 (0, 0)) (World.alloc_heap_new w (.cells #[.slice x.2.1 x.1.1.length x.2.2.1, .slice x.2.2.2.1 x.1.2.length x.2.2.2.2] 25 (0, 0)))
  have yb := newAt1 w (.cells #[.slice x.2.1 x.1.1.length x.2.2.1, .slice x.2.2.2.1 x.1.2.length x.2.2.2.2] 25 (0, 0)) (.cells #[.slice y.2.1 y.1.1.length y.2.2.1, .slice y.2.2.2.1 y.1.2.length y.2.2.2.2] 25 (0, 0))
  have HX := Lib.hid (HX.out.of hB)
  have HY := Lib.hid (HY.out.of hB)
  obtain ⟨V1, hV⟩ : ∃ V1, ((w.alloc (.cells #[.slice x.2.1 x.1.1.length x.2.2.1, .slice x.2.2.2.1 x.1.2.length x.2.2.2.2] 25 (0, 0))).alloc (.cells #[.slice y.2.1 y.1.1.length y.2.2.1, .slice y.2.2.2.1 y.1.2.length y.2.2.2.2] 25 (0, 0))) = V1 := ⟨_, rfl⟩
  rw [hV] at hB xb yb HX HY ⊢
  clear hV
  refine (known_any _ (HT.out.of hB)).mono ?_
  rintro _ _ ⟨rfl, r1, rfl⟩
  have hbk := r1.below
  replace xb := obj_in hbk xb
  replace yb := obj_in hbk yb
  replace HX := Lib.hid (HX.out.of hbk)
  replace HY := Lib.hid (HY.out.of hbk)
  replace hB := hB.trans (hbk.mono hB.size)
  clear hbk
  obtain ⟨V2, hV⟩ : ∃ V2, r1.w = V2 := ⟨_, rfl⟩
  rw [hV] at hB xb yb HX HY ⊢
  clear hV
  obtain ⟨n0, m0, -⟩ := box2 xb
  dsimp only
  go_wp2_with fail
  clear n0 m0
  refine (small_nw x _ HX.out a1 a2 a3).mono ?_
  rintro _ _ ⟨rfl, r2, rfl⟩
  have hbk := r2.below
  replace xb := obj_in hbk xb
  replace yb := obj_in hbk yb
  replace HX := Lib.hid (HX.out.of hbk)
  replace HY := Lib.hid (HY.out.of hbk)
  replace hB := hB.trans (hbk.mono hB.size)
  clear hbk
  obtain ⟨V3, hV⟩ : ∃ V3, r2.w = V3 := ⟨_, rfl⟩
  rw [hV] at hB xb yb HX HY ⊢
  clear hV
  obtain ⟨n0, m0, -⟩ := box2 yb
  dsimp only
  go_wp2_with fail
  clear n0 m0
  refine (small_nw y _ HY.out b1 b2 b3).mono ?_
  rintro _ _ ⟨rfl, r3, rfl⟩
  have hbk := r3.below
  replace xb := obj_in hbk xb
  replace yb := obj_in hbk yb
  replace HX := Lib.hid (HX.out.of hbk)
  replace HY := Lib.hid (HY.out.of hbk)
  replace hB := hB.trans (hbk.mono hB.size)
  clear hbk
  obtain ⟨V4, hV⟩ : ∃ V4, r3.w = V4 := ⟨_, rfl⟩
  rw [hV] at hB xb yb HX HY ⊢
  clear hV
  obtain ⟨n0, m0, -⟩ := box2 xb
  obtain ⟨n1, m1, -⟩ := box2 yb
  dsimp only
  go_wp2_with fail
  clear n0 m0 n1 m1
  refine (Equal_yes (v := 6) (by decide) x y _ HX.out HY.out HL.out HE.out).mono ?_
  rintro _ _ ⟨rfl, r4, rfl⟩
  have hbk := r4.below
  replace xb := obj_in hbk xb
  replace yb := obj_in hbk yb
  replace HX := Lib.hid (HX.out.of hbk)
  replace HY := Lib.hid (HY.out.of hbk)
  replace hB := hB.trans (hbk.mono hB.size)
  clear hbk
  obtain ⟨V5, hV⟩ : ∃ V5, r4.w = V5 := ⟨_, rfl⟩
  rw [hV] at hB xb yb HX HY ⊢
  clear hV
  obtain ⟨n0, m0, -⟩ := box2 xb
  obtain ⟨n1, m1, -⟩ := box2 yb
  dsimp only
  go_wp2_with fail
  clear n0 m0 n1 m1
  refine (Compare_same (v := 6) (by decide) x y V5 HX.out HY.out HL.out HE.out).mono ?_
  rintro _ _ ⟨rfl, yd, rfl⟩
  have hbk := yd.below
  replace xb := obj_in hbk xb
  replace yb := obj_in hbk yb
  replace HX := Lib.hid (HX.out.of hbk)
  replace HY := Lib.hid (HY.out.of hbk)
  replace hB := hB.trans (hbk.mono hB.size)
  clear hbk
  dsimp only
  go_wp2_with fail
  have hbk : Below yd.w.heap.size yd.w (yd.w.alloc (.cells #[.int .i64 0, .slice none 0 0] 37 (0, 0))) := (Below.refl _ _).alloc (Nat.le_refl _) _
  replace xb := obj_in hbk xb
  replace yb := obj_in hbk yb
  replace HX := Lib.hid (HX.out.of hbk)
  replace HY := Lib.hid (HY.out.of hbk)
  replace hB := hB.trans (hbk.mono hB.size)
  clear hbk
  have db := World.alloc_heap_new yd.w (.cells #[.int .i64 0, .slice none 0 0] 37 (0, 0))
  obtain ⟨DB, hDB⟩ : ∃ b, yd.w.heap.size = b := ⟨_, rfl⟩
  rw [hDB] at db ⊢
  clear hDB
  obtain ⟨V6, hV⟩ : ∃ V6, yd.w.alloc (.cells #[.int .i64 0, .slice none 0 0] 37 (0, 0)) = V6 := ⟨_, rfl⟩
  rw [hV] at hB xb yb db HX HY ⊢
  clear hV
  obtain ⟨n0, m0, -⟩ := box2 xb
  obtain ⟨n1, m1, -⟩ := box2 yb
  rename_i K0 hK0
  have HK0 := Lib.hid hK0
  clear hK0
  have HXB := Lib.hid xb
  have HYB := Lib.hid yb
  have HDB := Lib.hid db
  clear xb yb db
  have hRf : Below V6.heap.size V6 V6 := Below.refl _ _
  have SK := Lib.hid (show ∀ V : World, Below V6.heap.size V6 V → V.cell? ⟨w.heap.size, 0, none⟩ = some (.slice x.2.1 x.1.1.length x.2.2.1) ∧ V.cell? ⟨w.heap.size, 1, none⟩ = some (.slice x.2.2.2.1 x.1.2.length x.2.2.2.2) ∧ V.cell? ⟨w.heap.size + 1, 0, none⟩ = some (.slice y.2.1 y.1.1.length y.2.2.1) ∧ V.cell? ⟨w.heap.size + 1, 1, none⟩ = some (.slice y.2.2.2.1 y.1.2.length y.2.2.2.2) ∧ Below V6.heap.size V6 V from fun V h => ⟨below_cell h _ _ _ n0, below_cell h _ _ _ m0, below_cell h _ _ _ n1, below_cell h _ _ _ m1, h⟩)
  have HTX := Lib.hid (fun W (hb : Below V6.heap.size V6 W) => tables_any x.1.1 _ x.2.1 x.2.2.2.1 x.2.2.1 x.1.2.length x.2.2.2.2 W HOX.out.1 (HX.out.of hb).ok.hg (by omega) (fun g hg => by have := a3 g hg; omega))
  unfold nV at HTX
  have HTY := Lib.hid (fun W (hb : Below V6.heap.size V6 W) => tables_any y.1.1 _ y.2.1 y.2.2.2.1 y.2.2.1 y.1.2.length y.2.2.2.2 W HOY.out.1 (HY.out.of hb).ok.hg (by omega) (fun g hg => by have := b3 g hg; omega))
  unfold nV at HTY
  go_cut [10, 11] from 51 to 54 (fun v10 v11 wx => OwnU wx V6.heap.size v10 (tabsG x.1.1) ∧ OwnU wx V6.heap.size v11 (tabsG y.1.1) ∧ Below V6.heap.size V6 wx)
  case first =>
    go_region_held3 (fun V => V.cell? ⟨w.heap.size, 0, none⟩ = some (.slice x.2.1 x.1.1.length x.2.2.1) ∧ V.cell? ⟨w.heap.size, 1, none⟩ = some (.slice x.2.2.2.1 x.1.2.length x.2.2.2.2) ∧ V.cell? ⟨w.heap.size + 1, 0, none⟩ = some (.slice y.2.1 y.1.1.length y.2.2.1) ∧ V.cell? ⟨w.heap.size + 1, 1, none⟩ = some (.slice y.2.2.2.1 y.1.2.length y.2.2.2.2) ∧ Below V6.heap.size V6 V) (exact SK.out _ (by (repeat' (first | (with_reducible first | apply Zl1 | apply Zl3 | apply Zl4 | apply Zl5 | apply Zl8 | apply Zl9 | apply Zlb | assumption) | omega | (dsimp only; omega))))) (first | (go_at_call 20; with_reducible apply callsAt HTX.out; ((repeat' (first | (with_reducible first | apply Zl1 | apply Zl3 | apply Zl4 | apply Zl5 | apply Zl8 | apply Zl9 | apply Zlb | assumption) | omega | (dsimp only; omega)))); intro e6 W6 hR6; unfold RetU at hR6; obtain ⟨t6, hQ6, ho6, hb6⟩ := hR6; subst hQ6; obtain ⟨q6, rfl⟩ : ∃ q : Bel _, W6 = q.w := ⟨⟨W6, hb6⟩, rfl⟩; have HU6 := Lib.hid ho6; have hq6 := q6.size_le; try simp only [World.size_alloc, drew_size] at hq6; clear ho6 hb6; dsimp only) | (go_at_call 20; with_reducible apply callsAt HTY.out; ((repeat' (first | (with_reducible first | apply Zl1 | apply Zl3 | apply Zl4 | apply Zl5 | apply Zl8 | apply Zl9 | apply Zlb | assumption) | omega | (dsimp only; omega)))); intro e7 W7 hR7; unfold RetU at hR7; obtain ⟨t7, hQ7, ho7, hb7⟩ := hR7; subst hQ7; obtain ⟨q7, rfl⟩ : ∃ q : Bel _, W7 = q.w := ⟨⟨W7, hb7⟩, rfl⟩; have HU7 := Lib.hid ho7; have hq7 := q7.size_le; try simp only [World.size_alloc, drew_size] at hq7; clear ho7 hb7; dsimp only))
    all_goals (rename_i hHeld; go_wp2_with fail; go_meet; case rel => exact ⟨ownU_bel HU6.out q7.below, ownU_low HU7.out hq6, hHeld.2.2.2.2⟩)
  case rest =>
    obtain ⟨hu, hu', hbz⟩ := hcut
    have xb := obj_in hbz HXB.out
    have yb := obj_in hbz HYB.out
    have db := obj_in hbz HDB.out
    replace HX := Lib.hid (HX.out.of hbz)
    replace HY := Lib.hid (HY.out.of hbz)
    replace hB := hB.trans (hbz.mono hB.size)
    refine HK0.out _ _ ?_
    clear HK0 SK HTX HTY HXB HYB HDB hRf n0 m0 n1 m1 f1 f2 hbz
    obtain ⟨ta, tc, rfl, hct⟩ := ownU_sl hu
    obtain ⟨ua, uc, rfl, hcu⟩ := ownU_sl hu'
    simp only [tabs_len] at hct hcu ⊢
    have HCT := Lib.hid hct
    have HCU := Lib.hid hcu
    have HXB := Lib.hid xb
    have HYB := Lib.hid yb
    have HDB := Lib.hid db
    have HB0 := Lib.hid hB
    clear hct hcu hu hu' xb yb db hB
    go_wp2_with fail
    go_loopw [4, 12, 13, 14, 15] (fun _ iv _ _ _ wr => ∃ i : Nat, iv = .int .i64 (i : Int) ∧ i ≤ x.1.2.length ∧ ∃ q : Bel wc, wr = q.w) (fun _ iv _ _ _ _ => x.1.2.length - (intOf iv).toNat)
    case atStart => exact ⟨0, rfl, Nat.zero_le _, ⟨wc, Below.refl _ _⟩, rfl⟩
    case round =>
      obtain ⟨i, rfl, hik, q, rfl⟩ := hrel
      have hBs := HB0.out.size
      obtain ⟨n0, m0, -⟩ := box2 (obj_bel q HXB.out)
      obtain ⟨n1, m1, -⟩ := box2 (obj_bel q HYB.out)
      obtain ⟨d0, d1, -⟩ := box2 (obj_bel q HDB.out)
      rcases Nat.lt_or_ge i x.1.2.length with hi1 | hi1
      · have hi0 := hi1
        have hi2 : i < y.1.2.length := by have := HL.out; omega
        have g1 : decide ((i : Int) < (x.1.2.length : Int)) = true := decide_eq_true (by omega)
        have g2 : (0 ≤ (i : Int) ∧ (i : Int) < (x.1.2.length : Int)) := ⟨by omega, by omega⟩
        have g3 : (0 ≤ (i : Int) ∧ (i : Int) < (y.1.2.length : Int)) := ⟨by omega, by omega⟩
        obtain ⟨ox, bx, ax, hox, hlx, hax, hcx⟩ := out_at (HX.out.of q.below) hi1
        obtain ⟨oy, by', ay, hoy, hly, hay, hcy⟩ := out_at (HY.out.of q.below) hi2
        obtain ⟨gx, rfl, -, hgx, htx⟩ := HCT.out (by omega)
        obtain ⟨gy, rfl, -, hgy, hty⟩ := HCU.out (by omega)
        replace htx := (q.below.cell (p := ⟨gx, ox, none⟩) hgx).trans (htx ox _ (tabs_get hlx))
        replace hty := (q.below.cell (p := ⟨gy, oy, none⟩) hgy).trans (hty oy _ (tabs_get hly))
        have g4 : (0 ≤ (ox : Int) ∧ (ox : Int) < (x.1.1.length : Int)) := ⟨by omega, by omega⟩
        have g5 : (0 ≤ (oy : Int) ∧ (oy : Int) < (y.1.1.length : Int)) := ⟨by omega, by omega⟩
        rw [hax] at m0 ⊢
        rw [hay] at m1 ⊢
        have he := outF_tab HOX.out HOY.out HE.out hox hoy
        rw [← he] at hty
        obtain ⟨T, hT⟩ : ∃ T, tabI x.1.1 ox = T := ⟨_, rfl⟩
        rw [hT] at htx hty
        have hx := xor_same (T := T) (by rw [← hT]; exact tabI_lt _ _)
        clear he hT hox hoy
        have Hax := Lib.hid hax
        have Hay := Lib.hid hay
        clear hax hay
        go_wp2
        go_region
        go_wp2
        go_roundw
        case rel => exact ⟨i + 1, by go_num, by omega, ⟨q.w.drew, by (repeat' (first | (with_reducible first | apply Zl1 | apply Zl3 | apply Zl4 | apply Zl5 | apply Zl8 | apply Zl9 | apply Zlb | assumption) | omega | (dsimp only; omega)))⟩, rfl⟩
        case measure => simp [intOf]; omega
      · have g1 : decide ((i : Int) < (x.1.2.length : Int)) = false := decide_eq_false (by omega)
        go_wp2
        go_ret
        exact Ret.mk rfl (HB0.out.trans (q.below.mono hBs))
set_option maxRecDepth 100000 in
set_option maxHeartbeats 12800000 in
theorem lawCompares_diff (x y : NW) (w : World) (hT : Tab w) (h : NWs 6 w x) (h' : NWs 6 w y) (a1 : x.1.1.length ≤ 16) (a2 : x.1.2.length ≤ 8) (a3 : ∀ g ∈ x.1.1, g.2.2.length ≤ 8) (b1 : y.1.1.length ≤ 16) (b2 : y.1.2.length ≤ 8) (b3 : ∀ g ∈ y.1.1, g.2.2.length ≤ 8) (hl : x.1.2.length = y.1.2.length) {k o p : Nat} (ho : x.1.2[k]? = some o) (hp : y.1.2[k]? = some p) (hne : tabI x.1.1 o ≠ tabI y.1.1 p) (hlt : ∀ j o p, j < k → x.1.2[j]? = some o → y.1.2[j]? = some p → tabI x.1.1 o = tabI y.1.1 p) : Calls Tryz.prog 5 #[nwV x, nwV y] w (Ret (.bool true) w) := by
  have HOX := Lib.hid h.ok.ok
  have HOY := Lib.hid h'.ok.ok
  have HX := Lib.hid h
  have HY := Lib.hid h'
  clear h h'
  have f1 : ((x.1.2.length : Int) != (y.1.2.length : Int)) = false := by simp [hl]
  have f2 : ((x.1.2.length : Int) == (y.1.2.length : Int)) = true := by simp [hl]
  have HL := Lib.hid hl
  have lh := hl
  clear hl
  have HO := Lib.hid ho
  have HP := Lib.hid hp
  have HNE := Lib.hid hne
  have HLT := Lib.hid hlt
  clear ho hp hne hlt
  clear lh
  unfold nwV nV
  have HT := Lib.hid hT
  clear hT
  go_enter Tryz.func5, Tryz.ntmps5
  go_wp2_with fail
  have hB : Below w.heap.size w ((w.alloc (.cells #[.slice x.2.1 x.1.1.length x.2.2.1, .slice x.2.2.2.1 x.1.2.length x.2.2.2.2] 25 (0, 0))).alloc (.cells #[.slice y.2.1 y.1.1.length y.2.2.1, .slice y.2.2.2.1 y.1.2.length y.2.2.2.2] 25 (0, 0))) := (((Below.refl w.heap.size w).alloc (Nat.le_refl _) _).alloc (le_alloc (Nat.le_refl _)) _)
  have xb := obj_alloc (.cells #[.slice y.2.1 y.1.1.length y.2.2.1, .slice y.2.2.2.1 y.1.2.length y.2.2.2.2] 25 (0, 0)) (World.alloc_heap_new w (.cells #[.slice x.2.1 x.1.1.length x.2.2.1, .slice x.2.2.2.1 x.1.2.length x.2.2.2.2] 25 (0, 0)))
  have yb := newAt1 w (.cells #[.slice x.2.1 x.1.1.length x.2.2.1, .slice x.2.2.2.1 x.1.2.length x.2.2.2.2] 25 (0, 0)) (.cells #[.slice y.2.1 y.1.1.length y.2.2.1, .slice y.2.2.2.1 y.1.2.length y.2.2.2.2] 25 (0, 0))
  have HX := Lib.hid (HX.out.of hB)
  have HY := Lib.hid (HY.out.of hB)
  obtain ⟨V1, hV⟩ : ∃ V1, ((w.alloc (.cells #[.slice x.2.1 x.1.1.length x.2.2.1, .slice x.2.2.2.1 x.1.2.length x.2.2.2.2] 25 (0, 0))).alloc (.cells #[.slice y.2.1 y.1.1.length y.2.2.1, .slice y.2.2.2.1 y.1.2.length y.2.2.2.2] 25 (0, 0))) = V1 := ⟨_, rfl⟩
  rw [hV] at hB xb yb HX HY ⊢
  clear hV
  refine (known_any _ (HT.out.of hB)).mono ?_
  rintro _ _ ⟨rfl, r1, rfl⟩
  have hbk := r1.below
  replace xb := obj_in hbk xb
  replace yb := obj_in hbk yb
  replace HX := Lib.hid (HX.out.of hbk)
  replace HY := Lib.hid (HY.out.of hbk)
  replace hB := hB.trans (hbk.mono hB.size)
  clear hbk
  obtain ⟨V2, hV⟩ : ∃ V2, r1.w = V2 := ⟨_, rfl⟩
  rw [hV] at hB xb yb HX HY ⊢
  clear hV
  obtain ⟨n0, m0, -⟩ := box2 xb
  dsimp only
  go_wp2_with fail
  clear n0 m0
  refine (small_nw x _ HX.out a1 a2 a3).mono ?_
  rintro _ _ ⟨rfl, r2, rfl⟩
  have hbk := r2.below
  replace xb := obj_in hbk xb
  replace yb := obj_in hbk yb
  replace HX := Lib.hid (HX.out.of hbk)
  replace HY := Lib.hid (HY.out.of hbk)
  replace hB := hB.trans (hbk.mono hB.size)
  clear hbk
  obtain ⟨V3, hV⟩ : ∃ V3, r2.w = V3 := ⟨_, rfl⟩
  rw [hV] at hB xb yb HX HY ⊢
  clear hV
  obtain ⟨n0, m0, -⟩ := box2 yb
  dsimp only
  go_wp2_with fail
  clear n0 m0
  refine (small_nw y _ HY.out b1 b2 b3).mono ?_
  rintro _ _ ⟨rfl, r3, rfl⟩
  have hbk := r3.below
  replace xb := obj_in hbk xb
  replace yb := obj_in hbk yb
  replace HX := Lib.hid (HX.out.of hbk)
  replace HY := Lib.hid (HY.out.of hbk)
  replace hB := hB.trans (hbk.mono hB.size)
  clear hbk
  obtain ⟨V4, hV⟩ : ∃ V4, r3.w = V4 := ⟨_, rfl⟩
  rw [hV] at hB xb yb HX HY ⊢
  clear hV
  obtain ⟨n0, m0, -⟩ := box2 xb
  obtain ⟨n1, m1, -⟩ := box2 yb
  dsimp only
  go_wp2_with fail
  clear n0 m0 n1 m1
  refine (Equal_no (v := 6) (by decide) x y _ HX.out HY.out HL.out (fun e => HNE.out (outF_tab HOX.out HOY.out e HO.out HP.out))).mono ?_
  rintro _ _ ⟨rfl, r4, rfl⟩
  have hbk := r4.below
  replace xb := obj_in hbk xb
  replace yb := obj_in hbk yb
  replace HX := Lib.hid (HX.out.of hbk)
  replace HY := Lib.hid (HY.out.of hbk)
  replace hB := hB.trans (hbk.mono hB.size)
  clear hbk
  obtain ⟨V5, hV⟩ : ∃ V5, r4.w = V5 := ⟨_, rfl⟩
  rw [hV] at hB xb yb HX HY ⊢
  clear hV
  obtain ⟨n0, m0, -⟩ := box2 xb
  obtain ⟨n1, m1, -⟩ := box2 yb
  dsimp only
  go_wp2_with fail
  clear n0 m0 n1 m1
  refine (Compare_diff x y V5 HX.out HY.out HL.out HO.out HP.out HNE.out HLT.out).mono ?_
  rintro _ Wd ⟨dg, dc, rfl, hod, hbk⟩
  replace xb := obj_in hbk xb
  replace yb := obj_in hbk yb
  replace HX := Lib.hid (HX.out.of hbk)
  replace HY := Lib.hid (HY.out.of hbk)
  replace hB := hB.trans (hbk.mono hB.size)
  clear hbk
  dsimp only
  go_wp2_with fail
  have hbk : Below Wd.heap.size Wd (Wd.alloc (.cells #[.int .i64 (k : Int), .slice (some ⟨dg, 0, none⟩) 6 dc] 37 (0, 0))) := (Below.refl _ _).alloc (Nat.le_refl _) _
  replace xb := obj_in hbk xb
  replace yb := obj_in hbk yb
  replace HX := Lib.hid (HX.out.of hbk)
  replace HY := Lib.hid (HY.out.of hbk)
  replace hB := hB.trans (hbk.mono hB.size)
  have HOD := Lib.hid (ownB_bel hod hbk)
  clear hod
  clear hbk
  have db := World.alloc_heap_new Wd (.cells #[.int .i64 (k : Int), .slice (some ⟨dg, 0, none⟩) 6 dc] 37 (0, 0))
  obtain ⟨DB, hDB⟩ : ∃ b, Wd.heap.size = b := ⟨_, rfl⟩
  rw [hDB] at db ⊢
  clear hDB
  obtain ⟨V6, hV⟩ : ∃ V6, Wd.alloc (.cells #[.int .i64 (k : Int), .slice (some ⟨dg, 0, none⟩) 6 dc] 37 (0, 0)) = V6 := ⟨_, rfl⟩
  rw [hV] at hB xb yb db HX HY HOD ⊢
  clear hV
  obtain ⟨n0, m0, -⟩ := box2 xb
  obtain ⟨n1, m1, -⟩ := box2 yb
  rename_i K0 hK0
  have HK0 := Lib.hid hK0
  clear hK0
  have HXB := Lib.hid xb
  have HYB := Lib.hid yb
  have HDB := Lib.hid db
  clear xb yb db
  have hRf : Below V6.heap.size V6 V6 := Below.refl _ _
  have SK := Lib.hid (show ∀ V : World, Below V6.heap.size V6 V → V.cell? ⟨w.heap.size, 0, none⟩ = some (.slice x.2.1 x.1.1.length x.2.2.1) ∧ V.cell? ⟨w.heap.size, 1, none⟩ = some (.slice x.2.2.2.1 x.1.2.length x.2.2.2.2) ∧ V.cell? ⟨w.heap.size + 1, 0, none⟩ = some (.slice y.2.1 y.1.1.length y.2.2.1) ∧ V.cell? ⟨w.heap.size + 1, 1, none⟩ = some (.slice y.2.2.2.1 y.1.2.length y.2.2.2.2) ∧ Below V6.heap.size V6 V from fun V h => ⟨below_cell h _ _ _ n0, below_cell h _ _ _ m0, below_cell h _ _ _ n1, below_cell h _ _ _ m1, h⟩)
  have HTX := Lib.hid (fun W (hb : Below V6.heap.size V6 W) => tables_any x.1.1 _ x.2.1 x.2.2.2.1 x.2.2.1 x.1.2.length x.2.2.2.2 W HOX.out.1 (HX.out.of hb).ok.hg (by omega) (fun g hg => by have := a3 g hg; omega))
  unfold nV at HTX
  have HTY := Lib.hid (fun W (hb : Below V6.heap.size V6 W) => tables_any y.1.1 _ y.2.1 y.2.2.2.1 y.2.2.1 y.1.2.length y.2.2.2.2 W HOY.out.1 (HY.out.of hb).ok.hg (by omega) (fun g hg => by have := b3 g hg; omega))
  unfold nV at HTY
  go_cut [10, 11] from 51 to 54 (fun v10 v11 wx => OwnU wx V6.heap.size v10 (tabsG x.1.1) ∧ OwnU wx V6.heap.size v11 (tabsG y.1.1) ∧ Below V6.heap.size V6 wx)
  case first =>
    go_region_held3 (fun V => V.cell? ⟨w.heap.size, 0, none⟩ = some (.slice x.2.1 x.1.1.length x.2.2.1) ∧ V.cell? ⟨w.heap.size, 1, none⟩ = some (.slice x.2.2.2.1 x.1.2.length x.2.2.2.2) ∧ V.cell? ⟨w.heap.size + 1, 0, none⟩ = some (.slice y.2.1 y.1.1.length y.2.2.1) ∧ V.cell? ⟨w.heap.size + 1, 1, none⟩ = some (.slice y.2.2.2.1 y.1.2.length y.2.2.2.2) ∧ Below V6.heap.size V6 V) (exact SK.out _ (by (repeat' (first | (with_reducible first | apply Zl1 | apply Zl3 | apply Zl4 | apply Zl5 | apply Zl8 | apply Zl9 | apply Zlb | assumption) | omega | (dsimp only; omega))))) (first | (go_at_call 20; with_reducible apply callsAt HTX.out; ((repeat' (first | (with_reducible first | apply Zl1 | apply Zl3 | apply Zl4 | apply Zl5 | apply Zl8 | apply Zl9 | apply Zlb | assumption) | omega | (dsimp only; omega)))); intro e6 W6 hR6; unfold RetU at hR6; obtain ⟨t6, hQ6, ho6, hb6⟩ := hR6; subst hQ6; obtain ⟨q6, rfl⟩ : ∃ q : Bel _, W6 = q.w := ⟨⟨W6, hb6⟩, rfl⟩; have HU6 := Lib.hid ho6; have hq6 := q6.size_le; try simp only [World.size_alloc, drew_size] at hq6; clear ho6 hb6; dsimp only) | (go_at_call 20; with_reducible apply callsAt HTY.out; ((repeat' (first | (with_reducible first | apply Zl1 | apply Zl3 | apply Zl4 | apply Zl5 | apply Zl8 | apply Zl9 | apply Zlb | assumption) | omega | (dsimp only; omega)))); intro e7 W7 hR7; unfold RetU at hR7; obtain ⟨t7, hQ7, ho7, hb7⟩ := hR7; subst hQ7; obtain ⟨q7, rfl⟩ : ∃ q : Bel _, W7 = q.w := ⟨⟨W7, hb7⟩, rfl⟩; have HU7 := Lib.hid ho7; have hq7 := q7.size_le; try simp only [World.size_alloc, drew_size] at hq7; clear ho7 hb7; dsimp only))
    all_goals (rename_i hHeld; go_wp2_with fail; go_meet; case rel => exact ⟨ownU_bel HU6.out q7.below, ownU_low HU7.out hq6, hHeld.2.2.2.2⟩)
  case rest =>
    obtain ⟨hu, hu', hbz⟩ := hcut
    have xb := obj_in hbz HXB.out
    have yb := obj_in hbz HYB.out
    have db := obj_in hbz HDB.out
    replace HX := Lib.hid (HX.out.of hbz)
    replace HY := Lib.hid (HY.out.of hbz)
    replace HOD := Lib.hid (ownB_bel HOD.out hbz)
    replace hB := hB.trans (hbz.mono hB.size)
    refine HK0.out _ _ ?_
    clear HK0 SK HTX HTY HXB HYB HDB hRf n0 m0 n1 m1 f1 f2 hbz
    obtain ⟨ta, tc, rfl, hct⟩ := ownU_sl hu
    obtain ⟨ua, uc, rfl, hcu⟩ := ownU_sl hu'
    simp only [tabs_len] at hct hcu ⊢
    have HCT := Lib.hid hct
    have HCU := Lib.hid hcu
    have HXB := Lib.hid xb
    have HYB := Lib.hid yb
    have HDB := Lib.hid db
    have HB0 := Lib.hid hB
    clear hct hcu hu hu' xb yb db hB
    go_wp2_with fail
    go_loopw [4, 12, 13, 14, 15] (fun _ iv _ _ _ wr => ∃ i : Nat, iv = .int .i64 (i : Int) ∧ i ≤ k ∧ ∃ q : Bel wc, wr = q.w) (fun _ iv _ _ _ _ => x.1.2.length - (intOf iv).toNat)
    case atStart => exact ⟨0, rfl, Nat.zero_le _, ⟨wc, Below.refl _ _⟩, rfl⟩
    case round =>
      obtain ⟨i, rfl, hik, q, rfl⟩ := hrel
      have hBs := HB0.out.size
      obtain ⟨n0, m0, -⟩ := box2 (obj_bel q HXB.out)
      obtain ⟨n1, m1, -⟩ := box2 (obj_bel q HYB.out)
      obtain ⟨d0, d1, -⟩ := box2 (obj_bel q HDB.out)
      have hkl : k < x.1.2.length := (List.getElem?_eq_some_iff.1 HO.out).1
      have hi1 : i < x.1.2.length := by omega
      rcases Nat.lt_or_ge i k with hi0 | hi0
      · have hi0' := hi0
        have hi2 : i < y.1.2.length := by have := HL.out; omega
        have g1 : decide ((i : Int) < (x.1.2.length : Int)) = true := decide_eq_true (by omega)
        have g2 : (0 ≤ (i : Int) ∧ (i : Int) < (x.1.2.length : Int)) := ⟨by omega, by omega⟩
        have g3 : (0 ≤ (i : Int) ∧ (i : Int) < (y.1.2.length : Int)) := ⟨by omega, by omega⟩
        obtain ⟨ox, bx, ax, hox, hlx, hax, hcx⟩ := out_at (HX.out.of q.below) hi1
        obtain ⟨oy, by', ay, hoy, hly, hay, hcy⟩ := out_at (HY.out.of q.below) hi2
        obtain ⟨gx, rfl, -, hgx, htx⟩ := HCT.out (by omega)
        obtain ⟨gy, rfl, -, hgy, hty⟩ := HCU.out (by omega)
        replace htx := (q.below.cell (p := ⟨gx, ox, none⟩) hgx).trans (htx ox _ (tabs_get hlx))
        replace hty := (q.below.cell (p := ⟨gy, oy, none⟩) hgy).trans (hty oy _ (tabs_get hly))
        have g4 : (0 ≤ (ox : Int) ∧ (ox : Int) < (x.1.1.length : Int)) := ⟨by omega, by omega⟩
        have g5 : (0 ≤ (oy : Int) ∧ (oy : Int) < (y.1.1.length : Int)) := ⟨by omega, by omega⟩
        rw [hax] at m0 ⊢
        rw [hay] at m1 ⊢
        have he := HLT.out i ox oy hi0 hox hoy
        rw [← he] at hty
        obtain ⟨T, hT⟩ : ∃ T, tabI x.1.1 ox = T := ⟨_, rfl⟩
        rw [hT] at htx hty
        have hx := xor_same (T := T) (by rw [← hT]; exact tabI_lt _ _)
        clear he hT hox hoy
        have Hax := Lib.hid hax
        have Hay := Lib.hid hay
        clear hax hay
        go_wp2
        go_region
        go_wp2
        go_roundw
        case rel => exact ⟨i + 1, by go_num, by omega, ⟨q.w.drew, by (repeat' (first | (with_reducible first | apply Zl1 | apply Zl3 | apply Zl4 | apply Zl5 | apply Zl8 | apply Zl9 | apply Zlb | assumption) | omega | (dsimp only; omega)))⟩, rfl⟩
        case measure => simp [intOf]; omega
      · obtain rfl : i = k := by omega
        have hi2 : i < y.1.2.length := by have := HL.out; omega
        have g1 : decide ((i : Int) < (x.1.2.length : Int)) = true := decide_eq_true (by omega)
        have g2 : (0 ≤ (i : Int) ∧ (i : Int) < (x.1.2.length : Int)) := ⟨by omega, by omega⟩
        have g3 : (0 ≤ (i : Int) ∧ (i : Int) < (y.1.2.length : Int)) := ⟨by omega, by omega⟩
        obtain ⟨ox, bx, ax, hox, hlx, hax, hcx⟩ := out_at (HX.out.of q.below) hi1
        obtain ⟨oy, by', ay, hoy, hly, hay, hcy⟩ := out_at (HY.out.of q.below) hi2
        obtain ⟨gx, rfl, -, hgx, htx⟩ := HCT.out (by omega)
        obtain ⟨gy, rfl, -, hgy, hty⟩ := HCU.out (by omega)
        replace htx := (q.below.cell (p := ⟨gx, ox, none⟩) hgx).trans (htx ox _ (tabs_get hlx))
        replace hty := (q.below.cell (p := ⟨gy, oy, none⟩) hgy).trans (hty oy _ (tabs_get hly))
        have g4 : (0 ≤ (ox : Int) ∧ (ox : Int) < (x.1.1.length : Int)) := ⟨by omega, by omega⟩
        have g5 : (0 ≤ (oy : Int) ∧ (oy : Int) < (y.1.1.length : Int)) := ⟨by omega, by omega⟩
        rw [hax] at m0 ⊢
        rw [hay] at m1 ⊢
        have e1 : ox = o := by have h := hox.symm.trans HO.out; injection h
        have e2 : oy = p := by have h := hoy.symm.trans HP.out; injection h
        subst e1 e2
        have hN := HNE.out
        have hTl : tabI x.1.1 ox ^^^ tabI y.1.1 oy < 2 ^ 64 := Nat.xor_lt_two_pow (tabI_lt _ _) (tabI_lt _ _)
        have hT0 : tabI x.1.1 ox ^^^ tabI y.1.1 oy ≠ 0 := fun h => hN (xor_zero.1 h)
        have hxx : bits .xor .u64 (tabI x.1.1 ox : Int) (tabI y.1.1 oy : Int) = ((tabI x.1.1 ox ^^^ tabI y.1.1 oy : Nat) : Int) := u64_xor_nat _ _ (tabI_lt _ _) (tabI_lt _ _)
        obtain ⟨T, hT⟩ : ∃ T, tabI x.1.1 ox ^^^ tabI y.1.1 oy = T := ⟨_, rfl⟩
        rw [hT] at hTl hT0 hxx HOD
        clear hT hN HNE HLT HO HP hox hoy
        obtain ⟨A, hA⟩ : ∃ A, tabI x.1.1 ox = A := ⟨_, rfl⟩
        obtain ⟨B, hB'⟩ : ∃ B, tabI y.1.1 oy = B := ⟨_, rfl⟩
        rw [hA] at htx hxx
        rw [hB'] at hty hxx
        have z1 : ((T : Int) == 0) = false := by simp; omega
        have z2 : ((i : Int) != (i : Int)) = false := by simp
        have HR := Lib.hid (fun k (hk : k < 6) b w' => refCof_any (restT T k) k b (restT_lt hTl k) hk w')
        have HW := Lib.hid (fun k (hk : k < 6) => want_at T k hk)
        have HO4 := Lib.hid (ownB_bel HOD.out q.below)
        have HB4 := Lib.hid (HB0.out.trans (q.below.mono hBs))
        clear hA hB' hTl hT0 hax hay HOD
        go_wp2
        go_region
        go_wp2_with fail
        have HB5 := Lib.hid (HB4.out.trans ((Below.drew (Below.refl q.w.heap.size q.w)).mono HB4.out.size))
        have HO5 := Lib.hid (ownB_bel HO4.out (Below.drew (Below.refl q.w.heap.size q.w)))
        replace d1 : q.w.drew.cell? ⟨DB, 1, none⟩ = some (.slice (some ⟨dg, 0, none⟩) 6 dc) := d1
        obtain ⟨Z, hZ⟩ : ∃ Z, q.w.drew = Z := ⟨_, rfl⟩
        rw [hZ] at HB5 HO5 d1 ⊢
        clear hZ z1 z2 n0 m0 n1 m1 d0 hcx hcy htx hty g1 g2 g3 g4 g5 hxx HB4 HO4
        have zd := World.block_lt_of_cell? _ _ d1
        go_loopw [4, 13, 14, 15] (fun _ xv vv _ wr => ∃ j : Nat, xv = .int .u64 (restT T j : Int) ∧ vv = .int .i64 (j : Int) ∧ j ≤ 6 ∧ ∃ r : Bel Z, wr = r.w) (fun _ _ vv _ _ => 6 - (intOf vv).toNat)
        case atStart => exact ⟨0, rfl, rfl, by omega, ⟨Z, Below.refl _ _⟩, rfl⟩
        case round =>
          obtain ⟨j, rfl, rfl, hj, r, rfl⟩ := hrel
          have hZs := HB5.out.size
          rcases Nat.lt_or_ge j 6 with hj6 | hj6
          · have l1 : decide ((j : Int) < 6) = true := decide_eq_true (by omega)
            have l2 : (0 ≤ (j : Int) ∧ (j : Int) < 6) := ⟨by omega, by omega⟩
            have hR0 := Lib.hid (HR.out j hj6 false)
            have hR1 := Lib.hid (HR.out j hj6 (decide (cof (restT T j) j false = 0)))
            have hw := HW.out j hj6
            have hrs : Hid (restT T (j + 1) = cof (restT T j) j (decide (cof (restT T j) j false = 0))) := Lib.hid rfl
            have hz : ((cof (restT T j) j false : Int) == 0) = decide (cof (restT T j) j false = 0) := by
              by_cases h : cof (restT T j) j false = 0
              · rw [h]; rfl
              · rw [decide_eq_false h]; simp; omega
            generalize decide (cof (restT T j) j false = 0) = dd at *
            generalize cof (restT T j) j false = c0 at *
            go_wp2_with fail
            refine (hR0.out _).mono ?_
            rintro _ _ ⟨rfl, r1, rfl⟩
            have hO := ownB_get (ownB_bel HO5.out (show Below Z.heap.size Z r1.w by (repeat' (first | (with_reducible first | apply Zl1 | apply Zl3 | apply Zl4 | apply Zl5 | apply Zl8 | apply Zl9 | apply Zlb | assumption) | omega | (dsimp only; omega))))) hw
            have hdd : (dd != dd) = false := by cases dd <;> rfl
            dsimp only
            go_wp2_with fail
            refine (hR1.out _).mono ?_
            rintro _ _ ⟨rfl, r2, rfl⟩
            clear hw
            dsimp only
            go_wp2
            go_roundw
            case rel => exact ⟨j + 1, by rw [hrs.out], by go_num, by omega, ⟨r2.w, by (repeat' (first | (with_reducible first | apply Zl1 | apply Zl3 | apply Zl4 | apply Zl5 | apply Zl8 | apply Zl9 | apply Zlb | assumption) | omega | (dsimp only; omega)))⟩, rfl⟩
            case measure => simp [intOf]; omega
          · have l1 : decide ((j : Int) < 6) = false := decide_eq_false (by omega)
            go_wp2
            go_ret
            exact Ret.mk rfl (HB5.out.trans (r.below.mono hZs))
theorem least_of {P : Nat → Prop} : (∃ k, P k) → ∃ k, P k ∧ ∀ j, j < k → ¬P j := by
  rintro ⟨k, hk⟩
  induction k using Nat.strongRecOn with
  | ind k ih =>
    by_cases h : ∃ j, j < k ∧ P j
    · obtain ⟨j, hj, hp⟩ := h
      exact ih j hj hp
    · exact ⟨k, hk, fun j hj hp => h ⟨j, hj, hp⟩⟩
theorem lawCompares_two (x y : NW) (w : World) (hT : Tab w) (h : NWs 6 w x) (h' : NWs 6 w y) (a1 : x.1.1.length ≤ 16) (a2 : x.1.2.length ≤ 8) (a3 : ∀ g ∈ x.1.1, g.2.2.length ≤ 8) (b1 : y.1.1.length ≤ 16) (b2 : y.1.2.length ≤ 8) (b3 : ∀ g ∈ y.1.1, g.2.2.length ≤ 8) : Calls Tryz.prog 5 #[nwV x, nwV y] w (Ret (.bool true) w) := by
  by_cases hl : x.1.2.length = y.1.2.length
  · by_cases he : ∃ (k o p : Nat), x.1.2[k]? = some o ∧ y.1.2[k]? = some p ∧ tabI x.1.1 o ≠ tabI y.1.1 p
    · obtain ⟨k, ⟨o, p, ho, hp, hne⟩, hmin⟩ := least_of (P := fun k => ∃ (o p : Nat), x.1.2[k]? = some o ∧ y.1.2[k]? = some p ∧ tabI x.1.1 o ≠ tabI y.1.1 p) he
      exact lawCompares_diff x y w hT h h' a1 a2 a3 b1 b2 b3 hl ho hp hne fun j o p hj h1 h2 => Classical.byContradiction fun hn => hmin j hj ⟨o, p, h1, h2, hn⟩
    · refine lawCompares_same x y w hT h h' a1 a2 a3 b1 b2 b3 hl (List.ext_getElem? fun i => ?_)
      rcases Nat.lt_or_ge i x.1.2.length with hi | hi
      · have ho := List.getElem?_eq_getElem hi
        have hp := List.getElem?_eq_getElem (show i < y.1.2.length by omega)
        rw [outF_get (N := x.1) ho, outF_get (N := y.1) hp]
        refine congrArg some (funext fun ρ => ?_)
        exact (tabI_eq h.ok.ok.1 h'.ok.ok.1 (h.ok.ok.2 _ (List.mem_of_getElem? ho)) (h'.ok.ok.2 _ (List.mem_of_getElem? hp))).1 (Classical.byContradiction fun hn => he ⟨i, _, _, ho, hp, hn⟩) ρ
      · rw [List.getElem?_eq_none (by unfold outF; rw [List.length_map]; omega), List.getElem?_eq_none (by unfold outF; rw [List.length_map]; omega)]
  · exact lawCompares_notl x.1.1.length x.1.2.length y.1.1.length y.1.2.length x.2.1 x.2.2.2.1 y.2.1 y.2.2.2.1 x.2.2.1 x.2.2.2.2 y.2.2.1 y.2.2.2.2 w hT (fun w' hb => small_nw x w' (h.of hb) a1 a2 a3) (fun w' hb => small_nw y w' (h'.of hb) b1 b2 b3) hl
end Go.Proofs.YtlnedapimmabdaaGreatDoor
