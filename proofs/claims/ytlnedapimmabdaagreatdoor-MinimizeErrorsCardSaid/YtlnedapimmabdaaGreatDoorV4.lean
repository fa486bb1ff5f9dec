/- minimize.Compare: the first difference. minimize.Reduce: its errors. -/
import Derived.Test.YtlnedapimmabdaaGreatDoorV3
import Derived.Deep.CutRange
import Derived.Deep.RegionHeld3
namespace Go.Proofs.YtlnedapimmabdaaGreatDoor
set_option linter.unusedVariables false
set_option linter.unusedSimpArgs false
open Go.RowKit Go.Maps
attribute [local go_sem low] Bel.cell Bel.frozen alloc_cell alloc_frozen

def xorF (f g : Fn3) : Fn3 := fun ρ => f ρ != g ρ
def negF (f : Fn3) : Fn3 := fun ρ => !f ρ
structure CmpNet (R : Fn3 → Dg3 → Prop) (fs gs : List Fn3) (v : Nat) (Wt : Fn3 → Fn3 → List Bool → Prop) : Prop where
  len : ∀ f d, R f d → d.1.length ≤ 1000000
  eqv : ∀ f g d e, R f d → R g e → (d = e ↔ f = g)
  neg : ∀ (k : Nat) f g, fs[k]? = some f → gs[k]? = some g → f ≠ g → ∀ (d : Dg3) (ad : Option Addr) (cap : Nat) (w : World), R g d → InD w.heap.size w ad (d.1.map z3) → Calls Tryz.prog 43 #[dnV (ad, cap, d)] w (RetF R (negF g) w)
  cho : ∀ (k : Nat) f g, fs[k]? = some f → gs[k]? = some g → f ≠ g → ∀ (d d1 d2 : Dg3) (a0 a1 a2 : Option Addr) (c0 c1 c2 : Nat) (w : World), R f d → R (negF g) d1 → R g d2 → InD w.heap.size w a0 (d.1.map z3) → InD w.heap.size w a1 (d1.1.map z3) → InD w.heap.size w a2 (d2.1.map z3) → Calls Tryz.prog 44 #[dnV (a0, c0, d), dnV (a1, c1, d1), dnV (a2, c2, d2)] w (RetF R (xorF f g) w)
  wit : ∀ (k : Nat) f g, fs[k]? = some f → gs[k]? = some g → f ≠ g → ∀ (d : Dg3) (ad : Option Addr) (cap : Nat) (w : World), R (xorF f g) d → InD w.heap.size w ad (d.1.map z3) → Calls Tryz.prog 45 #[dnV (ad, cap, d), .int .i64 (v : Int)] w (fun e w' => ∃ l, Wt f g l ∧ RetWit l w e w')
def RetCmp (fs gs : List Fn3) (Wt : Fn3 → Fn3 → List Bool → Prop) (w : World) (e : Ending) (w' : World) : Prop :=
  (fs = gs ∧ e = .returned (.tuple #[.agg #[.int .i64 0, .slice none 0 0], .bool false, .int .i64 0]) ∧ Below w.heap.size w w') ∨
  ∃ (k : Nat) (f g : Fn3) (l : List Bool) (b cap : Nat), fs[k]? = some f ∧ gs[k]? = some g ∧ f ≠ g ∧ fs.take k = gs.take k ∧ Wt f g l ∧ e = .returned (.tuple #[.agg #[.int .i64 (k : Int), .slice (some ⟨b, 0, none⟩) l.length cap], .bool true, .int .i64 0]) ∧ OwnB w' w.heap.size b cap l ∧ Below w.heap.size w w'
set_option maxRecDepth 100000 in
set_option maxHeartbeats 6400000 in
theorem Compare_ok (R : Fn3 → Dg3 → Prop) (fs gs : List Fn3) (v : Nat) (Wt : Fn3 → Fn3 → List Bool → Prop) (x y : Value) (w : World) (hx : ∃ ga n gc oa m oc, x = .agg #[.slice ga n gc, .slice oa m oc]) (hy : ∃ ga n gc oa m oc, y = .agg #[.slice ga n gc, .slice oa m oc]) (hfg : fs.length = gs.length) (hfl : fs.length ≤ 1000000)
    (hc : CmpNet R fs gs v Wt) (hp : ∀ w', Below w.heap.size w w' → Calls Tryz.prog 41 #[x, y, .int .i64 (v : Int)] w' (RetP R fs gs w')) :
    Calls Tryz.prog 19 #[x, y, .int .i64 (v : Int)] w (RetCmp fs gs Wt w) := by
  obtain ⟨ga, n, gc, oa, m, oc, rfl⟩ := hx
  obtain ⟨gb, n2, gd, ob, m2, od, rfl⟩ := hy
  have hb0 : Below w.heap.size w (((w.alloc (.cells #[.slice ga n gc, .slice oa m oc] 25)).alloc (.cells #[.slice gb n2 gd, .slice ob m2 od] 25)).alloc (.cells #[.int .i64 0, .slice none 0 0] 37)) := (((Below.refl _ w).alloc (Nat.le_refl _) _).alloc (by simp) _).alloc (by simp; omega) _
  have hres := World.alloc_heap_new ((w.alloc (.cells #[.slice ga n gc, .slice oa m oc] 25)).alloc (.cells #[.slice gb n2 gd, .slice ob m2 od] 25)) (.cells #[.int .i64 0, .slice none 0 0] 37 (0, 0))
  rw [World.size_alloc, World.size_alloc] at hres
  have HP := Lib.hid (hp _ hb0)
  have HB0 := Lib.hid hb0
  have HRES := Lib.hid hres
  have HC := Lib.hid hc
  have HFG := Lib.hid hfg
  have HFL := Lib.hid hfl
  clear hp hb0 hres hc hfg hfl
  unfold RetCmp
  go_enter Tryz.func19, Tryz.ntmps19
  go_wp2_with fail
  refine HP.out.mono ?_
  rintro _ W1 ⟨v1, v2, l1, l2, rfl, p1, p2, p3, p4, p5, p6, p7⟩
  have hb1 := HB0.out.trans (p7.mono HB0.out.size)
  have hr1 := obj_in p7 HRES.out
  have hs1 : w.heap.size + 3 ≤ W1.heap.size := by have := p7.size; simp at this; omega
  obtain ⟨va, vc, rfl⟩ := p1.val
  obtain ⟨vb, vd, rfl⟩ := p2.val
  obtain ⟨RB, hRB⟩ : ∃ RB, w.heap.size + 1 + 1 = RB := ⟨_, rfl⟩
  obtain ⟨q0, q1, q2, q3⟩ := box2 hr1
  have P1 := Lib.hid p1
  have P2 := Lib.hid p2
  have P3 := Lib.hid p3
  have P4 := Lib.hid p4
  have P5 := Lib.hid p5
  have P6 := Lib.hid p6
  have HB1 := Lib.hid hb1
  have HR1 := Lib.hid hr1
  have hll : l1.length ≤ 1000000 := by have := HFL.out; omega
  clear p1 p2 p3 p4 p5 p6 p7 hb1 hr1 q0 q1 q2 q3 hRB
  dsimp only
  go_wp2_with fail
  go_loopw [31] (fun iv wr => ∃ k : Nat, iv = .int .i64 (k : Int) ∧ k ≤ l1.length ∧ fs.take k = gs.take k ∧ Below W1.heap.size W1 wr) (fun iv _ => l1.length - (intOf iv).toNat)
  case atStart => exact ⟨0, rfl, by omega, by simp, Below.refl _ _⟩
  case round =>
    rename World => wo
    obtain ⟨k, rfl, hk, htk, hbw⟩ := hrel
    have HTK := Lib.hid htk
    have hws := hbw.size
    clear htk
    rcases Nat.lt_or_ge k l1.length with hkl | hkl
    · have hkm : k < l2.length := by have := P3.out; have := P4.out; have := HFG.out; omega
      obtain ⟨x, hx⟩ : ∃ x, l1[k]? = some x := ⟨_, List.getElem?_eq_getElem hkl⟩
      obtain ⟨z, hz⟩ : ∃ z, l2[k]? = some z := ⟨_, List.getElem?_eq_getElem hkm⟩
      obtain ⟨f, hf⟩ : ∃ f, fs[k]? = some f := ⟨_, List.getElem?_eq_getElem (by have := P3.out; omega)⟩
      obtain ⟨g, hg⟩ : ∃ g, gs[k]? = some g := ⟨_, List.getElem?_eq_getElem (by have := P4.out; omega)⟩
      obtain ⟨b1, o1, e1, hb1, x0, x1⟩ := (P1.out.of hbw).at hx
      obtain ⟨b2, o2, e2, hb2, z0, z1⟩ := (P2.out.of hbw).at hz
      injection e1 with e1 _ e11
      injection e2 with e2 _ e22
      subst e1 e2
      have hRf := P5.out k x f hx hf
      have hRg := P6.out k z g hz hg
      have f1 : decide ((k : Int) < (l1.length : Int)) = true := decide_eq_true (by omega)
      have hib : (0 ≤ (k : Int) ∧ (k : Int) < (l1.length : Int)) := ⟨by omega, by omega⟩
      have hib2 : (0 ≤ (k : Int) ∧ (k : Int) < (l2.length : Int)) := ⟨by omega, by omega⟩
      have hxi := ((P1.out.of hbw).2 x (List.mem_of_getElem? hx)).1
      have hzi := ((P2.out.of hbw).2 z (List.mem_of_getElem? hz)).1
      have hE := fun W (hW : Below wo.heap.size wo W) => dEqual_any (x.1, x.2.1, x.2.2.1.map z3, (x.2.2.2 : Int)) (z.1, z.2.1, z.2.2.1.map z3, (z.2.2.2 : Int)) W ((hxi.of hW).up hW.size) ((hzi.of hW).up hW.size) (by rw [List.length_map]; exact HC.out.len _ _ hRf) (by rw [List.length_map]; exact HC.out.len _ _ hRg)
      dsimp only at hE
      simp only [dgEq, List.length_map] at hE
      have HRF := Lib.hid hRf
      have HRG := Lib.hid hRg
      have HXI := Lib.hid hxi
      have HZI := Lib.hid hzi
      have HF := Lib.hid (And.intro hf hg)
      clear hx hz hxi hzi e11 e22 hRf hRg hf hg
      by_cases hfe : f = g
      · rw [decide_eq_true ((HC.out.eqv _ _ _ _ HRF.out HRG.out).2 hfe)] at hE
        have HE := Lib.hid hE
        have HFE := Lib.hid hfe
        clear hE hfe
        go_wp2_with fail
        refine wp_region_bel (by kernel_rfl) (by kernel_rfl) ?_
        repeat (go_big_quiet_step ((go_at_call 26; with_reducible refine bel_of (HE.out _ ?_); (repeat' (first | (with_reducible first | apply Zl1 | apply Zl2 | apply Zl3 | apply Zl4 | apply Zl5 | apply Zl6 | apply Zl7 | apply Zl8 | apply Zl9 | apply Zla | apply Zlb | apply Zlc) | (dsimp only; with_reducible first | apply Zl8 | apply Zl2 | apply Zld) | with_reducible assumption | omega | (dsimp only; omega))))))
        refine wpQuiet_nil ?_
        rintro _ ⟨z9, rfl⟩
        go_wp2
        refine ⟨⟨k + 1, by go_num, by omega, ?_, by (repeat' (first | (with_reducible first | apply Zl1 | apply Zl2 | apply Zl3 | apply Zl4 | apply Zl5 | apply Zl6 | apply Zl7 | apply Zl8 | apply Zl9 | apply Zla | apply Zlb | apply Zlc) | (dsimp only; with_reducible first | apply Zl8 | apply Zl2 | apply Zld) | with_reducible assumption | omega | (dsimp only; omega)))⟩, by simp [intOf]; omega⟩
        rw [List.take_add_one, List.take_add_one, HF.out.1, HF.out.2, HTK.out, HFE.out]
      · rw [decide_eq_false (fun h => hfe ((HC.out.eqv _ _ _ _ HRF.out HRG.out).1 h))] at hE
        have HE := Lib.hid hE
        have HFE := Lib.hid hfe
        clear hE hfe
        go_wp2_with fail
        refine wp_region_bel (by kernel_rfl) (by kernel_rfl) ?_
        repeat (go_big_quiet_step ((go_at_call 26; with_reducible refine bel_of (HE.out _ ?_); (repeat' (first | (with_reducible first | apply Zl1 | apply Zl2 | apply Zl3 | apply Zl4 | apply Zl5 | apply Zl6 | apply Zl7 | apply Zl8 | apply Zl9 | apply Zla | apply Zlb | apply Zlc) | (dsimp only; with_reducible first | apply Zl8 | apply Zl2 | apply Zld) | with_reducible assumption | omega | (dsimp only; omega))))))
        refine wpQuiet_nil ?_
        rintro _ ⟨z9, rfl⟩
        go_wp2_with fail
        have hz9 := z9.below
        refine (HC.out.neg k f g HF.out.1 HF.out.2 HFE.out _ _ _ z9.w HRG.out ((HZI.out.of hz9).up hz9.size)).mono ?_
        rintro _ W4 ⟨d4, hR4, a4, c4, rfl, hi4, hf4, hb4⟩
        have hb4w : Below wo.heap.size wo W4 := hz9.trans (hb4.mono hz9.size)
        have hx4 := (HXI.out.of hb4w).up hb4w.size
        have hz4 := (HZI.out.of hb4w).up hb4w.size
        have hx40 := below_cell hb4w _ _ _ x0
        have hx41 := below_cell hb4w _ _ _ x1
        have hz40 := below_cell hb4w _ _ _ z0
        have hz41 := below_cell hb4w _ _ _ z1
        have HR4 := Lib.hid hR4
        have HI4 := Lib.hid hi4
        have HB4 := Lib.hid hb4w
        have HX4 := Lib.hid hx4
        have HZ4 := Lib.hid hz4
        have hs4 := hb4w.size
        clear hR4 hi4 hf4 hb4 hb4w hx4 hz4 hz9 x0 x1 z0 z1
        dsimp only
        go_wp2_with fail
        obtain ⟨xa, xc, xd⟩ := x
        obtain ⟨za, zc, zd⟩ := z
        have hal : Below W4.heap.size W4 (W4.alloc (.cells #[.slice a4 d4.1.length c4, .int .i64 (d4.2 : Int)] 63)) := (Below.refl _ _).alloc (Nat.le_refl _) _
        have hdb := World.alloc_heap_new W4 (.cells #[.slice a4 d4.1.length c4, .int .i64 (d4.2 : Int)] 63 (0, 0))
        obtain ⟨r0, r1, -⟩ := box2 hdb
        have hy0 := below_cell hal _ _ _ hx40
        have hy1 := below_cell hal _ _ _ hx41
        have hy2 := below_cell hal _ _ _ hz40
        have hy3 := below_cell hal _ _ _ hz41
        have HAL := Lib.hid hal
        obtain ⟨WN, hWN⟩ : ∃ WN, W4.alloc (.cells #[.slice a4 d4.1.length c4, .int .i64 (d4.2 : Int)] 63) = WN := ⟨_, rfl⟩
        have hNs : W4.heap.size < WN.heap.size := by rw [← hWN, World.size_alloc]; omega
        rw [hWN] at hy0 hy1 hy2 hy3 r0 r1 HAL ⊢
        have HCH := Lib.hid (fun W' (hb : Below WN.heap.size WN W') => (show Calls Tryz.prog 44 #[.agg #[.slice xa xd.1.length xc, .int .i64 (xd.2 : Int)], .agg #[.slice a4 d4.1.length c4, .int .i64 (d4.2 : Int)], .agg #[.slice za zd.1.length zc, .int .i64 (zd.2 : Int)]] W' (RetF R (xorF f g) W') from HC.out.cho k f g HF.out.1 HF.out.2 HFE.out xd d4 zd xa a4 za xc c4 zc W' HRF.out HR4.out HRG.out ((HX4.out.of (HAL.out.trans (hb.mono HAL.out.size))).up (by have := hb.size; omega)) ((HI4.out.of (HAL.out.trans (hb.mono HAL.out.size))).up (by have := hb.size; omega)) ((HZ4.out.of (HAL.out.trans (hb.mono HAL.out.size))).up (by have := hb.size; omega))))
        clear hal hdb hx40 hx41 hz40 hz41 hWN
        have hRf : Below WN.heap.size WN WN := Below.refl _ _
        dsimp only at hy0 hy1 hy2 hy3
        have SK := Lib.hid (show ∀ V : World, Below WN.heap.size WN V → V.cell? ⟨b1, k * 2, none⟩ = some (.slice xa xd.1.length xc) ∧ V.cell? ⟨b1, k * 2 + 1, none⟩ = some (.int .i64 (xd.2 : Int)) ∧ V.cell? ⟨b2, k * 2, none⟩ = some (.slice za zd.1.length zc) ∧ V.cell? ⟨b2, k * 2 + 1, none⟩ = some (.int .i64 (zd.2 : Int)) ∧ V.cell? ⟨W4.heap.size, 0, none⟩ = some (.slice a4 d4.1.length c4) ∧ V.cell? ⟨W4.heap.size, 1, none⟩ = some (.int .i64 (d4.2 : Int)) ∧ Below WN.heap.size WN V from fun V h => ⟨below_cell h _ _ _ hy0, below_cell h _ _ _ hy1, below_cell h _ _ _ hy2, below_cell h _ _ _ hy3, below_cell h _ _ _ r0, below_cell h _ _ _ r1, h⟩)
        go_cut [13, 14] from 55 to 67 (fun v13 v14 wx => ∃ (b : Nat) (d5 : Dg3) (a5 : Option Addr) (c5 : Nat), v14 = .pointer (some ⟨b, 0, none⟩) ∧ v13 = .int .i64 0 ∧ R (xorF f g) d5 ∧ InD wx.heap.size wx a5 (d5.1.map z3) ∧ wx.heap[b]? = some (.cells #[.slice a5 d5.1.length c5, .int .i64 (d5.2 : Int)] 63 (0, 0)) ∧ Below WN.heap.size WN wx)
        case first =>
          go_region_held3 (fun V => V.cell? ⟨b1, k * 2, none⟩ = some (.slice xa xd.1.length xc) ∧ V.cell? ⟨b1, k * 2 + 1, none⟩ = some (.int .i64 (xd.2 : Int)) ∧ V.cell? ⟨b2, k * 2, none⟩ = some (.slice za zd.1.length zc) ∧ V.cell? ⟨b2, k * 2 + 1, none⟩ = some (.int .i64 (zd.2 : Int)) ∧ V.cell? ⟨W4.heap.size, 0, none⟩ = some (.slice a4 d4.1.length c4) ∧ V.cell? ⟨W4.heap.size, 1, none⟩ = some (.int .i64 (d4.2 : Int)) ∧ Below WN.heap.size WN V) (exact SK.out _ (by (repeat' (first | (with_reducible first | apply Zl1 | apply Zl2 | apply Zl3 | apply Zl4 | apply Zl5 | apply Zl6 | apply Zl7 | apply Zl8 | apply Zl9 | apply Zla | apply Zlb | apply Zlc) | (dsimp only; with_reducible first | apply Zl8 | apply Zl2 | apply Zld) | with_reducible assumption | omega | (dsimp only; omega))))) (first | (go_at_call 44; refine (HCH.out _ (by (repeat' (first | (with_reducible first | apply Zl1 | apply Zl2 | apply Zl3 | apply Zl4 | apply Zl5 | apply Zl6 | apply Zl7 | apply Zl8 | apply Zl9 | apply Zla | apply Zlb | apply Zlc) | (dsimp only; with_reducible first | apply Zl8 | apply Zl2 | apply Zld) | with_reducible assumption | omega | (dsimp only; omega))))).mono ?_; rintro _ W5 ⟨d5, hR5, a5, c5, rfl, hi5, hf5, hb5⟩; obtain ⟨y5, rfl⟩ : ∃ y5 : Bel _, W5 = y5.w := ⟨⟨W5, hb5⟩, rfl⟩; have HR5 := Lib.hid hR5; have HI5 := Lib.hid hi5; have HF5 := Lib.hid hf5; have hyc := y5.size_le; clear hR5 hi5 hf5 hb5))
          all_goals (rename_i hHeld; go_wp2_with fail; go_meet; case rel => first
            | exact ⟨_, d5, a5, c5, rfl, rfl, HR5.out, (HI5.out.of ((Below.refl _ _).alloc (Nat.le_refl _) _)).up (by simp), World.alloc_heap_new _ _, hHeld.2.2.2.2.2.2⟩
            | exact ⟨_, d5, a5, c5, rfl, rfl, HR5.out, inD_keep (B := WN.heap.size) HI5.out (by simp) (fun b _ hb => (set_heap_ne _ hb).trans (set_heap_ne _ hb)) (fun g off k e => by have := HF5.out g off k e; simp at this; omega), (by first | with_reducible exact obSet2 _ _ (obj_bel _ (World.alloc_heap_new _ _)) | with_reducible exact obSet2 _ _ (obj_bel _ (drewNew _ _)) | exact obj_set2 _ _ (obj_in y5.below (World.alloc_heap_new WN _))), hHeld.2.2.2.2.2.2⟩
            | (trace_state; sorry))
        case rest =>
          obtain ⟨b5, d5, a5, c5, rfl, rfl, hR5, hi5, ho5, hbz⟩ := hcut
          obtain ⟨W5, hW5⟩ : ∃ W5, wc = W5 := ⟨_, rfl⟩
          rw [hW5] at hi5 ho5 hbz ⊢
          clear hW5 SK hRf hy0 hy1 hy2 hy3 r0 r1
          obtain ⟨r0, r1, -⟩ := box2 ho5
          have HR5 := Lib.hid hR5
          have HI5 := Lib.hid hi5
          have HBZ := Lib.hid hbz
          clear hR5 hi5 ho5 hbz
          go_wp2_with fail
          refine (HC.out.wit k f g HF.out.1 HF.out.2 HFE.out d5 a5 c5 W5 HR5.out HI5.out).mono ?_
          rintro _ W6 ⟨l6, hW6, g6, cap6, rfl, ho6, hb6⟩
          have hb6w : Below W1.heap.size W1 W6 := hbw.trans ((HB4.out.trans ((HAL.out.trans ((HBZ.out.trans (hb6.mono HBZ.out.size)).mono HAL.out.size)).mono HB4.out.size)).mono hbw.size)
          have hres := obj_in hb6w HR1.out
          obtain ⟨q0, q1, q2, q3⟩ := box2 hres
          have HO6 := Lib.hid ho6
          have HB6 := Lib.hid hb6w
          have HW6 := Lib.hid hW6
          clear hres ho6 hb6 hb6w hW6
          dsimp only
          go_wp2
          have hbz := HBZ.out.size
          have hg6 : w.heap.size + 3 ≤ g6 := by
            have h1 := (World.ownsRow.lt HO6.out g6 rfl).1
            have h2 := HB4.out.size
            have h3 := HAL.out.size
            have h4 := HB1.out.size
            omega
          refine bodyPost_ret (v := .tuple #[.agg #[.int .i64 (k : Int), .slice (some ⟨g6, 0, none⟩) l6.length cap6], .bool true, .int .i64 0]) ?_ rfl (Or.inr ⟨k, f, g, l6, g6, cap6, HF.out.1, HF.out.2, HFE.out, HTK.out, HW6.out, rfl, ?_, ?_⟩)
          · simp [results, Tryz.results19, go_sem, q0, q1, q2, q3]
          · obtain ⟨hxl, h1⟩ := ownsRow_heap (w' := (W6.setCell ⟨w.heap.size + 1 + 1, 0, none⟩ (.int .i64 (k : Int))).setCell ⟨w.heap.size + 1 + 1, 1, none⟩ (.slice (some ⟨g6, 0, none⟩) l6.length cap6)) HO6.out (fun gq hg => by
              have hgq : gq = g6 := by injection hg with hg; exact hg.symm
              rw [hgq]
              exact (set_heap_ne _ (by omega)).trans (set_heap_ne _ (by omega)))
            refine ⟨hxl, ?_⟩
            rcases h1 with ⟨e1, e2⟩ | ⟨gq, cp, cur, e1, hq, hh⟩
            · exact .inl ⟨e1, e2⟩
            · exact .inr ⟨gq, cp, cur, e1, by omega, hh⟩
          · exact ((HB1.out.trans (HB6.out.mono HB1.out.size)).setCell (p := ⟨w.heap.size + 1 + 1, 0, none⟩) (by dsimp only; omega) _).setCell (p := ⟨w.heap.size + 1 + 1, 1, none⟩) (by dsimp only; omega) _
    · have hke : k = l1.length := by omega
      subst hke
      have f1 : decide ((l1.length : Int) < (l1.length : Int)) = false := decide_eq_false (by omega)
      have hob := obj_in hbw HR1.out
      obtain ⟨q0, q1, q2, q3⟩ := box2 hob
      go_wp2
      refine bodyPost_ret (v := .tuple #[.agg #[.int .i64 0, .slice none 0 0], .bool false, .int .i64 0]) ?_ rfl (Or.inl ⟨?_, rfl, ?_⟩)
      · simp [results, Tryz.results19, go_sem, q0, q1, q2, q3]
      · have h := HTK.out
        have h3 := P3.out
        have h4 := HFG.out
        rwa [List.take_of_length_le (by omega), List.take_of_length_le (by omega)] at h
      · have hbb := HB1.out.trans (hbw.mono HB1.out.size)
        exact (hbb.setCell (p := ⟨w.heap.size + 1 + 1, 0, none⟩) (by dsimp only; omega) _).setCell (p := ⟨w.heap.size + 1 + 1, 1, none⟩) (by dsimp only; omega) _
end Go.Proofs.YtlnedapimmabdaaGreatDoor

namespace Go.Proofs.YtlnedapimmabdaaGreatDoor
set_option linter.unusedVariables false
set_option linter.unusedSimpArgs false
open Go.RowKit Go.Maps
attribute [local go_sem low] Bel.cell Bel.frozen alloc_cell alloc_frozen

theorem Reduce_err (L : List GZ) (O : List Int) (v : Int) (P : Nat → Prop) (ga oa : Option Addr) (gc oc : Nat) (w : World) (hg : InGt P w ga L) (ho : InS P w oa O) (hl : L.length ≤ 1000000000) (hcl : ∀ x ∈ L, x.2.2.length ≤ 9223372036854775807) (hol : O.length ≤ 9223372036854775807) (he : nErr L O v ≠ 0) :
    Calls Tryz.prog 16 #[nV ga L.length gc oa O.length oc, .int .i64 v] w (Ret (.tuple #[nil2, .int .i64 (nErr L O v : Int)]) w) := by
  have CK := fun w' (hb : Below w.heap.size w w') => check_any L O v P ga oa gc oc w' (hg.of hb) (ho.of hb) hl hcl hol
  obtain ⟨r, hr⟩ : ∃ r, nErr L O v = r := ⟨_, rfl⟩
  rw [hr] at CK he ⊢
  obtain ⟨n, hn⟩ : ∃ n, L.length = n := ⟨_, rfl⟩
  obtain ⟨m, hm⟩ : ∃ m, O.length = m := ⟨_, rfl⟩
  rw [hn] at hl
  simp only [hn, hm] at CK
  unfold nV
  rw [hn, hm]
  have hb0 : Below w.heap.size w ((w.alloc (.cells #[.slice ga n gc, .slice oa m oc] 25)).alloc (.cells #[.slice none 0 0, .slice none 0 0] 25)) := ((Below.refl _ w).alloc (Nat.le_refl _) _).alloc (by simp) _
  have HCK := Lib.hid (CK _ hb0)
  have fr : decide ((r : Int) = 0) = false := decide_eq_false (by omega)
  clear CK hb0 hr hg ho hcl hn hm hol hl
  unfold nil2
  go_enter Tryz.func16, Tryz.ntmps16
  go_wp2_with fail
  refine HCK.out.mono ?_
  rintro _ _ ⟨rfl, x, rfl⟩
  dsimp only
  go_wp2_with fail
  refine bodyPost_ret (v := .tuple #[.agg #[.slice none 0 0, .slice none 0 0], .int .i64 (r : Int)]) ?_ rfl (Ret.mk rfl (by (repeat' (first | (with_reducible first | apply Zl1 | apply Zl2 | apply Zl3 | apply Zl4 | apply Zl5 | apply Zl6 | apply Zl7 | apply Zl8 | apply Zl9 | apply Zla | apply Zlb | apply Zlc) | (dsimp only; with_reducible first | apply Zl8 | apply Zl2 | apply Zld) | with_reducible assumption | omega | (dsimp only; omega)))))
  simp [results, Tryz.results16, go_sem]
end Go.Proofs.YtlnedapimmabdaaGreatDoor
