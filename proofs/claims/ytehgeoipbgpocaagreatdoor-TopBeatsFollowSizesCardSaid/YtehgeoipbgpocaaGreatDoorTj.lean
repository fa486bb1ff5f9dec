/- Circles of fifths: Pure. slices.Equal at ints. -/
import Derived.Test.YtehgeoipbgpocaaGreatDoorTi
namespace Go.Proofs.YtehgeoipbgpocaaGreatDoor
set_option linter.unusedVariables false
set_option linter.unusedSimpArgs false
open Go.RowKit
attribute [local go_sem low] Bel.cell Bel.frozen alloc_cell alloc_frozen
attribute [local go_sem] calmOp chainOp yieldsC grows

theorem infoInt' : (Tryz.prog.info? 3).map (fun i => (i.zero, i.size, i.bytes)) = some (some (.int .i64 0), 1, 8) := by kernel_rfl
def natVs (l : List Nat) : List Value := l.map fun n : Nat => Value.int .i64 (n : Int)
theorem natVs_len (l : List Nat) : (natVs l).length = l.length := List.length_map _
theorem natVs_snoc (l : List Nat) (n : Nat) : natVs l ++ [.int .i64 (n : Int)] = natVs (l ++ [n]) := by unfold natVs; rw [List.map_append]; rfl
theorem natVs_get {l : List Nat} {j n : Nat} (h : l[j]? = some n) : (natVs l)[j]? = some (.int .i64 (n : Int)) := by unfold natVs; rw [List.getElem?_map, h]; rfl
theorem natVs_get' {l : List Nat} {j : Nat} {v : Value} (h : (natVs l)[j]? = some v) : ∃ n : Nat, l[j]? = some n ∧ v = .int .i64 (n : Int) := by
  unfold natVs at h
  rw [List.getElem?_map] at h
  cases hl : l[j]? with
  | none => rw [hl] at h; cases h
  | some n => rw [hl] at h; exact ⟨n, rfl, (Option.some.inj h).symm⟩
def puL (X : Nat → Sz) (z : Sz) (k : Nat) : List Nat := (List.range k).filter fun n => decide (X n = z)
theorem puL_yes {X : Nat → Sz} {z : Sz} {k : Nat} (h : X k = z) : puL X z (k + 1) = puL X z k ++ [k] := by
  unfold puL; rw [List.range_succ, List.filter_append]; simp [h]
theorem puL_no {X : Nat → Sz} {z : Sz} {k : Nat} (h : X k ≠ z) : puL X z (k + 1) = puL X z k := by
  unfold puL; rw [List.range_succ, List.filter_append]; simp [h]
theorem puL_len (X : Nat → Sz) (z : Sz) (k : Nat) : (puL X z k).length ≤ k := by
  unfold puL; exact Nat.le_trans (List.length_filter_le _ _) (by rw [List.length_range]; exact Nat.le_refl _)
set_option maxRecDepth 100000 in
set_option maxHeartbeats 6400000 in
theorem pure_any (c : Cir) (k : Nat) (z : Sz) (X : Nat → Sz) (w : World) (hC : chkC c = 0) (hk : k ≤ 36) (hz : z.chk = 0) (hX : ∀ n, n < 12 → btM c n (n + k) = some (X n)) (hT : I.Tab w) :
    Calls Tryz.prog 136 #[cirV c, .int .i64 (k : Int), z.V] w fun e w' => ∃ v, e = .returned (.tuple #[v, .int .i64 0]) ∧ ∃ y : Bel w, w' = y.w ∧ OwnV y.w w.heap.size 3 v (natVs (puL X z 12)) := by
  have hVc : cirV c = .agg (cirA c) := rfl
  have HBT := Lib.hid (fun (n : Nat) (hn : n < 12) w' hT => by
    have h := between_any c n (n + k) w' (by omega) (by omega) hT
    rw [hX n hn, oV_some, hVc, show ((n + k : Nat) : Int) = (n : Int) + (k : Int) by omega] at h
    exact h)
  have HTA := Lib.hid hT
  have HAB := Lib.hid (fun w' => above_any c k w' hC hk)
  have HIC := Lib.hid (fun w' => icheck_any z w')
  rw [hz, szV z] at HIC
  have heq := fun n w' => run_eq_size (X n) z w'
  rw [hVc, szV z]
  simp only [szV] at heq
  have HEQ := Lib.hid heq
  clear hVc hC hz hT hX heq
  have hg := guard_size
  obtain ⟨i0, hi0, hz0, hz1, hz2⟩ := info_parts infoInt'
  have HI0 := Lib.hid hi0
  clear hi0
  go_enter Tryz.func136, Tryz.ntmps136
  go_wp2_with (refine wpList_ldC rfl _ rfl _ rfl (cirA c) (obj_alloc _ (obj_new _ _)) (cirA_size c) ?_)
  (with_reducible refine (HAB.out _).mono ?_)
  rintro _ _ ⟨rfl, x, rfl⟩
  have hxs := x.size_le
  rw [World.size_alloc, World.size_alloc] at hxs
  dsimp only
  go_wp2_with fail
  (with_reducible refine (HIC.out _).mono ?_)
  rintro _ _ ⟨rfl, y, rfl⟩
  have hys := y.size_le
  have ho0 := obj_bel y (obj_bel x (obj_alloc (.cells #[.int .i64 z.a.n, .int .i64 z.a.d, .int .i64 z.b.n, .int .i64 z.b.d, .int .i64 z.c.n, .int .i64 z.c.d] 45) (obj_new w (.cells (cirA c) 36))))
  have ho1 := obj_bel y (obj_bel x (obj_new1 w (.cells (cirA c) 36) (.cells #[.int .i64 z.a.n, .int .i64 z.a.d, .int .i64 z.b.n, .int .i64 z.b.d, .int .i64 z.c.n, .int .i64 z.c.d] 45)))
  have hyb : Below w.heap.size w y.w := by (repeat' (first | (with_reducible first | apply Zl1 | apply Zl2 | apply Zl3 | apply Zl4 | apply Zl5 | apply Zl6 | apply Zl7 | apply Zl8 | apply Zl9 | apply Zla | apply Zlb | apply Zlc) | (dsimp only; with_reducible first | apply Zl8 | apply Zl2 | apply Zld) | with_reducible assumption | omega | (dsimp only; omega)))
  have hyz : w.heap.size + 2 ≤ y.w.heap.size := by omega
  generalize y.w = Y at *
  clear hys hxs
  dsimp only
  go_wp2_with fail
  go_loopw [10, 25] (fun v i wr => ∃ (j : Nat), j ≤ 12 ∧ i = .int .i64 (j : Int) ∧ OwnV wr (w.heap.size + 2) 3 v (natVs (puL X z j)) ∧ wr.heap[w.heap.size]? = some (.cells (cirA c) 36) ∧
    wr.heap[w.heap.size + 1]? = some (.cells #[.int .i64 z.a.n, .int .i64 z.a.d, .int .i64 z.b.n, .int .i64 z.b.d, .int .i64 z.c.n, .int .i64 z.c.d] 45) ∧ Below w.heap.size w wr) (fun v i _ => 12 - (intOf i).toNat)
  case atStart => exact ⟨0, by omega, rfl, ownV_nil _ _ _, ho0, ho1, hyb⟩
  case round =>
    obtain ⟨j, hj, rfl, hown, hoc, hos, hB⟩ := hrel
    have hbs := hB.size
    have hl1 := obj_lt hos
    clear ho0 ho1 hyb
    by_cases hj12 : j < 12
    · have hji : (j : Int) < 12 := by omega
      have hwn : IntKind.i64.wrap ((j : Int) + (k : Int)) = (j : Int) + (k : Int) := IntWalk.i64_in _ (by omega)
      have HBJ := Lib.hid (fun w' hT => HBT.out j hj12 w' hT)
      have hvl := natVs_len (puL X z j)
      have hul := puL_len X z j
      have HPY := Lib.hid (@puL_yes X z j)
      have HPN := Lib.hid (@puL_no X z j)
      have HO := Lib.hid hown
      have HOC := Lib.hid hoc
      have HOS := Lib.hid hos
      have heq := HEQ.out j
      generalize X j = xj at *
      clear hown hoc hos
      have hwr := HTA.out.of hB
      go_wp2_with (refine wpList_ldC rfl _ rfl _ rfl (cirA c) HOC.out (cirA_size c) ?_)
      (with_reducible refine (HBJ.out _ (HTA.out.of (by (repeat' (first | (with_reducible first | apply Zl1 | apply Zl2 | apply Zl3 | apply Zl4 | apply Zl5 | apply Zl6 | apply Zl7 | apply Zl8 | apply Zl9 | apply Zla | apply Zlb | apply Zlc) | (dsimp only; with_reducible first | apply Zl8 | apply Zl2 | apply Zld) | with_reducible assumption | omega | (dsimp only; omega)))))).mono ?_)
      rintro _ _ ⟨rfl, d, rfl⟩
      have hds := d.size_le
      have hd0 := obj_alloc (.cells #[.int .i64 xj.a.n, .int .i64 xj.a.d, .int .i64 xj.b.n, .int .i64 xj.b.d, .int .i64 xj.c.n, .int .i64 xj.c.d] 45) (obj_bel d HOC.out)
      have hd1 := obj_alloc (.cells #[.int .i64 xj.a.n, .int .i64 xj.a.d, .int .i64 xj.b.n, .int .i64 xj.b.d, .int .i64 xj.c.n, .int .i64 xj.c.d] 45) (obj_bel d HOS.out)
      have hd2 := ownV_alloc (ownV_bel HO.out d) (.cells #[.int .i64 xj.a.n, .int .i64 xj.a.d, .int .i64 xj.b.n, .int .i64 xj.b.d, .int .i64 xj.c.n, .int .i64 xj.c.d] 45)
      have hd3 := obj_new d.w (.cells #[.int .i64 xj.a.n, .int .i64 xj.a.d, .int .i64 xj.b.n, .int .i64 xj.b.d, .int .i64 xj.c.n, .int .i64 xj.c.d] 45)
      have hdb : Below w.heap.size w (d.w.alloc (.cells #[.int .i64 xj.a.n, .int .i64 xj.a.d, .int .i64 xj.b.n, .int .i64 xj.b.d, .int .i64 xj.c.n, .int .i64 xj.c.d] 45)) := by (repeat' (first | (with_reducible first | apply Zl1 | apply Zl2 | apply Zl3 | apply Zl4 | apply Zl5 | apply Zl6 | apply Zl7 | apply Zl8 | apply Zl9 | apply Zla | apply Zlb | apply Zlc) | (dsimp only; with_reducible first | apply Zl8 | apply Zl2 | apply Zld) | with_reducible assumption | omega | (dsimp only; omega)))
      have hdz : w.heap.size + 2 ≤ (d.w.alloc (.cells #[.int .i64 xj.a.n, .int .i64 xj.a.d, .int .i64 xj.b.n, .int .i64 xj.b.d, .int .i64 xj.c.n, .int .i64 xj.c.d] 45)).heap.size := by rw [World.size_alloc]; omega
      obtain ⟨q0, q1, q2, q3, q4, q5⟩ := cells6 HOS.out
      have HD0 := Lib.hid hd0
      have HD1 := Lib.hid hd1
      have HD2 := Lib.hid hd2
      clear hd0 hd1 hd2 hd3
      dsimp only
      by_cases hxz : xj = z
      · have f0 : decide (xj = z) = true := decide_eq_true hxz
        have HS := Lib.hid (HPY.out hxz)
        have heq' : ∀ w', (binOp .eql 45 (.agg #[.int .i64 xj.a.n, .int .i64 xj.a.d, .int .i64 xj.b.n, .int .i64 xj.b.d, .int .i64 xj.c.n, .int .i64 xj.c.d]) (.agg #[.int .i64 z.a.n, .int .i64 z.a.d, .int .i64 z.b.n, .int .i64 z.b.d, .int .i64 z.c.n, .int .i64 z.c.d])).run Tryz.prog w' = .ok (.bool true) w' := fun w' => by rw [heq w', f0]
        clear hxz heq f0
        obtain ⟨D, hD⟩ : ∃ D, d.w.alloc (.cells #[.int .i64 xj.a.n, .int .i64 xj.a.d, .int .i64 xj.b.n, .int .i64 xj.b.d, .int .i64 xj.c.n, .int .i64 xj.c.d] 45) = D := ⟨_, rfl⟩
        rw [hD] at HD0 HD1 HD2 hdb hdz
        have HDQ := Lib.hid hD
        have hDs : D.heap.size = d.w.heap.size + 1 := by rw [← hD, World.size_alloc]
        have hcl := cell_one_new D (.int .i64 (j : Int)) 3
        rw [hDs] at hcl
        have HCL := Lib.hid hcl
        clear hD hcl
        go_wp2_with (at_builtin; refine Hid.out ?_)
        refine Lib.hid ?_
        rw [HDQ.out]
        at_builtin
        (refine wpList_append_own _ rfl _ _ 84 rfl (w.heap.size + 2) 3 i0 (.int .i64 0) 1 8 Tryz.underlying84 HI0.out hz0 hz1 hz2 rfl (by decide) _ _ _ rfl (World.ownsRow.alloc HD2.out _) ⟨d.w.heap.size + 1, 0, none⟩ 1 1 [.int .i64 (j : Int)] rfl rfl HCL.out (by simp [Value.oneCell']) (by unfold maxLen; omega) (by omega) (by simp; omega) ?_; intro v' w1 hown' hgrow _; obtain ⟨g', cap', rfl⟩ := ownsRow_succ hown'; obtain ⟨ho1, hb1⟩ := ownV_app HD2.out ((Below.refl _ _).alloc (by omega) _) (by simp) (by omega) rfl hown' hgrow)
        have hb2 : Below w.heap.size w w1 := hdb.trans (hb1.mono (by omega))
        have hr0 := obj_below hb1 (by omega) HD0.out
        have hr1 := obj_below hb1 (by omega) HD1.out
        clear HD0 HD1 HD2 HCL hown' hgrow
        go_wp2
        go_roundw
        case rel =>
          refine ⟨j + 1, by omega, by go_num, by rw [HS.out, ← natVs_snoc, ← hvl]; exact ho1, hr0, hr1, hb2⟩
        case measure => simp [intOf]; omega
      · have f0 : decide (xj = z) = false := decide_eq_false hxz
        have HS := Lib.hid (HPN.out hxz)
        have heq' : ∀ w', (binOp .eql 45 (.agg #[.int .i64 xj.a.n, .int .i64 xj.a.d, .int .i64 xj.b.n, .int .i64 xj.b.d, .int .i64 xj.c.n, .int .i64 xj.c.d]) (.agg #[.int .i64 z.a.n, .int .i64 z.a.d, .int .i64 z.b.n, .int .i64 z.b.d, .int .i64 z.c.n, .int .i64 z.c.d])).run Tryz.prog w' = .ok (.bool false) w' := fun w' => by rw [heq w', f0]
        clear hxz heq f0
        go_wp2
        go_roundw
        case rel => exact ⟨j + 1, by omega, by go_num, by rw [HS.out]; exact HD2.out, HD0.out, HD1.out, hdb⟩
        case measure => simp [intOf]; omega
    · obtain rfl : j = 12 := by omega
      have HO := Lib.hid hown
      clear hown hoc hos hl1 hbs hj12 hj
      go_wp2
      refine bodyPost_ret (v := .tuple #[u10, .int .i64 0]) (by simp [results, Tryz.results136, go_sem]) rfl ?_
      exact ⟨_, rfl, ⟨_, hB⟩, rfl, ownV_mono HO.out (by omega)⟩
set_option maxRecDepth 100000 in
set_option maxHeartbeats 6400000 in
theorem equalI_any (v u : Value) (l m : List Nat) (w : World) (hv : ShowsV w v (natVs l)) (hu : ShowsV w u (natVs m)) (hl : l.length ≤ 1000000) (hm : m.length ≤ 1000000) :
    Calls Tryz.prog 137 #[v, u] w (Ret (.bool (decide (l = m))) w) := by
  obtain ⟨a, cap, rfl, hva⟩ := showsV_at hv
  obtain ⟨b, cap', rfl, hub⟩ := showsV_at hu
  rw [natVs_len] at hva hub ⊢
  rw [natVs_len]
  have HVA := Lib.hid hva
  have HUB := Lib.hid hub
  clear hva hub hv hu
  by_cases hlm : l.length = m.length
  · have HEQ := Lib.hid hlm
    have f0 : ((l.length : Int) != (m.length : Int)) = false := by simp; omega
    obtain ⟨q, hq⟩ : ∃ q, decide (l = m) = q := ⟨_, rfl⟩
    rw [hq]
    have HQ := Lib.hid hq
    clear hlm hq
    go_enter Tryz.func137, Tryz.ntmps137
    go_wp2
    go_loopw [13] (fun iv wr => ∃ k : Nat, iv = .int .i64 (k : Int) ∧ k ≤ l.length ∧ l.take k = m.take k ∧ ∃ y : Bel w, wr = y.w) (fun iv _ => l.length - (intOf iv).toNat)
    case atStart => exact ⟨0, rfl, by omega, by simp, ⟨w, Below.refl _ _⟩, rfl⟩
    case round =>
      obtain ⟨k, rfl, hk, htk, y, rfl⟩ := hrel
      have HTK := Lib.hid htk
      clear htk
      rcases Nat.lt_or_ge k l.length with hkl | hkl
      · have hkm : k < m.length := by have := HEQ.out; omega
        obtain ⟨x, hx⟩ : ∃ x, l[k]? = some x := ⟨_, List.getElem?_eq_getElem hkl⟩
        obtain ⟨z, hz⟩ : ∃ z, m[k]? = some z := ⟨_, List.getElem?_eq_getElem hkm⟩
        obtain ⟨b1, o1, e1, hc1⟩ := HVA.out (by omega)
        obtain ⟨b2, o2, e2, hc2⟩ := HUB.out (by omega)
        have x0 := cell_carry y.below (hc1 k _ (natVs_get hx))
        have z0 := cell_carry y.below (hc2 k _ (natVs_get hz))
        subst e1 e2
        have f1 : decide ((k : Int) < (l.length : Int)) = true := decide_eq_true (by omega)
        have hib : (0 ≤ (k : Int) ∧ (k : Int) < (l.length : Int)) := ⟨by omega, by omega⟩
        have hib2 : (0 ≤ (k : Int) ∧ (k : Int) < (m.length : Int)) := ⟨by omega, by omega⟩
        have HX := Lib.hid (And.intro hx hz)
        clear hx hz hc1 hc2
        by_cases he : x = z
        · have f2 : ((x : Int) != (z : Int)) = false := by simp [he]
          have HE := Lib.hid he
          clear he
          go_wp2_with fail
          refine wp_region_bel (by kernel_rfl) (by kernel_rfl) ?_
          repeat (go_big_quiet_step (fail))
          refine wpQuiet_nil ?_
          rintro _ ⟨z9, rfl⟩
          go_wp2
          go_roundw
          case rel =>
            refine ⟨k + 1, by go_num, by omega, ?_, ⟨z9.w, y.below.trans (z9.below.mono y.below.size)⟩, rfl⟩
            rw [List.take_add_one, List.take_add_one, HX.out.1, HX.out.2, HTK.out, HE.out]
          case measure => simp [intOf]; omega
        · have f2 : ((x : Int) != (z : Int)) = true := by simp; omega
          have hq0 : q = false := by
            rw [← HQ.out]
            refine decide_eq_false fun e => ?_
            have h1 := HX.out.1
            rw [e, HX.out.2] at h1
            injection h1 with h1
            exact he h1.symm
          subst hq0
          clear he
          go_wp2_with fail
          refine wp_region_bel (by kernel_rfl) (by kernel_rfl) ?_
          repeat (go_big_quiet_step (fail))
          refine wpQuiet_nil ?_
          rintro _ ⟨z9, rfl⟩
          go_wp2
          go_ret
          exact Ret.mk (by rfl) (by (repeat' (first | (with_reducible first | apply Zl1 | apply Zl2 | apply Zl3 | apply Zl4 | apply Zl5 | apply Zl6 | apply Zl7 | apply Zl8 | apply Zl9 | apply Zla | apply Zlb | apply Zlc) | (dsimp only; with_reducible first | apply Zl8 | apply Zl2 | apply Zld) | with_reducible assumption | omega | (dsimp only; omega))))
      · have hke : k = l.length := by omega
        subst hke
        have f1 : decide ((l.length : Int) < (l.length : Int)) = false := decide_eq_false (by omega)
        have hq1 : q = true := by
          rw [← HQ.out]
          have h := HTK.out
          rw [List.take_length, HEQ.out, List.take_length] at h
          exact decide_eq_true h
        subst hq1
        go_wp2
        go_ret
        exact Ret.mk (by rfl) (by (repeat' (first | (with_reducible first | apply Zl1 | apply Zl2 | apply Zl3 | apply Zl4 | apply Zl5 | apply Zl6 | apply Zl7 | apply Zl8 | apply Zl9 | apply Zla | apply Zlb | apply Zlc) | (dsimp only; with_reducible first | apply Zl8 | apply Zl2 | apply Zld) | with_reducible assumption | omega | (dsimp only; omega))))
  · have f0 : ((l.length : Int) != (m.length : Int)) = true := by simp; omega
    rw [decide_eq_false (fun e => hlm (by rw [e]))]
    clear hlm
    go_enter Tryz.func137, Tryz.ntmps137
    go_wp2
    go_ret
    exact Ret.mk (by rfl) (by (repeat' (first | (with_reducible first | apply Zl1 | apply Zl2 | apply Zl3 | apply Zl4 | apply Zl5 | apply Zl6 | apply Zl7 | apply Zl8 | apply Zl9 | apply Zla | apply Zlb | apply Zlc) | (dsimp only; with_reducible first | apply Zl8 | apply Zl2 | apply Zld) | with_reducible assumption | omega | (dsimp only; omega))))
end Go.Proofs.YtehgeoipbgpocaaGreatDoor
