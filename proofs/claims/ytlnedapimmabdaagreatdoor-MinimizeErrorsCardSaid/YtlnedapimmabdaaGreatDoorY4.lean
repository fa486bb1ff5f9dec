/- The builder's choose: its new nodes, counted by their functions (printed by genya.py). Not, And, Or and Choose of diagrams, out of any contract of the builder's choose (printed by genyb.py). -/
import Derived.Test.YtlnedapimmabdaaGreatDoorXJ
import Derived.Test.YtlnedapimmabdaaGreatDoorY1
import Derived.Test.YtlnedapimmabdaaGreatDoorVf
namespace Go.Proofs.YtlnedapimmabdaaGreatDoor
set_option linter.unusedVariables false
set_option linter.unusedSimpArgs false
open Go.RowKit Go.Maps
attribute [local go_sem low] Bel.cell Bel.frozen alloc_cell alloc_frozen
attribute [local go_sem] calmOp chainOp yieldsC grows
variable {rk : Nat → Nat}

theorem ite3_dep {N : List (Nat × Nat × Nat)} (hN : Good N) {p q r v : Nat} (hp : p < N.length + 2) (hq : q < N.length + 2) (hr : r < N.length + 2) (vp : v ≤ var3 N p) (vq : v ≤ var3 N q) (vr : v ≤ var3 N r) (ρ σ : Nat → Bool) (h : ∀ u, v ≤ u → ρ u = σ u) : ite3 N p q r ρ = ite3 N p q r σ := by
  unfold ite3
  rw [val3_dep hN (p + 1) p (Nat.lt_succ_self p) hp fun u hu => h u (Nat.le_trans vp hu), val3_dep hN (q + 1) q (Nat.lt_succ_self q) hq fun u hu => h u (Nat.le_trans vq hu), val3_dep hN (r + 1) r (Nat.lt_succ_self r) hr fun u hu => h u (Nat.le_trans vr hu)]
theorem ite3_cof {N : List (Nat × Nat × Nat)} (hN : Good N) {p q r v : Nat} (hp : p < N.length + 2) (hq : q < N.length + 2) (hr : r < N.length + 2) (hv : v < 4096) (vp : v ≤ var3 N p) (vq : v ≤ var3 N q) (vr : v ≤ var3 N r) (b : Bool) :
    ite3 N (sd N p v b) (sd N q v b) (sd N r v b) = fun ρ => ite3 N p q r (upd3 ρ v b) := by
  funext ρ
  have h1 := ite3_side hN hp hq hr hv (upd3 ρ v b)
  have h2 : upd3 ρ v b v = b := by unfold upd3; rw [if_pos rfl]
  rw [h2] at h1
  rw [← h1]
  cases b
  · rw [if_neg (by decide)]
    exact (ite3_ind hN (sd_lt hN false hp hv) (sd_lt hN false hq hv) (sd_lt hN false hr hv) (sd_var hN false hp hv vp) (sd_var hN false hq hv vq) (sd_var hN false hr hv vr) ρ v false (Nat.le_refl _)).symm
  · rw [if_pos rfl]
    exact (ite3_ind hN (sd_lt hN true hp hv) (sd_lt hN true hq hv) (sd_lt hN true hr hv) (sd_var hN true hp hv vp) (sd_var hN true hq hv vq) (sd_var hN true hr hv vr) ρ v true (Nat.le_refl _)).symm
theorem RetB.noNew {P : Fn3 → Prop} {e0 b0 B mp md base : Nat} {v : Value} {N : List (Nat × Nat × Nat)} {D c : Nat} {w w' : World} {S : Fn3} {e : Ending} (h : RetB rk b0 B mp md base v N D w 0 c S e w') (hF : InF P e0 N) : RetN rk (fun M _ => InF P e0 (N ++ M)) b0 B mp md base v N D w c S e w' := by
  obtain ⟨p, v', M, h1, h2, h3, h4, h5, h6⟩ := h
  have : M = [] := List.length_eq_zero_iff.1 (by omega)
  subst this
  exact ⟨p, v', [], h1, h2, h3, by dsimp only; rw [List.append_nil]; exact hF, h5, h6⟩
set_option maxRecDepth 100000 in
set_option maxHeartbeats 6400000 in
theorem choose_fun (P : Fn3 → Prop) (e0 cc : Nat) (hA : AtMost P cc) (hcc : e0 + cc < 1000000) (b0 B mp md base : Nat) : ∀ (k c : Nat), c + 1 = 2 ^ k → ∀ (v : Value) (N : List (Nat × Nat × Nat)) (D p q r : Nat) (w : World), Bld rk w b0 B mp md base v N D → p < N.length + 2 → q < N.length + 2 → r < N.length + 2 → rk (var3 N p) ≤ k → rk (var3 N q) ≤ k → rk (var3 N r) ≤ k →
    InF P e0 N → Her P (ite3 N p q r) → D + c ≤ 4611686018427387904 →
    Calls Tryz.prog 69 #[.pointer (some ⟨B, 0, none⟩), .int .i64 (p : Int), .int .i64 (q : Int), .int .i64 (r : Int)] w (RetN rk (fun M _ => InF P e0 (N ++ M)) b0 B mp md base v N D w c (ite3 N p q r)) := by
  intro k
  induction k with
  | zero =>
    intro c hc v N D p q r w h hp hq hr kp kq kr hF hHe hdl
    refine (choose_quick h p q r 0 c hp hq hr ?_).mono fun e w' hx => hx.noNew hF
    rcases bld_var h hp with h1 | h1
    · omega
    · have := h1.2.2 _ (Nat.lt_succ_self _)
      omega
  | succ k ih =>
    intro c hc v N D p q r w h hp hq hr kp kq kr hF hHe hdl
    have hnl : N.length < 1000000 := inF_lt hA hcc h.good hF
    have HF := Lib.hid hF
    have HHE := Lib.hid hHe
    have HA := Lib.hid hA
    by_cases hqk : p = 1 ∨ q = r ∨ p = 0 ∨ (q = 1 ∧ r = 0)
    · exact (choose_quick h p q r 0 c hp hq hr hqk).mono fun e w' hx => hx.noNew hF
    · obtain ⟨cj, hcj⟩ : ∃ cj, cj + 1 = 2 ^ k := ⟨2 ^ k - 1, by have := Nat.two_pow_pos k; omega⟩
      have hc2 : c = 2 * cj + 1 := by rw [Nat.pow_succ] at hc; omega
      have f1 : ((p : Int) == 1) = false := by simp; omega
      have f2 : ((q : Int) == (r : Int)) = false := by simp; omega
      have f3 : ((p : Int) == 0) = false := by simp; omega
      obtain ⟨d1, d2, d3, d4, d5, d6, d7, d8, d9, d10⟩ := h.dist
      obtain ⟨n0, m, hm, hn0, hms⟩ := h.dn
      obtain ⟨kl, hkl⟩ := key_three (p : Int) (q : Int) (r : Int) (wf_nat (by omega)) (wf_nat (by omega)) (wf_nat (by omega))
      obtain ⟨b1, b2, b3, b4, b5⟩ := bld_cells h
      have HB := Lib.hid h
      have HM := Lib.hid hm
      have HMS := Lib.hid hms
      cases hmk : m (.agg #[.int .i64 (p : Int), .int .i64 (q : Int), .int .i64 (r : Int)]) with
      | some z =>
        obtain ⟨_, _, _, x, rfl, hx, hxv⟩ := hms (p, q, r) z hmk
        have hrun : ∀ x' : Bel (w.alloc (.cells #[.int .i64 (p : Int), .int .i64 (q : Int), .int .i64 (r : Int)] 140 (0, 0))), (Instr.lookup 142 (.map (some md)) (.agg #[.int .i64 (p : Int), .int .i64 (q : Int), .int .i64 (r : Int)]) true).run Tryz.prog x'.w = .ok (.tuple #[.int .i64 (x : Int), .bool true]) x'.w := fun x' => by
          have := funM_run_ok (t := 142) (w := x'.w) keyedK Tryz.underlying142 Tryz.underlying3 (by rfl) (HM.out.heap fun o ho => obj_in (show Below w.heap.size w x'.w by (repeat' (first | (with_reducible first | apply Zl1 | apply Zl2 | apply Zl3 | apply Zl4 | apply Zl5 | apply Zl6 | apply Zl7 | apply Zl8 | apply Zl9 | apply Zla | apply Zlb | apply Zlc) | (dsimp only; with_reducible first | apply Zl8 | apply Zl2 | apply Zld) | with_reducible assumption | omega | (dsimp only; omega)))) ho) hkl
          rw [hmk] at this
          exact this
        clear h hm hms hmk hkl ih kp kq kr b1 b2 b4 b5 hF hHe
        by_cases h4 : q = 1
        · have f4 : ((q : Int) == 1) = true := by simp; omega
          have f5 : ((r : Int) == 0) = false := by simp; omega
          clear h4 hqk
          go_enter Tryz.func69, Tryz.ntmps69
          go_wp2_with fail
          refine wp_region_bel (by kernel_rfl) (by kernel_rfl) ?_
          repeat (go_big_quiet_step (fail))
          refine wpQuiet_nil ?_
          rintro _ ⟨z1, rfl⟩
          go_wp2
          refine bodyPost_ret (v := .int .i64 (x : Int)) (by simp [results, Tryz.results69, go_sem]) rfl (RetN.same HB.out (by (repeat' (first | (with_reducible first | apply Zl1 | apply Zl2 | apply Zl3 | apply Zl4 | apply Zl5 | apply Zl6 | apply Zl7 | apply Zl8 | apply Zl9 | apply Zla | apply Zlb | apply Zlc) | (dsimp only; with_reducible first | apply Zl8 | apply Zl2 | apply Zld) | with_reducible assumption | omega | (dsimp only; omega)))) hx (by rw [List.append_nil]; exact HF.out) hxv)
        · have f4 : ((q : Int) == 1) = false := by simp; omega
          clear h4 hqk
          go_enter Tryz.func69, Tryz.ntmps69
          go_wp2_with fail
          refine wp_region_bel (by kernel_rfl) (by kernel_rfl) ?_
          repeat (go_big_quiet_step (fail))
          refine wpQuiet_nil ?_
          rintro _ ⟨z1, rfl⟩
          go_wp2
          refine bodyPost_ret (v := .int .i64 (x : Int)) (by simp [results, Tryz.results69, go_sem]) rfl (RetN.same HB.out (by (repeat' (first | (with_reducible first | apply Zl1 | apply Zl2 | apply Zl3 | apply Zl4 | apply Zl5 | apply Zl6 | apply Zl7 | apply Zl8 | apply Zl9 | apply Zla | apply Zlb | apply Zlc) | (dsimp only; with_reducible first | apply Zl8 | apply Zl2 | apply Zld) | with_reducible assumption | omega | (dsimp only; omega)))) hx (by rw [List.append_nil]; exact HF.out) hxv)
      | none =>
        have hrun : ∀ x' : Bel (w.alloc (.cells #[.int .i64 (p : Int), .int .i64 (q : Int), .int .i64 (r : Int)] 140 (0, 0))), (Instr.lookup 142 (.map (some md)) (.agg #[.int .i64 (p : Int), .int .i64 (q : Int), .int .i64 (r : Int)]) true).run Tryz.prog x'.w = .ok (.tuple #[.int .i64 0, .bool false]) x'.w := fun x' => by
          have := funM_run_ok (t := 142) (w := x'.w) keyedK Tryz.underlying142 Tryz.underlying3 (by rfl) (HM.out.heap fun o ho => obj_in (show Below w.heap.size w x'.w by (repeat' (first | (with_reducible first | apply Zl1 | apply Zl2 | apply Zl3 | apply Zl4 | apply Zl5 | apply Zl6 | apply Zl7 | apply Zl8 | apply Zl9 | apply Zla | apply Zlb | apply Zlc) | (dsimp only; with_reducible first | apply Zl8 | apply Zl2 | apply Zld) | with_reducible assumption | omega | (dsimp only; omega)))) ho) hkl
          rw [hmk] at this
          exact this
        have hgd := h.good
        obtain ⟨vp, hvp⟩ : ∃ vp, var3 N p = vp := ⟨_, rfl⟩
        obtain ⟨vq, hvq⟩ : ∃ vq, var3 N q = vq := ⟨_, rfl⟩
        obtain ⟨vr, hvr⟩ : ∃ vr, var3 N r = vr := ⟨_, rfl⟩
        obtain ⟨m0, hm0⟩ : ∃ m0, min (min vp vq) vr = m0 := ⟨_, rfl⟩
        have hp6 : vp < 4096 := by
          rcases bld_var h hp with h1 | h1
          · omega
          · rw [← hvp]; exact h1.2.1
        have hm6 : m0 < 4096 := by omega
        have hmc : m0 = vp ∨ m0 = vq ∨ m0 = vr := by omega
        have hrk : rk m0 ≤ k + 1 := by rcases hmc with e | e | e <;> rw [e] <;> first | (rw [← hvp]; exact kp) | (rw [← hvq]; exact kq) | (rw [← hvr]; exact kr)
        have hmv : VarOk rk m0 := by
          rcases hmc with e | e | e
          · rcases bld_var h hp with h1 | h1
            · omega
            · rw [e, ← hvp]; exact h1.2
          · rcases bld_var h hq with h1 | h1
            · omega
            · rw [e, ← hvq]; exact h1.2
          · rcases bld_var h hr with h1 | h1
            · omega
            · rw [e, ← hvr]; exact h1.2
        have hlp : m0 ≤ var3 N p ∧ m0 ≤ var3 N q ∧ m0 ≤ var3 N r ∧ ∀ y, m0 < y → rk y ≤ k := ⟨by omega, by omega, by omega, fun y hy => by have := hmv.2 y hy; omega⟩
        have HVP := Lib.hid (fun w' (h' : Bld rk w' b0 B mp md base v N D) => variable_any h' p hp (by omega))
        have HVQ := Lib.hid (fun w' (h' : Bld rk w' b0 B mp md base v N D) => variable_any h' q hq (by omega))
        have HVR := Lib.hid (fun w' (h' : Bld rk w' b0 B mp md base v N D) => variable_any h' r hr (by omega))
        rw [hvp] at HVP
        rw [hvq] at HVQ
        rw [hvr] at HVR
        have HV := Lib.hid (And.intro hvp (And.intro hvq (And.intro hvr hlp)))
        have HG := Lib.hid hgd
        have HIH := Lib.hid (ih cj hcj)
        have HQ := Lib.hid hqk
        have hmin : (if (vr : Int) < (if vq < vp then (vq : Int) else (vp : Int)) then (vr : Int) else (if vq < vp then (vq : Int) else (vp : Int))) = (m0 : Int) := by
          split <;> split <;> omega
        have HMIN := Lib.hid hm0
        clear hm0
        have HSD := Lib.hid (fun (b : Bool) w' v' M D' (h' : Bld rk w' b0 B mp md base v' (N ++ M) D') (hl' : (N ++ M).length ≤ 1000000) => (show Calls Tryz.prog 93 #[.pointer (some ⟨B, 0, none⟩), .int .i64 (p : Int), .int .i64 (m0 : Int), .bool b] w' (Ret (.int .i64 (sd N p m0 b : Nat)) w') ∧ Calls Tryz.prog 93 #[.pointer (some ⟨B, 0, none⟩), .int .i64 (q : Int), .int .i64 (m0 : Int), .bool b] w' (Ret (.int .i64 (sd N q m0 b : Nat)) w') ∧ Calls Tryz.prog 93 #[.pointer (some ⟨B, 0, none⟩), .int .i64 (r : Int), .int .i64 (m0 : Int), .bool b] w' (Ret (.int .i64 (sd N r m0 b : Nat)) w') from by
          rw [← sd_app b hp (show m0 < 4096 by omega) M, ← sd_app b hq (show m0 < 4096 by omega) M, ← sd_app b hr (show m0 < 4096 by omega) M]
          have e : (N ++ M).length = N.length + M.length := List.length_append
          exact ⟨side_any h' p m0 b (by omega) hl' hm6, side_any h' q m0 b (by omega) hl' hm6, side_any h' r m0 b (by omega) hl' hm6⟩))
        clear h hm hms hmk hmc hrk ih kp kq kr hF hHe b1 b2 b5 hvp hvq hvr hlp hgd hqk hc hcj
        by_cases h4 : q = 1
        · have f4 : ((q : Int) == 1) = true := by simp; omega
          have f5 : ((r : Int) == 0) = false := by simp; have := HQ.out; omega
          clear h4
          go_enter Tryz.func69, Tryz.ntmps69
          go_wp2_with fail
          refine wp_region_bel (by kernel_rfl) (by kernel_rfl) ?_
          repeat (go_big_quiet_step (fail))
          refine wpQuiet_nil ?_
          rintro _ ⟨z1, rfl⟩
          go_wp2_with fail
          refine (HVP.out _ (HB.out.bel (by (repeat' (first | (with_reducible first | apply Zl1 | apply Zl2 | apply Zl3 | apply Zl4 | apply Zl5 | apply Zl6 | apply Zl7 | apply Zl8 | apply Zl9 | apply Zla | apply Zlb | apply Zlc) | (dsimp only; with_reducible first | apply Zl8 | apply Zl2 | apply Zld) | with_reducible assumption | omega | (dsimp only; omega)))))).mono ?_
          rintro _ _ ⟨rfl, y1, rfl⟩
          dsimp only
          go_wp2_with fail
          refine (HVQ.out _ (HB.out.bel (by (repeat' (first | (with_reducible first | apply Zl1 | apply Zl2 | apply Zl3 | apply Zl4 | apply Zl5 | apply Zl6 | apply Zl7 | apply Zl8 | apply Zl9 | apply Zla | apply Zlb | apply Zlc) | (dsimp only; with_reducible first | apply Zl8 | apply Zl2 | apply Zld) | with_reducible assumption | omega | (dsimp only; omega)))))).mono ?_
          rintro _ _ ⟨rfl, y2, rfl⟩
          dsimp only
          go_wp2_with fail
          refine (HVR.out _ (HB.out.bel (by (repeat' (first | (with_reducible first | apply Zl1 | apply Zl2 | apply Zl3 | apply Zl4 | apply Zl5 | apply Zl6 | apply Zl7 | apply Zl8 | apply Zl9 | apply Zla | apply Zlb | apply Zlc) | (dsimp only; with_reducible first | apply Zl8 | apply Zl2 | apply Zld) | with_reducible assumption | omega | (dsimp only; omega)))))).mono ?_
          rintro _ _ ⟨rfl, y3, rfl⟩
          dsimp only
          go_wp2_with fail
          have HB6 := Lib.hid (show ∀ w', Below w.heap.size w w' → Bld rk w' b0 B mp md base v (N ++ []) D from fun w' h' => by rw [List.append_nil]; exact HB.out.bel h')
          refine (HSD.out false _ _ _ _ (HB6.out _ (by (repeat' (first | (with_reducible first | apply Zl1 | apply Zl2 | apply Zl3 | apply Zl4 | apply Zl5 | apply Zl6 | apply Zl7 | apply Zl8 | apply Zl9 | apply Zla | apply Zlb | apply Zlc) | (dsimp only; with_reducible first | apply Zl8 | apply Zl2 | apply Zld) | with_reducible assumption | omega | (dsimp only; omega))))) (by rw [List.append_nil]; omega)).1.mono ?_
          rintro _ _ ⟨rfl, y4, rfl⟩
          dsimp only
          go_wp2_with fail
          refine (HSD.out false _ _ _ _ (HB6.out _ (by (repeat' (first | (with_reducible first | apply Zl1 | apply Zl2 | apply Zl3 | apply Zl4 | apply Zl5 | apply Zl6 | apply Zl7 | apply Zl8 | apply Zl9 | apply Zla | apply Zlb | apply Zlc) | (dsimp only; with_reducible first | apply Zl8 | apply Zl2 | apply Zld) | with_reducible assumption | omega | (dsimp only; omega))))) (by rw [List.append_nil]; omega)).2.1.mono ?_
          rintro _ _ ⟨rfl, y5, rfl⟩
          dsimp only
          go_wp2_with fail
          refine (HSD.out false _ _ _ _ (HB6.out _ (by (repeat' (first | (with_reducible first | apply Zl1 | apply Zl2 | apply Zl3 | apply Zl4 | apply Zl5 | apply Zl6 | apply Zl7 | apply Zl8 | apply Zl9 | apply Zla | apply Zlb | apply Zlc) | (dsimp only; with_reducible first | apply Zl8 | apply Zl2 | apply Zld) | with_reducible assumption | omega | (dsimp only; omega))))) (by rw [List.append_nil]; omega)).2.2.mono ?_
          rintro _ _ ⟨rfl, y6, rfl⟩
          have hb6 : Below w.heap.size w y6.w := by (repeat' (first | (with_reducible first | apply Zl1 | apply Zl2 | apply Zl3 | apply Zl4 | apply Zl5 | apply Zl6 | apply Zl7 | apply Zl8 | apply Zl9 | apply Zla | apply Zlb | apply Zlc) | (dsimp only; with_reducible first | apply Zl8 | apply Zl2 | apply Zld) | with_reducible assumption | omega | (dsimp only; omega)))
          have hx6 := obj_in (w := z1.w) (w' := y6.w) (by (repeat' (first | (with_reducible first | apply Zl1 | apply Zl2 | apply Zl3 | apply Zl4 | apply Zl5 | apply Zl6 | apply Zl7 | apply Zl8 | apply Zl9 | apply Zla | apply Zlb | apply Zlc) | (dsimp only; with_reducible first | apply Zl8 | apply Zl2 | apply Zld) | with_reducible assumption | omega | (dsimp only; omega)))) (obj_in z1.below (World.alloc_heap_new w (.cells #[.int .i64 (p : Int), .int .i64 (q : Int), .int .i64 (r : Int)] 140 (0, 0))))
          have HX6 := Lib.hid hx6
          have HL6 := Lib.hid hb6
          clear hx6 hb6
          dsimp only
          go_wp2_with fail
          refine (HIH.out v N D _ _ _ _ (HB.out.bel HL6.out) (sd_lt HG.out false hp (by omega)) (sd_lt HG.out false hq (by omega)) (sd_lt HG.out false hr (by omega)) ?_ ?_ ?_ HF.out (by rw [ite3_cof HG.out hp hq hr (show m0 < 4096 by omega) HV.out.2.2.2.1 HV.out.2.2.2.2.1 HV.out.2.2.2.2.2.1 false]; exact HHE.out.cof (ite3_dep HG.out hp hq hr HV.out.2.2.2.1 HV.out.2.2.2.2.1 HV.out.2.2.2.2.2.1) _) (by omega)).mono ?_
          · exact HV.out.2.2.2.2.2.2 _ (sd_var HG.out false hp (show m0 < 4096 by omega) HV.out.2.2.2.1)
          · exact HV.out.2.2.2.2.2.2 _ (sd_var HG.out false hq (show m0 < 4096 by omega) HV.out.2.2.2.2.1)
          · exact HV.out.2.2.2.2.2.2 _ (sd_var HG.out false hr (show m0 < 4096 by omega) HV.out.2.2.2.2.2.1)
          rintro _ W1 ⟨np, v1, M1, rfl, hB1, hK1, hM1, hnp, hnv⟩
          have hs6 := HL6.out.size
          have HB1 := Lib.hid hB1
          have HK1 := Lib.hid (Kb.ahead HL6.out hK1 (by omega))
          have hown6 : (v.ownBlock ≠ some w.heap.size) := fun e => by have := ownD_lt HB.out.own e; omega
          have HX1 := Lib.hid (hK1.keep _ _ HX6.out (by omega) (by omega) (by omega) hown6)
          have hown1 : (v1.ownBlock ≠ some w.heap.size) := fun e => by
            rcases hK1.own _ e with h | h
            · exact hown6 h
            · have := (Array.getElem?_eq_some_iff.1 HX6.out).1; omega
          have HO1 := Lib.hid hown1
          have HN1 := Lib.hid (And.intro hnp hnv)
          obtain ⟨x0, hx0⟩ : ∃ x0, w.heap.size = x0 := ⟨_, rfl⟩
          rw [hx0] at HX1 HO1 ⊢
          have HX0 := Lib.hid hx0
          have hM1l : (N ++ M1).length = N.length + M1.length := List.length_append
          have HML1 := Lib.hid hM1l
          have hl1 : N.length + M1.length < 1000000 := by rw [← hM1l]; exact inF_lt HA.out hcc HB1.out.good hM1
          have HF1 := Lib.hid hM1
          clear hB1 hK1 hown6 hown1 hnp hnv HX6 HL6 HB6 y6 y5 y4 y3 y2 y1 z1 b3 b4 hrun hs6 hx0 hM1l hM1
          dsimp only
          go_wp2_with fail
          refine (HSD.out true _ _ _ _ HB1.out (by rw [HML1.out]; omega)).1.mono ?_
          rintro _ _ ⟨rfl, y7, rfl⟩
          dsimp only
          go_wp2_with fail
          refine (HSD.out true _ _ _ _ (HB1.out.bel (by (repeat' (first | (with_reducible first | apply Zl1 | apply Zl2 | apply Zl3 | apply Zl4 | apply Zl5 | apply Zl6 | apply Zl7 | apply Zl8 | apply Zl9 | apply Zla | apply Zlb | apply Zlc) | (dsimp only; with_reducible first | apply Zl8 | apply Zl2 | apply Zld) | with_reducible assumption | omega | (dsimp only; omega))))) (by rw [HML1.out]; omega)).2.1.mono ?_
          rintro _ _ ⟨rfl, y8, rfl⟩
          dsimp only
          go_wp2_with fail
          refine (HSD.out true _ _ _ _ (HB1.out.bel (by (repeat' (first | (with_reducible first | apply Zl1 | apply Zl2 | apply Zl3 | apply Zl4 | apply Zl5 | apply Zl6 | apply Zl7 | apply Zl8 | apply Zl9 | apply Zla | apply Zlb | apply Zlc) | (dsimp only; with_reducible first | apply Zl8 | apply Zl2 | apply Zld) | with_reducible assumption | omega | (dsimp only; omega))))) (by rw [HML1.out]; omega)).2.2.mono ?_
          rintro _ _ ⟨rfl, y9, rfl⟩
          have hb9 : Below W1.heap.size W1 y9.w := by (repeat' (first | (with_reducible first | apply Zl1 | apply Zl2 | apply Zl3 | apply Zl4 | apply Zl5 | apply Zl6 | apply Zl7 | apply Zl8 | apply Zl9 | apply Zla | apply Zlb | apply Zlc) | (dsimp only; with_reducible first | apply Zl8 | apply Zl2 | apply Zld) | with_reducible assumption | omega | (dsimp only; omega)))
          have HL9 := Lib.hid hb9
          have HX9 := Lib.hid (obj_in hb9 HX1.out)
          clear hb9
          dsimp only
          go_wp2_with fail
          refine (HIH.out v1 (N ++ M1) (D + cj) _ _ _ _ (HB1.out.bel HL9.out) (Nat.lt_of_lt_of_le (sd_lt HG.out true hp (by omega)) (by rw [HML1.out]; omega)) (Nat.lt_of_lt_of_le (sd_lt HG.out true hq (by omega)) (by rw [HML1.out]; omega)) (Nat.lt_of_lt_of_le (sd_lt HG.out true hr (by omega)) (by rw [HML1.out]; omega)) ?_ ?_ ?_ HF1.out (by rw [show ite3 (N ++ M1) (sd N p m0 true) (sd N q m0 true) (sd N r m0 true) = ite3 N (sd N p m0 true) (sd N q m0 true) (sd N r m0 true) from funext fun ρ => ite3_app (sd_lt HG.out true hp (by omega)) (sd_lt HG.out true hq (by omega)) (sd_lt HG.out true hr (by omega)) _ ρ, ite3_cof HG.out hp hq hr (show m0 < 4096 by omega) HV.out.2.2.2.1 HV.out.2.2.2.2.1 HV.out.2.2.2.2.2.1 true]; exact HHE.out.cof (ite3_dep HG.out hp hq hr HV.out.2.2.2.1 HV.out.2.2.2.2.1 HV.out.2.2.2.2.2.1) _) (by omega)).mono ?_
          · rw [var3_app (sd_lt HG.out true hp (by omega))]; exact HV.out.2.2.2.2.2.2 _ (sd_var HG.out true hp (show m0 < 4096 by omega) HV.out.2.2.2.1)
          · rw [var3_app (sd_lt HG.out true hq (by omega))]; exact HV.out.2.2.2.2.2.2 _ (sd_var HG.out true hq (show m0 < 4096 by omega) HV.out.2.2.2.2.1)
          · rw [var3_app (sd_lt HG.out true hr (by omega))]; exact HV.out.2.2.2.2.2.2 _ (sd_var HG.out true hr (show m0 < 4096 by omega) HV.out.2.2.2.2.2.1)
          rintro _ W2 ⟨yp, v2, M2, rfl, hB2, hK2, hM2, hyp, hyv⟩
          have hM2l : (N ++ M1 ++ M2).length = N.length + M1.length + M2.length := by rw [List.length_append, HML1.out]
          have hs1 := HB1.out.dist
          have hx0l : x0 < W1.heap.size := (Array.getElem?_eq_some_iff.1 HX1.out).1
          have HK2 := Lib.hid (HK1.out.trans (Kb.ahead HL9.out hK2 (by omega)))
          have hXl9 := (Array.getElem?_eq_some_iff.1 HX9.out).1
          have hx0w := HX0.out
          have HX2 := Lib.hid (hK2.keep _ _ HX9.out (by omega) (by omega) (by omega) HO1.out)
          have hown2 : (v2.ownBlock ≠ some x0) := fun e => by
            rcases hK2.own _ e with h | h
            · exact HO1.out h
            · omega
          have HO2 := Lib.hid hown2
          have HB2 := Lib.hid hB2
          have HN2 := Lib.hid (And.intro hyp hyv)
          have HML2 := Lib.hid hM2l
          have hl2 : N.length + M1.length + M2.length < 1000000 := by rw [← hM2l]; exact inF_lt HA.out hcc HB2.out.good hM2
          have HF2 := Lib.hid hM2
          clear hB2 hK2 hown2 hyp hyv HX9 HX1 HO1 HL9 y9 y8 y7 hs1 hx0l hXl9 hM2l hM2
          dsimp only
          go_wp2_with fail
          refine (node_one HB2.out m0 np yp hmv (by have := HN1.out.1; rw [HML2.out]; rw [HML1.out] at this; omega) HN2.out.1 (fun _ => ?_) (by rw [HML2.out]; omega)).mono ?_
          · have hg2 := HB2.out.good
            have hpl := HN1.out.1
            refine ⟨?_, ?_⟩
            · refine var_gt hg2 (S := ite3 N (sd N p m0 false) (sd N q m0 false) (sd N r m0 false)) (by rw [HML2.out]; rw [HML1.out] at hpl; omega) (fun ρ => by rw [val3_app ρ _ hpl]; exact HN1.out.2 ρ) (fun ρ u b hu => ite3_ind HG.out (sd_lt HG.out false hp (by omega)) (sd_lt HG.out false hq (by omega)) (sd_lt HG.out false hr (by omega)) (sd_var HG.out false hp (by omega) HV.out.2.2.2.1) (sd_var HG.out false hq (by omega) HV.out.2.2.2.2.1) (sd_var HG.out false hr (by omega) HV.out.2.2.2.2.2.1) ρ u b hu) (by omega)
            · refine var_gt hg2 (S := ite3 N (sd N p m0 true) (sd N q m0 true) (sd N r m0 true)) HN2.out.1 (fun ρ => by rw [HN2.out.2 ρ, ite3_app (sd_lt HG.out true hp (by omega)) (sd_lt HG.out true hq (by omega)) (sd_lt HG.out true hr (by omega))]) (fun ρ u b hu => ite3_ind HG.out (sd_lt HG.out true hp (by omega)) (sd_lt HG.out true hq (by omega)) (sd_lt HG.out true hr (by omega)) (sd_var HG.out true hp (by omega) HV.out.2.2.2.1) (sd_var HG.out true hq (by omega) HV.out.2.2.2.2.1) (sd_var HG.out true hr (by omega) HV.out.2.2.2.2.2.1) ρ u b hu) (by omega)
          rintro _ W3 ⟨xp, v3, M3, rfl, hB3, hK3, hM3n, hxp, hxv⟩
          have hM3 : M3.length ≤ 1 := by rcases hM3n with rfl | ⟨x, rfl, _⟩ <;> simp
          have HM3N := Lib.hid hM3n
          clear hM3n
          have HX3 := Lib.hid (hK3.keep _ _ HX2.out (by omega) (by omega) (by omega) HO2.out)
          have HK3 := Lib.hid (HK2.out.trans hK3)
          have hval : ∀ ρ, val3 ρ (N ++ M1 ++ M2 ++ M3) xp = ite3 (N ++ M1 ++ M2 ++ M3) p q r ρ := fun ρ => by
            have hn1 := HN1.out.1
            rw [hxv]
            dsimp only
            rw [val3_app ρ _ hn1, HN1.out.2 ρ, HN2.out.2 ρ, ite3_app (sd_lt HG.out true hp (by omega)) (sd_lt HG.out true hq (by omega)) (sd_lt HG.out true hr (by omega)), ite3_side HG.out hp hq hr (by omega) ρ, List.append_assoc, List.append_assoc, ite3_app hp hq hr]
          have HVL := Lib.hid (And.intro hxp hval)
          have hM3l : (N ++ M1 ++ M2 ++ M3).length = N.length + M1.length + M2.length + M3.length := by rw [List.length_append, HML2.out]
          have HML3 := Lib.hid hM3l
          obtain ⟨n3, m3, hm3, hn3, hms3⟩ := hB3.dn
          obtain ⟨b1, b2, b3, b4, b5⟩ := bld_cells hB3
          have HB3 := Lib.hid hB3
          have HM3 := Lib.hid hm3
          have HMS3 := Lib.hid hms3
          obtain ⟨e1, e2, e3⟩ : W3.cell? ⟨x0, 0, none⟩ = some (.int .i64 (p : Int)) ∧ W3.cell? ⟨x0, 1, none⟩ = some (.int .i64 (q : Int)) ∧ W3.cell? ⟨x0, 2, none⟩ = some (.int .i64 (r : Int)) := by
            have hx3 := HX3.out
            refine ⟨?_, ?_, ?_⟩ <;> simp [World.cell?, hx3]
          clear hB3 hK3 hxp hxv hval hM3l hm3 hms3 HN1 HN2 HX2 HK1 HK2 HO2 HIH HSD HVP HVQ HVR HML1 HML2 HB1 HB2 b1 b2 b4 b5
          dsimp only
          go_wp2_with fail
          refine wp_region_plan 6 (.calm 0 (.calm 1 (.calm 2 (.calm 3 (.calm 4 (.calm 5 .tail)))))) (by kernel_rfl) (by kernel_rfl) ?_
          simp only [Plan.walk, operAt, List.getElem?_cons_succ, List.getElem?_cons_zero, Option.getD_some, List.drop_succ_cons, List.drop_zero]
          repeat (refine wpX_calm (fun K hK => ?_); go_simp; first | (refine hK _ _ ?_; clear hK K) | (apply Exists.intro; refine ⟨fun _ => ?_, hK _ _ ?_⟩; (fail); clear hK K))
          refine wpX_tail ?_
          intro z9
          have HM9 := Lib.hid (HM3.out.heap fun o ho => obj_in z9.below ho)
          go_wp2_with (at_mapUpdate; (refine wpList_update_funM _ rfl _ _ _ _ rfl 140 3 keyedK Tryz.underlying142 Tryz.underlying3 md n3 m3 rfl HM9.out (by unfold maxLen; omega) (.agg #[.int .i64 (p : Int), .int .i64 (q : Int), .int .i64 (r : Int)]) kl rfl hkl (xp : Int) rfl (wf_nat (by have := HVL.out.1; rw [HML3.out] at this; omega)) ?_; intro w5 m5 hm5 hz5 ho5 hg5; have HM5 := Lib.hid hm5; have HH5 := Lib.hid (And.intro hz5 ho5); have HG5 := Lib.hid hg5; have hs5 := hg5.size; clear hm5 hz5 ho5 hg5))
          go_wp2
          obtain ⟨hBld, hKb⟩ := bld_done HB3.out hn3 HMS3.out HM5.out HH5.out.1 HH5.out.2 (by rw [HML3.out]; omega) (by rw [HML3.out]; omega) (by rw [HML3.out]; omega) HVL.out.1 HVL.out.2 (((bel_grown z9).but _).trans HG5.out)
          refine bodyPost_ret (v := .int .i64 (xp : Int)) (by simp [results, Tryz.results69, go_sem]) rfl ⟨xp, v3, M1 ++ (M2 ++ M3), rfl, ?_, HK3.out.trans hKb, ?_, ?_, fun ρ => ?_⟩
          · rw [← List.append_assoc, ← List.append_assoc]
            exact hBld.mono (by omega)
          · dsimp only
            rw [← List.append_assoc, ← List.append_assoc]
            refine InF.last HF2.out HM3N.out HVL.out.2 ?_
            rw [show ite3 (N ++ M1 ++ M2 ++ M3) p q r = ite3 N p q r from funext fun ρ => by rw [List.append_assoc, List.append_assoc, ite3_app hp hq hr]]
            exact HHE.out.self
          · rw [← List.append_assoc, ← List.append_assoc]; exact HVL.out.1
          · rw [← List.append_assoc, ← List.append_assoc, HVL.out.2 ρ, List.append_assoc, List.append_assoc, ite3_app hp hq hr]
        · have f4 : ((q : Int) == 1) = false := by simp; omega
          clear h4
          go_enter Tryz.func69, Tryz.ntmps69
          go_wp2_with fail
          refine wp_region_bel (by kernel_rfl) (by kernel_rfl) ?_
          repeat (go_big_quiet_step (fail))
          refine wpQuiet_nil ?_
          rintro _ ⟨z1, rfl⟩
          go_wp2_with fail
          refine (HVP.out _ (HB.out.bel (by (repeat' (first | (with_reducible first | apply Zl1 | apply Zl2 | apply Zl3 | apply Zl4 | apply Zl5 | apply Zl6 | apply Zl7 | apply Zl8 | apply Zl9 | apply Zla | apply Zlb | apply Zlc) | (dsimp only; with_reducible first | apply Zl8 | apply Zl2 | apply Zld) | with_reducible assumption | omega | (dsimp only; omega)))))).mono ?_
          rintro _ _ ⟨rfl, y1, rfl⟩
          dsimp only
          go_wp2_with fail
          refine (HVQ.out _ (HB.out.bel (by (repeat' (first | (with_reducible first | apply Zl1 | apply Zl2 | apply Zl3 | apply Zl4 | apply Zl5 | apply Zl6 | apply Zl7 | apply Zl8 | apply Zl9 | apply Zla | apply Zlb | apply Zlc) | (dsimp only; with_reducible first | apply Zl8 | apply Zl2 | apply Zld) | with_reducible assumption | omega | (dsimp only; omega)))))).mono ?_
          rintro _ _ ⟨rfl, y2, rfl⟩
          dsimp only
          go_wp2_with fail
          refine (HVR.out _ (HB.out.bel (by (repeat' (first | (with_reducible first | apply Zl1 | apply Zl2 | apply Zl3 | apply Zl4 | apply Zl5 | apply Zl6 | apply Zl7 | apply Zl8 | apply Zl9 | apply Zla | apply Zlb | apply Zlc) | (dsimp only; with_reducible first | apply Zl8 | apply Zl2 | apply Zld) | with_reducible assumption | omega | (dsimp only; omega)))))).mono ?_
          rintro _ _ ⟨rfl, y3, rfl⟩
          dsimp only
          go_wp2_with fail
          have HB6 := Lib.hid (show ∀ w', Below w.heap.size w w' → Bld rk w' b0 B mp md base v (N ++ []) D from fun w' h' => by rw [List.append_nil]; exact HB.out.bel h')
          refine (HSD.out false _ _ _ _ (HB6.out _ (by (repeat' (first | (with_reducible first | apply Zl1 | apply Zl2 | apply Zl3 | apply Zl4 | apply Zl5 | apply Zl6 | apply Zl7 | apply Zl8 | apply Zl9 | apply Zla | apply Zlb | apply Zlc) | (dsimp only; with_reducible first | apply Zl8 | apply Zl2 | apply Zld) | with_reducible assumption | omega | (dsimp only; omega))))) (by rw [List.append_nil]; omega)).1.mono ?_
          rintro _ _ ⟨rfl, y4, rfl⟩
          dsimp only
          go_wp2_with fail
          refine (HSD.out false _ _ _ _ (HB6.out _ (by (repeat' (first | (with_reducible first | apply Zl1 | apply Zl2 | apply Zl3 | apply Zl4 | apply Zl5 | apply Zl6 | apply Zl7 | apply Zl8 | apply Zl9 | apply Zla | apply Zlb | apply Zlc) | (dsimp only; with_reducible first | apply Zl8 | apply Zl2 | apply Zld) | with_reducible assumption | omega | (dsimp only; omega))))) (by rw [List.append_nil]; omega)).2.1.mono ?_
          rintro _ _ ⟨rfl, y5, rfl⟩
          dsimp only
          go_wp2_with fail
          refine (HSD.out false _ _ _ _ (HB6.out _ (by (repeat' (first | (with_reducible first | apply Zl1 | apply Zl2 | apply Zl3 | apply Zl4 | apply Zl5 | apply Zl6 | apply Zl7 | apply Zl8 | apply Zl9 | apply Zla | apply Zlb | apply Zlc) | (dsimp only; with_reducible first | apply Zl8 | apply Zl2 | apply Zld) | with_reducible assumption | omega | (dsimp only; omega))))) (by rw [List.append_nil]; omega)).2.2.mono ?_
          rintro _ _ ⟨rfl, y6, rfl⟩
          have hb6 : Below w.heap.size w y6.w := by (repeat' (first | (with_reducible first | apply Zl1 | apply Zl2 | apply Zl3 | apply Zl4 | apply Zl5 | apply Zl6 | apply Zl7 | apply Zl8 | apply Zl9 | apply Zla | apply Zlb | apply Zlc) | (dsimp only; with_reducible first | apply Zl8 | apply Zl2 | apply Zld) | with_reducible assumption | omega | (dsimp only; omega)))
          have hx6 := obj_in (w := z1.w) (w' := y6.w) (by (repeat' (first | (with_reducible first | apply Zl1 | apply Zl2 | apply Zl3 | apply Zl4 | apply Zl5 | apply Zl6 | apply Zl7 | apply Zl8 | apply Zl9 | apply Zla | apply Zlb | apply Zlc) | (dsimp only; with_reducible first | apply Zl8 | apply Zl2 | apply Zld) | with_reducible assumption | omega | (dsimp only; omega)))) (obj_in z1.below (World.alloc_heap_new w (.cells #[.int .i64 (p : Int), .int .i64 (q : Int), .int .i64 (r : Int)] 140 (0, 0))))
          have HX6 := Lib.hid hx6
          have HL6 := Lib.hid hb6
          clear hx6 hb6
          dsimp only
          go_wp2_with fail
          refine (HIH.out v N D _ _ _ _ (HB.out.bel HL6.out) (sd_lt HG.out false hp (by omega)) (sd_lt HG.out false hq (by omega)) (sd_lt HG.out false hr (by omega)) ?_ ?_ ?_ HF.out (by rw [ite3_cof HG.out hp hq hr (show m0 < 4096 by omega) HV.out.2.2.2.1 HV.out.2.2.2.2.1 HV.out.2.2.2.2.2.1 false]; exact HHE.out.cof (ite3_dep HG.out hp hq hr HV.out.2.2.2.1 HV.out.2.2.2.2.1 HV.out.2.2.2.2.2.1) _) (by omega)).mono ?_
          · exact HV.out.2.2.2.2.2.2 _ (sd_var HG.out false hp (show m0 < 4096 by omega) HV.out.2.2.2.1)
          · exact HV.out.2.2.2.2.2.2 _ (sd_var HG.out false hq (show m0 < 4096 by omega) HV.out.2.2.2.2.1)
          · exact HV.out.2.2.2.2.2.2 _ (sd_var HG.out false hr (show m0 < 4096 by omega) HV.out.2.2.2.2.2.1)
          rintro _ W1 ⟨np, v1, M1, rfl, hB1, hK1, hM1, hnp, hnv⟩
          have hs6 := HL6.out.size
          have HB1 := Lib.hid hB1
          have HK1 := Lib.hid (Kb.ahead HL6.out hK1 (by omega))
          have hown6 : (v.ownBlock ≠ some w.heap.size) := fun e => by have := ownD_lt HB.out.own e; omega
          have HX1 := Lib.hid (hK1.keep _ _ HX6.out (by omega) (by omega) (by omega) hown6)
          have hown1 : (v1.ownBlock ≠ some w.heap.size) := fun e => by
            rcases hK1.own _ e with h | h
            · exact hown6 h
            · have := (Array.getElem?_eq_some_iff.1 HX6.out).1; omega
          have HO1 := Lib.hid hown1
          have HN1 := Lib.hid (And.intro hnp hnv)
          obtain ⟨x0, hx0⟩ : ∃ x0, w.heap.size = x0 := ⟨_, rfl⟩
          rw [hx0] at HX1 HO1 ⊢
          have HX0 := Lib.hid hx0
          have hM1l : (N ++ M1).length = N.length + M1.length := List.length_append
          have HML1 := Lib.hid hM1l
          have hl1 : N.length + M1.length < 1000000 := by rw [← hM1l]; exact inF_lt HA.out hcc HB1.out.good hM1
          have HF1 := Lib.hid hM1
          clear hB1 hK1 hown6 hown1 hnp hnv HX6 HL6 HB6 y6 y5 y4 y3 y2 y1 z1 b3 b4 hrun hs6 hx0 hM1l hM1
          dsimp only
          go_wp2_with fail
          refine (HSD.out true _ _ _ _ HB1.out (by rw [HML1.out]; omega)).1.mono ?_
          rintro _ _ ⟨rfl, y7, rfl⟩
          dsimp only
          go_wp2_with fail
          refine (HSD.out true _ _ _ _ (HB1.out.bel (by (repeat' (first | (with_reducible first | apply Zl1 | apply Zl2 | apply Zl3 | apply Zl4 | apply Zl5 | apply Zl6 | apply Zl7 | apply Zl8 | apply Zl9 | apply Zla | apply Zlb | apply Zlc) | (dsimp only; with_reducible first | apply Zl8 | apply Zl2 | apply Zld) | with_reducible assumption | omega | (dsimp only; omega))))) (by rw [HML1.out]; omega)).2.1.mono ?_
          rintro _ _ ⟨rfl, y8, rfl⟩
          dsimp only
          go_wp2_with fail
          refine (HSD.out true _ _ _ _ (HB1.out.bel (by (repeat' (first | (with_reducible first | apply Zl1 | apply Zl2 | apply Zl3 | apply Zl4 | apply Zl5 | apply Zl6 | apply Zl7 | apply Zl8 | apply Zl9 | apply Zla | apply Zlb | apply Zlc) | (dsimp only; with_reducible first | apply Zl8 | apply Zl2 | apply Zld) | with_reducible assumption | omega | (dsimp only; omega))))) (by rw [HML1.out]; omega)).2.2.mono ?_
          rintro _ _ ⟨rfl, y9, rfl⟩
          have hb9 : Below W1.heap.size W1 y9.w := by (repeat' (first | (with_reducible first | apply Zl1 | apply Zl2 | apply Zl3 | apply Zl4 | apply Zl5 | apply Zl6 | apply Zl7 | apply Zl8 | apply Zl9 | apply Zla | apply Zlb | apply Zlc) | (dsimp only; with_reducible first | apply Zl8 | apply Zl2 | apply Zld) | with_reducible assumption | omega | (dsimp only; omega)))
          have HL9 := Lib.hid hb9
          have HX9 := Lib.hid (obj_in hb9 HX1.out)
          clear hb9
          dsimp only
          go_wp2_with fail
          refine (HIH.out v1 (N ++ M1) (D + cj) _ _ _ _ (HB1.out.bel HL9.out) (Nat.lt_of_lt_of_le (sd_lt HG.out true hp (by omega)) (by rw [HML1.out]; omega)) (Nat.lt_of_lt_of_le (sd_lt HG.out true hq (by omega)) (by rw [HML1.out]; omega)) (Nat.lt_of_lt_of_le (sd_lt HG.out true hr (by omega)) (by rw [HML1.out]; omega)) ?_ ?_ ?_ HF1.out (by rw [show ite3 (N ++ M1) (sd N p m0 true) (sd N q m0 true) (sd N r m0 true) = ite3 N (sd N p m0 true) (sd N q m0 true) (sd N r m0 true) from funext fun ρ => ite3_app (sd_lt HG.out true hp (by omega)) (sd_lt HG.out true hq (by omega)) (sd_lt HG.out true hr (by omega)) _ ρ, ite3_cof HG.out hp hq hr (show m0 < 4096 by omega) HV.out.2.2.2.1 HV.out.2.2.2.2.1 HV.out.2.2.2.2.2.1 true]; exact HHE.out.cof (ite3_dep HG.out hp hq hr HV.out.2.2.2.1 HV.out.2.2.2.2.1 HV.out.2.2.2.2.2.1) _) (by omega)).mono ?_
          · rw [var3_app (sd_lt HG.out true hp (by omega))]; exact HV.out.2.2.2.2.2.2 _ (sd_var HG.out true hp (show m0 < 4096 by omega) HV.out.2.2.2.1)
          · rw [var3_app (sd_lt HG.out true hq (by omega))]; exact HV.out.2.2.2.2.2.2 _ (sd_var HG.out true hq (show m0 < 4096 by omega) HV.out.2.2.2.2.1)
          · rw [var3_app (sd_lt HG.out true hr (by omega))]; exact HV.out.2.2.2.2.2.2 _ (sd_var HG.out true hr (show m0 < 4096 by omega) HV.out.2.2.2.2.2.1)
          rintro _ W2 ⟨yp, v2, M2, rfl, hB2, hK2, hM2, hyp, hyv⟩
          have hM2l : (N ++ M1 ++ M2).length = N.length + M1.length + M2.length := by rw [List.length_append, HML1.out]
          have hs1 := HB1.out.dist
          have hx0l : x0 < W1.heap.size := (Array.getElem?_eq_some_iff.1 HX1.out).1
          have HK2 := Lib.hid (HK1.out.trans (Kb.ahead HL9.out hK2 (by omega)))
          have hXl9 := (Array.getElem?_eq_some_iff.1 HX9.out).1
          have hx0w := HX0.out
          have HX2 := Lib.hid (hK2.keep _ _ HX9.out (by omega) (by omega) (by omega) HO1.out)
          have hown2 : (v2.ownBlock ≠ some x0) := fun e => by
            rcases hK2.own _ e with h | h
            · exact HO1.out h
            · omega
          have HO2 := Lib.hid hown2
          have HB2 := Lib.hid hB2
          have HN2 := Lib.hid (And.intro hyp hyv)
          have HML2 := Lib.hid hM2l
          have hl2 : N.length + M1.length + M2.length < 1000000 := by rw [← hM2l]; exact inF_lt HA.out hcc HB2.out.good hM2
          have HF2 := Lib.hid hM2
          clear hB2 hK2 hown2 hyp hyv HX9 HX1 HO1 HL9 y9 y8 y7 hs1 hx0l hXl9 hM2l hM2
          dsimp only
          go_wp2_with fail
          refine (node_one HB2.out m0 np yp hmv (by have := HN1.out.1; rw [HML2.out]; rw [HML1.out] at this; omega) HN2.out.1 (fun _ => ?_) (by rw [HML2.out]; omega)).mono ?_
          · have hg2 := HB2.out.good
            have hpl := HN1.out.1
            refine ⟨?_, ?_⟩
            · refine var_gt hg2 (S := ite3 N (sd N p m0 false) (sd N q m0 false) (sd N r m0 false)) (by rw [HML2.out]; rw [HML1.out] at hpl; omega) (fun ρ => by rw [val3_app ρ _ hpl]; exact HN1.out.2 ρ) (fun ρ u b hu => ite3_ind HG.out (sd_lt HG.out false hp (by omega)) (sd_lt HG.out false hq (by omega)) (sd_lt HG.out false hr (by omega)) (sd_var HG.out false hp (by omega) HV.out.2.2.2.1) (sd_var HG.out false hq (by omega) HV.out.2.2.2.2.1) (sd_var HG.out false hr (by omega) HV.out.2.2.2.2.2.1) ρ u b hu) (by omega)
            · refine var_gt hg2 (S := ite3 N (sd N p m0 true) (sd N q m0 true) (sd N r m0 true)) HN2.out.1 (fun ρ => by rw [HN2.out.2 ρ, ite3_app (sd_lt HG.out true hp (by omega)) (sd_lt HG.out true hq (by omega)) (sd_lt HG.out true hr (by omega))]) (fun ρ u b hu => ite3_ind HG.out (sd_lt HG.out true hp (by omega)) (sd_lt HG.out true hq (by omega)) (sd_lt HG.out true hr (by omega)) (sd_var HG.out true hp (by omega) HV.out.2.2.2.1) (sd_var HG.out true hq (by omega) HV.out.2.2.2.2.1) (sd_var HG.out true hr (by omega) HV.out.2.2.2.2.2.1) ρ u b hu) (by omega)
          rintro _ W3 ⟨xp, v3, M3, rfl, hB3, hK3, hM3n, hxp, hxv⟩
          have hM3 : M3.length ≤ 1 := by rcases hM3n with rfl | ⟨x, rfl, _⟩ <;> simp
          have HM3N := Lib.hid hM3n
          clear hM3n
          have HX3 := Lib.hid (hK3.keep _ _ HX2.out (by omega) (by omega) (by omega) HO2.out)
          have HK3 := Lib.hid (HK2.out.trans hK3)
          have hval : ∀ ρ, val3 ρ (N ++ M1 ++ M2 ++ M3) xp = ite3 (N ++ M1 ++ M2 ++ M3) p q r ρ := fun ρ => by
            have hn1 := HN1.out.1
            rw [hxv]
            dsimp only
            rw [val3_app ρ _ hn1, HN1.out.2 ρ, HN2.out.2 ρ, ite3_app (sd_lt HG.out true hp (by omega)) (sd_lt HG.out true hq (by omega)) (sd_lt HG.out true hr (by omega)), ite3_side HG.out hp hq hr (by omega) ρ, List.append_assoc, List.append_assoc, ite3_app hp hq hr]
          have HVL := Lib.hid (And.intro hxp hval)
          have hM3l : (N ++ M1 ++ M2 ++ M3).length = N.length + M1.length + M2.length + M3.length := by rw [List.length_append, HML2.out]
          have HML3 := Lib.hid hM3l
          obtain ⟨n3, m3, hm3, hn3, hms3⟩ := hB3.dn
          obtain ⟨b1, b2, b3, b4, b5⟩ := bld_cells hB3
          have HB3 := Lib.hid hB3
          have HM3 := Lib.hid hm3
          have HMS3 := Lib.hid hms3
          obtain ⟨e1, e2, e3⟩ : W3.cell? ⟨x0, 0, none⟩ = some (.int .i64 (p : Int)) ∧ W3.cell? ⟨x0, 1, none⟩ = some (.int .i64 (q : Int)) ∧ W3.cell? ⟨x0, 2, none⟩ = some (.int .i64 (r : Int)) := by
            have hx3 := HX3.out
            refine ⟨?_, ?_, ?_⟩ <;> simp [World.cell?, hx3]
          clear hB3 hK3 hxp hxv hval hM3l hm3 hms3 HN1 HN2 HX2 HK1 HK2 HO2 HIH HSD HVP HVQ HVR HML1 HML2 HB1 HB2 b1 b2 b4 b5
          dsimp only
          go_wp2_with fail
          refine wp_region_plan 6 (.calm 0 (.calm 1 (.calm 2 (.calm 3 (.calm 4 (.calm 5 .tail)))))) (by kernel_rfl) (by kernel_rfl) ?_
          simp only [Plan.walk, operAt, List.getElem?_cons_succ, List.getElem?_cons_zero, Option.getD_some, List.drop_succ_cons, List.drop_zero]
          repeat (refine wpX_calm (fun K hK => ?_); go_simp; first | (refine hK _ _ ?_; clear hK K) | (apply Exists.intro; refine ⟨fun _ => ?_, hK _ _ ?_⟩; (fail); clear hK K))
          refine wpX_tail ?_
          intro z9
          have HM9 := Lib.hid (HM3.out.heap fun o ho => obj_in z9.below ho)
          go_wp2_with (at_mapUpdate; (refine wpList_update_funM _ rfl _ _ _ _ rfl 140 3 keyedK Tryz.underlying142 Tryz.underlying3 md n3 m3 rfl HM9.out (by unfold maxLen; omega) (.agg #[.int .i64 (p : Int), .int .i64 (q : Int), .int .i64 (r : Int)]) kl rfl hkl (xp : Int) rfl (wf_nat (by have := HVL.out.1; rw [HML3.out] at this; omega)) ?_; intro w5 m5 hm5 hz5 ho5 hg5; have HM5 := Lib.hid hm5; have HH5 := Lib.hid (And.intro hz5 ho5); have HG5 := Lib.hid hg5; have hs5 := hg5.size; clear hm5 hz5 ho5 hg5))
          go_wp2
          obtain ⟨hBld, hKb⟩ := bld_done HB3.out hn3 HMS3.out HM5.out HH5.out.1 HH5.out.2 (by rw [HML3.out]; omega) (by rw [HML3.out]; omega) (by rw [HML3.out]; omega) HVL.out.1 HVL.out.2 (((bel_grown z9).but _).trans HG5.out)
          refine bodyPost_ret (v := .int .i64 (xp : Int)) (by simp [results, Tryz.results69, go_sem]) rfl ⟨xp, v3, M1 ++ (M2 ++ M3), rfl, ?_, HK3.out.trans hKb, ?_, ?_, fun ρ => ?_⟩
          · rw [← List.append_assoc, ← List.append_assoc]
            exact hBld.mono (by omega)
          · dsimp only
            rw [← List.append_assoc, ← List.append_assoc]
            refine InF.last HF2.out HM3N.out HVL.out.2 ?_
            rw [show ite3 (N ++ M1 ++ M2 ++ M3) p q r = ite3 N p q r from funext fun ρ => by rw [List.append_assoc, List.append_assoc, ite3_app hp hq hr]]
            exact HHE.out.self
          · rw [← List.append_assoc, ← List.append_assoc]; exact HVL.out.1
          · rw [← List.append_assoc, ← List.append_assoc, HVL.out.2 ρ, List.append_assoc, List.append_assoc, ite3_app hp hq hr]
end Go.Proofs.YtlnedapimmabdaaGreatDoor

namespace Go.Proofs.YtlnedapimmabdaaGreatDoor
set_option linter.unusedVariables false
set_option linter.unusedSimpArgs false
open Go.RowKit Go.Maps
attribute [local go_sem low] Bel.cell Bel.frozen alloc_cell alloc_frozen
attribute [local go_sem] calmOp chainOp yieldsC grows
variable {rk : Nat → Nat}

def ChC (rk : Nat → Nat) (c c2 : Nat) (F G H : Fn3) : Prop :=
  ∀ (b0 B mp md base : Nat) (v : Value) (N : List (Nat × Nat × Nat)) (D : Nat) (w : World) (p q r : Nat), Bld rk w b0 B mp md base v N D → p < N.length + 2 → q < N.length + 2 → r < N.length + 2 → (∀ ρ, val3 ρ N p = F ρ) → (∀ ρ, val3 ρ N q = G ρ) → (∀ ρ, val3 ρ N r = H ρ) → N.length + c ≤ 1000000 → D + c ≤ 1000000 →
    Calls Tryz.prog 69 #[.pointer (some ⟨B, 0, none⟩), .int .i64 (p : Int), .int .i64 (q : Int), .int .i64 (r : Int)] w (RetB rk b0 B mp md base v N D w c c2 (ite3 N p q r))
theorem chC_fun {P : Fn3 → Prop} {cc K c2 : Nat} (hA : AtMost P cc) (hc : c2 + 1 = 2 ^ K) (hK : K ≤ 60) (hrk : ∀ v, rk v ≤ K) {F G H : Fn3} (hH : Her P (fun ρ => if F ρ then G ρ else H ρ)) : ChC rk (cc + 1) c2 F G H := fun b0 B mp md base v N D w p q r hB hp hq hr hF hG hHH hnl hdl => by
  have h60 : (2 : Nat) ^ K ≤ 2 ^ 60 := Nat.pow_le_pow_right (by decide) hK
  have e : ite3 N p q r = fun ρ => if F ρ then G ρ else H ρ := funext fun ρ => by unfold ite3; rw [hF, hG, hHH]
  have h0 : (2 : Nat) ^ 60 = 1152921504606846976 := by decide
  refine (choose_fun P N.length cc hA (by omega) b0 B mp md base K c2 hc v N D p q r w hB hp hq hr (hrk _) (hrk _) (hrk _) (fun i h1 h2 => by omega) (by rw [e]; exact hH) (by omega)).mono ?_
  rintro e w' ⟨p1, v', M, h1, h2, h3, h4, h5, h6⟩
  have hl := inF_le hA h2.good h4
  rw [List.length_append] at hl
  exact ⟨p1, v', M, h1, h2, h3, by omega, h5, h6⟩
set_option maxRecDepth 100000 in
theorem mkNotF {c c2 : Nat} (W0 : World) (x : DN) (hch : ChC rk c c2 (fun ρ => val3 ρ x.2.2.1 x.2.2.2) (fun _ => false) (fun _ => true)) : MkC rk 68 #[] W0 [x] c (fun ρ => !val3 ρ x.2.2.1 x.2.2.2) := by
  intro w b0 B mp md base v pv N D ps hbW hb0 hbl how hps hsm hnl hdl
  obtain ⟨pa, pc, rfl, hcell⟩ := ownN_sl how
  have hdb : b0 ≤ w.heap.size := by have := hbl.dist; omega
  have HBL := Lib.hid hbl
  obtain ⟨p, rfl⟩ : ∃ p, ps = [p] := List.length_eq_one_iff.1 hps
  obtain ⟨g, hpa, _, _, hc0⟩ := hcell 0 p rfl
  subst hpa
  have hs0 := hsm 0 p x rfl rfl
  have HCH := Lib.hid (fun w' (hb : Below w.heap.size w w') => hch _ _ _ _ _ _ _ _ _ p 0 1 (hbl.bel hb) hs0.1 (by omega) (by omega) hs0.2.2 (fun ρ => val3_0 ρ _) (fun ρ => val3_1 ρ _) hnl hdl)
  have HS0 := Lib.hid hs0
  clear hbl how hps hsm hcell hs0
  show Calls _ _ #[.pointer (some ⟨B, 0, none⟩), .slice (some ⟨g, 0, none⟩) 1 pc] _ _
  go_enter Tryz.func68, Tryz.ntmps68
  go_wp2_with fail
  refine (HCH.out _ (by (repeat' (first | (with_reducible first | apply Zl1 | apply Zl2 | apply Zl3 | apply Zl4 | apply Zl5 | apply Zl6 | apply Zl7 | apply Zl8 | apply Zl9 | apply Zla | apply Zlb | apply Zlc) | (dsimp only; with_reducible first | apply Zl8 | apply Zl2 | apply Zld) | with_reducible assumption | omega | (dsimp only; omega))))).mono ?_
  rintro _ W1 hR
  obtain ⟨p1, v1, M1, rfl, hB1, hK1, hM1, hp1, hv1⟩ := RetB.ahead (w := w) (by (repeat' (first | (with_reducible first | apply Zl1 | apply Zl2 | apply Zl3 | apply Zl4 | apply Zl5 | apply Zl6 | apply Zl7 | apply Zl8 | apply Zl9 | apply Zla | apply Zlb | apply Zlc) | (dsimp only; with_reducible first | apply Zl8 | apply Zl2 | apply Zld) | with_reducible assumption | omega | (dsimp only; omega)))) hdb hR
  have HB1 := Lib.hid hB1
  have HK1 := Lib.hid hK1.below
  have HV1 := Lib.hid (And.intro hM1 (And.intro hp1 hv1))
  clear hR hB1 hK1 hM1 hp1 hv1
  dsimp only
  go_wp2
  refine bodyPost_ret (v := .int .i64 (p1 : Int)) (by simp [results, Tryz.results68, go_sem]) rfl ⟨p1, v1, M1, _, rfl, HB1.out, HK1.out, HV1.out.1, HV1.out.2.1, fun ρ => ?_⟩
  rw [HV1.out.2.2 ρ]
  unfold ite3
  rw [HS0.out.2.2 ρ, val3_0, val3_1]
  dsimp only
  cases val3 ρ x.2.2.1 x.2.2.2 <;> rfl
set_option maxRecDepth 100000 in
theorem mkAndF {c c2 : Nat} (W0 : World) (x y : DN) (hch : ChC rk c c2 (fun ρ => val3 ρ x.2.2.1 x.2.2.2) (fun ρ => val3 ρ y.2.2.1 y.2.2.2) (fun _ => false)) : MkC rk 85 #[] W0 [x, y] c (fun ρ => (val3 ρ x.2.2.1 x.2.2.2 && val3 ρ y.2.2.1 y.2.2.2)) := by
  intro w b0 B mp md base v pv N D ps hbW hb0 hbl how hps hsm hnl hdl
  obtain ⟨pa, pc, rfl, hcell⟩ := ownN_sl how
  have hdb : b0 ≤ w.heap.size := by have := hbl.dist; omega
  have HBL := Lib.hid hbl
  obtain ⟨p, q, rfl⟩ : ∃ p q, ps = [p, q] := two_of hps
  obtain ⟨g, hpa, _, _, hc0⟩ := hcell 0 p rfl
  subst hpa
  obtain ⟨g', hpa, _, _, hc1⟩ := hcell 1 q rfl
  cases hpa
  have hs0 := hsm 0 p x rfl rfl
  have hs1 := hsm 1 q y rfl rfl
  have HCH := Lib.hid (fun w' (hb : Below w.heap.size w w') => hch _ _ _ _ _ _ _ _ _ p q 0 (hbl.bel hb) hs0.1 hs1.1 (by omega) hs0.2.2 hs1.2.2 (fun ρ => val3_0 ρ _) hnl hdl)
  have HS0 := Lib.hid (And.intro hs0 hs1)
  clear hbl how hps hsm hcell hs0 hs1
  show Calls _ _ #[.pointer (some ⟨B, 0, none⟩), .slice (some ⟨g, 0, none⟩) 2 pc] _ _
  go_enter Tryz.func85, Tryz.ntmps85
  go_wp2_with fail
  refine wp_region_belT 7 (by kernel_rfl) (by kernel_rfl) ?_
  simp only [List.take_succ_cons, List.take_zero, List.drop_succ_cons, List.drop_zero]
  repeat (go_big_quiet_step (fail))
  refine wpQuiet_nil ?_
  rintro _ ⟨z, rfl⟩
  go_wp2_with fail
  refine (HCH.out _ (by (repeat' (first | (with_reducible first | apply Zl1 | apply Zl2 | apply Zl3 | apply Zl4 | apply Zl5 | apply Zl6 | apply Zl7 | apply Zl8 | apply Zl9 | apply Zla | apply Zlb | apply Zlc) | (dsimp only; with_reducible first | apply Zl8 | apply Zl2 | apply Zld) | with_reducible assumption | omega | (dsimp only; omega))))).mono ?_
  rintro _ W1 hR
  obtain ⟨p1, v1, M1, rfl, hB1, hK1, hM1, hp1, hv1⟩ := RetB.ahead (w := w) (by (repeat' (first | (with_reducible first | apply Zl1 | apply Zl2 | apply Zl3 | apply Zl4 | apply Zl5 | apply Zl6 | apply Zl7 | apply Zl8 | apply Zl9 | apply Zla | apply Zlb | apply Zlc) | (dsimp only; with_reducible first | apply Zl8 | apply Zl2 | apply Zld) | with_reducible assumption | omega | (dsimp only; omega)))) hdb hR
  have HB1 := Lib.hid hB1
  have HK1 := Lib.hid hK1.below
  have HV1 := Lib.hid (And.intro hM1 (And.intro hp1 hv1))
  clear hR hB1 hK1 hM1 hp1 hv1
  dsimp only
  go_wp2
  refine bodyPost_ret (v := .int .i64 (p1 : Int)) (by simp [results, Tryz.results85, go_sem]) rfl ⟨p1, v1, M1, _, rfl, HB1.out, HK1.out, HV1.out.1, HV1.out.2.1, fun ρ => ?_⟩
  rw [HV1.out.2.2 ρ]
  unfold ite3
  rw [HS0.out.1.2.2 ρ, HS0.out.2.2.2 ρ]
  try rw [val3_0]
  try rw [val3_1]
  dsimp only
  cases val3 ρ x.2.2.1 x.2.2.2 <;> cases val3 ρ y.2.2.1 y.2.2.2 <;> rfl
set_option maxRecDepth 100000 in
theorem mkOrF {c c2 : Nat} (W0 : World) (x y : DN) (hch : ChC rk c c2 (fun ρ => val3 ρ x.2.2.1 x.2.2.2) (fun _ => true) (fun ρ => val3 ρ y.2.2.1 y.2.2.2)) : MkC rk 86 #[] W0 [x, y] c (fun ρ => (val3 ρ x.2.2.1 x.2.2.2 || val3 ρ y.2.2.1 y.2.2.2)) := by
  intro w b0 B mp md base v pv N D ps hbW hb0 hbl how hps hsm hnl hdl
  obtain ⟨pa, pc, rfl, hcell⟩ := ownN_sl how
  have hdb : b0 ≤ w.heap.size := by have := hbl.dist; omega
  have HBL := Lib.hid hbl
  obtain ⟨p, q, rfl⟩ : ∃ p q, ps = [p, q] := two_of hps
  obtain ⟨g, hpa, _, _, hc0⟩ := hcell 0 p rfl
  subst hpa
  obtain ⟨g', hpa, _, _, hc1⟩ := hcell 1 q rfl
  cases hpa
  have hs0 := hsm 0 p x rfl rfl
  have hs1 := hsm 1 q y rfl rfl
  have HCH := Lib.hid (fun w' (hb : Below w.heap.size w w') => hch _ _ _ _ _ _ _ _ _ p 1 q (hbl.bel hb) hs0.1 (by omega) hs1.1 hs0.2.2 (fun ρ => val3_1 ρ _) hs1.2.2 hnl hdl)
  have HS0 := Lib.hid (And.intro hs0 hs1)
  clear hbl how hps hsm hcell hs0 hs1
  show Calls _ _ #[.pointer (some ⟨B, 0, none⟩), .slice (some ⟨g, 0, none⟩) 2 pc] _ _
  go_enter Tryz.func86, Tryz.ntmps86
  go_wp2_with fail
  refine wp_region_belT 7 (by kernel_rfl) (by kernel_rfl) ?_
  simp only [List.take_succ_cons, List.take_zero, List.drop_succ_cons, List.drop_zero]
  repeat (go_big_quiet_step (fail))
  refine wpQuiet_nil ?_
  rintro _ ⟨z, rfl⟩
  go_wp2_with fail
  refine (HCH.out _ (by (repeat' (first | (with_reducible first | apply Zl1 | apply Zl2 | apply Zl3 | apply Zl4 | apply Zl5 | apply Zl6 | apply Zl7 | apply Zl8 | apply Zl9 | apply Zla | apply Zlb | apply Zlc) | (dsimp only; with_reducible first | apply Zl8 | apply Zl2 | apply Zld) | with_reducible assumption | omega | (dsimp only; omega))))).mono ?_
  rintro _ W1 hR
  obtain ⟨p1, v1, M1, rfl, hB1, hK1, hM1, hp1, hv1⟩ := RetB.ahead (w := w) (by (repeat' (first | (with_reducible first | apply Zl1 | apply Zl2 | apply Zl3 | apply Zl4 | apply Zl5 | apply Zl6 | apply Zl7 | apply Zl8 | apply Zl9 | apply Zla | apply Zlb | apply Zlc) | (dsimp only; with_reducible first | apply Zl8 | apply Zl2 | apply Zld) | with_reducible assumption | omega | (dsimp only; omega)))) hdb hR
  have HB1 := Lib.hid hB1
  have HK1 := Lib.hid hK1.below
  have HV1 := Lib.hid (And.intro hM1 (And.intro hp1 hv1))
  clear hR hB1 hK1 hM1 hp1 hv1
  dsimp only
  go_wp2
  refine bodyPost_ret (v := .int .i64 (p1 : Int)) (by simp [results, Tryz.results86, go_sem]) rfl ⟨p1, v1, M1, _, rfl, HB1.out, HK1.out, HV1.out.1, HV1.out.2.1, fun ρ => ?_⟩
  rw [HV1.out.2.2 ρ]
  unfold ite3
  rw [HS0.out.1.2.2 ρ, HS0.out.2.2.2 ρ]
  try rw [val3_0]
  try rw [val3_1]
  dsimp only
  cases val3 ρ x.2.2.1 x.2.2.2 <;> cases val3 ρ y.2.2.1 y.2.2.2 <;> rfl
set_option maxRecDepth 100000 in
theorem mkChooseF {c c2 : Nat} (W0 : World) (x y u : DN) (hch : ChC rk c c2 (fun ρ => val3 ρ x.2.2.1 x.2.2.2) (fun ρ => val3 ρ y.2.2.1 y.2.2.2) (fun ρ => val3 ρ u.2.2.1 u.2.2.2)) : MkC rk 70 #[] W0 [x, y, u] c (fun ρ => if val3 ρ x.2.2.1 x.2.2.2 then val3 ρ y.2.2.1 y.2.2.2 else val3 ρ u.2.2.1 u.2.2.2) := by
  intro w b0 B mp md base v pv N D ps hbW hb0 hbl how hps hsm hnl hdl
  obtain ⟨pa, pc, rfl, hcell⟩ := ownN_sl how
  have hdb : b0 ≤ w.heap.size := by have := hbl.dist; omega
  have HBL := Lib.hid hbl
  obtain ⟨p, q, r, rfl⟩ : ∃ p q r, ps = [p, q, r] := three_of hps
  obtain ⟨g, hpa, _, _, hc0⟩ := hcell 0 p rfl
  subst hpa
  obtain ⟨g', hpa, _, _, hc1⟩ := hcell 1 q rfl
  cases hpa
  obtain ⟨g', hpa, _, _, hc2⟩ := hcell 2 r rfl
  cases hpa
  have hs0 := hsm 0 p x rfl rfl
  have hs1 := hsm 1 q y rfl rfl
  have hs2 := hsm 2 r u rfl rfl
  have HCH := Lib.hid (fun w' (hb : Below w.heap.size w w') => hch _ _ _ _ _ _ _ _ _ p q r (hbl.bel hb) hs0.1 hs1.1 hs2.1 hs0.2.2 hs1.2.2 hs2.2.2 hnl hdl)
  have HS0 := Lib.hid (And.intro hs0 (And.intro hs1 hs2))
  clear hbl how hps hsm hcell hs0 hs1 hs2
  show Calls _ _ #[.pointer (some ⟨B, 0, none⟩), .slice (some ⟨g, 0, none⟩) 3 pc] _ _
  go_enter Tryz.func70, Tryz.ntmps70
  go_wp2_with fail
  refine wp_region_belT 10 (by kernel_rfl) (by kernel_rfl) ?_
  simp only [List.take_succ_cons, List.take_zero, List.drop_succ_cons, List.drop_zero]
  repeat (go_big_quiet_step (fail))
  refine wpQuiet_nil ?_
  rintro _ ⟨z, rfl⟩
  go_wp2_with fail
  refine (HCH.out _ (by (repeat' (first | (with_reducible first | apply Zl1 | apply Zl2 | apply Zl3 | apply Zl4 | apply Zl5 | apply Zl6 | apply Zl7 | apply Zl8 | apply Zl9 | apply Zla | apply Zlb | apply Zlc) | (dsimp only; with_reducible first | apply Zl8 | apply Zl2 | apply Zld) | with_reducible assumption | omega | (dsimp only; omega))))).mono ?_
  rintro _ W1 hR
  obtain ⟨p1, v1, M1, rfl, hB1, hK1, hM1, hp1, hv1⟩ := RetB.ahead (w := w) (by (repeat' (first | (with_reducible first | apply Zl1 | apply Zl2 | apply Zl3 | apply Zl4 | apply Zl5 | apply Zl6 | apply Zl7 | apply Zl8 | apply Zl9 | apply Zla | apply Zlb | apply Zlc) | (dsimp only; with_reducible first | apply Zl8 | apply Zl2 | apply Zld) | with_reducible assumption | omega | (dsimp only; omega)))) hdb hR
  have HB1 := Lib.hid hB1
  have HK1 := Lib.hid hK1.below
  have HV1 := Lib.hid (And.intro hM1 (And.intro hp1 hv1))
  clear hR hB1 hK1 hM1 hp1 hv1
  dsimp only
  go_wp2
  refine bodyPost_ret (v := .int .i64 (p1 : Int)) (by simp [results, Tryz.results70, go_sem]) rfl ⟨p1, v1, M1, _, rfl, HB1.out, HK1.out, HV1.out.1, HV1.out.2.1, fun ρ => ?_⟩
  rw [HV1.out.2.2 ρ]
  unfold ite3
  rw [HS0.out.1.2.2 ρ, HS0.out.2.1.2.2 ρ, HS0.out.2.2.2.2 ρ]
set_option maxRecDepth 100000 in
set_option maxHeartbeats 6400000 in
theorem Not_okF {c c2 : Nat} (x : DN) (w : World) (hx : DNok rk w x) (hch : ChC rk c c2 (fun ρ => val3 ρ x.2.2.1 x.2.2.2) (fun _ => false) (fun _ => true)) (hsum : x.2.2.1.length + c ≤ 50000) :
    Calls Tryz.prog 43 #[dnV x] w (RetC rk (x.2.2.1.length + c) (fun ρ => !val3 ρ x.2.2.1 x.2.2.2) w) := by
  have HC := Lib.hid (fun w' g (hb : Below w.heap.size w w') (hd : w'.heap[g]? = some (.cells #[.slice x.1 x.2.2.1.length x.2.1, .int .i64 (x.2.2.2 : Int)] 63 (0, 0))) => combine_any rk 68 #[] egNot [x] g 0 1 c _ w' (fun y hy => by rw [List.mem_singleton.1 hy]; exact hx.of hb) (dis1 x hd) (mkNotF w' x hch) (by simp [sumN]; omega) (by simp))
  have hsn : sumN [x] = x.2.2.1.length := by simp [sumN]
  rw [hsn] at HC
  obtain ⟨ad, cap, M, r⟩ := x
  dsimp only at HC hsum hx ⊢
  clear hx hsn hch
  go_enter Tryz.func43, Tryz.ntmps43
  go_wp2_with fail
  refine (HC.out _ _ (by (repeat' (first | (with_reducible first | apply Zl1 | apply Zl2 | apply Zl3 | apply Zl4 | apply Zl5 | apply Zl6 | apply Zl7 | apply Zl8 | apply Zl9 | apply Zla | apply Zlb | apply Zlc) | (dsimp only; with_reducible first | apply Zl8 | apply Zl2 | apply Zld) | with_reducible assumption | omega | (dsimp only; omega)))) ((newAt2 _ _ _ _))).mono ?_
  rintro _ W1 ⟨N, p, hg, hl, hv, hp, hS, ad', c', rfl, hi', hf', hb'⟩
  obtain ⟨d0, d1, d2, d3⟩ := cells2 (obj_in hb' ((obj_alloc _ (newAt1 _ _ _))))
  obtain ⟨CM, hCM⟩ : ∃ x, (canonD N p).1 = x := ⟨_, rfl⟩
  obtain ⟨cr, hcr⟩ : ∃ x, (canonD N p).2 = x := ⟨_, rfl⟩
  rw [hCM] at hi' ⊢
  rw [hcr] at ⊢
  have HH := Lib.hid (And.intro hi' (And.intro hf' hb'))
  have HG := Lib.hid (And.intro hg (And.intro hl (And.intro hv (And.intro hp (And.intro hS (And.intro hCM hcr))))))
  clear hi' hf' hb' hg hl hv hp hS hCM hcr
  dsimp only
  go_wp2
  refine bodyPost_ret (v := .tuple #[.agg #[.slice ad' CM.length c', .int .i64 (cr : Int)], .int .i64 0]) (by simp [results, Tryz.results43, go_sem, d0, d1]) rfl ⟨N, p, HG.out.1, HG.out.2.1, HG.out.2.2.1, HG.out.2.2.2.1, HG.out.2.2.2.2.1, ?_⟩
  rw [HG.out.2.2.2.2.2.1, HG.out.2.2.2.2.2.2]
  exact fin_dg (by (repeat' (first | (with_reducible first | apply Zl1 | apply Zl2 | apply Zl3 | apply Zl4 | apply Zl5 | apply Zl6 | apply Zl7 | apply Zl8 | apply Zl9 | apply Zla | apply Zlb | apply Zlc) | (dsimp only; with_reducible first | apply Zl8 | apply Zl2 | apply Zld) | with_reducible assumption | omega | (dsimp only; omega)))) (by omega) (by simp) HH.out.1 HH.out.2.1 HH.out.2.2 _ _
set_option maxRecDepth 100000 in
set_option maxHeartbeats 6400000 in
theorem And_okF {c c2 : Nat} (x y : DN) (w : World) (hx : DNok rk w x) (hy : DNok rk w y) (hch : ChC rk c c2 (fun ρ => val3 ρ x.2.2.1 x.2.2.2) (fun ρ => val3 ρ y.2.2.1 y.2.2.2) (fun _ => false)) (hsum : x.2.2.1.length + y.2.2.1.length + c ≤ 50000) :
    Calls Tryz.prog 64 #[dnV x, dnV y] w (RetC rk (x.2.2.1.length + y.2.2.1.length + c) (fun ρ => (val3 ρ x.2.2.1 x.2.2.2 && val3 ρ y.2.2.1 y.2.2.2)) w) := by
  have HC := Lib.hid (fun w' g (hb : Below w.heap.size w w') (hd : w'.heap[g]? = some (.cells #[.slice x.1 x.2.2.1.length x.2.1, .int .i64 (x.2.2.2 : Int), .slice y.1 y.2.2.1.length y.2.1, .int .i64 (y.2.2.2 : Int)] 63 (0, 0))) => combine_any rk 85 #[] egAnd [x, y] g 0 2 c _ w' (fun z hz => by
    rcases List.mem_cons.1 hz with rfl | hz
    · exact hx.of hb
    · rw [List.mem_singleton.1 hz]; exact hy.of hb) (dis2 x y hd) (mkAndF w' x y hch) (by simp [sumN]; omega) (by simp))
  have hsn : sumN [x, y] = x.2.2.1.length + y.2.2.1.length := by simp [sumN]
  rw [hsn] at HC
  obtain ⟨ad, cap, M, r⟩ := x
  obtain ⟨ad2, cap2, M2, r2⟩ := y
  dsimp only at HC hsum hx hy ⊢
  clear hx hy hsn hch
  go_enter Tryz.func64, Tryz.ntmps64
  go_wp2_with fail
  refine (HC.out _ _ (by (repeat' (first | (with_reducible first | apply Zl1 | apply Zl2 | apply Zl3 | apply Zl4 | apply Zl5 | apply Zl6 | apply Zl7 | apply Zl8 | apply Zl9 | apply Zla | apply Zlb | apply Zlc) | (dsimp only; with_reducible first | apply Zl8 | apply Zl2 | apply Zld) | with_reducible assumption | omega | (dsimp only; omega)))) ((newAt3 _ _ _ _ _))).mono ?_
  rintro _ W1 ⟨N, p, hg, hl, hv, hp, hS, ad', c', rfl, hi', hf', hb'⟩
  obtain ⟨d0, d1, d2, d3⟩ := cells2 (obj_in hb' ((obj_alloc _ (newAt2 _ _ _ _))))
  obtain ⟨CM, hCM⟩ : ∃ x, (canonD N p).1 = x := ⟨_, rfl⟩
  obtain ⟨cr, hcr⟩ : ∃ x, (canonD N p).2 = x := ⟨_, rfl⟩
  rw [hCM] at hi' ⊢
  rw [hcr] at ⊢
  have HH := Lib.hid (And.intro hi' (And.intro hf' hb'))
  have HG := Lib.hid (And.intro hg (And.intro hl (And.intro hv (And.intro hp (And.intro hS (And.intro hCM hcr))))))
  clear hi' hf' hb' hg hl hv hp hS hCM hcr
  dsimp only
  go_wp2
  refine bodyPost_ret (v := .tuple #[.agg #[.slice ad' CM.length c', .int .i64 (cr : Int)], .int .i64 0]) (by simp [results, Tryz.results64, go_sem, d0, d1]) rfl ⟨N, p, HG.out.1, HG.out.2.1, HG.out.2.2.1, HG.out.2.2.2.1, HG.out.2.2.2.2.1, ?_⟩
  rw [HG.out.2.2.2.2.2.1, HG.out.2.2.2.2.2.2]
  exact fin_dg (by (repeat' (first | (with_reducible first | apply Zl1 | apply Zl2 | apply Zl3 | apply Zl4 | apply Zl5 | apply Zl6 | apply Zl7 | apply Zl8 | apply Zl9 | apply Zla | apply Zlb | apply Zlc) | (dsimp only; with_reducible first | apply Zl8 | apply Zl2 | apply Zld) | with_reducible assumption | omega | (dsimp only; omega)))) (by omega) (by simp) HH.out.1 HH.out.2.1 HH.out.2.2 _ _
set_option maxRecDepth 100000 in
set_option maxHeartbeats 6400000 in
theorem Or_okF {c c2 : Nat} (x y : DN) (w : World) (hx : DNok rk w x) (hy : DNok rk w y) (hch : ChC rk c c2 (fun ρ => val3 ρ x.2.2.1 x.2.2.2) (fun _ => true) (fun ρ => val3 ρ y.2.2.1 y.2.2.2)) (hsum : x.2.2.1.length + y.2.2.1.length + c ≤ 50000) :
    Calls Tryz.prog 65 #[dnV x, dnV y] w (RetC rk (x.2.2.1.length + y.2.2.1.length + c) (fun ρ => (val3 ρ x.2.2.1 x.2.2.2 || val3 ρ y.2.2.1 y.2.2.2)) w) := by
  have HC := Lib.hid (fun w' g (hb : Below w.heap.size w w') (hd : w'.heap[g]? = some (.cells #[.slice x.1 x.2.2.1.length x.2.1, .int .i64 (x.2.2.2 : Int), .slice y.1 y.2.2.1.length y.2.1, .int .i64 (y.2.2.2 : Int)] 63 (0, 0))) => combine_any rk 86 #[] egOr [x, y] g 0 2 c _ w' (fun z hz => by
    rcases List.mem_cons.1 hz with rfl | hz
    · exact hx.of hb
    · rw [List.mem_singleton.1 hz]; exact hy.of hb) (dis2 x y hd) (mkOrF w' x y hch) (by simp [sumN]; omega) (by simp))
  have hsn : sumN [x, y] = x.2.2.1.length + y.2.2.1.length := by simp [sumN]
  rw [hsn] at HC
  obtain ⟨ad, cap, M, r⟩ := x
  obtain ⟨ad2, cap2, M2, r2⟩ := y
  dsimp only at HC hsum hx hy ⊢
  clear hx hy hsn hch
  go_enter Tryz.func65, Tryz.ntmps65
  go_wp2_with fail
  refine (HC.out _ _ (by (repeat' (first | (with_reducible first | apply Zl1 | apply Zl2 | apply Zl3 | apply Zl4 | apply Zl5 | apply Zl6 | apply Zl7 | apply Zl8 | apply Zl9 | apply Zla | apply Zlb | apply Zlc) | (dsimp only; with_reducible first | apply Zl8 | apply Zl2 | apply Zld) | with_reducible assumption | omega | (dsimp only; omega)))) ((newAt3 _ _ _ _ _))).mono ?_
  rintro _ W1 ⟨N, p, hg, hl, hv, hp, hS, ad', c', rfl, hi', hf', hb'⟩
  obtain ⟨d0, d1, d2, d3⟩ := cells2 (obj_in hb' ((obj_alloc _ (newAt2 _ _ _ _))))
  obtain ⟨CM, hCM⟩ : ∃ x, (canonD N p).1 = x := ⟨_, rfl⟩
  obtain ⟨cr, hcr⟩ : ∃ x, (canonD N p).2 = x := ⟨_, rfl⟩
  rw [hCM] at hi' ⊢
  rw [hcr] at ⊢
  have HH := Lib.hid (And.intro hi' (And.intro hf' hb'))
  have HG := Lib.hid (And.intro hg (And.intro hl (And.intro hv (And.intro hp (And.intro hS (And.intro hCM hcr))))))
  clear hi' hf' hb' hg hl hv hp hS hCM hcr
  dsimp only
  go_wp2
  refine bodyPost_ret (v := .tuple #[.agg #[.slice ad' CM.length c', .int .i64 (cr : Int)], .int .i64 0]) (by simp [results, Tryz.results65, go_sem, d0, d1]) rfl ⟨N, p, HG.out.1, HG.out.2.1, HG.out.2.2.1, HG.out.2.2.2.1, HG.out.2.2.2.2.1, ?_⟩
  rw [HG.out.2.2.2.2.2.1, HG.out.2.2.2.2.2.2]
  exact fin_dg (by (repeat' (first | (with_reducible first | apply Zl1 | apply Zl2 | apply Zl3 | apply Zl4 | apply Zl5 | apply Zl6 | apply Zl7 | apply Zl8 | apply Zl9 | apply Zla | apply Zlb | apply Zlc) | (dsimp only; with_reducible first | apply Zl8 | apply Zl2 | apply Zld) | with_reducible assumption | omega | (dsimp only; omega)))) (by omega) (by simp) HH.out.1 HH.out.2.1 HH.out.2.2 _ _
set_option maxRecDepth 100000 in
set_option maxHeartbeats 6400000 in
theorem Choose_okF {c c2 : Nat} (x y u : DN) (w : World) (hx : DNok rk w x) (hy : DNok rk w y) (hu : DNok rk w u) (hch : ChC rk c c2 (fun ρ => val3 ρ x.2.2.1 x.2.2.2) (fun ρ => val3 ρ y.2.2.1 y.2.2.2) (fun ρ => val3 ρ u.2.2.1 u.2.2.2)) (hsum : x.2.2.1.length + y.2.2.1.length + u.2.2.1.length + c ≤ 50000) :
    Calls Tryz.prog 44 #[dnV x, dnV y, dnV u] w (RetC rk (x.2.2.1.length + y.2.2.1.length + u.2.2.1.length + c) (fun ρ => if val3 ρ x.2.2.1 x.2.2.2 then val3 ρ y.2.2.1 y.2.2.2 else val3 ρ u.2.2.1 u.2.2.2) w) := by
  have HC := Lib.hid (fun w' g (hb : Below w.heap.size w w') (hd : w'.heap[g]? = some (.cells #[.slice x.1 x.2.2.1.length x.2.1, .int .i64 (x.2.2.2 : Int), .slice y.1 y.2.2.1.length y.2.1, .int .i64 (y.2.2.2 : Int), .slice u.1 u.2.2.1.length u.2.1, .int .i64 (u.2.2.2 : Int)] 63 (0, 0))) => combine_any rk 70 #[] egChoose [x, y, u] g 0 3 c _ w' (fun z hz => by
    rcases List.mem_cons.1 hz with rfl | hz
    · exact hx.of hb
    · rcases List.mem_cons.1 hz with rfl | hz
      · exact hy.of hb
      · rw [List.mem_singleton.1 hz]; exact hu.of hb) (dis3 x y u hd) (mkChooseF w' x y u hch) (by simp [sumN]; omega) (by simp))
  have hsn : sumN [x, y, u] = x.2.2.1.length + y.2.2.1.length + u.2.2.1.length := by simp [sumN]; omega
  rw [hsn] at HC
  obtain ⟨ad, cap, M, r⟩ := x
  obtain ⟨ad2, cap2, M2, r2⟩ := y
  obtain ⟨ad3, cap3, M3, r3⟩ := u
  dsimp only at HC hsum hx hy hu ⊢
  clear hx hy hu hsn hch
  go_enter Tryz.func44, Tryz.ntmps44
  go_wp2_with fail
  refine (HC.out _ _ (by (repeat' (first | (with_reducible first | apply Zl1 | apply Zl2 | apply Zl3 | apply Zl4 | apply Zl5 | apply Zl6 | apply Zl7 | apply Zl8 | apply Zl9 | apply Zla | apply Zlb | apply Zlc) | (dsimp only; with_reducible first | apply Zl8 | apply Zl2 | apply Zld) | with_reducible assumption | omega | (dsimp only; omega)))) ((newAt4 _ _ _ _ _ _))).mono ?_
  rintro _ W1 ⟨N, p, hg, hl, hv, hp, hS, ad', c', rfl, hi', hf', hb'⟩
  obtain ⟨d0, d1, d2, d3⟩ := cells2 (obj_in hb' ((obj_alloc _ (newAt3 _ _ _ _ _))))
  obtain ⟨CM, hCM⟩ : ∃ x, (canonD N p).1 = x := ⟨_, rfl⟩
  obtain ⟨cr, hcr⟩ : ∃ x, (canonD N p).2 = x := ⟨_, rfl⟩
  rw [hCM] at hi' ⊢
  rw [hcr] at ⊢
  have HH := Lib.hid (And.intro hi' (And.intro hf' hb'))
  have HG := Lib.hid (And.intro hg (And.intro hl (And.intro hv (And.intro hp (And.intro hS (And.intro hCM hcr))))))
  clear hi' hf' hb' hg hl hv hp hS hCM hcr
  dsimp only
  go_wp2
  refine bodyPost_ret (v := .tuple #[.agg #[.slice ad' CM.length c', .int .i64 (cr : Int)], .int .i64 0]) (by simp [results, Tryz.results44, go_sem, d0, d1]) rfl ⟨N, p, HG.out.1, HG.out.2.1, HG.out.2.2.1, HG.out.2.2.2.1, HG.out.2.2.2.2.1, ?_⟩
  rw [HG.out.2.2.2.2.2.1, HG.out.2.2.2.2.2.2]
  exact fin_dg (by (repeat' (first | (with_reducible first | apply Zl1 | apply Zl2 | apply Zl3 | apply Zl4 | apply Zl5 | apply Zl6 | apply Zl7 | apply Zl8 | apply Zl9 | apply Zla | apply Zlb | apply Zlc) | (dsimp only; with_reducible first | apply Zl8 | apply Zl2 | apply Zld) | with_reducible assumption | omega | (dsimp only; omega)))) (by omega) (by simp) HH.out.1 HH.out.2.1 HH.out.2.2 _ _
end Go.Proofs.YtlnedapimmabdaaGreatDoor
