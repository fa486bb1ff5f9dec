/- The builder's choose. The builder's formula. Diagrams in memory. Slices of places, and builders beside blocks that turn. -/
import Derived.Test.YtlnedapimmabdaaGreatDoorXA
import Derived.Test.YtlnedapimmabdaaGreatDoorG5
import Derived.Test.YtlnedapimmabdaaGreatDoorPl
import Derived.Deep.RegionHeld3
import Derived.Deep.AppendLies
namespace Go.Proofs.YtlnedapimmabdaaGreatDoor
set_option linter.unusedVariables false
set_option linter.unusedSimpArgs false
open Go.RowKit Go.Maps
attribute [local go_sem low] Bel.cell Bel.frozen alloc_cell alloc_frozen
attribute [local go_sem] calmOp chainOp yieldsC grows
variable {rk : Nat → Nat}

def sd (N : List (Nat × Nat × Nat)) (p v : Nat) (b : Bool) : Nat := if var3 N p = v then (if b then (node3 N p).2.2 else (node3 N p).2.1) else p
theorem sd_node {N : List (Nat × Nat × Nat)} {p v : Nat} (h : var3 N p = v) (hv : v < 4096) : 2 ≤ p := by
  rcases Nat.lt_or_ge p 2 with h2 | h2
  · unfold var3 at h; rw [if_pos h2] at h; omega
  · exact h2
theorem sd_lt {N : List (Nat × Nat × Nat)} (hN : Good N) {p v : Nat} (b : Bool) (hp : p < N.length + 2) (hv : v < 4096) : sd N p v b < N.length + 2 := by
  unfold sd
  split
  · rename_i h
    obtain ⟨a1, a2, _⟩ := node3_ok hN hp (sd_node h hv)
    split <;> omega
  · exact hp
theorem sd_var {N : List (Nat × Nat × Nat)} (hN : Good N) {p v : Nat} (b : Bool) (hp : p < N.length + 2) (hv : v < 4096) (hle : v ≤ var3 N p) : v < var3 N (sd N p v b) := by
  unfold sd
  split
  · rename_i h
    obtain ⟨a1, a2, a3, a4, a5, a6, _⟩ := node3_ok hN hp (sd_node h hv)
    split <;> omega
  · omega
theorem sd_val {N : List (Nat × Nat × Nat)} (hN : Good N) (ρ : Nat → Bool) {p v : Nat} (hp : p < N.length + 2) (hv : v < 4096) : val3 ρ N (sd N p v (ρ v)) = val3 ρ N p := by
  unfold sd
  split
  · rename_i h
    have h2 := sd_node h hv
    have hn := val3_node hN ρ (node3_some hp h2)
    rw [Nat.sub_add_cancel h2] at hn
    have e := (node3_ok hN hp h2).2.2.2.2.2.1
    rw [hn, ← e, h]
    cases ρ v <;> rfl
  · rfl
theorem sd_app {N : List (Nat × Nat × Nat)} {p v : Nat} (b : Bool) (hp : p < N.length + 2) (hv : v < 4096) (M : List (Nat × Nat × Nat)) : sd (N ++ M) p v b = sd N p v b := by
  unfold sd
  rw [var3_app hp]
  by_cases h : var3 N p = v
  · rw [if_pos h, if_pos h, node3_app hp (sd_node h hv)]
  · rw [if_neg h, if_neg h]
theorem var_gt {N : List (Nat × Nat × Nat)} (hN : Good N) {p v : Nat} {S : (Nat → Bool) → Bool} (hp : p < N.length + 2) (hS : ∀ ρ, val3 ρ N p = S ρ) (hi : ∀ ρ u b, u ≤ v → S (upd3 ρ u b) = S ρ) (hv : v < 4096) : v < var3 N p := by
  rcases Nat.lt_or_ge v (var3 N p) with h | h
  · exact h
  · exact (depends3 hN hp (sd_node (N := N) (p := p) rfl (by omega)) fun ρ b => by rw [hS, hS, hi ρ _ b h]).elim
def ite3 (N : List (Nat × Nat × Nat)) (p q r : Nat) (ρ : Nat → Bool) : Bool := if val3 ρ N p then val3 ρ N q else val3 ρ N r
theorem ite3_ind {N : List (Nat × Nat × Nat)} (hN : Good N) {p q r v : Nat} (hp : p < N.length + 2) (hq : q < N.length + 2) (hr : r < N.length + 2) (vp : v < var3 N p) (vq : v < var3 N q) (vr : v < var3 N r) (ρ : Nat → Bool) (u : Nat) (b : Bool) (hu : u ≤ v) : ite3 N p q r (upd3 ρ u b) = ite3 N p q r ρ := by
  unfold ite3
  rw [val3_upd hN ρ b hp (by omega), val3_upd hN ρ b hq (by omega), val3_upd hN ρ b hr (by omega)]
theorem ite3_side {N : List (Nat × Nat × Nat)} (hN : Good N) {p q r v : Nat} (hp : p < N.length + 2) (hq : q < N.length + 2) (hr : r < N.length + 2) (hv : v < 4096) (ρ : Nat → Bool) :
    (if ρ v then ite3 N (sd N p v true) (sd N q v true) (sd N r v true) ρ else ite3 N (sd N p v false) (sd N q v false) (sd N r v false) ρ) = ite3 N p q r ρ := by
  have h1 := sd_val hN ρ hp hv
  have h2 := sd_val hN ρ hq hv
  have h3 := sd_val hN ρ hr hv
  unfold ite3
  cases hb : ρ v <;> rw [hb] at h1 h2 h3 <;> simp [h1, h2, h3]
theorem ite3_app {N : List (Nat × Nat × Nat)} {p q r : Nat} (hp : p < N.length + 2) (hq : q < N.length + 2) (hr : r < N.length + 2) (M : List (Nat × Nat × Nat)) (ρ : Nat → Bool) : ite3 (N ++ M) p q r ρ = ite3 N p q r ρ := by
  unfold ite3
  rw [val3_app ρ N hp, val3_app ρ N hq, val3_app ρ N hr]
theorem bld_var {w : World} {b0 B mp md base : Nat} {v : Value} {N : List (Nat × Nat × Nat)} {D : Nat} (h : Bld rk w b0 B mp md base v N D) {p : Nat} (hp : p < N.length + 2) : (p < 2 ∧ var3 N p = 4096) ∨ (2 ≤ p ∧ VarOk rk (var3 N p)) := by
  rcases Nat.lt_or_ge p 2 with h2 | h2
  · exact .inl ⟨h2, by unfold var3; rw [if_pos h2]⟩
  · refine .inr ⟨h2, ?_⟩
    rw [(node3_ok h.good hp h2).2.2.2.2.2.1]
    exact h.vars _ (List.mem_of_getElem? (node3_some hp h2))
theorem bld_done {w w3 : World} {b0 B mp md base : Nat} {v : Value} {N : List (Nat × Nat × Nat)} {D : Nat} (h : Bld rk w b0 B mp md base v N D) {k : Nat} {m m' : Value → Option Int} {p q r x : Nat} (hk : k ≤ D)
    (hm : ∀ (x : Nat × Nat × Nat) (z : Int), m (nodeV x) = some z → x.1 < N.length + 2 ∧ x.2.1 < N.length + 2 ∧ x.2.2 < N.length + 2 ∧ ∃ p : Nat, z = (p : Int) ∧ p < N.length + 2 ∧ ∀ ρ, val3 ρ N p = if val3 ρ N x.1 then val3 ρ N x.2.1 else val3 ρ N x.2.2)
    (hm' : FunM Tryz.prog 140 3 w3 md (k + 1) m') (hat : m' (nodeV (p, q, r)) = some (x : Int)) (ho : ∀ j, j ≠ nodeV (p, q, r) → m' j = m j) (hp : p < N.length + 2) (hq : q < N.length + 2) (hr : r < N.length + 2) (hx : x < N.length + 2) (hv : ∀ ρ, val3 ρ N x = ite3 N p q r ρ) (hg : w.grownBy w3 (some md)) :
    Bld rk w3 b0 B mp md base v N (D + 1) ∧ Kb b0 B mp md v w v w3 := by
  obtain ⟨d1, d2, d3, d4, d5, d6, d7, d8, d9, d10⟩ := h.dist
  have hob : ∀ (c : Nat) (o : Obj), w.heap[c]? = some o → c ≠ md → w3.heap[c]? = some o := fun c o ho hne => (hg.block c (Array.getElem?_eq_some_iff.1 ho).1 (fun e => hne (by injection e))).trans ho
  obtain ⟨n1, m1, p1, p2, p3, p4⟩ := h.plc
  refine ⟨⟨hob _ _ h.obj d2, ?_, ⟨n1, m1, p1.heap (fun o ho => hob _ _ ho d3), p2, p3, p4⟩, ⟨k + 1, m', hm', by omega, fun y z hz => ?_⟩, h.good, h.vars, ⟨d1, d2, d3, d4, d5, d6, d7, d8, d9, Nat.le_trans d10 hg.size⟩⟩, ⟨(Below.refl _ w).grown hg (by omega) (fun k hk => by injection hk with hk; omega), fun c o ho _ _ h3 _ => hob c o ho h3, fun g hg => .inl hg⟩⟩
  · rcases h.own with ⟨hxl, ⟨e1, e2⟩ | ⟨g, cap, cur, e1, hg', hh, hn, hc, hcs, hcur⟩⟩
    · exact ⟨hxl, .inl ⟨e1, e2⟩⟩
    · exact ⟨hxl, .inr ⟨g, cap, cur, e1, hg', hob _ _ hh (by omega), hn, hc, hcs, hcur⟩⟩
  · by_cases e : nodeV y = nodeV (p, q, r)
    · have := nodeV_inj e
      subst this
      rw [hat] at hz
      exact ⟨hp, hq, hr, x, by injection hz with hz; exact hz.symm, hx, hv⟩
    · rw [ho _ e] at hz
      exact hm y z hz
set_option maxRecDepth 100000 in
theorem choose_quick {b0 B mp md base : Nat} {v : Value} {N : List (Nat × Nat × Nat)} {D : Nat} {w : World} (h : Bld rk w b0 B mp md base v N D) (p q r a c : Nat) (hp : p < N.length + 2) (hq : q < N.length + 2) (hr : r < N.length + 2) (hc : p = 1 ∨ q = r ∨ p = 0 ∨ (q = 1 ∧ r = 0)) :
    Calls Tryz.prog 69 #[.pointer (some ⟨B, 0, none⟩), .int .i64 (p : Int), .int .i64 (q : Int), .int .i64 (r : Int)] w (RetB rk b0 B mp md base v N D w a c (ite3 N p q r)) := by
  have HB := Lib.hid h
  clear h
  by_cases h1 : p = 1
  · have f1 : ((p : Int) == 1) = true := by simp; omega
    go_enter Tryz.func69, Tryz.ntmps69
    go_wp2_with fail
    refine bodyPost_ret (v := .int .i64 (q : Int)) (by simp [results, Tryz.results69, go_sem]) rfl (RetB.same HB.out (by (repeat' (first | (with_reducible first | apply Zl1 | apply Zl2 | apply Zl3 | apply Zl4 | apply Zl5 | apply Zl6 | apply Zl7 | apply Zl8 | apply Zl9 | apply Zla | apply Zlb | apply Zlc) | (dsimp only; with_reducible first | apply Zl8 | apply Zl2 | apply Zld) | with_reducible assumption | omega | (dsimp only; omega)))) hq fun ρ => ?_)
    unfold ite3; rw [h1, val3_1]; rfl
  · have f1 : ((p : Int) == 1) = false := by simp; omega
    by_cases h2 : q = r
    · subst h2
      have f2 : ((q : Int) == (q : Int)) = true := by simp
      go_enter Tryz.func69, Tryz.ntmps69
      go_wp2_with fail
      refine bodyPost_ret (v := .int .i64 (q : Int)) (by simp [results, Tryz.results69, go_sem]) rfl (RetB.same HB.out (by (repeat' (first | (with_reducible first | apply Zl1 | apply Zl2 | apply Zl3 | apply Zl4 | apply Zl5 | apply Zl6 | apply Zl7 | apply Zl8 | apply Zl9 | apply Zla | apply Zlb | apply Zlc) | (dsimp only; with_reducible first | apply Zl8 | apply Zl2 | apply Zld) | with_reducible assumption | omega | (dsimp only; omega)))) hq fun ρ => ?_)
      unfold ite3; split <;> rfl
    · have f2 : ((q : Int) == (r : Int)) = false := by simp; omega
      by_cases h3 : p = 0
      · have f3 : ((p : Int) == 0) = true := by simp; omega
        go_enter Tryz.func69, Tryz.ntmps69
        go_wp2_with fail
        refine bodyPost_ret (v := .int .i64 (r : Int)) (by simp [results, Tryz.results69, go_sem]) rfl (RetB.same HB.out (by (repeat' (first | (with_reducible first | apply Zl1 | apply Zl2 | apply Zl3 | apply Zl4 | apply Zl5 | apply Zl6 | apply Zl7 | apply Zl8 | apply Zl9 | apply Zla | apply Zlb | apply Zlc) | (dsimp only; with_reducible first | apply Zl8 | apply Zl2 | apply Zld) | with_reducible assumption | omega | (dsimp only; omega)))) hr fun ρ => ?_)
        unfold ite3; rw [h3, val3_0]; rfl
      · have f3 : ((p : Int) == 0) = false := by simp; omega
        have f4 : ((q : Int) == 1) = true := by simp; omega
        have f5 : ((r : Int) == 0) = true := by simp; omega
        go_enter Tryz.func69, Tryz.ntmps69
        go_wp2_with fail
        refine bodyPost_ret (v := .int .i64 (p : Int)) (by simp [results, Tryz.results69, go_sem]) rfl (RetB.same HB.out (by (repeat' (first | (with_reducible first | apply Zl1 | apply Zl2 | apply Zl3 | apply Zl4 | apply Zl5 | apply Zl6 | apply Zl7 | apply Zl8 | apply Zl9 | apply Zla | apply Zlb | apply Zlc) | (dsimp only; with_reducible first | apply Zl8 | apply Zl2 | apply Zld) | with_reducible assumption | omega | (dsimp only; omega)))) hp fun ρ => ?_)
        unfold ite3
        rw [show q = 1 by omega, show r = 0 by omega, val3_0, val3_1]
        cases val3 ρ N p <;> rfl
set_option maxRecDepth 100000 in
set_option maxHeartbeats 6400000 in
theorem choose_any (b0 B mp md base : Nat) : ∀ (k c : Nat), c + 1 = 2 ^ k → ∀ (v : Value) (N : List (Nat × Nat × Nat)) (D p q r : Nat) (w : World), Bld rk w b0 B mp md base v N D → p < N.length + 2 → q < N.length + 2 → r < N.length + 2 → rk (var3 N p) ≤ k → rk (var3 N q) ≤ k → rk (var3 N r) ≤ k →
    N.length + c ≤ 1000000 → D + c ≤ 100000000 →
    Calls Tryz.prog 69 #[.pointer (some ⟨B, 0, none⟩), .int .i64 (p : Int), .int .i64 (q : Int), .int .i64 (r : Int)] w (RetB rk b0 B mp md base v N D w c c (ite3 N p q r)) := by
  intro k
  induction k with
  | zero =>
    intro c hc v N D p q r w h hp hq hr kp kq kr hnl hdl
    refine choose_quick h p q r c c hp hq hr ?_
    rcases bld_var h hp with h1 | h1
    · omega
    · have := h1.2.2 _ (Nat.lt_succ_self _)
      omega
  | succ k ih =>
    intro c hc v N D p q r w h hp hq hr kp kq kr hnl hdl
    by_cases hqk : p = 1 ∨ q = r ∨ p = 0 ∨ (q = 1 ∧ r = 0)
    · exact choose_quick h p q r c c hp hq hr hqk
    · obtain ⟨cj, hcj⟩ : ∃ cj, cj + 1 = 2 ^ k := ⟨2 ^ k - 1, by have := Nat.two_pow_pos k; omega⟩
      have hc2 : c = 2 * cj + 1 := by rw [Nat.pow_succ] at hc; omega
      have f1 : ((p : Int) == 1) = false := by simp; omega
      have f2 : ((q : Int) == (r : Int)) = false := by simp; omega
      have f3 : ((p : Int) == 0) = false := by simp; omega
      obtain ⟨d1, d2, d3, d4, d5, d6, d7, d8, d9, d10⟩ := h.dist
      obtain ⟨n0, m, hm, hn0, hms⟩ := h.dn
      obtain ⟨kl, hkl⟩ := key_three (p : Int) (q : Int) (r : Int) (wf_nat (by omega)) (wf_nat (by omega)) (wf_nat (by omega))
      obtain ⟨b1, b2, b3, b4, b5⟩ := bld_cells h
      have HB := Lib.hid h
      have HM := Lib.hid hm
      have HMS := Lib.hid hms
      cases hmk : m (.agg #[.int .i64 (p : Int), .int .i64 (q : Int), .int .i64 (r : Int)]) with
      | some z =>
        obtain ⟨_, _, _, x, rfl, hx, hxv⟩ := hms (p, q, r) z hmk
        have hrun : ∀ x' : Bel (w.alloc (.cells #[.int .i64 (p : Int), .int .i64 (q : Int), .int .i64 (r : Int)] 140 (0, 0))), (Instr.lookup 142 (.map (some md)) (.agg #[.int .i64 (p : Int), .int .i64 (q : Int), .int .i64 (r : Int)]) true).run Tryz.prog x'.w = .ok (.tuple #[.int .i64 (x : Int), .bool true]) x'.w := fun x' => by
          have := funM_run_ok (t := 142) (w := x'.w) keyedK Tryz.underlying142 Tryz.underlying3 (by rfl) (HM.out.heap fun o ho => obj_in (show Below w.heap.size w x'.w by (repeat' (first | (with_reducible first | apply Zl1 | apply Zl2 | apply Zl3 | apply Zl4 | apply Zl5 | apply Zl6 | apply Zl7 | apply Zl8 | apply Zl9 | apply Zla | apply Zlb | apply Zlc) | (dsimp only; with_reducible first | apply Zl8 | apply Zl2 | apply Zld) | with_reducible assumption | omega | (dsimp only; omega)))) ho) hkl
          rw [hmk] at this
          exact this
        clear h hm hms hmk hkl ih kp kq kr b1 b2 b4 b5
        by_cases h4 : q = 1
        · have f4 : ((q : Int) == 1) = true := by simp; omega
          have f5 : ((r : Int) == 0) = false := by simp; omega
          clear h4 hqk
          go_enter Tryz.func69, Tryz.ntmps69
          go_wp2_with fail
          refine wp_region_bel (by kernel_rfl) (by kernel_rfl) ?_
          repeat (go_big_quiet_step (fail))
          refine wpQuiet_nil ?_
          rintro _ ⟨z1, rfl⟩
          go_wp2
          refine bodyPost_ret (v := .int .i64 (x : Int)) (by simp [results, Tryz.results69, go_sem]) rfl (RetB.same HB.out (by (repeat' (first | (with_reducible first | apply Zl1 | apply Zl2 | apply Zl3 | apply Zl4 | apply Zl5 | apply Zl6 | apply Zl7 | apply Zl8 | apply Zl9 | apply Zla | apply Zlb | apply Zlc) | (dsimp only; with_reducible first | apply Zl8 | apply Zl2 | apply Zld) | with_reducible assumption | omega | (dsimp only; omega)))) hx hxv)
        · have f4 : ((q : Int) == 1) = false := by simp; omega
          clear h4 hqk
          go_enter Tryz.func69, Tryz.ntmps69
          go_wp2_with fail
          refine wp_region_bel (by kernel_rfl) (by kernel_rfl) ?_
          repeat (go_big_quiet_step (fail))
          refine wpQuiet_nil ?_
          rintro _ ⟨z1, rfl⟩
          go_wp2
          refine bodyPost_ret (v := .int .i64 (x : Int)) (by simp [results, Tryz.results69, go_sem]) rfl (RetB.same HB.out (by (repeat' (first | (with_reducible first | apply Zl1 | apply Zl2 | apply Zl3 | apply Zl4 | apply Zl5 | apply Zl6 | apply Zl7 | apply Zl8 | apply Zl9 | apply Zla | apply Zlb | apply Zlc) | (dsimp only; with_reducible first | apply Zl8 | apply Zl2 | apply Zld) | with_reducible assumption | omega | (dsimp only; omega)))) hx hxv)
      | none =>
        have hrun : ∀ x' : Bel (w.alloc (.cells #[.int .i64 (p : Int), .int .i64 (q : Int), .int .i64 (r : Int)] 140 (0, 0))), (Instr.lookup 142 (.map (some md)) (.agg #[.int .i64 (p : Int), .int .i64 (q : Int), .int .i64 (r : Int)]) true).run Tryz.prog x'.w = .ok (.tuple #[.int .i64 0, .bool false]) x'.w := fun x' => by
          have := funM_run_ok (t := 142) (w := x'.w) keyedK Tryz.underlying142 Tryz.underlying3 (by rfl) (HM.out.heap fun o ho => obj_in (show Below w.heap.size w x'.w by (repeat' (first | (with_reducible first | apply Zl1 | apply Zl2 | apply Zl3 | apply Zl4 | apply Zl5 | apply Zl6 | apply Zl7 | apply Zl8 | apply Zl9 | apply Zla | apply Zlb | apply Zlc) | (dsimp only; with_reducible first | apply Zl8 | apply Zl2 | apply Zld) | with_reducible assumption | omega | (dsimp only; omega)))) ho) hkl
          rw [hmk] at this
          exact this
        have hgd := h.good
        obtain ⟨vp, hvp⟩ : ∃ vp, var3 N p = vp := ⟨_, rfl⟩
        obtain ⟨vq, hvq⟩ : ∃ vq, var3 N q = vq := ⟨_, rfl⟩
        obtain ⟨vr, hvr⟩ : ∃ vr, var3 N r = vr := ⟨_, rfl⟩
        obtain ⟨m0, hm0⟩ : ∃ m0, min (min vp vq) vr = m0 := ⟨_, rfl⟩
        have hp6 : vp < 4096 := by
          rcases bld_var h hp with h1 | h1
          · omega
          · rw [← hvp]; exact h1.2.1
        have hm6 : m0 < 4096 := by omega
        have hmc : m0 = vp ∨ m0 = vq ∨ m0 = vr := by omega
        have hrk : rk m0 ≤ k + 1 := by rcases hmc with e | e | e <;> rw [e] <;> first | (rw [← hvp]; exact kp) | (rw [← hvq]; exact kq) | (rw [← hvr]; exact kr)
        have hmv : VarOk rk m0 := by
          rcases hmc with e | e | e
          · rcases bld_var h hp with h1 | h1
            · omega
            · rw [e, ← hvp]; exact h1.2
          · rcases bld_var h hq with h1 | h1
            · omega
            · rw [e, ← hvq]; exact h1.2
          · rcases bld_var h hr with h1 | h1
            · omega
            · rw [e, ← hvr]; exact h1.2
        have hlp : m0 ≤ var3 N p ∧ m0 ≤ var3 N q ∧ m0 ≤ var3 N r ∧ ∀ y, m0 < y → rk y ≤ k := ⟨by omega, by omega, by omega, fun y hy => by have := hmv.2 y hy; omega⟩
        have HVP := Lib.hid (fun w' (h' : Bld rk w' b0 B mp md base v N D) => variable_any h' p hp (by omega))
        have HVQ := Lib.hid (fun w' (h' : Bld rk w' b0 B mp md base v N D) => variable_any h' q hq (by omega))
        have HVR := Lib.hid (fun w' (h' : Bld rk w' b0 B mp md base v N D) => variable_any h' r hr (by omega))
        rw [hvp] at HVP
        rw [hvq] at HVQ
        rw [hvr] at HVR
        have HV := Lib.hid (And.intro hvp (And.intro hvq (And.intro hvr hlp)))
        have HG := Lib.hid hgd
        have HIH := Lib.hid (ih cj hcj)
        have HQ := Lib.hid hqk
        have hmin : (if (vr : Int) < (if vq < vp then (vq : Int) else (vp : Int)) then (vr : Int) else (if vq < vp then (vq : Int) else (vp : Int))) = (m0 : Int) := by
          split <;> split <;> omega
        have HMIN := Lib.hid hm0
        clear hm0
        have HSD := Lib.hid (fun (b : Bool) w' v' M D' (h' : Bld rk w' b0 B mp md base v' (N ++ M) D') (hl' : (N ++ M).length ≤ 1000000) => (show Calls Tryz.prog 93 #[.pointer (some ⟨B, 0, none⟩), .int .i64 (p : Int), .int .i64 (m0 : Int), .bool b] w' (Ret (.int .i64 (sd N p m0 b : Nat)) w') ∧ Calls Tryz.prog 93 #[.pointer (some ⟨B, 0, none⟩), .int .i64 (q : Int), .int .i64 (m0 : Int), .bool b] w' (Ret (.int .i64 (sd N q m0 b : Nat)) w') ∧ Calls Tryz.prog 93 #[.pointer (some ⟨B, 0, none⟩), .int .i64 (r : Int), .int .i64 (m0 : Int), .bool b] w' (Ret (.int .i64 (sd N r m0 b : Nat)) w') from by
          rw [← sd_app b hp (show m0 < 4096 by omega) M, ← sd_app b hq (show m0 < 4096 by omega) M, ← sd_app b hr (show m0 < 4096 by omega) M]
          have e : (N ++ M).length = N.length + M.length := List.length_append
          exact ⟨side_any h' p m0 b (by omega) hl' hm6, side_any h' q m0 b (by omega) hl' hm6, side_any h' r m0 b (by omega) hl' hm6⟩))
        clear h hm hms hmk hmc hrk ih kp kq kr b1 b2 b5 hvp hvq hvr hlp hgd hqk hc hcj
        by_cases h4 : q = 1
        · have f4 : ((q : Int) == 1) = true := by simp; omega
          have f5 : ((r : Int) == 0) = false := by simp; have := HQ.out; omega
          clear h4
          go_enter Tryz.func69, Tryz.ntmps69
          go_wp2_with fail
          refine wp_region_bel (by kernel_rfl) (by kernel_rfl) ?_
          repeat (go_big_quiet_step (fail))
          refine wpQuiet_nil ?_
          rintro _ ⟨z1, rfl⟩
          go_wp2_with fail
          refine (HVP.out _ (HB.out.bel (by (repeat' (first | (with_reducible first | apply Zl1 | apply Zl2 | apply Zl3 | apply Zl4 | apply Zl5 | apply Zl6 | apply Zl7 | apply Zl8 | apply Zl9 | apply Zla | apply Zlb | apply Zlc) | (dsimp only; with_reducible first | apply Zl8 | apply Zl2 | apply Zld) | with_reducible assumption | omega | (dsimp only; omega)))))).mono ?_
          rintro _ _ ⟨rfl, y1, rfl⟩
          dsimp only
          go_wp2_with fail
          refine (HVQ.out _ (HB.out.bel (by (repeat' (first | (with_reducible first | apply Zl1 | apply Zl2 | apply Zl3 | apply Zl4 | apply Zl5 | apply Zl6 | apply Zl7 | apply Zl8 | apply Zl9 | apply Zla | apply Zlb | apply Zlc) | (dsimp only; with_reducible first | apply Zl8 | apply Zl2 | apply Zld) | with_reducible assumption | omega | (dsimp only; omega)))))).mono ?_
          rintro _ _ ⟨rfl, y2, rfl⟩
          dsimp only
          go_wp2_with fail
          refine (HVR.out _ (HB.out.bel (by (repeat' (first | (with_reducible first | apply Zl1 | apply Zl2 | apply Zl3 | apply Zl4 | apply Zl5 | apply Zl6 | apply Zl7 | apply Zl8 | apply Zl9 | apply Zla | apply Zlb | apply Zlc) | (dsimp only; with_reducible first | apply Zl8 | apply Zl2 | apply Zld) | with_reducible assumption | omega | (dsimp only; omega)))))).mono ?_
          rintro _ _ ⟨rfl, y3, rfl⟩
          dsimp only
          go_wp2_with fail
          have HB6 := Lib.hid (show ∀ w', Below w.heap.size w w' → Bld rk w' b0 B mp md base v (N ++ []) D from fun w' h' => by rw [List.append_nil]; exact HB.out.bel h')
          refine (HSD.out false _ _ _ _ (HB6.out _ (by (repeat' (first | (with_reducible first | apply Zl1 | apply Zl2 | apply Zl3 | apply Zl4 | apply Zl5 | apply Zl6 | apply Zl7 | apply Zl8 | apply Zl9 | apply Zla | apply Zlb | apply Zlc) | (dsimp only; with_reducible first | apply Zl8 | apply Zl2 | apply Zld) | with_reducible assumption | omega | (dsimp only; omega))))) (by rw [List.append_nil]; omega)).1.mono ?_
          rintro _ _ ⟨rfl, y4, rfl⟩
          dsimp only
          go_wp2_with fail
          refine (HSD.out false _ _ _ _ (HB6.out _ (by (repeat' (first | (with_reducible first | apply Zl1 | apply Zl2 | apply Zl3 | apply Zl4 | apply Zl5 | apply Zl6 | apply Zl7 | apply Zl8 | apply Zl9 | apply Zla | apply Zlb | apply Zlc) | (dsimp only; with_reducible first | apply Zl8 | apply Zl2 | apply Zld) | with_reducible assumption | omega | (dsimp only; omega))))) (by rw [List.append_nil]; omega)).2.1.mono ?_
          rintro _ _ ⟨rfl, y5, rfl⟩
          dsimp only
          go_wp2_with fail
          refine (HSD.out false _ _ _ _ (HB6.out _ (by (repeat' (first | (with_reducible first | apply Zl1 | apply Zl2 | apply Zl3 | apply Zl4 | apply Zl5 | apply Zl6 | apply Zl7 | apply Zl8 | apply Zl9 | apply Zla | apply Zlb | apply Zlc) | (dsimp only; with_reducible first | apply Zl8 | apply Zl2 | apply Zld) | with_reducible assumption | omega | (dsimp only; omega))))) (by rw [List.append_nil]; omega)).2.2.mono ?_
          rintro _ _ ⟨rfl, y6, rfl⟩
          have hb6 : Below w.heap.size w y6.w := by (repeat' (first | (with_reducible first | apply Zl1 | apply Zl2 | apply Zl3 | apply Zl4 | apply Zl5 | apply Zl6 | apply Zl7 | apply Zl8 | apply Zl9 | apply Zla | apply Zlb | apply Zlc) | (dsimp only; with_reducible first | apply Zl8 | apply Zl2 | apply Zld) | with_reducible assumption | omega | (dsimp only; omega)))
          have hx6 := obj_in (w := z1.w) (w' := y6.w) (by (repeat' (first | (with_reducible first | apply Zl1 | apply Zl2 | apply Zl3 | apply Zl4 | apply Zl5 | apply Zl6 | apply Zl7 | apply Zl8 | apply Zl9 | apply Zla | apply Zlb | apply Zlc) | (dsimp only; with_reducible first | apply Zl8 | apply Zl2 | apply Zld) | with_reducible assumption | omega | (dsimp only; omega)))) (obj_in z1.below (World.alloc_heap_new w (.cells #[.int .i64 (p : Int), .int .i64 (q : Int), .int .i64 (r : Int)] 140 (0, 0))))
          have HX6 := Lib.hid hx6
          have HL6 := Lib.hid hb6
          clear hx6 hb6
          dsimp only
          go_wp2_with fail
          refine (HIH.out v N D _ _ _ _ (HB.out.bel HL6.out) (sd_lt HG.out false hp (by omega)) (sd_lt HG.out false hq (by omega)) (sd_lt HG.out false hr (by omega)) ?_ ?_ ?_ (by omega) (by omega)).mono ?_
          · exact HV.out.2.2.2.2.2.2 _ (sd_var HG.out false hp (show m0 < 4096 by omega) HV.out.2.2.2.1)
          · exact HV.out.2.2.2.2.2.2 _ (sd_var HG.out false hq (show m0 < 4096 by omega) HV.out.2.2.2.2.1)
          · exact HV.out.2.2.2.2.2.2 _ (sd_var HG.out false hr (show m0 < 4096 by omega) HV.out.2.2.2.2.2.1)
          rintro _ W1 ⟨np, v1, M1, rfl, hB1, hK1, hM1, hnp, hnv⟩
          have hs6 := HL6.out.size
          have HB1 := Lib.hid hB1
          have HK1 := Lib.hid (Kb.ahead HL6.out hK1 (by omega))
          have hown6 : (v.ownBlock ≠ some w.heap.size) := fun e => by have := ownD_lt HB.out.own e; omega
          have HX1 := Lib.hid (hK1.keep _ _ HX6.out (by omega) (by omega) (by omega) hown6)
          have hown1 : (v1.ownBlock ≠ some w.heap.size) := fun e => by
            rcases hK1.own _ e with h | h
            · exact hown6 h
            · have := (Array.getElem?_eq_some_iff.1 HX6.out).1; omega
          have HO1 := Lib.hid hown1
          have HN1 := Lib.hid (And.intro hnp hnv)
          obtain ⟨x0, hx0⟩ : ∃ x0, w.heap.size = x0 := ⟨_, rfl⟩
          rw [hx0] at HX1 HO1 ⊢
          have HX0 := Lib.hid hx0
          have hM1l : (N ++ M1).length = N.length + M1.length := List.length_append
          have HML1 := Lib.hid hM1l
          clear hB1 hK1 hown6 hown1 hnp hnv HX6 HL6 HB6 y6 y5 y4 y3 y2 y1 z1 b3 b4 hrun hs6 hx0 hM1l
          dsimp only
          go_wp2_with fail
          refine (HSD.out true _ _ _ _ HB1.out (by rw [HML1.out]; omega)).1.mono ?_
          rintro _ _ ⟨rfl, y7, rfl⟩
          dsimp only
          go_wp2_with fail
          refine (HSD.out true _ _ _ _ (HB1.out.bel (by (repeat' (first | (with_reducible first | apply Zl1 | apply Zl2 | apply Zl3 | apply Zl4 | apply Zl5 | apply Zl6 | apply Zl7 | apply Zl8 | apply Zl9 | apply Zla | apply Zlb | apply Zlc) | (dsimp only; with_reducible first | apply Zl8 | apply Zl2 | apply Zld) | with_reducible assumption | omega | (dsimp only; omega))))) (by rw [HML1.out]; omega)).2.1.mono ?_
          rintro _ _ ⟨rfl, y8, rfl⟩
          dsimp only
          go_wp2_with fail
          refine (HSD.out true _ _ _ _ (HB1.out.bel (by (repeat' (first | (with_reducible first | apply Zl1 | apply Zl2 | apply Zl3 | apply Zl4 | apply Zl5 | apply Zl6 | apply Zl7 | apply Zl8 | apply Zl9 | apply Zla | apply Zlb | apply Zlc) | (dsimp only; with_reducible first | apply Zl8 | apply Zl2 | apply Zld) | with_reducible assumption | omega | (dsimp only; omega))))) (by rw [HML1.out]; omega)).2.2.mono ?_
          rintro _ _ ⟨rfl, y9, rfl⟩
          have hb9 : Below W1.heap.size W1 y9.w := by (repeat' (first | (with_reducible first | apply Zl1 | apply Zl2 | apply Zl3 | apply Zl4 | apply Zl5 | apply Zl6 | apply Zl7 | apply Zl8 | apply Zl9 | apply Zla | apply Zlb | apply Zlc) | (dsimp only; with_reducible first | apply Zl8 | apply Zl2 | apply Zld) | with_reducible assumption | omega | (dsimp only; omega)))
          have HL9 := Lib.hid hb9
          have HX9 := Lib.hid (obj_in hb9 HX1.out)
          clear hb9
          dsimp only
          go_wp2_with fail
          refine (HIH.out v1 (N ++ M1) (D + cj) _ _ _ _ (HB1.out.bel HL9.out) (Nat.lt_of_lt_of_le (sd_lt HG.out true hp (by omega)) (by rw [HML1.out]; omega)) (Nat.lt_of_lt_of_le (sd_lt HG.out true hq (by omega)) (by rw [HML1.out]; omega)) (Nat.lt_of_lt_of_le (sd_lt HG.out true hr (by omega)) (by rw [HML1.out]; omega)) ?_ ?_ ?_ (by rw [HML1.out]; omega) (by omega)).mono ?_
          · rw [var3_app (sd_lt HG.out true hp (by omega))]; exact HV.out.2.2.2.2.2.2 _ (sd_var HG.out true hp (show m0 < 4096 by omega) HV.out.2.2.2.1)
          · rw [var3_app (sd_lt HG.out true hq (by omega))]; exact HV.out.2.2.2.2.2.2 _ (sd_var HG.out true hq (show m0 < 4096 by omega) HV.out.2.2.2.2.1)
          · rw [var3_app (sd_lt HG.out true hr (by omega))]; exact HV.out.2.2.2.2.2.2 _ (sd_var HG.out true hr (show m0 < 4096 by omega) HV.out.2.2.2.2.2.1)
          rintro _ W2 ⟨yp, v2, M2, rfl, hB2, hK2, hM2, hyp, hyv⟩
          have hM2l : (N ++ M1 ++ M2).length = N.length + M1.length + M2.length := by rw [List.length_append, HML1.out]
          have hs1 := HB1.out.dist
          have hx0l : x0 < W1.heap.size := (Array.getElem?_eq_some_iff.1 HX1.out).1
          have HK2 := Lib.hid (HK1.out.trans (Kb.ahead HL9.out hK2 (by omega)))
          have hXl9 := (Array.getElem?_eq_some_iff.1 HX9.out).1
          have hx0w := HX0.out
          have HX2 := Lib.hid (hK2.keep _ _ HX9.out (by omega) (by omega) (by omega) HO1.out)
          have hown2 : (v2.ownBlock ≠ some x0) := fun e => by
            rcases hK2.own _ e with h | h
            · exact HO1.out h
            · omega
          have HO2 := Lib.hid hown2
          have HB2 := Lib.hid hB2
          have HN2 := Lib.hid (And.intro hyp hyv)
          have HML2 := Lib.hid hM2l
          have hm12 : M1.length ≤ cj ∧ M2.length ≤ cj := ⟨hM1, hM2⟩
          clear hB2 hK2 hown2 hyp hyv HX9 HX1 HO1 HL9 y9 y8 y7 hs1 hx0l hXl9 hM2l hM1 hM2
          dsimp only
          go_wp2_with fail
          refine (node_any HB2.out m0 np yp hmv (by have := HN1.out.1; rw [HML2.out]; rw [HML1.out] at this; omega) HN2.out.1 (fun _ => ?_) (by rw [HML2.out]; omega)).mono ?_
          · have hg2 := HB2.out.good
            have hpl := HN1.out.1
            refine ⟨?_, ?_⟩
            · refine var_gt hg2 (S := ite3 N (sd N p m0 false) (sd N q m0 false) (sd N r m0 false)) (by rw [HML2.out]; rw [HML1.out] at hpl; omega) (fun ρ => by rw [val3_app ρ _ hpl]; exact HN1.out.2 ρ) (fun ρ u b hu => ite3_ind HG.out (sd_lt HG.out false hp (by omega)) (sd_lt HG.out false hq (by omega)) (sd_lt HG.out false hr (by omega)) (sd_var HG.out false hp (by omega) HV.out.2.2.2.1) (sd_var HG.out false hq (by omega) HV.out.2.2.2.2.1) (sd_var HG.out false hr (by omega) HV.out.2.2.2.2.2.1) ρ u b hu) (by omega)
            · refine var_gt hg2 (S := ite3 N (sd N p m0 true) (sd N q m0 true) (sd N r m0 true)) HN2.out.1 (fun ρ => by rw [HN2.out.2 ρ, ite3_app (sd_lt HG.out true hp (by omega)) (sd_lt HG.out true hq (by omega)) (sd_lt HG.out true hr (by omega))]) (fun ρ u b hu => ite3_ind HG.out (sd_lt HG.out true hp (by omega)) (sd_lt HG.out true hq (by omega)) (sd_lt HG.out true hr (by omega)) (sd_var HG.out true hp (by omega) HV.out.2.2.2.1) (sd_var HG.out true hq (by omega) HV.out.2.2.2.2.1) (sd_var HG.out true hr (by omega) HV.out.2.2.2.2.2.1) ρ u b hu) (by omega)
          rintro _ W3 ⟨xp, v3, M3, rfl, hB3, hK3, hM3, hxp, hxv⟩
          have HX3 := Lib.hid (hK3.keep _ _ HX2.out (by omega) (by omega) (by omega) HO2.out)
          have HK3 := Lib.hid (HK2.out.trans hK3)
          have hval : ∀ ρ, val3 ρ (N ++ M1 ++ M2 ++ M3) xp = ite3 (N ++ M1 ++ M2 ++ M3) p q r ρ := fun ρ => by
            have hn1 := HN1.out.1
            rw [hxv]
            dsimp only
            rw [val3_app ρ _ hn1, HN1.out.2 ρ, HN2.out.2 ρ, ite3_app (sd_lt HG.out true hp (by omega)) (sd_lt HG.out true hq (by omega)) (sd_lt HG.out true hr (by omega)), ite3_side HG.out hp hq hr (by omega) ρ, List.append_assoc, List.append_assoc, ite3_app hp hq hr]
          have HVL := Lib.hid (And.intro hxp hval)
          have hM3l : (N ++ M1 ++ M2 ++ M3).length = N.length + M1.length + M2.length + M3.length := by rw [List.length_append, HML2.out]
          have HML3 := Lib.hid hM3l
          obtain ⟨n3, m3, hm3, hn3, hms3⟩ := hB3.dn
          obtain ⟨b1, b2, b3, b4, b5⟩ := bld_cells hB3
          have HB3 := Lib.hid hB3
          have HM3 := Lib.hid hm3
          have HMS3 := Lib.hid hms3
          obtain ⟨e1, e2, e3⟩ : W3.cell? ⟨x0, 0, none⟩ = some (.int .i64 (p : Int)) ∧ W3.cell? ⟨x0, 1, none⟩ = some (.int .i64 (q : Int)) ∧ W3.cell? ⟨x0, 2, none⟩ = some (.int .i64 (r : Int)) := by
            have hx3 := HX3.out
            refine ⟨?_, ?_, ?_⟩ <;> simp [World.cell?, hx3]
          clear hB3 hK3 hxp hxv hval hM3l hm3 hms3 HN1 HN2 HX2 HK1 HK2 HO2 HIH HSD HVP HVQ HVR HML1 HML2 HB1 HB2 b1 b2 b4 b5
          dsimp only
          go_wp2_with fail
          refine wp_region_plan 6 (.calm 0 (.calm 1 (.calm 2 (.calm 3 (.calm 4 (.calm 5 .tail)))))) (by kernel_rfl) (by kernel_rfl) ?_
          simp only [Plan.walk, operAt, List.getElem?_cons_succ, List.getElem?_cons_zero, Option.getD_some, List.drop_succ_cons, List.drop_zero]
          repeat (refine wpX_calm (fun K hK => ?_); go_simp; first | (refine hK _ _ ?_; clear hK K) | (apply Exists.intro; refine ⟨fun _ => ?_, hK _ _ ?_⟩; (fail); clear hK K))
          refine wpX_tail ?_
          intro z9
          have HM9 := Lib.hid (HM3.out.heap fun o ho => obj_in z9.below ho)
          go_wp2_with (at_mapUpdate; (refine wpList_update_funM _ rfl _ _ _ _ rfl 140 3 keyedK Tryz.underlying142 Tryz.underlying3 md n3 m3 rfl HM9.out (by unfold maxLen; omega) (.agg #[.int .i64 (p : Int), .int .i64 (q : Int), .int .i64 (r : Int)]) kl rfl hkl (xp : Int) rfl (wf_nat (by have := HVL.out.1; rw [HML3.out] at this; omega)) ?_; intro w5 m5 hm5 hz5 ho5 hg5; have HM5 := Lib.hid hm5; have HH5 := Lib.hid (And.intro hz5 ho5); have HG5 := Lib.hid hg5; have hs5 := hg5.size; clear hm5 hz5 ho5 hg5))
          go_wp2
          obtain ⟨hBld, hKb⟩ := bld_done HB3.out hn3 HMS3.out HM5.out HH5.out.1 HH5.out.2 (by rw [HML3.out]; omega) (by rw [HML3.out]; omega) (by rw [HML3.out]; omega) HVL.out.1 HVL.out.2 (((bel_grown z9).but _).trans HG5.out)
          refine bodyPost_ret (v := .int .i64 (xp : Int)) (by simp [results, Tryz.results69, go_sem]) rfl ⟨xp, v3, M1 ++ (M2 ++ M3), rfl, ?_, HK3.out.trans hKb, ?_, ?_, fun ρ => ?_⟩
          · rw [← List.append_assoc, ← List.append_assoc]
            exact hBld.mono (by omega)
          · rw [List.length_append, List.length_append]; omega
          · rw [← List.append_assoc, ← List.append_assoc]; exact HVL.out.1
          · rw [← List.append_assoc, ← List.append_assoc, HVL.out.2 ρ, List.append_assoc, List.append_assoc, ite3_app hp hq hr]
        · have f4 : ((q : Int) == 1) = false := by simp; omega
          clear h4
          go_enter Tryz.func69, Tryz.ntmps69
          go_wp2_with fail
          refine wp_region_bel (by kernel_rfl) (by kernel_rfl) ?_
          repeat (go_big_quiet_step (fail))
          refine wpQuiet_nil ?_
          rintro _ ⟨z1, rfl⟩
          go_wp2_with fail
          refine (HVP.out _ (HB.out.bel (by (repeat' (first | (with_reducible first | apply Zl1 | apply Zl2 | apply Zl3 | apply Zl4 | apply Zl5 | apply Zl6 | apply Zl7 | apply Zl8 | apply Zl9 | apply Zla | apply Zlb | apply Zlc) | (dsimp only; with_reducible first | apply Zl8 | apply Zl2 | apply Zld) | with_reducible assumption | omega | (dsimp only; omega)))))).mono ?_
          rintro _ _ ⟨rfl, y1, rfl⟩
          dsimp only
          go_wp2_with fail
          refine (HVQ.out _ (HB.out.bel (by (repeat' (first | (with_reducible first | apply Zl1 | apply Zl2 | apply Zl3 | apply Zl4 | apply Zl5 | apply Zl6 | apply Zl7 | apply Zl8 | apply Zl9 | apply Zla | apply Zlb | apply Zlc) | (dsimp only; with_reducible first | apply Zl8 | apply Zl2 | apply Zld) | with_reducible assumption | omega | (dsimp only; omega)))))).mono ?_
          rintro _ _ ⟨rfl, y2, rfl⟩
          dsimp only
          go_wp2_with fail
          refine (HVR.out _ (HB.out.bel (by (repeat' (first | (with_reducible first | apply Zl1 | apply Zl2 | apply Zl3 | apply Zl4 | apply Zl5 | apply Zl6 | apply Zl7 | apply Zl8 | apply Zl9 | apply Zla | apply Zlb | apply Zlc) | (dsimp only; with_reducible first | apply Zl8 | apply Zl2 | apply Zld) | with_reducible assumption | omega | (dsimp only; omega)))))).mono ?_
          rintro _ _ ⟨rfl, y3, rfl⟩
          dsimp only
          go_wp2_with fail
          have HB6 := Lib.hid (show ∀ w', Below w.heap.size w w' → Bld rk w' b0 B mp md base v (N ++ []) D from fun w' h' => by rw [List.append_nil]; exact HB.out.bel h')
          refine (HSD.out false _ _ _ _ (HB6.out _ (by (repeat' (first | (with_reducible first | apply Zl1 | apply Zl2 | apply Zl3 | apply Zl4 | apply Zl5 | apply Zl6 | apply Zl7 | apply Zl8 | apply Zl9 | apply Zla | apply Zlb | apply Zlc) | (dsimp only; with_reducible first | apply Zl8 | apply Zl2 | apply Zld) | with_reducible assumption | omega | (dsimp only; omega))))) (by rw [List.append_nil]; omega)).1.mono ?_
          rintro _ _ ⟨rfl, y4, rfl⟩
          dsimp only
          go_wp2_with fail
          refine (HSD.out false _ _ _ _ (HB6.out _ (by (repeat' (first | (with_reducible first | apply Zl1 | apply Zl2 | apply Zl3 | apply Zl4 | apply Zl5 | apply Zl6 | apply Zl7 | apply Zl8 | apply Zl9 | apply Zla | apply Zlb | apply Zlc) | (dsimp only; with_reducible first | apply Zl8 | apply Zl2 | apply Zld) | with_reducible assumption | omega | (dsimp only; omega))))) (by rw [List.append_nil]; omega)).2.1.mono ?_
          rintro _ _ ⟨rfl, y5, rfl⟩
          dsimp only
          go_wp2_with fail
          refine (HSD.out false _ _ _ _ (HB6.out _ (by (repeat' (first | (with_reducible first | apply Zl1 | apply Zl2 | apply Zl3 | apply Zl4 | apply Zl5 | apply Zl6 | apply Zl7 | apply Zl8 | apply Zl9 | apply Zla | apply Zlb | apply Zlc) | (dsimp only; with_reducible first | apply Zl8 | apply Zl2 | apply Zld) | with_reducible assumption | omega | (dsimp only; omega))))) (by rw [List.append_nil]; omega)).2.2.mono ?_
          rintro _ _ ⟨rfl, y6, rfl⟩
          have hb6 : Below w.heap.size w y6.w := by (repeat' (first | (with_reducible first | apply Zl1 | apply Zl2 | apply Zl3 | apply Zl4 | apply Zl5 | apply Zl6 | apply Zl7 | apply Zl8 | apply Zl9 | apply Zla | apply Zlb | apply Zlc) | (dsimp only; with_reducible first | apply Zl8 | apply Zl2 | apply Zld) | with_reducible assumption | omega | (dsimp only; omega)))
          have hx6 := obj_in (w := z1.w) (w' := y6.w) (by (repeat' (first | (with_reducible first | apply Zl1 | apply Zl2 | apply Zl3 | apply Zl4 | apply Zl5 | apply Zl6 | apply Zl7 | apply Zl8 | apply Zl9 | apply Zla | apply Zlb | apply Zlc) | (dsimp only; with_reducible first | apply Zl8 | apply Zl2 | apply Zld) | with_reducible assumption | omega | (dsimp only; omega)))) (obj_in z1.below (World.alloc_heap_new w (.cells #[.int .i64 (p : Int), .int .i64 (q : Int), .int .i64 (r : Int)] 140 (0, 0))))
          have HX6 := Lib.hid hx6
          have HL6 := Lib.hid hb6
          clear hx6 hb6
          dsimp only
          go_wp2_with fail
          refine (HIH.out v N D _ _ _ _ (HB.out.bel HL6.out) (sd_lt HG.out false hp (by omega)) (sd_lt HG.out false hq (by omega)) (sd_lt HG.out false hr (by omega)) ?_ ?_ ?_ (by omega) (by omega)).mono ?_
          · exact HV.out.2.2.2.2.2.2 _ (sd_var HG.out false hp (show m0 < 4096 by omega) HV.out.2.2.2.1)
          · exact HV.out.2.2.2.2.2.2 _ (sd_var HG.out false hq (show m0 < 4096 by omega) HV.out.2.2.2.2.1)
          · exact HV.out.2.2.2.2.2.2 _ (sd_var HG.out false hr (show m0 < 4096 by omega) HV.out.2.2.2.2.2.1)
          rintro _ W1 ⟨np, v1, M1, rfl, hB1, hK1, hM1, hnp, hnv⟩
          have hs6 := HL6.out.size
          have HB1 := Lib.hid hB1
          have HK1 := Lib.hid (Kb.ahead HL6.out hK1 (by omega))
          have hown6 : (v.ownBlock ≠ some w.heap.size) := fun e => by have := ownD_lt HB.out.own e; omega
          have HX1 := Lib.hid (hK1.keep _ _ HX6.out (by omega) (by omega) (by omega) hown6)
          have hown1 : (v1.ownBlock ≠ some w.heap.size) := fun e => by
            rcases hK1.own _ e with h | h
            · exact hown6 h
            · have := (Array.getElem?_eq_some_iff.1 HX6.out).1; omega
          have HO1 := Lib.hid hown1
          have HN1 := Lib.hid (And.intro hnp hnv)
          obtain ⟨x0, hx0⟩ : ∃ x0, w.heap.size = x0 := ⟨_, rfl⟩
          rw [hx0] at HX1 HO1 ⊢
          have HX0 := Lib.hid hx0
          have hM1l : (N ++ M1).length = N.length + M1.length := List.length_append
          have HML1 := Lib.hid hM1l
          clear hB1 hK1 hown6 hown1 hnp hnv HX6 HL6 HB6 y6 y5 y4 y3 y2 y1 z1 b3 b4 hrun hs6 hx0 hM1l
          dsimp only
          go_wp2_with fail
          refine (HSD.out true _ _ _ _ HB1.out (by rw [HML1.out]; omega)).1.mono ?_
          rintro _ _ ⟨rfl, y7, rfl⟩
          dsimp only
          go_wp2_with fail
          refine (HSD.out true _ _ _ _ (HB1.out.bel (by (repeat' (first | (with_reducible first | apply Zl1 | apply Zl2 | apply Zl3 | apply Zl4 | apply Zl5 | apply Zl6 | apply Zl7 | apply Zl8 | apply Zl9 | apply Zla | apply Zlb | apply Zlc) | (dsimp only; with_reducible first | apply Zl8 | apply Zl2 | apply Zld) | with_reducible assumption | omega | (dsimp only; omega))))) (by rw [HML1.out]; omega)).2.1.mono ?_
          rintro _ _ ⟨rfl, y8, rfl⟩
          dsimp only
          go_wp2_with fail
          refine (HSD.out true _ _ _ _ (HB1.out.bel (by (repeat' (first | (with_reducible first | apply Zl1 | apply Zl2 | apply Zl3 | apply Zl4 | apply Zl5 | apply Zl6 | apply Zl7 | apply Zl8 | apply Zl9 | apply Zla | apply Zlb | apply Zlc) | (dsimp only; with_reducible first | apply Zl8 | apply Zl2 | apply Zld) | with_reducible assumption | omega | (dsimp only; omega))))) (by rw [HML1.out]; omega)).2.2.mono ?_
          rintro _ _ ⟨rfl, y9, rfl⟩
          have hb9 : Below W1.heap.size W1 y9.w := by (repeat' (first | (with_reducible first | apply Zl1 | apply Zl2 | apply Zl3 | apply Zl4 | apply Zl5 | apply Zl6 | apply Zl7 | apply Zl8 | apply Zl9 | apply Zla | apply Zlb | apply Zlc) | (dsimp only; with_reducible first | apply Zl8 | apply Zl2 | apply Zld) | with_reducible assumption | omega | (dsimp only; omega)))
          have HL9 := Lib.hid hb9
          have HX9 := Lib.hid (obj_in hb9 HX1.out)
          clear hb9
          dsimp only
          go_wp2_with fail
          refine (HIH.out v1 (N ++ M1) (D + cj) _ _ _ _ (HB1.out.bel HL9.out) (Nat.lt_of_lt_of_le (sd_lt HG.out true hp (by omega)) (by rw [HML1.out]; omega)) (Nat.lt_of_lt_of_le (sd_lt HG.out true hq (by omega)) (by rw [HML1.out]; omega)) (Nat.lt_of_lt_of_le (sd_lt HG.out true hr (by omega)) (by rw [HML1.out]; omega)) ?_ ?_ ?_ (by rw [HML1.out]; omega) (by omega)).mono ?_
          · rw [var3_app (sd_lt HG.out true hp (by omega))]; exact HV.out.2.2.2.2.2.2 _ (sd_var HG.out true hp (show m0 < 4096 by omega) HV.out.2.2.2.1)
          · rw [var3_app (sd_lt HG.out true hq (by omega))]; exact HV.out.2.2.2.2.2.2 _ (sd_var HG.out true hq (show m0 < 4096 by omega) HV.out.2.2.2.2.1)
          · rw [var3_app (sd_lt HG.out true hr (by omega))]; exact HV.out.2.2.2.2.2.2 _ (sd_var HG.out true hr (show m0 < 4096 by omega) HV.out.2.2.2.2.2.1)
          rintro _ W2 ⟨yp, v2, M2, rfl, hB2, hK2, hM2, hyp, hyv⟩
          have hM2l : (N ++ M1 ++ M2).length = N.length + M1.length + M2.length := by rw [List.length_append, HML1.out]
          have hs1 := HB1.out.dist
          have hx0l : x0 < W1.heap.size := (Array.getElem?_eq_some_iff.1 HX1.out).1
          have HK2 := Lib.hid (HK1.out.trans (Kb.ahead HL9.out hK2 (by omega)))
          have hXl9 := (Array.getElem?_eq_some_iff.1 HX9.out).1
          have hx0w := HX0.out
          have HX2 := Lib.hid (hK2.keep _ _ HX9.out (by omega) (by omega) (by omega) HO1.out)
          have hown2 : (v2.ownBlock ≠ some x0) := fun e => by
            rcases hK2.own _ e with h | h
            · exact HO1.out h
            · omega
          have HO2 := Lib.hid hown2
          have HB2 := Lib.hid hB2
          have HN2 := Lib.hid (And.intro hyp hyv)
          have HML2 := Lib.hid hM2l
          have hm12 : M1.length ≤ cj ∧ M2.length ≤ cj := ⟨hM1, hM2⟩
          clear hB2 hK2 hown2 hyp hyv HX9 HX1 HO1 HL9 y9 y8 y7 hs1 hx0l hXl9 hM2l hM1 hM2
          dsimp only
          go_wp2_with fail
          refine (node_any HB2.out m0 np yp hmv (by have := HN1.out.1; rw [HML2.out]; rw [HML1.out] at this; omega) HN2.out.1 (fun _ => ?_) (by rw [HML2.out]; omega)).mono ?_
          · have hg2 := HB2.out.good
            have hpl := HN1.out.1
            refine ⟨?_, ?_⟩
            · refine var_gt hg2 (S := ite3 N (sd N p m0 false) (sd N q m0 false) (sd N r m0 false)) (by rw [HML2.out]; rw [HML1.out] at hpl; omega) (fun ρ => by rw [val3_app ρ _ hpl]; exact HN1.out.2 ρ) (fun ρ u b hu => ite3_ind HG.out (sd_lt HG.out false hp (by omega)) (sd_lt HG.out false hq (by omega)) (sd_lt HG.out false hr (by omega)) (sd_var HG.out false hp (by omega) HV.out.2.2.2.1) (sd_var HG.out false hq (by omega) HV.out.2.2.2.2.1) (sd_var HG.out false hr (by omega) HV.out.2.2.2.2.2.1) ρ u b hu) (by omega)
            · refine var_gt hg2 (S := ite3 N (sd N p m0 true) (sd N q m0 true) (sd N r m0 true)) HN2.out.1 (fun ρ => by rw [HN2.out.2 ρ, ite3_app (sd_lt HG.out true hp (by omega)) (sd_lt HG.out true hq (by omega)) (sd_lt HG.out true hr (by omega))]) (fun ρ u b hu => ite3_ind HG.out (sd_lt HG.out true hp (by omega)) (sd_lt HG.out true hq (by omega)) (sd_lt HG.out true hr (by omega)) (sd_var HG.out true hp (by omega) HV.out.2.2.2.1) (sd_var HG.out true hq (by omega) HV.out.2.2.2.2.1) (sd_var HG.out true hr (by omega) HV.out.2.2.2.2.2.1) ρ u b hu) (by omega)
          rintro _ W3 ⟨xp, v3, M3, rfl, hB3, hK3, hM3, hxp, hxv⟩
          have HX3 := Lib.hid (hK3.keep _ _ HX2.out (by omega) (by omega) (by omega) HO2.out)
          have HK3 := Lib.hid (HK2.out.trans hK3)
          have hval : ∀ ρ, val3 ρ (N ++ M1 ++ M2 ++ M3) xp = ite3 (N ++ M1 ++ M2 ++ M3) p q r ρ := fun ρ => by
            have hn1 := HN1.out.1
            rw [hxv]
            dsimp only
            rw [val3_app ρ _ hn1, HN1.out.2 ρ, HN2.out.2 ρ, ite3_app (sd_lt HG.out true hp (by omega)) (sd_lt HG.out true hq (by omega)) (sd_lt HG.out true hr (by omega)), ite3_side HG.out hp hq hr (by omega) ρ, List.append_assoc, List.append_assoc, ite3_app hp hq hr]
          have HVL := Lib.hid (And.intro hxp hval)
          have hM3l : (N ++ M1 ++ M2 ++ M3).length = N.length + M1.length + M2.length + M3.length := by rw [List.length_append, HML2.out]
          have HML3 := Lib.hid hM3l
          obtain ⟨n3, m3, hm3, hn3, hms3⟩ := hB3.dn
          obtain ⟨b1, b2, b3, b4, b5⟩ := bld_cells hB3
          have HB3 := Lib.hid hB3
          have HM3 := Lib.hid hm3
          have HMS3 := Lib.hid hms3
          obtain ⟨e1, e2, e3⟩ : W3.cell? ⟨x0, 0, none⟩ = some (.int .i64 (p : Int)) ∧ W3.cell? ⟨x0, 1, none⟩ = some (.int .i64 (q : Int)) ∧ W3.cell? ⟨x0, 2, none⟩ = some (.int .i64 (r : Int)) := by
            have hx3 := HX3.out
            refine ⟨?_, ?_, ?_⟩ <;> simp [World.cell?, hx3]
          clear hB3 hK3 hxp hxv hval hM3l hm3 hms3 HN1 HN2 HX2 HK1 HK2 HO2 HIH HSD HVP HVQ HVR HML1 HML2 HB1 HB2 b1 b2 b4 b5
          dsimp only
          go_wp2_with fail
          refine wp_region_plan 6 (.calm 0 (.calm 1 (.calm 2 (.calm 3 (.calm 4 (.calm 5 .tail)))))) (by kernel_rfl) (by kernel_rfl) ?_
          simp only [Plan.walk, operAt, List.getElem?_cons_succ, List.getElem?_cons_zero, Option.getD_some, List.drop_succ_cons, List.drop_zero]
          repeat (refine wpX_calm (fun K hK => ?_); go_simp; first | (refine hK _ _ ?_; clear hK K) | (apply Exists.intro; refine ⟨fun _ => ?_, hK _ _ ?_⟩; (fail); clear hK K))
          refine wpX_tail ?_
          intro z9
          have HM9 := Lib.hid (HM3.out.heap fun o ho => obj_in z9.below ho)
          go_wp2_with (at_mapUpdate; (refine wpList_update_funM _ rfl _ _ _ _ rfl 140 3 keyedK Tryz.underlying142 Tryz.underlying3 md n3 m3 rfl HM9.out (by unfold maxLen; omega) (.agg #[.int .i64 (p : Int), .int .i64 (q : Int), .int .i64 (r : Int)]) kl rfl hkl (xp : Int) rfl (wf_nat (by have := HVL.out.1; rw [HML3.out] at this; omega)) ?_; intro w5 m5 hm5 hz5 ho5 hg5; have HM5 := Lib.hid hm5; have HH5 := Lib.hid (And.intro hz5 ho5); have HG5 := Lib.hid hg5; have hs5 := hg5.size; clear hm5 hz5 ho5 hg5))
          go_wp2
          obtain ⟨hBld, hKb⟩ := bld_done HB3.out hn3 HMS3.out HM5.out HH5.out.1 HH5.out.2 (by rw [HML3.out]; omega) (by rw [HML3.out]; omega) (by rw [HML3.out]; omega) HVL.out.1 HVL.out.2 (((bel_grown z9).but _).trans HG5.out)
          refine bodyPost_ret (v := .int .i64 (xp : Int)) (by simp [results, Tryz.results69, go_sem]) rfl ⟨xp, v3, M1 ++ (M2 ++ M3), rfl, ?_, HK3.out.trans hKb, ?_, ?_, fun ρ => ?_⟩
          · rw [← List.append_assoc, ← List.append_assoc]
            exact hBld.mono (by omega)
          · rw [List.length_append, List.length_append]; omega
          · rw [← List.append_assoc, ← List.append_assoc]; exact HVL.out.1
          · rw [← List.append_assoc, ← List.append_assoc, HVL.out.2 ρ, List.append_assoc, List.append_assoc, ite3_app hp hq hr]
def rk6 (v : Nat) : Nat := 6 - v
theorem varOk6 {a : Nat} (h : a < 6) : VarOk rk6 a := ⟨by omega, fun y hy => by unfold rk6; omega⟩
end Go.Proofs.YtlnedapimmabdaaGreatDoor

namespace Go.Proofs.YtlnedapimmabdaaGreatDoor
set_option linter.unusedVariables false
set_option linter.unusedSimpArgs false
open Go.RowKit Go.Maps
attribute [local go_sem low] Bel.cell Bel.frozen alloc_cell alloc_frozen
attribute [local go_sem] calmOp chainOp yieldsC grows
variable {rk : Nat → Nat}

theorem RetB.after {b0 B mp md base : Nat} {v v1 : Value} {N M : List (Nat × Nat × Nat)} {D a c a2 c2 a3 c3 : Nat} {w w1 w2 : World} {S : (Nat → Bool) → Bool} {e : Ending} (hk : Kb b0 B mp md v w v1 w1) (hM : M.length ≤ a) (h : RetB rk b0 B mp md base v1 (N ++ M) (D + c) w1 a2 c2 S e w2) (ha : a + a2 ≤ a3) (hc : c + c2 ≤ c3) : RetB rk b0 B mp md base v N D w a3 c3 S e w2 := by
  obtain ⟨p, v2, M2, he, hB, hK, hM2, hp, hS⟩ := h
  refine ⟨p, v2, M ++ M2, he, ?_, hk.trans hK, by rw [List.length_append]; omega, by rw [← List.append_assoc]; exact hp, fun ρ => by rw [← List.append_assoc]; exact hS ρ⟩
  rw [← List.append_assoc]
  exact hB.mono (by omega)
theorem RetB.imp {b0 B mp md base : Nat} {v : Value} {N : List (Nat × Nat × Nat)} {D a c a3 c3 : Nat} {w w2 : World} {S S' : (Nat → Bool) → Bool} {e : Ending} (h : RetB rk b0 B mp md base v N D w a c S e w2) (ha : a ≤ a3) (hc : c ≤ c3) (hS' : ∀ ρ, S ρ = S' ρ) : RetB rk b0 B mp md base v N D w a3 c3 S' e w2 := by
  obtain ⟨p, v2, M2, he, hB, hK, hM2, hp, hS⟩ := h
  exact ⟨p, v2, M2, he, hB.mono (by omega), hK, by omega, hp, fun ρ => by rw [hS, hS']⟩
theorem RetB.ahead {b0 B mp md base : Nat} {v : Value} {N : List (Nat × Nat × Nat)} {D a c : Nat} {w w1 w2 : World} {S : (Nat → Bool) → Bool} {e : Ending} (hb : Below w.heap.size w w1) (hb0 : b0 ≤ w.heap.size) (h : RetB rk b0 B mp md base v N D w1 a c S e w2) : RetB rk b0 B mp md base v N D w a c S e w2 := by
  obtain ⟨p, v2, M2, he, hB, hK, hM2, hp, hS⟩ := h
  exact ⟨p, v2, M2, he, hB, hK.ahead hb hb0, hM2, hp, hS⟩
end Go.Proofs.YtlnedapimmabdaaGreatDoor

namespace Go.Proofs.YtlnedapimmabdaaGreatDoor
set_option linter.unusedVariables false
set_option linter.unusedSimpArgs false
open Go.RowKit Go.Maps
attribute [local go_sem low] Bel.cell Bel.frozen alloc_cell alloc_frozen

def InD (n0 : Nat) (w : World) (ad : Option Addr) (L : List (Int × Int × Int)) : Prop :=
  0 < L.length → ∃ g off, ad = some ⟨g, off, none⟩ ∧ g < n0 ∧ ∀ (j : Nat) (x : Int × Int × Int), L[j]? = some x → w.cell? ⟨g, off + j * 3, none⟩ = some (.int .i64 x.1) ∧ w.cell? ⟨g, off + j * 3 + 1, none⟩ = some (.int .i64 x.2.1) ∧ w.cell? ⟨g, off + j * 3 + 2, none⟩ = some (.int .i64 x.2.2)
theorem InD.of {n0 : Nat} {w w' : World} {ad : Option Addr} {L : List (Int × Int × Int)} (h : InD n0 w ad L) (hb : Below n0 w w') : InD n0 w' ad L := fun hl => by
  obtain ⟨g, off, he, hg, hc⟩ := h hl
  refine ⟨g, off, he, hg, fun j x hx => ?_⟩
  have e : ∀ o : Nat, w'.cell? ⟨g, o, none⟩ = w.cell? ⟨g, o, none⟩ := fun o => hb.cell (p := ⟨g, o, none⟩) hg
  rw [e, e, e]
  exact hc j x hx
theorem InD.up {n0 n1 : Nat} {w : World} {ad : Option Addr} {L : List (Int × Int × Int)} (h : InD n0 w ad L) (hn : n0 ≤ n1) : InD n1 w ad L := fun hl => by
  obtain ⟨g, off, he, hg, hc⟩ := h hl
  exact ⟨g, off, he, by omega, hc⟩
theorem inD_nil (n0 : Nat) (w : World) (ad : Option Addr) : InD n0 w ad [] := fun h => absurd h (by decide)
theorem InD.lay {n0 : Nat} {w : World} {ad : Option Addr} {L : List (Int × Int × Int)} (h : InD n0 w ad L) : InD w.heap.size w ad L := fun hl => by
  obtain ⟨g, off, he, hg, hc⟩ := h hl
  obtain ⟨x, hx⟩ : ∃ x, L[0]? = some x := ⟨_, List.getElem?_eq_getElem hl⟩
  exact ⟨g, off, he, World.block_lt_of_cell? w _ (hc 0 x hx).1, hc⟩
theorem ownD_in {w : World} {base : Nat} {e : TypeId} {v : Value} {N : List (Nat × Nat × Nat)} (h : OwnD w base e v N) : ∃ a c, v = .slice a N.length c ∧ InD w.heap.size w a (N.map z3) := by
  obtain ⟨a, c, hv, hc⟩ := ownD_val h
  refine ⟨a, c, hv, fun hl => ?_⟩
  rw [List.length_map] at hl
  obtain ⟨g, ha, _, hg, _, hcell⟩ := hc hl
  refine ⟨g, 0, ha, hg, fun j x hx => ?_⟩
  rw [List.getElem?_map] at hx
  obtain ⟨y, hy, rfl⟩ := Option.map_eq_some_iff.1 hx
  obtain ⟨k0, k1, k2⟩ := cellsD_at N j y hy
  rw [Nat.zero_add]
  exact ⟨hcell _ _ k0, hcell _ _ k1, hcell _ _ k2⟩
end Go.Proofs.YtlnedapimmabdaaGreatDoor

namespace Go.Proofs.YtlnedapimmabdaaGreatDoor
set_option linter.unusedVariables false
set_option linter.unusedSimpArgs false
open Go.RowKit Go.Maps
attribute [local go_sem low] Bel.cell Bel.frozen alloc_cell alloc_frozen
attribute [local go_sem] calmOp chainOp yieldsC grows
variable {rk : Nat → Nat}

theorem keyedI : Keyed Tryz.prog 3 := int_keyed Tryz.underlying3
theorem key_i {z : Int} (h : (Lit.int .i64 z).wf = true) : keyOf Tryz.prog 3 (.int .i64 z) = some (.int .i64 z) := keyOf_int_mk Tryz.underlying3 h
def natsV (l : List Nat) : List Value := l.map fun (p : Nat) => .int .i64 (p : Int)
theorem natsV_at {l : List Nat} {j p : Nat} (h : l[j]? = some p) : (natsV l)[j]? = some (.int .i64 (p : Int)) := by unfold natsV; rw [List.getElem?_map, h]; rfl
theorem natsV_app (l m : List Nat) : natsV (l ++ m) = natsV l ++ natsV m := List.map_append
theorem Tryz.infoI : (Tryz.prog.info? 3).map (fun i => (i.zero, i.size, i.bytes)) = some (some (.int .i64 0), 1, 8) := by kernel_rfl
def OwnN (w : World) (base : Nat) (v : Value) (l : List Nat) : Prop := w.ownsRow base 3 1 v l.length (natsV l)
theorem ownN_two {w : World} {base g : Nat} {a b : Nat} (h : w.heap[g]? = some (.cells #[.int .i64 (a : Int), .int .i64 (b : Int)] 3 (0, 0))) (hg : base ≤ g) : OwnN w base (.slice (some ⟨g, 0, none⟩) 2 2) [a, b] :=
  ⟨rfl, .inr ⟨g, 2, _, rfl, hg, h, Nat.le_refl _, by unfold maxLen; omega, rfl, rfl⟩⟩
theorem ownN_row {w w' : World} {base : Nat} {v : Value} {l : List Nat} (h : OwnN w base v l) (hk : ∀ (c : Nat) (o : Obj), w.heap[c]? = some o → v.ownBlock = some c → w'.heap[c]? = some o) : OwnN w' base v l := by
  rcases h with ⟨hxl, ⟨e1, e2⟩ | ⟨g, cap, cur, e1, hg, hh, hn, hc, hcs, hcur⟩⟩
  · exact ⟨hxl, .inl ⟨e1, e2⟩⟩
  · exact ⟨hxl, .inr ⟨g, cap, cur, e1, hg, hk g _ hh (by rw [e1]; rfl), hn, hc, hcs, hcur⟩⟩
theorem ownN_len {w : World} {base n : Nat} {v : Value} {l : List Nat} (hn : l.length = n) (h : OwnN w base v l) : w.ownsRow base 3 1 v n (natsV l) := by rw [← hn]; exact h
theorem ownN_val {w : World} {base : Nat} {v : Value} {l : List Nat} (h : OwnN w base v l) (h0 : 0 < l.length) : ∃ g c, v = .slice (some ⟨g, 0, none⟩) l.length c ∧ base ≤ g ∧ g < w.heap.size ∧ ∀ (j p : Nat), l[j]? = some p → w.cell? ⟨g, j, none⟩ = some (.int .i64 (p : Int)) := by
  rcases h with ⟨hxl, ⟨e1, e2⟩ | ⟨g, cap, cur, e1, hg, hh, hn, hc, hcs, hcur⟩⟩
  · omega
  · refine ⟨g, cap, e1, hg, (Array.getElem?_eq_some_iff.1 hh).1, fun j p hp => ?_⟩
    have hj := (List.getElem?_eq_some_iff.1 hp).1
    have e := natsV_at hp
    rw [← hcur, List.getElem?_take_of_lt (by omega)] at e
    simp [World.cell?, hh]
    simpa using e
theorem Bld.row {w w' : World} {b0 B mp md base : Nat} {v : Value} {N : List (Nat × Nat × Nat)} {D g : Nat} (h : Bld rk w b0 B mp md base v N D) (hg : w.grownBy w' (some g)) (hb : base ≤ g) (hv : v.ownBlock ≠ some g) : Bld rk w' b0 B mp md base v N D := by
  obtain ⟨d1, d2, d3, d4, d5, d6, d7, d8, d9, d10⟩ := h.dist
  have hob : ∀ (c : Nat) (o : Obj), w.heap[c]? = some o → c ≠ g → w'.heap[c]? = some o := fun c o ho hc => (hg.block c (Array.getElem?_eq_some_iff.1 ho).1 (fun e => hc (by injection e))).trans ho
  obtain ⟨n1, m1, p1, p2, p3, p4⟩ := h.plc
  obtain ⟨n2, m2, q1, q2, q3⟩ := h.dn
  refine ⟨hob _ _ h.obj (by omega), ?_, ⟨n1, m1, p1.heap fun o ho => hob _ o ho (by omega), p2, p3, p4⟩, ⟨n2, m2, q1.heap fun o ho => hob _ o ho (by omega), q2, q3⟩, h.good, h.vars, ⟨d1, d2, d3, d4, d5, d6, d7, d8, d9, Nat.le_trans d10 hg.size⟩⟩
  rcases h.own with ⟨hxl, ⟨e1, e2⟩ | ⟨g', cap, cur, e1, hg', hh, hn, hc, hcs, hcur⟩⟩
  · exact ⟨hxl, .inl ⟨e1, e2⟩⟩
  · exact ⟨hxl, .inr ⟨g', cap, cur, e1, hg', hob _ _ hh (fun e => hv (by rw [e1, e]; rfl)), hn, hc, hcs, hcur⟩⟩
theorem Kb.row {b0 B mp md : Nat} {v v' : Value} {w w1 w2 : World} {g : Nat} (h : Kb b0 B mp md v w v' w1) (hg : w1.grownBy w2 (some g)) (hb : w.heap.size ≤ g) (hb0 : b0 ≤ w.heap.size) : Kb b0 B mp md v w v' w2 := by
  refine ⟨h.below.grown hg (Nat.le_trans hb0 h.below.size) (fun k hk => by injection hk with hk; omega), fun c o ho h1 h2 h3 h4 => ?_, h.own⟩
  have hl := (Array.getElem?_eq_some_iff.1 ho).1
  have := h.keep c o ho h1 h2 h3 h4
  exact (hg.block c (Array.getElem?_eq_some_iff.1 this).1 (fun e => by injection e; omega)).trans this
end Go.Proofs.YtlnedapimmabdaaGreatDoor
