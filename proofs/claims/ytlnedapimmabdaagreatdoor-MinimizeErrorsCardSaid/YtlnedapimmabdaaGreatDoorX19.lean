/- Equal diagrams. -/
import Derived.Laws.StructEq
import Derived.Test.YtlnedapimmabdaaGreatDoorXE
namespace Go.Proofs.YtlnedapimmabdaaGreatDoor
set_option linter.unusedVariables false
set_option linter.unusedSimpArgs false
open Go.RowKit Go.Maps
attribute [local go_sem low] Bel.cell Bel.frozen alloc_cell alloc_frozen

theorem node_stood : Tryz.prog.stoodInHeld 96 = false := by kernel_rfl
theorem node_under : Tryz.prog.underlying 96 = some (.struct (Tryz.prog.fieldsOf 96)) := by kernel_rfl
theorem run_neq_node (xa xb xc za zb zc : Int) (w : World) : (binOp .neq 96 (.agg #[.int .i64 xa, .int .i64 xb, .int .i64 xc]) (.agg #[.int .i64 za, .int .i64 zb, .int .i64 zc])).run Tryz.prog w = .ok (.bool (!((xa == za) && ((xb == zb) && (xc == zc))))) w := by
  have e : ∀ (a b : Int) (w : World), (Op.equalIn 9999 3 (.int .i64 a) (.int .i64 b)).run Tryz.prog w = .ok (a == b) w := fun a b w => run_equalIn_int w 9998 3 .i64 .i64 a b Tryz.underlying3
  rw [run_neq_struct, run_equalIn_agg w 9999 96 _ _ node_under node_stood]
  simp [Program.fieldsOf, Tryz.underlying96, Op.eqFields, part, e]
  cases h1 : (xa == za) <;> cases h2 : (xb == zb) <;> cases h3 : (xc == zc) <;> simp_all
theorem guard_node (x y : Operand) (xs ys : Array Value) (w : World) : (eqGuard .neq 96 x y (.agg xs) (.agg ys)).run Tryz.prog w = .ok () w := run_eqGuard_agg w _ _ _ _ _ _ (by kernel_rfl)
theorem node_cmp {xa xb xc za zb zc : Int} {b : Bool} (h : decide ((xa, xb, xc) = (za, zb, zc)) = b) (w : World) : (binOp .neq 96 (.agg #[.int .i64 xa, .int .i64 xb, .int .i64 xc]) (.agg #[.int .i64 za, .int .i64 zb, .int .i64 zc])).run Tryz.prog w = .ok (.bool (!b)) w := by
  rw [run_neq_node, ← h]
  congr 3
  by_cases h1 : xa = za <;> by_cases h2 : xb = zb <;> by_cases h3 : xc = zc <;> simp_all
set_option maxRecDepth 100000 in
set_option maxHeartbeats 6400000 in
theorem nodesEq_any (L M : List (Int × Int × Int)) (a1 a2 : Option Addr) (c1 c2 : Nat) (w : World) (h1 : InD w.heap.size w a1 L) (h2 : InD w.heap.size w a2 M) (hl : L.length ≤ 1000000) (hm : M.length ≤ 1000000) :
    Calls Tryz.prog 52 #[.slice a1 L.length c1, .slice a2 M.length c2] w (Ret (.bool (decide (L = M))) w) := by
  by_cases hlm : L.length = M.length
  · have HEQ := Lib.hid hlm
    have H1 := Lib.hid h1
    have H2 := Lib.hid h2
    have f0 : ((L.length : Int) != (M.length : Int)) = false := by simp; omega
    obtain ⟨q, hq⟩ : ∃ q, decide (L = M) = q := ⟨_, rfl⟩
    rw [hq]
    have HQ := Lib.hid hq
    clear h1 h2 hlm hq
    go_enter Tryz.func52, Tryz.ntmps52
    go_wp2
    go_loopw [13] (fun iv wr => ∃ k : Nat, iv = .int .i64 (k : Int) ∧ k ≤ L.length ∧ L.take k = M.take k ∧ ∃ y : Bel w, wr = y.w) (fun iv _ => L.length - (intOf iv).toNat)
    case atStart => exact ⟨0, rfl, by omega, by simp, ⟨w, Below.refl _ _⟩, rfl⟩
    case round =>
      obtain ⟨k, rfl, hk, htk, y, rfl⟩ := hrel
      have HTK := Lib.hid htk
      clear htk
      rcases Nat.lt_or_ge k L.length with hkl | hkl
      · have hkm : k < M.length := by have := HEQ.out; omega
        obtain ⟨x, hx⟩ : ∃ x, L[k]? = some x := ⟨_, List.getElem?_eq_getElem hkl⟩
        obtain ⟨z, hz⟩ : ∃ z, M[k]? = some z := ⟨_, List.getElem?_eq_getElem hkm⟩
        obtain ⟨g1, o1, e1, hg1, hc1⟩ := H1.out (by omega)
        obtain ⟨g2, o2, e2, hg2, hc2⟩ := H2.out (by omega)
        subst e1 e2
        obtain ⟨x0, x1, x2⟩ := hc1 k x hx
        obtain ⟨z0, z1, z2⟩ := hc2 k z hz
        obtain ⟨xa, xb, xc⟩ := x
        obtain ⟨za, zb, zc⟩ := z
        dsimp only at x0 x1 x2 z0 z1 z2
        have f1 : decide ((k : Int) < (L.length : Int)) = true := decide_eq_true (by omega)
        have hib : (0 ≤ (k : Int) ∧ (k : Int) < (L.length : Int)) := ⟨by omega, by omega⟩
        have hib2 : (0 ≤ (k : Int) ∧ (k : Int) < (M.length : Int)) := ⟨by omega, by omega⟩
        have HX := Lib.hid (And.intro hx hz)
        have hgd := guard_node
        clear hc1 hc2 hx hz
        by_cases he : (xa, xb, xc) = (za, zb, zc)
        · have hcm := fun w => node_cmp (decide_eq_true he) w
          have HE := Lib.hid he
          clear he
          go_wp2_with fail
          refine wp_region_bel (by kernel_rfl) (by kernel_rfl) ?_
          repeat (go_big_quiet_step (fail))
          refine wpQuiet_nil ?_
          rintro _ ⟨z9, rfl⟩
          go_wp2
          go_roundw
          case rel =>
            refine ⟨k + 1, by go_num, by omega, ?_, ⟨z9.w, y.below.trans (z9.below.mono y.below.size)⟩, rfl⟩
            rw [List.take_add_one, List.take_add_one, HX.out.1, HX.out.2, HTK.out, HE.out]
          case measure => simp [intOf]; omega
        · have hcm := fun w => node_cmp (decide_eq_false he) w
          have hq0 : q = false := by
            rw [← HQ.out]
            refine decide_eq_false fun e => ?_
            have h1 := HX.out.1
            rw [e, HX.out.2] at h1
            injection h1 with h1
            exact he h1.symm
          subst hq0
          clear he
          go_wp2_with fail
          refine wp_region_bel (by kernel_rfl) (by kernel_rfl) ?_
          repeat (go_big_quiet_step (fail))
          refine wpQuiet_nil ?_
          rintro _ ⟨z9, rfl⟩
          go_wp2
          go_ret
          exact Ret.mk (by rfl) (by (repeat' (first | (with_reducible first | apply Zl1 | apply Zl2 | apply Zl3 | apply Zl4 | apply Zl5 | apply Zl6 | apply Zl7 | apply Zl8 | apply Zl9 | apply Zla | apply Zlb | apply Zlc) | (dsimp only; with_reducible first | apply Zl8 | apply Zl2 | apply Zld) | with_reducible assumption | omega | (dsimp only; omega))))
      · have hke : k = L.length := by omega
        subst hke
        have f1 : decide ((L.length : Int) < (L.length : Int)) = false := decide_eq_false (by omega)
        have hq1 : q = true := by
          rw [← HQ.out]
          have h := HTK.out
          rw [List.take_length, HEQ.out, List.take_length] at h
          exact decide_eq_true h
        subst hq1
        go_wp2
        go_ret
        exact Ret.mk (by rfl) (by (repeat' (first | (with_reducible first | apply Zl1 | apply Zl2 | apply Zl3 | apply Zl4 | apply Zl5 | apply Zl6 | apply Zl7 | apply Zl8 | apply Zl9 | apply Zla | apply Zlb | apply Zlc) | (dsimp only; with_reducible first | apply Zl8 | apply Zl2 | apply Zld) | with_reducible assumption | omega | (dsimp only; omega))))
  · have f0 : ((L.length : Int) != (M.length : Int)) = true := by simp; omega
    rw [decide_eq_false (fun e => hlm (by rw [e]))]
    clear h1 h2 hlm
    go_enter Tryz.func52, Tryz.ntmps52
    go_wp2
    go_ret
    exact Ret.mk (by rfl) (by (repeat' (first | (with_reducible first | apply Zl1 | apply Zl2 | apply Zl3 | apply Zl4 | apply Zl5 | apply Zl6 | apply Zl7 | apply Zl8 | apply Zl9 | apply Zla | apply Zlb | apply Zlc) | (dsimp only; with_reducible first | apply Zl8 | apply Zl2 | apply Zld) | with_reducible assumption | omega | (dsimp only; omega))))
set_option maxRecDepth 100000 in
theorem dEqual_any (x y : DI) (w : World) (h1 : InD w.heap.size w x.1 x.2.2.1) (h2 : InD w.heap.size w y.1 y.2.2.1) (hl : x.2.2.1.length ≤ 1000000) (hm : y.2.2.1.length ≤ 1000000) :
    Calls Tryz.prog 26 #[.agg #[.slice x.1 x.2.2.1.length x.2.1, .int .i64 x.2.2.2], .agg #[.slice y.1 y.2.2.1.length y.2.1, .int .i64 y.2.2.2]] w (Ret (.bool (decide (x.2.2.2 = y.2.2.2 ∧ x.2.2.1 = y.2.2.1))) w) := by
  have HN := Lib.hid (fun w' (hb : Below w.heap.size w w') => nodesEq_any x.2.2.1 y.2.2.1 x.1 y.1 x.2.1 y.2.1 w' ((h1.of hb).up hb.size) ((h2.of hb).up hb.size) hl hm)
  obtain ⟨a1, c1, L, r⟩ := x
  obtain ⟨a2, c2, M, s⟩ := y
  dsimp only at HN ⊢
  clear h1 h2 hl hm
  by_cases hr : r = s
  · have f0 : (r == s) = true := beq_iff_eq.2 hr
    have e : decide (r = s ∧ L = M) = decide (L = M) := by simp [hr]
    rw [e]
    clear hr
    go_enter Tryz.func26, Tryz.ntmps26
    go_wp2_with fail
    refine (HN.out _ (by (repeat' (first | (with_reducible first | apply Zl1 | apply Zl2 | apply Zl3 | apply Zl4 | apply Zl5 | apply Zl6 | apply Zl7 | apply Zl8 | apply Zl9 | apply Zla | apply Zlb | apply Zlc) | (dsimp only; with_reducible first | apply Zl8 | apply Zl2 | apply Zld) | with_reducible assumption | omega | (dsimp only; omega))))).mono ?_
    rintro _ _ ⟨rfl, y1, rfl⟩
    dsimp only
    go_wp2
    go_ret
    exact Ret.mk (by rfl) (by (repeat' (first | (with_reducible first | apply Zl1 | apply Zl2 | apply Zl3 | apply Zl4 | apply Zl5 | apply Zl6 | apply Zl7 | apply Zl8 | apply Zl9 | apply Zla | apply Zlb | apply Zlc) | (dsimp only; with_reducible first | apply Zl8 | apply Zl2 | apply Zld) | with_reducible assumption | omega | (dsimp only; omega))))
  · have f0 : (r == s) = false := beq_eq_false_iff_ne.2 hr
    rw [decide_eq_false (fun h => hr h.1)]
    clear hr
    go_enter Tryz.func26, Tryz.ntmps26
    go_wp2
    go_ret
    exact Ret.mk (by rfl) (by (repeat' (first | (with_reducible first | apply Zl1 | apply Zl2 | apply Zl3 | apply Zl4 | apply Zl5 | apply Zl6 | apply Zl7 | apply Zl8 | apply Zl9 | apply Zla | apply Zlb | apply Zlc) | (dsimp only; with_reducible first | apply Zl8 | apply Zl2 | apply Zld) | with_reducible assumption | omega | (dsimp only; omega))))
end Go.Proofs.YtlnedapimmabdaaGreatDoor
