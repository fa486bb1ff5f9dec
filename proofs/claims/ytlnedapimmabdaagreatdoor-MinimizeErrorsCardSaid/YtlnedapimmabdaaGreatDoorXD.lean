/- What the program's Check answers. Check of a diagram, whole. -/
import Derived.Test.YtlnedapimmabdaaGreatDoorXC
import Derived.Test.YtlnedapimmabdaaGreatDoorPl
namespace Go.Proofs.YtlnedapimmabdaaGreatDoor
set_option linter.unusedVariables false
set_option linter.unusedSimpArgs false
open Go.RowKit Go.Maps
attribute [local go_sem low] Bel.cell Bel.frozen alloc_cell alloc_frozen
attribute [local go_sem] calmOp chainOp yieldsC grows

def inI (z : Int) : Prop := -9223372036854775808 ≤ z ∧ z < 9223372036854775808
def InI (L : List (Int × Int × Int)) : Prop := ∀ x ∈ L, inI x.1 ∧ inI x.2.1 ∧ inI x.2.2
def nodeZ (x : Int × Int × Int) : Value := .agg #[.int .i64 x.1, .int .i64 x.2.1, .int .i64 x.2.2]
theorem nodeZ_inj {x y : Int × Int × Int} (h : nodeZ x = nodeZ y) : x = y := by
  unfold nodeZ at h
  simp at h
  exact Prod.ext (by omega) (Prod.ext (by omega) (by omega))
set_option maxRecDepth 100000 in
theorem before_any (p : Int) (i : Nat) (w : World) (hi : i ≤ 1000000) : Calls Tryz.prog 107 #[.int .i64 p, .int .i64 (i : Int)] w (Ret (.bool (decide (0 ≤ p ∧ p < (i : Int) + 2))) w) := by
  by_cases h1 : 0 ≤ p
  · by_cases h2 : p < (i : Int) + 2
    · have f1 : decide (0 ≤ p) = true := decide_eq_true h1
      have f2 : decide (p < (i : Int) + 2) = true := decide_eq_true h2
      rw [decide_eq_true (⟨h1, h2⟩ : 0 ≤ p ∧ p < (i : Int) + 2)]
      go_enter Tryz.func107, Tryz.ntmps107
      go_wp2
      go_ret
      exact Ret.mk (by rfl) (by (repeat' (first | (with_reducible first | apply Zl1 | apply Zl2 | apply Zl3 | apply Zl4 | apply Zl5 | apply Zl6 | apply Zl7 | apply Zl8 | apply Zl9 | apply Zla | apply Zlb | apply Zlc) | (dsimp only; with_reducible first | apply Zl8 | apply Zl2 | apply Zld) | with_reducible assumption | omega | (dsimp only; omega))))
    · have f1 : decide (0 ≤ p) = true := decide_eq_true h1
      have f2 : decide (p < (i : Int) + 2) = false := decide_eq_false h2
      rw [decide_eq_false (fun h : 0 ≤ p ∧ p < (i : Int) + 2 => h2 h.2)]
      go_enter Tryz.func107, Tryz.ntmps107
      go_wp2
      go_ret
      exact Ret.mk (by rfl) (by (repeat' (first | (with_reducible first | apply Zl1 | apply Zl2 | apply Zl3 | apply Zl4 | apply Zl5 | apply Zl6 | apply Zl7 | apply Zl8 | apply Zl9 | apply Zla | apply Zlb | apply Zlc) | (dsimp only; with_reducible first | apply Zl8 | apply Zl2 | apply Zld) | with_reducible assumption | omega | (dsimp only; omega))))
  · have f1 : decide (0 ≤ p) = false := decide_eq_false h1
    rw [decide_eq_false (fun h : 0 ≤ p ∧ p < (i : Int) + 2 => h1 h.1)]
    go_enter Tryz.func107, Tryz.ntmps107
    go_wp2
    go_ret
    exact Ret.mk (by rfl) (by (repeat' (first | (with_reducible first | apply Zl1 | apply Zl2 | apply Zl3 | apply Zl4 | apply Zl5 | apply Zl6 | apply Zl7 | apply Zl8 | apply Zl9 | apply Zla | apply Zlb | apply Zlc) | (dsimp only; with_reducible first | apply Zl8 | apply Zl2 | apply Zld) | with_reducible assumption | omega | (dsimp only; omega))))
set_option maxRecDepth 100000 in
set_option maxHeartbeats 6400000 in
theorem dsingle_any (L : List (Int × Int × Int)) (hL : InI L) (hlen : L.length ≤ 50000) (ad : Option Addr) (cap : Nat) (r : Int) (i : Nat) (x : Int × Int × Int) (hx : L[i]? = some x) (sm n : Nat) (S : Value → Bool) (w : World) (hi : InD w.heap.size w ad L)
    (hm : FunB Tryz.prog 96 4 w sm n S) (hS : ∀ y, S (nodeZ y) = decide (y ∈ L.take i)) :
    Calls Tryz.prog 95 #[.agg #[.slice ad L.length cap, .int .i64 r], .int .i64 (i : Int), .map (some sm)] w (Ret (.int .i64 (chk1 L i x : Nat)) w) := by
  have hil := (List.getElem?_eq_some_iff.1 hx).1
  obtain ⟨g, off, hadd, hg, hcs⟩ := hi (by omega)
  cases hadd
  obtain ⟨x0, x1, x2⟩ := hcs i x hx
  have HCS := Lib.hid hcs
  obtain ⟨w0, w1, w2⟩ := hL x (List.mem_of_getElem? hx)
  obtain ⟨kl, hkl⟩ : ∃ kl, keyOf Tryz.prog 96 (nodeZ x) = some kl := key_node _ _ _ (wf_i64D w0) (wf_i64D w1) (wf_i64D w2)
  have HM := Lib.hid hm
  have hSx := hS x
  have hib : (0 ≤ (i : Int) ∧ (i : Int) < (L.length : Int)) := ⟨by omega, by omega⟩
  obtain ⟨c, hc⟩ : ∃ c, chk1 L i x = c := ⟨_, rfl⟩
  rw [hc]
  obtain ⟨a, xn, xy⟩ := x
  unfold chk1 at hc
  dsimp only at x0 x1 x2 hc w0 w1 w2
  have HC := Lib.hid hc
  have HBN := Lib.hid (fun w' => before_any xn i w' (by omega))
  have HBY := Lib.hid (fun w' => before_any xy i w' (by omega))
  clear hc hi hcs hm hS
  by_cases ha : a < 0
  · have hc := HC.out
    rw [if_pos (.inl ha)] at hc
    subst hc
    have f1 : decide (a < 0) = true := decide_eq_true ha
    clear HC
    go_enter Tryz.func95, Tryz.ntmps95
    go_wp2
    go_ret
    exact Ret.mk (by rfl) (by (repeat' (first | (with_reducible first | apply Zl1 | apply Zl2 | apply Zl3 | apply Zl4 | apply Zl5 | apply Zl6 | apply Zl7 | apply Zl8 | apply Zl9 | apply Zla | apply Zlb | apply Zlc) | (dsimp only; with_reducible first | apply Zl8 | apply Zl2 | apply Zld) | with_reducible assumption | omega | (dsimp only; omega))))
  have f1 : decide (a < 0) = false := decide_eq_false ha
  by_cases ha2 : 4096 ≤ a
  · have hc := HC.out
    rw [if_pos (.inr (.inl ha2))] at hc
    subst hc
    have f2 : decide (4096 ≤ a) = true := decide_eq_true ha2
    clear HC
    go_enter Tryz.func95, Tryz.ntmps95
    go_wp2
    go_ret
    exact Ret.mk (by rfl) (by (repeat' (first | (with_reducible first | apply Zl1 | apply Zl2 | apply Zl3 | apply Zl4 | apply Zl5 | apply Zl6 | apply Zl7 | apply Zl8 | apply Zl9 | apply Zla | apply Zlb | apply Zlc) | (dsimp only; with_reducible first | apply Zl8 | apply Zl2 | apply Zld) | with_reducible assumption | omega | (dsimp only; omega))))
  have f2 : decide (4096 ≤ a) = false := decide_eq_false ha2
  by_cases hn : 0 ≤ xn ∧ xn < (i : Int) + 2
  case neg =>
    have hc := HC.out
    rw [if_pos (by omega)] at hc
    subst hc
    rw [decide_eq_false hn] at HBN
    clear HC
    go_enter Tryz.func95, Tryz.ntmps95
    go_wp2_with fail
    refine (HBN.out _).mono ?_
    rintro _ _ ⟨rfl, y1, rfl⟩
    dsimp only
    go_wp2
    go_ret
    exact Ret.mk (by rfl) (by (repeat' (first | (with_reducible first | apply Zl1 | apply Zl2 | apply Zl3 | apply Zl4 | apply Zl5 | apply Zl6 | apply Zl7 | apply Zl8 | apply Zl9 | apply Zla | apply Zlb | apply Zlc) | (dsimp only; with_reducible first | apply Zl8 | apply Zl2 | apply Zld) | with_reducible assumption | omega | (dsimp only; omega))))
  rw [decide_eq_true hn] at HBN
  by_cases hy : 0 ≤ xy ∧ xy < (i : Int) + 2
  case neg =>
    have hc := HC.out
    rw [if_pos (by omega)] at hc
    subst hc
    rw [decide_eq_false hy] at HBY
    clear HC
    go_enter Tryz.func95, Tryz.ntmps95
    go_wp2_with fail
    refine (HBN.out _).mono ?_
    rintro _ _ ⟨rfl, y1, rfl⟩
    dsimp only
    go_wp2_with fail
    refine (HBY.out _).mono ?_
    rintro _ _ ⟨rfl, y2, rfl⟩
    dsimp only
    go_wp2
    go_ret
    exact Ret.mk (by rfl) (by (repeat' (first | (with_reducible first | apply Zl1 | apply Zl2 | apply Zl3 | apply Zl4 | apply Zl5 | apply Zl6 | apply Zl7 | apply Zl8 | apply Zl9 | apply Zla | apply Zlb | apply Zlc) | (dsimp only; with_reducible first | apply Zl8 | apply Zl2 | apply Zld) | with_reducible assumption | omega | (dsimp only; omega))))
  rw [decide_eq_true hy] at HBY
  have hc := HC.out
  rw [if_neg (by omega)] at hc
  clear HC
  by_cases he : xn = xy
  · rw [if_pos he] at hc
    subst hc
    have f3 : (xn == xy) = true := by simp [he]
    clear he
    go_enter Tryz.func95, Tryz.ntmps95
    go_wp2_with fail
    refine (HBN.out _).mono ?_
    rintro _ _ ⟨rfl, y1, rfl⟩
    dsimp only
    go_wp2_with fail
    refine (HBY.out _).mono ?_
    rintro _ _ ⟨rfl, y2, rfl⟩
    dsimp only
    go_wp2
    go_ret
    exact Ret.mk (by rfl) (by (repeat' (first | (with_reducible first | apply Zl1 | apply Zl2 | apply Zl3 | apply Zl4 | apply Zl5 | apply Zl6 | apply Zl7 | apply Zl8 | apply Zl9 | apply Zla | apply Zlb | apply Zlc) | (dsimp only; with_reducible first | apply Zl8 | apply Zl2 | apply Zld) | with_reducible assumption | omega | (dsimp only; omega))))
  rw [if_neg he] at hc
  have f3 : (xn == xy) = false := by simp [he]
  have HC := Lib.hid hc
  clear he hc
  go_enter Tryz.func95, Tryz.ntmps95
  go_wp2_with fail
  refine (HBN.out _).mono ?_
  rintro _ _ ⟨rfl, y1, rfl⟩
  dsimp only
  go_wp2_with fail
  refine (HBY.out _).mono ?_
  rintro _ _ ⟨rfl, y2, rfl⟩
  have hbZ : Below w.heap.size w y2.w := by (repeat' (first | (with_reducible first | apply Zl1 | apply Zl2 | apply Zl3 | apply Zl4 | apply Zl5 | apply Zl6 | apply Zl7 | apply Zl8 | apply Zl9 | apply Zla | apply Zlb | apply Zlc) | (dsimp only; with_reducible first | apply Zl8 | apply Zl2 | apply Zld) | with_reducible assumption | omega | (dsimp only; omega)))
  have o1 := obj_in (show Below _ _ y1.w from y1.below) (obj_alloc (.cells #[.int .i64 a, .int .i64 xn, .int .i64 xy] 96 (0, 0)) (World.alloc_heap_new w (.cells #[.slice (some ⟨g, off, none⟩) L.length cap, .int .i64 r] 63 (0, 0))))
  have o2 := obj_in (show Below _ _ y1.w from y1.below) (World.alloc_heap_new (w.alloc (.cells #[.slice (some ⟨g, off, none⟩) L.length cap, .int .i64 r] 63 (0, 0))) (.cells #[.int .i64 a, .int .i64 xn, .int .i64 xy] 96 (0, 0)))
  have o1' := obj_in (show Below _ _ y2.w from y2.below) o1
  have o2' := obj_in (show Below _ _ y2.w from y2.below) o2
  rw [World.size_alloc] at o2'
  obtain ⟨BD, hBD⟩ : ∃ BD, w.heap.size = BD := ⟨_, rfl⟩
  obtain ⟨Z, hZ⟩ : ∃ Z, y2.w = Z := ⟨_, rfl⟩
  rw [hZ] at hbZ o1' o2' ⊢
  have HBZ := Lib.hid hbZ
  have HBD := Lib.hid hBD
  rw [hBD] at o1' o2' ⊢
  obtain ⟨d0, d1⟩ : Z.cell? ⟨BD, 0, none⟩ = some (.slice (some ⟨g, off, none⟩) L.length cap) ∧ Z.cell? ⟨BD, 1, none⟩ = some (.int .i64 r) := by
    refine ⟨?_, ?_⟩ <;> simp [World.cell?, o1']
  obtain ⟨q0, q1, q2⟩ : Z.cell? ⟨BD + 1, 0, none⟩ = some (.int .i64 a) ∧ Z.cell? ⟨BD + 1, 1, none⟩ = some (.int .i64 xn) ∧ Z.cell? ⟨BD + 1, 2, none⟩ = some (.int .i64 xy) := by
    refine ⟨?_, ?_, ?_⟩ <;> simp [World.cell?, o2']
  have HCZ := Lib.hid (show ∀ (j : Nat) (x : Int × Int × Int), L[j]? = some x → Z.cell? ⟨g, off + j * 3, none⟩ = some (.int .i64 x.1) from fun j x hj => cell_in hbZ (HCS.out j x hj).1)
  have HRUN := Lib.hid (show ∀ y : Bel Z, (Instr.lookup 146 (.map (some sm)) (nodeZ (a, xn, xy)) false).run Tryz.prog y.w = .ok (.bool (S (nodeZ (a, xn, xy)))) y.w from fun y => funB_run (t := 146) (w := y.w) keyedN Tryz.underlying146 Tryz.underlying4 (by rfl) (HM.out.heap fun o ho => obj_in (show Below w.heap.size w y.w from hbZ.trans (y.below.mono hbZ.size)) ho) hkl)
  have i0 : ∀ w : World, (Instr.index 159 (.agg #[.int .i64 xn, .int .i64 xy]) (.int .i64 0)).run Tryz.prog w = .ok (.int .i64 xn) w := fun w => by rfl
  have i1 : ∀ w : World, (Instr.index 159 (.agg #[.int .i64 xn, .int .i64 xy]) (.int .i64 1)).run Tryz.prog w = .ok (.int .i64 xy) w := fun w => by rfl
  clear hbZ o1 o2 o1' o2' hBD hZ y2 y1 x0 x1 x2
  dsimp only
  go_wp2_with fail
  go_loopw [49] (fun iv wr => (iv = .int .i64 0 ∨ (iv = .int .i64 1 ∧ ¬ (1 < xn ∧ varZ L xn ≤ a)) ∨ (iv = .int .i64 2 ∧ ¬ (1 < xn ∧ varZ L xn ≤ a) ∧ ¬ (1 < xy ∧ varZ L xy ≤ a))) ∧ ∃ y : Bel Z, wr = y.w) (fun iv _ => 2 - (intOf iv).toNat)
  case atStart => exact ⟨.inl rfl, ⟨Z, Below.refl _ _⟩, rfl⟩
  case round =>
    obtain ⟨hk, y, rfl⟩ := hrel
    have hbz := HBZ.out
    have hsz := hbz.size
    rcases hk with rfl | ⟨rfl, hk1⟩ | ⟨rfl, hk1, hk2⟩
    · have f6 : decide ((0 : Int) < 2) = true := rfl
      by_cases hp : 1 < xn
      · obtain ⟨q, hq⟩ : ∃ q : Nat, xn - 2 = (q : Int) := ⟨(xn - 2).toNat, by omega⟩
        obtain ⟨u, hu⟩ : ∃ u, L[q]? = some u := ⟨_, List.getElem?_eq_getElem (by omega)⟩
        have hz := HCZ.out q u hu
        have hvz : varZ L xn = u.1 := by
          unfold varZ
          rw [show xn.toNat - 2 = q by omega, getD_some hu]
        have hiq : (0 ≤ (q : Int) ∧ (q : Int) < (L.length : Int)) := ⟨by omega, by omega⟩
        have f4 : decide (1 < xn) = true := decide_eq_true hp
        obtain ⟨u1, u2, u3⟩ := u
        dsimp only at hz hvz
        clear hu
        by_cases hv : u1 ≤ a
        · have f5 : decide (u1 ≤ a) = true := decide_eq_true hv
          have hc := HC.out
          rw [if_pos (by rw [hvz]; omega)] at hc
          subst hc
          clear hvz HC
          go_wp2_with fail
          refine wp_region_bel (by kernel_rfl) (by kernel_rfl) ?_
          repeat (go_big_quiet_step (fail))
          refine wpQuiet_nil ?_
          rintro _ ⟨z3, rfl⟩
          go_wp2
          go_ret
          exact Ret.mk (by rfl) (by (repeat' (first | (with_reducible first | apply Zl1 | apply Zl2 | apply Zl3 | apply Zl4 | apply Zl5 | apply Zl6 | apply Zl7 | apply Zl8 | apply Zl9 | apply Zla | apply Zlb | apply Zlc) | (dsimp only; with_reducible first | apply Zl8 | apply Zl2 | apply Zld) | with_reducible assumption | omega | (dsimp only; omega))))
        · have f5 : decide (u1 ≤ a) = false := decide_eq_false hv
          have HVZ := Lib.hid hvz
          clear hvz
          go_wp2_with fail
          refine wp_region_bel (by kernel_rfl) (by kernel_rfl) ?_
          repeat (go_big_quiet_step (fail))
          refine wpQuiet_nil ?_
          rintro _ ⟨z3, rfl⟩
          go_wp2
          go_roundw
          case rel => exact ⟨(.inr (.inl ⟨rfl, by first | omega | (rw [HVZ.out]; omega)⟩)), ⟨z3.w, y.below.trans (z3.below.mono y.below.size)⟩, rfl⟩
          case measure => simp [intOf]
      · have f4 : decide (1 < xn) = false := decide_eq_false hp
        go_wp2_with fail
        refine wp_region_bel (by kernel_rfl) (by kernel_rfl) ?_
        repeat (go_big_quiet_step (fail))
        refine wpQuiet_nil ?_
        rintro _ ⟨z3, rfl⟩
        go_wp2
        go_roundw
        case rel => exact ⟨(.inr (.inl ⟨rfl, by first | omega | (rw [HVZ.out]; omega)⟩)), ⟨z3.w, y.below.trans (z3.below.mono y.below.size)⟩, rfl⟩
        case measure => simp [intOf]
    · have f6 : decide ((1 : Int) < 2) = true := rfl
      have HK1 := Lib.hid hk1
      clear hk1
      by_cases hp : 1 < xy
      · obtain ⟨q, hq⟩ : ∃ q : Nat, xy - 2 = (q : Int) := ⟨(xy - 2).toNat, by omega⟩
        obtain ⟨u, hu⟩ : ∃ u, L[q]? = some u := ⟨_, List.getElem?_eq_getElem (by omega)⟩
        have hz := HCZ.out q u hu
        have hvz : varZ L xy = u.1 := by
          unfold varZ
          rw [show xy.toNat - 2 = q by omega, getD_some hu]
        have hiq : (0 ≤ (q : Int) ∧ (q : Int) < (L.length : Int)) := ⟨by omega, by omega⟩
        have f4 : decide (1 < xy) = true := decide_eq_true hp
        obtain ⟨u1, u2, u3⟩ := u
        dsimp only at hz hvz
        clear hu
        by_cases hv : u1 ≤ a
        · have f5 : decide (u1 ≤ a) = true := decide_eq_true hv
          have hc := HC.out
          rw [if_pos (by rw [hvz]; omega)] at hc
          subst hc
          clear hvz HC
          go_wp2_with fail
          refine wp_region_bel (by kernel_rfl) (by kernel_rfl) ?_
          repeat (go_big_quiet_step (fail))
          refine wpQuiet_nil ?_
          rintro _ ⟨z3, rfl⟩
          go_wp2
          go_ret
          exact Ret.mk (by rfl) (by (repeat' (first | (with_reducible first | apply Zl1 | apply Zl2 | apply Zl3 | apply Zl4 | apply Zl5 | apply Zl6 | apply Zl7 | apply Zl8 | apply Zl9 | apply Zla | apply Zlb | apply Zlc) | (dsimp only; with_reducible first | apply Zl8 | apply Zl2 | apply Zld) | with_reducible assumption | omega | (dsimp only; omega))))
        · have f5 : decide (u1 ≤ a) = false := decide_eq_false hv
          have HVZ := Lib.hid hvz
          clear hvz
          go_wp2_with fail
          refine wp_region_bel (by kernel_rfl) (by kernel_rfl) ?_
          repeat (go_big_quiet_step (fail))
          refine wpQuiet_nil ?_
          rintro _ ⟨z3, rfl⟩
          go_wp2
          go_roundw
          case rel => exact ⟨(.inr (.inr ⟨rfl, HK1.out, by first | omega | (rw [HVZ.out]; omega)⟩)), ⟨z3.w, y.below.trans (z3.below.mono y.below.size)⟩, rfl⟩
          case measure => simp [intOf]
      · have f4 : decide (1 < xy) = false := decide_eq_false hp
        go_wp2_with fail
        refine wp_region_bel (by kernel_rfl) (by kernel_rfl) ?_
        repeat (go_big_quiet_step (fail))
        refine wpQuiet_nil ?_
        rintro _ ⟨z3, rfl⟩
        go_wp2
        go_roundw
        case rel => exact ⟨(.inr (.inr ⟨rfl, HK1.out, by first | omega | (rw [HVZ.out]; omega)⟩)), ⟨z3.w, y.below.trans (z3.below.mono y.below.size)⟩, rfl⟩
        case measure => simp [intOf]
    · have hc := HC.out
      rw [if_neg (by omega)] at hc
      have hrun := HRUN.out
      rw [hSx] at hrun
      unfold nodeZ at hrun
      clear HC hk1 hk2 HCZ hSx
      by_cases hm : (a, xn, xy) ∈ L.take i
      · rw [if_pos hm] at hc
        subst hc
        rw [decide_eq_true hm] at hrun
        clear hm
        go_wp2
        go_ret
        exact Ret.mk (by rfl) (by (repeat' (first | (with_reducible first | apply Zl1 | apply Zl2 | apply Zl3 | apply Zl4 | apply Zl5 | apply Zl6 | apply Zl7 | apply Zl8 | apply Zl9 | apply Zla | apply Zlb | apply Zlc) | (dsimp only; with_reducible first | apply Zl8 | apply Zl2 | apply Zld) | with_reducible assumption | omega | (dsimp only; omega))))
      · rw [if_neg hm] at hc
        subst hc
        rw [decide_eq_false hm] at hrun
        clear hm
        go_wp2
        go_ret
        exact Ret.mk (by rfl) (by (repeat' (first | (with_reducible first | apply Zl1 | apply Zl2 | apply Zl3 | apply Zl4 | apply Zl5 | apply Zl6 | apply Zl7 | apply Zl8 | apply Zl9 | apply Zla | apply Zlb | apply Zlc) | (dsimp only; with_reducible first | apply Zl8 | apply Zl2 | apply Zld) | with_reducible assumption | omega | (dsimp only; omega))))
end Go.Proofs.YtlnedapimmabdaaGreatDoor

namespace Go.Proofs.YtlnedapimmabdaaGreatDoor
set_option linter.unusedVariables false
set_option linter.unusedSimpArgs false
open Go.RowKit Go.Maps
attribute [local go_sem low] Bel.cell Bel.frozen alloc_cell alloc_frozen
attribute [local go_sem] calmOp chainOp yieldsC grows

theorem errN_from {L : List (Int × Int × Int)} : ∀ (k i f : Nat), (∀ j, i ≤ j → j < i + k → chk1 L j (L.getD j (0, 0, 0)) = 0) → errN L (k + f) i = errN L f (i + k)
  | 0, i, f, _ => by rw [Nat.zero_add, Nat.add_zero]
  | k + 1, i, f, h => by
    rw [show k + 1 + f = (k + f) + 1 by omega, errN, if_pos (h i (Nat.le_refl _) (by omega)), errN_from k (i + 1) f fun j h1 h2 => h j (by omega) (by omega)]
    congr 1
    omega
theorem errN_first {L : List (Int × Int × Int)} {k : Nat} {x : Int × Int × Int} (hx : L[k]? = some x) (h0 : ∀ (j : Nat) (y : Int × Int × Int), j < k → L[j]? = some y → chk1 L j y = 0) (h1 : chk1 L k x ≠ 0) : errN L L.length 0 = chk1 L k x := by
  have hk := (List.getElem?_eq_some_iff.1 hx).1
  have e := errN_from (L := L) k 0 (L.length - k) fun j _ hj => by
    rw [getD_some (List.getElem?_eq_getElem (show j < L.length by omega))]
    exact h0 j _ (by omega) (List.getElem?_eq_getElem (by omega))
  rw [show k + (L.length - k) = L.length by omega, Nat.zero_add] at e
  rw [e, show L.length - k = (L.length - k - 1) + 1 by omega, errN, getD_some hx, if_neg h1]
theorem errN_none {L : List (Int × Int × Int)} (h0 : ∀ (j : Nat) (y : Int × Int × Int), L[j]? = some y → chk1 L j y = 0) : errN L L.length 0 = 0 := by
  refine errN_of _ _ fun j _ hj => ?_
  rw [getD_some (List.getElem?_eq_getElem (show j < L.length by omega))]
  exact h0 j _ (List.getElem?_eq_getElem (by omega))
theorem range2_iff (ls : List Nat) (n : Nat) : ls = List.range' 2 n ↔ ls.length = n ∧ ∀ (j q : Nat), ls[j]? = some q → q = j + 2 := by
  constructor
  · rintro rfl
    refine ⟨List.length_range', fun j q hq => ?_⟩
    obtain ⟨h1, h2⟩ := List.getElem?_eq_some_iff.1 hq
    rw [List.getElem_range'] at h2
    omega
  · rintro ⟨rfl, h⟩
    refine List.ext_getElem? fun j => ?_
    rcases Nat.lt_or_ge j ls.length with hj | hj
    · have e1 : ls[j]? = some (ls[j]'hj) := List.getElem?_eq_getElem hj
      rw [e1, h j _ e1, List.getElem?_eq_getElem (by rw [List.length_range']; exact hj), List.getElem_range']
      congr 1
      omega
    · rw [List.getElem?_eq_none hj, List.getElem?_eq_none (by rw [List.length_range']; exact hj)]
theorem setS_next {L : List (Int × Int × Int)} {k : Nat} {x : Int × Int × Int} {S S' : Value → Bool} (hx : L[k]? = some x) (hS : ∀ y, S (nodeZ y) = decide (y ∈ L.take k)) (h1 : S' (nodeZ x) = true) (ho : ∀ j, j ≠ nodeZ x → S' j = S j) (y : Int × Int × Int) : S' (nodeZ y) = decide (y ∈ L.take (k + 1)) := by
  rw [List.take_add_one, hx]
  by_cases h : y = x
  · subst h
    rw [h1]
    simp
  · rw [ho _ (fun e => h (nodeZ_inj e)), hS]
    congr 1
    simp [h]
set_option maxRecDepth 100000 in
set_option maxHeartbeats 6400000 in
theorem dCheck_any (L : List (Int × Int × Int)) (hL : InI L) (hlen : L.length ≤ 50000) (ad : Option Addr) (cap : Nat) (r : Int) (hr : inI r) (w : World) (hi : InD w.heap.size w ad L) :
    Calls Tryz.prog 71 #[.agg #[.slice ad L.length cap, .int .i64 r]] w (Ret (.int .i64 (chkD L r : Nat)) w) := by
  have HI := Lib.hid hi
  have hmm := @run_makeMap Tryz.prog
  have f0 : decide ((50000 : Int) < (L.length : Int)) = false := decide_eq_false (by omega)
  obtain ⟨c, hc⟩ : ∃ c, chkD L r = c := ⟨_, rfl⟩
  rw [hc]
  have HC := Lib.hid hc
  clear hi hc
  go_enter Tryz.func71, Tryz.ntmps71
  go_wp2
  go_loopw [18] (fun iv wr => ∃ (k n : Nat) (S : Value → Bool), iv = .int .i64 (k : Int) ∧ k ≤ L.length ∧ (∀ (j : Nat) (y : Int × Int × Int), j < k → L[j]? = some y → chk1 L j y = 0) ∧ FunB Tryz.prog 96 4 wr (w.heap.size + 1) n S ∧ n ≤ k ∧ (∀ y, S (nodeZ y) = decide (y ∈ L.take k)) ∧ wr.heap[w.heap.size]? = some (.cells #[.slice ad L.length cap, .int .i64 r] 63 (0, 0)) ∧ Below w.heap.size w wr ∧ w.heap.size + 2 ≤ wr.heap.size) (fun iv _ => L.length - (intOf iv).toNat)
  case atStart =>
    have a0 := World.alloc_heap_new w (.cells #[.slice ad L.length cap, .int .i64 r] 63 (0, 0))
    have hm := funB_made (w.alloc (.cells #[.slice ad L.length cap, .int .i64 r] 63 (0, 0))) Tryz.prog 96 4
    rw [World.size_alloc] at hm
    exact ⟨0, 0, fun _ => false, rfl, by omega, fun j y hj => by omega, hm, Nat.le_refl _, fun y => by simp, obj_alloc _ a0, by (repeat' (first | (with_reducible first | apply Zl1 | apply Zl2 | apply Zl3 | apply Zl4 | apply Zl5 | apply Zl6 | apply Zl7 | apply Zl8 | apply Zl9 | apply Zla | apply Zlb | apply Zlc) | (dsimp only; with_reducible first | apply Zl8 | apply Zl2 | apply Zld) | with_reducible assumption | omega | (dsimp only; omega))), by simp⟩
  case round =>
    obtain ⟨k, n, S, rfl, hk, hz, hm, hn, hS, hbox, hbe, hsz⟩ := hrel
    have hiw := HI.out.of hbe
    have HIW := Lib.hid hiw
    have HZ := Lib.hid hz
    have HM := Lib.hid hm
    have HS := Lib.hid hS
    have HBX := Lib.hid hbox
    have HBE := Lib.hid hbe
    obtain ⟨d0, d1⟩ : wr.cell? ⟨w.heap.size, 0, none⟩ = some (.slice ad L.length cap) ∧ wr.cell? ⟨w.heap.size, 1, none⟩ = some (.int .i64 r) := by
      refine ⟨?_, ?_⟩ <;> simp [World.cell?, hbox]
    clear hz hm hS hbox hbe
    rcases Nat.lt_or_ge k L.length with hkl | hkl
    · obtain ⟨x, hx⟩ : ∃ x, L[k]? = some x := ⟨_, List.getElem?_eq_getElem hkl⟩
      obtain ⟨w0, w1, w2⟩ := hL x (List.mem_of_getElem? hx)
      obtain ⟨kl, hkl'⟩ : ∃ kl, keyOf Tryz.prog 96 (nodeZ x) = some kl := key_node _ _ _ (wf_i64D w0) (wf_i64D w1) (wf_i64D w2)
      have HSI := Lib.hid (fun w' (hb : Below wr.heap.size wr w') => dsingle_any L hL hlen ad cap r k x hx (w.heap.size + 1) n S w' ((HIW.out.lay.of hb).up hb.size) (HM.out.heap fun o ho => obj_in hb ho) HS.out)
      obtain ⟨g, off, hadd, hg, hcs⟩ := hiw (by omega)
      cases hadd
      obtain ⟨x0, x1, x2⟩ := hcs k x hx
      obtain ⟨q, hq⟩ : ∃ q, chk1 L k x = q := ⟨_, rfl⟩
      rw [hq] at HSI
      have HX := Lib.hid hx
      have f1 : decide ((k : Int) < (L.length : Int)) = true := decide_eq_true (by omega)
      have hib : (0 ≤ (k : Int) ∧ (k : Int) < (L.length : Int)) := ⟨by omega, by omega⟩
      have HQ := Lib.hid hq
      obtain ⟨xa, xn, xy⟩ := x
      dsimp only at x0 x1 x2
      clear hcs hiw hx hq
      by_cases h0 : q = 0
      · subst h0
        go_wp2_with fail
        refine (HSI.out _ (by (repeat' (first | (with_reducible first | apply Zl1 | apply Zl2 | apply Zl3 | apply Zl4 | apply Zl5 | apply Zl6 | apply Zl7 | apply Zl8 | apply Zl9 | apply Zla | apply Zlb | apply Zlc) | (dsimp only; with_reducible first | apply Zl8 | apply Zl2 | apply Zld) | with_reducible assumption | omega | (dsimp only; omega))))).mono ?_
        rintro _ _ ⟨rfl, y1, rfl⟩
        have hb1 : Below wr.heap.size wr y1.w := by (repeat' (first | (with_reducible first | apply Zl1 | apply Zl2 | apply Zl3 | apply Zl4 | apply Zl5 | apply Zl6 | apply Zl7 | apply Zl8 | apply Zl9 | apply Zla | apply Zlb | apply Zlc) | (dsimp only; with_reducible first | apply Zl8 | apply Zl2 | apply Zld) | with_reducible assumption | omega | (dsimp only; omega)))
        have o5 := obj_in (show Below _ _ y1.w from y1.below) (World.alloc_heap_new wr (.cells #[.int .i64 xa, .int .i64 xn, .int .i64 xy] 96 (0, 0)))
        have hs1 : wr.heap.size < y1.w.heap.size := (Array.getElem?_eq_some_iff.1 o5).1
        obtain ⟨X5, hX5⟩ : ∃ X5, wr.heap.size = X5 := ⟨_, rfl⟩
        obtain ⟨Z, hZ⟩ : ∃ Z, y1.w = Z := ⟨_, rfl⟩
        rw [hZ] at hb1 o5 hs1 ⊢
        have HB1 := Lib.hid hb1
        rw [hX5] at o5 hs1 hsz ⊢
        obtain ⟨e0, e1, e2⟩ : Z.cell? ⟨X5, 0, none⟩ = some (.int .i64 xa) ∧ Z.cell? ⟨X5, 1, none⟩ = some (.int .i64 xn) ∧ Z.cell? ⟨X5, 2, none⟩ = some (.int .i64 xy) := by
          refine ⟨?_, ?_, ?_⟩ <;> simp [World.cell?, o5]
        have HMZ := Lib.hid (HM.out.heap fun o ho => obj_in hb1 ho)
        have HX5 := Lib.hid hX5
        clear hb1 o5 hX5 hZ y1 HSI
        dsimp only
        go_wp2_with (at_mapUpdate; refine wpList_update_funB _ rfl _ _ _ _ rfl 96 4 keyedN Tryz.underlying146 Tryz.underlying4 (w.heap.size + 1) n S rfl HMZ.out (by unfold maxLen; omega) (.agg #[.int .i64 xa, .int .i64 xn, .int .i64 xy]) kl rfl hkl' rfl ?_; intro w5 S5 hm5 hz5 ho5 hg5; have HM5 := Lib.hid hm5; have HH5 := Lib.hid (And.intro hz5 ho5); have HG5 := Lib.hid hg5; have hs5 := hg5.size; clear hm5 hz5 ho5 hg5)
        go_roundw
        case rel =>
          have hx5 := HX5.out
          refine ⟨k + 1, n + 1, S5, by go_num, by omega, fun j y hj hy => ?_, HM5.out, by omega, setS_next HX.out HS.out HH5.out.1 HH5.out.2, (HG5.out.block w.heap.size (by omega) (fun e => by injection e; omega)).trans (obj_in HB1.out HBX.out), (HBE.out.trans (HB1.out.mono (by omega))).grown HG5.out (by omega) (fun k hk => by injection hk with hk; omega), by omega⟩
          by_cases e : j = k
          · subst e
            rw [HX.out] at hy
            injection hy with hy
            subst hy
            exact HQ.out
          · exact HZ.out j y (by omega) hy
        case measure => simp [intOf]; omega
      · have hcq : c = q := by
          rw [← HC.out]
          have e := errN_first HX.out HZ.out (by rw [HQ.out]; exact h0)
          rw [HQ.out] at e
          unfold chkD
          rw [if_pos (by rw [e]; exact h0), e]
        subst hcq
        have f2 : ((c : Int) != 0) = true := by simp; omega
        clear HC
        go_wp2_with fail
        refine (HSI.out _ (by (repeat' (first | (with_reducible first | apply Zl1 | apply Zl2 | apply Zl3 | apply Zl4 | apply Zl5 | apply Zl6 | apply Zl7 | apply Zl8 | apply Zl9 | apply Zla | apply Zlb | apply Zlc) | (dsimp only; with_reducible first | apply Zl8 | apply Zl2 | apply Zld) | with_reducible assumption | omega | (dsimp only; omega))))).mono ?_
        rintro _ _ ⟨rfl, y1, rfl⟩
        have hbe := HBE.out
        have hbs := hbe.size
        dsimp only
        go_wp2
        go_ret
        exact Ret.mk (by rfl) (by (repeat' (first | (with_reducible first | apply Zl1 | apply Zl2 | apply Zl3 | apply Zl4 | apply Zl5 | apply Zl6 | apply Zl7 | apply Zl8 | apply Zl9 | apply Zla | apply Zlb | apply Zlc) | (dsimp only; with_reducible first | apply Zl8 | apply Zl2 | apply Zld) | with_reducible assumption | omega | (dsimp only; omega))))
    · have hke : k = L.length := by omega
      subst hke
      have he := errN_none fun j y hj => HZ.out j y (List.getElem?_eq_some_iff.1 hj).1 hj
      obtain ⟨hG, hmap⟩ := good_chk he
      have hc := HC.out
      unfold chkD at hc
      rw [if_neg (by rw [he]; simp)] at hc
      have f1 : decide ((L.length : Int) < (L.length : Int)) = false := decide_eq_false (by omega)
      have hbe := HBE.out
      have hbs := hbe.size
      by_cases hr0 : r < 0
      · rw [if_pos (.inl hr0)] at hc
        subst hc
        have f2 : decide (r < 0) = true := decide_eq_true hr0
        clear HC HZ HM HS he hG hmap hiw
        go_wp2
        go_ret
        exact Ret.mk (by rfl) (by (repeat' (first | (with_reducible first | apply Zl1 | apply Zl2 | apply Zl3 | apply Zl4 | apply Zl5 | apply Zl6 | apply Zl7 | apply Zl8 | apply Zl9 | apply Zla | apply Zlb | apply Zlc) | (dsimp only; with_reducible first | apply Zl8 | apply Zl2 | apply Zld) | with_reducible assumption | omega | (dsimp only; omega))))
      have f2 : decide (r < 0) = false := decide_eq_false hr0
      by_cases hr1 : (L.length : Int) + 2 ≤ r
      · rw [if_pos (.inr hr1)] at hc
        subst hc
        have f3 : decide ((L.length : Int) + 2 ≤ r) = true := decide_eq_true hr1
        clear HC HZ HM HS he hG hmap hiw
        go_wp2
        go_ret
        exact Ret.mk (by rfl) (by (repeat' (first | (with_reducible first | apply Zl1 | apply Zl2 | apply Zl3 | apply Zl4 | apply Zl5 | apply Zl6 | apply Zl7 | apply Zl8 | apply Zl9 | apply Zla | apply Zlb | apply Zlc) | (dsimp only; with_reducible first | apply Zl8 | apply Zl2 | apply Zld) | with_reducible assumption | omega | (dsimp only; omega))))
      have f3 : decide ((L.length : Int) + 2 ≤ r) = false := decide_eq_false hr1
      rw [if_neg (by omega)] at hc
      by_cases hp : 0 < L.length ∧ r ≠ (L.length : Int) + 1
      · rw [if_pos (.inl hp)] at hc
        subst hc
        have f4 : decide ((0 : Int) < (L.length : Int)) = true := decide_eq_true (by omega)
        have f4' : (0 < L.length) = True := eq_true hp.1
        have f5 : (r != (L.length : Int) + 1) = true := by simp; exact hp.2
        clear HC HZ HM HS he hG hmap hiw hp
        go_wp2
        go_ret
        exact Ret.mk (by rfl) (by (repeat' (first | (with_reducible first | apply Zl1 | apply Zl2 | apply Zl3 | apply Zl4 | apply Zl5 | apply Zl6 | apply Zl7 | apply Zl8 | apply Zl9 | apply Zla | apply Zlb | apply Zlc) | (dsimp only; with_reducible first | apply Zl8 | apply Zl2 | apply Zld) | with_reducible assumption | omega | (dsimp only; omega))))
      have hG2 : ∀ rn : Nat, rn < L.length + 2 → True := fun _ _ => trivial
      clear hG2
      rw [if_neg (by omega)] at hc
      obtain ⟨rn, rfl⟩ : ∃ rn : Nat, r = (rn : Int) := ⟨r.toNat, by omega⟩
      rw [Int.toNat_natCast] at hc
      have hrl : rn < (L.map n3).length + 2 := by rw [List.length_map]; omega
      have HW := Lib.hid (fun w' (hi' : InD w'.heap.size w' ad L) => (show Calls Tryz.prog 96 #[.slice ad L.length cap, .int .i64 (rn : Int)] w' (fun e w'' => ∃ v, e = .returned v ∧ OwnN w'' w'.heap.size v (dfs3 (L.map n3) (rn + 1) rn []) ∧ Below w'.heap.size w' w'') from by
        have := walk_any hG (by rw [List.length_map]; omega) rn hrl ad cap w' (by rw [hmap]; exact hi')
        rwa [List.length_map] at this))
      obtain ⟨ls, hls⟩ : ∃ ls, dfs3 (L.map n3) (rn + 1) rn [] = ls := ⟨_, rfl⟩
      have hlsl := ordr3_len (dfs3_ordr hG (rn + 1) rn [] (Nat.lt_succ_self _) hrl (ordr3_nil _))
      rw [hls] at HW hc hlsl
      rw [List.length_map] at hlsl
      have HC2 := Lib.hid hc
      clear HC HZ HM HS he hG hmap hls hc hrl
      have hbx := HBX.out
      have HLS := Lib.hid hlsl
      have hlsb : ls.length ≤ 50000 := by omega
      clear hlsl
      by_cases h0 : 0 < L.length
      · have f4 : decide ((0 : Int) < (L.length : Int)) = true := decide_eq_true (by omega)
        have f4' : (0 < L.length) = True := eq_true h0
        have f5 : ((rn : Int) != (L.length : Int) + 1) = false := by simp; omega
        have f6 : ((L.length : Int) == 0) = false := beq_eq_false_iff_ne.2 (by omega)
        have h0' := Lib.hid hp
        clear hp
        go_wp2_with fail
        refine (HW.out _ HIW.out.lay).mono ?_
        rintro _ W1 ⟨lv, rfl, how, hb1⟩
        obtain ⟨la, lc, rfl, hlc⟩ := ownN_sl how
        have HLC := Lib.hid hlc
        have HB1 := Lib.hid hb1
        have hs1 := hb1.size
        have d0' := cell_in hb1 d0
        have d1' := cell_in hb1 d1
        have HI1 := Lib.hid ((HIW.out.lay.of hb1).up hs1)
        clear d0 d1 how hlc hb1
        dsimp only
        go_wp2_with fail
        go_loopw [70] (fun iv wq => ∃ k : Nat, iv = .int .i64 (k : Int) ∧ k ≤ ls.length ∧ (∀ (j q : Nat), j < k → ls[j]? = some q → q = j + 2) ∧ wq = W1) (fun iv _ => ls.length - (intOf iv).toNat)
        case atStart => exact ⟨0, rfl, by omega, fun j q hj => by omega, rfl⟩
        case round =>
          obtain ⟨k, rfl, hk, hz, rfl⟩ := hrel
          have HZ := Lib.hid hz
          clear hz
          rcases Nat.lt_or_ge k ls.length with hkl | hkl
          · obtain ⟨q, hq⟩ : ∃ q, ls[k]? = some q := ⟨_, List.getElem?_eq_getElem hkl⟩
            obtain ⟨gl, hla, _, _, hcl⟩ := HLC.out k q hq
            subst hla
            have g1 : decide ((k : Int) < (ls.length : Int)) = true := decide_eq_true (by omega)
            have hik : (0 ≤ (k : Int) ∧ (k : Int) < (ls.length : Int)) := ⟨by omega, by omega⟩
            have HQ := Lib.hid hq
            clear hq
            by_cases hqk : q = k + 2
            · have g2 : ((q : Int) != (k : Int) + 2) = false := by simp; omega
              have HQK := Lib.hid hqk
              clear hqk
              go_wp2
              go_roundw
              case rel =>
                refine ⟨k + 1, by go_num, by omega, fun j q' hj hq' => ?_, trivial⟩
                by_cases e : j = k
                · subst e
                  rw [HQ.out] at hq'
                  injection hq' with hq'
                  rw [← hq', HQK.out]
                · exact HZ.out j q' (by omega) hq'
              case measure => simp [intOf]; omega
            · have g2 : ((q : Int) != (k : Int) + 2) = true := by simp; omega
              have hc := HC2.out
              rw [if_neg (fun e => hqk (((range2_iff ls _).1 e).2 k q HQ.out))] at hc
              subst hc
              have hbt := hbe.trans (HB1.out.mono hbs)
              clear HC2
              go_wp2
              go_ret
              exact Ret.mk (by rfl) (by (repeat' (first | (with_reducible first | apply Zl1 | apply Zl2 | apply Zl3 | apply Zl4 | apply Zl5 | apply Zl6 | apply Zl7 | apply Zl8 | apply Zl9 | apply Zla | apply Zlb | apply Zlc) | (dsimp only; with_reducible first | apply Zl8 | apply Zl2 | apply Zld) | with_reducible assumption | omega | (dsimp only; omega))))
          · have hke : k = ls.length := by omega
            subst hke
            have g1 : decide ((ls.length : Int) < (ls.length : Int)) = false := decide_eq_false (by omega)
            have hc := HC2.out
            have HW2 := Lib.hid (HW.out _ HI1.out.lay)
            clear HC2 HW
            by_cases hll : ls.length = L.length
            · rw [if_pos ((range2_iff ls _).2 ⟨hll, fun j q hq => HZ.out j q (List.getElem?_eq_some_iff.1 hq).1 hq⟩)] at hc
              subst hc
              go_wp2_with fail
              refine HW2.out.mono ?_
              rintro _ W2 ⟨lv2, rfl, how2, hb2⟩
              obtain ⟨la2, lc2, rfl, _⟩ := ownN_sl how2
              have g2 : ((ls.length : Int) != (L.length : Int)) = false := by simp; omega
              have hb1 := HB1.out
              have hs2 := hb2.size
              clear how2
              dsimp only
              go_wp2
              refine bodyPost_ret (v := .int .i64 0) (by simp [results, Tryz.results71, go_sem]) rfl (Ret.mk rfl ((hbe.trans (hb1.mono hbs)).trans (hb2.mono (by omega))))
            · rw [if_neg (fun e => hll ((range2_iff ls _).1 e).1)] at hc
              subst hc
              go_wp2_with fail
              refine HW2.out.mono ?_
              rintro _ W2 ⟨lv2, rfl, how2, hb2⟩
              obtain ⟨la2, lc2, rfl, _⟩ := ownN_sl how2
              have g2 : ((ls.length : Int) != (L.length : Int)) = true := by simp; omega
              have hb1 := HB1.out
              have hs2 := hb2.size
              clear how2
              dsimp only
              go_wp2
              refine bodyPost_ret (v := .int .i64 7) (by simp [results, Tryz.results71, go_sem]) rfl (Ret.mk rfl ((hbe.trans (hb1.mono hbs)).trans (hb2.mono (by omega))))
      · have f4 : decide ((0 : Int) < (L.length : Int)) = false := decide_eq_false (by omega)
        have f4' : (0 < L.length) = False := eq_false h0
        have f6 : ((L.length : Int) == 0) = true := beq_iff_eq.2 (by omega)
        have f7 : decide ((1 : Int) < (rn : Int)) = false := decide_eq_false (by omega)
        have h0' := Lib.hid hp
        clear hp
        go_wp2_with fail
        refine (HW.out _ HIW.out.lay).mono ?_
        rintro _ W1 ⟨lv, rfl, how, hb1⟩
        obtain ⟨la, lc, rfl, hlc⟩ := ownN_sl how
        have HLC := Lib.hid hlc
        have HB1 := Lib.hid hb1
        have hs1 := hb1.size
        have d0' := cell_in hb1 d0
        have d1' := cell_in hb1 d1
        have HI1 := Lib.hid ((HIW.out.lay.of hb1).up hs1)
        clear d0 d1 how hlc hb1
        dsimp only
        go_wp2_with fail
        go_loopw [70] (fun iv wq => ∃ k : Nat, iv = .int .i64 (k : Int) ∧ k ≤ ls.length ∧ (∀ (j q : Nat), j < k → ls[j]? = some q → q = j + 2) ∧ wq = W1) (fun iv _ => ls.length - (intOf iv).toNat)
        case atStart => exact ⟨0, rfl, by omega, fun j q hj => by omega, rfl⟩
        case round =>
          obtain ⟨k, rfl, hk, hz, rfl⟩ := hrel
          have HZ := Lib.hid hz
          clear hz
          rcases Nat.lt_or_ge k ls.length with hkl | hkl
          · obtain ⟨q, hq⟩ : ∃ q, ls[k]? = some q := ⟨_, List.getElem?_eq_getElem hkl⟩
            obtain ⟨gl, hla, _, _, hcl⟩ := HLC.out k q hq
            subst hla
            have g1 : decide ((k : Int) < (ls.length : Int)) = true := decide_eq_true (by omega)
            have hik : (0 ≤ (k : Int) ∧ (k : Int) < (ls.length : Int)) := ⟨by omega, by omega⟩
            have HQ := Lib.hid hq
            clear hq
            by_cases hqk : q = k + 2
            · have g2 : ((q : Int) != (k : Int) + 2) = false := by simp; omega
              have HQK := Lib.hid hqk
              clear hqk
              go_wp2
              go_roundw
              case rel =>
                refine ⟨k + 1, by go_num, by omega, fun j q' hj hq' => ?_, trivial⟩
                by_cases e : j = k
                · subst e
                  rw [HQ.out] at hq'
                  injection hq' with hq'
                  rw [← hq', HQK.out]
                · exact HZ.out j q' (by omega) hq'
              case measure => simp [intOf]; omega
            · have g2 : ((q : Int) != (k : Int) + 2) = true := by simp; omega
              have hc := HC2.out
              rw [if_neg (fun e => hqk (((range2_iff ls _).1 e).2 k q HQ.out))] at hc
              subst hc
              have hbt := hbe.trans (HB1.out.mono hbs)
              clear HC2
              go_wp2
              go_ret
              exact Ret.mk (by rfl) (by (repeat' (first | (with_reducible first | apply Zl1 | apply Zl2 | apply Zl3 | apply Zl4 | apply Zl5 | apply Zl6 | apply Zl7 | apply Zl8 | apply Zl9 | apply Zla | apply Zlb | apply Zlc) | (dsimp only; with_reducible first | apply Zl8 | apply Zl2 | apply Zld) | with_reducible assumption | omega | (dsimp only; omega))))
          · have hke : k = ls.length := by omega
            subst hke
            have g1 : decide ((ls.length : Int) < (ls.length : Int)) = false := decide_eq_false (by omega)
            have hc := HC2.out
            have HW2 := Lib.hid (HW.out _ HI1.out.lay)
            clear HC2 HW
            by_cases hll : ls.length = L.length
            · rw [if_pos ((range2_iff ls _).2 ⟨hll, fun j q hq => HZ.out j q (List.getElem?_eq_some_iff.1 hq).1 hq⟩)] at hc
              subst hc
              go_wp2_with fail
              refine HW2.out.mono ?_
              rintro _ W2 ⟨lv2, rfl, how2, hb2⟩
              obtain ⟨la2, lc2, rfl, _⟩ := ownN_sl how2
              have g2 : ((ls.length : Int) != (L.length : Int)) = false := by simp; omega
              have hb1 := HB1.out
              have hs2 := hb2.size
              clear how2
              dsimp only
              go_wp2
              refine bodyPost_ret (v := .int .i64 0) (by simp [results, Tryz.results71, go_sem]) rfl (Ret.mk rfl ((hbe.trans (hb1.mono hbs)).trans (hb2.mono (by omega))))
            · rw [if_neg (fun e => hll ((range2_iff ls _).1 e).1)] at hc
              subst hc
              go_wp2_with fail
              refine HW2.out.mono ?_
              rintro _ W2 ⟨lv2, rfl, how2, hb2⟩
              obtain ⟨la2, lc2, rfl, _⟩ := ownN_sl how2
              have g2 : ((ls.length : Int) != (L.length : Int)) = true := by simp; omega
              have hb1 := HB1.out
              have hs2 := hb2.size
              clear how2
              dsimp only
              go_wp2
              refine bodyPost_ret (v := .int .i64 7) (by simp [results, Tryz.results71, go_sem]) rfl (Ret.mk rfl ((hbe.trans (hb1.mono hbs)).trans (hb2.mono (by omega))))
end Go.Proofs.YtlnedapimmabdaaGreatDoor
