/- The reference's check of a node, and of a diagram. -/
import Derived.Test.YtkdmhjlcgpnjpaaGreatDoorXY
import Derived.Test.YtkdmhjlcgpnjpaaGreatDoorX19
import Derived.Test.YtkdmhjlcgpnjpaaGreatDoorXF
namespace Go.Proofs.YtkdmhjlcgpnjpaaGreatDoor
set_option linter.unusedVariables false
set_option linter.unusedSimpArgs false
open Go.RowKit Go.Maps
attribute [local go_sem low] Bel.cell Bel.frozen alloc_cell alloc_frozen

theorem run_eq_nodeZ (xa xb xc za zb zc : Int) (w : World) : (binOp .eql 55 (.agg #[.int .i64 xa, .int .i64 xb, .int .i64 xc]) (.agg #[.int .i64 za, .int .i64 zb, .int .i64 zc])).run Tryz.prog w = .ok (.bool ((xa == za) && ((xb == zb) && (xc == zc)))) w := by
  have e : ∀ (a b : Int) (w : World), (Op.equalIn 9999 3 (.int .i64 a) (.int .i64 b)).run Tryz.prog w = .ok (a == b) w := fun a b w => run_equalIn_int w 9998 3 .i64 .i64 a b Tryz.underlying3
  rw [run_eql_struct, run_equalIn_agg w 9999 55 _ _ node_under node_stood]
  simp [Program.fieldsOf, Tryz.underlying55, Op.eqFields, part, e]
  cases h1 : (xa == za) <;> cases h2 : (xb == zb) <;> cases h3 : (xc == zc) <;> simp_all
theorem guard_eqZ (x y : Operand) (xs ys : Array Value) (w : World) : (eqGuard .eql 55 x y (.agg xs) (.agg ys)).run Tryz.prog w = .ok () w := run_eqGuard_agg w _ _ _ _ _ _ (by kernel_rfl)
theorem node_sameZ (xa xb xc : Int) (w : World) : (binOp .eql 55 (.agg #[.int .i64 xa, .int .i64 xb, .int .i64 xc]) (.agg #[.int .i64 xa, .int .i64 xb, .int .i64 xc])).run Tryz.prog w = .ok (.bool true) w := by
  rw [run_eq_nodeZ]
  simp
set_option maxRecDepth 100000 in
set_option maxHeartbeats 12800000 in
theorem lchk1_lt (L : List (Int × Int × Int)) (hlen : L.length ≤ 100) (i : Nat) (x : Int × Int × Int) (hx : L[i]? = some x) (ad : Option Addr) (cap : Nat) (w : World) (hi : InD w.heap.size w ad L) (hcmp : x.2.1 < x.2.2) :
    Calls Tryz.prog 82 #[.slice ad L.length cap, .int .i64 (i : Int)] w (Ret (.int .i64 (chk1 L i x : Nat)) w) := by
  have hil := (List.getElem?_eq_some_iff.1 hx).1
  have hii : (0 ≤ (i : Int) ∧ (i : Int) < (L.length : Int)) := ⟨by omega, by omega⟩
  obtain ⟨xa, xn, xy⟩ := x
  dsimp only at hcmp
  have zl0 : (xn < xy) = True := eq_true (by omega)
  have zd0 : decide (xn < xy) = true := decide_eq_true (by omega)
  have zl1 : (xn ≤ xy) = True := eq_true (by omega)
  have zd1 : decide (xn ≤ xy) = true := decide_eq_true (by omega)
  have zl2 : (xy < xn) = False := eq_false (by omega)
  have zd2 : decide (xy < xn) = false := decide_eq_false (by omega)
  have zl3 : (xy ≤ xn) = False := eq_false (by omega)
  have zd3 : decide (xy ≤ xn) = false := decide_eq_false (by omega)
  obtain ⟨g, off, hadd, hg, hcs⟩ := hi (by omega)
  subst hadd
  obtain ⟨x0, x1, x2⟩ := hcs i (xa, xn, xy) hx
  dsimp only at x0 x1 x2
  have HCS := Lib.hid hcs
  have HI := Lib.hid hi
  clear hcs hi hx
  by_cases hr : xa < 0 ∨ 4096 ≤ xa ∨ xn < 0 ∨ (i : Int) + 2 ≤ xn ∨ xy < 0 ∨ (i : Int) + 2 ≤ xy
  · have hch : chk1 L i (xa, xn, xy) = 3 := by unfold chk1; rw [if_pos hr]
    rw [hch]
    clear hch HCS HI
    by_cases c1 : xa < 0
    · have f1 : decide (xa < 0) = true := decide_eq_true c1
      clear hr
      go_enter Tryz.func82, Tryz.ntmps82
      go_wp2
      go_ret
      exact Ret.mk (by rfl) (by (repeat' (first | (with_reducible first | exact Below.refl _ _ | exact Nat.le_refl _ | refine Below.bel ?_ ?_ | refine Below.alloc ?_ ?_ _ | refine Below.drew ?_ | refine Below.drawsN ?_ _ | refine Below.setCell ?_ ?_ _ | refine le_bel ?_ | refine le_alloc ?_ | refine le_setCell ?_ | refine le_drew ?_ | refine le_drawsN ?_) | (dsimp only; with_reducible first | refine le_bel ?_ | refine Nat.le_refl _ | refine le_bel_add ?_) | (with_reducible assumption) | omega | (dsimp only; omega))))
    have f1 : decide (xa < 0) = false := decide_eq_false c1
    by_cases c2 : 4096 ≤ xa
    · have f2 : decide (4096 ≤ xa) = true := decide_eq_true c2
      clear hr
      go_enter Tryz.func82, Tryz.ntmps82
      go_wp2
      go_ret
      exact Ret.mk (by rfl) (by (repeat' (first | (with_reducible first | exact Below.refl _ _ | exact Nat.le_refl _ | refine Below.bel ?_ ?_ | refine Below.alloc ?_ ?_ _ | refine Below.drew ?_ | refine Below.drawsN ?_ _ | refine Below.setCell ?_ ?_ _ | refine le_bel ?_ | refine le_alloc ?_ | refine le_setCell ?_ | refine le_drew ?_ | refine le_drawsN ?_) | (dsimp only; with_reducible first | refine le_bel ?_ | refine Nat.le_refl _ | refine le_bel_add ?_) | (with_reducible assumption) | omega | (dsimp only; omega))))
    have f2 : decide (4096 ≤ xa) = false := decide_eq_false c2
    by_cases c3 : xn < 0
    · have f3 : decide (xn < 0) = true := decide_eq_true c3
      clear hr
      go_enter Tryz.func82, Tryz.ntmps82
      go_wp2
      go_ret
      exact Ret.mk (by rfl) (by (repeat' (first | (with_reducible first | exact Below.refl _ _ | exact Nat.le_refl _ | refine Below.bel ?_ ?_ | refine Below.alloc ?_ ?_ _ | refine Below.drew ?_ | refine Below.drawsN ?_ _ | refine Below.setCell ?_ ?_ _ | refine le_bel ?_ | refine le_alloc ?_ | refine le_setCell ?_ | refine le_drew ?_ | refine le_drawsN ?_) | (dsimp only; with_reducible first | refine le_bel ?_ | refine Nat.le_refl _ | refine le_bel_add ?_) | (with_reducible assumption) | omega | (dsimp only; omega))))
    have f3 : decide (xn < 0) = false := decide_eq_false c3
    have f4 : decide ((i : Int) + 2 ≤ xy) = true := decide_eq_true (by omega)
    clear hr
    go_enter Tryz.func82, Tryz.ntmps82
    go_wp2
    go_ret
    exact Ret.mk (by rfl) (by (repeat' (first | (with_reducible first | exact Below.refl _ _ | exact Nat.le_refl _ | refine Below.bel ?_ ?_ | refine Below.alloc ?_ ?_ _ | refine Below.drew ?_ | refine Below.drawsN ?_ _ | refine Below.setCell ?_ ?_ _ | refine le_bel ?_ | refine le_alloc ?_ | refine le_setCell ?_ | refine le_drew ?_ | refine le_drawsN ?_) | (dsimp only; with_reducible first | refine le_bel ?_ | refine Nat.le_refl _ | refine le_bel_add ?_) | (with_reducible assumption) | omega | (dsimp only; omega))))
  obtain ⟨n, rfl⟩ := Int.eq_ofNat_of_zero_le (show 0 ≤ xn by omega)
  obtain ⟨m, rfl⟩ := Int.eq_ofNat_of_zero_le (show 0 ≤ xy by omega)
  have f1 : decide (xa < 0) = false := decide_eq_false (by omega)
  have f2 : decide (4096 ≤ xa) = false := decide_eq_false (by omega)
  clear zl0 zl1 zl2 zl3 zd0 zd1 zd2 zd3
  have nl0 : (n < m) = True := eq_true (by omega)
  have nd0 : decide (n < m) = true := decide_eq_true (by omega)
  have nl1 : (n ≤ m) = True := eq_true (by omega)
  have nd1 : decide (n ≤ m) = true := decide_eq_true (by omega)
  have nl2 : (m < n) = False := eq_false (by omega)
  have nd2 : decide (m < n) = false := decide_eq_false (by omega)
  have nl3 : (m ≤ n) = False := eq_false (by omega)
  have nd3 : decide (m ≤ n) = false := decide_eq_false (by omega)
  have f3 : decide ((n : Int) < 0) = false := decide_eq_false (by omega)
  have f4 : decide ((i : Int) + 2 ≤ (m : Int)) = false := decide_eq_false (by omega)
  have f4n : decide (i + 2 ≤ m) = false := decide_eq_false (by omega)
  by_cases hnm : (n : Int) = (m : Int)
  · have hch : chk1 L i (xa, (n : Int), (m : Int)) = 7 := by unfold chk1; rw [if_neg hr, if_pos hnm]
    rw [hch]
    have f5 : ((n : Int) == (m : Int)) = true := beq_iff_eq.2 hnm
    clear hch HCS HI hr hnm
    go_enter Tryz.func82, Tryz.ntmps82
    go_wp2
    go_ret
    exact Ret.mk (by rfl) (by (repeat' (first | (with_reducible first | exact Below.refl _ _ | exact Nat.le_refl _ | refine Below.bel ?_ ?_ | refine Below.alloc ?_ ?_ _ | refine Below.drew ?_ | refine Below.drawsN ?_ _ | refine Below.setCell ?_ ?_ _ | refine le_bel ?_ | refine le_alloc ?_ | refine le_setCell ?_ | refine le_drew ?_ | refine le_drawsN ?_) | (dsimp only; with_reducible first | refine le_bel ?_ | refine Nat.le_refl _ | refine le_bel_add ?_) | (with_reducible assumption) | omega | (dsimp only; omega))))
  have f5 : ((n : Int) == (m : Int)) = false := beq_eq_false_iff_ne.2 hnm
  obtain ⟨D, hD⟩ : ∃ D, chk1 L i (xa, (n : Int), (m : Int)) = D := ⟨_, rfl⟩
  rw [hD]
  have HDD := Lib.hid hD
  clear hD
  have HOB := Lib.hid (World.alloc_heap_new w (.cells #[.int .i64 xa, .int .i64 (n : Int), .int .i64 (m : Int)] 55))
  obtain ⟨p0, p1, p2⟩ := box3 HOB.out
  have hv : ∀ q : Nat, 1 < q → q < i + 2 → ∃ (z : Int) (r : Nat), varZ L (q : Int) = z ∧ ((q : Int) - 2) = (r : Int) ∧ (0 ≤ (r : Int) ∧ (r : Int) < (L.length : Int)) ∧ w.cell? ⟨g, off + r * 3, none⟩ = some (.int .i64 z) := fun q h1 h2 => by
    obtain ⟨z, hz⟩ : ∃ z, L[q - 2]? = some z := ⟨_, List.getElem?_eq_getElem (by omega)⟩
    refine ⟨z.1, q - 2, ?_, by omega, ⟨by omega, by omega⟩, (HCS.out (q - 2) z hz).1⟩
    unfold varZ
    rw [Int.toNat_natCast, List.getD_eq_getElem?_getD, hz]
    rfl
  have hal : Below w.heap.size w (w.alloc (.cells #[.int .i64 xa, .int .i64 (n : Int), .int .i64 (m : Int)] 55)) := (Below.refl _ _).alloc (Nat.le_refl _) _
  have hv2 : ∀ q : Nat, 1 < q → q < i + 2 → ∃ (z : Int) (r : Nat), varZ L (q : Int) = z ∧ ((q : Int) - 2) = (r : Int) ∧ (0 ≤ (r : Int) ∧ (r : Int) < (L.length : Int)) ∧ (w.alloc (.cells #[.int .i64 xa, .int .i64 (n : Int), .int .i64 (m : Int)] 55)).cell? ⟨g, off + r * 3, none⟩ = some (.int .i64 z) := fun q h1 h2 => by
    obtain ⟨z, r, k1, k2, k3, k4⟩ := hv q h1 h2
    exact ⟨z, r, k1, k2, k3, cell_in hal k4⟩
  have HV := Lib.hid hv2
  clear hv hv2 hal
  have hin : n < i + 2 := by omega
  have him : m < i + 2 := by omega
  by_cases c1 : 1 < n
  · have g1 : decide (1 < (n : Int)) = true := decide_eq_true (by omega)
    obtain ⟨zn, rn, hzn, hrn, hbn, hcn⟩ := HV.out n c1 hin
    by_cases c2 : zn ≤ xa
    · have g2 : decide (zn ≤ xa) = true := decide_eq_true c2
      have HC := Lib.hid (show (1 < (n : Int) ∧ varZ L (n : Int) ≤ xa) ∨ (1 < (m : Int) ∧ varZ L (m : Int) ≤ xa) from .inl ⟨by omega, by rw [hzn]; exact c2⟩)
      clear hzn c2
      have hch : D = 6 := by
        rw [← HDD.out]
        unfold chk1
        rw [if_neg hr, if_neg hnm, if_pos HC.out]
      subst hch
      clear hr hnm HCS HI
      go_enter Tryz.func82, Tryz.ntmps82
      go_wp2_with fail
      refine wp_region_bel (by kernel_rfl) (by kernel_rfl) ?_
      repeat (go_big_quiet_step (fail))
      refine wpQuiet_nil ?_
      rintro _ ⟨z9, rfl⟩
      go_wp2
      go_ret
      exact Ret.mk (by rfl) (by (repeat' (first | (with_reducible first | exact Below.refl _ _ | exact Nat.le_refl _ | refine Below.bel ?_ ?_ | refine Below.alloc ?_ ?_ _ | refine Below.drew ?_ | refine Below.drawsN ?_ _ | refine Below.setCell ?_ ?_ _ | refine le_bel ?_ | refine le_alloc ?_ | refine le_setCell ?_ | refine le_drew ?_ | refine le_drawsN ?_) | (dsimp only; with_reducible first | refine le_bel ?_ | refine Nat.le_refl _ | refine le_bel_add ?_) | (with_reducible assumption) | omega | (dsimp only; omega))))
    · have g2 : decide (zn ≤ xa) = false := decide_eq_false c2
      have HNN := Lib.hid (show ¬ (1 < (n : Int) ∧ varZ L (n : Int) ≤ xa) from by rw [hzn]; omega)
      clear hzn c2
      have d1 : 1 < m := by omega
      have g3 : decide (1 < (m : Int)) = true := decide_eq_true (by omega)
      obtain ⟨zm, rm, hzm, hrm, hbm, hcm⟩ := HV.out m d1 him
      by_cases d2 : zm ≤ xa
      · have g4 : decide (zm ≤ xa) = true := decide_eq_true d2
        have HC := Lib.hid (show (1 < (n : Int) ∧ varZ L (n : Int) ≤ xa) ∨ (1 < (m : Int) ∧ varZ L (m : Int) ≤ xa) from .inr ⟨by omega, by rw [hzm]; exact d2⟩)
        clear hzm d2
        have hch : D = 6 := by
          rw [← HDD.out]
          unfold chk1
          rw [if_neg hr, if_neg hnm, if_pos HC.out]
        subst hch
        clear hr hnm HCS HI
        go_enter Tryz.func82, Tryz.ntmps82
        go_wp2_with fail
        refine wp_region_bel (by kernel_rfl) (by kernel_rfl) ?_
        repeat (go_big_quiet_step (fail))
        refine wpQuiet_nil ?_
        rintro _ ⟨z9, rfl⟩
        go_wp2
        go_ret
        exact Ret.mk (by rfl) (by (repeat' (first | (with_reducible first | exact Below.refl _ _ | exact Nat.le_refl _ | refine Below.bel ?_ ?_ | refine Below.alloc ?_ ?_ _ | refine Below.drew ?_ | refine Below.drawsN ?_ _ | refine Below.setCell ?_ ?_ _ | refine le_bel ?_ | refine le_alloc ?_ | refine le_setCell ?_ | refine le_drew ?_ | refine le_drawsN ?_) | (dsimp only; with_reducible first | refine le_bel ?_ | refine Nat.le_refl _ | refine le_bel_add ?_) | (with_reducible assumption) | omega | (dsimp only; omega))))
      · have g4 : decide (zm ≤ xa) = false := decide_eq_false d2
        have HZM := Lib.hid hzm
        have HC := Lib.hid (show ¬ ((1 < (n : Int) ∧ varZ L (n : Int) ≤ xa) ∨ (1 < (m : Int) ∧ varZ L (m : Int) ≤ xa)) from by
          rw [HZM.out]
          have := HNN.out
          omega)
        clear hzm d2
        go_enter Tryz.func82, Tryz.ntmps82
        go_wp2_with fail
        refine wp_region_bel (by kernel_rfl) (by kernel_rfl) ?_
        repeat (go_big_quiet_step (fail))
        refine wpQuiet_nil ?_
        rintro _ ⟨z9, rfl⟩
        have hch : D = if (xa, (n : Int), (m : Int)) ∈ L.take i then 9 else 0 := by
          rw [← HDD.out]
          unfold chk1
          rw [if_neg hr, if_neg hnm, if_neg HC.out]
        have HCH := Lib.hid hch
        have hbz9 : Below w.heap.size w z9.w := by (repeat' (first | (with_reducible first | exact Below.refl _ _ | exact Nat.le_refl _ | refine Below.bel ?_ ?_ | refine Below.alloc ?_ ?_ _ | refine Below.drew ?_ | refine Below.drawsN ?_ _ | refine Below.setCell ?_ ?_ _ | refine le_bel ?_ | refine le_alloc ?_ | refine le_setCell ?_ | refine le_drew ?_ | refine le_drawsN ?_) | (dsimp only; with_reducible first | refine le_bel ?_ | refine Nat.le_refl _ | refine le_bel_add ?_) | (with_reducible assumption) | omega | (dsimp only; omega)))
        have oz := obj_bel z9 HOB.out
        obtain ⟨Z, hZ⟩ : ∃ Z, z9.w = Z := ⟨_, rfl⟩
        rw [hZ] at hbz9 oz ⊢
        have HBZ := Lib.hid hbz9
        have HOZ := Lib.hid oz
        have HIW := Lib.hid (HI.out.of hbz9)
        clear hbz9 oz hZ z9 hch HOB hr hnm f1 f2 f3 f4 f5
        go_wp2
        go_loopw [6] (fun iv wr => ∃ k : Nat, iv = .int .i64 (k : Int) ∧ k ≤ i ∧ (∀ j, j < k → L[j]? ≠ some (xa, (n : Int), (m : Int))) ∧ ∃ y : Bel Z, wr = y.w) (fun iv _ => i - (intOf iv).toNat)
        case atStart => exact ⟨0, rfl, Nat.zero_le _, fun j h => by omega, ⟨Z, Below.refl _ _⟩, rfl⟩
        case round =>
          obtain ⟨k, rfl, hk, hno, y, rfl⟩ := hrel
          have HNO := Lib.hid hno
          have hzs := HBZ.out.size
          clear hno
          rcases Nat.lt_or_ge k i with hki | hki
          · obtain ⟨u, hu⟩ : ∃ u, L[k]? = some u := ⟨_, List.getElem?_eq_getElem (by omega)⟩
            obtain ⟨ua, un, uy⟩ := u
            obtain ⟨g', off', hadd, _, hcs'⟩ := (HIW.out.of (y.below.mono hzs)) (by omega)
            cases hadd
            obtain ⟨u0, u1, u2⟩ := hcs' k (ua, un, uy) hu
            dsimp only at u0 u1 u2
            obtain ⟨e0, e1, e2⟩ := box3 (obj_bel y HOZ.out)
            have g1 : decide ((k : Int) < (i : Int)) = true := decide_eq_true (by omega)
            have hkb : (0 ≤ (k : Int) ∧ (k : Int) < (L.length : Int)) := ⟨by omega, by omega⟩
            have hgd := guard_eqZ
            have HU := Lib.hid hu
            clear hcs' hu
            by_cases he : (ua, un, uy) = (xa, (n : Int), (m : Int))
            · have h1 : ua = xa := congrArg (fun z => z.1) he
              have h2 : un = (n : Int) := congrArg (fun z => z.2.1) he
              have h3 : uy = (m : Int) := congrArg (fun z => z.2.2) he
              rw [h1] at u0 HU
              rw [h2] at u1 HU
              rw [h3] at u2 HU
              clear h1 h2 h3 he
              have hcm := fun w => node_sameZ xa (n : Int) (m : Int) w
              go_wp2_with fail
              refine wp_region_bel (by kernel_rfl) (by kernel_rfl) ?_
              repeat (go_big_quiet_step (fail))
              refine wpQuiet_nil ?_
              rintro _ ⟨z8, rfl⟩
              go_wp2
              have hmem : (xa, (n : Int), (m : Int)) ∈ L.take i := List.mem_of_getElem? (i := k) (by rw [List.getElem?_take_of_lt hki, HU.out])
              have hd := HCH.out
              rw [if_pos hmem] at hd
              subst hd
              have hb8 : Below Z.heap.size Z z8.w := by (repeat' (first | (with_reducible first | exact Below.refl _ _ | exact Nat.le_refl _ | refine Below.bel ?_ ?_ | refine Below.alloc ?_ ?_ _ | refine Below.drew ?_ | refine Below.drawsN ?_ _ | refine Below.setCell ?_ ?_ _ | refine le_bel ?_ | refine le_alloc ?_ | refine le_setCell ?_ | refine le_drew ?_ | refine le_drawsN ?_) | (dsimp only; with_reducible first | refine le_bel ?_ | refine Nat.le_refl _ | refine le_bel_add ?_) | (with_reducible assumption) | omega | (dsimp only; omega)))
              have hb9 := HBZ.out.trans (hb8.mono hzs)
              go_ret
              exact Ret.mk rfl hb9
            · have hq : ((ua == xa) && ((un == (n : Int)) && (uy == (m : Int)))) = false := by
                cases hh : ((ua == xa) && ((un == (n : Int)) && (uy == (m : Int))))
                · rfl
                · simp only [Bool.and_eq_true, beq_iff_eq] at hh
                  exact absurd (by rw [hh.1, hh.2.1, hh.2.2]) he
              have hcm := fun w => run_eq_nodeZ ua un uy xa (n : Int) (m : Int) w
              simp only [hq] at hcm
              have HE := Lib.hid he
              clear he hq
              go_wp2_with fail
              refine wp_region_bel (by kernel_rfl) (by kernel_rfl) ?_
              repeat (go_big_quiet_step (fail))
              refine wpQuiet_nil ?_
              rintro _ ⟨z8, rfl⟩
              go_wp2
              go_roundw
              case rel =>
                refine ⟨k + 1, by go_num, by omega, fun j hj => ?_, ⟨z8.w, by (repeat' (first | (with_reducible first | exact Below.refl _ _ | exact Nat.le_refl _ | refine Below.bel ?_ ?_ | refine Below.alloc ?_ ?_ _ | refine Below.drew ?_ | refine Below.drawsN ?_ _ | refine Below.setCell ?_ ?_ _ | refine le_bel ?_ | refine le_alloc ?_ | refine le_setCell ?_ | refine le_drew ?_ | refine le_drawsN ?_) | (dsimp only; with_reducible first | refine le_bel ?_ | refine Nat.le_refl _ | refine le_bel_add ?_) | (with_reducible assumption) | omega | (dsimp only; omega)))⟩, rfl⟩
                rcases Nat.lt_or_ge j k with h | h
                · exact HNO.out j h
                · have : j = k := by omega
                  rw [this, HU.out]
                  intro e
                  injection e with e
                  exact HE.out e
              case measure => simp [intOf]; omega
          · have hke : k = i := by omega
            subst hke
            have g1 : decide ((k : Int) < (k : Int)) = false := decide_eq_false (by omega)
            have hmem : (xa, (n : Int), (m : Int)) ∉ L.take k := fun h => by
              obtain ⟨j, hj⟩ := List.mem_iff_getElem?.1 h
              rw [List.getElem?_take] at hj
              split at hj
              · rename_i hjk
                exact HNO.out j hjk hj
              · cases hj
            have hd := HCH.out
            rw [if_neg hmem] at hd
            subst hd
            have hb9 := HBZ.out.trans (y.below.mono hzs)
            go_wp2
            go_ret
            exact Ret.mk rfl hb9
  · have g1 : decide (1 < (n : Int)) = false := decide_eq_false (by omega)
    have HNN := Lib.hid (show ¬ (1 < (n : Int) ∧ varZ L (n : Int) ≤ xa) from by omega)
    by_cases d1 : 1 < m
    · have g3 : decide (1 < (m : Int)) = true := decide_eq_true (by omega)
      obtain ⟨zm, rm, hzm, hrm, hbm, hcm⟩ := HV.out m d1 him
      by_cases d2 : zm ≤ xa
      · have g4 : decide (zm ≤ xa) = true := decide_eq_true d2
        have HC := Lib.hid (show (1 < (n : Int) ∧ varZ L (n : Int) ≤ xa) ∨ (1 < (m : Int) ∧ varZ L (m : Int) ≤ xa) from .inr ⟨by omega, by rw [hzm]; exact d2⟩)
        clear hzm d2
        have hch : D = 6 := by
          rw [← HDD.out]
          unfold chk1
          rw [if_neg hr, if_neg hnm, if_pos HC.out]
        subst hch
        clear hr hnm HCS HI
        go_enter Tryz.func82, Tryz.ntmps82
        go_wp2_with fail
        refine wp_region_bel (by kernel_rfl) (by kernel_rfl) ?_
        repeat (go_big_quiet_step (fail))
        refine wpQuiet_nil ?_
        rintro _ ⟨z9, rfl⟩
        go_wp2
        go_ret
        exact Ret.mk (by rfl) (by (repeat' (first | (with_reducible first | exact Below.refl _ _ | exact Nat.le_refl _ | refine Below.bel ?_ ?_ | refine Below.alloc ?_ ?_ _ | refine Below.drew ?_ | refine Below.drawsN ?_ _ | refine Below.setCell ?_ ?_ _ | refine le_bel ?_ | refine le_alloc ?_ | refine le_setCell ?_ | refine le_drew ?_ | refine le_drawsN ?_) | (dsimp only; with_reducible first | refine le_bel ?_ | refine Nat.le_refl _ | refine le_bel_add ?_) | (with_reducible assumption) | omega | (dsimp only; omega))))
      · have g4 : decide (zm ≤ xa) = false := decide_eq_false d2
        have HZM := Lib.hid hzm
        have HC := Lib.hid (show ¬ ((1 < (n : Int) ∧ varZ L (n : Int) ≤ xa) ∨ (1 < (m : Int) ∧ varZ L (m : Int) ≤ xa)) from by
          rw [HZM.out]
          have := HNN.out
          omega)
        clear hzm d2
        go_enter Tryz.func82, Tryz.ntmps82
        go_wp2_with fail
        refine wp_region_bel (by kernel_rfl) (by kernel_rfl) ?_
        repeat (go_big_quiet_step (fail))
        refine wpQuiet_nil ?_
        rintro _ ⟨z9, rfl⟩
        have hch : D = if (xa, (n : Int), (m : Int)) ∈ L.take i then 9 else 0 := by
          rw [← HDD.out]
          unfold chk1
          rw [if_neg hr, if_neg hnm, if_neg HC.out]
        have HCH := Lib.hid hch
        have hbz9 : Below w.heap.size w z9.w := by (repeat' (first | (with_reducible first | exact Below.refl _ _ | exact Nat.le_refl _ | refine Below.bel ?_ ?_ | refine Below.alloc ?_ ?_ _ | refine Below.drew ?_ | refine Below.drawsN ?_ _ | refine Below.setCell ?_ ?_ _ | refine le_bel ?_ | refine le_alloc ?_ | refine le_setCell ?_ | refine le_drew ?_ | refine le_drawsN ?_) | (dsimp only; with_reducible first | refine le_bel ?_ | refine Nat.le_refl _ | refine le_bel_add ?_) | (with_reducible assumption) | omega | (dsimp only; omega)))
        have oz := obj_bel z9 HOB.out
        obtain ⟨Z, hZ⟩ : ∃ Z, z9.w = Z := ⟨_, rfl⟩
        rw [hZ] at hbz9 oz ⊢
        have HBZ := Lib.hid hbz9
        have HOZ := Lib.hid oz
        have HIW := Lib.hid (HI.out.of hbz9)
        clear hbz9 oz hZ z9 hch HOB hr hnm f1 f2 f3 f4 f5
        go_wp2
        go_loopw [6] (fun iv wr => ∃ k : Nat, iv = .int .i64 (k : Int) ∧ k ≤ i ∧ (∀ j, j < k → L[j]? ≠ some (xa, (n : Int), (m : Int))) ∧ ∃ y : Bel Z, wr = y.w) (fun iv _ => i - (intOf iv).toNat)
        case atStart => exact ⟨0, rfl, Nat.zero_le _, fun j h => by omega, ⟨Z, Below.refl _ _⟩, rfl⟩
        case round =>
          obtain ⟨k, rfl, hk, hno, y, rfl⟩ := hrel
          have HNO := Lib.hid hno
          have hzs := HBZ.out.size
          clear hno
          rcases Nat.lt_or_ge k i with hki | hki
          · obtain ⟨u, hu⟩ : ∃ u, L[k]? = some u := ⟨_, List.getElem?_eq_getElem (by omega)⟩
            obtain ⟨ua, un, uy⟩ := u
            obtain ⟨g', off', hadd, _, hcs'⟩ := (HIW.out.of (y.below.mono hzs)) (by omega)
            cases hadd
            obtain ⟨u0, u1, u2⟩ := hcs' k (ua, un, uy) hu
            dsimp only at u0 u1 u2
            obtain ⟨e0, e1, e2⟩ := box3 (obj_bel y HOZ.out)
            have g1 : decide ((k : Int) < (i : Int)) = true := decide_eq_true (by omega)
            have hkb : (0 ≤ (k : Int) ∧ (k : Int) < (L.length : Int)) := ⟨by omega, by omega⟩
            have hgd := guard_eqZ
            have HU := Lib.hid hu
            clear hcs' hu
            by_cases he : (ua, un, uy) = (xa, (n : Int), (m : Int))
            · have h1 : ua = xa := congrArg (fun z => z.1) he
              have h2 : un = (n : Int) := congrArg (fun z => z.2.1) he
              have h3 : uy = (m : Int) := congrArg (fun z => z.2.2) he
              rw [h1] at u0 HU
              rw [h2] at u1 HU
              rw [h3] at u2 HU
              clear h1 h2 h3 he
              have hcm := fun w => node_sameZ xa (n : Int) (m : Int) w
              go_wp2_with fail
              refine wp_region_bel (by kernel_rfl) (by kernel_rfl) ?_
              repeat (go_big_quiet_step (fail))
              refine wpQuiet_nil ?_
              rintro _ ⟨z8, rfl⟩
              go_wp2
              have hmem : (xa, (n : Int), (m : Int)) ∈ L.take i := List.mem_of_getElem? (i := k) (by rw [List.getElem?_take_of_lt hki, HU.out])
              have hd := HCH.out
              rw [if_pos hmem] at hd
              subst hd
              have hb8 : Below Z.heap.size Z z8.w := by (repeat' (first | (with_reducible first | exact Below.refl _ _ | exact Nat.le_refl _ | refine Below.bel ?_ ?_ | refine Below.alloc ?_ ?_ _ | refine Below.drew ?_ | refine Below.drawsN ?_ _ | refine Below.setCell ?_ ?_ _ | refine le_bel ?_ | refine le_alloc ?_ | refine le_setCell ?_ | refine le_drew ?_ | refine le_drawsN ?_) | (dsimp only; with_reducible first | refine le_bel ?_ | refine Nat.le_refl _ | refine le_bel_add ?_) | (with_reducible assumption) | omega | (dsimp only; omega)))
              have hb9 := HBZ.out.trans (hb8.mono hzs)
              go_ret
              exact Ret.mk rfl hb9
            · have hq : ((ua == xa) && ((un == (n : Int)) && (uy == (m : Int)))) = false := by
                cases hh : ((ua == xa) && ((un == (n : Int)) && (uy == (m : Int))))
                · rfl
                · simp only [Bool.and_eq_true, beq_iff_eq] at hh
                  exact absurd (by rw [hh.1, hh.2.1, hh.2.2]) he
              have hcm := fun w => run_eq_nodeZ ua un uy xa (n : Int) (m : Int) w
              simp only [hq] at hcm
              have HE := Lib.hid he
              clear he hq
              go_wp2_with fail
              refine wp_region_bel (by kernel_rfl) (by kernel_rfl) ?_
              repeat (go_big_quiet_step (fail))
              refine wpQuiet_nil ?_
              rintro _ ⟨z8, rfl⟩
              go_wp2
              go_roundw
              case rel =>
                refine ⟨k + 1, by go_num, by omega, fun j hj => ?_, ⟨z8.w, by (repeat' (first | (with_reducible first | exact Below.refl _ _ | exact Nat.le_refl _ | refine Below.bel ?_ ?_ | refine Below.alloc ?_ ?_ _ | refine Below.drew ?_ | refine Below.drawsN ?_ _ | refine Below.setCell ?_ ?_ _ | refine le_bel ?_ | refine le_alloc ?_ | refine le_setCell ?_ | refine le_drew ?_ | refine le_drawsN ?_) | (dsimp only; with_reducible first | refine le_bel ?_ | refine Nat.le_refl _ | refine le_bel_add ?_) | (with_reducible assumption) | omega | (dsimp only; omega)))⟩, rfl⟩
                rcases Nat.lt_or_ge j k with h | h
                · exact HNO.out j h
                · have : j = k := by omega
                  rw [this, HU.out]
                  intro e
                  injection e with e
                  exact HE.out e
              case measure => simp [intOf]; omega
          · have hke : k = i := by omega
            subst hke
            have g1 : decide ((k : Int) < (k : Int)) = false := decide_eq_false (by omega)
            have hmem : (xa, (n : Int), (m : Int)) ∉ L.take k := fun h => by
              obtain ⟨j, hj⟩ := List.mem_iff_getElem?.1 h
              rw [List.getElem?_take] at hj
              split at hj
              · rename_i hjk
                exact HNO.out j hjk hj
              · cases hj
            have hd := HCH.out
            rw [if_neg hmem] at hd
            subst hd
            have hb9 := HBZ.out.trans (y.below.mono hzs)
            go_wp2
            go_ret
            exact Ret.mk rfl hb9
    · have g3 : decide (1 < (m : Int)) = false := decide_eq_false (by omega)
      have HC := Lib.hid (show ¬ ((1 < (n : Int) ∧ varZ L (n : Int) ≤ xa) ∨ (1 < (m : Int) ∧ varZ L (m : Int) ≤ xa)) from by
        have := HNN.out
        omega)
      go_enter Tryz.func82, Tryz.ntmps82
      go_wp2_with fail
      refine wp_region_bel (by kernel_rfl) (by kernel_rfl) ?_
      repeat (go_big_quiet_step (fail))
      refine wpQuiet_nil ?_
      rintro _ ⟨z9, rfl⟩
      have hch : D = if (xa, (n : Int), (m : Int)) ∈ L.take i then 9 else 0 := by
        rw [← HDD.out]
        unfold chk1
        rw [if_neg hr, if_neg hnm, if_neg HC.out]
      have HCH := Lib.hid hch
      have hbz9 : Below w.heap.size w z9.w := by (repeat' (first | (with_reducible first | exact Below.refl _ _ | exact Nat.le_refl _ | refine Below.bel ?_ ?_ | refine Below.alloc ?_ ?_ _ | refine Below.drew ?_ | refine Below.drawsN ?_ _ | refine Below.setCell ?_ ?_ _ | refine le_bel ?_ | refine le_alloc ?_ | refine le_setCell ?_ | refine le_drew ?_ | refine le_drawsN ?_) | (dsimp only; with_reducible first | refine le_bel ?_ | refine Nat.le_refl _ | refine le_bel_add ?_) | (with_reducible assumption) | omega | (dsimp only; omega)))
      have oz := obj_bel z9 HOB.out
      obtain ⟨Z, hZ⟩ : ∃ Z, z9.w = Z := ⟨_, rfl⟩
      rw [hZ] at hbz9 oz ⊢
      have HBZ := Lib.hid hbz9
      have HOZ := Lib.hid oz
      have HIW := Lib.hid (HI.out.of hbz9)
      clear hbz9 oz hZ z9 hch HOB hr hnm f1 f2 f3 f4 f5
      go_wp2
      go_loopw [6] (fun iv wr => ∃ k : Nat, iv = .int .i64 (k : Int) ∧ k ≤ i ∧ (∀ j, j < k → L[j]? ≠ some (xa, (n : Int), (m : Int))) ∧ ∃ y : Bel Z, wr = y.w) (fun iv _ => i - (intOf iv).toNat)
      case atStart => exact ⟨0, rfl, Nat.zero_le _, fun j h => by omega, ⟨Z, Below.refl _ _⟩, rfl⟩
      case round =>
        obtain ⟨k, rfl, hk, hno, y, rfl⟩ := hrel
        have HNO := Lib.hid hno
        have hzs := HBZ.out.size
        clear hno
        rcases Nat.lt_or_ge k i with hki | hki
        · obtain ⟨u, hu⟩ : ∃ u, L[k]? = some u := ⟨_, List.getElem?_eq_getElem (by omega)⟩
          obtain ⟨ua, un, uy⟩ := u
          obtain ⟨g', off', hadd, _, hcs'⟩ := (HIW.out.of (y.below.mono hzs)) (by omega)
          cases hadd
          obtain ⟨u0, u1, u2⟩ := hcs' k (ua, un, uy) hu
          dsimp only at u0 u1 u2
          obtain ⟨e0, e1, e2⟩ := box3 (obj_bel y HOZ.out)
          have g1 : decide ((k : Int) < (i : Int)) = true := decide_eq_true (by omega)
          have hkb : (0 ≤ (k : Int) ∧ (k : Int) < (L.length : Int)) := ⟨by omega, by omega⟩
          have hgd := guard_eqZ
          have HU := Lib.hid hu
          clear hcs' hu
          by_cases he : (ua, un, uy) = (xa, (n : Int), (m : Int))
          · have h1 : ua = xa := congrArg (fun z => z.1) he
            have h2 : un = (n : Int) := congrArg (fun z => z.2.1) he
            have h3 : uy = (m : Int) := congrArg (fun z => z.2.2) he
            rw [h1] at u0 HU
            rw [h2] at u1 HU
            rw [h3] at u2 HU
            clear h1 h2 h3 he
            have hcm := fun w => node_sameZ xa (n : Int) (m : Int) w
            go_wp2_with fail
            refine wp_region_bel (by kernel_rfl) (by kernel_rfl) ?_
            repeat (go_big_quiet_step (fail))
            refine wpQuiet_nil ?_
            rintro _ ⟨z8, rfl⟩
            go_wp2
            have hmem : (xa, (n : Int), (m : Int)) ∈ L.take i := List.mem_of_getElem? (i := k) (by rw [List.getElem?_take_of_lt hki, HU.out])
            have hd := HCH.out
            rw [if_pos hmem] at hd
            subst hd
            have hb8 : Below Z.heap.size Z z8.w := by (repeat' (first | (with_reducible first | exact Below.refl _ _ | exact Nat.le_refl _ | refine Below.bel ?_ ?_ | refine Below.alloc ?_ ?_ _ | refine Below.drew ?_ | refine Below.drawsN ?_ _ | refine Below.setCell ?_ ?_ _ | refine le_bel ?_ | refine le_alloc ?_ | refine le_setCell ?_ | refine le_drew ?_ | refine le_drawsN ?_) | (dsimp only; with_reducible first | refine le_bel ?_ | refine Nat.le_refl _ | refine le_bel_add ?_) | (with_reducible assumption) | omega | (dsimp only; omega)))
            have hb9 := HBZ.out.trans (hb8.mono hzs)
            go_ret
            exact Ret.mk rfl hb9
          · have hq : ((ua == xa) && ((un == (n : Int)) && (uy == (m : Int)))) = false := by
              cases hh : ((ua == xa) && ((un == (n : Int)) && (uy == (m : Int))))
              · rfl
              · simp only [Bool.and_eq_true, beq_iff_eq] at hh
                exact absurd (by rw [hh.1, hh.2.1, hh.2.2]) he
            have hcm := fun w => run_eq_nodeZ ua un uy xa (n : Int) (m : Int) w
            simp only [hq] at hcm
            have HE := Lib.hid he
            clear he hq
            go_wp2_with fail
            refine wp_region_bel (by kernel_rfl) (by kernel_rfl) ?_
            repeat (go_big_quiet_step (fail))
            refine wpQuiet_nil ?_
            rintro _ ⟨z8, rfl⟩
            go_wp2
            go_roundw
            case rel =>
              refine ⟨k + 1, by go_num, by omega, fun j hj => ?_, ⟨z8.w, by (repeat' (first | (with_reducible first | exact Below.refl _ _ | exact Nat.le_refl _ | refine Below.bel ?_ ?_ | refine Below.alloc ?_ ?_ _ | refine Below.drew ?_ | refine Below.drawsN ?_ _ | refine Below.setCell ?_ ?_ _ | refine le_bel ?_ | refine le_alloc ?_ | refine le_setCell ?_ | refine le_drew ?_ | refine le_drawsN ?_) | (dsimp only; with_reducible first | refine le_bel ?_ | refine Nat.le_refl _ | refine le_bel_add ?_) | (with_reducible assumption) | omega | (dsimp only; omega)))⟩, rfl⟩
              rcases Nat.lt_or_ge j k with h | h
              · exact HNO.out j h
              · have : j = k := by omega
                rw [this, HU.out]
                intro e
                injection e with e
                exact HE.out e
            case measure => simp [intOf]; omega
        · have hke : k = i := by omega
          subst hke
          have g1 : decide ((k : Int) < (k : Int)) = false := decide_eq_false (by omega)
          have hmem : (xa, (n : Int), (m : Int)) ∉ L.take k := fun h => by
            obtain ⟨j, hj⟩ := List.mem_iff_getElem?.1 h
            rw [List.getElem?_take] at hj
            split at hj
            · rename_i hjk
              exact HNO.out j hjk hj
            · cases hj
          have hd := HCH.out
          rw [if_neg hmem] at hd
          subst hd
          have hb9 := HBZ.out.trans (y.below.mono hzs)
          go_wp2
          go_ret
          exact Ret.mk rfl hb9
set_option maxRecDepth 100000 in
set_option maxHeartbeats 12800000 in
theorem lchk1_gt (L : List (Int × Int × Int)) (hlen : L.length ≤ 100) (i : Nat) (x : Int × Int × Int) (hx : L[i]? = some x) (ad : Option Addr) (cap : Nat) (w : World) (hi : InD w.heap.size w ad L) (hcmp : x.2.2 < x.2.1) :
    Calls Tryz.prog 82 #[.slice ad L.length cap, .int .i64 (i : Int)] w (Ret (.int .i64 (chk1 L i x : Nat)) w) := by
  have hil := (List.getElem?_eq_some_iff.1 hx).1
  have hii : (0 ≤ (i : Int) ∧ (i : Int) < (L.length : Int)) := ⟨by omega, by omega⟩
  obtain ⟨xa, xn, xy⟩ := x
  dsimp only at hcmp
  have zl0 : (xn < xy) = False := eq_false (by omega)
  have zd0 : decide (xn < xy) = false := decide_eq_false (by omega)
  have zl1 : (xn ≤ xy) = False := eq_false (by omega)
  have zd1 : decide (xn ≤ xy) = false := decide_eq_false (by omega)
  have zl2 : (xy < xn) = True := eq_true (by omega)
  have zd2 : decide (xy < xn) = true := decide_eq_true (by omega)
  have zl3 : (xy ≤ xn) = True := eq_true (by omega)
  have zd3 : decide (xy ≤ xn) = true := decide_eq_true (by omega)
  obtain ⟨g, off, hadd, hg, hcs⟩ := hi (by omega)
  subst hadd
  obtain ⟨x0, x1, x2⟩ := hcs i (xa, xn, xy) hx
  dsimp only at x0 x1 x2
  have HCS := Lib.hid hcs
  have HI := Lib.hid hi
  clear hcs hi hx
  by_cases hr : xa < 0 ∨ 4096 ≤ xa ∨ xn < 0 ∨ (i : Int) + 2 ≤ xn ∨ xy < 0 ∨ (i : Int) + 2 ≤ xy
  · have hch : chk1 L i (xa, xn, xy) = 3 := by unfold chk1; rw [if_pos hr]
    rw [hch]
    clear hch HCS HI
    by_cases c1 : xa < 0
    · have f1 : decide (xa < 0) = true := decide_eq_true c1
      clear hr
      go_enter Tryz.func82, Tryz.ntmps82
      go_wp2
      go_ret
      exact Ret.mk (by rfl) (by (repeat' (first | (with_reducible first | exact Below.refl _ _ | exact Nat.le_refl _ | refine Below.bel ?_ ?_ | refine Below.alloc ?_ ?_ _ | refine Below.drew ?_ | refine Below.drawsN ?_ _ | refine Below.setCell ?_ ?_ _ | refine le_bel ?_ | refine le_alloc ?_ | refine le_setCell ?_ | refine le_drew ?_ | refine le_drawsN ?_) | (dsimp only; with_reducible first | refine le_bel ?_ | refine Nat.le_refl _ | refine le_bel_add ?_) | (with_reducible assumption) | omega | (dsimp only; omega))))
    have f1 : decide (xa < 0) = false := decide_eq_false c1
    by_cases c2 : 4096 ≤ xa
    · have f2 : decide (4096 ≤ xa) = true := decide_eq_true c2
      clear hr
      go_enter Tryz.func82, Tryz.ntmps82
      go_wp2
      go_ret
      exact Ret.mk (by rfl) (by (repeat' (first | (with_reducible first | exact Below.refl _ _ | exact Nat.le_refl _ | refine Below.bel ?_ ?_ | refine Below.alloc ?_ ?_ _ | refine Below.drew ?_ | refine Below.drawsN ?_ _ | refine Below.setCell ?_ ?_ _ | refine le_bel ?_ | refine le_alloc ?_ | refine le_setCell ?_ | refine le_drew ?_ | refine le_drawsN ?_) | (dsimp only; with_reducible first | refine le_bel ?_ | refine Nat.le_refl _ | refine le_bel_add ?_) | (with_reducible assumption) | omega | (dsimp only; omega))))
    have f2 : decide (4096 ≤ xa) = false := decide_eq_false c2
    by_cases c3 : xy < 0
    · have f3 : decide (xy < 0) = true := decide_eq_true c3
      clear hr
      go_enter Tryz.func82, Tryz.ntmps82
      go_wp2
      go_ret
      exact Ret.mk (by rfl) (by (repeat' (first | (with_reducible first | exact Below.refl _ _ | exact Nat.le_refl _ | refine Below.bel ?_ ?_ | refine Below.alloc ?_ ?_ _ | refine Below.drew ?_ | refine Below.drawsN ?_ _ | refine Below.setCell ?_ ?_ _ | refine le_bel ?_ | refine le_alloc ?_ | refine le_setCell ?_ | refine le_drew ?_ | refine le_drawsN ?_) | (dsimp only; with_reducible first | refine le_bel ?_ | refine Nat.le_refl _ | refine le_bel_add ?_) | (with_reducible assumption) | omega | (dsimp only; omega))))
    have f3 : decide (xy < 0) = false := decide_eq_false c3
    have f4 : decide ((i : Int) + 2 ≤ xn) = true := decide_eq_true (by omega)
    clear hr
    go_enter Tryz.func82, Tryz.ntmps82
    go_wp2
    go_ret
    exact Ret.mk (by rfl) (by (repeat' (first | (with_reducible first | exact Below.refl _ _ | exact Nat.le_refl _ | refine Below.bel ?_ ?_ | refine Below.alloc ?_ ?_ _ | refine Below.drew ?_ | refine Below.drawsN ?_ _ | refine Below.setCell ?_ ?_ _ | refine le_bel ?_ | refine le_alloc ?_ | refine le_setCell ?_ | refine le_drew ?_ | refine le_drawsN ?_) | (dsimp only; with_reducible first | refine le_bel ?_ | refine Nat.le_refl _ | refine le_bel_add ?_) | (with_reducible assumption) | omega | (dsimp only; omega))))
  obtain ⟨n, rfl⟩ := Int.eq_ofNat_of_zero_le (show 0 ≤ xn by omega)
  obtain ⟨m, rfl⟩ := Int.eq_ofNat_of_zero_le (show 0 ≤ xy by omega)
  have f1 : decide (xa < 0) = false := decide_eq_false (by omega)
  have f2 : decide (4096 ≤ xa) = false := decide_eq_false (by omega)
  clear zl0 zl1 zl2 zl3 zd0 zd1 zd2 zd3
  have nl0 : (n < m) = False := eq_false (by omega)
  have nd0 : decide (n < m) = false := decide_eq_false (by omega)
  have nl1 : (n ≤ m) = False := eq_false (by omega)
  have nd1 : decide (n ≤ m) = false := decide_eq_false (by omega)
  have nl2 : (m < n) = True := eq_true (by omega)
  have nd2 : decide (m < n) = true := decide_eq_true (by omega)
  have nl3 : (m ≤ n) = True := eq_true (by omega)
  have nd3 : decide (m ≤ n) = true := decide_eq_true (by omega)
  have f3 : decide ((m : Int) < 0) = false := decide_eq_false (by omega)
  have f4 : decide ((i : Int) + 2 ≤ (n : Int)) = false := decide_eq_false (by omega)
  have f4n : decide (i + 2 ≤ n) = false := decide_eq_false (by omega)
  by_cases hnm : (n : Int) = (m : Int)
  · have hch : chk1 L i (xa, (n : Int), (m : Int)) = 7 := by unfold chk1; rw [if_neg hr, if_pos hnm]
    rw [hch]
    have f5 : ((n : Int) == (m : Int)) = true := beq_iff_eq.2 hnm
    clear hch HCS HI hr hnm
    go_enter Tryz.func82, Tryz.ntmps82
    go_wp2
    go_ret
    exact Ret.mk (by rfl) (by (repeat' (first | (with_reducible first | exact Below.refl _ _ | exact Nat.le_refl _ | refine Below.bel ?_ ?_ | refine Below.alloc ?_ ?_ _ | refine Below.drew ?_ | refine Below.drawsN ?_ _ | refine Below.setCell ?_ ?_ _ | refine le_bel ?_ | refine le_alloc ?_ | refine le_setCell ?_ | refine le_drew ?_ | refine le_drawsN ?_) | (dsimp only; with_reducible first | refine le_bel ?_ | refine Nat.le_refl _ | refine le_bel_add ?_) | (with_reducible assumption) | omega | (dsimp only; omega))))
  have f5 : ((n : Int) == (m : Int)) = false := beq_eq_false_iff_ne.2 hnm
  obtain ⟨D, hD⟩ : ∃ D, chk1 L i (xa, (n : Int), (m : Int)) = D := ⟨_, rfl⟩
  rw [hD]
  have HDD := Lib.hid hD
  clear hD
  have HOB := Lib.hid (World.alloc_heap_new w (.cells #[.int .i64 xa, .int .i64 (n : Int), .int .i64 (m : Int)] 55))
  obtain ⟨p0, p1, p2⟩ := box3 HOB.out
  have hv : ∀ q : Nat, 1 < q → q < i + 2 → ∃ (z : Int) (r : Nat), varZ L (q : Int) = z ∧ ((q : Int) - 2) = (r : Int) ∧ (0 ≤ (r : Int) ∧ (r : Int) < (L.length : Int)) ∧ w.cell? ⟨g, off + r * 3, none⟩ = some (.int .i64 z) := fun q h1 h2 => by
    obtain ⟨z, hz⟩ : ∃ z, L[q - 2]? = some z := ⟨_, List.getElem?_eq_getElem (by omega)⟩
    refine ⟨z.1, q - 2, ?_, by omega, ⟨by omega, by omega⟩, (HCS.out (q - 2) z hz).1⟩
    unfold varZ
    rw [Int.toNat_natCast, List.getD_eq_getElem?_getD, hz]
    rfl
  have hal : Below w.heap.size w (w.alloc (.cells #[.int .i64 xa, .int .i64 (n : Int), .int .i64 (m : Int)] 55)) := (Below.refl _ _).alloc (Nat.le_refl _) _
  have hv2 : ∀ q : Nat, 1 < q → q < i + 2 → ∃ (z : Int) (r : Nat), varZ L (q : Int) = z ∧ ((q : Int) - 2) = (r : Int) ∧ (0 ≤ (r : Int) ∧ (r : Int) < (L.length : Int)) ∧ (w.alloc (.cells #[.int .i64 xa, .int .i64 (n : Int), .int .i64 (m : Int)] 55)).cell? ⟨g, off + r * 3, none⟩ = some (.int .i64 z) := fun q h1 h2 => by
    obtain ⟨z, r, k1, k2, k3, k4⟩ := hv q h1 h2
    exact ⟨z, r, k1, k2, k3, cell_in hal k4⟩
  have HV := Lib.hid hv2
  clear hv hv2 hal
  have hin : n < i + 2 := by omega
  have him : m < i + 2 := by omega
  by_cases c1 : 1 < n
  · have g1 : decide (1 < (n : Int)) = true := decide_eq_true (by omega)
    obtain ⟨zn, rn, hzn, hrn, hbn, hcn⟩ := HV.out n c1 hin
    by_cases c2 : zn ≤ xa
    · have g2 : decide (zn ≤ xa) = true := decide_eq_true c2
      have HC := Lib.hid (show (1 < (n : Int) ∧ varZ L (n : Int) ≤ xa) ∨ (1 < (m : Int) ∧ varZ L (m : Int) ≤ xa) from .inl ⟨by omega, by rw [hzn]; exact c2⟩)
      clear hzn c2
      have hch : D = 6 := by
        rw [← HDD.out]
        unfold chk1
        rw [if_neg hr, if_neg hnm, if_pos HC.out]
      subst hch
      clear hr hnm HCS HI
      go_enter Tryz.func82, Tryz.ntmps82
      go_wp2_with fail
      refine wp_region_bel (by kernel_rfl) (by kernel_rfl) ?_
      repeat (go_big_quiet_step (fail))
      refine wpQuiet_nil ?_
      rintro _ ⟨z9, rfl⟩
      go_wp2
      go_ret
      exact Ret.mk (by rfl) (by (repeat' (first | (with_reducible first | exact Below.refl _ _ | exact Nat.le_refl _ | refine Below.bel ?_ ?_ | refine Below.alloc ?_ ?_ _ | refine Below.drew ?_ | refine Below.drawsN ?_ _ | refine Below.setCell ?_ ?_ _ | refine le_bel ?_ | refine le_alloc ?_ | refine le_setCell ?_ | refine le_drew ?_ | refine le_drawsN ?_) | (dsimp only; with_reducible first | refine le_bel ?_ | refine Nat.le_refl _ | refine le_bel_add ?_) | (with_reducible assumption) | omega | (dsimp only; omega))))
    · have g2 : decide (zn ≤ xa) = false := decide_eq_false c2
      have HNN := Lib.hid (show ¬ (1 < (n : Int) ∧ varZ L (n : Int) ≤ xa) from by rw [hzn]; omega)
      clear hzn c2
      by_cases d1 : 1 < m
      · have g3 : decide (1 < (m : Int)) = true := decide_eq_true (by omega)
        obtain ⟨zm, rm, hzm, hrm, hbm, hcm⟩ := HV.out m d1 him
        by_cases d2 : zm ≤ xa
        · have g4 : decide (zm ≤ xa) = true := decide_eq_true d2
          have HC := Lib.hid (show (1 < (n : Int) ∧ varZ L (n : Int) ≤ xa) ∨ (1 < (m : Int) ∧ varZ L (m : Int) ≤ xa) from .inr ⟨by omega, by rw [hzm]; exact d2⟩)
          clear hzm d2
          have hch : D = 6 := by
            rw [← HDD.out]
            unfold chk1
            rw [if_neg hr, if_neg hnm, if_pos HC.out]
          subst hch
          clear hr hnm HCS HI
          go_enter Tryz.func82, Tryz.ntmps82
          go_wp2_with fail
          refine wp_region_bel (by kernel_rfl) (by kernel_rfl) ?_
          repeat (go_big_quiet_step (fail))
          refine wpQuiet_nil ?_
          rintro _ ⟨z9, rfl⟩
          go_wp2
          go_ret
          exact Ret.mk (by rfl) (by (repeat' (first | (with_reducible first | exact Below.refl _ _ | exact Nat.le_refl _ | refine Below.bel ?_ ?_ | refine Below.alloc ?_ ?_ _ | refine Below.drew ?_ | refine Below.drawsN ?_ _ | refine Below.setCell ?_ ?_ _ | refine le_bel ?_ | refine le_alloc ?_ | refine le_setCell ?_ | refine le_drew ?_ | refine le_drawsN ?_) | (dsimp only; with_reducible first | refine le_bel ?_ | refine Nat.le_refl _ | refine le_bel_add ?_) | (with_reducible assumption) | omega | (dsimp only; omega))))
        · have g4 : decide (zm ≤ xa) = false := decide_eq_false d2
          have HZM := Lib.hid hzm
          have HC := Lib.hid (show ¬ ((1 < (n : Int) ∧ varZ L (n : Int) ≤ xa) ∨ (1 < (m : Int) ∧ varZ L (m : Int) ≤ xa)) from by
            rw [HZM.out]
            have := HNN.out
            omega)
          clear hzm d2
          go_enter Tryz.func82, Tryz.ntmps82
          go_wp2_with fail
          refine wp_region_bel (by kernel_rfl) (by kernel_rfl) ?_
          repeat (go_big_quiet_step (fail))
          refine wpQuiet_nil ?_
          rintro _ ⟨z9, rfl⟩
          have hch : D = if (xa, (n : Int), (m : Int)) ∈ L.take i then 9 else 0 := by
            rw [← HDD.out]
            unfold chk1
            rw [if_neg hr, if_neg hnm, if_neg HC.out]
          have HCH := Lib.hid hch
          have hbz9 : Below w.heap.size w z9.w := by (repeat' (first | (with_reducible first | exact Below.refl _ _ | exact Nat.le_refl _ | refine Below.bel ?_ ?_ | refine Below.alloc ?_ ?_ _ | refine Below.drew ?_ | refine Below.drawsN ?_ _ | refine Below.setCell ?_ ?_ _ | refine le_bel ?_ | refine le_alloc ?_ | refine le_setCell ?_ | refine le_drew ?_ | refine le_drawsN ?_) | (dsimp only; with_reducible first | refine le_bel ?_ | refine Nat.le_refl _ | refine le_bel_add ?_) | (with_reducible assumption) | omega | (dsimp only; omega)))
          have oz := obj_bel z9 HOB.out
          obtain ⟨Z, hZ⟩ : ∃ Z, z9.w = Z := ⟨_, rfl⟩
          rw [hZ] at hbz9 oz ⊢
          have HBZ := Lib.hid hbz9
          have HOZ := Lib.hid oz
          have HIW := Lib.hid (HI.out.of hbz9)
          clear hbz9 oz hZ z9 hch HOB hr hnm f1 f2 f3 f4 f5
          go_wp2
          go_loopw [6] (fun iv wr => ∃ k : Nat, iv = .int .i64 (k : Int) ∧ k ≤ i ∧ (∀ j, j < k → L[j]? ≠ some (xa, (n : Int), (m : Int))) ∧ ∃ y : Bel Z, wr = y.w) (fun iv _ => i - (intOf iv).toNat)
          case atStart => exact ⟨0, rfl, Nat.zero_le _, fun j h => by omega, ⟨Z, Below.refl _ _⟩, rfl⟩
          case round =>
            obtain ⟨k, rfl, hk, hno, y, rfl⟩ := hrel
            have HNO := Lib.hid hno
            have hzs := HBZ.out.size
            clear hno
            rcases Nat.lt_or_ge k i with hki | hki
            · obtain ⟨u, hu⟩ : ∃ u, L[k]? = some u := ⟨_, List.getElem?_eq_getElem (by omega)⟩
              obtain ⟨ua, un, uy⟩ := u
              obtain ⟨g', off', hadd, _, hcs'⟩ := (HIW.out.of (y.below.mono hzs)) (by omega)
              cases hadd
              obtain ⟨u0, u1, u2⟩ := hcs' k (ua, un, uy) hu
              dsimp only at u0 u1 u2
              obtain ⟨e0, e1, e2⟩ := box3 (obj_bel y HOZ.out)
              have g1 : decide ((k : Int) < (i : Int)) = true := decide_eq_true (by omega)
              have hkb : (0 ≤ (k : Int) ∧ (k : Int) < (L.length : Int)) := ⟨by omega, by omega⟩
              have hgd := guard_eqZ
              have HU := Lib.hid hu
              clear hcs' hu
              by_cases he : (ua, un, uy) = (xa, (n : Int), (m : Int))
              · have h1 : ua = xa := congrArg (fun z => z.1) he
                have h2 : un = (n : Int) := congrArg (fun z => z.2.1) he
                have h3 : uy = (m : Int) := congrArg (fun z => z.2.2) he
                rw [h1] at u0 HU
                rw [h2] at u1 HU
                rw [h3] at u2 HU
                clear h1 h2 h3 he
                have hcm := fun w => node_sameZ xa (n : Int) (m : Int) w
                go_wp2_with fail
                refine wp_region_bel (by kernel_rfl) (by kernel_rfl) ?_
                repeat (go_big_quiet_step (fail))
                refine wpQuiet_nil ?_
                rintro _ ⟨z8, rfl⟩
                go_wp2
                have hmem : (xa, (n : Int), (m : Int)) ∈ L.take i := List.mem_of_getElem? (i := k) (by rw [List.getElem?_take_of_lt hki, HU.out])
                have hd := HCH.out
                rw [if_pos hmem] at hd
                subst hd
                have hb8 : Below Z.heap.size Z z8.w := by (repeat' (first | (with_reducible first | exact Below.refl _ _ | exact Nat.le_refl _ | refine Below.bel ?_ ?_ | refine Below.alloc ?_ ?_ _ | refine Below.drew ?_ | refine Below.drawsN ?_ _ | refine Below.setCell ?_ ?_ _ | refine le_bel ?_ | refine le_alloc ?_ | refine le_setCell ?_ | refine le_drew ?_ | refine le_drawsN ?_) | (dsimp only; with_reducible first | refine le_bel ?_ | refine Nat.le_refl _ | refine le_bel_add ?_) | (with_reducible assumption) | omega | (dsimp only; omega)))
                have hb9 := HBZ.out.trans (hb8.mono hzs)
                go_ret
                exact Ret.mk rfl hb9
              · have hq : ((ua == xa) && ((un == (n : Int)) && (uy == (m : Int)))) = false := by
                  cases hh : ((ua == xa) && ((un == (n : Int)) && (uy == (m : Int))))
                  · rfl
                  · simp only [Bool.and_eq_true, beq_iff_eq] at hh
                    exact absurd (by rw [hh.1, hh.2.1, hh.2.2]) he
                have hcm := fun w => run_eq_nodeZ ua un uy xa (n : Int) (m : Int) w
                simp only [hq] at hcm
                have HE := Lib.hid he
                clear he hq
                go_wp2_with fail
                refine wp_region_bel (by kernel_rfl) (by kernel_rfl) ?_
                repeat (go_big_quiet_step (fail))
                refine wpQuiet_nil ?_
                rintro _ ⟨z8, rfl⟩
                go_wp2
                go_roundw
                case rel =>
                  refine ⟨k + 1, by go_num, by omega, fun j hj => ?_, ⟨z8.w, by (repeat' (first | (with_reducible first | exact Below.refl _ _ | exact Nat.le_refl _ | refine Below.bel ?_ ?_ | refine Below.alloc ?_ ?_ _ | refine Below.drew ?_ | refine Below.drawsN ?_ _ | refine Below.setCell ?_ ?_ _ | refine le_bel ?_ | refine le_alloc ?_ | refine le_setCell ?_ | refine le_drew ?_ | refine le_drawsN ?_) | (dsimp only; with_reducible first | refine le_bel ?_ | refine Nat.le_refl _ | refine le_bel_add ?_) | (with_reducible assumption) | omega | (dsimp only; omega)))⟩, rfl⟩
                  rcases Nat.lt_or_ge j k with h | h
                  · exact HNO.out j h
                  · have : j = k := by omega
                    rw [this, HU.out]
                    intro e
                    injection e with e
                    exact HE.out e
                case measure => simp [intOf]; omega
            · have hke : k = i := by omega
              subst hke
              have g1 : decide ((k : Int) < (k : Int)) = false := decide_eq_false (by omega)
              have hmem : (xa, (n : Int), (m : Int)) ∉ L.take k := fun h => by
                obtain ⟨j, hj⟩ := List.mem_iff_getElem?.1 h
                rw [List.getElem?_take] at hj
                split at hj
                · rename_i hjk
                  exact HNO.out j hjk hj
                · cases hj
              have hd := HCH.out
              rw [if_neg hmem] at hd
              subst hd
              have hb9 := HBZ.out.trans (y.below.mono hzs)
              go_wp2
              go_ret
              exact Ret.mk rfl hb9
      · have g3 : decide (1 < (m : Int)) = false := decide_eq_false (by omega)
        have HC := Lib.hid (show ¬ ((1 < (n : Int) ∧ varZ L (n : Int) ≤ xa) ∨ (1 < (m : Int) ∧ varZ L (m : Int) ≤ xa)) from by
          have := HNN.out
          omega)
        go_enter Tryz.func82, Tryz.ntmps82
        go_wp2_with fail
        refine wp_region_bel (by kernel_rfl) (by kernel_rfl) ?_
        repeat (go_big_quiet_step (fail))
        refine wpQuiet_nil ?_
        rintro _ ⟨z9, rfl⟩
        have hch : D = if (xa, (n : Int), (m : Int)) ∈ L.take i then 9 else 0 := by
          rw [← HDD.out]
          unfold chk1
          rw [if_neg hr, if_neg hnm, if_neg HC.out]
        have HCH := Lib.hid hch
        have hbz9 : Below w.heap.size w z9.w := by (repeat' (first | (with_reducible first | exact Below.refl _ _ | exact Nat.le_refl _ | refine Below.bel ?_ ?_ | refine Below.alloc ?_ ?_ _ | refine Below.drew ?_ | refine Below.drawsN ?_ _ | refine Below.setCell ?_ ?_ _ | refine le_bel ?_ | refine le_alloc ?_ | refine le_setCell ?_ | refine le_drew ?_ | refine le_drawsN ?_) | (dsimp only; with_reducible first | refine le_bel ?_ | refine Nat.le_refl _ | refine le_bel_add ?_) | (with_reducible assumption) | omega | (dsimp only; omega)))
        have oz := obj_bel z9 HOB.out
        obtain ⟨Z, hZ⟩ : ∃ Z, z9.w = Z := ⟨_, rfl⟩
        rw [hZ] at hbz9 oz ⊢
        have HBZ := Lib.hid hbz9
        have HOZ := Lib.hid oz
        have HIW := Lib.hid (HI.out.of hbz9)
        clear hbz9 oz hZ z9 hch HOB hr hnm f1 f2 f3 f4 f5
        go_wp2
        go_loopw [6] (fun iv wr => ∃ k : Nat, iv = .int .i64 (k : Int) ∧ k ≤ i ∧ (∀ j, j < k → L[j]? ≠ some (xa, (n : Int), (m : Int))) ∧ ∃ y : Bel Z, wr = y.w) (fun iv _ => i - (intOf iv).toNat)
        case atStart => exact ⟨0, rfl, Nat.zero_le _, fun j h => by omega, ⟨Z, Below.refl _ _⟩, rfl⟩
        case round =>
          obtain ⟨k, rfl, hk, hno, y, rfl⟩ := hrel
          have HNO := Lib.hid hno
          have hzs := HBZ.out.size
          clear hno
          rcases Nat.lt_or_ge k i with hki | hki
          · obtain ⟨u, hu⟩ : ∃ u, L[k]? = some u := ⟨_, List.getElem?_eq_getElem (by omega)⟩
            obtain ⟨ua, un, uy⟩ := u
            obtain ⟨g', off', hadd, _, hcs'⟩ := (HIW.out.of (y.below.mono hzs)) (by omega)
            cases hadd
            obtain ⟨u0, u1, u2⟩ := hcs' k (ua, un, uy) hu
            dsimp only at u0 u1 u2
            obtain ⟨e0, e1, e2⟩ := box3 (obj_bel y HOZ.out)
            have g1 : decide ((k : Int) < (i : Int)) = true := decide_eq_true (by omega)
            have hkb : (0 ≤ (k : Int) ∧ (k : Int) < (L.length : Int)) := ⟨by omega, by omega⟩
            have hgd := guard_eqZ
            have HU := Lib.hid hu
            clear hcs' hu
            by_cases he : (ua, un, uy) = (xa, (n : Int), (m : Int))
            · have h1 : ua = xa := congrArg (fun z => z.1) he
              have h2 : un = (n : Int) := congrArg (fun z => z.2.1) he
              have h3 : uy = (m : Int) := congrArg (fun z => z.2.2) he
              rw [h1] at u0 HU
              rw [h2] at u1 HU
              rw [h3] at u2 HU
              clear h1 h2 h3 he
              have hcm := fun w => node_sameZ xa (n : Int) (m : Int) w
              go_wp2_with fail
              refine wp_region_bel (by kernel_rfl) (by kernel_rfl) ?_
              repeat (go_big_quiet_step (fail))
              refine wpQuiet_nil ?_
              rintro _ ⟨z8, rfl⟩
              go_wp2
              have hmem : (xa, (n : Int), (m : Int)) ∈ L.take i := List.mem_of_getElem? (i := k) (by rw [List.getElem?_take_of_lt hki, HU.out])
              have hd := HCH.out
              rw [if_pos hmem] at hd
              subst hd
              have hb8 : Below Z.heap.size Z z8.w := by (repeat' (first | (with_reducible first | exact Below.refl _ _ | exact Nat.le_refl _ | refine Below.bel ?_ ?_ | refine Below.alloc ?_ ?_ _ | refine Below.drew ?_ | refine Below.drawsN ?_ _ | refine Below.setCell ?_ ?_ _ | refine le_bel ?_ | refine le_alloc ?_ | refine le_setCell ?_ | refine le_drew ?_ | refine le_drawsN ?_) | (dsimp only; with_reducible first | refine le_bel ?_ | refine Nat.le_refl _ | refine le_bel_add ?_) | (with_reducible assumption) | omega | (dsimp only; omega)))
              have hb9 := HBZ.out.trans (hb8.mono hzs)
              go_ret
              exact Ret.mk rfl hb9
            · have hq : ((ua == xa) && ((un == (n : Int)) && (uy == (m : Int)))) = false := by
                cases hh : ((ua == xa) && ((un == (n : Int)) && (uy == (m : Int))))
                · rfl
                · simp only [Bool.and_eq_true, beq_iff_eq] at hh
                  exact absurd (by rw [hh.1, hh.2.1, hh.2.2]) he
              have hcm := fun w => run_eq_nodeZ ua un uy xa (n : Int) (m : Int) w
              simp only [hq] at hcm
              have HE := Lib.hid he
              clear he hq
              go_wp2_with fail
              refine wp_region_bel (by kernel_rfl) (by kernel_rfl) ?_
              repeat (go_big_quiet_step (fail))
              refine wpQuiet_nil ?_
              rintro _ ⟨z8, rfl⟩
              go_wp2
              go_roundw
              case rel =>
                refine ⟨k + 1, by go_num, by omega, fun j hj => ?_, ⟨z8.w, by (repeat' (first | (with_reducible first | exact Below.refl _ _ | exact Nat.le_refl _ | refine Below.bel ?_ ?_ | refine Below.alloc ?_ ?_ _ | refine Below.drew ?_ | refine Below.drawsN ?_ _ | refine Below.setCell ?_ ?_ _ | refine le_bel ?_ | refine le_alloc ?_ | refine le_setCell ?_ | refine le_drew ?_ | refine le_drawsN ?_) | (dsimp only; with_reducible first | refine le_bel ?_ | refine Nat.le_refl _ | refine le_bel_add ?_) | (with_reducible assumption) | omega | (dsimp only; omega)))⟩, rfl⟩
                rcases Nat.lt_or_ge j k with h | h
                · exact HNO.out j h
                · have : j = k := by omega
                  rw [this, HU.out]
                  intro e
                  injection e with e
                  exact HE.out e
              case measure => simp [intOf]; omega
          · have hke : k = i := by omega
            subst hke
            have g1 : decide ((k : Int) < (k : Int)) = false := decide_eq_false (by omega)
            have hmem : (xa, (n : Int), (m : Int)) ∉ L.take k := fun h => by
              obtain ⟨j, hj⟩ := List.mem_iff_getElem?.1 h
              rw [List.getElem?_take] at hj
              split at hj
              · rename_i hjk
                exact HNO.out j hjk hj
              · cases hj
            have hd := HCH.out
            rw [if_neg hmem] at hd
            subst hd
            have hb9 := HBZ.out.trans (y.below.mono hzs)
            go_wp2
            go_ret
            exact Ret.mk rfl hb9
  · have g1 : decide (1 < (n : Int)) = false := decide_eq_false (by omega)
    have HNN := Lib.hid (show ¬ (1 < (n : Int) ∧ varZ L (n : Int) ≤ xa) from by omega)
    have d1 : ¬ 1 < m := by omega
    have g3 : decide (1 < (m : Int)) = false := decide_eq_false (by omega)
    have HC := Lib.hid (show ¬ ((1 < (n : Int) ∧ varZ L (n : Int) ≤ xa) ∨ (1 < (m : Int) ∧ varZ L (m : Int) ≤ xa)) from by
      have := HNN.out
      omega)
    go_enter Tryz.func82, Tryz.ntmps82
    go_wp2_with fail
    refine wp_region_bel (by kernel_rfl) (by kernel_rfl) ?_
    repeat (go_big_quiet_step (fail))
    refine wpQuiet_nil ?_
    rintro _ ⟨z9, rfl⟩
    have hch : D = if (xa, (n : Int), (m : Int)) ∈ L.take i then 9 else 0 := by
      rw [← HDD.out]
      unfold chk1
      rw [if_neg hr, if_neg hnm, if_neg HC.out]
    have HCH := Lib.hid hch
    have hbz9 : Below w.heap.size w z9.w := by (repeat' (first | (with_reducible first | exact Below.refl _ _ | exact Nat.le_refl _ | refine Below.bel ?_ ?_ | refine Below.alloc ?_ ?_ _ | refine Below.drew ?_ | refine Below.drawsN ?_ _ | refine Below.setCell ?_ ?_ _ | refine le_bel ?_ | refine le_alloc ?_ | refine le_setCell ?_ | refine le_drew ?_ | refine le_drawsN ?_) | (dsimp only; with_reducible first | refine le_bel ?_ | refine Nat.le_refl _ | refine le_bel_add ?_) | (with_reducible assumption) | omega | (dsimp only; omega)))
    have oz := obj_bel z9 HOB.out
    obtain ⟨Z, hZ⟩ : ∃ Z, z9.w = Z := ⟨_, rfl⟩
    rw [hZ] at hbz9 oz ⊢
    have HBZ := Lib.hid hbz9
    have HOZ := Lib.hid oz
    have HIW := Lib.hid (HI.out.of hbz9)
    clear hbz9 oz hZ z9 hch HOB hr hnm f1 f2 f3 f4 f5
    go_wp2
    go_loopw [6] (fun iv wr => ∃ k : Nat, iv = .int .i64 (k : Int) ∧ k ≤ i ∧ (∀ j, j < k → L[j]? ≠ some (xa, (n : Int), (m : Int))) ∧ ∃ y : Bel Z, wr = y.w) (fun iv _ => i - (intOf iv).toNat)
    case atStart => exact ⟨0, rfl, Nat.zero_le _, fun j h => by omega, ⟨Z, Below.refl _ _⟩, rfl⟩
    case round =>
      obtain ⟨k, rfl, hk, hno, y, rfl⟩ := hrel
      have HNO := Lib.hid hno
      have hzs := HBZ.out.size
      clear hno
      rcases Nat.lt_or_ge k i with hki | hki
      · obtain ⟨u, hu⟩ : ∃ u, L[k]? = some u := ⟨_, List.getElem?_eq_getElem (by omega)⟩
        obtain ⟨ua, un, uy⟩ := u
        obtain ⟨g', off', hadd, _, hcs'⟩ := (HIW.out.of (y.below.mono hzs)) (by omega)
        cases hadd
        obtain ⟨u0, u1, u2⟩ := hcs' k (ua, un, uy) hu
        dsimp only at u0 u1 u2
        obtain ⟨e0, e1, e2⟩ := box3 (obj_bel y HOZ.out)
        have g1 : decide ((k : Int) < (i : Int)) = true := decide_eq_true (by omega)
        have hkb : (0 ≤ (k : Int) ∧ (k : Int) < (L.length : Int)) := ⟨by omega, by omega⟩
        have hgd := guard_eqZ
        have HU := Lib.hid hu
        clear hcs' hu
        by_cases he : (ua, un, uy) = (xa, (n : Int), (m : Int))
        · have h1 : ua = xa := congrArg (fun z => z.1) he
          have h2 : un = (n : Int) := congrArg (fun z => z.2.1) he
          have h3 : uy = (m : Int) := congrArg (fun z => z.2.2) he
          rw [h1] at u0 HU
          rw [h2] at u1 HU
          rw [h3] at u2 HU
          clear h1 h2 h3 he
          have hcm := fun w => node_sameZ xa (n : Int) (m : Int) w
          go_wp2_with fail
          refine wp_region_bel (by kernel_rfl) (by kernel_rfl) ?_
          repeat (go_big_quiet_step (fail))
          refine wpQuiet_nil ?_
          rintro _ ⟨z8, rfl⟩
          go_wp2
          have hmem : (xa, (n : Int), (m : Int)) ∈ L.take i := List.mem_of_getElem? (i := k) (by rw [List.getElem?_take_of_lt hki, HU.out])
          have hd := HCH.out
          rw [if_pos hmem] at hd
          subst hd
          have hb8 : Below Z.heap.size Z z8.w := by (repeat' (first | (with_reducible first | exact Below.refl _ _ | exact Nat.le_refl _ | refine Below.bel ?_ ?_ | refine Below.alloc ?_ ?_ _ | refine Below.drew ?_ | refine Below.drawsN ?_ _ | refine Below.setCell ?_ ?_ _ | refine le_bel ?_ | refine le_alloc ?_ | refine le_setCell ?_ | refine le_drew ?_ | refine le_drawsN ?_) | (dsimp only; with_reducible first | refine le_bel ?_ | refine Nat.le_refl _ | refine le_bel_add ?_) | (with_reducible assumption) | omega | (dsimp only; omega)))
          have hb9 := HBZ.out.trans (hb8.mono hzs)
          go_ret
          exact Ret.mk rfl hb9
        · have hq : ((ua == xa) && ((un == (n : Int)) && (uy == (m : Int)))) = false := by
            cases hh : ((ua == xa) && ((un == (n : Int)) && (uy == (m : Int))))
            · rfl
            · simp only [Bool.and_eq_true, beq_iff_eq] at hh
              exact absurd (by rw [hh.1, hh.2.1, hh.2.2]) he
          have hcm := fun w => run_eq_nodeZ ua un uy xa (n : Int) (m : Int) w
          simp only [hq] at hcm
          have HE := Lib.hid he
          clear he hq
          go_wp2_with fail
          refine wp_region_bel (by kernel_rfl) (by kernel_rfl) ?_
          repeat (go_big_quiet_step (fail))
          refine wpQuiet_nil ?_
          rintro _ ⟨z8, rfl⟩
          go_wp2
          go_roundw
          case rel =>
            refine ⟨k + 1, by go_num, by omega, fun j hj => ?_, ⟨z8.w, by (repeat' (first | (with_reducible first | exact Below.refl _ _ | exact Nat.le_refl _ | refine Below.bel ?_ ?_ | refine Below.alloc ?_ ?_ _ | refine Below.drew ?_ | refine Below.drawsN ?_ _ | refine Below.setCell ?_ ?_ _ | refine le_bel ?_ | refine le_alloc ?_ | refine le_setCell ?_ | refine le_drew ?_ | refine le_drawsN ?_) | (dsimp only; with_reducible first | refine le_bel ?_ | refine Nat.le_refl _ | refine le_bel_add ?_) | (with_reducible assumption) | omega | (dsimp only; omega)))⟩, rfl⟩
            rcases Nat.lt_or_ge j k with h | h
            · exact HNO.out j h
            · have : j = k := by omega
              rw [this, HU.out]
              intro e
              injection e with e
              exact HE.out e
          case measure => simp [intOf]; omega
      · have hke : k = i := by omega
        subst hke
        have g1 : decide ((k : Int) < (k : Int)) = false := decide_eq_false (by omega)
        have hmem : (xa, (n : Int), (m : Int)) ∉ L.take k := fun h => by
          obtain ⟨j, hj⟩ := List.mem_iff_getElem?.1 h
          rw [List.getElem?_take] at hj
          split at hj
          · rename_i hjk
            exact HNO.out j hjk hj
          · cases hj
        have hd := HCH.out
        rw [if_neg hmem] at hd
        subst hd
        have hb9 := HBZ.out.trans (y.below.mono hzs)
        go_wp2
        go_ret
        exact Ret.mk rfl hb9
set_option maxRecDepth 100000 in
set_option maxHeartbeats 12800000 in
theorem lchk1_eq (L : List (Int × Int × Int)) (hlen : L.length ≤ 100) (i : Nat) (xa xn : Int) (hx : L[i]? = some (xa, xn, xn)) (ad : Option Addr) (cap : Nat) (w : World) (hi : InD w.heap.size w ad L) :
    Calls Tryz.prog 82 #[.slice ad L.length cap, .int .i64 (i : Int)] w (Ret (.int .i64 (chk1 L i (xa, xn, xn) : Nat)) w) := by
  have hil := (List.getElem?_eq_some_iff.1 hx).1
  have hii : (0 ≤ (i : Int) ∧ (i : Int) < (L.length : Int)) := ⟨by omega, by omega⟩
  obtain ⟨g, off, hadd, hg, hcs⟩ := hi (by omega)
  subst hadd
  obtain ⟨x0, x1, x2⟩ := hcs i (xa, xn, xn) hx
  dsimp only at x0 x1 x2
  clear hcs hi hx
  have hch : chk1 L i (xa, xn, xn) = if xa < 0 ∨ 4096 ≤ xa ∨ xn < 0 ∨ (i : Int) + 2 ≤ xn then 3 else 7 := by
    unfold chk1
    dsimp only
    by_cases h : xa < 0 ∨ 4096 ≤ xa ∨ xn < 0 ∨ (i : Int) + 2 ≤ xn
    · rw [if_pos h, if_pos (by omega)]
    · rw [if_neg h, if_neg (by omega), if_pos rfl]
  rw [hch]
  clear hch
  by_cases c1 : xa < 0
  · have f1 : decide (xa < 0) = true := decide_eq_true c1
    rw [if_pos (.inl c1)]
    go_enter Tryz.func82, Tryz.ntmps82
    go_wp2
    go_ret
    exact Ret.mk (by rfl) (by (repeat' (first | (with_reducible first | exact Below.refl _ _ | exact Nat.le_refl _ | refine Below.bel ?_ ?_ | refine Below.alloc ?_ ?_ _ | refine Below.drew ?_ | refine Below.drawsN ?_ _ | refine Below.setCell ?_ ?_ _ | refine le_bel ?_ | refine le_alloc ?_ | refine le_setCell ?_ | refine le_drew ?_ | refine le_drawsN ?_) | (dsimp only; with_reducible first | refine le_bel ?_ | refine Nat.le_refl _ | refine le_bel_add ?_) | (with_reducible assumption) | omega | (dsimp only; omega))))
  have f1 : decide (xa < 0) = false := decide_eq_false c1
  by_cases c2 : 4096 ≤ xa
  · have f2 : decide (4096 ≤ xa) = true := decide_eq_true c2
    rw [if_pos (.inr (.inl c2))]
    go_enter Tryz.func82, Tryz.ntmps82
    go_wp2
    go_ret
    exact Ret.mk (by rfl) (by (repeat' (first | (with_reducible first | exact Below.refl _ _ | exact Nat.le_refl _ | refine Below.bel ?_ ?_ | refine Below.alloc ?_ ?_ _ | refine Below.drew ?_ | refine Below.drawsN ?_ _ | refine Below.setCell ?_ ?_ _ | refine le_bel ?_ | refine le_alloc ?_ | refine le_setCell ?_ | refine le_drew ?_ | refine le_drawsN ?_) | (dsimp only; with_reducible first | refine le_bel ?_ | refine Nat.le_refl _ | refine le_bel_add ?_) | (with_reducible assumption) | omega | (dsimp only; omega))))
  have f2 : decide (4096 ≤ xa) = false := decide_eq_false c2
  by_cases c3 : xn < 0
  · have f3 : decide (xn < 0) = true := decide_eq_true c3
    rw [if_pos (.inr (.inr (.inl c3)))]
    go_enter Tryz.func82, Tryz.ntmps82
    go_wp2
    go_ret
    exact Ret.mk (by rfl) (by (repeat' (first | (with_reducible first | exact Below.refl _ _ | exact Nat.le_refl _ | refine Below.bel ?_ ?_ | refine Below.alloc ?_ ?_ _ | refine Below.drew ?_ | refine Below.drawsN ?_ _ | refine Below.setCell ?_ ?_ _ | refine le_bel ?_ | refine le_alloc ?_ | refine le_setCell ?_ | refine le_drew ?_ | refine le_drawsN ?_) | (dsimp only; with_reducible first | refine le_bel ?_ | refine Nat.le_refl _ | refine le_bel_add ?_) | (with_reducible assumption) | omega | (dsimp only; omega))))
  have f3 : decide (xn < 0) = false := decide_eq_false c3
  by_cases c4 : (i : Int) + 2 ≤ xn
  · have f4 : decide ((i : Int) + 2 ≤ xn) = true := decide_eq_true c4
    rw [if_pos (.inr (.inr (.inr c4)))]
    go_enter Tryz.func82, Tryz.ntmps82
    go_wp2
    go_ret
    exact Ret.mk (by rfl) (by (repeat' (first | (with_reducible first | exact Below.refl _ _ | exact Nat.le_refl _ | refine Below.bel ?_ ?_ | refine Below.alloc ?_ ?_ _ | refine Below.drew ?_ | refine Below.drawsN ?_ _ | refine Below.setCell ?_ ?_ _ | refine le_bel ?_ | refine le_alloc ?_ | refine le_setCell ?_ | refine le_drew ?_ | refine le_drawsN ?_) | (dsimp only; with_reducible first | refine le_bel ?_ | refine Nat.le_refl _ | refine le_bel_add ?_) | (with_reducible assumption) | omega | (dsimp only; omega))))
  have f4 : decide ((i : Int) + 2 ≤ xn) = false := decide_eq_false c4
  have f5 : (xn == xn) = true := beq_iff_eq.2 rfl
  rw [if_neg (by omega)]
  go_enter Tryz.func82, Tryz.ntmps82
  go_wp2
  go_ret
  exact Ret.mk (by rfl) (by (repeat' (first | (with_reducible first | exact Below.refl _ _ | exact Nat.le_refl _ | refine Below.bel ?_ ?_ | refine Below.alloc ?_ ?_ _ | refine Below.drew ?_ | refine Below.drawsN ?_ _ | refine Below.setCell ?_ ?_ _ | refine le_bel ?_ | refine le_alloc ?_ | refine le_setCell ?_ | refine le_drew ?_ | refine le_drawsN ?_) | (dsimp only; with_reducible first | refine le_bel ?_ | refine Nat.le_refl _ | refine le_bel_add ?_) | (with_reducible assumption) | omega | (dsimp only; omega))))
theorem lchk1_any (L : List (Int × Int × Int)) (hlen : L.length ≤ 100) (i : Nat) (x : Int × Int × Int) (hx : L[i]? = some x) (ad : Option Addr) (cap : Nat) (w : World) (hi : InD w.heap.size w ad L) :
    Calls Tryz.prog 82 #[.slice ad L.length cap, .int .i64 (i : Int)] w (Ret (.int .i64 (chk1 L i x : Nat)) w) := by
  rcases Int.lt_trichotomy x.2.1 x.2.2 with h | h | h
  · exact lchk1_lt L hlen i x hx ad cap w hi h
  · obtain ⟨a, b, c⟩ := x
    dsimp only at h
    subst h
    exact lchk1_eq L hlen i a b hx ad cap w hi
  · exact lchk1_gt L hlen i x hx ad cap w hi h
theorem range_iff {l : List Nat} {n : Nat} : l = List.range' 2 n ↔ l.length = n ∧ ∀ j, j < l.length → l[j]? = some (j + 2) := by
  constructor
  · rintro rfl
    rw [List.length_range']
    refine ⟨rfl, fun j hj => ?_⟩
    rw [List.getElem?_range' hj]
    congr 1
    omega
  · rintro ⟨h1, h2⟩
    refine List.ext_getElem? fun j => ?_
    rcases Nat.lt_or_ge j l.length with hj | hj
    · rw [h2 j hj, List.getElem?_range' (by omega)]
      congr 1
      omega
    · rw [List.getElem?_eq_none hj, List.getElem?_eq_none (by rw [List.length_range']; omega)]
set_option maxRecDepth 100000 in
set_option maxHeartbeats 12800000 in
theorem lcheck_any (L : List (Int × Int × Int)) (hlen : L.length ≤ 8) (r : Int) (ad : Option Addr) (cap : Nat) (w : World) (hi : InD w.heap.size w ad L) :
    Calls Tryz.prog 42 #[.agg #[.slice ad L.length cap, .int .i64 r]] w (Ret (.int .i64 (chkD L r : Nat)) w) := by
  have HI := Lib.hid hi
  have HK := Lib.hid (fun i x (hx : L[i]? = some x) w' (h : InD w'.heap.size w' ad L) => lchk1_any L (by omega) i x hx ad cap w' h)
  obtain ⟨D, hD⟩ : ∃ D, chkD L r = D := ⟨_, rfl⟩
  rw [hD]
  have HD := Lib.hid hD
  clear hi hD
  go_enter Tryz.func42, Tryz.ntmps42
  go_wp2
  have hb0 : Below w.heap.size w (w.alloc (.cells #[.slice ad L.length cap, .int .i64 r] 30)) := (Below.refl _ _).alloc (Nat.le_refl _) _
  have o0 := World.alloc_heap_new w (.cells #[.slice ad L.length cap, .int .i64 r] 30)
  obtain ⟨Z, hZ⟩ : ∃ Z, w.alloc (.cells #[.slice ad L.length cap, .int .i64 r] 30) = Z := ⟨_, rfl⟩
  rw [hZ] at hb0 o0 ⊢
  have HB := Lib.hid hb0
  have HO := Lib.hid o0
  clear hb0 o0 hZ
  go_loopw [3, 4] (fun iv _ wr => ∃ k : Nat, iv = .int .i64 (k : Int) ∧ k ≤ L.length ∧ errN L L.length 0 = errN L (L.length - k) k ∧ ∃ y : Bel Z, wr = y.w) (fun iv _ _ => L.length - (intOf iv).toNat)
  case atStart => exact ⟨0, rfl, Nat.zero_le _, rfl, ⟨Z, Below.refl _ _⟩, rfl⟩
  case round =>
    obtain ⟨k, rfl, hk, her, y, rfl⟩ := hrel
    have hzs := HB.out.size
    have HER := Lib.hid her
    obtain ⟨c0, c1, -⟩ := cells2 (obj_bel y HO.out)
    have hby : Below w.heap.size w y.w := HB.out.trans (y.below.mono hzs)
    clear her
    rcases Nat.lt_or_ge k L.length with hkl | hkl
    · obtain ⟨x, hx⟩ : ∃ x, L[k]? = some x := ⟨_, List.getElem?_eq_getElem hkl⟩
      have f2 : decide ((k : Int) < (L.length : Int)) = true := decide_eq_true (by omega)
      have hstep : errN L (L.length - k) k = if chk1 L k x = 0 then errN L (L.length - (k + 1)) (k + 1) else chk1 L k x := by
        obtain ⟨f, hf⟩ : ∃ f, L.length - k = f + 1 := ⟨L.length - k - 1, by omega⟩
        rw [hf, errN, getD_some hx, show L.length - (k + 1) = f by omega]
      have HST := Lib.hid (HER.out.trans hstep)
      have HKX := Lib.hid (HK.out k x hx)
      obtain ⟨c, hc⟩ : ∃ c, chk1 L k x = c := ⟨_, rfl⟩
      rw [hc] at HST HKX
      clear hstep hx hc
      go_wp2_with fail
      refine (HKX.out _ ((HI.out.of hby).up hby.size)).mono ?_
      rintro _ _ ⟨rfl, y1, rfl⟩
      have hb1 : Below Z.heap.size Z y1.w := by (repeat' (first | (with_reducible first | exact Below.refl _ _ | exact Nat.le_refl _ | refine Below.bel ?_ ?_ | refine Below.alloc ?_ ?_ _ | refine Below.drew ?_ | refine Below.drawsN ?_ _ | refine Below.setCell ?_ ?_ _ | refine le_bel ?_ | refine le_alloc ?_ | refine le_setCell ?_ | refine le_drew ?_ | refine le_drawsN ?_) | (dsimp only; with_reducible first | refine le_bel ?_ | refine Nat.le_refl _ | refine le_bel_add ?_) | (with_reducible assumption) | omega | (dsimp only; omega)))
      dsimp only
      by_cases h0 : c = 0
      · subst h0
        have f3 : (((0 : Nat) : Int) != 0) = false := rfl
        go_wp2
        go_roundw
        case rel => exact ⟨k + 1, by go_num, by omega, by rw [HST.out, if_pos rfl], ⟨y1.w, hb1⟩, rfl⟩
        case measure => simp [intOf]; omega
      · have f3 : ((c : Int) != 0) = true := by simp; omega
        have hdd := HD.out
        unfold chkD at hdd
        rw [HST.out, if_neg h0, if_pos h0] at hdd
        subst hdd
        clear h0
        go_wp2
        go_ret
        exact Ret.mk rfl (HB.out.trans (hb1.mono hzs))
    · have hke : k = L.length := by omega
      subst hke
      have f2 : decide ((L.length : Int) < (L.length : Int)) = false := decide_eq_false (by omega)
      have he0 : errN L L.length 0 = 0 := by rw [HER.out, Nat.sub_self, errN]
      obtain ⟨hg, hz⟩ := good_chk he0
      have hdd := HD.out
      unfold chkD at hdd
      rw [he0, if_neg (by simp)] at hdd
      clear HK HER he0 HD
      by_cases r1 : r < 0 ∨ (L.length : Int) + 2 ≤ r
      · rw [if_pos r1] at hdd
        subst hdd
        by_cases r2 : r < 0
        · have f3 : decide (r < 0) = true := decide_eq_true r2
          clear r1 hg hz
          go_wp2
          go_ret
          exact Ret.mk rfl hby
        · have f3 : decide (r < 0) = false := decide_eq_false r2
          have f4 : decide ((L.length : Int) + 2 ≤ r) = true := decide_eq_true (by omega)
          clear r1 hg hz
          go_wp2
          go_ret
          exact Ret.mk rfl hby
      rw [if_neg r1] at hdd
      have f3 : decide (r < 0) = false := decide_eq_false (by omega)
      have f4 : decide ((L.length : Int) + 2 ≤ r) = false := decide_eq_false (by omega)
      by_cases r3 : 0 < L.length ∧ r ≠ (L.length : Int) + 1
      · rw [if_pos (.inl r3)] at hdd
        subst hdd
        have f5 : decide (0 < (L.length : Int)) = true := decide_eq_true (by omega)
        have f5n : (0 < L.length) = True := eq_true (by omega)
        have f5d : decide (0 < L.length) = true := decide_eq_true (by omega)
        have f6 : (r != (L.length : Int) + 1) = true := by simp; exact r3.2
        clear r1 r3 hg hz
        go_wp2
        go_ret
        exact Ret.mk rfl hby
      rw [if_neg (by omega)] at hdd
      obtain ⟨R, rfl⟩ := Int.eq_ofNat_of_zero_le (show 0 ≤ r by omega)
      rw [Int.toNat_natCast] at hdd
      have hRl : R < (L.map n3).length + 2 := by rw [List.length_map]; omega
      have hol := dfs3_ordr hg (R + 1) R [] (Nat.lt_succ_self R) hRl (ordr3_nil _)
      have hll := ordr3_len hol
      rw [List.length_map] at hll
      have hnl : (L.map n3).length = L.length := List.length_map ..
      have HW := Lib.hid (fun w' (h : InD w'.heap.size w' ad L) => lwalk_any hg (by omega) w'.heap.size ad cap (R + 1) R (Nat.lt_succ_self R) hRl [] (.slice none 0 0) w' (ordr3_nil _) (Nat.le_refl _) (World.ownsRow_nil _ _ _ _) (by rw [hz]; exact h))
      rw [hnl] at HW
      obtain ⟨l, hl⟩ : ∃ l, dfs3 (L.map n3) (R + 1) R [] = l := ⟨_, rfl⟩
      rw [hl] at HW hdd hll
      unfold RetWk at HW
      have HDD := Lib.hid hdd
      clear hdd hl hol hg hz hRl hnl
      by_cases r4 : 0 < L.length
      · have f5 : decide (0 < (L.length : Int)) = true := decide_eq_true (by omega)
        have f5n : (0 < L.length) = True := eq_true (by omega)
        have f5d : decide (0 < L.length) = true := decide_eq_true (by omega)
        have f6 : ((R : Int) != (L.length : Int) + 1) = false := by simp; omega
        clear r1 r3 r4
        go_wp2_with fail
        refine (HW.out _ ((HI.out.of hby).up hby.size)).mono ?_
        rintro _ W5 ⟨_, rfl, how, hb5, hs5⟩
        obtain ⟨a5, c5, rfl, hcs5⟩ := ownN_sl how
        have HCS := Lib.hid hcs5
        have hbw5 := hby.trans (hb5.mono hby.size)
        have HB5 := Lib.hid hbw5
        obtain ⟨c0, c1, -⟩ := cells2 (obj_in hb5 (obj_bel y HO.out))
        have HO5 := Lib.hid (obj_in hb5 (obj_bel y HO.out))
        clear hcs5 how hb5 hs5 hbw5
        dsimp only
        go_wp2
        go_loopw [6] (fun iv wr => ∃ k : Nat, iv = .int .i64 (k : Int) ∧ k ≤ l.length ∧ (∀ j, j < k → l[j]? = some (j + 2)) ∧ ∃ y : Bel W5, wr = y.w) (fun iv _ => l.length - (intOf iv).toNat)
        case atStart => exact ⟨0, rfl, Nat.zero_le _, fun j h => by omega, ⟨W5, Below.refl _ _⟩, rfl⟩
        case round =>
          obtain ⟨k, rfl, hk, hall, z, rfl⟩ := hrel
          have hs5 := HB5.out.size
          obtain ⟨d0, d1, -⟩ := cells2 (obj_bel z HO5.out)
          have HALL := Lib.hid hall
          clear hall
          rcases Nat.lt_or_ge k l.length with hkl | hkl
          · obtain ⟨u, hu⟩ : ∃ u, l[k]? = some u := ⟨_, List.getElem?_eq_getElem hkl⟩
            obtain ⟨g, hadd, hgb, hgl, hcell⟩ := HCS.out k u hu
            subst hadd
            have cc := cell_in z.below hcell
            have g2 : decide ((k : Int) < (l.length : Int)) = true := decide_eq_true (by omega)
            have hib : (0 ≤ (k : Int) ∧ (k : Int) < (l.length : Int)) := ⟨by omega, by omega⟩
            have HU := Lib.hid hu
            clear hcell hu
            by_cases he : u = k + 2
            · have g3 : ((u : Int) != (k : Int) + 2) = false := by simp; omega
              have HE := Lib.hid he
              clear he
              go_wp2
              go_roundw
              case rel =>
                refine ⟨k + 1, by go_num, by omega, fun j hj => ?_, z, rfl⟩
                rcases Nat.lt_or_ge j k with h | h
                · exact HALL.out j h
                · have : j = k := by omega
                  rw [this, HU.out, HE.out]
              case measure => simp [intOf]; omega
            · have g3 : ((u : Int) != (k : Int) + 2) = true := by simp; omega
              have hne : ¬ l = List.range' 2 L.length := fun e => by
                have := (range_iff.1 e).2 k hkl
                rw [HU.out] at this
                injection this with this
                exact he this
              have hd7 := HDD.out
              rw [if_neg hne] at hd7
              subst hd7
              clear hne he
              go_wp2
              go_ret
              exact Ret.mk rfl (HB5.out.trans (z.below.mono hs5))
          · have hke : k = l.length := by omega
            subst hke
            have g2 : decide ((l.length : Int) < (l.length : Int)) = false := decide_eq_false (by omega)
            by_cases hn : l.length = L.length
            · have g3 : ((l.length : Int) != (L.length : Int)) = false := by simp; omega
              have hd0 := HDD.out
              rw [if_pos (range_iff.2 ⟨hn, HALL.out⟩)] at hd0
              subst hd0
              clear hn
              go_wp2
              go_ret
              exact Ret.mk rfl (HB5.out.trans (z.below.mono hs5))
            · have g3 : ((l.length : Int) != (L.length : Int)) = true := by simp; omega
              have hd7 := HDD.out
              rw [if_neg (fun e => hn (range_iff.1 e).1)] at hd7
              subst hd7
              clear hn
              go_wp2
              go_ret
              exact Ret.mk rfl (HB5.out.trans (z.below.mono hs5))
      · have f5 : decide (0 < (L.length : Int)) = false := decide_eq_false (by omega)
        have f5n : (0 < L.length) = False := eq_false (by omega)
        have f5d : decide (0 < L.length) = false := decide_eq_false (by omega)
        clear r1 r3 r4
        go_wp2_with fail
        refine (HW.out _ ((HI.out.of hby).up hby.size)).mono ?_
        rintro _ W5 ⟨_, rfl, how, hb5, hs5⟩
        obtain ⟨a5, c5, rfl, hcs5⟩ := ownN_sl how
        have HCS := Lib.hid hcs5
        have hbw5 := hby.trans (hb5.mono hby.size)
        have HB5 := Lib.hid hbw5
        obtain ⟨c0, c1, -⟩ := cells2 (obj_in hb5 (obj_bel y HO.out))
        have HO5 := Lib.hid (obj_in hb5 (obj_bel y HO.out))
        clear hcs5 how hb5 hs5 hbw5
        dsimp only
        go_wp2
        go_loopw [6] (fun iv wr => ∃ k : Nat, iv = .int .i64 (k : Int) ∧ k ≤ l.length ∧ (∀ j, j < k → l[j]? = some (j + 2)) ∧ ∃ y : Bel W5, wr = y.w) (fun iv _ => l.length - (intOf iv).toNat)
        case atStart => exact ⟨0, rfl, Nat.zero_le _, fun j h => by omega, ⟨W5, Below.refl _ _⟩, rfl⟩
        case round =>
          obtain ⟨k, rfl, hk, hall, z, rfl⟩ := hrel
          have hs5 := HB5.out.size
          obtain ⟨d0, d1, -⟩ := cells2 (obj_bel z HO5.out)
          have HALL := Lib.hid hall
          clear hall
          rcases Nat.lt_or_ge k l.length with hkl | hkl
          · obtain ⟨u, hu⟩ : ∃ u, l[k]? = some u := ⟨_, List.getElem?_eq_getElem hkl⟩
            obtain ⟨g, hadd, hgb, hgl, hcell⟩ := HCS.out k u hu
            subst hadd
            have cc := cell_in z.below hcell
            have g2 : decide ((k : Int) < (l.length : Int)) = true := decide_eq_true (by omega)
            have hib : (0 ≤ (k : Int) ∧ (k : Int) < (l.length : Int)) := ⟨by omega, by omega⟩
            have HU := Lib.hid hu
            clear hcell hu
            by_cases he : u = k + 2
            · have g3 : ((u : Int) != (k : Int) + 2) = false := by simp; omega
              have HE := Lib.hid he
              clear he
              go_wp2
              go_roundw
              case rel =>
                refine ⟨k + 1, by go_num, by omega, fun j hj => ?_, z, rfl⟩
                rcases Nat.lt_or_ge j k with h | h
                · exact HALL.out j h
                · have : j = k := by omega
                  rw [this, HU.out, HE.out]
              case measure => simp [intOf]; omega
            · have g3 : ((u : Int) != (k : Int) + 2) = true := by simp; omega
              have hne : ¬ l = List.range' 2 L.length := fun e => by
                have := (range_iff.1 e).2 k hkl
                rw [HU.out] at this
                injection this with this
                exact he this
              have hd7 := HDD.out
              rw [if_neg hne] at hd7
              subst hd7
              clear hne he
              go_wp2
              go_ret
              exact Ret.mk rfl (HB5.out.trans (z.below.mono hs5))
          · have hke : k = l.length := by omega
            subst hke
            have g2 : decide ((l.length : Int) < (l.length : Int)) = false := decide_eq_false (by omega)
            by_cases hn : l.length = L.length
            · have g3 : ((l.length : Int) != (L.length : Int)) = false := by simp; omega
              have hd0 := HDD.out
              rw [if_pos (range_iff.2 ⟨hn, HALL.out⟩)] at hd0
              subst hd0
              clear hn
              go_wp2
              go_ret
              exact Ret.mk rfl (HB5.out.trans (z.below.mono hs5))
            · have g3 : ((l.length : Int) != (L.length : Int)) = true := by simp; omega
              have hd7 := HDD.out
              rw [if_neg (fun e => hn (range_iff.1 e).1)] at hd7
              subst hd7
              clear hn
              go_wp2
              go_ret
              exact Ret.mk rfl (HB5.out.trans (z.below.mono hs5))
end Go.Proofs.YtkdmhjlcgpnjpaaGreatDoor
