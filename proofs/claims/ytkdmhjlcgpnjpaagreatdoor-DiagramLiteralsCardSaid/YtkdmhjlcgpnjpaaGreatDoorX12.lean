/- What the program's Check answers. -/
import Derived.Test.YtkdmhjlcgpnjpaaGreatDoorX11
import Derived.Test.YtkdmhjlcgpnjpaaGreatDoorXr
namespace Go.Proofs.YtkdmhjlcgpnjpaaGreatDoor
set_option linter.unusedVariables false
set_option linter.unusedSimpArgs false
open Go.RowKit Go.Maps
attribute [local go_sem low] Bel.cell Bel.frozen alloc_cell alloc_frozen
attribute [local go_sem] calmOp chainOp yieldsC grows

def inI (z : Int) : Prop := -9223372036854775808 ≤ z ∧ z < 9223372036854775808
/-- Nodes whose numbers are ints. -/
def InI (L : List (Int × Int × Int)) : Prop := ∀ x ∈ L, inI x.1 ∧ inI x.2.1 ∧ inI x.2.2
/-- The value of a node. -/
def nodeZ (x : Int × Int × Int) : Value := .agg #[.int .i64 x.1, .int .i64 x.2.1, .int .i64 x.2.2]
theorem nodeZ_inj {x y : Int × Int × Int} (h : nodeZ x = nodeZ y) : x = y := by
  unfold nodeZ at h
  simp at h
  exact Prod.ext (by omega) (Prod.ext (by omega) (by omega))
set_option maxRecDepth 100000 in
theorem before_any (p : Int) (i : Nat) (w : World) (hi : i ≤ 1000000) : Calls Tryz.prog 107 #[.int .i64 p, .int .i64 (i : Int)] w (Ret (.bool (decide (0 ≤ p ∧ p < (i : Int) + 2))) w) := by
  by_cases h1 : 0 ≤ p
  · by_cases h2 : p < (i : Int) + 2
    · have f1 : decide (0 ≤ p) = true := decide_eq_true h1
      have f2 : decide (p < (i : Int) + 2) = true := decide_eq_true h2
      rw [decide_eq_true (⟨h1, h2⟩ : 0 ≤ p ∧ p < (i : Int) + 2)]
      go_enter Tryz.func107, Tryz.ntmps107
      go_wp2
      go_ret
      exact Ret.mk (by rfl) (by (repeat' (first | (with_reducible exact Below.refl _ _) | (with_reducible exact Nat.le_refl _) | (with_reducible refine Below.bel ?_ ?_) | (with_reducible refine Below.alloc ?_ ?_ _) | (with_reducible refine Below.drew ?_) | (with_reducible refine Below.drawsN ?_ _) | (with_reducible refine Below.setCell ?_ ?_ _) | (with_reducible refine le_bel ?_) | (with_reducible refine le_alloc ?_) | (with_reducible refine le_setCell ?_) | (with_reducible refine le_drew ?_) | (with_reducible refine le_drawsN ?_) | (dsimp only; with_reducible refine le_bel ?_) | (dsimp only; with_reducible refine Nat.le_refl _) | (dsimp only; with_reducible refine le_bel_add ?_) | (with_reducible assumption) | omega | (dsimp only; omega))))
    · have f1 : decide (0 ≤ p) = true := decide_eq_true h1
      have f2 : decide (p < (i : Int) + 2) = false := decide_eq_false h2
      rw [decide_eq_false (fun h : 0 ≤ p ∧ p < (i : Int) + 2 => h2 h.2)]
      go_enter Tryz.func107, Tryz.ntmps107
      go_wp2
      go_ret
      exact Ret.mk (by rfl) (by (repeat' (first | (with_reducible exact Below.refl _ _) | (with_reducible exact Nat.le_refl _) | (with_reducible refine Below.bel ?_ ?_) | (with_reducible refine Below.alloc ?_ ?_ _) | (with_reducible refine Below.drew ?_) | (with_reducible refine Below.drawsN ?_ _) | (with_reducible refine Below.setCell ?_ ?_ _) | (with_reducible refine le_bel ?_) | (with_reducible refine le_alloc ?_) | (with_reducible refine le_setCell ?_) | (with_reducible refine le_drew ?_) | (with_reducible refine le_drawsN ?_) | (dsimp only; with_reducible refine le_bel ?_) | (dsimp only; with_reducible refine Nat.le_refl _) | (dsimp only; with_reducible refine le_bel_add ?_) | (with_reducible assumption) | omega | (dsimp only; omega))))
  · have f1 : decide (0 ≤ p) = false := decide_eq_false h1
    rw [decide_eq_false (fun h : 0 ≤ p ∧ p < (i : Int) + 2 => h1 h.1)]
    go_enter Tryz.func107, Tryz.ntmps107
    go_wp2
    go_ret
    exact Ret.mk (by rfl) (by (repeat' (first | (with_reducible exact Below.refl _ _) | (with_reducible exact Nat.le_refl _) | (with_reducible refine Below.bel ?_ ?_) | (with_reducible refine Below.alloc ?_ ?_ _) | (with_reducible refine Below.drew ?_) | (with_reducible refine Below.drawsN ?_ _) | (with_reducible refine Below.setCell ?_ ?_ _) | (with_reducible refine le_bel ?_) | (with_reducible refine le_alloc ?_) | (with_reducible refine le_setCell ?_) | (with_reducible refine le_drew ?_) | (with_reducible refine le_drawsN ?_) | (dsimp only; with_reducible refine le_bel ?_) | (dsimp only; with_reducible refine Nat.le_refl _) | (dsimp only; with_reducible refine le_bel_add ?_) | (with_reducible assumption) | omega | (dsimp only; omega))))
set_option maxRecDepth 100000 in
set_option maxHeartbeats 6400000 in
theorem dsingle_any (L : List (Int × Int × Int)) (hL : InI L) (hlen : L.length ≤ 50000) (ad : Option Addr) (cap : Nat) (r : Int) (i : Nat) (x : Int × Int × Int) (hx : L[i]? = some x) (sm n : Nat) (S : Value → Bool) (w : World) (hi : InD w.heap.size w ad L)
    (hm : FunB Tryz.prog 55 4 w sm n S) (hS : ∀ y, S (nodeZ y) = decide (y ∈ L.take i)) :
    Calls Tryz.prog 78 #[.agg #[.slice ad L.length cap, .int .i64 r], .int .i64 (i : Int), .map (some sm)] w (Ret (.int .i64 (chk1 L i x : Nat)) w) := by
  have hil := (List.getElem?_eq_some_iff.1 hx).1
  obtain ⟨g, off, hadd, hg, hcs⟩ := hi (by omega)
  cases hadd
  obtain ⟨x0, x1, x2⟩ := hcs i x hx
  have HCS := Lib.hid hcs
  obtain ⟨w0, w1, w2⟩ := hL x (List.mem_of_getElem? hx)
  obtain ⟨kl, hkl⟩ : ∃ kl, keyOf Tryz.prog 55 (nodeZ x) = some kl := key_node _ _ _ (wf_i64D w0) (wf_i64D w1) (wf_i64D w2)
  have HM := Lib.hid hm
  have hSx := hS x
  have hib : (0 ≤ (i : Int) ∧ (i : Int) < (L.length : Int)) := ⟨by omega, by omega⟩
  obtain ⟨c, hc⟩ : ∃ c, chk1 L i x = c := ⟨_, rfl⟩
  rw [hc]
  obtain ⟨a, xn, xy⟩ := x
  unfold chk1 at hc
  dsimp only at x0 x1 x2 hc w0 w1 w2
  have HC := Lib.hid hc
  have HBN := Lib.hid (fun w' => before_any xn i w' (by omega))
  have HBY := Lib.hid (fun w' => before_any xy i w' (by omega))
  clear hc hi hcs hm hS
  by_cases ha : a < 0
  · have hc := HC.out
    rw [if_pos (.inl ha)] at hc
    subst hc
    have f1 : decide (a < 0) = true := decide_eq_true ha
    clear HC
    go_enter Tryz.func78, Tryz.ntmps78
    go_wp2
    go_ret
    exact Ret.mk (by rfl) (by (repeat' (first | (with_reducible exact Below.refl _ _) | (with_reducible exact Nat.le_refl _) | (with_reducible refine Below.bel ?_ ?_) | (with_reducible refine Below.alloc ?_ ?_ _) | (with_reducible refine Below.drew ?_) | (with_reducible refine Below.drawsN ?_ _) | (with_reducible refine Below.setCell ?_ ?_ _) | (with_reducible refine le_bel ?_) | (with_reducible refine le_alloc ?_) | (with_reducible refine le_setCell ?_) | (with_reducible refine le_drew ?_) | (with_reducible refine le_drawsN ?_) | (dsimp only; with_reducible refine le_bel ?_) | (dsimp only; with_reducible refine Nat.le_refl _) | (dsimp only; with_reducible refine le_bel_add ?_) | (with_reducible assumption) | omega | (dsimp only; omega))))
  have f1 : decide (a < 0) = false := decide_eq_false ha
  by_cases ha2 : 4096 ≤ a
  · have hc := HC.out
    rw [if_pos (.inr (.inl ha2))] at hc
    subst hc
    have f2 : decide (4096 ≤ a) = true := decide_eq_true ha2
    clear HC
    go_enter Tryz.func78, Tryz.ntmps78
    go_wp2
    go_ret
    exact Ret.mk (by rfl) (by (repeat' (first | (with_reducible exact Below.refl _ _) | (with_reducible exact Nat.le_refl _) | (with_reducible refine Below.bel ?_ ?_) | (with_reducible refine Below.alloc ?_ ?_ _) | (with_reducible refine Below.drew ?_) | (with_reducible refine Below.drawsN ?_ _) | (with_reducible refine Below.setCell ?_ ?_ _) | (with_reducible refine le_bel ?_) | (with_reducible refine le_alloc ?_) | (with_reducible refine le_setCell ?_) | (with_reducible refine le_drew ?_) | (with_reducible refine le_drawsN ?_) | (dsimp only; with_reducible refine le_bel ?_) | (dsimp only; with_reducible refine Nat.le_refl _) | (dsimp only; with_reducible refine le_bel_add ?_) | (with_reducible assumption) | omega | (dsimp only; omega))))
  have f2 : decide (4096 ≤ a) = false := decide_eq_false ha2
  by_cases hn : 0 ≤ xn ∧ xn < (i : Int) + 2
  case neg =>
    have hc := HC.out
    rw [if_pos (by omega)] at hc
    subst hc
    rw [decide_eq_false hn] at HBN
    clear HC
    go_enter Tryz.func78, Tryz.ntmps78
    go_wp2_with fail
    refine (HBN.out _).mono ?_
    rintro _ _ ⟨rfl, y1, rfl⟩
    dsimp only
    go_wp2
    go_ret
    exact Ret.mk (by rfl) (by (repeat' (first | (with_reducible exact Below.refl _ _) | (with_reducible exact Nat.le_refl _) | (with_reducible refine Below.bel ?_ ?_) | (with_reducible refine Below.alloc ?_ ?_ _) | (with_reducible refine Below.drew ?_) | (with_reducible refine Below.drawsN ?_ _) | (with_reducible refine Below.setCell ?_ ?_ _) | (with_reducible refine le_bel ?_) | (with_reducible refine le_alloc ?_) | (with_reducible refine le_setCell ?_) | (with_reducible refine le_drew ?_) | (with_reducible refine le_drawsN ?_) | (dsimp only; with_reducible refine le_bel ?_) | (dsimp only; with_reducible refine Nat.le_refl _) | (dsimp only; with_reducible refine le_bel_add ?_) | (with_reducible assumption) | omega | (dsimp only; omega))))
  rw [decide_eq_true hn] at HBN
  by_cases hy : 0 ≤ xy ∧ xy < (i : Int) + 2
  case neg =>
    have hc := HC.out
    rw [if_pos (by omega)] at hc
    subst hc
    rw [decide_eq_false hy] at HBY
    clear HC
    go_enter Tryz.func78, Tryz.ntmps78
    go_wp2_with fail
    refine (HBN.out _).mono ?_
    rintro _ _ ⟨rfl, y1, rfl⟩
    dsimp only
    go_wp2_with fail
    refine (HBY.out _).mono ?_
    rintro _ _ ⟨rfl, y2, rfl⟩
    dsimp only
    go_wp2
    go_ret
    exact Ret.mk (by rfl) (by (repeat' (first | (with_reducible exact Below.refl _ _) | (with_reducible exact Nat.le_refl _) | (with_reducible refine Below.bel ?_ ?_) | (with_reducible refine Below.alloc ?_ ?_ _) | (with_reducible refine Below.drew ?_) | (with_reducible refine Below.drawsN ?_ _) | (with_reducible refine Below.setCell ?_ ?_ _) | (with_reducible refine le_bel ?_) | (with_reducible refine le_alloc ?_) | (with_reducible refine le_setCell ?_) | (with_reducible refine le_drew ?_) | (with_reducible refine le_drawsN ?_) | (dsimp only; with_reducible refine le_bel ?_) | (dsimp only; with_reducible refine Nat.le_refl _) | (dsimp only; with_reducible refine le_bel_add ?_) | (with_reducible assumption) | omega | (dsimp only; omega))))
  rw [decide_eq_true hy] at HBY
  have hc := HC.out
  rw [if_neg (by omega)] at hc
  clear HC
  by_cases he : xn = xy
  · rw [if_pos he] at hc
    subst hc
    have f3 : (xn == xy) = true := by simp [he]
    clear he
    go_enter Tryz.func78, Tryz.ntmps78
    go_wp2_with fail
    refine (HBN.out _).mono ?_
    rintro _ _ ⟨rfl, y1, rfl⟩
    dsimp only
    go_wp2_with fail
    refine (HBY.out _).mono ?_
    rintro _ _ ⟨rfl, y2, rfl⟩
    dsimp only
    go_wp2
    go_ret
    exact Ret.mk (by rfl) (by (repeat' (first | (with_reducible exact Below.refl _ _) | (with_reducible exact Nat.le_refl _) | (with_reducible refine Below.bel ?_ ?_) | (with_reducible refine Below.alloc ?_ ?_ _) | (with_reducible refine Below.drew ?_) | (with_reducible refine Below.drawsN ?_ _) | (with_reducible refine Below.setCell ?_ ?_ _) | (with_reducible refine le_bel ?_) | (with_reducible refine le_alloc ?_) | (with_reducible refine le_setCell ?_) | (with_reducible refine le_drew ?_) | (with_reducible refine le_drawsN ?_) | (dsimp only; with_reducible refine le_bel ?_) | (dsimp only; with_reducible refine Nat.le_refl _) | (dsimp only; with_reducible refine le_bel_add ?_) | (with_reducible assumption) | omega | (dsimp only; omega))))
  rw [if_neg he] at hc
  have f3 : (xn == xy) = false := by simp [he]
  have HC := Lib.hid hc
  clear he hc
  go_enter Tryz.func78, Tryz.ntmps78
  go_wp2_with fail
  refine (HBN.out _).mono ?_
  rintro _ _ ⟨rfl, y1, rfl⟩
  dsimp only
  go_wp2_with fail
  refine (HBY.out _).mono ?_
  rintro _ _ ⟨rfl, y2, rfl⟩
  have hbZ : Below w.heap.size w y2.w := by (repeat' (first | (with_reducible exact Below.refl _ _) | (with_reducible exact Nat.le_refl _) | (with_reducible refine Below.bel ?_ ?_) | (with_reducible refine Below.alloc ?_ ?_ _) | (with_reducible refine Below.drew ?_) | (with_reducible refine Below.drawsN ?_ _) | (with_reducible refine Below.setCell ?_ ?_ _) | (with_reducible refine le_bel ?_) | (with_reducible refine le_alloc ?_) | (with_reducible refine le_setCell ?_) | (with_reducible refine le_drew ?_) | (with_reducible refine le_drawsN ?_) | (dsimp only; with_reducible refine le_bel ?_) | (dsimp only; with_reducible refine Nat.le_refl _) | (dsimp only; with_reducible refine le_bel_add ?_) | (with_reducible assumption) | omega | (dsimp only; omega)))
  have o1 := obj_in (show Below _ _ y1.w from y1.below) (obj_alloc (.cells #[.int .i64 a, .int .i64 xn, .int .i64 xy] 55 (0, 0)) (World.alloc_heap_new w (.cells #[.slice (some ⟨g, off, none⟩) L.length cap, .int .i64 r] 30 (0, 0))))
  have o2 := obj_in (show Below _ _ y1.w from y1.below) (World.alloc_heap_new (w.alloc (.cells #[.slice (some ⟨g, off, none⟩) L.length cap, .int .i64 r] 30 (0, 0))) (.cells #[.int .i64 a, .int .i64 xn, .int .i64 xy] 55 (0, 0)))
  have o1' := obj_in (show Below _ _ y2.w from y2.below) o1
  have o2' := obj_in (show Below _ _ y2.w from y2.below) o2
  rw [World.size_alloc] at o2'
  obtain ⟨BD, hBD⟩ : ∃ BD, w.heap.size = BD := ⟨_, rfl⟩
  obtain ⟨Z, hZ⟩ : ∃ Z, y2.w = Z := ⟨_, rfl⟩
  rw [hZ] at hbZ o1' o2' ⊢
  have HBZ := Lib.hid hbZ
  have HBD := Lib.hid hBD
  rw [hBD] at o1' o2' ⊢
  obtain ⟨d0, d1⟩ : Z.cell? ⟨BD, 0, none⟩ = some (.slice (some ⟨g, off, none⟩) L.length cap) ∧ Z.cell? ⟨BD, 1, none⟩ = some (.int .i64 r) := by
    refine ⟨?_, ?_⟩ <;> simp [World.cell?, o1']
  obtain ⟨q0, q1, q2⟩ : Z.cell? ⟨BD + 1, 0, none⟩ = some (.int .i64 a) ∧ Z.cell? ⟨BD + 1, 1, none⟩ = some (.int .i64 xn) ∧ Z.cell? ⟨BD + 1, 2, none⟩ = some (.int .i64 xy) := by
    refine ⟨?_, ?_, ?_⟩ <;> simp [World.cell?, o2']
  have HCZ := Lib.hid (show ∀ (j : Nat) (x : Int × Int × Int), L[j]? = some x → Z.cell? ⟨g, off + j * 3, none⟩ = some (.int .i64 x.1) from fun j x hj => cell_in hbZ (HCS.out j x hj).1)
  have HRUN := Lib.hid (show ∀ y : Bel Z, (Instr.lookup 120 (.map (some sm)) (nodeZ (a, xn, xy)) false).run Tryz.prog y.w = .ok (.bool (S (nodeZ (a, xn, xy)))) y.w from fun y => funB_run (t := 120) (w := y.w) keyedN Tryz.underlying120 Tryz.underlying4 (by rfl) (HM.out.heap fun o ho => obj_in (show Below w.heap.size w y.w from hbZ.trans (y.below.mono hbZ.size)) ho) hkl)
  have i0 : ∀ w : World, (Instr.index 160 (.agg #[.int .i64 xn, .int .i64 xy]) (.int .i64 0)).run Tryz.prog w = .ok (.int .i64 xn) w := fun w => by rfl
  have i1 : ∀ w : World, (Instr.index 160 (.agg #[.int .i64 xn, .int .i64 xy]) (.int .i64 1)).run Tryz.prog w = .ok (.int .i64 xy) w := fun w => by rfl
  clear hbZ o1 o2 o1' o2' hBD hZ y2 y1 x0 x1 x2
  dsimp only
  go_wp2_with fail
  go_loopw [49] (fun iv wr => (iv = .int .i64 0 ∨ (iv = .int .i64 1 ∧ ¬ (1 < xn ∧ varZ L xn ≤ a)) ∨ (iv = .int .i64 2 ∧ ¬ (1 < xn ∧ varZ L xn ≤ a) ∧ ¬ (1 < xy ∧ varZ L xy ≤ a))) ∧ ∃ y : Bel Z, wr = y.w) (fun iv _ => 2 - (intOf iv).toNat)
  case atStart => exact ⟨.inl rfl, ⟨Z, Below.refl _ _⟩, rfl⟩
  case round =>
    obtain ⟨hk, y, rfl⟩ := hrel
    have hbz := HBZ.out
    have hsz := hbz.size
    rcases hk with rfl | ⟨rfl, hk1⟩ | ⟨rfl, hk1, hk2⟩
    · have f6 : decide ((0 : Int) < 2) = true := rfl
      by_cases hp : 1 < xn
      · obtain ⟨q, hq⟩ : ∃ q : Nat, xn - 2 = (q : Int) := ⟨(xn - 2).toNat, by omega⟩
        obtain ⟨u, hu⟩ : ∃ u, L[q]? = some u := ⟨_, List.getElem?_eq_getElem (by omega)⟩
        have hz := HCZ.out q u hu
        have hvz : varZ L xn = u.1 := by
          unfold varZ
          rw [show xn.toNat - 2 = q by omega, getD_some hu]
        have hiq : (0 ≤ (q : Int) ∧ (q : Int) < (L.length : Int)) := ⟨by omega, by omega⟩
        have f4 : decide (1 < xn) = true := decide_eq_true hp
        obtain ⟨u1, u2, u3⟩ := u
        dsimp only at hz hvz
        clear hu
        by_cases hv : u1 ≤ a
        · have f5 : decide (u1 ≤ a) = true := decide_eq_true hv
          have hc := HC.out
          rw [if_pos (by rw [hvz]; omega)] at hc
          subst hc
          clear hvz HC
          go_wp2_with fail
          refine wp_region_bel (by kernel_rfl) (by kernel_rfl) ?_
          repeat (go_big_quiet_step (fail))
          refine wpQuiet_nil ?_
          rintro _ ⟨z3, rfl⟩
          go_wp2
          go_ret
          exact Ret.mk (by rfl) (by (repeat' (first | (with_reducible exact Below.refl _ _) | (with_reducible exact Nat.le_refl _) | (with_reducible refine Below.bel ?_ ?_) | (with_reducible refine Below.alloc ?_ ?_ _) | (with_reducible refine Below.drew ?_) | (with_reducible refine Below.drawsN ?_ _) | (with_reducible refine Below.setCell ?_ ?_ _) | (with_reducible refine le_bel ?_) | (with_reducible refine le_alloc ?_) | (with_reducible refine le_setCell ?_) | (with_reducible refine le_drew ?_) | (with_reducible refine le_drawsN ?_) | (dsimp only; with_reducible refine le_bel ?_) | (dsimp only; with_reducible refine Nat.le_refl _) | (dsimp only; with_reducible refine le_bel_add ?_) | (with_reducible assumption) | omega | (dsimp only; omega))))
        · have f5 : decide (u1 ≤ a) = false := decide_eq_false hv
          have HVZ := Lib.hid hvz
          clear hvz
          go_wp2_with fail
          refine wp_region_bel (by kernel_rfl) (by kernel_rfl) ?_
          repeat (go_big_quiet_step (fail))
          refine wpQuiet_nil ?_
          rintro _ ⟨z3, rfl⟩
          go_wp2
          go_roundw
          case rel => exact ⟨(.inr (.inl ⟨rfl, by first | omega | (rw [HVZ.out]; omega)⟩)), ⟨z3.w, y.below.trans (z3.below.mono y.below.size)⟩, rfl⟩
          case measure => simp [intOf]
      · have f4 : decide (1 < xn) = false := decide_eq_false hp
        go_wp2_with fail
        refine wp_region_bel (by kernel_rfl) (by kernel_rfl) ?_
        repeat (go_big_quiet_step (fail))
        refine wpQuiet_nil ?_
        rintro _ ⟨z3, rfl⟩
        go_wp2
        go_roundw
        case rel => exact ⟨(.inr (.inl ⟨rfl, by first | omega | (rw [HVZ.out]; omega)⟩)), ⟨z3.w, y.below.trans (z3.below.mono y.below.size)⟩, rfl⟩
        case measure => simp [intOf]
    · have f6 : decide ((1 : Int) < 2) = true := rfl
      have HK1 := Lib.hid hk1
      clear hk1
      by_cases hp : 1 < xy
      · obtain ⟨q, hq⟩ : ∃ q : Nat, xy - 2 = (q : Int) := ⟨(xy - 2).toNat, by omega⟩
        obtain ⟨u, hu⟩ : ∃ u, L[q]? = some u := ⟨_, List.getElem?_eq_getElem (by omega)⟩
        have hz := HCZ.out q u hu
        have hvz : varZ L xy = u.1 := by
          unfold varZ
          rw [show xy.toNat - 2 = q by omega, getD_some hu]
        have hiq : (0 ≤ (q : Int) ∧ (q : Int) < (L.length : Int)) := ⟨by omega, by omega⟩
        have f4 : decide (1 < xy) = true := decide_eq_true hp
        obtain ⟨u1, u2, u3⟩ := u
        dsimp only at hz hvz
        clear hu
        by_cases hv : u1 ≤ a
        · have f5 : decide (u1 ≤ a) = true := decide_eq_true hv
          have hc := HC.out
          rw [if_pos (by rw [hvz]; omega)] at hc
          subst hc
          clear hvz HC
          go_wp2_with fail
          refine wp_region_bel (by kernel_rfl) (by kernel_rfl) ?_
          repeat (go_big_quiet_step (fail))
          refine wpQuiet_nil ?_
          rintro _ ⟨z3, rfl⟩
          go_wp2
          go_ret
          exact Ret.mk (by rfl) (by (repeat' (first | (with_reducible exact Below.refl _ _) | (with_reducible exact Nat.le_refl _) | (with_reducible refine Below.bel ?_ ?_) | (with_reducible refine Below.alloc ?_ ?_ _) | (with_reducible refine Below.drew ?_) | (with_reducible refine Below.drawsN ?_ _) | (with_reducible refine Below.setCell ?_ ?_ _) | (with_reducible refine le_bel ?_) | (with_reducible refine le_alloc ?_) | (with_reducible refine le_setCell ?_) | (with_reducible refine le_drew ?_) | (with_reducible refine le_drawsN ?_) | (dsimp only; with_reducible refine le_bel ?_) | (dsimp only; with_reducible refine Nat.le_refl _) | (dsimp only; with_reducible refine le_bel_add ?_) | (with_reducible assumption) | omega | (dsimp only; omega))))
        · have f5 : decide (u1 ≤ a) = false := decide_eq_false hv
          have HVZ := Lib.hid hvz
          clear hvz
          go_wp2_with fail
          refine wp_region_bel (by kernel_rfl) (by kernel_rfl) ?_
          repeat (go_big_quiet_step (fail))
          refine wpQuiet_nil ?_
          rintro _ ⟨z3, rfl⟩
          go_wp2
          go_roundw
          case rel => exact ⟨(.inr (.inr ⟨rfl, HK1.out, by first | omega | (rw [HVZ.out]; omega)⟩)), ⟨z3.w, y.below.trans (z3.below.mono y.below.size)⟩, rfl⟩
          case measure => simp [intOf]
      · have f4 : decide (1 < xy) = false := decide_eq_false hp
        go_wp2_with fail
        refine wp_region_bel (by kernel_rfl) (by kernel_rfl) ?_
        repeat (go_big_quiet_step (fail))
        refine wpQuiet_nil ?_
        rintro _ ⟨z3, rfl⟩
        go_wp2
        go_roundw
        case rel => exact ⟨(.inr (.inr ⟨rfl, HK1.out, by first | omega | (rw [HVZ.out]; omega)⟩)), ⟨z3.w, y.below.trans (z3.below.mono y.below.size)⟩, rfl⟩
        case measure => simp [intOf]
    · have hc := HC.out
      rw [if_neg (by omega)] at hc
      have hrun := HRUN.out
      rw [hSx] at hrun
      unfold nodeZ at hrun
      clear HC hk1 hk2 HCZ hSx
      by_cases hm : (a, xn, xy) ∈ L.take i
      · rw [if_pos hm] at hc
        subst hc
        rw [decide_eq_true hm] at hrun
        clear hm
        go_wp2
        go_ret
        exact Ret.mk (by rfl) (by (repeat' (first | (with_reducible exact Below.refl _ _) | (with_reducible exact Nat.le_refl _) | (with_reducible refine Below.bel ?_ ?_) | (with_reducible refine Below.alloc ?_ ?_ _) | (with_reducible refine Below.drew ?_) | (with_reducible refine Below.drawsN ?_ _) | (with_reducible refine Below.setCell ?_ ?_ _) | (with_reducible refine le_bel ?_) | (with_reducible refine le_alloc ?_) | (with_reducible refine le_setCell ?_) | (with_reducible refine le_drew ?_) | (with_reducible refine le_drawsN ?_) | (dsimp only; with_reducible refine le_bel ?_) | (dsimp only; with_reducible refine Nat.le_refl _) | (dsimp only; with_reducible refine le_bel_add ?_) | (with_reducible assumption) | omega | (dsimp only; omega))))
      · rw [if_neg hm] at hc
        subst hc
        rw [decide_eq_false hm] at hrun
        clear hm
        go_wp2
        go_ret
        exact Ret.mk (by rfl) (by (repeat' (first | (with_reducible exact Below.refl _ _) | (with_reducible exact Nat.le_refl _) | (with_reducible refine Below.bel ?_ ?_) | (with_reducible refine Below.alloc ?_ ?_ _) | (with_reducible refine Below.drew ?_) | (with_reducible refine Below.drawsN ?_ _) | (with_reducible refine Below.setCell ?_ ?_ _) | (with_reducible refine le_bel ?_) | (with_reducible refine le_alloc ?_) | (with_reducible refine le_setCell ?_) | (with_reducible refine le_drew ?_) | (with_reducible refine le_drawsN ?_) | (dsimp only; with_reducible refine le_bel ?_) | (dsimp only; with_reducible refine Nat.le_refl _) | (dsimp only; with_reducible refine le_bel_add ?_) | (with_reducible assumption) | omega | (dsimp only; omega))))
end Go.Proofs.YtkdmhjlcgpnjpaaGreatDoor
