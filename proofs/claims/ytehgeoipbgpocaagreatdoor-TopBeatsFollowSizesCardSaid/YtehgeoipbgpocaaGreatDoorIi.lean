/- Sizes of intervals: bounds of logarithms. -/
import Derived.Test.YtehgeoipbgpocaaGreatDoorIh
import Derived.Test.YtehgeoipbgpocaaGreatDoorIn9
namespace Go.Proofs.YtehgeoipbgpocaaGreatDoor
set_option linter.unusedVariables false
set_option linter.unusedSimpArgs false
open Go.RowKit
attribute [local go_sem low] Bel.cell Bel.frozen alloc_cell alloc_frozen
attribute [local go_sem] calmOp chainOp yieldsC grows

def cU : Int := 1000000000000000000000000000000
def cT : Int := 1584962500721156181453738943947
def cF : Int := 2321928094887362347870319429489
theorem iT_U : I.iT cU = [49, 48, 48, 48, 48, 48, 48, 48, 48, 48, 48, 48, 48, 48, 48, 48, 48, 48, 48, 48, 48, 48, 48, 48, 48, 48, 48, 48, 48, 48, 48] := by decide +kernel
theorem iT_T : I.iT cT = [49, 53, 56, 52, 57, 54, 50, 53, 48, 48, 55, 50, 49, 49, 53, 54, 49, 56, 49, 52, 53, 51, 55, 51, 56, 57, 52, 51, 57, 52, 55] := by decide +kernel
theorem iT_F : I.iT cF = [50, 51, 50, 49, 57, 50, 56, 48, 57, 52, 56, 56, 55, 51, 54, 50, 51, 52, 55, 56, 55, 48, 51, 49, 57, 52, 50, 57, 52, 56, 57] := by decide +kernel
theorem nd_U : I.nd cU = 31 := by decide +kernel
theorem nd_T : I.nd cT = 31 := by decide +kernel
theorem nd_F : I.nd cF = 31 := by decide +kernel
def posI (x : Int) : Int := if 0 < x then x else 0
def negI (x : Int) : Int := if 0 < x then 0 else x
def bdM (x y z : Int) : Int := x * cU + y * cT + z * cF
def bdL (x y z : Int) : Int := bdM x y z + negI y + negI z
def bdH (x y z : Int) : Int := bdM x y z + posI y + posI z
theorem texts_of {w w' : World} {a : Option Addr} {ls : List (List UInt8)} (h : I.Texts w a ls) (hb : Below w.heap.size w w') : I.Texts w' a ls := fun h0 => by
  obtain ⟨b, off, ha, hc⟩ := h h0
  exact ⟨b, off, ha, fun j l hj => cell_carry hb (hc j l hj)⟩
theorem nd_small {x : Int} (h1 : -1000000000000 ≤ x) (h2 : x ≤ 1000000000000) : I.nd x ≤ 13 := I.nd_le10 (by decide) (by have : (10 : Nat) ^ 13 = 10000000000000 := by decide
                                                                                                                         omega)
theorem posneg (x : Int) : (0 < x → posI x = x ∧ negI x = 0) ∧ (¬ 0 < x → posI x = 0 ∧ negI x = x) := by
  unfold posI negI
  constructor <;> intro h
  · rw [if_pos h, if_pos h]; exact ⟨rfl, rfl⟩
  · rw [if_neg h, if_neg h]; exact ⟨rfl, rfl⟩
theorem posneg_bd {x : Int} (h1 : -1000000000000 ≤ x) (h2 : x ≤ 1000000000000) : I.nd (posI x) ≤ 13 ∧ I.nd (negI x) ≤ 13 := by
  by_cases h : 0 < x
  · rw [((posneg x).1 h).1, ((posneg x).1 h).2]
    exact ⟨nd_small h1 h2, nd_small (by decide) (by decide)⟩
  · rw [((posneg x).2 h).1, ((posneg x).2 h).2]
    exact ⟨nd_small (by decide) (by decide), nd_small h1 h2⟩
theorem nd_bdM {x y z : Int} (hx1 : -1000000000000 ≤ x) (hx2 : x ≤ 1000000000000) (hy1 : -1000000000000 ≤ y) (hy2 : y ≤ 1000000000000) (hz1 : -1000000000000 ≤ z) (hz2 : z ≤ 1000000000000) :
    I.nd (x * cU) ≤ 44 ∧ I.nd (y * cT) ≤ 44 ∧ I.nd (z * cF) ≤ 44 ∧ I.nd (bdM x y z) ≤ 46 := by
  have a1 := I.nd_mul x cU
  have a2 := I.nd_mul y cT
  have a3 := I.nd_mul z cF
  have b1 := nd_small hx1 hx2
  have b2 := nd_small hy1 hy2
  have b3 := nd_small hz1 hz2
  have c1 := nd_U
  have c2 := nd_T
  have c3 := nd_F
  have d1 := I.nd_add (x * cU) (y * cT)
  have d2 := I.nd_add (x * cU + y * cT) (z * cF)
  unfold bdM
  omega

theorem strI {a b : Int} (h : a = b) : Value.string ⟨(I.iT a).toArray⟩ = .string ⟨(I.iT b).toArray⟩ := by rw [h]
theorem fold3 (a b c : Int) : [a, b, c].foldl (fun (x y : Int) => x + y) 0 = a + b + c := by
  show 0 + a + b + c = a + b + c
  rw [Int.zero_add]
theorem foldM (x y z : Int) : [x * cU, y * cT, z * cF].foldl (fun (x y : Int) => x + y) 0 = bdM x y z := fold3 _ _ _
set_option maxRecDepth 100000 in
set_option maxHeartbeats 6400000 in
theorem bounds_any (x y z : Int) (w : World) (hx1 : -1000000000000 ≤ x) (hx2 : x ≤ 1000000000000) (hy1 : -1000000000000 ≤ y) (hy2 : y ≤ 1000000000000) (hz1 : -1000000000000 ≤ z) (hz2 : z ≤ 1000000000000) (hT : I.Tab w) :
    Calls Tryz.prog 89 #[.agg #[.int .i64 x, .int .i64 y, .int .i64 z]] w (Ret (.tuple #[.string ⟨(I.iT (bdL x y z)).toArray⟩, .string ⟨(I.iT (bdH x y z)).toArray⟩]) w) := by
  have HT := Lib.hid hT
  obtain ⟨n1, n2, n3, n4⟩ := nd_bdM hx1 hx2 hy1 hy2 hz1 hz2
  have HOX := Lib.hid (fun w' hT => I.of_any x w' (by omega) (by omega) hT)
  have HOY := Lib.hid (fun w' hT => I.of_any y w' (by omega) (by omega) hT)
  have HOZ := Lib.hid (fun w' hT => I.of_any z w' (by omega) (by omega) hT)
  have HMX := Lib.hid (fun w' hT => I.mul_any x cU w' (by have := nd_small hx1 hx2; omega) (by rw [nd_U]; decide) hT)
  have HMY := Lib.hid (fun w' hT => I.mul_any y cT w' (by have := nd_small hy1 hy2; omega) (by rw [nd_T]; decide) hT)
  have HMZ := Lib.hid (fun w' hT => I.mul_any z cF w' (by have := nd_small hz1 hz2; omega) (by rw [nd_F]; decide) hT)
  have HS := Lib.hid (fun a cap w' (hX : I.Texts w' a ([x * cU, y * cT, z * cF].map I.iT)) hT => I.sum_any a cap [x * cU, y * cT, z * cF] w' hX (by simp) (by
    intro u hu
    simp only [List.mem_cons, List.not_mem_nil, or_false] at hu
    rcases hu with rfl | rfl | rfl <;> omega) hT)
  rw [iT_U] at HMX
  rw [iT_T] at HMY
  rw [iT_F] at HMZ
  rw [show [x * cU, y * cT, z * cF].foldl (fun (x y : Int) => x + y) 0 = bdM x y z from foldM x y z] at HS
  simp only [List.map_cons, List.map_nil] at HS
  rw [show [x * cU, y * cT, z * cF].length = 3 from rfl] at HS
  generalize hM : bdM x y z = M at *
  clear hT n1 n2 n3
  generalize I.iT (x * cU) = ta at *
  generalize I.iT (y * cT) = tb at *
  generalize I.iT (z * cF) = tc at *
  generalize I.iT x = tx at *
  generalize I.iT y = ty at *
  generalize I.iT z = tz at *
  go_enter Tryz.func89, Tryz.ntmps89
  go_wp2_with fail
  refine wp_region_plan 13 (.calm 0 (.calm 1 (.calm 2 (.calm 3 (.calm 4 (.calm 5 (.calm 6 (.calm 7 (.calm 8 (.calm 9 (.calm 10 (.calm 11 (.fork 12 .tail .none))))))))))))) (by kernel_rfl) (by kernel_rfl) ?_
  simp only [Plan.walk, operAt, List.getElem?_cons_succ, List.getElem?_cons_zero, Option.getD_some, List.drop_succ_cons, List.drop_zero]
  repeat (refine wpX_calm (fun K hK => ?_); go_simp; first | (refine hK _ _ ?_; clear hK K) | (apply Exists.intro; refine ⟨fun _ => ?_, hK _ _ ?_⟩; ((first | (go_at_call 147; first | with_reducible exact HOX.out _ (HT.out.of (by (repeat' (first | (with_reducible first | apply Zl1 | apply Zl2 | apply Zl3 | apply Zl4 | apply Zl5 | apply Zl6 | apply Zl7 | apply Zl8 | apply Zl9 | apply Zla | apply Zlb | apply Zlc) | (dsimp only; with_reducible first | apply Zl8 | apply Zl2 | apply Zld) | with_reducible assumption | omega | (dsimp only; omega))))) | with_reducible exact HOY.out _ (HT.out.of (by (repeat' (first | (with_reducible first | apply Zl1 | apply Zl2 | apply Zl3 | apply Zl4 | apply Zl5 | apply Zl6 | apply Zl7 | apply Zl8 | apply Zl9 | apply Zla | apply Zlb | apply Zlc) | (dsimp only; with_reducible first | apply Zl8 | apply Zl2 | apply Zld) | with_reducible assumption | omega | (dsimp only; omega))))) | with_reducible exact HOZ.out _ (HT.out.of (by (repeat' (first | (with_reducible first | apply Zl1 | apply Zl2 | apply Zl3 | apply Zl4 | apply Zl5 | apply Zl6 | apply Zl7 | apply Zl8 | apply Zl9 | apply Zla | apply Zlb | apply Zlc) | (dsimp only; with_reducible first | apply Zl8 | apply Zl2 | apply Zld) | with_reducible assumption | omega | (dsimp only; omega)))))) | (go_at_call 92; first | with_reducible exact HMX.out _ (HT.out.of (by (repeat' (first | (with_reducible first | apply Zl1 | apply Zl2 | apply Zl3 | apply Zl4 | apply Zl5 | apply Zl6 | apply Zl7 | apply Zl8 | apply Zl9 | apply Zla | apply Zlb | apply Zlc) | (dsimp only; with_reducible first | apply Zl8 | apply Zl2 | apply Zld) | with_reducible assumption | omega | (dsimp only; omega))))) | with_reducible exact HMY.out _ (HT.out.of (by (repeat' (first | (with_reducible first | apply Zl1 | apply Zl2 | apply Zl3 | apply Zl4 | apply Zl5 | apply Zl6 | apply Zl7 | apply Zl8 | apply Zl9 | apply Zla | apply Zlb | apply Zlc) | (dsimp only; with_reducible first | apply Zl8 | apply Zl2 | apply Zld) | with_reducible assumption | omega | (dsimp only; omega))))) | with_reducible exact HMZ.out _ (HT.out.of (by (repeat' (first | (with_reducible first | apply Zl1 | apply Zl2 | apply Zl3 | apply Zl4 | apply Zl5 | apply Zl6 | apply Zl7 | apply Zl8 | apply Zl9 | apply Zla | apply Zlb | apply Zlc) | (dsimp only; with_reducible first | apply Zl8 | apply Zl2 | apply Zld) | with_reducible assumption | omega | (dsimp only; omega)))))))); clear hK K))
  refine wpX_only (fun K hK => ?_)
  go_simp
  intro X
  refine ⟨(Below.refl _ _).alloc (Nat.le_refl _) _, hK _ _ ?_⟩
  clear hK K
  have hX := I.texts3 X.w ta tb tc
  have hXs := X.size_le
  refine wpX_tail ?_
  intro Z
  have hZs := Z.size_le
  have HX := Lib.hid (texts_of hX Z.below)
  clear hX
  go_wp2_with fail
  (with_reducible refine (HS.out _ _ _ HX.out (HT.out.of (by (repeat' (first | (with_reducible first | apply Zl1 | apply Zl2 | apply Zl3 | apply Zl4 | apply Zl5 | apply Zl6 | apply Zl7 | apply Zl8 | apply Zl9 | apply Zla | apply Zlb | apply Zlc) | (dsimp only; with_reducible first | apply Zl8 | apply Zl2 | apply Zld) | with_reducible assumption | omega | (dsimp only; omega)))))).mono ?_)
  rintro _ _ ⟨rfl, S, rfl⟩
  have hSs := S.size_le
  clear HX HS HOX HOY HOZ HMX HMY HMZ
  have hXo := obj_bel S (obj_bel Z (obj_alloc (.cells #[.string ⟨ta.toArray⟩, .string ⟨tb.toArray⟩, .string ⟨tc.toArray⟩] 171) (obj_bel X (obj_new w (.cells #[.int .i64 x, .int .i64 y, .int .i64 z] 116)))))
  have hbS : Below w.heap.size w S.w := by (repeat' (first | (with_reducible first | apply Zl1 | apply Zl2 | apply Zl3 | apply Zl4 | apply Zl5 | apply Zl6 | apply Zl7 | apply Zl8 | apply Zl9 | apply Zla | apply Zlb | apply Zlc) | (dsimp only; with_reducible first | apply Zl8 | apply Zl2 | apply Zld) | with_reducible assumption | omega | (dsimp only; omega)))
  obtain ⟨W, hW⟩ : ∃ W, S.w = W := ⟨_, rfl⟩
  rw [hW] at hXo hbS ⊢
  obtain ⟨nX, hnX⟩ : ∃ n, X.w.heap.size = n := ⟨_, rfl⟩
  rw [hnX]
  clear hW hSs hZs hXs hnX
  clear S
  clear Z
  clear X
  have HXO := Lib.hid hXo
  have hbs := hbS.size
  have HBS := Lib.hid hbS
  have hw1 := obj_lt hXo
  obtain ⟨g0, g1, g2⟩ := cells3 hXo
  have HT2 := Lib.hid (HT.out.of hbS)
  have HOY := Lib.hid (fun w' hT => I.of_any y w' (by omega) (by omega) hT)
  have HOZ := Lib.hid (fun w' hT => I.of_any z w' (by omega) (by omega) hT)
  have HLL := Lib.hid (show bdL x y z = M + negI y + negI z by unfold bdL; rw [hM])
  have HHH := Lib.hid (show bdH x y z = M + posI y + posI z by unfold bdH; rw [hM])
  have HN1 := Lib.hid (posneg_bd hy1 hy2)
  have HN2 := Lib.hid (posneg_bd hz1 hz2)
  have HM4 := Lib.hid n4
  have HPY := Lib.hid (posneg y)
  have HPZ := Lib.hid (posneg z)
  generalize bdL x y z = LL at *
  generalize bdH x y z = HH at *
  clear hXo hbS hM n4
  dsimp only
  go_wp2_with fail
  go_loopw [2, 3, 23] (fun l h i wr => ∃ k : Nat, k ≤ 2 ∧ l = .string ⟨(I.iT (M + (if 0 < k then negI y else 0) + (if 1 < k then negI z else 0))).toArray⟩ ∧ h = .string ⟨(I.iT (M + (if 0 < k then posI y else 0) + (if 1 < k then posI z else 0))).toArray⟩ ∧ i = .int .i64 (k : Int) ∧ Below W.heap.size W wr) (fun _ _ i _ => 2 - (intOf i).toNat)
  case atStart => exact ⟨0, by omega, by simp, by simp, rfl, by (repeat' (first | (with_reducible first | apply Zl1 | apply Zl2 | apply Zl3 | apply Zl4 | apply Zl5 | apply Zl6 | apply Zl7 | apply Zl8 | apply Zl9 | apply Zla | apply Zlb | apply Zlc) | (dsimp only; with_reducible first | apply Zl8 | apply Zl2 | apply Zld) | with_reducible assumption | omega | (dsimp only; omega)))⟩
  case round =>
    obtain ⟨k, hk, rfl, rfl, rfl, hB⟩ := hrel
    have HB := Lib.hid hB
    have hrs := hB.size
    have hro := obj_below hB (by omega) HXO.out
    by_cases hk2 : k < 2
    · obtain ⟨g0, g1, g2⟩ := cells3 hro
      clear hro
      rcases (show k = 0 ∨ k = 1 by omega) with rfl | rfl
      · clear hk2 hk
        have hl := (show (M + (if 0 < 0 then negI y else 0) + (if 1 < 0 then negI z else 0)) = M by simp)
        have hh := (show (M + (if 0 < 0 then posI y else 0) + (if 1 < 0 then posI z else 0)) = M by simp)
        by_cases hp : 0 < y
        · have HA := Lib.hid (fun w' hT => I.add_any (M) y w' (Nat.le_trans ((show I.nd M ≤ 46 from HM4.out)) (by decide)) (Nat.le_trans (nd_small hy1 hy2) (by decide)) hT)
          have HQ := Lib.hid (HPY.out.1 (by omega))
          rw [hh, hl]
          clear hh hl
          go_wp2_with fail
          (with_reducible refine (HOY.out _ (HT2.out.of (by (repeat' (first | (with_reducible first | apply Zl1 | apply Zl2 | apply Zl3 | apply Zl4 | apply Zl5 | apply Zl6 | apply Zl7 | apply Zl8 | apply Zl9 | apply Zla | apply Zlb | apply Zlc) | (dsimp only; with_reducible first | apply Zl8 | apply Zl2 | apply Zld) | with_reducible assumption | omega | (dsimp only; omega)))))).mono ?_)
          rintro _ _ ⟨rfl, u, rfl⟩
          dsimp only
          go_wp2_with fail
          (with_reducible refine (HA.out _ (HT2.out.of (by (repeat' (first | (with_reducible first | apply Zl1 | apply Zl2 | apply Zl3 | apply Zl4 | apply Zl5 | apply Zl6 | apply Zl7 | apply Zl8 | apply Zl9 | apply Zla | apply Zlb | apply Zlc) | (dsimp only; with_reducible first | apply Zl8 | apply Zl2 | apply Zld) | with_reducible assumption | omega | (dsimp only; omega)))))).mono ?_)
          rintro _ _ ⟨rfl, v, rfl⟩
          have hus := u.size_le
          have hvs := v.size_le
          dsimp only
          go_wp2_with fail
          go_roundw
          case rel => exact ⟨0 + 1, by omega, strI (by have h := HQ.out; simp [h.1, h.2]), strI (by have h := HQ.out; simp [h.1, h.2]), rfl, by (repeat' (first | (with_reducible first | apply Zl1 | apply Zl2 | apply Zl3 | apply Zl4 | apply Zl5 | apply Zl6 | apply Zl7 | apply Zl8 | apply Zl9 | apply Zla | apply Zlb | apply Zlc) | (dsimp only; with_reducible first | apply Zl8 | apply Zl2 | apply Zld) | with_reducible assumption | omega | (dsimp only; omega)))⟩
          case measure => simp [intOf]
        · have HA := Lib.hid (fun w' hT => I.add_any (M) y w' (Nat.le_trans ((show I.nd M ≤ 46 from HM4.out)) (by decide)) (Nat.le_trans (nd_small hy1 hy2) (by decide)) hT)
          have HQ := Lib.hid (HPY.out.2 (by omega))
          rw [hh, hl]
          clear hh hl
          go_wp2_with fail
          (with_reducible refine (HOY.out _ (HT2.out.of (by (repeat' (first | (with_reducible first | apply Zl1 | apply Zl2 | apply Zl3 | apply Zl4 | apply Zl5 | apply Zl6 | apply Zl7 | apply Zl8 | apply Zl9 | apply Zla | apply Zlb | apply Zlc) | (dsimp only; with_reducible first | apply Zl8 | apply Zl2 | apply Zld) | with_reducible assumption | omega | (dsimp only; omega)))))).mono ?_)
          rintro _ _ ⟨rfl, u, rfl⟩
          dsimp only
          go_wp2_with fail
          (with_reducible refine (HA.out _ (HT2.out.of (by (repeat' (first | (with_reducible first | apply Zl1 | apply Zl2 | apply Zl3 | apply Zl4 | apply Zl5 | apply Zl6 | apply Zl7 | apply Zl8 | apply Zl9 | apply Zla | apply Zlb | apply Zlc) | (dsimp only; with_reducible first | apply Zl8 | apply Zl2 | apply Zld) | with_reducible assumption | omega | (dsimp only; omega)))))).mono ?_)
          rintro _ _ ⟨rfl, v, rfl⟩
          have hus := u.size_le
          have hvs := v.size_le
          dsimp only
          go_wp2_with fail
          go_roundw
          case rel => exact ⟨0 + 1, by omega, strI (by have h := HQ.out; simp [h.1, h.2]), strI (by have h := HQ.out; simp [h.1, h.2]), rfl, by (repeat' (first | (with_reducible first | apply Zl1 | apply Zl2 | apply Zl3 | apply Zl4 | apply Zl5 | apply Zl6 | apply Zl7 | apply Zl8 | apply Zl9 | apply Zla | apply Zlb | apply Zlc) | (dsimp only; with_reducible first | apply Zl8 | apply Zl2 | apply Zld) | with_reducible assumption | omega | (dsimp only; omega)))⟩
          case measure => simp [intOf]
      · clear hk2 hk
        have hl := (show (M + (if 0 < 1 then negI y else 0) + (if 1 < 1 then negI z else 0)) = (M + negI y) by simp)
        have hh := (show (M + (if 0 < 1 then posI y else 0) + (if 1 < 1 then posI z else 0)) = (M + posI y) by simp)
        by_cases hp : 0 < z
        · have HA := Lib.hid (fun w' hT => I.add_any ((M + posI y)) z w' (Nat.le_trans ((show I.nd (M + posI y) ≤ 47 by have a1 := HM4.out; have a2 := HN1.out.1; have a3 := I.nd_add M (posI y); omega)) (by decide)) (Nat.le_trans (nd_small hz1 hz2) (by decide)) hT)
          have HQ := Lib.hid (HPZ.out.1 (by omega))
          rw [hh, hl]
          clear hh hl
          go_wp2_with fail
          (with_reducible refine (HOZ.out _ (HT2.out.of (by (repeat' (first | (with_reducible first | apply Zl1 | apply Zl2 | apply Zl3 | apply Zl4 | apply Zl5 | apply Zl6 | apply Zl7 | apply Zl8 | apply Zl9 | apply Zla | apply Zlb | apply Zlc) | (dsimp only; with_reducible first | apply Zl8 | apply Zl2 | apply Zld) | with_reducible assumption | omega | (dsimp only; omega)))))).mono ?_)
          rintro _ _ ⟨rfl, u, rfl⟩
          dsimp only
          go_wp2_with fail
          (with_reducible refine (HA.out _ (HT2.out.of (by (repeat' (first | (with_reducible first | apply Zl1 | apply Zl2 | apply Zl3 | apply Zl4 | apply Zl5 | apply Zl6 | apply Zl7 | apply Zl8 | apply Zl9 | apply Zla | apply Zlb | apply Zlc) | (dsimp only; with_reducible first | apply Zl8 | apply Zl2 | apply Zld) | with_reducible assumption | omega | (dsimp only; omega)))))).mono ?_)
          rintro _ _ ⟨rfl, v, rfl⟩
          have hus := u.size_le
          have hvs := v.size_le
          dsimp only
          go_wp2_with fail
          go_roundw
          case rel => exact ⟨1 + 1, by omega, strI (by have h := HQ.out; simp [h.1, h.2]), strI (by have h := HQ.out; simp [h.1, h.2]), rfl, by (repeat' (first | (with_reducible first | apply Zl1 | apply Zl2 | apply Zl3 | apply Zl4 | apply Zl5 | apply Zl6 | apply Zl7 | apply Zl8 | apply Zl9 | apply Zla | apply Zlb | apply Zlc) | (dsimp only; with_reducible first | apply Zl8 | apply Zl2 | apply Zld) | with_reducible assumption | omega | (dsimp only; omega)))⟩
          case measure => simp [intOf]
        · have HA := Lib.hid (fun w' hT => I.add_any ((M + negI y)) z w' (Nat.le_trans ((show I.nd (M + negI y) ≤ 47 by have a1 := HM4.out; have a2 := HN1.out.2; have a3 := I.nd_add M (negI y); omega)) (by decide)) (Nat.le_trans (nd_small hz1 hz2) (by decide)) hT)
          have HQ := Lib.hid (HPZ.out.2 (by omega))
          rw [hh, hl]
          clear hh hl
          go_wp2_with fail
          (with_reducible refine (HOZ.out _ (HT2.out.of (by (repeat' (first | (with_reducible first | apply Zl1 | apply Zl2 | apply Zl3 | apply Zl4 | apply Zl5 | apply Zl6 | apply Zl7 | apply Zl8 | apply Zl9 | apply Zla | apply Zlb | apply Zlc) | (dsimp only; with_reducible first | apply Zl8 | apply Zl2 | apply Zld) | with_reducible assumption | omega | (dsimp only; omega)))))).mono ?_)
          rintro _ _ ⟨rfl, u, rfl⟩
          dsimp only
          go_wp2_with fail
          (with_reducible refine (HA.out _ (HT2.out.of (by (repeat' (first | (with_reducible first | apply Zl1 | apply Zl2 | apply Zl3 | apply Zl4 | apply Zl5 | apply Zl6 | apply Zl7 | apply Zl8 | apply Zl9 | apply Zla | apply Zlb | apply Zlc) | (dsimp only; with_reducible first | apply Zl8 | apply Zl2 | apply Zld) | with_reducible assumption | omega | (dsimp only; omega)))))).mono ?_)
          rintro _ _ ⟨rfl, v, rfl⟩
          have hus := u.size_le
          have hvs := v.size_le
          dsimp only
          go_wp2_with fail
          go_roundw
          case rel => exact ⟨1 + 1, by omega, strI (by have h := HQ.out; simp [h.1, h.2]), strI (by have h := HQ.out; simp [h.1, h.2]), rfl, by (repeat' (first | (with_reducible first | apply Zl1 | apply Zl2 | apply Zl3 | apply Zl4 | apply Zl5 | apply Zl6 | apply Zl7 | apply Zl8 | apply Zl9 | apply Zla | apply Zlb | apply Zlc) | (dsimp only; with_reducible first | apply Zl8 | apply Zl2 | apply Zld) | with_reducible assumption | omega | (dsimp only; omega)))⟩
          case measure => simp [intOf]
    · obtain rfl : k = 2 := by omega
      clear hk2 hk hro
      rw [show (M + (if 0 < 2 then posI y else 0) + (if 1 < 2 then posI z else 0)) = HH by rw [HHH.out]; simp, show (M + (if 0 < 2 then negI y else 0) + (if 1 < 2 then negI z else 0)) = LL by rw [HLL.out]; simp]
      have hfin := HBS.out.trans (HB.out.mono HBS.out.size)
      go_wp2
      go_ret2
      exact Ret.mk rfl (by (repeat' (first | (with_reducible first | apply Zl1 | apply Zl2 | apply Zl3 | apply Zl4 | apply Zl5 | apply Zl6 | apply Zl7 | apply Zl8 | apply Zl9 | apply Zla | apply Zlb | apply Zlc) | (dsimp only; with_reducible first | apply Zl8 | apply Zl2 | apply Zld) | with_reducible assumption | omega | (dsimp only; omega))))
end Go.Proofs.YtehgeoipbgpocaaGreatDoor
