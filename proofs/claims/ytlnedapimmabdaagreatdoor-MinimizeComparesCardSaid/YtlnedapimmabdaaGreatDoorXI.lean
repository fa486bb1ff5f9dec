/- Mask, Cofactor, Depends of the reference. Count of the reference; least. grow of the reference. Build of the reference. Make: the diagram of a table. -/
import Derived.Laws.BitsAllLaws
import Derived.Test.YtlnedapimmabdaaGreatDoorXB
import Derived.Test.YtlnedapimmabdaaGreatDoorPl
import Derived.Test.YtlnedapimmabdaaGreatDoorXA
import Derived.Test.YtlnedapimmabdaaGreatDoorXF
import Derived.Lib.BufferWrite
namespace Go.Proofs.YtlnedapimmabdaaGreatDoor
set_option linter.unusedVariables false
set_option linter.unusedSimpArgs false
open Go.RowKit Go.Maps
attribute [local go_sem low] Bel.cell Bel.frozen alloc_cell alloc_frozen

theorem bit_at : ∀ k : Nat, k < 64 → ∀ x : Nat, x < 6 → (bits .and .i64 ((k : Int) / 2 ^ x) 1 == 1) = k.testBit x := by decide +kernel
theorem wrap_pow {k : Nat} (hk : k < 64) : IntKind.u64.wrap ((2 : Int) ^ k) = ((2 ^ k : Nat) : Int) := by
  have h2 : 2 ^ k ≤ 2 ^ 63 := Nat.pow_le_pow_right (by decide) (by omega)
  rw [show ((2 : Int) ^ k) = ((2 ^ k : Nat) : Int) by simp]
  generalize 2 ^ k = z at *
  simp [IntKind.wrap, IntKind.bits, IntKind.signed]
  omega
theorem or_ofB {f : Nat → Bool} {k : Nat} (h : f k = true) (hk : k < 64) : bits .or .u64 ((ofB f k : Nat) : Int) (IntKind.u64.wrap (2 ^ k)) = ((ofB f (k + 1) : Nat) : Int) := by
  have h1 := ofB_lt f k
  have h2 : 2 ^ k ≤ 2 ^ 63 := Nat.pow_le_pow_right (by decide) (by omega)
  rw [wrap_pow hk, u64_or_nat _ _ (by omega) (by omega), ofB, if_pos h]
set_option maxRecDepth 100000 in
set_option maxHeartbeats 6400000 in
theorem refMask_any (x : Nat) (hx : x < 6) (w : World) : Calls Tryz.prog 46 #[.int .i64 (x : Int)] w (Ret (.int .u64 (mask6 x : Int)) w) := by
  go_enter Tryz.func46, Tryz.ntmps46
  go_wp2
  go_loopw [3, 4] (fun tv iv wr => ∃ k : Nat, tv = .int .u64 ((ofB (fun v => v.testBit x) k : Nat) : Int) ∧ iv = .int .i64 (k : Int) ∧ k ≤ 64 ∧ ∃ y : Bel w, wr = y.w) (fun _ iv _ => 64 - (intOf iv).toNat)
  case atStart => exact ⟨0, rfl, rfl, by omega, ⟨w, Below.refl _ _⟩, rfl⟩
  case round =>
    obtain ⟨k, rfl, rfl, hk, y, rfl⟩ := hrel
    rcases Nat.lt_or_ge k 64 with hkl | hkl
    · have f0 : decide ((k : Int) < 64) = true := decide_eq_true (by omega)
      have hb := bit_at k hkl x hx
      cases hq : k.testBit x
      · rw [hq] at hb
        go_wp2
        go_roundw
        case rel => exact ⟨k + 1, by rw [ofB, if_neg (by rw [hq]; decide)], by go_num, by omega, ⟨y.w, by (repeat' (first | (with_reducible first | apply Zl1 | apply Zl2 | apply Zl3 | apply Zl4 | apply Zl5 | apply Zl6 | apply Zl7 | apply Zl8 | apply Zl9 | apply Zla | apply Zlb | apply Zlc) | (dsimp only; with_reducible first | apply Zl8 | apply Zl2 | apply Zld) | with_reducible assumption | omega | (dsimp only; omega)))⟩, rfl⟩
        case measure => simp [intOf]; omega
      · rw [hq] at hb
        have ho := or_ofB (f := fun v => v.testBit x) hq hkl
        go_wp2
        go_roundw
        case rel => exact ⟨k + 1, rfl, by go_num, by omega, ⟨y.w, by (repeat' (first | (with_reducible first | apply Zl1 | apply Zl2 | apply Zl3 | apply Zl4 | apply Zl5 | apply Zl6 | apply Zl7 | apply Zl8 | apply Zl9 | apply Zla | apply Zlb | apply Zlc) | (dsimp only; with_reducible first | apply Zl8 | apply Zl2 | apply Zld) | with_reducible assumption | omega | (dsimp only; omega)))⟩, rfl⟩
        case measure => simp [intOf]; omega
    · have hke : k = 64 := by omega
      subst hke
      go_wp2
      go_ret
      exact Ret.mk (by rfl) (by (repeat' (first | (with_reducible first | apply Zl1 | apply Zl2 | apply Zl3 | apply Zl4 | apply Zl5 | apply Zl6 | apply Zl7 | apply Zl8 | apply Zl9 | apply Zla | apply Zlb | apply Zlc) | (dsimp only; with_reducible first | apply Zl8 | apply Zl2 | apply Zld) | with_reducible assumption | omega | (dsimp only; omega))))
theorem wrap_sh {x : Nat} (hx : x < 6) : min (IntKind.u64.wrap ((2 : Int) ^ x)).toNat 64 = 2 ^ x := by
  rw [wrap_pow (by omega), Int.toNat_natCast]
  have : 2 ^ x ≤ 2 ^ 5 := Nat.pow_le_pow_right (by decide) (by omega)
  omega
theorem setT_row : ∀ v : Nat, v < 64 → ∀ x : Nat, x < 6 → (2 ^ x + v).testBit x = !v.testBit x := by decide +kernel
theorem setF_row : ∀ v : Nat, v < 64 → ∀ x : Nat, x < 6 → (2 ^ x ≤ v → (v - 2 ^ x).testBit x = !v.testBit x) ∧ (v.testBit x = true → 2 ^ x ≤ v) := by decide +kernel
theorem cofT_nat {t x : Nat} (ht : t < 2 ^ 64) (hx : x < 6) : (t &&& mask6 x) ||| ((t &&& mask6 x) >>> 2 ^ x) = cof t x true := by
  refine Nat.eq_of_testBit_eq fun v => ?_
  rw [Nat.testBit_or, Nat.testBit_shiftRight, Nat.testBit_and, Nat.testBit_and]
  rcases Nat.lt_or_ge v 64 with hv | hv
  · rw [cof_test t x true hv, mask6_test hv]
    have h1 := setT_row v hv x hx
    unfold setb
    cases hb : v.testBit x
    · rw [hb] at h1
      have hlt : 2 ^ x + v < 64 := Nat.lt_of_not_le fun h => by
        have := (setF_row v hv x hx).2
        have hr : ∀ v : Nat, v < 64 → ∀ x : Nat, x < 6 → v.testBit x = false → 2 ^ x + v < 64 := by decide +kernel
        have := hr v hv x hx hb
        omega
      rw [mask6_test hlt, h1, if_neg (by decide), if_pos rfl, Nat.add_comm v]
      simp
    · rw [hb] at h1
      rw [if_pos rfl, if_pos rfl]
      rcases Nat.lt_or_ge (2 ^ x + v) 64 with hlt | hlt
      · rw [mask6_test hlt, h1]
        simp
      · rw [Nat.testBit_lt_two_pow (Nat.lt_of_lt_of_le ht (Nat.pow_le_pow_right (by decide) hlt))]
        simp
  · have e1 : t.testBit v = false := Nat.testBit_lt_two_pow (Nat.lt_of_lt_of_le ht (Nat.pow_le_pow_right (by decide) hv))
    have e2 : t.testBit (2 ^ x + v) = false := Nat.testBit_lt_two_pow (Nat.lt_of_lt_of_le ht (Nat.pow_le_pow_right (by decide) (Nat.le_trans hv (Nat.le_add_left _ _))))
    have e3 : (cof t x true).testBit v = false := Nat.testBit_lt_two_pow (Nat.lt_of_lt_of_le (cof_lt t x true) (Nat.pow_le_pow_right (by decide) hv))
    rw [e1, e2, e3]
    rfl
theorem not_test {m v : Nat} (hm : m < 2 ^ 64) (hv : v < 64) : (18446744073709551615 - m).testBit v = !m.testBit v := by
  have := Nat.testBit_two_pow_sub_succ hm v
  rw [show 2 ^ 64 - (m + 1) = 18446744073709551615 - m by omega] at this
  rw [this, decide_eq_true hv, Bool.true_and]
theorem cofF_nat {t x : Nat} (ht : t < 2 ^ 64) (hx : x < 6) : (t &&& (18446744073709551615 - mask6 x)) ||| (((t &&& (18446744073709551615 - mask6 x)) <<< 2 ^ x) % 2 ^ 64) = cof t x false := by
  refine Nat.eq_of_testBit_eq fun v => ?_
  rw [Nat.testBit_or, Nat.testBit_mod_two_pow, Nat.testBit_shiftLeft, Nat.testBit_and, Nat.testBit_and]
  rcases Nat.lt_or_ge v 64 with hv | hv
  · rw [cof_test t x false hv, not_test (mask6_lt x) hv, mask6_test hv, not_test (mask6_lt x) (Nat.lt_of_le_of_lt (Nat.sub_le _ _) hv), mask6_test (Nat.lt_of_le_of_lt (Nat.sub_le _ _) hv), decide_eq_true hv]
    obtain ⟨h1, h2⟩ := setF_row v hv x hx
    unfold setb
    cases hb : v.testBit x
    · rw [hb] at h1
      rw [if_neg (by decide), if_neg (by decide)]
      by_cases hle : 2 ^ x ≤ v
      · rw [h1 hle]; simp
      · simp [hle]
    · rw [hb] at h1 h2
      rw [if_pos rfl, if_neg (by decide), h1 (h2 rfl)]
      simp [h2]
  · have e1 : t.testBit v = false := Nat.testBit_lt_two_pow (Nat.lt_of_lt_of_le ht (Nat.pow_le_pow_right (by decide) hv))
    have e3 : (cof t x false).testBit v = false := Nat.testBit_lt_two_pow (Nat.lt_of_lt_of_le (cof_lt t x false) (Nat.pow_le_pow_right (by decide) hv))
    rw [e1, e3, decide_eq_false (by omega)]
    simp
theorem cofT_law {t x : Nat} (ht : t < 2 ^ 64) (hx : x < 6) : bits .or .u64 (bits .and .u64 (t : Int) (mask6 x : Int)) (bits .and .u64 (t : Int) (mask6 x : Int) / 2 ^ min (IntKind.u64.wrap ((2 : Int) ^ x)).toNat 64) = (cof t x true : Int) := by
  have hm := mask6_lt x
  have h1 : t &&& mask6 x < 2 ^ 64 := Nat.and_lt_two_pow _ hm
  rw [wrap_sh hx, u64_and_nat _ _ ht hm, show ((t &&& mask6 x : Nat) : Int) / 2 ^ 2 ^ x = (((t &&& mask6 x) / 2 ^ 2 ^ x : Nat) : Int) by simp, u64_or_nat _ _ h1 (Nat.lt_of_le_of_lt (Nat.div_le_self _ _) h1), ← Nat.shiftRight_eq_div_pow, cofT_nat ht hx]
theorem cofF_law {t x : Nat} (ht : t < 2 ^ 64) (hx : x < 6) : bits .or .u64 (bits .andNot .u64 (t : Int) (mask6 x : Int)) (IntKind.u64.wrap (bits .andNot .u64 (t : Int) (mask6 x : Int) * 2 ^ min (IntKind.u64.wrap ((2 : Int) ^ x)).toNat 64)) = (cof t x false : Int) := by
  have hm := mask6_lt x
  have h1 : t &&& (18446744073709551615 - mask6 x) < 2 ^ 64 := Nat.lt_of_le_of_lt Nat.and_le_left ht
  rw [wrap_sh hx, u64_andNot_nat _ _ ht hm]
  have e : IntKind.u64.wrap (((t &&& (18446744073709551615 - mask6 x) : Nat) : Int) * 2 ^ 2 ^ x) = ((((t &&& (18446744073709551615 - mask6 x)) <<< 2 ^ x) % 2 ^ 64 : Nat) : Int) := by
    rw [Nat.shiftLeft_eq]
    simp [IntKind.wrap, IntKind.bits, IntKind.signed]
  rw [e, u64_or_nat _ _ h1 (Nat.mod_lt _ (by decide)), cofF_nat ht hx]
set_option maxRecDepth 100000 in
set_option maxHeartbeats 6400000 in
theorem refCof_any (t x : Nat) (b : Bool) (ht : t < 2 ^ 64) (hx : x < 6) (w : World) : Calls Tryz.prog 21 #[.int .u64 (t : Int), .int .i64 (x : Int), .bool b] w (Ret (.int .u64 (cof t x b : Int)) w) := by
  have HM := Lib.hid (fun w' => refMask_any x hx w')
  have hT := cofT_law ht hx
  have hF := cofF_law ht hx
  have HT := Lib.hid hT
  have HF := Lib.hid hF
  clear hT hF
  obtain ⟨m, hm⟩ : ∃ m, mask6 x = m := ⟨_, rfl⟩
  rw [hm] at HM HT HF
  clear hm
  cases b
  · go_enter Tryz.func21, Tryz.ntmps21
    go_wp2_with fail
    (with_reducible refine (HM.out _).mono ?_)
    rintro _ _ ⟨rfl, y1, rfl⟩
    dsimp only
    go_wp2
    go_ret
    exact Ret.mk (by rw [HF.out]; rfl) (by (repeat' (first | (with_reducible first | apply Zl1 | apply Zl2 | apply Zl3 | apply Zl4 | apply Zl5 | apply Zl6 | apply Zl7 | apply Zl8 | apply Zl9 | apply Zla | apply Zlb | apply Zlc) | (dsimp only; with_reducible first | apply Zl8 | apply Zl2 | apply Zld) | with_reducible assumption | omega | (dsimp only; omega))))
  · go_enter Tryz.func21, Tryz.ntmps21
    go_wp2_with fail
    (with_reducible refine (HM.out _).mono ?_)
    rintro _ _ ⟨rfl, y1, rfl⟩
    dsimp only
    go_wp2
    go_ret
    exact Ret.mk (by rw [HT.out]; rfl) (by (repeat' (first | (with_reducible first | apply Zl1 | apply Zl2 | apply Zl3 | apply Zl4 | apply Zl5 | apply Zl6 | apply Zl7 | apply Zl8 | apply Zl9 | apply Zla | apply Zlb | apply Zlc) | (dsimp only; with_reducible first | apply Zl8 | apply Zl2 | apply Zld) | with_reducible assumption | omega | (dsimp only; omega))))
end Go.Proofs.YtlnedapimmabdaaGreatDoor

namespace Go.Proofs.YtlnedapimmabdaaGreatDoor
set_option linter.unusedVariables false
set_option linter.unusedSimpArgs false
open Go.RowKit Go.Maps
attribute [local go_sem low] Bel.cell Bel.frozen alloc_cell alloc_frozen

def leastT (t : Nat) : Nat → Nat
  | 0 => 0
  | k + 1 => if dep6 t k then k + 1 else leastT t k
end Go.Proofs.YtlnedapimmabdaaGreatDoor

namespace Go.Proofs.YtlnedapimmabdaaGreatDoor
set_option linter.unusedVariables false
set_option linter.unusedSimpArgs false
open Go.RowKit Go.Maps
attribute [local go_sem low] Bel.cell Bel.frozen alloc_cell alloc_frozen

def tabsV (l : List Nat) : List Value := l.map fun (p : Nat) => .int .u64 (p : Int)
theorem Tryz.infoU : (Tryz.prog.info? 42).map (fun i => (i.zero, i.size, i.bytes)) = some (some (.int .u64 0), 1, 8) := by kernel_rfl
def OwnU (w : World) (base : Nat) (v : Value) (l : List Nat) : Prop := w.ownsRow base 42 1 v l.length (tabsV l)
theorem ownU_sl {w : World} {base : Nat} {v : Value} {l : List Nat} (h : OwnU w base v l) : ∃ a c, v = .slice a l.length c ∧ (0 < l.length → ∃ g, a = some ⟨g, 0, none⟩ ∧ base ≤ g ∧ g < w.heap.size ∧ ∀ (j p : Nat), l[j]? = some p → w.cell? ⟨g, j, none⟩ = some (.int .u64 (p : Int))) := by
  rcases h with ⟨hxl, ⟨e1, e2⟩ | ⟨g, cap, cur, e1, hg, hh, hn, hc, hcs, hcur⟩⟩
  · exact ⟨none, 0, by rw [e1, e2], fun h => by omega⟩
  · refine ⟨_, cap, e1, fun _ => ⟨g, rfl, hg, (Array.getElem?_eq_some_iff.1 hh).1, fun j p hp => ?_⟩⟩
    have hj := (List.getElem?_eq_some_iff.1 hp).1
    have e : (tabsV l)[j]? = some (.int .u64 (p : Int)) := by unfold tabsV; rw [List.getElem?_map, hp]; rfl
    rw [← hcur, List.getElem?_take_of_lt (by omega)] at e
    simp [World.cell?, hh]
    simpa using e
theorem ownU_bel {w w' : World} {base : Nat} {v : Value} {l : List Nat} (h : OwnU w base v l) (hb : Below w.heap.size w w') : OwnU w' base v l := by
  obtain ⟨hxl, ⟨e1, e2⟩ | ⟨g', cap', cur, e1, hg, hh, hn, hc, hcs, hcur⟩⟩ := h
  · exact ⟨hxl, .inl ⟨e1, e2⟩⟩
  · exact ⟨hxl, .inr ⟨g', cap', cur, e1, hg, obj_in hb hh, hn, hc, hcs, hcur⟩⟩
end Go.Proofs.YtlnedapimmabdaaGreatDoor

namespace Go.Proofs.YtlnedapimmabdaaGreatDoor
set_option linter.unusedVariables false
set_option linter.unusedSimpArgs false
open Go.RowKit Go.Maps
attribute [local go_sem low] Bel.cell Bel.frozen alloc_cell alloc_frozen

end Go.Proofs.YtlnedapimmabdaaGreatDoor

namespace Go.Proofs.YtlnedapimmabdaaGreatDoor
set_option linter.unusedVariables false
set_option linter.unusedSimpArgs false
open Go.RowKit Go.Maps
attribute [local go_sem low] Bel.cell Bel.frozen alloc_cell alloc_frozen
attribute [local go_sem] calmOp chainOp yieldsC grows

end Go.Proofs.YtlnedapimmabdaaGreatDoor
