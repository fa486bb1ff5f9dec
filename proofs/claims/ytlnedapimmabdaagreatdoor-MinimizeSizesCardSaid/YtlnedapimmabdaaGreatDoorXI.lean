/- Mask, Cofactor, Depends of the reference. Count of the reference; least. grow of the reference. Build of the reference. Make: the diagram of a table. -/
import Derived.Laws.BitsAllLaws
import Derived.Test.YtlnedapimmabdaaGreatDoorXB
import Derived.Test.YtlnedapimmabdaaGreatDoorPl
import Derived.Test.YtlnedapimmabdaaGreatDoorXA
import Derived.Test.YtlnedapimmabdaaGreatDoorXF
import Derived.Lib.BufferWrite
namespace Go.Proofs.YtlnedapimmabdaaGreatDoor
set_option linter.unusedVariables false
set_option linter.unusedSimpArgs false
open Go.RowKit Go.Maps
attribute [local go_sem low] Bel.cell Bel.frozen alloc_cell alloc_frozen

theorem bit_at : ∀ k : Nat, k < 64 → ∀ x : Nat, x < 6 → (bits .and .i64 ((k : Int) / 2 ^ x) 1 == 1) = k.testBit x := by decide +kernel
theorem wrap_pow {k : Nat} (hk : k < 64) : IntKind.u64.wrap ((2 : Int) ^ k) = ((2 ^ k : Nat) : Int) := by
  have h2 : 2 ^ k ≤ 2 ^ 63 := Nat.pow_le_pow_right (by decide) (by omega)
  rw [show ((2 : Int) ^ k) = ((2 ^ k : Nat) : Int) by simp]
  generalize 2 ^ k = z at *
  simp [IntKind.wrap, IntKind.bits, IntKind.signed]
  omega
theorem or_ofB {f : Nat → Bool} {k : Nat} (h : f k = true) (hk : k < 64) : bits .or .u64 ((ofB f k : Nat) : Int) (IntKind.u64.wrap (2 ^ k)) = ((ofB f (k + 1) : Nat) : Int) := by
  have h1 := ofB_lt f k
  have h2 : 2 ^ k ≤ 2 ^ 63 := Nat.pow_le_pow_right (by decide) (by omega)
  rw [wrap_pow hk, u64_or_nat _ _ (by omega) (by omega), ofB, if_pos h]
set_option maxRecDepth 100000 in
set_option maxHeartbeats 6400000 in
theorem refMask_any (x : Nat) (hx : x < 6) (w : World) : Calls Tryz.prog 46 #[.int .i64 (x : Int)] w (Ret (.int .u64 (mask6 x : Int)) w) := by
  go_enter Tryz.func46, Tryz.ntmps46
  go_wp2
  go_loopw [3, 4] (fun tv iv wr => ∃ k : Nat, tv = .int .u64 ((ofB (fun v => v.testBit x) k : Nat) : Int) ∧ iv = .int .i64 (k : Int) ∧ k ≤ 64 ∧ ∃ y : Bel w, wr = y.w) (fun _ iv _ => 64 - (intOf iv).toNat)
  case atStart => exact ⟨0, rfl, rfl, by omega, ⟨w, Below.refl _ _⟩, rfl⟩
  case round =>
    obtain ⟨k, rfl, rfl, hk, y, rfl⟩ := hrel
    rcases Nat.lt_or_ge k 64 with hkl | hkl
    · have f0 : decide ((k : Int) < 64) = true := decide_eq_true (by omega)
      have hb := bit_at k hkl x hx
      cases hq : k.testBit x
      · rw [hq] at hb
        go_wp2
        go_roundw
        case rel => exact ⟨k + 1, by rw [ofB, if_neg (by rw [hq]; decide)], by go_num, by omega, ⟨y.w, by (repeat' (first | (with_reducible first | apply Zl1 | apply Zl2 | apply Zl3 | apply Zl4 | apply Zl5 | apply Zl6 | apply Zl7 | apply Zl8 | apply Zl9 | apply Zla | apply Zlb | apply Zlc) | (dsimp only; with_reducible first | apply Zl8 | apply Zl2 | apply Zld) | with_reducible assumption | omega | (dsimp only; omega)))⟩, rfl⟩
        case measure => simp [intOf]; omega
      · rw [hq] at hb
        have ho := or_ofB (f := fun v => v.testBit x) hq hkl
        go_wp2
        go_roundw
        case rel => exact ⟨k + 1, rfl, by go_num, by omega, ⟨y.w, by (repeat' (first | (with_reducible first | apply Zl1 | apply Zl2 | apply Zl3 | apply Zl4 | apply Zl5 | apply Zl6 | apply Zl7 | apply Zl8 | apply Zl9 | apply Zla | apply Zlb | apply Zlc) | (dsimp only; with_reducible first | apply Zl8 | apply Zl2 | apply Zld) | with_reducible assumption | omega | (dsimp only; omega)))⟩, rfl⟩
        case measure => simp [intOf]; omega
    · have hke : k = 64 := by omega
      subst hke
      go_wp2
      go_ret
      exact Ret.mk (by rfl) (by (repeat' (first | (with_reducible first | apply Zl1 | apply Zl2 | apply Zl3 | apply Zl4 | apply Zl5 | apply Zl6 | apply Zl7 | apply Zl8 | apply Zl9 | apply Zla | apply Zlb | apply Zlc) | (dsimp only; with_reducible first | apply Zl8 | apply Zl2 | apply Zld) | with_reducible assumption | omega | (dsimp only; omega))))
theorem wrap_sh {x : Nat} (hx : x < 6) : min (IntKind.u64.wrap ((2 : Int) ^ x)).toNat 64 = 2 ^ x := by
  rw [wrap_pow (by omega), Int.toNat_natCast]
  have : 2 ^ x ≤ 2 ^ 5 := Nat.pow_le_pow_right (by decide) (by omega)
  omega
theorem setT_row : ∀ v : Nat, v < 64 → ∀ x : Nat, x < 6 → (2 ^ x + v).testBit x = !v.testBit x := by decide +kernel
theorem setF_row : ∀ v : Nat, v < 64 → ∀ x : Nat, x < 6 → (2 ^ x ≤ v → (v - 2 ^ x).testBit x = !v.testBit x) ∧ (v.testBit x = true → 2 ^ x ≤ v) := by decide +kernel
theorem cofT_nat {t x : Nat} (ht : t < 2 ^ 64) (hx : x < 6) : (t &&& mask6 x) ||| ((t &&& mask6 x) >>> 2 ^ x) = cof t x true := by
  refine Nat.eq_of_testBit_eq fun v => ?_
  rw [Nat.testBit_or, Nat.testBit_shiftRight, Nat.testBit_and, Nat.testBit_and]
  rcases Nat.lt_or_ge v 64 with hv | hv
  · rw [cof_test t x true hv, mask6_test hv]
    have h1 := setT_row v hv x hx
    unfold setb
    cases hb : v.testBit x
    · rw [hb] at h1
      have hlt : 2 ^ x + v < 64 := Nat.lt_of_not_le fun h => by
        have := (setF_row v hv x hx).2
        have hr : ∀ v : Nat, v < 64 → ∀ x : Nat, x < 6 → v.testBit x = false → 2 ^ x + v < 64 := by decide +kernel
        have := hr v hv x hx hb
        omega
      rw [mask6_test hlt, h1, if_neg (by decide), if_pos rfl, Nat.add_comm v]
      simp
    · rw [hb] at h1
      rw [if_pos rfl, if_pos rfl]
      rcases Nat.lt_or_ge (2 ^ x + v) 64 with hlt | hlt
      · rw [mask6_test hlt, h1]
        simp
      · rw [Nat.testBit_lt_two_pow (Nat.lt_of_lt_of_le ht (Nat.pow_le_pow_right (by decide) hlt))]
        simp
  · have e1 : t.testBit v = false := Nat.testBit_lt_two_pow (Nat.lt_of_lt_of_le ht (Nat.pow_le_pow_right (by decide) hv))
    have e2 : t.testBit (2 ^ x + v) = false := Nat.testBit_lt_two_pow (Nat.lt_of_lt_of_le ht (Nat.pow_le_pow_right (by decide) (Nat.le_trans hv (Nat.le_add_left _ _))))
    have e3 : (cof t x true).testBit v = false := Nat.testBit_lt_two_pow (Nat.lt_of_lt_of_le (cof_lt t x true) (Nat.pow_le_pow_right (by decide) hv))
    rw [e1, e2, e3]
    rfl
theorem not_test {m v : Nat} (hm : m < 2 ^ 64) (hv : v < 64) : (18446744073709551615 - m).testBit v = !m.testBit v := by
  have := Nat.testBit_two_pow_sub_succ hm v
  rw [show 2 ^ 64 - (m + 1) = 18446744073709551615 - m by omega] at this
  rw [this, decide_eq_true hv, Bool.true_and]
theorem cofF_nat {t x : Nat} (ht : t < 2 ^ 64) (hx : x < 6) : (t &&& (18446744073709551615 - mask6 x)) ||| (((t &&& (18446744073709551615 - mask6 x)) <<< 2 ^ x) % 2 ^ 64) = cof t x false := by
  refine Nat.eq_of_testBit_eq fun v => ?_
  rw [Nat.testBit_or, Nat.testBit_mod_two_pow, Nat.testBit_shiftLeft, Nat.testBit_and, Nat.testBit_and]
  rcases Nat.lt_or_ge v 64 with hv | hv
  · rw [cof_test t x false hv, not_test (mask6_lt x) hv, mask6_test hv, not_test (mask6_lt x) (Nat.lt_of_le_of_lt (Nat.sub_le _ _) hv), mask6_test (Nat.lt_of_le_of_lt (Nat.sub_le _ _) hv), decide_eq_true hv]
    obtain ⟨h1, h2⟩ := setF_row v hv x hx
    unfold setb
    cases hb : v.testBit x
    · rw [hb] at h1
      rw [if_neg (by decide), if_neg (by decide)]
      by_cases hle : 2 ^ x ≤ v
      · rw [h1 hle]; simp
      · simp [hle]
    · rw [hb] at h1 h2
      rw [if_pos rfl, if_neg (by decide), h1 (h2 rfl)]
      simp [h2]
  · have e1 : t.testBit v = false := Nat.testBit_lt_two_pow (Nat.lt_of_lt_of_le ht (Nat.pow_le_pow_right (by decide) hv))
    have e3 : (cof t x false).testBit v = false := Nat.testBit_lt_two_pow (Nat.lt_of_lt_of_le (cof_lt t x false) (Nat.pow_le_pow_right (by decide) hv))
    rw [e1, e3, decide_eq_false (by omega)]
    simp
theorem cofT_law {t x : Nat} (ht : t < 2 ^ 64) (hx : x < 6) : bits .or .u64 (bits .and .u64 (t : Int) (mask6 x : Int)) (bits .and .u64 (t : Int) (mask6 x : Int) / 2 ^ min (IntKind.u64.wrap ((2 : Int) ^ x)).toNat 64) = (cof t x true : Int) := by
  have hm := mask6_lt x
  have h1 : t &&& mask6 x < 2 ^ 64 := Nat.and_lt_two_pow _ hm
  rw [wrap_sh hx, u64_and_nat _ _ ht hm, show ((t &&& mask6 x : Nat) : Int) / 2 ^ 2 ^ x = (((t &&& mask6 x) / 2 ^ 2 ^ x : Nat) : Int) by simp, u64_or_nat _ _ h1 (Nat.lt_of_le_of_lt (Nat.div_le_self _ _) h1), ← Nat.shiftRight_eq_div_pow, cofT_nat ht hx]
theorem cofF_law {t x : Nat} (ht : t < 2 ^ 64) (hx : x < 6) : bits .or .u64 (bits .andNot .u64 (t : Int) (mask6 x : Int)) (IntKind.u64.wrap (bits .andNot .u64 (t : Int) (mask6 x : Int) * 2 ^ min (IntKind.u64.wrap ((2 : Int) ^ x)).toNat 64)) = (cof t x false : Int) := by
  have hm := mask6_lt x
  have h1 : t &&& (18446744073709551615 - mask6 x) < 2 ^ 64 := Nat.lt_of_le_of_lt Nat.and_le_left ht
  rw [wrap_sh hx, u64_andNot_nat _ _ ht hm]
  have e : IntKind.u64.wrap (((t &&& (18446744073709551615 - mask6 x) : Nat) : Int) * 2 ^ 2 ^ x) = ((((t &&& (18446744073709551615 - mask6 x)) <<< 2 ^ x) % 2 ^ 64 : Nat) : Int) := by
    rw [Nat.shiftLeft_eq]
    simp [IntKind.wrap, IntKind.bits, IntKind.signed]
  rw [e, u64_or_nat _ _ h1 (Nat.mod_lt _ (by decide)), cofF_nat ht hx]
set_option maxRecDepth 100000 in
set_option maxHeartbeats 6400000 in
theorem refCof_any (t x : Nat) (b : Bool) (ht : t < 2 ^ 64) (hx : x < 6) (w : World) : Calls Tryz.prog 21 #[.int .u64 (t : Int), .int .i64 (x : Int), .bool b] w (Ret (.int .u64 (cof t x b : Int)) w) := by
  have HM := Lib.hid (fun w' => refMask_any x hx w')
  have hT := cofT_law ht hx
  have hF := cofF_law ht hx
  have HT := Lib.hid hT
  have HF := Lib.hid hF
  clear hT hF
  obtain ⟨m, hm⟩ : ∃ m, mask6 x = m := ⟨_, rfl⟩
  rw [hm] at HM HT HF
  clear hm
  cases b
  · go_enter Tryz.func21, Tryz.ntmps21
    go_wp2_with fail
    (with_reducible refine (HM.out _).mono ?_)
    rintro _ _ ⟨rfl, y1, rfl⟩
    dsimp only
    go_wp2
    go_ret
    exact Ret.mk (by rw [HF.out]; rfl) (by (repeat' (first | (with_reducible first | apply Zl1 | apply Zl2 | apply Zl3 | apply Zl4 | apply Zl5 | apply Zl6 | apply Zl7 | apply Zl8 | apply Zl9 | apply Zla | apply Zlb | apply Zlc) | (dsimp only; with_reducible first | apply Zl8 | apply Zl2 | apply Zld) | with_reducible assumption | omega | (dsimp only; omega))))
  · go_enter Tryz.func21, Tryz.ntmps21
    go_wp2_with fail
    (with_reducible refine (HM.out _).mono ?_)
    rintro _ _ ⟨rfl, y1, rfl⟩
    dsimp only
    go_wp2
    go_ret
    exact Ret.mk (by rw [HT.out]; rfl) (by (repeat' (first | (with_reducible first | apply Zl1 | apply Zl2 | apply Zl3 | apply Zl4 | apply Zl5 | apply Zl6 | apply Zl7 | apply Zl8 | apply Zl9 | apply Zla | apply Zlb | apply Zlc) | (dsimp only; with_reducible first | apply Zl8 | apply Zl2 | apply Zld) | with_reducible assumption | omega | (dsimp only; omega))))
set_option maxRecDepth 100000 in
set_option maxHeartbeats 6400000 in
theorem refDep_any (t x : Nat) (ht : t < 2 ^ 64) (hx : x < 6) (w : World) : Calls Tryz.prog 101 #[.int .u64 (t : Int), .int .i64 (x : Int)] w (Ret (.bool (dep6 t x)) w) := by
  have H0 := Lib.hid (fun w' => refCof_any t x false ht hx w')
  have H1 := Lib.hid (fun w' => refCof_any t x true ht hx w')
  have hd : ((cof t x false : Int) != (cof t x true : Int)) = dep6 t x := by
    unfold dep6
    by_cases h : cof t x false = cof t x true
    · rw [h]; simp
    · rw [decide_eq_true h]
      exact bne_iff_ne.2 (fun e => h (by exact_mod_cast e))
  obtain ⟨a, ha⟩ : ∃ a, cof t x false = a := ⟨_, rfl⟩
  obtain ⟨b, hb⟩ : ∃ b, cof t x true = b := ⟨_, rfl⟩
  rw [ha] at H0 hd
  rw [hb] at H1 hd
  obtain ⟨q, hq⟩ : ∃ q, dep6 t x = q := ⟨_, rfl⟩
  rw [hq] at hd ⊢
  clear ha hb hq
  go_enter Tryz.func101, Tryz.ntmps101
  go_wp2_with (first | (go_at_call 21; (with_reducible refine (H0.out _).mono ?_); rintro _ _ ⟨rfl, y1, rfl⟩; dsimp only) | (go_at_call 21; (with_reducible refine (H1.out _).mono ?_); rintro _ _ ⟨rfl, y2, rfl⟩; dsimp only))
  go_ret
  exact Ret.mk (by rfl) (by (repeat' (first | (with_reducible first | apply Zl1 | apply Zl2 | apply Zl3 | apply Zl4 | apply Zl5 | apply Zl6 | apply Zl7 | apply Zl8 | apply Zl9 | apply Zla | apply Zlb | apply Zlc) | (dsimp only; with_reducible first | apply Zl8 | apply Zl2 | apply Zld) | with_reducible assumption | omega | (dsimp only; omega))))
end Go.Proofs.YtlnedapimmabdaaGreatDoor

namespace Go.Proofs.YtlnedapimmabdaaGreatDoor
set_option linter.unusedVariables false
set_option linter.unusedSimpArgs false
open Go.RowKit Go.Maps
attribute [local go_sem low] Bel.cell Bel.frozen alloc_cell alloc_frozen

def leastT (t : Nat) : Nat → Nat
  | 0 => 0
  | k + 1 => if dep6 t k then k + 1 else leastT t k
end Go.Proofs.YtlnedapimmabdaaGreatDoor

namespace Go.Proofs.YtlnedapimmabdaaGreatDoor
set_option linter.unusedVariables false
set_option linter.unusedSimpArgs false
open Go.RowKit Go.Maps
attribute [local go_sem low] Bel.cell Bel.frozen alloc_cell alloc_frozen

theorem grow_rank {t : Nat} (ht : t < 2 ^ 64) (h0 : t ≠ 0) (h1 : t ≠ 18446744073709551615) : first6 t 6 0 < 6 ∧ dep6 t (first6 t 6 0) = true ∧ ∀ b, first6 t 6 0 < first6 (cof t (first6 t 6 0) b) 6 0 := by
  obtain ⟨hd, _, hle, hbef⟩ := first6_spec t 6 0
  obtain ⟨x, hx⟩ : ∃ x, first6 t 6 0 = x := ⟨_, rfl⟩
  rw [hx] at hd hle hbef ⊢
  have hx6 : x < 6 := by
    rcases Nat.lt_or_ge x 6 with h | h
    · exact h
    · exact (table_const ht fun y hy => hbef y (Nat.zero_le _) (by omega)).elim (fun e => absurd e h0) (fun e => absurd e h1)
  refine ⟨hx6, hd (by omega), fun b => ?_⟩
  obtain ⟨q1, _, q3, _⟩ := first6_spec (cof t x b) 6 0
  rcases Nat.lt_or_ge x (first6 (cof t x b) 6 0) with h | h
  · exact h
  · have e := dep6_cof hx6 (show first6 (cof t x b) 6 0 < 6 by omega) b (by
      rcases Nat.lt_or_ge (first6 (cof t x b) 6 0) x with h | h
      · exact .inr (hbef _ (Nat.zero_le _) h)
      · exact .inl (by omega)) (t := t)
    rw [q1 (by omega)] at e
    cases e
def tabsV (l : List Nat) : List Value := l.map fun (p : Nat) => .int .u64 (p : Int)
theorem Tryz.infoU : (Tryz.prog.info? 42).map (fun i => (i.zero, i.size, i.bytes)) = some (some (.int .u64 0), 1, 8) := by kernel_rfl
theorem Tryz.infoRN : (Tryz.prog.info? 101).map (fun i => (i.zero, i.size, i.bytes)) = some (some (.agg #[.int .i64 0, .int .i64 0, .int .i64 0]), 3, 24) := by kernel_rfl
def OwnU (w : World) (base : Nat) (v : Value) (l : List Nat) : Prop := w.ownsRow base 42 1 v l.length (tabsV l)
theorem ownU_sl {w : World} {base : Nat} {v : Value} {l : List Nat} (h : OwnU w base v l) : ∃ a c, v = .slice a l.length c ∧ (0 < l.length → ∃ g, a = some ⟨g, 0, none⟩ ∧ base ≤ g ∧ g < w.heap.size ∧ ∀ (j p : Nat), l[j]? = some p → w.cell? ⟨g, j, none⟩ = some (.int .u64 (p : Int))) := by
  rcases h with ⟨hxl, ⟨e1, e2⟩ | ⟨g, cap, cur, e1, hg, hh, hn, hc, hcs, hcur⟩⟩
  · exact ⟨none, 0, by rw [e1, e2], fun h => by omega⟩
  · refine ⟨_, cap, e1, fun _ => ⟨g, rfl, hg, (Array.getElem?_eq_some_iff.1 hh).1, fun j p hp => ?_⟩⟩
    have hj := (List.getElem?_eq_some_iff.1 hp).1
    have e : (tabsV l)[j]? = some (.int .u64 (p : Int)) := by unfold tabsV; rw [List.getElem?_map, hp]; rfl
    rw [← hcur, List.getElem?_take_of_lt (by omega)] at e
    simp [World.cell?, hh]
    simpa using e
theorem ownU_bel {w w' : World} {base : Nat} {v : Value} {l : List Nat} (h : OwnU w base v l) (hb : Below w.heap.size w w') : OwnU w' base v l := by
  obtain ⟨hxl, ⟨e1, e2⟩ | ⟨g', cap', cur, e1, hg, hh, hn, hc, hcs, hcur⟩⟩ := h
  · exact ⟨hxl, .inl ⟨e1, e2⟩⟩
  · exact ⟨hxl, .inr ⟨g', cap', cur, e1, hg, obj_in hb hh, hn, hc, hcs, hcur⟩⟩
theorem ownD_below {w w' : World} {base : Nat} {e : TypeId} {v : Value} {N : List (Nat × Nat × Nat)} (h : OwnD w base e v N) (hb : Below w.heap.size w w') : OwnD w' base e v N := by
  obtain ⟨hxl, ⟨e1, e2⟩ | ⟨g', cap', cur, e1, hg, hh, hn, hc, hcs, hcur⟩⟩ := h
  · exact ⟨hxl, .inl ⟨e1, e2⟩⟩
  · exact ⟨hxl, .inr ⟨g', cap', cur, e1, hg, obj_in hb hh, hn, hc, hcs, hcur⟩⟩
def RetG (base : Nat) (M : List (Nat × Nat × Nat)) (T : List Nat) (r : Nat) (w : World) (e : Ending) (w' : World) : Prop :=
  ∃ v1 v2, e = .returned (.tuple #[v1, v2, .int .i64 (r : Int)]) ∧ OwnD w' base 101 v1 M ∧ OwnU w' base v2 T ∧ (∀ g, v1.ownBlock = some g → v2.ownBlock ≠ some g) ∧ Below base w w' ∧ w.heap.size ≤ w'.heap.size
set_option maxRecDepth 100000 in
set_option maxHeartbeats 12800000 in
theorem grow_any (base : Nat) : ∀ (f : Nat) (M : List (Nat × Nat × Nat)) (T : List Nat) (t : Nat), GT M T → t < 2 ^ 64 → 6 - first6 t 6 0 < f → M.length + 2 ^ (6 - first6 t 6 0) ≤ 1000 → ∀ (v1 v2 : Value) (w : World), OwnD w base 101 v1 M → OwnU w base v2 T → (∀ g, v1.ownBlock = some g → v2.ownBlock ≠ some g) → base ≤ w.heap.size →
    Calls Tryz.prog 76 #[v1, v2, .int .u64 (t : Int)] w (RetG base (growT f M T t).1 (growT f M T t).2.1 (growT f M T t).2.2 w) := by
  obtain ⟨i0, hi0, hz0, hz1, hz2⟩ := info_parts Tryz.infoU
  obtain ⟨i1, hi1, hy0, hy1, hy2⟩ := info_parts Tryz.infoRN
  intro f
  induction f with
  | zero => intro M T t _ _ h; omega
  | succ f ih =>
    intro M T t hg ht hf hB v1 v2 w ho1 ho2 hd hbw
    rw [growT]
    by_cases h0 : t = 0
    · subst h0
      rw [if_pos rfl]
      obtain ⟨a1, c1, rfl, -⟩ := ownD_val ho1
      obtain ⟨a2, c2, rfl, -⟩ := ownU_sl ho2
      have f0 : (((0 : Nat) : Int) == 0) = true := rfl
      have HD := Lib.hid (And.intro ho1 (And.intro ho2 hd))
      clear ho1 ho2 hd ih
      go_enter Tryz.func76, Tryz.ntmps76
      go_wp2
      refine bodyPost_ret (v := .tuple #[.slice a1 M.length c1, .slice a2 T.length c2, .int .i64 0]) (by simp [results, Tryz.results76, go_sem]) rfl ⟨_, _, rfl, HD.out.1, HD.out.2.1, HD.out.2.2, Below.refl _ _, Nat.le_refl _⟩
    rw [if_neg h0]
    have f0 : ((t : Int) == 0) = false := beq_eq_false_iff_ne.2 (by omega)
    by_cases h1 : t = 18446744073709551615
    · subst h1
      rw [if_pos rfl]
      obtain ⟨a1, c1, rfl, -⟩ := ownD_val ho1
      obtain ⟨a2, c2, rfl, -⟩ := ownU_sl ho2
      have HD := Lib.hid (And.intro ho1 (And.intro ho2 hd))
      clear ho1 ho2 hd ih
      go_enter Tryz.func76, Tryz.ntmps76
      go_wp2
      refine bodyPost_ret (v := .tuple #[.slice a1 M.length c1, .slice a2 T.length c2, .int .i64 1]) (by simp [results, Tryz.results76, go_sem]) rfl ⟨_, _, rfl, HD.out.1, HD.out.2.1, HD.out.2.2, Below.refl _ _, Nat.le_refl _⟩
    rw [if_neg h1]
    have f1 : ((t : Int) == 18446744073709551615) = false := beq_eq_false_iff_ne.2 (by omega)
    have HI := Lib.hid ih
    have HGT := Lib.hid hg
    have hTl : T.length ≤ 1000 := by have := hg.len; have := Nat.two_pow_pos (6 - first6 t 6 0); omega
    have HD := Lib.hid (And.intro ho1 (And.intro ho2 hd))
    have h2p := Nat.two_pow_pos (6 - first6 t 6 0)
    have hrk := grow_rank ht h0 h1
    obtain ⟨fx, hfx⟩ : ∃ x, first6 t 6 0 = x := ⟨_, rfl⟩
    have HFX := Lib.hid hfx
    rw [hfx] at hf hB hrk h2p ⊢
    obtain ⟨hx6, hdx, hrank⟩ := hrk
    obtain ⟨X, hX⟩ : ∃ X, (if t ∈ T then (M, T, T.idxOf t + 2) else
      ((growT f (growT f M T (cof t fx false)).1 (growT f M T (cof t fx false)).2.1 (cof t fx true)).1 ++ [(fx, (growT f M T (cof t fx false)).2.2, (growT f (growT f M T (cof t fx false)).1 (growT f M T (cof t fx false)).2.1 (cof t fx true)).2.2)],
      (growT f (growT f M T (cof t fx false)).1 (growT f M T (cof t fx false)).2.1 (cof t fx true)).2.1 ++ [t],
      (growT f (growT f M T (cof t fx false)).1 (growT f M T (cof t fx false)).2.1 (cof t fx true)).1.length + 2)) = X := ⟨_, rfl⟩
    rw [hX]
    have HX := Lib.hid hX
    have HRK := Lib.hid hrank
    have HDX := Lib.hid hdx
    have HDP := Lib.hid (fun x (hx : x < 6) w' => refDep_any t x ht hx w')
    obtain ⟨a1, c1, rfl, -⟩ := ownD_val ho1
    obtain ⟨a2, c2, rfl, hcs⟩ := ownU_sl ho2
    have HCS := Lib.hid hcs
    clear ho1 ho2 hd ih hX hrank hdx hcs hfx hg
    go_enter Tryz.func76, Tryz.ntmps76
    go_wp2
    go_loopw [9] (fun iv wr => ∃ k : Nat, iv = .int .i64 (k : Int) ∧ k ≤ T.length ∧ (∀ j, j < k → T[j]? ≠ some t) ∧ ∃ y : Bel w, wr = y.w) (fun iv _ => T.length - (intOf iv).toNat)
    case atStart => exact ⟨0, rfl, Nat.zero_le _, fun j h => by omega, ⟨w, Below.refl _ _⟩, rfl⟩
    case round =>
      obtain ⟨k, rfl, hk, hno, y, rfl⟩ := hrel
      have HNO := Lib.hid hno
      clear hno
      rcases Nat.lt_or_ge k T.length with hkl | hkl
      · obtain ⟨u, hu⟩ : ∃ u, T[k]? = some u := ⟨_, List.getElem?_eq_getElem hkl⟩
        obtain ⟨g, hadd, hgb, hgl, hcell⟩ := HCS.out (by omega)
        subst hadd
        have c0 := cell_in y.below (hcell k u hu)
        have f2 : decide ((k : Int) < (T.length : Int)) = true := decide_eq_true (by omega)
        have hib : (0 ≤ (k : Int) ∧ (k : Int) < (T.length : Int)) := ⟨by omega, by omega⟩
        have HU := Lib.hid hu
        clear hcell hu
        by_cases he : u = t
        · have f3 : ((u : Int) == (t : Int)) = true := beq_iff_eq.2 (by omega)
          have HE := Lib.hid he
          clear he
          go_wp2
          have hidx : T.idxOf t = k := by
            have hu := HU.out
            rw [HE.out] at hu
            have hmem : t ∈ T := List.mem_of_getElem? hu
            have hlt := List.idxOf_lt_length_of_mem hmem
            have e1 : T[T.idxOf t]? = some t := by rw [List.getElem?_eq_getElem hlt, List.getElem_idxOf hlt]
            rcases Nat.lt_trichotomy (T.idxOf t) k with h | h | h
            · exact absurd e1 (HNO.out _ h)
            · exact h
            · have := List.not_of_lt_findIdx (p := (· == t)) (xs := T) (i := k) h
              rw [List.getElem?_eq_getElem hkl] at hu
              injection hu with hu
              rw [hu] at this
              simp at this
          have hx := HX.out
          rw [if_pos (by have := HU.out; rw [HE.out] at this; exact List.mem_of_getElem? this), hidx] at hx
          rw [← hx]
          refine bodyPost_ret (v := .tuple #[.slice a1 M.length c1, .slice (some ⟨g, 0, none⟩) T.length c2, .int .i64 ((k + 2 : Nat) : Int)]) (by simp [results, Tryz.results76, go_sem]) rfl ⟨_, _, rfl, ownD_below HD.out.1 y.below, ownU_bel HD.out.2.1 y.below, HD.out.2.2, y.below.mono hbw, y.below.size⟩
        · have f3 : ((u : Int) == (t : Int)) = false := beq_eq_false_iff_ne.2 (by omega)
          have HE := Lib.hid he
          clear he
          go_wp2
          go_roundw
          case rel =>
            refine ⟨k + 1, by go_num, by omega, fun j hj => ?_, ⟨y.w, by (repeat' (first | (with_reducible first | apply Zl1 | apply Zl2 | apply Zl3 | apply Zl4 | apply Zl5 | apply Zl6 | apply Zl7 | apply Zl8 | apply Zl9 | apply Zla | apply Zlb | apply Zlc) | (dsimp only; with_reducible first | apply Zl8 | apply Zl2 | apply Zld) | with_reducible assumption | omega | (dsimp only; omega)))⟩, rfl⟩
            rcases Nat.lt_or_ge j k with h | h
            · exact HNO.out j h
            · have : j = k := by omega
              rw [this, HU.out]
              intro e
              injection e with e
              exact HE.out e
          case measure => simp [intOf]; omega
      · have hke : k = T.length := by omega
        subst hke
        have hm : t ∉ T := fun h => by
          obtain ⟨j, hj⟩ := List.mem_iff_getElem?.1 h
          exact HNO.out j (List.getElem?_eq_some_iff.1 hj).1 hj
        have hx := HX.out
        rw [if_neg hm] at hx
        have HXX := Lib.hid hx
        have f2 : decide ((T.length : Int) < (T.length : Int)) = false := decide_eq_false (by omega)
        clear hm hx HX
        obtain ⟨W1, hW1⟩ : ∃ W1, y.w = W1 := ⟨_, rfl⟩
        have hb1 := y.below
        rw [hW1] at hb1 ⊢
        have HB1 := Lib.hid hb1
        have hs1 := hb1.size
        clear hb1 hW1 y
        go_wp2
        go_loopw [10] (fun iv wr => ∃ x : Nat, iv = .int .i64 (x : Int) ∧ x ≤ fx ∧ ∃ y : Bel W1, wr = y.w) (fun iv _ => 6 - (intOf iv).toNat)
        case atStart => exact ⟨0, rfl, Nat.zero_le _, ⟨W1, Below.refl _ _⟩, rfl⟩
        case round =>
          obtain ⟨x, rfl, hxf, y, rfl⟩ := hrel
          have HDE := Lib.hid (HDP.out x (by omega))
          rcases Nat.lt_or_ge x fx with hxl | hxl
          · have hdf : dep6 t x = false := (first6_spec t 6 0).2.2.2 x (Nat.zero_le _) (by rw [HFX.out]; exact hxl)
            rw [hdf] at HDE
            clear hdf
            go_wp2_with (go_at_call 101; refine (HDE.out _).mono ?_; rintro _ _ ⟨rfl, y1, rfl⟩; dsimp only)
            go_roundw
            case rel => exact ⟨x + 1, by go_num, by omega, ⟨y1.w, by (repeat' (first | (with_reducible first | apply Zl1 | apply Zl2 | apply Zl3 | apply Zl4 | apply Zl5 | apply Zl6 | apply Zl7 | apply Zl8 | apply Zl9 | apply Zla | apply Zlb | apply Zlc) | (dsimp only; with_reducible first | apply Zl8 | apply Zl2 | apply Zld) | with_reducible assumption | omega | (dsimp only; omega)))⟩, rfl⟩
            case measure => simp [intOf]; omega
          · have hxe : x = fx := by omega
            subst hxe
            rw [HDX.out] at HDE
            go_wp2_with (go_at_call 101; refine (HDE.out _).mono ?_; rintro _ _ ⟨rfl, y1, rfl⟩; dsimp only)
            have hxx := HXX.out
            have ok0 := growT_ok f M T (cof t x false) HGT.out (cof_lt t x false) (by have := HRK.out false; omega)
            have hp0 : 2 ^ (6 - first6 (cof t x false) 6 0) ≤ 2 ^ (5 - x) := Nat.pow_le_pow_right (by decide) (by have := HRK.out false; omega)
            have hp1 : 2 ^ (6 - first6 (cof t x true) 6 0) ≤ 2 ^ (5 - x) := Nat.pow_le_pow_right (by decide) (by have := HRK.out true; omega)
            have hp2 : 2 ^ (6 - x) = 2 * 2 ^ (5 - x) := by rw [show 6 - x = 5 - x + 1 by omega, Nat.pow_succ]; omega
            have HI0 := Lib.hid (HI.out M T (cof t x false) HGT.out (cof_lt t x false) (by have := HRK.out false; omega) (by omega))
            obtain ⟨G1, hG1⟩ : ∃ G1, growT f M T (cof t x false) = G1 := ⟨_, rfl⟩
            rw [hG1] at hxx ok0 HI0
            obtain ⟨M1, T1, r1⟩ := G1
            dsimp only at hxx ok0 HI0
            have ok1 := growT_ok f M1 T1 (cof t x true) ok0.1 (cof_lt t x true) (by have := HRK.out true; omega)
            have HI1 := Lib.hid (HI.out M1 T1 (cof t x true) ok0.1 (cof_lt t x true) (by have := HRK.out true; omega) (by omega))
            obtain ⟨G2, hG2⟩ : ∃ G2, growT f M1 T1 (cof t x true) = G2 := ⟨_, rfl⟩
            rw [hG2] at hxx ok1 HI1
            obtain ⟨M2, T2, r2⟩ := G2
            dsimp only at hxx ok1 HI1
            have hM2 : M2.length ≤ 1000 := by omega
            have HT2 := Lib.hid (show T2.length = M2.length from ok1.1.len)
            have hTl2 : T2.length ≤ 1000 := by have := ok1.1.len; omega
            have HXX2 := Lib.hid hxx
            have HC0 := Lib.hid (fun w' => refCof_any t x false ht hx6 w')
            have HC1 := Lib.hid (fun w' => refCof_any t x true ht hx6 w')
            obtain ⟨t0, ht0⟩ : ∃ t0, cof t x false = t0 := ⟨_, rfl⟩
            obtain ⟨t1, ht1⟩ : ∃ t1, cof t x true = t1 := ⟨_, rfl⟩
            rw [ht0] at HC0 HI0
            rw [ht1] at HC1 HI1
            clear hxx ok0 ok1 hp0 hp1 hp2 hG1 hG2 ht0 ht1
            refine (HC0.out _).mono ?_
            rintro _ _ ⟨rfl, y2, rfl⟩
            dsimp only
            go_wp2_with fail
            have hb2 : Below w.heap.size w y2.w := HB1.out.trans ((show Below W1.heap.size W1 y2.w from by (repeat' (first | (with_reducible first | apply Zl1 | apply Zl2 | apply Zl3 | apply Zl4 | apply Zl5 | apply Zl6 | apply Zl7 | apply Zl8 | apply Zl9 | apply Zla | apply Zlb | apply Zlc) | (dsimp only; with_reducible first | apply Zl8 | apply Zl2 | apply Zld) | with_reducible assumption | omega | (dsimp only; omega)))).mono hs1)
            with_reducible refine (HI0.out (.slice a1 M.length c1) (.slice a2 T.length c2) y2.w (ownD_below HD.out.1 hb2) (ownU_bel HD.out.2.1 hb2) HD.out.2.2 (by have := hb2.size; omega)).mono ?_
            rintro _ W3 ⟨v3, u3', rfl, ho3, hu3, hd3, hb3, hz3⟩
            have HO3 := Lib.hid (And.intro ho3 (And.intro hu3 hd3))
            have HB3 := Lib.hid ((hb2.mono hbw).trans hb3)
            have hs3 := hb2.size
            clear ho3 hu3 hd3 hb3 hb2
            dsimp only
            go_wp2_with fail
            refine (HC1.out _).mono ?_
            rintro _ _ ⟨rfl, y4, rfl⟩
            dsimp only
            go_wp2_with fail
            have hs4 := y4.below.size
            with_reducible refine (HI1.out v3 u3' y4.w (ownD_below HO3.out.1 y4.below) (ownU_bel HO3.out.2.1 y4.below) HO3.out.2.2 (by omega)).mono ?_
            rintro _ W5 ⟨v5, u5', rfl, ho5, hu5, hd5, hb5, hz5⟩
            obtain ⟨a5, c5, rfl, -⟩ := ownD_val ho5
            have HO5 := Lib.hid (And.intro ho5 (And.intro hu5 hd5))
            have HB5 := Lib.hid (HB3.out.trans ((y4.below.mono (show base ≤ W3.heap.size by omega)).trans hb5))
            clear ho5 hu5 hd5 hb5
            dsimp only
            have hbW5 : base ≤ W5.heap.size := by omega
            have HNE := Lib.hid (show u5'.ownBlock = none ∨ u5'.ownBlock ≠ (Value.slice a5 M2.length c5).ownBlock from by
              cases h : u5'.ownBlock with
              | none => exact .inl rfl
              | some g => exact .inr (fun e => HO5.out.2.2 g e.symm h))
            go_wp2_with (first | (at_builtin; refine wpList_appD rfl _ _ 97 101 rfl i1 Tryz.underlying97 hi1 hy0 hy1 hy2 _ base (.slice a5 M2.length c5) M2 x r1 r2 W5.heap.size rfl (World.ownsRow.alloc HO5.out.1 _) rfl (World.alloc_heap_new _ _) (by omega) (by simp; omega) ?_; intro g6 c6 w6 hown6 hgrow6 hgv6; have HU6 := Lib.hid (World.ownsRow.kept (World.ownsRow.alloc HO5.out.2.1 _) hgrow6 HNE.out); have HW6 := Lib.hid hown6; have HG6 := Lib.hid hgrow6; have HV6 := Lib.hid hgv6; have hs6 := hgrow6.size; simp only [World.size_alloc] at hs6; clear hown6 hgrow6 hgv6) | (at_builtin; refine wpList_append_own_at _ rfl _ _ 40 rfl base 42 i0 (.int .u64 0) 1 8 Tryz.underlying40 hi0 hz0 hz1 hz2 rfl (by decide) _ T2.length (tabsV T2) rfl (World.ownsRow.alloc (HU6.out) _) ⟨w6.heap.size, 0, none⟩ 1 1 [.int .u64 (t : Int)] rfl rfl (cell_one_new _ _ _) (by simp [Value.oneCell']) (by unfold maxLen; omega) (by omega) (by simp; omega) ?_; intro v7 w7 hown7 hgrow7 hnil7 hgv7; clear hnil7; have HW7 := Lib.hid hown7; have HG7 := Lib.hid hgrow7; have HV7 := Lib.hid hgv7; clear hown7 hgrow7 hgv7))
            have hul := fun g (e : u5'.ownBlock = some g) => World.ownsRow.lt HO5.out.2.1 g e
            have hvl := fun g (e : (Value.slice a5 M2.length c5).ownBlock = some g) => World.ownsRow.lt HO5.out.1 g e
            have hg6 := (World.ownsRow.lt HW6.out g6 rfl).2
            have hx2 := HXX2.out
            have hB6 : Below base w w6 := (HB5.out.alloc hbW5 _).grown HG6.out (by simp; omega) (fun g hg => (hvl g hg).1)
            have hB7 : Below base w w7 := (hB6.alloc (by omega) _).grown HG7.out (by simp; omega) (fun g hg => (hul g hg).1)
            have hs7 := HG7.out.size
            simp only [World.size_alloc] at hs7
            have hv6 := HV6.out
            rw [World.size_alloc] at hv6
            rw [← hx2]
            refine bodyPost_ret (v := .tuple #[.slice (some ⟨g6, 0, none⟩) (M2.length + 1) c6, v7, .int .i64 ((M2.length + 2 : Nat) : Int)]) (by simp [results, Tryz.results76, go_sem]) rfl ⟨_, _, rfl, ?_, ?_, ?_, hB7, by omega⟩
            · refine World.ownsRow.kept (World.ownsRow.alloc HW6.out _) HG7.out (.inr fun e => ?_)
              rcases hv6 with h | h
              · exact HO5.out.2.2 g6 h e.symm
              · have := (hul g6 e.symm).2
                omega
            · show w7.ownsRow base 42 1 v7 (T2 ++ [t]).length (tabsV (T2 ++ [t]))
              rw [List.length_append, show tabsV (T2 ++ [t]) = tabsV T2 ++ [.int .u64 (t : Int)] from by unfold tabsV; rw [List.map_append]; rfl]
              exact HW7.out
            · intro g hg hv
              have hgg : g = g6 := by injection hg with hg; exact hg.symm
              subst hgg
              rcases HV7.out with h | h
              · rw [h] at hv
                rcases hv6 with h2 | h2
                · exact HO5.out.2.2 g h2 hv
                · have := (hul g hv).2
                  omega
              · rw [h] at hv
                injection hv with hv
                rw [World.size_alloc] at hv
                omega
end Go.Proofs.YtlnedapimmabdaaGreatDoor

namespace Go.Proofs.YtlnedapimmabdaaGreatDoor
set_option linter.unusedVariables false
set_option linter.unusedSimpArgs false
open Go.RowKit Go.Maps
attribute [local go_sem low] Bel.cell Bel.frozen alloc_cell alloc_frozen

theorem heap_nx (w : World) (o1 o2 : Obj) : ((w.alloc o1).alloc o2).heap[w.heap.size + 1]? = some o2 := by
  have := World.alloc_heap_new (w.alloc o1) o2
  rwa [World.size_alloc] at this
def RetBd (t : Nat) (w : World) (e : Ending) (w' : World) : Prop :=
  ∃ ad c, e = .returned (.agg #[.slice ad (bldN t).length c, .int .i64 (bldR t : Int)]) ∧ InD w'.heap.size w' ad ((bldN t).map z3) ∧ Below w.heap.size w w'
set_option maxRecDepth 100000 in
set_option maxHeartbeats 6400000 in
theorem refBuild_any (t : Nat) (ht : t < 2 ^ 64) (w : World) : Calls Tryz.prog 53 #[.int .u64 (t : Int)] w (RetBd t w) := by
  have hp : 2 ^ (6 - first6 t 6 0) ≤ 2 ^ 6 := Nat.pow_le_pow_right (by decide) (by omega)
  have HG := Lib.hid (fun w' base hb => grow_any base 7 [] [] t gt_nil ht (by omega) (by simp; omega) (.slice none 0 0) (.slice none 0 0) w' (ownD_nil _ _ _) (World.ownsRow_nil _ _ _ _) (fun g e => by cases e) hb)
  clear hp
  unfold RetBd bldN bldR
  obtain ⟨X, hX⟩ : ∃ X, growT 7 [] [] t = X := ⟨_, rfl⟩
  rw [hX] at HG ⊢
  obtain ⟨M, T, r⟩ := X
  dsimp only at HG ⊢
  go_enter Tryz.func53, Tryz.ntmps53
  go_wp2_with fail
  have o1 := heap_nx w (.cells #[.slice none 0 0, .int .i64 0] 99) (.cells #[.slice none 0 0, .int .i64 0] 99)
  have o0 := obj_alloc (.cells #[.slice none 0 0, .int .i64 0] 99) (World.alloc_heap_new w (.cells #[.slice none 0 0, .int .i64 0] 99))
  refine (HG.out _ (w.heap.size + 1 + 1) (by simp)).mono ?_
  rintro _ W3 ⟨v3, u3', rfl, ho3, -, -, hb3, hz3⟩
  have p1 := (hb3.block (w.heap.size + 1) (by omega)).trans o1
  have p0 := (hb3.block w.heap.size (by omega)).trans o0
  obtain ⟨a3, c3, rfl, hc3⟩ := ownD_val ho3
  obtain ⟨q0, q1, q2, q3⟩ := cells2 p1
  obtain ⟨e0, e1, e2, e3⟩ := cells2 p0
  have HO := Lib.hid ho3
  have HP := Lib.hid (And.intro p0 p1)
  have HB := Lib.hid hb3
  simp only [World.size_alloc] at hz3
  clear ho3 hb3 hc3 p0 p1 o0 o1
  dsimp only
  go_wp2
  have g1 := (Below.heap_setCell W3 ⟨w.heap.size + 1, 0, none⟩ (.slice a3 M.length c3) w.heap.size (by dsimp only; omega)).trans HP.out.1
  have g2 := (Below.heap_setCell (W3.setCell ⟨w.heap.size + 1, 0, none⟩ (.slice a3 M.length c3)) ⟨w.heap.size + 1, 1, none⟩ (.int .i64 (r : Int)) w.heap.size (by dsimp only; omega)).trans g1
  have g3 := heap_setCell_same _ w.heap.size 0 _ _ (.slice a3 M.length c3) g2
  have g4 := heap_setCell_same _ w.heap.size 1 _ _ (.int .i64 (r : Int)) g3
  obtain ⟨s0, s1, -⟩ := cells2 (x := .slice a3 M.length c3) (y := .int .i64 (r : Int)) g4
  have hfr := ownD_fresh HO.out
  obtain ⟨a, c, hv, hin⟩ := ownD_in HO.out
  injection hv with hv1 _ _
  subst hv1
  refine bodyPost_ret (v := .agg #[.slice a3 M.length c3, .int .i64 (r : Int)]) (by simp [results, Tryz.results53, go_sem, s0, s1]) rfl ⟨a3, c3, rfl, ?_, ?_⟩
  · have k1 := InD.set (i := 0) (x := .slice a3 M.length c3) hin hfr (show w.heap.size + 1 < w.heap.size + 1 + 1 by omega)
    have k2 := InD.set (i := 1) (x := .int .i64 (r : Int)) k1 hfr (show w.heap.size + 1 < w.heap.size + 1 + 1 by omega)
    have k3 := InD.set (i := 0) (x := .slice a3 M.length c3) k2 hfr (show w.heap.size < w.heap.size + 1 + 1 by omega)
    have k4 := InD.set (i := 1) (x := .int .i64 (r : Int)) k3 hfr (show w.heap.size < w.heap.size + 1 + 1 by omega)
    exact k4.lay
  · have hb := Below.trans (show Below w.heap.size w _ from by (repeat' (first | (with_reducible first | apply Zl1 | apply Zl2 | apply Zl3 | apply Zl4 | apply Zl5 | apply Zl6 | apply Zl7 | apply Zl8 | apply Zl9 | apply Zla | apply Zlb | apply Zlc) | (dsimp only; with_reducible first | apply Zl8 | apply Zl2 | apply Zld) | with_reducible assumption | omega | (dsimp only; omega)))) (HB.out.mono (show w.heap.size ≤ w.heap.size + 1 + 1 by omega))
    exact (((hb.setCell (p := ⟨w.heap.size + 1, 0, none⟩) (by dsimp only; omega) _).setCell (p := ⟨w.heap.size + 1, 1, none⟩) (by dsimp only; omega) _).setCell (p := ⟨w.heap.size, 0, none⟩) (Nat.le_refl _) _).setCell (p := ⟨w.heap.size, 1, none⟩) (Nat.le_refl _) _
end Go.Proofs.YtlnedapimmabdaaGreatDoor

namespace Go.Proofs.YtlnedapimmabdaaGreatDoor
set_option linter.unusedVariables false
set_option linter.unusedSimpArgs false
open Go.RowKit Go.Maps
attribute [local go_sem low] Bel.cell Bel.frozen alloc_cell alloc_frozen
attribute [local go_sem] calmOp chainOp yieldsC grows

theorem Tryz.infoDN : (Tryz.prog.info? 96).map (fun i => (i.zero, i.size, i.bytes)) = some (some (.agg #[.int .i64 0, .int .i64 0, .int .i64 0]), 3, 24) := by kernel_rfl
set_option maxRecDepth 100000 in
set_option maxHeartbeats 12800000 in
theorem lawMake_any (t : Nat) (ht : t < 2 ^ 64) (w : World) : Calls Tryz.prog 27 #[.int .u64 (t : Int)] w (RetBd t w) := by
  obtain ⟨i1, hi1, hy0, hy1, hy2⟩ := info_parts Tryz.infoDN
  have HG := Lib.hid (fun w' => refBuild_any t ht w')
  have hlen := (bld_ok ht).2.2.1
  unfold RetBd at HG ⊢
  obtain ⟨M, hM⟩ : ∃ M, bldN t = M := ⟨_, rfl⟩
  obtain ⟨r, hr⟩ : ∃ r, bldR t = r := ⟨_, rfl⟩
  rw [hM, hr] at HG ⊢
  rw [hM] at hlen
  clear hM hr
  go_enter Tryz.func27, Tryz.ntmps27
  go_wp2_with fail
  refine (HG.out _).mono ?_
  rintro _ W2 ⟨a2, c2, rfl, hi2, hb2⟩
  have o0 := obj_in hb2 (World.alloc_heap_new w (.cells #[.slice none 0 0, .int .i64 0] 63))
  have hw2 : Below w.heap.size w W2 := Below.trans (by (repeat' (first | (with_reducible first | apply Zl1 | apply Zl2 | apply Zl3 | apply Zl4 | apply Zl5 | apply Zl6 | apply Zl7 | apply Zl8 | apply Zl9 | apply Zla | apply Zlb | apply Zlc) | (dsimp only; with_reducible first | apply Zl8 | apply Zl2 | apply Zld) | with_reducible assumption | omega | (dsimp only; omega)))) (hb2.mono (by simp))
  have hs2 := hb2.size
  simp only [World.size_alloc] at hs2
  have HI := Lib.hid hi2
  have HO0 := Lib.hid o0
  have HW2 := Lib.hid hw2
  clear hi2 hb2 o0 hw2
  dsimp only
  go_wp2_with fail
  obtain ⟨Z, hZ⟩ : ∃ Z, (W2.alloc (.cells #[.slice a2 M.length c2, .int .i64 (r : Int)] 99)).alloc (.cells #[.slice none 0 0, .int .i64 (r : Int)] 63) = Z := ⟨_, rfl⟩
  have p4 := heap_nx W2 (.cells #[.slice a2 M.length c2, .int .i64 (r : Int)] 99) (.cells #[.slice none 0 0, .int .i64 (r : Int)] 63)
  have p3 := obj_alloc (.cells #[.slice none 0 0, .int .i64 (r : Int)] 63) (World.alloc_heap_new W2 (.cells #[.slice a2 M.length c2, .int .i64 (r : Int)] 99))
  have hbZ : Below W2.heap.size W2 Z := by rw [← hZ]; (repeat' (first | (with_reducible first | apply Zl1 | apply Zl2 | apply Zl3 | apply Zl4 | apply Zl5 | apply Zl6 | apply Zl7 | apply Zl8 | apply Zl9 | apply Zla | apply Zlb | apply Zlc) | (dsimp only; with_reducible first | apply Zl8 | apply Zl2 | apply Zld) | with_reducible assumption | omega | (dsimp only; omega)))
  have hsZ : Z.heap.size = W2.heap.size + 1 + 1 := by rw [← hZ, World.size_alloc, World.size_alloc]
  rw [hZ] at p3 p4
  rw [hZ]
  have HP := Lib.hid (And.intro p3 p4)
  have HBZ := Lib.hid hbZ
  clear p3 p4 hbZ hZ
  go_loopw [5] (fun iv wr => ∃ (k : Nat) (v : Value), iv = .int .i64 (k : Int) ∧ k ≤ M.length ∧ wr.heap[W2.heap.size]? = some (.cells #[.slice a2 M.length c2, .int .i64 (r : Int)] 99 (0, 0)) ∧ wr.heap[W2.heap.size + 1]? = some (.cells #[v, .int .i64 (r : Int)] 63 (0, 0)) ∧ OwnD wr (W2.heap.size + 1 + 1) 96 v (M.take k) ∧ Below W2.heap.size W2 wr ∧ W2.heap.size + 1 + 1 ≤ wr.heap.size) (fun iv _ => M.length - (intOf iv).toNat)
  case atStart => exact ⟨0, _, rfl, Nat.zero_le _, HP.out.1, HP.out.2, ownD_nil _ _ _, HBZ.out, by omega⟩
  case round =>
    obtain ⟨k, v, rfl, hk, hp3, hp4, how, hbe, hsz⟩ := hrel
    obtain ⟨q0, q1, q2, q3⟩ := cells2 hp3
    obtain ⟨e0, e1, e2, e3⟩ := cells2 hp4
    have HOW := Lib.hid how
    have HBE := Lib.hid hbe
    have HP3 := Lib.hid hp3
    have HP4 := Lib.hid hp4
    obtain ⟨av, cv, rfl, -⟩ := ownD_val how
    have hlk : (M.take k).length = k := by rw [List.length_take]; omega
    rw [hlk] at HOW HP4 e0
    clear how hbe hp3 hp4
    rcases Nat.lt_or_ge k M.length with hkl | hkl
    · obtain ⟨x, hx⟩ : ∃ x, M[k]? = some x := ⟨_, List.getElem?_eq_getElem hkl⟩
      obtain ⟨g, off, hadd, hg, hcs⟩ := (HI.out.of HBE.out) (by rw [List.length_map]; omega)
      subst hadd
      obtain ⟨x0, x1, x2⟩ := hcs k (z3 x) (by rw [List.getElem?_map, hx]; rfl)
      dsimp only [z3] at x0 x1 x2
      have f0 : decide ((k : Int) < (M.length : Int)) = true := decide_eq_true (by omega)
      have hib : (0 ≤ (k : Int) ∧ (k : Int) < (M.length : Int)) := ⟨by omega, by omega⟩
      have HX := Lib.hid hx
      obtain ⟨xa, xn, xy⟩ := x
      dsimp only at x0 x1 x2
      clear hcs hx
      go_wp2_with fail
      refine wp_region_plan 22 (.calm 0 (.calm 1 (.calm 2 (.calm 3 (.calm 4 (.calm 5 (.calm 6 (.calm 7 (.calm 8 (.calm 9 (.calm 10 (.calm 11 (.calm 12 (.calm 13 (.calm 14 (.calm 15 (.calm 16 (.calm 17 (.calm 18 (.calm 19 (.calm 20 (.fork 21 .tail .none)))))))))))))))))))))) (by kernel_rfl) (by kernel_rfl) ?_
      simp only [Plan.walk, operAt, List.getElem?_cons_succ, List.getElem?_cons_zero, Option.getD_some, List.drop_succ_cons, List.drop_zero]
      repeat (refine wpX_calm (fun K hK => ?_); go_simp; first | (refine hK _ _ ?_; clear hK K) | (apply Exists.intro; refine ⟨fun _ => ?_, hK _ _ ?_⟩; (fail); clear hK K))
      refine wpX_only (fun K hK => ?_)
      go_simp
      intro x
      refine ⟨(Below.refl _ _).alloc (Nat.le_refl _) _, hK _ _ ?_⟩
      clear hK K
      have ox := World.alloc_heap_new x.w (.cells #[.int .i64 (xa : Int), .int .i64 (xn : Int), .int .i64 (xy : Int)] 96)
      refine wpX_tail ?_
      intro z
      have oz := obj_bel z ox
      have hbz : Below wr.heap.size wr z.w := by (repeat' (first | (with_reducible first | apply Zl1 | apply Zl2 | apply Zl3 | apply Zl4 | apply Zl5 | apply Zl6 | apply Zl7 | apply Zl8 | apply Zl9 | apply Zla | apply Zlb | apply Zlc) | (dsimp only; with_reducible first | apply Zl8 | apply Zl2 | apply Zld) | with_reducible assumption | omega | (dsimp only; omega)))
      have hsz2 := hbz.size
      have HOX := Lib.hid oz
      have HOZ := Lib.hid (ownD_below HOW.out hbz)
      have HP3Z := Lib.hid (obj_in hbz HP3.out)
      have HP4Z := Lib.hid (obj_in hbz HP4.out)
      have HBZ2 := Lib.hid hbz
      have HVL := Lib.hid (fun b (e : (Value.slice av k cv).ownBlock = some b) => ownD_lt HOW.out e)
      clear ox oz hbz
      go_wp2_with (at_builtin; refine wpList_appD rfl _ _ 61 96 rfl i1 Tryz.underlying61 hi1 hy0 hy1 hy2 _ (W2.heap.size + 1 + 1) (.slice av k cv) (M.take k) xa xn xy x.w.heap.size rfl HOZ.out rfl HOX.out (by omega) (by omega) ?_; intro g6 c6 w6 hown6 hgrow6 hgv6; clear hgv6; rw [hlk] at hown6 ⊢; have hc4 := (hgrow6.block (W2.heap.size + 1) (Array.getElem?_eq_some_iff.1 HP4Z.out).1 (fun e => by have := (HVL.out _ e.symm).1; omega)).trans HP4Z.out; obtain ⟨d0, d1, d2, d3⟩ := cells2 hc4; have HC4 := Lib.hid hc4; have HW6 := Lib.hid hown6; have HG6 := Lib.hid hgrow6; clear hc4 hown6 hgrow6)
      have hc3 := (HG6.out.block W2.heap.size (Array.getElem?_eq_some_iff.1 HP3Z.out).1 (fun e => by have := (HVL.out _ e.symm).1; omega)).trans HP3Z.out
      have hs6 := HG6.out.size
      have hg6 := (World.ownsRow.lt HW6.out g6 rfl).1
      have hbF : Below W2.heap.size W2 w6 := (HBE.out.trans (HBZ2.out.mono (by omega))).grown HG6.out (by omega) (fun g hg => by have := (HVL.out g hg).1; omega)
      go_roundw
      case rel =>
        refine ⟨k + 1, .slice (some ⟨g6, 0, none⟩) (k + 1) c6, by go_num, by omega, (Below.heap_setCell _ _ _ _ (by dsimp only; omega)).trans hc3, heap_setCell_same _ (W2.heap.size + 1) 0 _ _ _ HC4.out, ?_, hbF.setCell (p := ⟨W2.heap.size + 1, 0, none⟩) (by dsimp only; omega) _, ?_⟩
        · rw [List.take_add_one, HX.out]
          exact World.ownsRow.kept HW6.out (Lib.grownBy_setCell w6 (W2.heap.size + 1) 0 _) (.inr fun e => by have h : g6 = W2.heap.size + 1 := Option.some.inj e; omega)
        · exact Nat.le_trans (by omega) (Lib.grownBy_setCell w6 (W2.heap.size + 1) 0 _).size
      case measure => simp [intOf]; omega
    · have hke : k = M.length := by omega
      subst hke
      rw [List.take_length] at HOW
      have f0 : decide ((M.length : Int) < (M.length : Int)) = false := decide_eq_false (by omega)
      have hp0 := obj_in HBE.out HO0.out
      obtain ⟨d0, d1, d2, d3⟩ := cells2 hp0
      have HP0 := Lib.hid hp0
      clear hp0
      go_wp2
      have g3 := heap_setCell_same wr w.heap.size 0 _ _ (.slice av M.length cv) HP0.out
      have g4 := heap_setCell_same _ w.heap.size 1 _ _ (.int .i64 (r : Int)) g3
      obtain ⟨s0, s1, -⟩ := cells2 (x := .slice av M.length cv) (y := .int .i64 (r : Int)) g4
      have hfr := ownD_fresh HOW.out
      obtain ⟨a, c, hv, hin⟩ := ownD_in HOW.out
      injection hv with hv1 _ _
      subst hv1
      refine bodyPost_ret (v := .agg #[.slice av M.length cv, .int .i64 (r : Int)]) (by simp [results, Tryz.results27, go_sem, s0, s1]) rfl ⟨av, cv, rfl, ?_, ?_⟩
      · have k3 := InD.set (i := 0) (x := .slice av M.length cv) hin hfr (show w.heap.size < W2.heap.size + 1 + 1 by omega)
        have k4 := InD.set (i := 1) (x := .int .i64 (r : Int)) k3 hfr (show w.heap.size < W2.heap.size + 1 + 1 by omega)
        exact k4.lay
      · have hb := HW2.out.trans (HBE.out.mono (show w.heap.size ≤ W2.heap.size by omega))
        exact (hb.setCell (p := ⟨w.heap.size, 0, none⟩) (Nat.le_refl _) _).setCell (p := ⟨w.heap.size, 1, none⟩) (Nat.le_refl _) _
end Go.Proofs.YtlnedapimmabdaaGreatDoor
