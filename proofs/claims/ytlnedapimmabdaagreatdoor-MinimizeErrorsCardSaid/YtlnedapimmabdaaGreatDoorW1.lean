/- slices.ContainsFunc at ints; the errors of a gate and of a network. relay.gate. relay.Check. relay.Equal. relay.Equal. -/
import Derived.Test.YtlnedapimmabdaaGreatDoorGm
import Derived.Test.YtlnedapimmabdaaGreatDoorG5
namespace Go.Proofs.YtlnedapimmabdaaGreatDoor
set_option linter.unusedVariables false
set_option linter.unusedSimpArgs false
open Go.RowKit
attribute [local go_sem low] Bel.cell Bel.frozen alloc_cell alloc_frozen

def TestI (g : Nat) (lb : Array Value) (p : Int → Bool) (l : List Int) (w : World) : Prop :=
  ∀ x ∈ l, ∀ W, Below w.heap.size w W → Calls Tryz.prog g (#[.int .i64 x] ++ lb) W (Ret (.bool (p x)) W)
def IdxRet (p : Int → Bool) (l : List Int) (w : World) (e : Ending) (w' : World) : Prop := ∃ i : Int, e = .returned (.int .i64 i) ∧ (0 ≤ i ↔ l.any p = true) ∧ ∃ y : Bel w, w' = y.w
set_option maxRecDepth 100000 in
set_option maxHeartbeats 6400000 in
theorem indexI_any (g : Nat) (lb : Array Value) (eg : ∀ args w, (callFunc g args).run Tryz.prog w = .ok (.enter g args) w) (p : Int → Bool) (l : List Int) (P : Nat → Prop) (ad : Option Addr) (cap : Nat) (w : World)
    (hi : InS P w ad l) (hl : l.length ≤ 9223372036854775807) (ht : TestI g lb p l w) : Calls Tryz.prog 75 #[.slice ad l.length cap, .func (.func g) #[] lb] w (IdxRet p l w) := by
  have HI := Lib.hid hi
  have HT := Lib.hid ht
  clear hi ht
  go_enter Tryz.func75, Tryz.ntmps75
  go_wp2
  go_loopw [8] (fun i wr => ∃ k : Nat, i = .int .i64 (k : Int) ∧ k ≤ l.length ∧ Below w.heap.size w wr ∧ (l.take k).any p = false) (fun i _ => l.length - (intOf i).toNat)
  case atStart => exact ⟨0, rfl, Nat.zero_le _, Below.refl _ w, rfl⟩
  case round =>
    obtain ⟨k, rfl, hk, hb, hA⟩ := hrel
    have HA := Lib.hid hA
    clear hA
    rcases Nat.lt_or_ge k l.length with hkl | hkl
    · obtain ⟨u, hu⟩ := some_at hkl
      obtain ⟨bb, off, hadd, hp, hcs⟩ := (HI.out.of hb).at hu
      cases hadd
      have f0 : decide ((k : Int) < (l.length : Int)) = true := decide_eq_true (by omega)
      have hib : (0 ≤ (k : Int) ∧ (k : Int) < (l.length : Int)) := ⟨by omega, by omega⟩
      have hcall := HT.out u (List.mem_of_getElem? hu) wr hb
      have HU := Lib.hid hu
      clear hu
      cases hq : p u with
      | true =>
        rw [hq] at hcall
        have HQ := Lib.hid hq
        clear hq
        go_wp2_with (go_at_fn g; refine hcall.mono ?_; rintro _ _ ⟨rfl, y, rfl⟩)
        go_ret
        refine ⟨_, rfl, ⟨fun _ => ?_, fun _ => by omega⟩, ⟨y.w, hb.trans (y.below.mono hb.size)⟩, rfl⟩
        rw [List.any_eq_true]
        exact ⟨u, List.mem_of_getElem? HU.out, HQ.out⟩
      | false =>
        rw [hq] at hcall
        have HQ := Lib.hid hq
        clear hq
        go_wp2_with (go_at_fn g; refine hcall.mono ?_; rintro _ _ ⟨rfl, y, rfl⟩)
        go_roundw
        case measure => simp [intOf]; omega
        case rel =>
          refine ⟨k + 1, by go_num, by omega, hb.trans (y.below.mono hb.size), ?_⟩
          rw [List.take_add_one, HU.out, List.any_append, HA.out]
          simp [HQ.out]
    · have hke : k = l.length := by omega
      subst hke
      have f0 : decide ((l.length : Int) < (l.length : Int)) = false := decide_eq_false (by omega)
      go_wp2
      go_ret
      have h := HA.out
      rw [List.take_length] at h
      exact ⟨_, rfl, ⟨fun h0 => by omega, fun h0 => by rw [h] at h0; cases h0⟩, ⟨_, hb⟩, rfl⟩
set_option maxRecDepth 100000 in
theorem containsI_any (g : Nat) (lb : Array Value) (eg : ∀ args w, (callFunc g args).run Tryz.prog w = .ok (.enter g args) w) (p : Int → Bool) (l : List Int) (P : Nat → Prop) (ad : Option Addr) (cap : Nat) (w : World)
    (hi : InS P w ad l) (hl : l.length ≤ 9223372036854775807) (ht : TestI g lb p l w) : Calls Tryz.prog 49 #[.slice ad l.length cap, .func (.func g) #[] lb] w (Ret (.bool (l.any p)) w) := by
  have HX := Lib.hid (indexI_any g lb eg p l P ad cap w hi hl ht)
  clear hi ht
  go_enter Tryz.func49, Tryz.ntmps49
  go_wp2_with fail
  refine HX.out.mono ?_
  rintro _ _ ⟨i, rfl, hi, y, rfl⟩
  have f0 : decide (0 ≤ i) = l.any p := by
    cases h : l.any p
    · exact decide_eq_false fun h0 => by rw [h] at hi; exact absurd (hi.1 h0) (by decide)
    · exact decide_eq_true (hi.2 h)
  clear hi
  dsimp only
  go_wp2
  go_ret
  exact Ret.mk (by (rw [← f0]; rfl)) (by (repeat' (first | (with_reducible first | apply Zl1 | apply Zl2 | apply Zl3 | apply Zl4 | apply Zl5 | apply Zl6 | apply Zl7 | apply Zl8 | apply Zl9 | apply Zla | apply Zlb | apply Zlc) | (dsimp only; with_reducible first | apply Zl8 | apply Zl2 | apply Zld) | with_reducible assumption | omega | (dsimp only; omega))))
theorem egGate : ∀ args w, (callFunc 77 args).run Tryz.prog w = .ok (.enter 77 args) w := fun args w => by kernel_rfl
theorem egCheck : ∀ args w, (callFunc 55 args).run Tryz.prog w = .ok (.enter 55 args) w := fun args w => by kernel_rfl
set_option maxRecDepth 100000 in
theorem testGate (l : List Int) (B : Nat) (i : Int) (w : World) (hb : w.heap[B]? = some (.cells #[.int .i64 i] 3 (0, 0))) : TestI 77 #[.pointer (some ⟨B, 0, none⟩)] (fun k => decide (k < 0) || decide (i ≤ k)) l w := by
  intro x _ W hW
  have c0 := box1 (obj_below hW (Array.getElem?_eq_some_iff.1 hb).1 hb)
  clear hb
  show Calls _ _ #[.int .i64 x, .pointer (some ⟨B, 0, none⟩)] _ (Ret (.bool (decide (x < 0) || decide (i ≤ x))) W)
  by_cases h0 : x < 0
  · have f0 : decide (x < 0) = true := decide_eq_true h0
    rw [f0]
    go_enter Tryz.func77, Tryz.ntmps77
    go_wp2
    go_ret
    exact Ret.mk (by rfl) (by (repeat' (first | (with_reducible first | apply Zl1 | apply Zl2 | apply Zl3 | apply Zl4 | apply Zl5 | apply Zl6 | apply Zl7 | apply Zl8 | apply Zl9 | apply Zla | apply Zlb | apply Zlc) | (dsimp only; with_reducible first | apply Zl8 | apply Zl2 | apply Zld) | with_reducible assumption | omega | (dsimp only; omega))))
  · have f0 : decide (x < 0) = false := decide_eq_false h0
    rw [f0]
    go_enter Tryz.func77, Tryz.ntmps77
    go_wp2
    go_ret
    exact Ret.mk (by rfl) (by (repeat' (first | (with_reducible first | apply Zl1 | apply Zl2 | apply Zl3 | apply Zl4 | apply Zl5 | apply Zl6 | apply Zl7 | apply Zl8 | apply Zl9 | apply Zla | apply Zlb | apply Zlc) | (dsimp only; with_reducible first | apply Zl8 | apply Zl2 | apply Zld) | with_reducible assumption | omega | (dsimp only; omega))))
set_option maxRecDepth 100000 in
theorem testCheck (l : List Int) (B : Nat) (ga oa : Option Addr) (gn gc on oc : Nat) (w : World) (hb : w.heap[B]? = some (.cells #[.slice ga gn gc, .slice oa on oc] 25 (0, 0))) : TestI 55 #[.pointer (some ⟨B, 0, none⟩)] (fun k => decide (k < 0) || decide ((gn : Int) ≤ k)) l w := by
  intro x _ W hW
  obtain ⟨c0, c1, -⟩ := box2 (obj_below hW (Array.getElem?_eq_some_iff.1 hb).1 hb)
  clear hb
  show Calls _ _ #[.int .i64 x, .pointer (some ⟨B, 0, none⟩)] _ (Ret (.bool (decide (x < 0) || decide ((gn : Int) ≤ x))) W)
  by_cases h0 : x < 0
  · have f0 : decide (x < 0) = true := decide_eq_true h0
    rw [f0]
    go_enter Tryz.func55, Tryz.ntmps55
    go_wp2
    go_ret
    exact Ret.mk (by rfl) (by (repeat' (first | (with_reducible first | apply Zl1 | apply Zl2 | apply Zl3 | apply Zl4 | apply Zl5 | apply Zl6 | apply Zl7 | apply Zl8 | apply Zl9 | apply Zla | apply Zlb | apply Zlc) | (dsimp only; with_reducible first | apply Zl8 | apply Zl2 | apply Zld) | with_reducible assumption | omega | (dsimp only; omega))))
  · have f0 : decide (x < 0) = false := decide_eq_false h0
    rw [f0]
    go_enter Tryz.func55, Tryz.ntmps55
    go_wp2
    go_ret
    exact Ret.mk (by rfl) (by (repeat' (first | (with_reducible first | apply Zl1 | apply Zl2 | apply Zl3 | apply Zl4 | apply Zl5 | apply Zl6 | apply Zl7 | apply Zl8 | apply Zl9 | apply Zla | apply Zlb | apply Zlc) | (dsimp only; with_reducible first | apply Zl8 | apply Zl2 | apply Zld) | with_reducible assumption | omega | (dsimp only; omega))))
end Go.Proofs.YtlnedapimmabdaaGreatDoor

namespace Go.Proofs.YtlnedapimmabdaaGreatDoor
set_option linter.unusedVariables false
set_option linter.unusedSimpArgs false
open Go.RowKit
attribute [local go_sem low] Bel.cell Bel.frozen alloc_cell alloc_frozen

theorem alloc2_new (w : World) (a b : Obj) : ((w.alloc a).alloc b).heap[w.heap.size + 1]? = some b := by
  have h := World.alloc_heap_new (w.alloc a) b
  rwa [World.size_alloc] at h
def gV (x : GZ) (ad : Option Addr) (cap : Nat) : Value := .agg #[.int .i64 x.1, .int .i64 x.2.1, .slice ad x.2.2.length cap]
set_option maxRecDepth 100000 in
set_option maxHeartbeats 6400000 in
theorem gate_any (x : GZ) (i : Nat) (v : Int) (P : Nat → Prop) (ad : Option Addr) (cap : Nat) (w : World) (hi : InS P w ad x.2.2) (hl : x.2.2.length ≤ 9223372036854775807) : Calls Tryz.prog 54 #[gV x ad cap, .int .i64 (i : Int), .int .i64 v] w (Ret (.int .i64 (gErr x i v : Int)) w) := by
  obtain ⟨k, a, l⟩ := x
  unfold gV
  dsimp only at hi hl ⊢
  have HX : ∀ o : Obj, Calls Tryz.prog 49 #[.slice ad l.length cap, .func (.func 77) #[] #[.pointer (some ⟨w.heap.size + 1, 0, none⟩)]] ((w.alloc o).alloc (.cells #[.int .i64 (i : Int)] 3 (0, 0))) (Ret (.bool (l.any fun k => decide (k < 0) || decide ((i : Int) ≤ k))) ((w.alloc o).alloc (.cells #[.int .i64 (i : Int)] 3 (0, 0)))) := fun o =>
    containsI_any 77 _ egGate _ l P ad cap _ (hi.of (((Below.refl _ w).alloc (Nat.le_refl _) _).alloc (by simp) _)) hl (testGate l _ i _ (alloc2_new _ _ _))
  obtain ⟨q, hq⟩ : ∃ q, (l.any fun k => decide (k < 0) || decide ((i : Int) ≤ k)) = q := ⟨_, rfl⟩
  simp only [hq] at HX
  clear hi
  have HX := Lib.hid HX
  unfold gErr
  dsimp only
  rw [hq]
  have HQ := Lib.hid hq
  clear hq
  have L0 : decide ((l.length : Int) < 0) = false := decide_eq_false (by omega)
  have LL : decide ((l.length : Int) < (l.length : Int)) = false := decide_eq_false (by omega)
  by_cases k1 : k = 1
  · subst k1
    rcases Int.lt_or_le a 0 with ha | ha
    · have f0 : decide (a < 0) = true := decide_eq_true ha
      rw [if_pos ⟨rfl, .inl ha⟩]
      go_enter Tryz.func54, Tryz.ntmps54
      go_wp2
      all_goals
        go_ret
        exact Ret.mk (by rfl) (by (repeat' (first | (with_reducible first | apply Zl1 | apply Zl2 | apply Zl3 | apply Zl4 | apply Zl5 | apply Zl6 | apply Zl7 | apply Zl8 | apply Zl9 | apply Zla | apply Zlb | apply Zlc) | (dsimp only; with_reducible first | apply Zl8 | apply Zl2 | apply Zld) | with_reducible assumption | omega | (dsimp only; omega))))
    have f0 : decide (a < 0) = false := decide_eq_false (by omega)
    rcases Int.lt_or_le a v with hv | hv
    · have f1 : decide (v ≤ a) = false := decide_eq_false (by omega)
      rcases Nat.eq_zero_or_pos l.length with h0 | h0
      · obtain rfl := List.length_eq_zero_iff.1 h0
        have HX := HX.out
        clear LL
        simp only [List.length_nil] at HX
        have HX := Lib.hid HX
        rw [if_neg (fun h => by omega), if_neg (by omega), if_neg (fun h => by simp at h)]
        clear h0
        go_enter Tryz.func54, Tryz.ntmps54
        go_wp2_with fail
        all_goals
          refine (HX.out _).mono ?_
          rintro _ _ ⟨rfl, y, rfl⟩
          cases q
          all_goals
            go_wp2
            all_goals
              go_ret
              exact Ret.mk (by rfl) (by (repeat' (first | (with_reducible first | apply Zl1 | apply Zl2 | apply Zl3 | apply Zl4 | apply Zl5 | apply Zl6 | apply Zl7 | apply Zl8 | apply Zl9 | apply Zla | apply Zlb | apply Zlc) | (dsimp only; with_reducible first | apply Zl8 | apply Zl2 | apply Zld) | with_reducible assumption | omega | (dsimp only; omega))))
      · have f2 : decide (0 < (l.length : Int)) = true := decide_eq_true (by omega)
        rw [if_neg (fun h => by omega), if_neg (by omega), if_pos (by omega)]
        go_enter Tryz.func54, Tryz.ntmps54
        go_wp2
        all_goals
          go_ret
          exact Ret.mk (by rfl) (by (repeat' (first | (with_reducible first | apply Zl1 | apply Zl2 | apply Zl3 | apply Zl4 | apply Zl5 | apply Zl6 | apply Zl7 | apply Zl8 | apply Zl9 | apply Zla | apply Zlb | apply Zlc) | (dsimp only; with_reducible first | apply Zl8 | apply Zl2 | apply Zld) | with_reducible assumption | omega | (dsimp only; omega))))
    · have f1 : decide (v ≤ a) = true := decide_eq_true (by omega)
      rw [if_pos ⟨rfl, .inr hv⟩]
      go_enter Tryz.func54, Tryz.ntmps54
      go_wp2
      all_goals
        go_ret
        exact Ret.mk (by rfl) (by (repeat' (first | (with_reducible first | apply Zl1 | apply Zl2 | apply Zl3 | apply Zl4 | apply Zl5 | apply Zl6 | apply Zl7 | apply Zl8 | apply Zl9 | apply Zla | apply Zlb | apply Zlc) | (dsimp only; with_reducible first | apply Zl8 | apply Zl2 | apply Zld) | with_reducible assumption | omega | (dsimp only; omega))))
  by_cases k2 : k = 2
  · subst k2
    by_cases ha : a = 0
    · subst ha
      rcases Nat.eq_zero_or_pos l.length with h0 | h0
      · have f2 : decide ((l.length : Int) < 1) = true := decide_eq_true (by omega)
        rw [if_neg (fun h => by omega), if_neg (by omega), if_pos (by omega)]
        go_enter Tryz.func54, Tryz.ntmps54
        go_wp2
        all_goals
          go_ret
          exact Ret.mk (by rfl) (by (repeat' (first | (with_reducible first | apply Zl1 | apply Zl2 | apply Zl3 | apply Zl4 | apply Zl5 | apply Zl6 | apply Zl7 | apply Zl8 | apply Zl9 | apply Zla | apply Zlb | apply Zlc) | (dsimp only; with_reducible first | apply Zl8 | apply Zl2 | apply Zld) | with_reducible assumption | omega | (dsimp only; omega))))
      have f2 : decide ((l.length : Int) < 1) = false := decide_eq_false (by omega)
      by_cases h1 : l.length = 1
      · have f3 : decide (1 < (l.length : Int)) = false := decide_eq_false (by omega)
        rw [if_neg (fun h => by omega), if_neg (by omega), if_neg (fun h => by omega)]
        clear h0 h1
        go_enter Tryz.func54, Tryz.ntmps54
        go_wp2_with fail
        all_goals
          refine (HX.out _).mono ?_
          rintro _ _ ⟨rfl, y, rfl⟩
          cases q
          all_goals
            go_wp2
            all_goals
              go_ret
              exact Ret.mk (by rfl) (by (repeat' (first | (with_reducible first | apply Zl1 | apply Zl2 | apply Zl3 | apply Zl4 | apply Zl5 | apply Zl6 | apply Zl7 | apply Zl8 | apply Zl9 | apply Zla | apply Zlb | apply Zlc) | (dsimp only; with_reducible first | apply Zl8 | apply Zl2 | apply Zld) | with_reducible assumption | omega | (dsimp only; omega))))
      · have f3 : decide (1 < (l.length : Int)) = true := decide_eq_true (by omega)
        rw [if_neg (fun h => by omega), if_neg (by omega), if_pos (by omega)]
        go_enter Tryz.func54, Tryz.ntmps54
        go_wp2
        all_goals
          go_ret
          exact Ret.mk (by rfl) (by (repeat' (first | (with_reducible first | apply Zl1 | apply Zl2 | apply Zl3 | apply Zl4 | apply Zl5 | apply Zl6 | apply Zl7 | apply Zl8 | apply Zl9 | apply Zla | apply Zlb | apply Zlc) | (dsimp only; with_reducible first | apply Zl8 | apply Zl2 | apply Zld) | with_reducible assumption | omega | (dsimp only; omega))))
    · have fa : decide (a = 0) = false := decide_eq_false ha
      rw [if_neg (fun h => by omega), if_neg (by omega), if_pos (by omega)]
      go_enter Tryz.func54, Tryz.ntmps54
      go_wp2
      all_goals
        go_ret
        exact Ret.mk (by rfl) (by (repeat' (first | (with_reducible first | apply Zl1 | apply Zl2 | apply Zl3 | apply Zl4 | apply Zl5 | apply Zl6 | apply Zl7 | apply Zl8 | apply Zl9 | apply Zla | apply Zlb | apply Zlc) | (dsimp only; with_reducible first | apply Zl8 | apply Zl2 | apply Zld) | with_reducible assumption | omega | (dsimp only; omega))))
  by_cases k3 : k = 3
  · subst k3
    by_cases ha : a = 0
    · subst ha
      rw [if_neg (fun h => by omega), if_neg (by omega), if_neg (fun h => by omega)]
      go_enter Tryz.func54, Tryz.ntmps54
      go_wp2_with fail
      all_goals
        refine (HX.out _).mono ?_
        rintro _ _ ⟨rfl, y, rfl⟩
        cases q
        all_goals
          go_wp2
          all_goals
            go_ret
            exact Ret.mk (by rfl) (by (repeat' (first | (with_reducible first | apply Zl1 | apply Zl2 | apply Zl3 | apply Zl4 | apply Zl5 | apply Zl6 | apply Zl7 | apply Zl8 | apply Zl9 | apply Zla | apply Zlb | apply Zlc) | (dsimp only; with_reducible first | apply Zl8 | apply Zl2 | apply Zld) | with_reducible assumption | omega | (dsimp only; omega))))
    · have fa : decide (a = 0) = false := decide_eq_false ha
      rw [if_neg (fun h => by omega), if_neg (by omega), if_pos (by omega)]
      go_enter Tryz.func54, Tryz.ntmps54
      go_wp2
      all_goals
        go_ret
        exact Ret.mk (by rfl) (by (repeat' (first | (with_reducible first | apply Zl1 | apply Zl2 | apply Zl3 | apply Zl4 | apply Zl5 | apply Zl6 | apply Zl7 | apply Zl8 | apply Zl9 | apply Zla | apply Zlb | apply Zlc) | (dsimp only; with_reducible first | apply Zl8 | apply Zl2 | apply Zld) | with_reducible assumption | omega | (dsimp only; omega))))
  by_cases k4 : k = 4
  · subst k4
    by_cases ha : a = 0
    · subst ha
      rw [if_neg (fun h => by omega), if_neg (by omega), if_neg (fun h => by omega)]
      go_enter Tryz.func54, Tryz.ntmps54
      go_wp2_with fail
      all_goals
        refine (HX.out _).mono ?_
        rintro _ _ ⟨rfl, y, rfl⟩
        cases q
        all_goals
          go_wp2
          all_goals
            go_ret
            exact Ret.mk (by rfl) (by (repeat' (first | (with_reducible first | apply Zl1 | apply Zl2 | apply Zl3 | apply Zl4 | apply Zl5 | apply Zl6 | apply Zl7 | apply Zl8 | apply Zl9 | apply Zla | apply Zlb | apply Zlc) | (dsimp only; with_reducible first | apply Zl8 | apply Zl2 | apply Zld) | with_reducible assumption | omega | (dsimp only; omega))))
    · have fa : decide (a = 0) = false := decide_eq_false ha
      rw [if_neg (fun h => by omega), if_neg (by omega), if_pos (by omega)]
      go_enter Tryz.func54, Tryz.ntmps54
      go_wp2
      all_goals
        go_ret
        exact Ret.mk (by rfl) (by (repeat' (first | (with_reducible first | apply Zl1 | apply Zl2 | apply Zl3 | apply Zl4 | apply Zl5 | apply Zl6 | apply Zl7 | apply Zl8 | apply Zl9 | apply Zla | apply Zlb | apply Zlc) | (dsimp only; with_reducible first | apply Zl8 | apply Zl2 | apply Zld) | with_reducible assumption | omega | (dsimp only; omega))))
  by_cases k5 : k = 5
  · subst k5
    by_cases ha : a = 0
    · subst ha
      rcases Nat.eq_zero_or_pos l.length with h0 | h0
      · obtain rfl := List.length_eq_zero_iff.1 h0
        have HX := HX.out
        clear LL
        simp only [List.length_nil] at HX
        have HX := Lib.hid HX
        rw [if_neg (fun h => by omega), if_neg (by omega), if_neg (fun h => by simp at h)]
        clear h0
        go_enter Tryz.func54, Tryz.ntmps54
        go_wp2_with fail
        all_goals
          refine (HX.out _).mono ?_
          rintro _ _ ⟨rfl, y, rfl⟩
          cases q
          all_goals
            go_wp2
            all_goals
              go_ret
              exact Ret.mk (by rfl) (by (repeat' (first | (with_reducible first | apply Zl1 | apply Zl2 | apply Zl3 | apply Zl4 | apply Zl5 | apply Zl6 | apply Zl7 | apply Zl8 | apply Zl9 | apply Zla | apply Zlb | apply Zlc) | (dsimp only; with_reducible first | apply Zl8 | apply Zl2 | apply Zld) | with_reducible assumption | omega | (dsimp only; omega))))
      · have f2 : decide (0 < (l.length : Int)) = true := decide_eq_true (by omega)
        rw [if_neg (fun h => by omega), if_neg (by omega), if_pos (by omega)]
        go_enter Tryz.func54, Tryz.ntmps54
        go_wp2
        all_goals
          go_ret
          exact Ret.mk (by rfl) (by (repeat' (first | (with_reducible first | apply Zl1 | apply Zl2 | apply Zl3 | apply Zl4 | apply Zl5 | apply Zl6 | apply Zl7 | apply Zl8 | apply Zl9 | apply Zla | apply Zlb | apply Zlc) | (dsimp only; with_reducible first | apply Zl8 | apply Zl2 | apply Zld) | with_reducible assumption | omega | (dsimp only; omega))))
    · have fa : decide (a = 0) = false := decide_eq_false ha
      rw [if_neg (fun h => by omega), if_neg (by omega), if_pos (by omega)]
      go_enter Tryz.func54, Tryz.ntmps54
      go_wp2
      all_goals
        go_ret
        exact Ret.mk (by rfl) (by (repeat' (first | (with_reducible first | apply Zl1 | apply Zl2 | apply Zl3 | apply Zl4 | apply Zl5 | apply Zl6 | apply Zl7 | apply Zl8 | apply Zl9 | apply Zla | apply Zlb | apply Zlc) | (dsimp only; with_reducible first | apply Zl8 | apply Zl2 | apply Zld) | with_reducible assumption | omega | (dsimp only; omega))))
  by_cases k6 : k = 6
  · subst k6
    by_cases ha : a = 0
    · subst ha
      rcases Nat.eq_zero_or_pos l.length with h0 | h0
      · obtain rfl := List.length_eq_zero_iff.1 h0
        have HX := HX.out
        clear LL
        simp only [List.length_nil] at HX
        have HX := Lib.hid HX
        rw [if_neg (fun h => by omega), if_neg (by omega), if_neg (fun h => by simp at h)]
        clear h0
        go_enter Tryz.func54, Tryz.ntmps54
        go_wp2_with fail
        all_goals
          refine (HX.out _).mono ?_
          rintro _ _ ⟨rfl, y, rfl⟩
          cases q
          all_goals
            go_wp2
            all_goals
              go_ret
              exact Ret.mk (by rfl) (by (repeat' (first | (with_reducible first | apply Zl1 | apply Zl2 | apply Zl3 | apply Zl4 | apply Zl5 | apply Zl6 | apply Zl7 | apply Zl8 | apply Zl9 | apply Zla | apply Zlb | apply Zlc) | (dsimp only; with_reducible first | apply Zl8 | apply Zl2 | apply Zld) | with_reducible assumption | omega | (dsimp only; omega))))
      · have f2 : decide (0 < (l.length : Int)) = true := decide_eq_true (by omega)
        rw [if_neg (fun h => by omega), if_neg (by omega), if_pos (by omega)]
        go_enter Tryz.func54, Tryz.ntmps54
        go_wp2
        all_goals
          go_ret
          exact Ret.mk (by rfl) (by (repeat' (first | (with_reducible first | apply Zl1 | apply Zl2 | apply Zl3 | apply Zl4 | apply Zl5 | apply Zl6 | apply Zl7 | apply Zl8 | apply Zl9 | apply Zla | apply Zlb | apply Zlc) | (dsimp only; with_reducible first | apply Zl8 | apply Zl2 | apply Zld) | with_reducible assumption | omega | (dsimp only; omega))))
    · have fa : decide (a = 0) = false := decide_eq_false ha
      rw [if_neg (fun h => by omega), if_neg (by omega), if_pos (by omega)]
      go_enter Tryz.func54, Tryz.ntmps54
      go_wp2
      all_goals
        go_ret
        exact Ret.mk (by rfl) (by (repeat' (first | (with_reducible first | apply Zl1 | apply Zl2 | apply Zl3 | apply Zl4 | apply Zl5 | apply Zl6 | apply Zl7 | apply Zl8 | apply Zl9 | apply Zla | apply Zlb | apply Zlc) | (dsimp only; with_reducible first | apply Zl8 | apply Zl2 | apply Zld) | with_reducible assumption | omega | (dsimp only; omega))))
  have e1 : decide (k = 1) = false := decide_eq_false k1
  have e2 : decide (k = 2) = false := decide_eq_false k2
  have e3 : decide (k = 3) = false := decide_eq_false k3
  have e4 : decide (k = 4) = false := decide_eq_false k4
  have e5 : decide (k = 5) = false := decide_eq_false k5
  have e6 : decide (k = 6) = false := decide_eq_false k6
  rw [if_neg (fun h => k1 h.1), if_pos (by omega)]
  go_enter Tryz.func54, Tryz.ntmps54
  go_wp2
  all_goals
    go_ret
    exact Ret.mk (by rfl) (by (repeat' (first | (with_reducible first | apply Zl1 | apply Zl2 | apply Zl3 | apply Zl4 | apply Zl5 | apply Zl6 | apply Zl7 | apply Zl8 | apply Zl9 | apply Zla | apply Zlb | apply Zlc) | (dsimp only; with_reducible first | apply Zl8 | apply Zl2 | apply Zld) | with_reducible assumption | omega | (dsimp only; omega))))
end Go.Proofs.YtlnedapimmabdaaGreatDoor

namespace Go.Proofs.YtlnedapimmabdaaGreatDoor
set_option linter.unusedVariables false
set_option linter.unusedSimpArgs false
open Go.RowKit
attribute [local go_sem low] Bel.cell Bel.frozen alloc_cell alloc_frozen

theorem gErrs_first {v : Int} : ∀ {L : List GZ} {i k : Nat} {x : GZ}, L[k]? = some x → (∀ (j : Nat) (y : GZ), j < k → L[j]? = some y → gErr y (i + j) v = 0) → gErr x (i + k) v ≠ 0 → gErrs v L i = gErr x (i + k) v
  | [], _, _, _, h, _, _ => by simp at h
  | y :: r, i, 0, x, h, _, h2 => by
    injection h with h
    subst h
    exact if_neg h2
  | y :: r, i, k + 1, x, h, h1, h2 => by
    rw [gErrs, if_pos (show gErr y i v = 0 from h1 0 y (Nat.succ_pos _) rfl), show i + (k + 1) = (i + 1) + k by omega]
    rw [show i + (k + 1) = (i + 1) + k by omega] at h2
    exact gErrs_first (L := r) h (fun j z hj hz => by rw [show i + 1 + j = i + (j + 1) by omega]; exact h1 (j + 1) z (by omega) hz) h2
set_option maxRecDepth 100000 in
set_option maxHeartbeats 6400000 in
theorem check_any (L : List GZ) (O : List Int) (v : Int) (P : Nat → Prop) (ga oa : Option Addr) (gc oc : Nat) (w : World) (hg : InGt P w ga L) (ho : InS P w oa O) (hl : L.length ≤ 1000000000) (hcl : ∀ x ∈ L, x.2.2.length ≤ 9223372036854775807) (hol : O.length ≤ 9223372036854775807) :
    Calls Tryz.prog 29 #[.agg #[.slice ga L.length gc, .slice oa O.length oc], .int .i64 v] w (Ret (.int .i64 (nErr L O v : Int)) w) := by
  by_cases hv : v < 0
  · have f0 : decide (v < 0) = true := decide_eq_true hv
    rw [nErr, if_pos hv]
    clear hg ho hcl
    go_enter Tryz.func29, Tryz.ntmps29
    go_wp2
    go_ret
    exact Ret.mk (by rfl) (by (repeat' (first | (with_reducible first | apply Zl1 | apply Zl2 | apply Zl3 | apply Zl4 | apply Zl5 | apply Zl6 | apply Zl7 | apply Zl8 | apply Zl9 | apply Zla | apply Zlb | apply Zlc) | (dsimp only; with_reducible first | apply Zl8 | apply Zl2 | apply Zld) | with_reducible assumption | omega | (dsimp only; omega))))
  have f0 : decide (v < 0) = false := decide_eq_false hv
  rw [nErr, if_neg hv]
  by_cases hk : 50000 < L.length
  · have f1 : decide (50000 < (L.length : Int)) = true := decide_eq_true (by omega)
    rw [if_pos hk]
    clear hg ho hcl
    go_enter Tryz.func29, Tryz.ntmps29
    go_wp2
    go_ret
    exact Ret.mk (by rfl) (by (repeat' (first | (with_reducible first | apply Zl1 | apply Zl2 | apply Zl3 | apply Zl4 | apply Zl5 | apply Zl6 | apply Zl7 | apply Zl8 | apply Zl9 | apply Zla | apply Zlb | apply Zlc) | (dsimp only; with_reducible first | apply Zl8 | apply Zl2 | apply Zld) | with_reducible assumption | omega | (dsimp only; omega))))
  have f1 : decide (50000 < (L.length : Int)) = false := decide_eq_false (by omega)
  rw [if_neg hk]
  obtain ⟨r, hr⟩ : ∃ r : Nat, (if gErrs v L 0 ≠ 0 then gErrs v L 0 else if O.any (fun o => decide (o < 0) || decide ((L.length : Int) ≤ o)) then 10 else 0) = r := ⟨_, rfl⟩
  rw [hr]
  have HR := Lib.hid hr
  clear hr
  have HG := Lib.hid hg
  have HO := Lib.hid ho
  have HC := Lib.hid hcl
  clear hg ho hcl
  have HB1 := Lib.hid (show Below w.heap.size w (w.alloc (.cells #[.slice ga L.length gc, .slice oa O.length oc] 25 (0, 0))) from (Below.refl _ w).alloc (Nat.le_refl _) _)
  have HX1 := Lib.hid (show (w.alloc (.cells #[.slice ga L.length gc, .slice oa O.length oc] 25 (0, 0))).heap[w.heap.size]? = some (.cells #[.slice ga L.length gc, .slice oa O.length oc] 25 (0, 0)) from World.alloc_heap_new ..)
  go_enter Tryz.func29, Tryz.ntmps29
  go_wp2
  go_loopw [17] (fun i wr => ∃ k : Nat, i = .int .i64 (k : Int) ∧ k ≤ L.length ∧ Below (w.heap.size + 1) (w.alloc (.cells #[.slice ga L.length gc, .slice oa O.length oc] 25 (0, 0))) wr ∧ ∀ (j : Nat) (y : GZ), j < k → L[j]? = some y → gErr y (0 + j) v = 0) (fun i _ => L.length - (intOf i).toNat)
  case atStart => exact ⟨0, rfl, Nat.zero_le _, Below.refl _ _, fun j y h => by omega⟩
  case round =>
    obtain ⟨k, rfl, hk, hb, hA⟩ := hrel
    have HA := Lib.hid hA
    have hbw := HB1.out.trans (hb.mono (by omega))
    have hxw := obj_below hb (by omega) HX1.out
    obtain ⟨b0, b1, -⟩ := box2 hxw
    have HXW := Lib.hid hxw
    clear hA hxw
    have hws := hb.size
    have hws2 : w.heap.size ≤ wr.heap.size := hbw.size
    rcases Nat.lt_or_ge k L.length with hkl | hkl
    · obtain ⟨u, hu⟩ := some_at hkl
      obtain ⟨bb, off, hadd, hp, a, c, c0, c1, c2, hin⟩ := (HG.out.of hbw).at hu
      cases hadd
      have f2 : decide ((k : Int) < (L.length : Int)) = true := decide_eq_true (by omega)
      have hib : (0 ≤ (k : Int) ∧ (k : Int) < (L.length : Int)) := ⟨by omega, by omega⟩
      have hul := HC.out u (List.mem_of_getElem? hu)
      have HU := Lib.hid hu
      have HI := Lib.hid hin
      clear hu hin
      go_wp2_with fail
      refine (gate_any u k v P a c _ (HI.out.of ?_) hul).mono ?_
      · exact (Below.refl _ wr).alloc (Nat.le_refl _) _
      rintro _ _ ⟨rfl, y, rfl⟩
      have hby := hb.trans ((((Below.refl _ wr).alloc (Nat.le_refl _) _).trans (y.below.mono (by simp))).mono (show w.heap.size + 1 ≤ wr.heap.size by simp at hws; omega))
      by_cases he : gErr u k v = 0
      · have f3 : decide ((gErr u k v : Int) = 0) = true := decide_eq_true (by omega)
        have HE := Lib.hid he
        go_wp2
        go_roundw
        case measure => simp [intOf]; omega
        case rel =>
          refine ⟨k + 1, by go_num, by omega, hby, fun j z hj hz => ?_⟩
          rcases Nat.lt_or_ge j k with h | h
          · exact HA.out j z h hz
          · obtain rfl : j = k := by omega
            rw [HU.out] at hz
            injection hz with hz
            subst hz
            rw [Nat.zero_add]
            exact HE.out
      · have f3 : decide ((gErr u k v : Int) = 0) = false := decide_eq_false (by omega)
        have HE := Lib.hid he
        have hr2 : r = gErr u k v := by
          have h := gErrs_first HU.out HA.out (by rw [Nat.zero_add]; exact he)
          rw [Nat.zero_add] at h
          rw [← HR.out, h, if_pos he]
        subst hr2
        go_wp2
        go_ret
        exact Ret.mk (by rfl) (by (repeat' (first | (with_reducible first | apply Zl1 | apply Zl2 | apply Zl3 | apply Zl4 | apply Zl5 | apply Zl6 | apply Zl7 | apply Zl8 | apply Zl9 | apply Zla | apply Zlb | apply Zlc) | (dsimp only; with_reducible first | apply Zl8 | apply Zl2 | apply Zld) | with_reducible assumption | omega | (dsimp only; omega))))
    · have hke : k = L.length := by omega
      subst hke
      have f2 : decide ((L.length : Int) < (L.length : Int)) = false := decide_eq_false (by omega)
      have hz : gErrs v L 0 = 0 := gErrs_of fun j x hj => HA.out j x (List.getElem?_eq_some_iff.1 hj).1 hj
      have hr2 := HR.out
      rw [if_neg (fun h => h hz)] at hr2
      obtain ⟨q, hq⟩ : ∃ q, O.any (fun o => decide (o < 0) || decide ((L.length : Int) ≤ o)) = q := ⟨_, rfl⟩
      rw [hq] at hr2
      have HQ := Lib.hid hq
      clear hz
      go_wp2_with fail
      refine (containsI_any 55 _ egCheck _ O P oa oc _ (HO.out.of ?_) hol (testCheck O w.heap.size ga oa L.length gc O.length oc _ HXW.out)).mono ?_
      · exact hbw
      rintro _ _ ⟨rfl, y, rfl⟩
      rw [HQ.out]
      have hby := hbw.trans (y.below.mono hbw.size)
      clear hq
      cases q
      · subst hr2
        go_wp2
        go_ret
        exact Ret.mk (by rfl) (by (repeat' (first | (with_reducible first | apply Zl1 | apply Zl2 | apply Zl3 | apply Zl4 | apply Zl5 | apply Zl6 | apply Zl7 | apply Zl8 | apply Zl9 | apply Zla | apply Zlb | apply Zlc) | (dsimp only; with_reducible first | apply Zl8 | apply Zl2 | apply Zld) | with_reducible assumption | omega | (dsimp only; omega))))
      · subst hr2
        go_wp2
        go_ret
        exact Ret.mk (by rfl) (by (repeat' (first | (with_reducible first | apply Zl1 | apply Zl2 | apply Zl3 | apply Zl4 | apply Zl5 | apply Zl6 | apply Zl7 | apply Zl8 | apply Zl9 | apply Zla | apply Zlb | apply Zlc) | (dsimp only; with_reducible first | apply Zl8 | apply Zl2 | apply Zld) | with_reducible assumption | omega | (dsimp only; omega))))
end Go.Proofs.YtlnedapimmabdaaGreatDoor

namespace Go.Proofs.YtlnedapimmabdaaGreatDoor
set_option linter.unusedVariables false
set_option linter.unusedSimpArgs false
open Go.RowKit
attribute [local go_sem low] Bel.cell Bel.frozen alloc_cell alloc_frozen

set_option maxRecDepth 100000 in
set_option maxHeartbeats 6400000 in
theorem equalI_any (L M : List Int) (P Q : Nat → Prop) (a1 a2 : Option Addr) (c1 c2 : Nat) (w : World) (h1 : InS P w a1 L) (h2 : InS Q w a2 M) (hl : L.length ≤ 9223372036854775807) (hm : M.length ≤ 9223372036854775807) :
    Calls Tryz.prog 33 #[.slice a1 L.length c1, .slice a2 M.length c2] w (Ret (.bool (decide (L = M))) w) := by
  by_cases hlm : L.length = M.length
  · have HEQ := Lib.hid hlm
    have H1 := Lib.hid h1
    have H2 := Lib.hid h2
    have f0 : ((L.length : Int) != (M.length : Int)) = false := by simp; omega
    obtain ⟨q, hq⟩ : ∃ q, decide (L = M) = q := ⟨_, rfl⟩
    rw [hq]
    have HQ := Lib.hid hq
    clear h1 h2 hlm hq
    go_enter Tryz.func33, Tryz.ntmps33
    go_wp2
    go_loopw [13] (fun iv wr => ∃ k : Nat, iv = .int .i64 (k : Int) ∧ k ≤ L.length ∧ L.take k = M.take k ∧ ∃ y : Bel w, wr = y.w) (fun iv _ => L.length - (intOf iv).toNat)
    case atStart => exact ⟨0, rfl, by omega, by simp, ⟨w, Below.refl _ _⟩, rfl⟩
    case round =>
      obtain ⟨k, rfl, hk, htk, y, rfl⟩ := hrel
      have HTK := Lib.hid htk
      clear htk
      rcases Nat.lt_or_ge k L.length with hkl | hkl
      · have hkm : k < M.length := by have := HEQ.out; omega
        obtain ⟨x, hx⟩ : ∃ x, L[k]? = some x := ⟨_, List.getElem?_eq_getElem hkl⟩
        obtain ⟨z, hz⟩ : ∃ z, M[k]? = some z := ⟨_, List.getElem?_eq_getElem hkm⟩
        obtain ⟨b1, o1, e1, hb1, x0⟩ := (H1.out.of y.below).at hx
        obtain ⟨b2, o2, e2, hb2, z0⟩ := (H2.out.of y.below).at hz
        subst e1 e2
        have f1 : decide ((k : Int) < (L.length : Int)) = true := decide_eq_true (by omega)
        have hib : (0 ≤ (k : Int) ∧ (k : Int) < (L.length : Int)) := ⟨by omega, by omega⟩
        have hib2 : (0 ≤ (k : Int) ∧ (k : Int) < (M.length : Int)) := ⟨by omega, by omega⟩
        have HX := Lib.hid (And.intro hx hz)
        clear hx hz
        by_cases he : x = z
        · have f2 : (x != z) = false := by simp [he]
          have HE := Lib.hid he
          clear he
          go_wp2_with fail
          refine wp_region_bel (by kernel_rfl) (by kernel_rfl) ?_
          repeat (go_big_quiet_step (fail))
          refine wpQuiet_nil ?_
          rintro _ ⟨z9, rfl⟩
          go_wp2
          go_roundw
          case rel =>
            refine ⟨k + 1, by go_num, by omega, ?_, ⟨z9.w, y.below.trans (z9.below.mono y.below.size)⟩, rfl⟩
            rw [List.take_add_one, List.take_add_one, HX.out.1, HX.out.2, HTK.out, HE.out]
          case measure => simp [intOf]; omega
        · have f2 : (x != z) = true := by simp [he]
          have hq0 : q = false := by
            rw [← HQ.out]
            refine decide_eq_false fun e => ?_
            have h1 := HX.out.1
            rw [e, HX.out.2] at h1
            injection h1 with h1
            exact he h1.symm
          subst hq0
          clear he
          go_wp2_with fail
          refine wp_region_bel (by kernel_rfl) (by kernel_rfl) ?_
          repeat (go_big_quiet_step (fail))
          refine wpQuiet_nil ?_
          rintro _ ⟨z9, rfl⟩
          go_wp2
          go_ret
          exact Ret.mk (by rfl) (by (repeat' (first | (with_reducible first | apply Zl1 | apply Zl2 | apply Zl3 | apply Zl4 | apply Zl5 | apply Zl6 | apply Zl7 | apply Zl8 | apply Zl9 | apply Zla | apply Zlb | apply Zlc) | (dsimp only; with_reducible first | apply Zl8 | apply Zl2 | apply Zld) | with_reducible assumption | omega | (dsimp only; omega))))
      · have hke : k = L.length := by omega
        subst hke
        have f1 : decide ((L.length : Int) < (L.length : Int)) = false := decide_eq_false (by omega)
        have hq1 : q = true := by
          rw [← HQ.out]
          have h := HTK.out
          rw [List.take_length, HEQ.out, List.take_length] at h
          exact decide_eq_true h
        subst hq1
        go_wp2
        go_ret
        exact Ret.mk (by rfl) (by (repeat' (first | (with_reducible first | apply Zl1 | apply Zl2 | apply Zl3 | apply Zl4 | apply Zl5 | apply Zl6 | apply Zl7 | apply Zl8 | apply Zl9 | apply Zla | apply Zlb | apply Zlc) | (dsimp only; with_reducible first | apply Zl8 | apply Zl2 | apply Zld) | with_reducible assumption | omega | (dsimp only; omega))))
  · have f0 : ((L.length : Int) != (M.length : Int)) = true := by simp; omega
    rw [decide_eq_false (fun e => hlm (by rw [e]))]
    clear h1 h2 hlm
    go_enter Tryz.func33, Tryz.ntmps33
    go_wp2
    go_ret
    exact Ret.mk (by rfl) (by (repeat' (first | (with_reducible first | apply Zl1 | apply Zl2 | apply Zl3 | apply Zl4 | apply Zl5 | apply Zl6 | apply Zl7 | apply Zl8 | apply Zl9 | apply Zla | apply Zlb | apply Zlc) | (dsimp only; with_reducible first | apply Zl8 | apply Zl2 | apply Zld) | with_reducible assumption | omega | (dsimp only; omega))))
set_option maxRecDepth 100000 in
set_option maxHeartbeats 6400000 in
theorem gateEq_any (x z : GZ) (P Q : Nat → Prop) (a1 a2 : Option Addr) (c1 c2 : Nat) (w : World) (h1 : InS P w a1 x.2.2) (h2 : InS Q w a2 z.2.2) (hl : x.2.2.length ≤ 9223372036854775807) (hm : z.2.2.length ≤ 9223372036854775807) :
    Calls Tryz.prog 32 #[gV x a1 c1, gV z a2 c2] w (Ret (.bool (decide (x = z))) w) := by
  have HE := Lib.hid (fun w' (hb : Below w.heap.size w w') => equalI_any x.2.2 z.2.2 P Q a1 a2 c1 c2 w' (h1.of hb) (h2.of hb) hl hm)
  obtain ⟨k, a, l⟩ := x
  obtain ⟨k', a', l'⟩ := z
  unfold gV
  dsimp only at HE ⊢
  clear h1 h2 hl hm
  by_cases hk : k = k'
  · have f0 : (k == k') = true := beq_iff_eq.2 hk
    by_cases ha : a = a'
    · have f1 : (a == a') = true := beq_iff_eq.2 ha
      have e : decide (((k, a, l) : GZ) = (k', a', l')) = decide (l = l') := by simp [hk, ha]
      rw [e]
      clear hk ha
      go_enter Tryz.func32, Tryz.ntmps32
      go_wp2_with fail
      refine (HE.out _ (by (repeat' (first | (with_reducible first | apply Zl1 | apply Zl2 | apply Zl3 | apply Zl4 | apply Zl5 | apply Zl6 | apply Zl7 | apply Zl8 | apply Zl9 | apply Zla | apply Zlb | apply Zlc) | (dsimp only; with_reducible first | apply Zl8 | apply Zl2 | apply Zld) | with_reducible assumption | omega | (dsimp only; omega))))).mono ?_
      rintro _ _ ⟨rfl, y1, rfl⟩
      dsimp only
      go_wp2
      go_ret
      exact Ret.mk (by rfl) (by (repeat' (first | (with_reducible first | apply Zl1 | apply Zl2 | apply Zl3 | apply Zl4 | apply Zl5 | apply Zl6 | apply Zl7 | apply Zl8 | apply Zl9 | apply Zla | apply Zlb | apply Zlc) | (dsimp only; with_reducible first | apply Zl8 | apply Zl2 | apply Zld) | with_reducible assumption | omega | (dsimp only; omega))))
    · have f1 : (a == a') = false := beq_eq_false_iff_ne.2 ha
      rw [decide_eq_false (fun h => ha (by injection h with _ h; injection h))]
      clear hk ha
      go_enter Tryz.func32, Tryz.ntmps32
      go_wp2
      go_ret
      exact Ret.mk (by rfl) (by (repeat' (first | (with_reducible first | apply Zl1 | apply Zl2 | apply Zl3 | apply Zl4 | apply Zl5 | apply Zl6 | apply Zl7 | apply Zl8 | apply Zl9 | apply Zla | apply Zlb | apply Zlc) | (dsimp only; with_reducible first | apply Zl8 | apply Zl2 | apply Zld) | with_reducible assumption | omega | (dsimp only; omega))))
  · have f0 : (k == k') = false := beq_eq_false_iff_ne.2 hk
    rw [decide_eq_false (fun h => hk (by injection h))]
    clear hk
    go_enter Tryz.func32, Tryz.ntmps32
    go_wp2
    go_ret
    exact Ret.mk (by rfl) (by (repeat' (first | (with_reducible first | apply Zl1 | apply Zl2 | apply Zl3 | apply Zl4 | apply Zl5 | apply Zl6 | apply Zl7 | apply Zl8 | apply Zl9 | apply Zla | apply Zlb | apply Zlc) | (dsimp only; with_reducible first | apply Zl8 | apply Zl2 | apply Zld) | with_reducible assumption | omega | (dsimp only; omega))))
end Go.Proofs.YtlnedapimmabdaaGreatDoor

namespace Go.Proofs.YtlnedapimmabdaaGreatDoor
set_option linter.unusedVariables false
set_option linter.unusedSimpArgs false
open Go.RowKit
attribute [local go_sem low] Bel.cell Bel.frozen alloc_cell alloc_frozen

set_option maxRecDepth 100000 in
set_option maxHeartbeats 6400000 in
theorem eqFuncG_any (L M : List GZ) (P Q : Nat → Prop) (a1 a2 : Option Addr) (c1 c2 : Nat) (w : World) (h1 : InGt P w a1 L) (h2 : InGt Q w a2 M) (hl : L.length ≤ 100000000) (hm : M.length ≤ 100000000)
    (hL : ∀ x ∈ L, x.2.2.length ≤ 9223372036854775807) (hM : ∀ x ∈ M, x.2.2.length ≤ 9223372036854775807) :
    Calls Tryz.prog 34 #[.slice a1 L.length c1, .slice a2 M.length c2, .func (.func 32) #[] #[]] w (Ret (.bool (decide (L = M))) w) := by
  by_cases hlm : L.length = M.length
  · have HEQ := Lib.hid hlm
    have H1 := Lib.hid h1
    have H2 := Lib.hid h2
    have HL := Lib.hid hL
    have HM := Lib.hid hM
    have f0 : ((L.length : Int) != (M.length : Int)) = false := by simp; omega
    obtain ⟨q, hq⟩ : ∃ q, decide (L = M) = q := ⟨_, rfl⟩
    rw [hq]
    have HQ := Lib.hid hq
    clear h1 h2 hlm hq hL hM
    go_enter Tryz.func34, Tryz.ntmps34
    go_wp2
    go_loopw [17] (fun iv wr => ∃ k : Nat, iv = .int .i64 (k : Int) ∧ k ≤ L.length ∧ L.take k = M.take k ∧ Below w.heap.size w wr) (fun iv _ => L.length - (intOf iv).toNat)
    case atStart => exact ⟨0, rfl, by omega, by simp, Below.refl _ _⟩
    case round =>
      obtain ⟨k, rfl, hk, htk, hb⟩ := hrel
      have HTK := Lib.hid htk
      have hbs := hb.size
      clear htk
      rcases Nat.lt_or_ge k L.length with hkl | hkl
      · have hkm : k < M.length := by have := HEQ.out; omega
        obtain ⟨x, hx⟩ : ∃ x, L[k]? = some x := ⟨_, List.getElem?_eq_getElem hkl⟩
        obtain ⟨z, hz⟩ : ∃ z, M[k]? = some z := ⟨_, List.getElem?_eq_getElem hkm⟩
        obtain ⟨b1, o1, e1, hb1, ax, cx, x0, x1, x2, hix⟩ := (H1.out.of hb).at hx
        obtain ⟨b2, o2, e2, hb2, az, cz, z0, z1, z2, hiz⟩ := (H2.out.of hb).at hz
        subst e1 e2
        have f1 : decide ((k : Int) < (L.length : Int)) = true := decide_eq_true (by omega)
        have hib : (0 ≤ (k : Int) ∧ (k : Int) < (L.length : Int)) := ⟨by omega, by omega⟩
        have hib2 : (0 ≤ (k : Int) ∧ (k : Int) < (M.length : Int)) := ⟨by omega, by omega⟩
        have HC := Lib.hid (fun W (hW : Below wr.heap.size wr W) => gateEq_any x z P Q ax az cx cz W (hix.of hW) (hiz.of hW) (HL.out x (List.mem_of_getElem? hx)) (HM.out z (List.mem_of_getElem? hz)))
        have HX := Lib.hid (And.intro hx hz)
        clear hx hz hix hiz
        obtain ⟨r, hr⟩ : ∃ r, decide (x = z) = r := ⟨_, rfl⟩
        rw [hr] at HC
        cases r
        · have he : ¬ x = z := of_decide_eq_false hr
          have hq0 : q = false := by
            rw [← HQ.out]
            refine decide_eq_false fun e => ?_
            have h1 := HX.out.1
            rw [e, HX.out.2] at h1
            injection h1 with h1
            exact he h1.symm
          subst hq0
          clear he hr
          go_wp2_with fail
          refine (HC.out _ (by (repeat' (first | (with_reducible first | apply Zl1 | apply Zl2 | apply Zl3 | apply Zl4 | apply Zl5 | apply Zl6 | apply Zl7 | apply Zl8 | apply Zl9 | apply Zla | apply Zlb | apply Zlc) | (dsimp only; with_reducible first | apply Zl8 | apply Zl2 | apply Zld) | with_reducible assumption | omega | (dsimp only; omega))))).mono ?_
          rintro _ _ ⟨rfl, y, rfl⟩
          dsimp only
          go_wp2
          go_ret
          exact Ret.mk (by rfl) (by (repeat' (first | (with_reducible first | apply Zl1 | apply Zl2 | apply Zl3 | apply Zl4 | apply Zl5 | apply Zl6 | apply Zl7 | apply Zl8 | apply Zl9 | apply Zla | apply Zlb | apply Zlc) | (dsimp only; with_reducible first | apply Zl8 | apply Zl2 | apply Zld) | with_reducible assumption | omega | (dsimp only; omega))))
        · have HE := Lib.hid (of_decide_eq_true hr)
          clear hr
          go_wp2_with fail
          refine (HC.out _ (by (repeat' (first | (with_reducible first | apply Zl1 | apply Zl2 | apply Zl3 | apply Zl4 | apply Zl5 | apply Zl6 | apply Zl7 | apply Zl8 | apply Zl9 | apply Zla | apply Zlb | apply Zlc) | (dsimp only; with_reducible first | apply Zl8 | apply Zl2 | apply Zld) | with_reducible assumption | omega | (dsimp only; omega))))).mono ?_
          rintro _ _ ⟨rfl, y, rfl⟩
          dsimp only
          go_wp2
          go_roundw
          case rel =>
            refine ⟨k + 1, by go_num, by omega, ?_, by (repeat' (first | (with_reducible first | apply Zl1 | apply Zl2 | apply Zl3 | apply Zl4 | apply Zl5 | apply Zl6 | apply Zl7 | apply Zl8 | apply Zl9 | apply Zla | apply Zlb | apply Zlc) | (dsimp only; with_reducible first | apply Zl8 | apply Zl2 | apply Zld) | with_reducible assumption | omega | (dsimp only; omega)))⟩
            rw [List.take_add_one, List.take_add_one, HX.out.1, HX.out.2, HTK.out, HE.out]
          case measure => simp [intOf]; omega
      · have hke : k = L.length := by omega
        subst hke
        have f1 : decide ((L.length : Int) < (L.length : Int)) = false := decide_eq_false (by omega)
        have hq1 : q = true := by
          rw [← HQ.out]
          have h := HTK.out
          rw [List.take_length, HEQ.out, List.take_length] at h
          exact decide_eq_true h
        subst hq1
        go_wp2
        go_ret
        exact Ret.mk (by rfl) (by (repeat' (first | (with_reducible first | apply Zl1 | apply Zl2 | apply Zl3 | apply Zl4 | apply Zl5 | apply Zl6 | apply Zl7 | apply Zl8 | apply Zl9 | apply Zla | apply Zlb | apply Zlc) | (dsimp only; with_reducible first | apply Zl8 | apply Zl2 | apply Zld) | with_reducible assumption | omega | (dsimp only; omega))))
  · have f0 : ((L.length : Int) != (M.length : Int)) = true := by simp; omega
    rw [decide_eq_false (fun e => hlm (by rw [e]))]
    clear h1 h2 hlm hL hM
    go_enter Tryz.func34, Tryz.ntmps34
    go_wp2
    go_ret
    exact Ret.mk (by rfl) (by (repeat' (first | (with_reducible first | apply Zl1 | apply Zl2 | apply Zl3 | apply Zl4 | apply Zl5 | apply Zl6 | apply Zl7 | apply Zl8 | apply Zl9 | apply Zla | apply Zlb | apply Zlc) | (dsimp only; with_reducible first | apply Zl8 | apply Zl2 | apply Zld) | with_reducible assumption | omega | (dsimp only; omega))))
def nV (ga : Option Addr) (gn gc : Nat) (oa : Option Addr) (on oc : Nat) : Value := .agg #[.slice ga gn gc, .slice oa on oc]
set_option maxRecDepth 100000 in
set_option maxHeartbeats 6400000 in
theorem relayEqual_any (L M : List GZ) (O U : List Int) (P Q P' Q' : Nat → Prop) (a1 a2 a3 a4 : Option Addr) (c1 c2 c3 c4 : Nat) (w : World) (h1 : InGt P w a1 L) (h2 : InGt Q w a2 M) (h3 : InS P' w a3 O) (h4 : InS Q' w a4 U) (hl : L.length ≤ 100000000) (hm : M.length ≤ 100000000)
    (hL : ∀ x ∈ L, x.2.2.length ≤ 9223372036854775807) (hM : ∀ x ∈ M, x.2.2.length ≤ 9223372036854775807) (ho : O.length ≤ 9223372036854775807) (hu : U.length ≤ 9223372036854775807) :
    Calls Tryz.prog 14 #[nV a1 L.length c1 a3 O.length c3, nV a2 M.length c2 a4 U.length c4] w (Ret (.bool (decide (L = M ∧ O = U))) w) := by
  have HA := Lib.hid (fun w' (hb : Below w.heap.size w w') => eqFuncG_any L M P Q a1 a2 c1 c2 w' (h1.of hb) (h2.of hb) hl hm hL hM)
  have HB := Lib.hid (fun w' (hb : Below w.heap.size w w') => equalI_any O U P' Q' a3 a4 c3 c4 w' (h3.of hb) (h4.of hb) ho hu)
  unfold nV
  clear h1 h2 h3 h4 hL hM
  obtain ⟨r, hr⟩ : ∃ r, decide (L = M) = r := ⟨_, rfl⟩
  rw [hr] at HA
  cases r
  · rw [decide_eq_false (fun h => of_decide_eq_false hr h.1)]
    clear hr
    go_enter Tryz.func14, Tryz.ntmps14
    go_wp2_with fail
    refine (HA.out _ (by (repeat' (first | (with_reducible first | apply Zl1 | apply Zl2 | apply Zl3 | apply Zl4 | apply Zl5 | apply Zl6 | apply Zl7 | apply Zl8 | apply Zl9 | apply Zla | apply Zlb | apply Zlc) | (dsimp only; with_reducible first | apply Zl8 | apply Zl2 | apply Zld) | with_reducible assumption | omega | (dsimp only; omega))))).mono ?_
    rintro _ _ ⟨rfl, y, rfl⟩
    dsimp only
    go_wp2
    go_ret
    exact Ret.mk (by rfl) (by (repeat' (first | (with_reducible first | apply Zl1 | apply Zl2 | apply Zl3 | apply Zl4 | apply Zl5 | apply Zl6 | apply Zl7 | apply Zl8 | apply Zl9 | apply Zla | apply Zlb | apply Zlc) | (dsimp only; with_reducible first | apply Zl8 | apply Zl2 | apply Zld) | with_reducible assumption | omega | (dsimp only; omega))))
  · rw [show decide (L = M ∧ O = U) = decide (O = U) by simp [of_decide_eq_true hr]]
    clear hr
    go_enter Tryz.func14, Tryz.ntmps14
    go_wp2_with fail
    refine (HA.out _ (by (repeat' (first | (with_reducible first | apply Zl1 | apply Zl2 | apply Zl3 | apply Zl4 | apply Zl5 | apply Zl6 | apply Zl7 | apply Zl8 | apply Zl9 | apply Zla | apply Zlb | apply Zlc) | (dsimp only; with_reducible first | apply Zl8 | apply Zl2 | apply Zld) | with_reducible assumption | omega | (dsimp only; omega))))).mono ?_
    rintro _ _ ⟨rfl, y, rfl⟩
    dsimp only
    go_wp2_with fail
    refine (HB.out _ (by (repeat' (first | (with_reducible first | apply Zl1 | apply Zl2 | apply Zl3 | apply Zl4 | apply Zl5 | apply Zl6 | apply Zl7 | apply Zl8 | apply Zl9 | apply Zla | apply Zlb | apply Zlc) | (dsimp only; with_reducible first | apply Zl8 | apply Zl2 | apply Zld) | with_reducible assumption | omega | (dsimp only; omega))))).mono ?_
    rintro _ _ ⟨rfl, y1, rfl⟩
    dsimp only
    go_wp2
    go_ret
    exact Ret.mk (by rfl) (by (repeat' (first | (with_reducible first | apply Zl1 | apply Zl2 | apply Zl3 | apply Zl4 | apply Zl5 | apply Zl6 | apply Zl7 | apply Zl8 | apply Zl9 | apply Zla | apply Zlb | apply Zlc) | (dsimp only; with_reducible first | apply Zl8 | apply Zl2 | apply Zld) | with_reducible assumption | omega | (dsimp only; omega))))
end Go.Proofs.YtlnedapimmabdaaGreatDoor
