/- Of, Literal, Constant, Implies. Literal, Constant, Implies. enough, Value. Value. -/
import Derived.Test.YtlnedapimmabdaaGreatDoorXF
import Derived.Test.YtlnedapimmabdaaGreatDoorXB
import Derived.Test.YtlnedapimmabdaaGreatDoorXE
namespace Go.Proofs.YtlnedapimmabdaaGreatDoor
set_option linter.unusedVariables false
set_option linter.unusedSimpArgs false
open Go.RowKit Go.Maps
attribute [local go_sem low] Bel.cell Bel.frozen alloc_cell alloc_frozen
attribute [local go_sem] calmOp chainOp yieldsC grows
variable {rk : Nat → Nat}

theorem retC_table {n : Nat} {S : (Nat → Bool) → Bool} {t : Nat} {w w' : World} {e : Ending} (h : RetC rk n S w e w') (ht : t < 2 ^ 64) (hS : ∀ ρ, S ρ = t.testBit (idx6 ρ)) : RetDg (bldN t) (bldR t) w e w' := by
  obtain ⟨N, p, h1, h2, h3, h4, h5, h6⟩ := h
  rw [canonD_bld h1 (⟨h4, fun ρ => by rw [h5, hS]⟩ : Rep3 N p t) ht] at h6
  exact h6
theorem dnok_bld (rk : Nat → Nat) (hrk : ∀ a, a < 6 → VarOk rk a) {t : Nat} (ht : t < 2 ^ 64) {w : World} {ad : Option Addr} {cap : Nat} (hi : InD w.heap.size w ad ((bldN t).map z3)) : DNok rk w (ad, cap, bldN t, bldR t) := by
  obtain ⟨hd, _⟩ := dgm_bld ht
  exact ⟨hi, hd.good, fun y hy => hrk _ (hd.vars y hy), by have := hd.len; dsimp only; omega, hd.root, chkD_dgm hd⟩
end Go.Proofs.YtlnedapimmabdaaGreatDoor

namespace Go.Proofs.YtlnedapimmabdaaGreatDoor
set_option linter.unusedVariables false
set_option linter.unusedSimpArgs false
open Go.RowKit Go.Maps
attribute [local go_sem low] Bel.cell Bel.frozen alloc_cell alloc_frozen
attribute [local go_sem] calmOp chainOp yieldsC grows
variable {rk : Nat → Nat}

set_option maxRecDepth 100000 in
theorem Constant_any (b : Bool) (w : World) : Calls Tryz.prog 62 #[.bool b] w (Ret (.agg #[.slice none 0 0, .int .i64 (if b then 1 else 0)]) w) := by
  cases b
  · go_enter Tryz.func62, Tryz.ntmps62
    go_wp2
    refine bodyPost_ret (v := .agg #[.slice none 0 0, .int .i64 0]) (by simp [results, Tryz.results62, go_sem]) rfl (Ret.mk rfl (by (repeat' (first | (with_reducible first | apply Zl1 | apply Zl2 | apply Zl3 | apply Zl4 | apply Zl5 | apply Zl6 | apply Zl7 | apply Zl8 | apply Zl9 | apply Zla | apply Zlb | apply Zlc) | (dsimp only; with_reducible first | apply Zl8 | apply Zl2 | apply Zld) | with_reducible assumption | omega | (dsimp only; omega)))))
  · go_enter Tryz.func62, Tryz.ntmps62
    go_wp2
    refine bodyPost_ret (v := .agg #[.slice none 0 0, .int .i64 1]) (by simp [results, Tryz.results62, go_sem]) rfl (Ret.mk rfl (by (repeat' (first | (with_reducible first | apply Zl1 | apply Zl2 | apply Zl3 | apply Zl4 | apply Zl5 | apply Zl6 | apply Zl7 | apply Zl8 | apply Zl9 | apply Zla | apply Zlb | apply Zlc) | (dsimp only; with_reducible first | apply Zl8 | apply Zl2 | apply Zld) | with_reducible assumption | omega | (dsimp only; omega)))))
def litN (v : Nat) (b : Bool) : List (Nat × Nat × Nat) := if b then [(v, 0, 1)] else [(v, 1, 0)]
theorem inD_one {w : World} {g : Nat} {a b c : Nat} {e : TypeId} (h : w.heap[g]? = some (.cells #[.int .i64 (a : Int), .int .i64 (b : Int), .int .i64 (c : Int)] e (0, 0))) : InD w.heap.size w (some ⟨g, 0, none⟩) ([(a, b, c)].map z3) := fun _ => by
  refine ⟨g, 0, rfl, (Array.getElem?_eq_some_iff.1 h).1, fun j x hx => ?_⟩
  match j, hx with
  | 0, hx =>
    simp at hx
    subst hx
    refine ⟨?_, ?_, ?_⟩ <;> simp [World.cell?, h, z3]
  | j + 1, hx => simp at hx
set_option maxRecDepth 100000 in
theorem Literal_ok (v : Nat) (b : Bool) (hv : v < 4096) (w : World) : Calls Tryz.prog 63 #[.int .i64 (v : Int), .bool b] w (RetDg (litN v b) 2 w) := by
  have f1 : decide ((v : Int) < 0) = false := decide_eq_false (by omega)
  have f2 : decide ((4096 : Int) ≤ (v : Int)) = false := decide_eq_false (by omega)
  cases b
  · go_enter Tryz.func63, Tryz.ntmps63
    go_wp2
    refine bodyPost_ret (v := .tuple #[.agg #[.slice (some ⟨w.heap.size + 1, 0, none⟩) 1 1, .int .i64 2], .int .i64 0]) (by simp [results, Tryz.results63, go_sem]) rfl ⟨_, _, rfl, inD_one (newAt1 w _ (.cells #[.int .i64 (v : Int), .int .i64 1, .int .i64 0] 96 (0, 0))), fun g off k h => by injection h with h; injection h with h1 _ _; omega, by (repeat' (first | (with_reducible first | apply Zl1 | apply Zl2 | apply Zl3 | apply Zl4 | apply Zl5 | apply Zl6 | apply Zl7 | apply Zl8 | apply Zl9 | apply Zla | apply Zlb | apply Zlc) | (dsimp only; with_reducible first | apply Zl8 | apply Zl2 | apply Zld) | with_reducible assumption | omega | (dsimp only; omega)))⟩
  · go_enter Tryz.func63, Tryz.ntmps63
    go_wp2
    refine bodyPost_ret (v := .tuple #[.agg #[.slice (some ⟨w.heap.size + 1, 0, none⟩) 1 1, .int .i64 2], .int .i64 0]) (by simp [results, Tryz.results63, go_sem]) rfl ⟨_, _, rfl, inD_one (newAt1 w _ (.cells #[.int .i64 (v : Int), .int .i64 0, .int .i64 1] 96 (0, 0))), fun g off k h => by injection h with h; injection h with h1 _ _; omega, by (repeat' (first | (with_reducible first | apply Zl1 | apply Zl2 | apply Zl3 | apply Zl4 | apply Zl5 | apply Zl6 | apply Zl7 | apply Zl8 | apply Zl9 | apply Zla | apply Zlb | apply Zlc) | (dsimp only; with_reducible first | apply Zl8 | apply Zl2 | apply Zld) | with_reducible assumption | omega | (dsimp only; omega)))⟩
end Go.Proofs.YtlnedapimmabdaaGreatDoor

namespace Go.Proofs.YtlnedapimmabdaaGreatDoor
set_option linter.unusedVariables false
set_option linter.unusedSimpArgs false
open Go.RowKit Go.Maps
attribute [local go_sem low] Bel.cell Bel.frozen alloc_cell alloc_frozen
attribute [local go_sem] calmOp chainOp yieldsC grows

theorem egEnough : ∀ args w, (callFunc 98 args).run Tryz.prog w = .ok (.enter 98 args) w := fun args w => by kernel_rfl
set_option maxRecDepth 100000 in
theorem enough1_any (x : Int × Int × Int) (n : Int) (B : Nat) (w : World) (hb : w.cell? ⟨B, 0, none⟩ = some (.int .i64 n)) : Calls Tryz.prog 98 #[.agg #[.int .i64 x.1, .int .i64 x.2.1, .int .i64 x.2.2], .pointer (some ⟨B, 0, none⟩)] w (Ret (.bool (decide (n ≤ x.1))) w) := by
  have hB := World.block_lt_of_cell? _ _ hb
  have hb' := cell_in ((Below.refl w.heap.size w).alloc (Nat.le_refl _) (.cells #[.int .i64 x.1, .int .i64 x.2.1, .int .i64 x.2.2] 96 (0, 0))) hb
  obtain ⟨q, hq⟩ : ∃ q, decide (n ≤ x.1) = q := ⟨_, rfl⟩
  rw [hq]
  go_enter Tryz.func98, Tryz.ntmps98
  go_wp2
  go_ret
  exact Ret.mk (by rfl) (by (repeat' (first | (with_reducible first | apply Zl1 | apply Zl2 | apply Zl3 | apply Zl4 | apply Zl5 | apply Zl6 | apply Zl7 | apply Zl8 | apply Zl9 | apply Zla | apply Zlb | apply Zlc) | (dsimp only; with_reducible first | apply Zl8 | apply Zl2 | apply Zld) | with_reducible assumption | omega | (dsimp only; omega))))
set_option maxRecDepth 100000 in
set_option maxHeartbeats 6400000 in
theorem dindex_any (L : List (Int × Int × Int)) (ad : Option Addr) (cap : Nat) (n : Int) (B : Nat) (w : World) (hi : InD w.heap.size w ad L) (hb : w.cell? ⟨B, 0, none⟩ = some (.int .i64 n)) (hl : L.length ≤ 1000000) :
    Calls Tryz.prog 109 #[.slice ad L.length cap, .func (.func 98) #[] #[.pointer (some ⟨B, 0, none⟩)]] w (fun e w' => ∃ i : Int, e = .returned (.int .i64 i) ∧ (0 ≤ i ↔ L.any (fun x => decide (n ≤ x.1)) = true) ∧ ∃ y : Bel w, w' = y.w) := by
  have HI := Lib.hid hi
  have HB := Lib.hid hb
  have eg := egEnough
  clear hi hb
  go_enter Tryz.func109, Tryz.ntmps109
  go_wp2
  go_loopw [8] (fun iv wr => ∃ k : Nat, iv = .int .i64 (k : Int) ∧ k ≤ L.length ∧ (L.take k).any (fun x => decide (n ≤ x.1)) = false ∧ ∃ y : Bel w, wr = y.w) (fun iv _ => L.length - (intOf iv).toNat)
  case atStart => exact ⟨0, rfl, by omega, rfl, ⟨w, Below.refl _ _⟩, rfl⟩
  case round =>
    obtain ⟨k, rfl, hk, hA, y, rfl⟩ := hrel
    have HA := Lib.hid hA
    clear hA
    rcases Nat.lt_or_ge k L.length with hkl | hkl
    · obtain ⟨x, hx⟩ : ∃ x, L[k]? = some x := ⟨_, List.getElem?_eq_getElem hkl⟩
      obtain ⟨g, off, hadd, hg, hcs⟩ := HI.out (by omega)
      subst hadd
      obtain ⟨x0, x1, x2⟩ := hcs k x hx
      have f0 : decide ((k : Int) < (L.length : Int)) = true := decide_eq_true (by omega)
      have hib : (0 ≤ (k : Int) ∧ (k : Int) < (L.length : Int)) := ⟨by omega, by omega⟩
      have HC := Lib.hid (fun w' (hb' : Below w.heap.size w w') => enough1_any x n B w' (cell_in hb' HB.out))
      have HX := Lib.hid hx
      obtain ⟨xa, xn, xy⟩ := x
      obtain ⟨q, hq⟩ : ∃ q, decide (n ≤ xa) = q := ⟨_, rfl⟩
      dsimp only at x0 x1 x2 HC
      rw [hq] at HC
      have HQ := Lib.hid hq
      clear hcs hx hq
      cases q
      · go_wp2_with (go_at_fn 98; refine (HC.out _ (by (repeat' (first | (with_reducible first | apply Zl1 | apply Zl2 | apply Zl3 | apply Zl4 | apply Zl5 | apply Zl6 | apply Zl7 | apply Zl8 | apply Zl9 | apply Zla | apply Zlb | apply Zlc) | (dsimp only; with_reducible first | apply Zl8 | apply Zl2 | apply Zld) | with_reducible assumption | omega | (dsimp only; omega))))).mono ?_; rintro _ _ ⟨rfl, y1, rfl⟩)
        go_roundw
        case measure => simp [intOf]; omega
        case rel =>
          refine ⟨k + 1, by go_num, by omega, ?_, ⟨y1.w, by (repeat' (first | (with_reducible first | apply Zl1 | apply Zl2 | apply Zl3 | apply Zl4 | apply Zl5 | apply Zl6 | apply Zl7 | apply Zl8 | apply Zl9 | apply Zla | apply Zlb | apply Zlc) | (dsimp only; with_reducible first | apply Zl8 | apply Zl2 | apply Zld) | with_reducible assumption | omega | (dsimp only; omega)))⟩, rfl⟩
          rw [List.take_add_one, HX.out, List.any_append, HA.out]
          simp
          exact of_decide_eq_false HQ.out |> fun h => by omega
      · go_wp2_with (go_at_fn 98; refine (HC.out _ (by (repeat' (first | (with_reducible first | apply Zl1 | apply Zl2 | apply Zl3 | apply Zl4 | apply Zl5 | apply Zl6 | apply Zl7 | apply Zl8 | apply Zl9 | apply Zla | apply Zlb | apply Zlc) | (dsimp only; with_reducible first | apply Zl8 | apply Zl2 | apply Zld) | with_reducible assumption | omega | (dsimp only; omega))))).mono ?_; rintro _ _ ⟨rfl, y1, rfl⟩)
        go_ret
        refine ⟨_, rfl, ⟨fun _ => ?_, fun _ => by omega⟩, ⟨y1.w, by (repeat' (first | (with_reducible first | apply Zl1 | apply Zl2 | apply Zl3 | apply Zl4 | apply Zl5 | apply Zl6 | apply Zl7 | apply Zl8 | apply Zl9 | apply Zla | apply Zlb | apply Zlc) | (dsimp only; with_reducible first | apply Zl8 | apply Zl2 | apply Zld) | with_reducible assumption | omega | (dsimp only; omega)))⟩, rfl⟩
        rw [List.any_eq_true]
        exact ⟨_, List.mem_of_getElem? HX.out, HQ.out⟩
    · have hke : k = L.length := by omega
      subst hke
      have f0 : decide ((L.length : Int) < (L.length : Int)) = false := decide_eq_false (by omega)
      go_wp2
      go_ret
      have h := HA.out
      rw [List.take_length] at h
      exact ⟨_, rfl, ⟨fun h0 => by omega, fun h0 => by rw [h] at h0; cases h0⟩, ⟨_, by (repeat' (first | (with_reducible first | apply Zl1 | apply Zl2 | apply Zl3 | apply Zl4 | apply Zl5 | apply Zl6 | apply Zl7 | apply Zl8 | apply Zl9 | apply Zla | apply Zlb | apply Zlc) | (dsimp only; with_reducible first | apply Zl8 | apply Zl2 | apply Zld) | with_reducible assumption | omega | (dsimp only; omega)))⟩, rfl⟩
set_option maxRecDepth 100000 in
theorem dcontains_any (L : List (Int × Int × Int)) (ad : Option Addr) (cap : Nat) (n : Int) (B : Nat) (w : World) (hi : InD w.heap.size w ad L) (hb : w.cell? ⟨B, 0, none⟩ = some (.int .i64 n)) (hl : L.length ≤ 1000000) :
    Calls Tryz.prog 97 #[.slice ad L.length cap, .func (.func 98) #[] #[.pointer (some ⟨B, 0, none⟩)]] w (Ret (.bool (L.any (fun x => decide (n ≤ x.1)))) w) := by
  have HX := Lib.hid (dindex_any L ad cap n B w hi hb hl)
  obtain ⟨q, hq⟩ : ∃ q, L.any (fun x => decide (n ≤ x.1)) = q := ⟨_, rfl⟩
  rw [hq] at HX ⊢
  clear hi hb hq
  go_enter Tryz.func97, Tryz.ntmps97
  go_wp2_with fail
  refine HX.out.mono ?_
  rintro _ _ ⟨i, rfl, hi, y, rfl⟩
  have f0 : decide (0 ≤ i) = q := by
    cases q
    · exact decide_eq_false fun h0 => absurd (hi.1 h0) (by decide)
    · exact decide_eq_true (hi.2 rfl)
  clear hi
  dsimp only
  go_wp2
  go_ret
  exact Ret.mk (by rfl) (by (repeat' (first | (with_reducible first | apply Zl1 | apply Zl2 | apply Zl3 | apply Zl4 | apply Zl5 | apply Zl6 | apply Zl7 | apply Zl8 | apply Zl9 | apply Zla | apply Zlb | apply Zlc) | (dsimp only; with_reducible first | apply Zl8 | apply Zl2 | apply Zld) | with_reducible assumption | omega | (dsimp only; omega))))
def enoughD (L : List (Int × Int × Int)) (n : Int) : Bool := !L.any (fun x => decide (n ≤ x.1))
theorem enoughD_iff (L : List (Int × Int × Int)) (n : Int) : enoughD L n = true ↔ ∀ x ∈ L, x.1 < n := by
  unfold enoughD
  simp
set_option maxRecDepth 100000 in
theorem enough_any (L : List (Int × Int × Int)) (ad : Option Addr) (cap : Nat) (r n : Int) (w : World) (hi : InD w.heap.size w ad L) (hl : L.length ≤ 1000000) :
    Calls Tryz.prog 72 #[.agg #[.slice ad L.length cap, .int .i64 r], .int .i64 n] w (Ret (.bool (enoughD L n)) w) := by
  have HX := Lib.hid (fun w' B (hb : Below w.heap.size w w') (hc : w'.cell? ⟨B, 0, none⟩ = some (.int .i64 n)) => dcontains_any L ad cap n B w' ((hi.of hb).up hb.size) hc hl)
  obtain ⟨q, hq⟩ : ∃ q, L.any (fun x => decide (n ≤ x.1)) = q := ⟨_, rfl⟩
  unfold enoughD
  rw [hq] at HX ⊢
  clear hi hq
  go_enter Tryz.func72, Tryz.ntmps72
  go_wp2_with fail
  refine (HX.out _ _ (by (repeat' (first | (with_reducible first | apply Zl1 | apply Zl2 | apply Zl3 | apply Zl4 | apply Zl5 | apply Zl6 | apply Zl7 | apply Zl8 | apply Zl9 | apply Zla | apply Zlb | apply Zlc) | (dsimp only; with_reducible first | apply Zl8 | apply Zl2 | apply Zld) | with_reducible assumption | omega | (dsimp only; omega)))) (box1 (newAt1 w _ _))).mono ?_
  rintro _ _ ⟨rfl, y, rfl⟩
  dsimp only
  go_wp2
  go_ret
  exact Ret.mk (by rfl) (by (repeat' (first | (with_reducible first | apply Zl1 | apply Zl2 | apply Zl3 | apply Zl4 | apply Zl5 | apply Zl6 | apply Zl7 | apply Zl8 | apply Zl9 | apply Zla | apply Zlb | apply Zlc) | (dsimp only; with_reducible first | apply Zl8 | apply Zl2 | apply Zld) | with_reducible assumption | omega | (dsimp only; omega))))
end Go.Proofs.YtlnedapimmabdaaGreatDoor

namespace Go.Proofs.YtlnedapimmabdaaGreatDoor
set_option linter.unusedVariables false
set_option linter.unusedSimpArgs false
open Go.RowKit Go.Maps
attribute [local go_sem low] Bel.cell Bel.frozen alloc_cell alloc_frozen
attribute [local go_sem] calmOp chainOp yieldsC grows
variable {rk : Nat → Nat}

def boolsD (bl : List Bool) : List Value := bl.map Value.bool
end Go.Proofs.YtlnedapimmabdaaGreatDoor
