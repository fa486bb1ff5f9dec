/- Of, Range. -/
import Derived.Test.YtjojdkdpdlmahaaDoorC
namespace Go.Proofs.YtjojdkdpdlmahaaDoor
open Go.RowKit
attribute [local go_sem low] Bel.cell Bel.frozen alloc_cell alloc_frozen
attribute [local go_sem] calmOp chainOp yieldsC grows

/-- The set of some notes on top of another one; none if one is no note. -/
def ofF : Nat → Nat → List Int → Option (Nat × Nat)
  | lo, hi, [] => some (lo, hi)
  | lo, hi, z :: r => if 0 ≤ z ∧ z ≤ 127 then ofF (withLo lo z.toNat) (withHi hi z.toNat) r else none
/-- The set of those that are notes. -/
def ofR : Nat → Nat → List Int → Nat × Nat
  | lo, hi, [] => (lo, hi)
  | lo, hi, z :: r => if 0 ≤ z ∧ z ≤ 127 then ofR (withLo lo z.toNat) (withHi hi z.toNat) r else ofR lo hi r
def setV (a b : Nat) : Value := .agg #[.int .u64 (a : Int), .int .u64 (b : Int)]
def ofV (l : List Int) : Value := match ofF 0 0 l with
  | some (a, b) => .tuple #[.agg #[.int .u64 (a : Int), .int .u64 (b : Int)], .int .i64 0]
  | none => .tuple #[.agg #[.int .u64 0, .int .u64 0], .int .i64 3]
theorem ofV_some {l : List Int} {a b : Nat} (h : ofF 0 0 l = some (a, b)) : Value.tuple #[.agg #[.int .u64 (a : Int), .int .u64 (b : Int)], .int .i64 0] = ofV l := by unfold ofV; rw [h]
theorem ofV_none {l : List Int} (h : ofF 0 0 l = none) : Value.tuple #[.agg #[.int .u64 0, .int .u64 0], .int .i64 3] = ofV l := by unfold ofV; rw [h]
/-- The slice at block b holds these ints. -/
def IntsAt (w : World) (b off : Nat) (zs : List Int) : Prop := ∀ (i : Nat) (z : Int), zs[i]? = some z → w.cell? ⟨b, off + i, none⟩ = some (.int .i64 z)
theorem IntsAt.of {w w' : World} {b off : Nat} {zs : List Int} (h : IntsAt w b off zs) (hb : Below w.heap.size w w') : IntsAt w' b off zs := fun i z hz => cell_carry hb (h i z hz)
theorem drop_cons {α : Type} {l : List α} {k : Nat} {x : α} (h : l[k]? = some x) : l.drop k = x :: l.drop (k + 1) := by
  have hlt := (List.getElem?_eq_some_iff.1 h).1
  have h2 := (List.getElem?_eq_some_iff.1 h).2
  rw [List.drop_eq_getElem_cons hlt, h2]

set_option maxHeartbeats 1600000 in
theorem of_any (b off cap : Nat) (zs : List Int) (w : World) (hx : IntsAt w b off zs) (hm : zs.length ≤ 1000000) :
    Calls Tryd.prog 18 #[.slice (some ⟨b, off, none⟩) zs.length cap] w (Ret (ofV zs) w) := by
  go_enter Tryd.func18, Tryd.ntmps18
  go_wp2
  go_loopw [9] (fun i wr => ∃ (k lo hi : Nat), k ≤ zs.length ∧ i = .int .i64 (k : Int) ∧ lo < 18446744073709551616 ∧ hi < 18446744073709551616 ∧ ofF lo hi (zs.drop k) = ofF 0 0 zs ∧ Own2 wr w.heap.size (.int .u64 0) (.int .u64 0) ∧ Own2 wr (w.heap.size + 1) (.int .u64 (lo : Int)) (.int .u64 (hi : Int)) ∧ Below w.heap.size w wr ∧ w.heap.size + 2 ≤ wr.heap.size) (fun i _ => zs.length - (intOf i).toNat)
  case atStart =>
    refine ⟨0, 0, 0, by omega, rfl, by omega, by omega, rfl, ?_, ?_, by (repeat' (first | (with_reducible exact Below.refl _ _) | (with_reducible exact Nat.le_refl _) | (with_reducible refine Below.bel ?_ ?_) | (with_reducible refine Below.alloc ?_ ?_ _) | (with_reducible refine Below.drew ?_) | (with_reducible refine Below.drawsN ?_ _) | (with_reducible refine Below.setCell ?_ ?_ _) | (with_reducible refine le_bel ?_) | (with_reducible refine le_alloc ?_) | (with_reducible refine le_setCell ?_) | (with_reducible refine le_drew ?_) | (with_reducible refine le_drawsN ?_) | (dsimp only; with_reducible refine le_bel ?_) | (dsimp only; with_reducible refine Nat.le_refl _) | (dsimp only; with_reducible refine le_bel_add ?_) | (with_reducible assumption) | omega | (dsimp only; omega))), by simp⟩
    · unfold Own2; simp [go_sem]
    · unfold Own2; simp [go_sem]
  case round =>
    obtain ⟨k, lo, hi, hk, rfl, h1, h2, hs, ⟨o1, o2, o3, o4⟩, ⟨s1, s2, s3, s4⟩, hb, hsz⟩ := hrel
    have hbs := hb.size
    by_cases hlt : k < zs.length
    · obtain ⟨z, he⟩ : ∃ z, zs[k]? = some z := ⟨_, List.getElem?_eq_getElem hlt⟩
      have hc1 := cell_carry hb (hx k z he)
      rw [drop_cons he, ofF] at hs
      have HX := Lib.hid hx
      have HE := Lib.hid he
      clear hx he
      by_cases hz : 0 ≤ z ∧ z ≤ 127
      · rw [if_pos hz] at hs
        obtain ⟨n, rfl⟩ := Int.eq_ofNat_of_zero_le hz.1
        have e1 : decide (0 ≤ (n : Int) ∧ (n : Int) ≤ 127) = true := by simpa using hz.2
        rw [Int.toNat_natCast] at hs
        have hn : n ≤ 127 := by omega
        have q1 := withLo_lt n h1
        have q2 := withHi_lt n h2 hn
        have HS := Lib.hid hs
        have E1 := Lib.hid e1
        clear hs hz e1
        go_wp2_with fail
        (with_reducible refine (isNote_any _ _).mono ?_)
        rintro _ _ ⟨rfl, rfl⟩
        rw [E1.out]
        go_wp2_with fail
        (with_reducible refine (with_any _ _ _ _ h1 h2 hn).mono ?_)
        rintro _ _ ⟨rfl, y, rfl⟩
        have hys := y.size_le
        generalize withLo lo n = lo' at *
        generalize withHi hi n = hi' at *
        go_wp2
        go_roundw
        case rel =>
          refine ⟨k + 1, lo', hi', by omega, by go_num, q1, q2, HS.out, ?_, ?_, by (repeat' (first | (with_reducible exact Below.refl _ _) | (with_reducible exact Nat.le_refl _) | (with_reducible refine Below.bel ?_ ?_) | (with_reducible refine Below.alloc ?_ ?_ _) | (with_reducible refine Below.drew ?_) | (with_reducible refine Below.drawsN ?_ _) | (with_reducible refine Below.setCell ?_ ?_ _) | (with_reducible refine le_bel ?_) | (with_reducible refine le_alloc ?_) | (with_reducible refine le_setCell ?_) | (with_reducible refine le_drew ?_) | (with_reducible refine le_drawsN ?_) | (dsimp only; with_reducible refine le_bel ?_) | (dsimp only; with_reducible refine Nat.le_refl _) | (dsimp only; with_reducible refine le_bel_add ?_) | (with_reducible assumption) | omega | (dsimp only; omega))), by simp; omega⟩
          · unfold Own2; simp [go_sem, o1, o2, o3, o4]
          · unfold Own2; simp [go_sem, s1, s2, s3, s4]
        case measure => simp [intOf]; omega
      · rw [if_neg hz] at hs
        have e1 : decide (0 ≤ z ∧ z ≤ 127) = false := by simpa using hz
        have HS := Lib.hid (ofV_none hs.symm)
        have E1 := Lib.hid e1
        clear hs hz e1
        go_wp2_with fail
        (with_reducible refine (isNote_any _ _).mono ?_)
        rintro _ _ ⟨rfl, rfl⟩
        rw [E1.out]
        go_wp2
        refine bodyPost_ret (v := .tuple #[.agg #[.int .u64 0, .int .u64 0], .int .i64 3]) (by simp [results, Tryd.results18, go_sem, o1, o2, o3, o4]) rfl (Ret.mk (by exact HS.out) (by (repeat' (first | (with_reducible exact Below.refl _ _) | (with_reducible exact Nat.le_refl _) | (with_reducible refine Below.bel ?_ ?_) | (with_reducible refine Below.alloc ?_ ?_ _) | (with_reducible refine Below.drew ?_) | (with_reducible refine Below.drawsN ?_ _) | (with_reducible refine Below.setCell ?_ ?_ _) | (with_reducible refine le_bel ?_) | (with_reducible refine le_alloc ?_) | (with_reducible refine le_setCell ?_) | (with_reducible refine le_drew ?_) | (with_reducible refine le_drawsN ?_) | (dsimp only; with_reducible refine le_bel ?_) | (dsimp only; with_reducible refine Nat.le_refl _) | (dsimp only; with_reducible refine le_bel_add ?_) | (with_reducible assumption) | omega | (dsimp only; omega)))))
    · obtain rfl : k = zs.length := by omega
      rw [List.drop_length, ofF] at hs
      have HS := Lib.hid (ofV_some hs.symm)
      clear hs
      go_wp2
      refine bodyPost_ret (v := .tuple #[.agg #[.int .u64 lo, .int .u64 hi], .int .i64 0]) (by simp [results, Tryd.results18, go_sem, o1, o2, o3, o4, s1, s2, s3, s4]) rfl (Ret.mk (by exact HS.out) (by (repeat' (first | (with_reducible exact Below.refl _ _) | (with_reducible exact Nat.le_refl _) | (with_reducible refine Below.bel ?_ ?_) | (with_reducible refine Below.alloc ?_ ?_ _) | (with_reducible refine Below.drew ?_) | (with_reducible refine Below.drawsN ?_ _) | (with_reducible refine Below.setCell ?_ ?_ _) | (with_reducible refine le_bel ?_) | (with_reducible refine le_alloc ?_) | (with_reducible refine le_setCell ?_) | (with_reducible refine le_drew ?_) | (with_reducible refine le_drawsN ?_) | (dsimp only; with_reducible refine le_bel ?_) | (dsimp only; with_reducible refine Nat.le_refl _) | (dsimp only; with_reducible refine le_bel_add ?_) | (with_reducible assumption) | omega | (dsimp only; omega)))))
theorem of_empty (p : Option Addr) (cap : Nat) (w : World) : Calls Tryd.prog 18 #[.slice p 0 cap] w (Ret (ofV []) w) := by
  have H := Lib.hid (ofV_some (show ofF 0 0 [] = some (0, 0) from rfl))
  go_enter Tryd.func18, Tryd.ntmps18
  go_wp2
  refine wp_loop_rounds 1 ?_
  rw [rounds_succ]
  go_wp2
  refine bodyPost_ret (v := .tuple #[.agg #[.int .u64 0, .int .u64 0], .int .i64 0]) (by simp [results, Tryd.results18, go_sem]) rfl (Ret.mk (by exact H.out) (by (repeat' (first | (with_reducible exact Below.refl _ _) | (with_reducible exact Nat.le_refl _) | (with_reducible refine Below.bel ?_ ?_) | (with_reducible refine Below.alloc ?_ ?_ _) | (with_reducible refine Below.drew ?_) | (with_reducible refine Below.drawsN ?_ _) | (with_reducible refine Below.setCell ?_ ?_ _) | (with_reducible refine le_bel ?_) | (with_reducible refine le_alloc ?_) | (with_reducible refine le_setCell ?_) | (with_reducible refine le_drew ?_) | (with_reducible refine le_drawsN ?_) | (dsimp only; with_reducible refine le_bel ?_) | (dsimp only; with_reducible refine Nat.le_refl _) | (dsimp only; with_reducible refine le_bel_add ?_) | (with_reducible assumption) | omega | (dsimp only; omega)))))
theorem refof_empty (p : Option Addr) (cap : Nat) (w : World) : Calls Tryd.prog 19 #[.slice p 0 cap] w (Ret (.agg #[.int .u64 0, .int .u64 0]) w) := by
  go_enter Tryd.func19, Tryd.ntmps19
  go_wp2
  refine wp_loop_rounds 1 ?_
  rw [rounds_succ]
  go_wp2
  refine bodyPost_ret (v := .agg #[.int .u64 0, .int .u64 0]) (by simp [results, Tryd.results19, go_sem]) rfl (Ret.mk (by rfl) (by (repeat' (first | (with_reducible exact Below.refl _ _) | (with_reducible exact Nat.le_refl _) | (with_reducible refine Below.bel ?_ ?_) | (with_reducible refine Below.alloc ?_ ?_ _) | (with_reducible refine Below.drew ?_) | (with_reducible refine Below.drawsN ?_ _) | (with_reducible refine Below.setCell ?_ ?_ _) | (with_reducible refine le_bel ?_) | (with_reducible refine le_alloc ?_) | (with_reducible refine le_setCell ?_) | (with_reducible refine le_drew ?_) | (with_reducible refine le_drawsN ?_) | (dsimp only; with_reducible refine le_bel ?_) | (dsimp only; with_reducible refine Nat.le_refl _) | (dsimp only; with_reducible refine le_bel_add ?_) | (with_reducible assumption) | omega | (dsimp only; omega)))))
set_option maxHeartbeats 1600000 in
theorem refof_any (b off cap : Nat) (zs : List Int) (w : World) (hx : IntsAt w b off zs) (hm : zs.length ≤ 1000000) :
    Calls Tryd.prog 19 #[.slice (some ⟨b, off, none⟩) zs.length cap] w (Ret (setV (ofR 0 0 zs).1 (ofR 0 0 zs).2) w) := by
  go_enter Tryd.func19, Tryd.ntmps19
  go_wp2
  go_loopw [4] (fun i wr => ∃ (k lo hi : Nat), k ≤ zs.length ∧ i = .int .i64 (k : Int) ∧ lo < 18446744073709551616 ∧ hi < 18446744073709551616 ∧ ofR lo hi (zs.drop k) = ofR 0 0 zs ∧ Own2 wr w.heap.size (.int .u64 0) (.int .u64 0) ∧ Own2 wr (w.heap.size + 1) (.int .u64 (lo : Int)) (.int .u64 (hi : Int)) ∧ Below w.heap.size w wr ∧ w.heap.size + 2 ≤ wr.heap.size) (fun i _ => zs.length - (intOf i).toNat)
  case atStart =>
    refine ⟨0, 0, 0, by omega, rfl, by omega, by omega, rfl, ?_, ?_, by (repeat' (first | (with_reducible exact Below.refl _ _) | (with_reducible exact Nat.le_refl _) | (with_reducible refine Below.bel ?_ ?_) | (with_reducible refine Below.alloc ?_ ?_ _) | (with_reducible refine Below.drew ?_) | (with_reducible refine Below.drawsN ?_ _) | (with_reducible refine Below.setCell ?_ ?_ _) | (with_reducible refine le_bel ?_) | (with_reducible refine le_alloc ?_) | (with_reducible refine le_setCell ?_) | (with_reducible refine le_drew ?_) | (with_reducible refine le_drawsN ?_) | (dsimp only; with_reducible refine le_bel ?_) | (dsimp only; with_reducible refine Nat.le_refl _) | (dsimp only; with_reducible refine le_bel_add ?_) | (with_reducible assumption) | omega | (dsimp only; omega))), by simp⟩
    · unfold Own2; simp [go_sem]
    · unfold Own2; simp [go_sem]
  case round =>
    obtain ⟨k, lo, hi, hk, rfl, h1, h2, hs, ⟨o1, o2, o3, o4⟩, ⟨s1, s2, s3, s4⟩, hb, hsz⟩ := hrel
    have hbs := hb.size
    by_cases hlt : k < zs.length
    · obtain ⟨z, he⟩ : ∃ z, zs[k]? = some z := ⟨_, List.getElem?_eq_getElem hlt⟩
      have hc1 := cell_carry hb (hx k z he)
      rw [drop_cons he, ofR] at hs
      have HX := Lib.hid hx
      have HE := Lib.hid he
      clear hx he
      have hki : (k : Int) < (zs.length : Int) := by omega
      by_cases hz : 0 ≤ z ∧ z ≤ 127
      · rw [if_pos hz] at hs
        obtain ⟨n, rfl⟩ := Int.eq_ofNat_of_zero_le hz.1
        rw [Int.toNat_natCast] at hs
        have hn : n ≤ 127 := by omega
        have hn' : (n : Int) ≤ 127 := by omega
        have q1 := withLo_lt n h1
        have q2 := withHi_lt n h2 hn
        have HS := Lib.hid hs
        clear hs hz
        go_wp2_with fail
        refine wp_region_belT 6 (by kernel_rfl) (by kernel_rfl) ?_
        simp only [List.take_succ_cons, List.take_zero, List.drop_succ_cons, List.drop_zero]
        repeat (go_big_quiet_step ((go_at_call 42; exact bel_of (refwith_any _ _ _ _ h1 h2 hn))))
        refine wpQuiet_nil ?_
        rintro _ ⟨y, rfl⟩
        have hys := y.size_le
        generalize withLo lo n = lo' at *
        generalize withHi hi n = hi' at *
        go_wp2
        go_roundw
        case rel =>
          refine ⟨k + 1, lo', hi', by omega, by go_num, q1, q2, HS.out, ?_, ?_, by (repeat' (first | (with_reducible exact Below.refl _ _) | (with_reducible exact Nat.le_refl _) | (with_reducible refine Below.bel ?_ ?_) | (with_reducible refine Below.alloc ?_ ?_ _) | (with_reducible refine Below.drew ?_) | (with_reducible refine Below.drawsN ?_ _) | (with_reducible refine Below.setCell ?_ ?_ _) | (with_reducible refine le_bel ?_) | (with_reducible refine le_alloc ?_) | (with_reducible refine le_setCell ?_) | (with_reducible refine le_drew ?_) | (with_reducible refine le_drawsN ?_) | (dsimp only; with_reducible refine le_bel ?_) | (dsimp only; with_reducible refine Nat.le_refl _) | (dsimp only; with_reducible refine le_bel_add ?_) | (with_reducible assumption) | omega | (dsimp only; omega))), by simp; omega⟩
          · unfold Own2; simp [go_sem, o1, o2, o3, o4]
          · unfold Own2; simp [go_sem, s1, s2, s3, s4]
        case measure => simp [intOf]; omega
      · rw [if_neg hz] at hs
        have HS := Lib.hid hs
        clear hs
        by_cases hz0 : 0 ≤ z
        · have e0 : decide (0 ≤ z) = true := by simpa using hz0
          have e1 : decide (z ≤ 127) = false := by simp; omega
          clear hz
          go_wp2
          go_roundw
          case rel => exact ⟨k + 1, lo, hi, by omega, by go_num, h1, h2, HS.out, ⟨o1, o2, o3, o4⟩, ⟨s1, s2, s3, s4⟩, hb, hsz⟩
          case measure => simp [intOf]; omega
        · have e0 : decide (0 ≤ z) = false := by simpa using hz0
          clear hz
          go_wp2
          go_roundw
          case rel => exact ⟨k + 1, lo, hi, by omega, by go_num, h1, h2, HS.out, ⟨o1, o2, o3, o4⟩, ⟨s1, s2, s3, s4⟩, hb, hsz⟩
          case measure => simp [intOf]; omega
    · obtain rfl : k = zs.length := by omega
      rw [List.drop_length, ofR] at hs
      have HS := Lib.hid hs
      clear hs
      go_wp2
      refine bodyPost_ret (v := .agg #[.int .u64 lo, .int .u64 hi]) (by simp [results, Tryd.results19, go_sem, o1, o2, o3, o4, s1, s2, s3, s4]) rfl (Ret.mk (by rw [← HS.out]; rfl) (by (repeat' (first | (with_reducible exact Below.refl _ _) | (with_reducible exact Nat.le_refl _) | (with_reducible refine Below.bel ?_ ?_) | (with_reducible refine Below.alloc ?_ ?_ _) | (with_reducible refine Below.drew ?_) | (with_reducible refine Below.drawsN ?_ _) | (with_reducible refine Below.setCell ?_ ?_ _) | (with_reducible refine le_bel ?_) | (with_reducible refine le_alloc ?_) | (with_reducible refine le_setCell ?_) | (with_reducible refine le_drew ?_) | (with_reducible refine le_drawsN ?_) | (dsimp only; with_reducible refine le_bel ?_) | (dsimp only; with_reducible refine Nat.le_refl _) | (dsimp only; with_reducible refine le_bel_add ?_) | (with_reducible assumption) | omega | (dsimp only; omega)))))
end Go.Proofs.YtjojdkdpdlmahaaDoor
