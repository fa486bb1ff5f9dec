/- The reader of formulas: where the inputs of a join stand in its text. The reader of formulas: the inputs of a join. -/
import Derived.Test.YtkbellmhanpocaaGreatDoorI3
namespace Go.Proofs.YtkbellmhanpocaaGreatDoor
set_option linter.unusedVariables false
set_option linter.unusedSimpArgs false
open Go.RowKit Go.Shelf F

theorem txtL_split3 (A : List F) (u : F) (B : List F) : txtL (A ++ u :: B) = txtL A ++ ((if A = [] then [] else [32]) ++ (txt u ++ txtR B)) := by
  cases A with
  | nil => rw [List.nil_append, if_pos rfl, txtL, txtL]; rfl
  | cons t r =>
    rw [if_neg (fun h => by cases h), List.cons_append, txtL, txtL, txtR_app, txtR, List.append_assoc]
    rfl
/-- Where the k-th input begins, behind a bracket at p. -/
def posL (l : List F) (k : Nat) : Nat := 1 + (txtL (l.take k)).length + (if k = 0 then 0 else 1)
theorem seg_at {p r : List UInt8} {l : List F} {k : Nat} {u : F} (h : l[k]? = some u) : ∃ p' r', p ++ (40 :: (txtL l ++ (41 :: r))) = p' ++ (txt u ++ r') ∧ p'.length = p.length + posL l k ∧ stopD r' = true ∧
    byteAt r' 0 = (if k + 1 = l.length then 41 else 32) := by
  have hk := (List.getElem?_eq_some_iff.1 h).1
  have hl : l = l.take k ++ u :: l.drop (k + 1) := by
    conv => lhs; rw [← List.take_append_drop k l, drop_at h]
  have h0 : (l.take k = []) ↔ k = 0 := by
    rw [← List.length_eq_zero_iff, List.length_take]
    omega
  refine ⟨p ++ (40 :: (txtL (l.take k) ++ (if k = 0 then [] else [32]))), txtR (l.drop (k + 1)) ++ (41 :: r), ?_, ?_, ?_, ?_⟩
  · conv => lhs; rw [hl, txtL_split3]
    by_cases hk0 : k = 0
    · rw [if_pos (h0.2 hk0), if_pos hk0]
      simp only [List.append_assoc, List.cons_append, List.nil_append, List.append_nil]
    · rw [if_neg (fun e => hk0 (h0.1 e)), if_neg hk0]
      simp only [List.append_assoc, List.cons_append, List.nil_append]
  · unfold posL
    simp only [List.length_append, List.length_cons]
    by_cases hk0 : k = 0
    · rw [if_pos hk0, if_pos hk0]; simp only [List.length_nil]; omega
    · rw [if_neg hk0, if_neg hk0]; simp only [List.length_cons, List.length_nil]; omega
  · cases l.drop (k + 1) <;> rfl
  · by_cases he : k + 1 = l.length
    · rw [if_pos he, he, List.drop_length]; rfl
    · rw [if_neg he]
      obtain ⟨v, hv⟩ := some_at (l := l) (k := k + 1) (by omega)
      rw [drop_at hv]
      rfl
theorem posL_next {l : List F} {k : Nat} {u : F} (h : l[k]? = some u) : posL l (k + 1) = posL l k + (txt u).length + 1 := by
  unfold posL
  have h1 : (if k + 1 = 0 then (0 : Nat) else 1) = 1 := if_neg (by omega)
  rw [txtL_take h, List.length_append, h1]
  by_cases hk0 : k = 0
  · rw [if_pos hk0, if_pos hk0]; omega
  · rw [if_neg hk0, if_neg hk0, List.length_cons]; omega
theorem posL_end {l : List F} (h : l ≠ []) : posL l l.length = (txtL l).length + 2 := by
  unfold posL
  rw [List.take_length, if_neg (fun e => h (List.length_eq_zero_iff.1 e))]
  omega
theorem posL_zero (l : List F) : posL l 0 = 1 := by
  unfold posL
  rw [List.take_zero, txtL, if_pos rfl]
  rfl
end Go.Proofs.YtkbellmhanpocaaGreatDoor

namespace Go.Proofs.YtkbellmhanpocaaGreatDoor
set_option linter.unusedVariables false
set_option linter.unusedSimpArgs false
open Go.RowKit Go.Shelf F
attribute [local go_sem low] Bel.cell Bel.frozen alloc_cell alloc_frozen

theorem txt_byte {t : F} (h : okT t) (r : List UInt8) : ∃ c, byteAt (txt t ++ r) 0 = c ∧ c.toNat ≠ 41 := by
  cases t with
  | nd k a l =>
    obtain ⟨c, x, e1, e2⟩ := txt_head h.1
    refine ⟨c, by rw [e1]; rfl, fun h41 => ?_⟩
    have hk := ok_range h.1
    rw [e2] at h41
    have hk' : k = 1 ∨ k = 2 ∨ k = 3 ∨ k = 4 ∨ k = 5 ∨ k = 6 := by omega
    rcases hk' with rfl | rfl | rfl | rfl | rfl | rfl <;> exact absurd h41 (by decide)
theorem byteAt_app (p q : List UInt8) (k : Nat) : byteAt (p ++ q) (p.length + k) = byteAt q k := by
  unfold byteAt
  rw [List.getD_eq_getElem?_getD, List.getElem?_append_right (by omega), Nat.add_sub_cancel_left, List.getD_eq_getElem?_getD]
/-- What reading a formula does, at the trees of a list. -/
def ReadsF (b : Nat) (l : List F) : Prop := ∀ u ∈ l, ∀ (p r : List UInt8) (w : World), stopD r = true → (p ++ (txt u ++ r)).length ≤ 1000000 → RdAt w b (p ++ (txt u ++ r)) p.length →
  Calls Tryz.prog 48 #[.pointer (some ⟨b, 0, none⟩)] w (RdRet b (p ++ (txt u ++ r)) (p.length + (txt u).length) u w)
set_option maxRecDepth 100000 in
set_option maxHeartbeats 6400000 in
theorem list_nil (b : Nat) (k0 : Int) (p r : List UInt8) (w : World) (hS : (p ++ (40 :: 41 :: r)).length ≤ 1000000) (h : RdAt w b (p ++ (40 :: 41 :: r)) p.length) :
    Calls Tryz.prog 61 #[.pointer (some ⟨b, 0, none⟩), .agg #[.int .i64 k0, .int .i64 0, .slice none 0 0]] w (RdRet b (p ++ (40 :: 41 :: r)) (p.length + 2) (nd k0 0 []) w) := by
  have hbw := h.lt
  have hpl : p.length + 2 ≤ 1000000 := by simp only [List.length_append, List.length_cons] at hS; omega
  have hb0 := byteAt_app p (40 :: 41 :: r) 0
  have hb1 := byteAt_app p (40 :: 41 :: r) 1
  rw [show byteAt (40 :: 41 :: r) 0 = 40 from rfl, Nat.add_zero] at hb0
  rw [show byteAt (40 :: 41 :: r) 1 = 41 from rfl] at hb1
  obtain ⟨S, hSe⟩ : ∃ S, p ++ (40 :: 41 :: r) = S := ⟨_, rfl⟩
  rw [hSe] at h hS hb0 hb1 ⊢
  clear hSe
  have HR := Lib.hid h
  have HN0 := Lib.hid (fun w' (h : RdAt w' b S p.length) => next_any b S p.length w' h hS (by omega))
  have HN1 := Lib.hid (fun w' (h : RdAt w' b S (p.length + 1)) => next_any b S (p.length + 1) w' h hS (by omega))
  rw [hb0, show ((40 : UInt8).toNat : Int) = 40 from rfl] at HN0
  rw [hb1, show ((41 : UInt8).toNat : Int) = 41 from rfl] at HN1
  clear h hb0 hb1
  go_enter Tryz.func61, Tryz.ntmps61
  go_wp2_with fail
  refine (HN0.out _ (HR.out.of (by (repeat' (first | (with_reducible exact Below.refl _ _) | (with_reducible exact Nat.le_refl _) | (with_reducible refine Below.bel ?_ ?_) | (with_reducible refine Below.alloc ?_ ?_ _) | (with_reducible refine Below.drew ?_) | (with_reducible refine Below.drawsN ?_ _) | (with_reducible refine Below.setCell ?_ ?_ _) | (with_reducible refine le_bel ?_) | (with_reducible refine le_alloc ?_) | (with_reducible refine le_setCell ?_) | (with_reducible refine le_drew ?_) | (with_reducible refine le_drawsN ?_) | (dsimp only; with_reducible refine le_bel ?_) | (dsimp only; with_reducible refine Nat.le_refl _) | (dsimp only; with_reducible refine le_bel_add ?_) | (with_reducible assumption) | omega | (dsimp only; omega)))))).mono ?_
  rintro _ _ ⟨rfl, y1, rfl⟩
  have hs1 := y1.size_le
  simp at hs1
  have hr1 := HR.out.of (by (repeat' (first | (with_reducible exact Below.refl _ _) | (with_reducible exact Nat.le_refl _) | (with_reducible refine Below.bel ?_ ?_) | (with_reducible refine Below.alloc ?_ ?_ _) | (with_reducible refine Below.drew ?_) | (with_reducible refine Below.drawsN ?_ _) | (with_reducible refine Below.setCell ?_ ?_ _) | (with_reducible refine le_bel ?_) | (with_reducible refine le_alloc ?_) | (with_reducible refine le_setCell ?_) | (with_reducible refine le_drew ?_) | (with_reducible refine le_drawsN ?_) | (dsimp only; with_reducible refine le_bel ?_) | (dsimp only; with_reducible refine Nat.le_refl _) | (dsimp only; with_reducible refine le_bel_add ?_) | (with_reducible assumption) | omega | (dsimp only; omega))) : Below w.heap.size w y1.w)
  obtain ⟨g0, g1, g2, g3⟩ := box2 hr1
  have hm := hr1.move (p.length + 1)
  rw [show ((p.length + 1 : Nat) : Int) = (p.length : Int) + 1 by omega] at hm
  have HM := Lib.hid hm
  have hO0 := obj_ne (c := b) (i := 1) (.int .i64 ((p.length : Int) + 1)) (by omega) (obj_bel y1 (heap2_0 w (.cells #[.int .i64 k0, .int .i64 0, .slice none 0 0] 26) (.cells #[.int .i64 0, .int .i64 0, .slice none 0 0] 26)))
  have hO1 := obj_ne (c := b) (i := 1) (.int .i64 ((p.length : Int) + 1)) (by omega) (obj_bel y1 (heap2_1 w (.cells #[.int .i64 k0, .int .i64 0, .slice none 0 0] 26) (.cells #[.int .i64 0, .int .i64 0, .slice none 0 0] 26)))
  have HO := Lib.hid (And.intro hO0 hO1)
  clear hr1 hm hO0 hO1
  dsimp only
  go_wp2_with fail
  refine (HN1.out _ HM.out).mono ?_
  rintro _ _ ⟨rfl, y2, rfl⟩
  have hr2 := HM.out.of y2.below
  obtain ⟨f0, f1, f2, f3⟩ := box2 hr2
  obtain ⟨k0', k1, k2⟩ := box3 (obj_ne (c := b) (i := 1) (.int .i64 ((p.length : Int) + 1 + 1)) (by omega) (obj_bel y2 HO.out.1))
  have hres := obj_ne (c := b) (i := 1) (.int .i64 ((p.length : Int) + 1 + 1)) (by omega) (obj_bel y2 HO.out.2)
  obtain ⟨r0, r1, r2⟩ := box3 hres
  obtain ⟨q0, q1, q2⟩ := box3f hres
  have hm2 := hr2.move (p.length + 2)
  rw [show ((p.length + 2 : Nat) : Int) = (p.length : Int) + 1 + 1 by omega] at hm2
  dsimp only
  go_wp2
  have hR := obj_set3 (.int .i64 k0) (.int .i64 0) (.slice none 0 0) hres
  obtain ⟨s0, s1, s2⟩ := box3 hR
  have hrk : RK b w (y2.w.setCell ⟨b, 1, none⟩ (.int .i64 ((p.length : Int) + 1 + 1))) :=
    (((RK.bel (by (repeat' (first | (with_reducible exact Below.refl _ _) | (with_reducible exact Nat.le_refl _) | (with_reducible refine Below.bel ?_ ?_) | (with_reducible refine Below.alloc ?_ ?_ _) | (with_reducible refine Below.drew ?_) | (with_reducible refine Below.drawsN ?_ _) | (with_reducible refine Below.setCell ?_ ?_ _) | (with_reducible refine le_bel ?_) | (with_reducible refine le_alloc ?_) | (with_reducible refine le_setCell ?_) | (with_reducible refine le_drew ?_) | (with_reducible refine le_drawsN ?_) | (dsimp only; with_reducible refine le_bel ?_) | (dsimp only; with_reducible refine Nat.le_refl _) | (dsimp only; with_reducible refine le_bel_add ?_) | (with_reducible assumption) | omega | (dsimp only; omega))) : Below w.heap.size w y1.w) (by omega)).trans (RK.set _)).trans (RK.bel y2.below (by simp; omega))).trans (RK.set _)
  refine bodyPost_ret (v := .tuple #[.agg #[.int .i64 k0, .int .i64 0, .slice none 0 0], .bool true]) (by simp [results, Tryz.results61, go_sem, s0, s1, s2]) rfl ⟨_, rfl, ⟨none, 0, rfl, insF_nil _ _ _⟩, ?_, ?_⟩
  · exact obj_ne _ (by omega) (obj_ne _ (by omega) (obj_ne _ (by omega) hm2))
  · exact ((hrk.setNew (by omega) (by omega) _).setNew (by omega) (by omega) _).setNew (by omega) (by omega) _
end Go.Proofs.YtkbellmhanpocaaGreatDoor
