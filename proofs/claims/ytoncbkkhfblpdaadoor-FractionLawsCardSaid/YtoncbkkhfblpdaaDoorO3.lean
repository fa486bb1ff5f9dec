/- Parse. -/
import Derived.Test.YtoncbkkhfblpdaaDoorO2
namespace Go.Proofs.YtoncbkkhfblpdaaDoor
open Go.RowKit
attribute [local go_sem low] Bel.cell Bel.frozen alloc_cell alloc_frozen

/-- The parts that a text without its sign writes: the whole number, and that over and under the line. -/
def parV (s : List UInt8) : Int × Int × Int × Bool :=
  if nd s = 0 then (0, quoV s) else
    match s.drop (nd s) with
    | [] => (num s, 0, 1, true)
    | c :: t => if c.toNat = 32 then (num s, quoV t) else (0, quoV s)
def fin (sg : Int) (p : Int × Int × Int × Bool) : Int × Int × Int :=
  if p.2.2.2 = false then (0, 0, 15) else
    if p.1 > 1000000 ∨ p.2.1 > 1000000 ∨ p.2.2.1 > 1000000 then (0, 0, 4) else
      (mk1 (sg * (p.1 * p.2.2.1 + p.2.1)) p.2.2.1, mk2 (sg * (p.1 * p.2.2.1 + p.2.1)) p.2.2.1, mk3 (sg * (p.1 * p.2.2.1 + p.2.1)) p.2.2.1)
/-- What a text writes: the numerator, the denominator, the error. -/
def parseL (l : List UInt8) : Int × Int × Int :=
  match l with
  | [] => (0, 0, 13)
  | c :: t => if 40 < (c :: t).length then (0, 0, 16) else if c.toNat = 45 then fin (-1) (parV t) else fin 1 (parV (c :: t))
theorem fin_no {sg a w b : Int} : fin sg (a, w, b, false) = (0, 0, 15) := rfl
theorem fin_big {sg a w b : Int} (h : a > 1000000 ∨ w > 1000000 ∨ b > 1000000) : fin sg (a, w, b, true) = (0, 0, 4) := by
  unfold fin; rw [if_neg (by simp), if_pos h]
theorem fin_ok {sg a w b : Int} (h1 : a ≤ 1000000) (h2 : w ≤ 1000000) (h3 : b ≤ 1000000) :
    fin sg (a, w, b, true) = (mk1 (sg * (a * b + w)) b, mk2 (sg * (a * b + w)) b, mk3 (sg * (a * b + w)) b) := by
  unfold fin; rw [if_neg (by simp), if_neg (by dsimp only; omega)]
theorem quoV_bd (l : List UInt8) : 0 ≤ (quoV l).1 ∧ (quoV l).1 ≤ 1000001 ∧ 0 ≤ (quoV l).2.1 ∧ (quoV l).2.1 ≤ 1000001 := by
  have h1 := num_bd l
  unfold quoV
  split
  · decide
  · split
    · decide
    · rename_i c t _
      have h2 := num_bd t
      split
      · exact ⟨h1.1, h1.2, h2.1, h2.2⟩
      · decide
theorem parV_zero {s : List UInt8} (h : nd s = 0) : parV s = (0, quoV s) := by unfold parV; rw [if_pos h]
theorem quoV_zero {s : List UInt8} (h : nd s = 0) : quoV s = (0, 0, false) := by unfold quoV; rw [if_pos h]
theorem parV_nil {s : List UInt8} (h : nd s ≠ 0) (hr : s.drop (nd s) = []) : parV s = (num s, 0, 1, true) := by unfold parV; rw [if_neg h, hr]
theorem parV_space {s t : List UInt8} {c : UInt8} (h : nd s ≠ 0) (hr : s.drop (nd s) = c :: t) (hc : c.toNat = 32) : parV s = (num s, quoV t) := by
  unfold parV; rw [if_neg h, hr]; dsimp only; rw [if_pos hc]
theorem parV_other {s t : List UInt8} {c : UInt8} (h : nd s ≠ 0) (hr : s.drop (nd s) = c :: t) (hc : c.toNat ≠ 32) : parV s = (0, quoV s) := by
  unfold parV; rw [if_neg h, hr]; dsimp only; rw [if_neg hc]
theorem ret_triple {p : Int × Int × Int} {a b c : Int} (h : p = (a, b, c)) : Value.tuple #[.agg #[.int .i64 a, .int .i64 b], .int .i64 c] = .tuple #[.agg #[.int .i64 p.1, .int .i64 p.2.1], .int .i64 p.2.2] := by
  rw [h]
theorem ba_ne (c : UInt8) (t : List UInt8) : ((ByteArray.mk (c :: t).toArray).toList == ([] : List UInt8)) = false := by rw [ByteArray.toList_mk]; rfl
theorem mul_bd6 {a b : Int} (h1 : 0 ≤ a) (h2 : a ≤ 1000000) (h3 : 0 ≤ b) (h4 : b ≤ 1000000) : 0 ≤ a * b ∧ a * b ≤ 1000000000000 := by
  refine ⟨Int.mul_nonneg h1 h3, ?_⟩
  have := Int.mul_le_mul h2 h4 h3 (by omega : (0 : Int) ≤ 1000000)
  omega

set_option maxRecDepth 20000 in
set_option maxHeartbeats 6400000 in
theorem parse_any (l : List UInt8) (w : World) (hl : l.length ≤ 60) :
    Calls Tryd.prog 26 #[.string ⟨l.toArray⟩] w (Ret (.tuple #[.agg #[.int .i64 (parseL l).1, .int .i64 (parseL l).2.1], .int .i64 (parseL l).2.2]) w) := by
  cases hc0 : l with
  | nil =>
    go_enter Tryd.func26, Tryd.ntmps26
    go_wp2
    refine bodyPost_ret (v := .tuple #[.agg #[.int .i64 0, .int .i64 0], .int .i64 13]) (by simp [results, Tryd.results26, go_sem]) rfl (Ret.mk (by exact ret_triple (p := parseL []) rfl) (by (repeat' (first | (with_reducible exact Below.refl _ _) | (with_reducible exact Nat.le_refl _) | (with_reducible refine Below.bel ?_ ?_) | (with_reducible refine Below.alloc ?_ ?_ _) | (with_reducible refine Below.drew ?_) | (with_reducible refine Below.drawsN ?_ _) | (with_reducible refine Below.setCell ?_ ?_ _) | (with_reducible refine le_bel ?_) | (with_reducible refine le_alloc ?_) | (with_reducible refine le_setCell ?_) | (with_reducible refine le_drew ?_) | (with_reducible refine le_drawsN ?_) | (dsimp only; with_reducible refine le_bel ?_) | (dsimp only; with_reducible refine Nat.le_refl _) | (dsimp only; with_reducible refine le_bel_add ?_) | (with_reducible assumption) | omega | (dsimp only; omega)))))
  | cons c0 t0 =>
    rw [← hc0]
    have hln : l.length = t0.length + 1 := by rw [hc0]; rfl
    have hlx := fun h => byte_at (l := l) (k := 0) (c := c0) (by rw [hc0]; rfl) h
    have hlsl : (ByteArray.mk l.toArray).extract 1 (t0.length + 1) = ⟨t0.toArray⟩ := by rw [← hln, extract_drop, hc0]; rfl
    have hlne : ((ByteArray.mk l.toArray).toList == ([] : List UInt8)) = false := by rw [hc0]; exact ba_ne c0 t0
    have hlne' : (l == ([] : List UInt8)) = false := by rw [hc0]; rfl
    have hlne'' : l ≠ [] := by rw [hc0]; simp
    have hc08 := UInt8.toNat_lt c0
    by_cases h40 : 40 < l.length
    · have E0 := Lib.hid (show parseL l = (0, 0, 16) by rw [hc0] at h40 ⊢; unfold parseL; dsimp only; rw [if_pos h40])
      clear hc0
      go_enter Tryd.func26, Tryd.ntmps26
      go_wp2
      refine bodyPost_ret (v := .tuple #[.agg #[.int .i64 0, .int .i64 0], .int .i64 16]) (by simp [results, Tryd.results26, go_sem]) rfl (Ret.mk (by exact ret_triple E0.out) (by (repeat' (first | (with_reducible exact Below.refl _ _) | (with_reducible exact Nat.le_refl _) | (with_reducible refine Below.bel ?_ ?_) | (with_reducible refine Below.alloc ?_ ?_ _) | (with_reducible refine Below.drew ?_) | (with_reducible refine Below.drawsN ?_ _) | (with_reducible refine Below.setCell ?_ ?_ _) | (with_reducible refine le_bel ?_) | (with_reducible refine le_alloc ?_) | (with_reducible refine le_setCell ?_) | (with_reducible refine le_drew ?_) | (with_reducible refine le_drawsN ?_) | (dsimp only; with_reducible refine le_bel ?_) | (dsimp only; with_reducible refine Nat.le_refl _) | (dsimp only; with_reducible refine le_bel_add ?_) | (with_reducible assumption) | omega | (dsimp only; omega)))))
    · by_cases h45 : c0.toNat = 45
      · skip
        have HE : parseL l = fin (-1) (parV t0) := by rw [hc0]; unfold parseL; dsimp only; rw [if_neg (by rw [← hc0]; exact h40), if_pos h45]
        clear hc0
        have hsb : t0.length ≤ 60 := by omega
        have HD := fun w' => digits_any t0 w' hsb
        have hnb := num_bd t0
        by_cases h0 : nd t0 = 0
        · have E0 := Lib.hid (HE.trans (by rw [parV_zero h0, quoV_zero h0]))
          have HQ := fun w' => quotient_any t0 w' hsb
          rw [quoV_zero h0] at HQ
          dsimp only at HQ
          have hf : decide (0 < nd t0) = false := by rw [h0]; rfl
          rw [hf] at HD
          generalize t0.drop (nd t0) = r at *
          clear HE
          go_enter Tryd.func26, Tryd.ntmps26
          go_wp2_with fail
          refine wp_region_bel (by kernel_rfl) (by kernel_rfl) ?_
          repeat (go_big_quiet_step (fail))
          refine wpQuiet_nil ?_
          rintro _ ⟨y0, rfl⟩
          go_wp2_with fail
          (with_reducible refine ((HD _)).mono ?_)
          rintro _ _ ⟨rfl, x, rfl⟩
          go_wp2_with fail
          (with_reducible refine ((HQ _)).mono ?_)
          rintro _ _ ⟨rfl, y, rfl⟩
          go_wp2
          refine bodyPost_ret (v := .tuple #[.agg #[.int .i64 0, .int .i64 0], .int .i64 15]) (by simp [results, Tryd.results26, go_sem]) rfl (Ret.mk (by exact ret_triple E0.out) (by (repeat' (first | (with_reducible exact Below.refl _ _) | (with_reducible exact Nat.le_refl _) | (with_reducible refine Below.bel ?_ ?_) | (with_reducible refine Below.alloc ?_ ?_ _) | (with_reducible refine Below.drew ?_) | (with_reducible refine Below.drawsN ?_ _) | (with_reducible refine Below.setCell ?_ ?_ _) | (with_reducible refine le_bel ?_) | (with_reducible refine le_alloc ?_) | (with_reducible refine le_setCell ?_) | (with_reducible refine le_drew ?_) | (with_reducible refine le_drawsN ?_) | (dsimp only; with_reducible refine le_bel ?_) | (dsimp only; with_reducible refine Nat.le_refl _) | (dsimp only; with_reducible refine le_bel_add ?_) | (with_reducible assumption) | omega | (dsimp only; omega)))))
        · have hf : decide (0 < nd t0) = true := by simp; omega
          rw [hf] at HD
          cases hr : t0.drop (nd t0) with
          | nil =>
            have hE := HE.trans (by rw [parV_nil h0 hr])
            rw [hr] at HD
            clear HE
            generalize num t0 = a at *
            go_enter Tryd.func26, Tryd.ntmps26
            go_wp2_with fail
            refine wp_region_bel (by kernel_rfl) (by kernel_rfl) ?_
            repeat (go_big_quiet_step (fail))
            refine wpQuiet_nil ?_
            rintro _ ⟨y0, rfl⟩
            go_wp2_with fail
            (with_reducible refine ((HD _)).mono ?_)
            rintro _ _ ⟨rfl, x, rfl⟩
            by_cases ha : a > 1000000
            · have E0 := Lib.hid (hE.trans (fin_big (.inl ha)))
              clear hE
              go_wp2
              refine bodyPost_ret (v := .tuple #[.agg #[.int .i64 0, .int .i64 0], .int .i64 4]) (by simp [results, Tryd.results26, go_sem]) rfl (Ret.mk (by exact ret_triple E0.out) (by (repeat' (first | (with_reducible exact Below.refl _ _) | (with_reducible exact Nat.le_refl _) | (with_reducible refine Below.bel ?_ ?_) | (with_reducible refine Below.alloc ?_ ?_ _) | (with_reducible refine Below.drew ?_) | (with_reducible refine Below.drawsN ?_ _) | (with_reducible refine Below.setCell ?_ ?_ _) | (with_reducible refine le_bel ?_) | (with_reducible refine le_alloc ?_) | (with_reducible refine le_setCell ?_) | (with_reducible refine le_drew ?_) | (with_reducible refine le_drawsN ?_) | (dsimp only; with_reducible refine le_bel ?_) | (dsimp only; with_reducible refine Nat.le_refl _) | (dsimp only; with_reducible refine le_bel_add ?_) | (with_reducible assumption) | omega | (dsimp only; omega)))))
            · have E0 := Lib.hid (hE.trans (fin_ok (by omega) (by decide) (by decide)))
              clear hE
              go_wp2_with fail
              (with_reducible refine (make_val _ _ _ (by omega) (by omega) (by omega) (by omega)).mono ?_)
              rintro _ _ ⟨rfl, z, rfl⟩
              go_wp2
              refine bodyPost_ret (v := .tuple #[.agg #[.int .i64 (parseL l).1, .int .i64 (parseL l).2.1], .int .i64 (parseL l).2.2]) (by simp [results, Tryd.results26, go_sem]; rw [E0.out]; simp) rfl (Ret.mk (by rfl) (by (repeat' (first | (with_reducible exact Below.refl _ _) | (with_reducible exact Nat.le_refl _) | (with_reducible refine Below.bel ?_ ?_) | (with_reducible refine Below.alloc ?_ ?_ _) | (with_reducible refine Below.drew ?_) | (with_reducible refine Below.drawsN ?_ _) | (with_reducible refine Below.setCell ?_ ?_ _) | (with_reducible refine le_bel ?_) | (with_reducible refine le_alloc ?_) | (with_reducible refine le_setCell ?_) | (with_reducible refine le_drew ?_) | (with_reducible refine le_drawsN ?_) | (dsimp only; with_reducible refine le_bel ?_) | (dsimp only; with_reducible refine Nat.le_refl _) | (dsimp only; with_reducible refine le_bel_add ?_) | (with_reducible assumption) | omega | (dsimp only; omega)))))
          | cons c t =>
            have hrl : (t0.drop (nd t0)).length ≤ 60 := by rw [List.length_drop]; omega
            have hx := fun h => byte_at (l := c :: t) (k := 0) (c := c) rfl h
            have hsl : (ByteArray.mk (c :: t).toArray).extract 1 (t.length + 1) = ⟨t.toArray⟩ := by rw [← List.length_cons (a := c), extract_drop]; rfl
            have hne := ba_ne c t
            have hne' : ((c :: t) == ([] : List UInt8)) = false := rfl
            have hne'' : (c :: t) ≠ ([] : List UInt8) := by simp
            have hrn : (c :: t).length = t.length + 1 := rfl
            have hc8 := UInt8.toNat_lt c
            rw [hr] at HD hrl
            rw [hrn] at hrl
            by_cases h32 : c.toNat = 32
            · have hE := HE.trans (by rw [parV_space h0 hr h32])
              have HQ := fun w' => quotient_any t w' (by omega)
              have hqb := quoV_bd t
              generalize c :: t = r at *
              generalize num t0 = a at *
              obtain ⟨q1, q2, q3, hq⟩ : ∃ q1 q2 q3, quoV t = (q1, q2, q3) := ⟨_, _, _, rfl⟩
              rw [hq] at HQ hE hqb
              dsimp only at HQ hqb
              clear HE hq hr
              go_enter Tryd.func26, Tryd.ntmps26
              go_wp2_with fail
              refine wp_region_bel (by kernel_rfl) (by kernel_rfl) ?_
              repeat (go_big_quiet_step (fail))
              refine wpQuiet_nil ?_
              rintro _ ⟨y0, rfl⟩
              go_wp2_with fail
              (with_reducible refine ((HD _)).mono ?_)
              rintro _ _ ⟨rfl, x, rfl⟩
              go_wp2_with fail
              (with_reducible refine ((HQ _)).mono ?_)
              rintro _ _ ⟨rfl, y, rfl⟩
              cases q3 with
              | false =>
                have E0 := Lib.hid (hE.trans fin_no)
                clear hE
                go_wp2
                refine bodyPost_ret (v := .tuple #[.agg #[.int .i64 0, .int .i64 0], .int .i64 15]) (by simp [results, Tryd.results26, go_sem]) rfl (Ret.mk (by exact ret_triple E0.out) (by (repeat' (first | (with_reducible exact Below.refl _ _) | (with_reducible exact Nat.le_refl _) | (with_reducible refine Below.bel ?_ ?_) | (with_reducible refine Below.alloc ?_ ?_ _) | (with_reducible refine Below.drew ?_) | (with_reducible refine Below.drawsN ?_ _) | (with_reducible refine Below.setCell ?_ ?_ _) | (with_reducible refine le_bel ?_) | (with_reducible refine le_alloc ?_) | (with_reducible refine le_setCell ?_) | (with_reducible refine le_drew ?_) | (with_reducible refine le_drawsN ?_) | (dsimp only; with_reducible refine le_bel ?_) | (dsimp only; with_reducible refine Nat.le_refl _) | (dsimp only; with_reducible refine le_bel_add ?_) | (with_reducible assumption) | omega | (dsimp only; omega)))))
              | true =>
                by_cases ha : a > 1000000 ∨ q1 > 1000000 ∨ q2 > 1000000
                · have E0 := Lib.hid (hE.trans (fin_big ha))
                  clear hE
                  rcases Classical.em (a ≤ 1000000) with ha1 | ha1
                  · rcases Classical.em (q1 ≤ 1000000) with ha2 | ha2
                    · have ha3 : q2 > 1000000 := by omega
                      clear ha
                      go_wp2
                      refine bodyPost_ret (v := .tuple #[.agg #[.int .i64 0, .int .i64 0], .int .i64 4]) (by simp [results, Tryd.results26, go_sem]) rfl (Ret.mk (by exact ret_triple E0.out) (by (repeat' (first | (with_reducible exact Below.refl _ _) | (with_reducible exact Nat.le_refl _) | (with_reducible refine Below.bel ?_ ?_) | (with_reducible refine Below.alloc ?_ ?_ _) | (with_reducible refine Below.drew ?_) | (with_reducible refine Below.drawsN ?_ _) | (with_reducible refine Below.setCell ?_ ?_ _) | (with_reducible refine le_bel ?_) | (with_reducible refine le_alloc ?_) | (with_reducible refine le_setCell ?_) | (with_reducible refine le_drew ?_) | (with_reducible refine le_drawsN ?_) | (dsimp only; with_reducible refine le_bel ?_) | (dsimp only; with_reducible refine Nat.le_refl _) | (dsimp only; with_reducible refine le_bel_add ?_) | (with_reducible assumption) | omega | (dsimp only; omega)))))
                    · clear ha
                      go_wp2
                      refine bodyPost_ret (v := .tuple #[.agg #[.int .i64 0, .int .i64 0], .int .i64 4]) (by simp [results, Tryd.results26, go_sem]) rfl (Ret.mk (by exact ret_triple E0.out) (by (repeat' (first | (with_reducible exact Below.refl _ _) | (with_reducible exact Nat.le_refl _) | (with_reducible refine Below.bel ?_ ?_) | (with_reducible refine Below.alloc ?_ ?_ _) | (with_reducible refine Below.drew ?_) | (with_reducible refine Below.drawsN ?_ _) | (with_reducible refine Below.setCell ?_ ?_ _) | (with_reducible refine le_bel ?_) | (with_reducible refine le_alloc ?_) | (with_reducible refine le_setCell ?_) | (with_reducible refine le_drew ?_) | (with_reducible refine le_drawsN ?_) | (dsimp only; with_reducible refine le_bel ?_) | (dsimp only; with_reducible refine Nat.le_refl _) | (dsimp only; with_reducible refine le_bel_add ?_) | (with_reducible assumption) | omega | (dsimp only; omega)))))
                  · clear ha
                    go_wp2
                    refine bodyPost_ret (v := .tuple #[.agg #[.int .i64 0, .int .i64 0], .int .i64 4]) (by simp [results, Tryd.results26, go_sem]) rfl (Ret.mk (by exact ret_triple E0.out) (by (repeat' (first | (with_reducible exact Below.refl _ _) | (with_reducible exact Nat.le_refl _) | (with_reducible refine Below.bel ?_ ?_) | (with_reducible refine Below.alloc ?_ ?_ _) | (with_reducible refine Below.drew ?_) | (with_reducible refine Below.drawsN ?_ _) | (with_reducible refine Below.setCell ?_ ?_ _) | (with_reducible refine le_bel ?_) | (with_reducible refine le_alloc ?_) | (with_reducible refine le_setCell ?_) | (with_reducible refine le_drew ?_) | (with_reducible refine le_drawsN ?_) | (dsimp only; with_reducible refine le_bel ?_) | (dsimp only; with_reducible refine Nat.le_refl _) | (dsimp only; with_reducible refine le_bel_add ?_) | (with_reducible assumption) | omega | (dsimp only; omega)))))
                · have ha1 : a ≤ 1000000 := by omega
                  have ha2 : q1 ≤ 1000000 := by omega
                  have ha3 : q2 ≤ 1000000 := by omega
                  clear ha
                  have E0 := Lib.hid (hE.trans (fin_ok ha1 ha2 ha3))
                  clear hE
                  have hp := mul_bd6 (a := a) (b := q2) (by omega) ha1 (by omega) ha3
                  go_wp2_with fail
                  (with_reducible refine (make_val _ _ _ (by omega) (by omega) (by omega) (by omega)).mono ?_)
                  rintro _ _ ⟨rfl, z, rfl⟩
                  go_wp2
                  refine bodyPost_ret (v := .tuple #[.agg #[.int .i64 (parseL l).1, .int .i64 (parseL l).2.1], .int .i64 (parseL l).2.2]) (by simp [results, Tryd.results26, go_sem]; rw [E0.out]; simp []) rfl (Ret.mk (by rfl) (by (repeat' (first | (with_reducible exact Below.refl _ _) | (with_reducible exact Nat.le_refl _) | (with_reducible refine Below.bel ?_ ?_) | (with_reducible refine Below.alloc ?_ ?_ _) | (with_reducible refine Below.drew ?_) | (with_reducible refine Below.drawsN ?_ _) | (with_reducible refine Below.setCell ?_ ?_ _) | (with_reducible refine le_bel ?_) | (with_reducible refine le_alloc ?_) | (with_reducible refine le_setCell ?_) | (with_reducible refine le_drew ?_) | (with_reducible refine le_drawsN ?_) | (dsimp only; with_reducible refine le_bel ?_) | (dsimp only; with_reducible refine Nat.le_refl _) | (dsimp only; with_reducible refine le_bel_add ?_) | (with_reducible assumption) | omega | (dsimp only; omega)))))
            · have hE := HE.trans (by rw [parV_other h0 hr h32])
              have HQ := fun w' => quotient_any t0 w' hsb
              have hqb := quoV_bd t0
              generalize c :: t = r at *
              generalize num t0 = a at *
              obtain ⟨q1, q2, q3, hq⟩ : ∃ q1 q2 q3, quoV t0 = (q1, q2, q3) := ⟨_, _, _, rfl⟩
              rw [hq] at HQ hE hqb
              dsimp only at HQ hqb
              clear HE hq hr
              go_enter Tryd.func26, Tryd.ntmps26
              go_wp2_with fail
              refine wp_region_bel (by kernel_rfl) (by kernel_rfl) ?_
              repeat (go_big_quiet_step (fail))
              refine wpQuiet_nil ?_
              rintro _ ⟨y0, rfl⟩
              go_wp2_with fail
              (with_reducible refine ((HD _)).mono ?_)
              rintro _ _ ⟨rfl, x, rfl⟩
              go_wp2_with fail
              (with_reducible refine ((HQ _)).mono ?_)
              rintro _ _ ⟨rfl, y, rfl⟩
              cases q3 with
              | false =>
                have E0 := Lib.hid (hE.trans fin_no)
                clear hE
                go_wp2
                refine bodyPost_ret (v := .tuple #[.agg #[.int .i64 0, .int .i64 0], .int .i64 15]) (by simp [results, Tryd.results26, go_sem]) rfl (Ret.mk (by exact ret_triple E0.out) (by (repeat' (first | (with_reducible exact Below.refl _ _) | (with_reducible exact Nat.le_refl _) | (with_reducible refine Below.bel ?_ ?_) | (with_reducible refine Below.alloc ?_ ?_ _) | (with_reducible refine Below.drew ?_) | (with_reducible refine Below.drawsN ?_ _) | (with_reducible refine Below.setCell ?_ ?_ _) | (with_reducible refine le_bel ?_) | (with_reducible refine le_alloc ?_) | (with_reducible refine le_setCell ?_) | (with_reducible refine le_drew ?_) | (with_reducible refine le_drawsN ?_) | (dsimp only; with_reducible refine le_bel ?_) | (dsimp only; with_reducible refine Nat.le_refl _) | (dsimp only; with_reducible refine le_bel_add ?_) | (with_reducible assumption) | omega | (dsimp only; omega)))))
              | true =>
                by_cases ha : (0 : Int) > 1000000 ∨ q1 > 1000000 ∨ q2 > 1000000
                · have E0 := Lib.hid (hE.trans (fin_big ha))
                  clear hE
                  rcases Classical.em ((0 : Int) ≤ 1000000) with ha1 | ha1
                  · rcases Classical.em (q1 ≤ 1000000) with ha2 | ha2
                    · have ha3 : q2 > 1000000 := by omega
                      clear ha
                      go_wp2
                      refine bodyPost_ret (v := .tuple #[.agg #[.int .i64 0, .int .i64 0], .int .i64 4]) (by simp [results, Tryd.results26, go_sem]) rfl (Ret.mk (by exact ret_triple E0.out) (by (repeat' (first | (with_reducible exact Below.refl _ _) | (with_reducible exact Nat.le_refl _) | (with_reducible refine Below.bel ?_ ?_) | (with_reducible refine Below.alloc ?_ ?_ _) | (with_reducible refine Below.drew ?_) | (with_reducible refine Below.drawsN ?_ _) | (with_reducible refine Below.setCell ?_ ?_ _) | (with_reducible refine le_bel ?_) | (with_reducible refine le_alloc ?_) | (with_reducible refine le_setCell ?_) | (with_reducible refine le_drew ?_) | (with_reducible refine le_drawsN ?_) | (dsimp only; with_reducible refine le_bel ?_) | (dsimp only; with_reducible refine Nat.le_refl _) | (dsimp only; with_reducible refine le_bel_add ?_) | (with_reducible assumption) | omega | (dsimp only; omega)))))
                    · clear ha
                      go_wp2
                      refine bodyPost_ret (v := .tuple #[.agg #[.int .i64 0, .int .i64 0], .int .i64 4]) (by simp [results, Tryd.results26, go_sem]) rfl (Ret.mk (by exact ret_triple E0.out) (by (repeat' (first | (with_reducible exact Below.refl _ _) | (with_reducible exact Nat.le_refl _) | (with_reducible refine Below.bel ?_ ?_) | (with_reducible refine Below.alloc ?_ ?_ _) | (with_reducible refine Below.drew ?_) | (with_reducible refine Below.drawsN ?_ _) | (with_reducible refine Below.setCell ?_ ?_ _) | (with_reducible refine le_bel ?_) | (with_reducible refine le_alloc ?_) | (with_reducible refine le_setCell ?_) | (with_reducible refine le_drew ?_) | (with_reducible refine le_drawsN ?_) | (dsimp only; with_reducible refine le_bel ?_) | (dsimp only; with_reducible refine Nat.le_refl _) | (dsimp only; with_reducible refine le_bel_add ?_) | (with_reducible assumption) | omega | (dsimp only; omega)))))
                  · omega
                · have ha1 : (0 : Int) ≤ 1000000 := by omega
                  have ha2 : q1 ≤ 1000000 := by omega
                  have ha3 : q2 ≤ 1000000 := by omega
                  clear ha
                  have E0 := Lib.hid (hE.trans (fin_ok ha1 ha2 ha3))
                  clear hE
                  have hp := mul_bd6 (a := (0 : Int)) (b := q2) (by omega) ha1 (by omega) ha3
                  go_wp2_with fail
                  (with_reducible refine (make_val _ _ _ (by omega) (by omega) (by omega) (by omega)).mono ?_)
                  rintro _ _ ⟨rfl, z, rfl⟩
                  go_wp2
                  refine bodyPost_ret (v := .tuple #[.agg #[.int .i64 (parseL l).1, .int .i64 (parseL l).2.1], .int .i64 (parseL l).2.2]) (by simp [results, Tryd.results26, go_sem]; rw [E0.out]; simp []) rfl (Ret.mk (by rfl) (by (repeat' (first | (with_reducible exact Below.refl _ _) | (with_reducible exact Nat.le_refl _) | (with_reducible refine Below.bel ?_ ?_) | (with_reducible refine Below.alloc ?_ ?_ _) | (with_reducible refine Below.drew ?_) | (with_reducible refine Below.drawsN ?_ _) | (with_reducible refine Below.setCell ?_ ?_ _) | (with_reducible refine le_bel ?_) | (with_reducible refine le_alloc ?_) | (with_reducible refine le_setCell ?_) | (with_reducible refine le_drew ?_) | (with_reducible refine le_drawsN ?_) | (dsimp only; with_reducible refine le_bel ?_) | (dsimp only; with_reducible refine Nat.le_refl _) | (dsimp only; with_reducible refine le_bel_add ?_) | (with_reducible assumption) | omega | (dsimp only; omega)))))
      · skip
        have HE : parseL l = fin (1) (parV l) := by rw [hc0]; unfold parseL; dsimp only; rw [if_neg (by rw [← hc0]; exact h40), if_neg h45, ← hc0]
        clear hc0
        have hsb : l.length ≤ 60 := by omega
        have HD := fun w' => digits_any l w' hsb
        have hnb := num_bd l
        by_cases h0 : nd l = 0
        · have E0 := Lib.hid (HE.trans (by rw [parV_zero h0, quoV_zero h0]))
          have HQ := fun w' => quotient_any l w' hsb
          rw [quoV_zero h0] at HQ
          dsimp only at HQ
          have hf : decide (0 < nd l) = false := by rw [h0]; rfl
          rw [hf] at HD
          generalize l.drop (nd l) = r at *
          clear HE
          go_enter Tryd.func26, Tryd.ntmps26
          go_wp2_with fail
          (with_reducible refine ((HD _)).mono ?_)
          rintro _ _ ⟨rfl, x, rfl⟩
          go_wp2_with fail
          (with_reducible refine ((HQ _)).mono ?_)
          rintro _ _ ⟨rfl, y, rfl⟩
          go_wp2
          refine bodyPost_ret (v := .tuple #[.agg #[.int .i64 0, .int .i64 0], .int .i64 15]) (by simp [results, Tryd.results26, go_sem]) rfl (Ret.mk (by exact ret_triple E0.out) (by (repeat' (first | (with_reducible exact Below.refl _ _) | (with_reducible exact Nat.le_refl _) | (with_reducible refine Below.bel ?_ ?_) | (with_reducible refine Below.alloc ?_ ?_ _) | (with_reducible refine Below.drew ?_) | (with_reducible refine Below.drawsN ?_ _) | (with_reducible refine Below.setCell ?_ ?_ _) | (with_reducible refine le_bel ?_) | (with_reducible refine le_alloc ?_) | (with_reducible refine le_setCell ?_) | (with_reducible refine le_drew ?_) | (with_reducible refine le_drawsN ?_) | (dsimp only; with_reducible refine le_bel ?_) | (dsimp only; with_reducible refine Nat.le_refl _) | (dsimp only; with_reducible refine le_bel_add ?_) | (with_reducible assumption) | omega | (dsimp only; omega)))))
        · have hf : decide (0 < nd l) = true := by simp; omega
          rw [hf] at HD
          cases hr : l.drop (nd l) with
          | nil =>
            have hE := HE.trans (by rw [parV_nil h0 hr])
            rw [hr] at HD
            clear HE
            generalize num l = a at *
            go_enter Tryd.func26, Tryd.ntmps26
            go_wp2_with fail
            (with_reducible refine ((HD _)).mono ?_)
            rintro _ _ ⟨rfl, x, rfl⟩
            by_cases ha : a > 1000000
            · have E0 := Lib.hid (hE.trans (fin_big (.inl ha)))
              clear hE
              go_wp2
              refine bodyPost_ret (v := .tuple #[.agg #[.int .i64 0, .int .i64 0], .int .i64 4]) (by simp [results, Tryd.results26, go_sem]) rfl (Ret.mk (by exact ret_triple E0.out) (by (repeat' (first | (with_reducible exact Below.refl _ _) | (with_reducible exact Nat.le_refl _) | (with_reducible refine Below.bel ?_ ?_) | (with_reducible refine Below.alloc ?_ ?_ _) | (with_reducible refine Below.drew ?_) | (with_reducible refine Below.drawsN ?_ _) | (with_reducible refine Below.setCell ?_ ?_ _) | (with_reducible refine le_bel ?_) | (with_reducible refine le_alloc ?_) | (with_reducible refine le_setCell ?_) | (with_reducible refine le_drew ?_) | (with_reducible refine le_drawsN ?_) | (dsimp only; with_reducible refine le_bel ?_) | (dsimp only; with_reducible refine Nat.le_refl _) | (dsimp only; with_reducible refine le_bel_add ?_) | (with_reducible assumption) | omega | (dsimp only; omega)))))
            · have E0 := Lib.hid (hE.trans (fin_ok (by omega) (by decide) (by decide)))
              clear hE
              go_wp2_with fail
              (with_reducible refine (make_val _ _ _ (by omega) (by omega) (by omega) (by omega)).mono ?_)
              rintro _ _ ⟨rfl, z, rfl⟩
              go_wp2
              refine bodyPost_ret (v := .tuple #[.agg #[.int .i64 (parseL l).1, .int .i64 (parseL l).2.1], .int .i64 (parseL l).2.2]) (by simp [results, Tryd.results26, go_sem]; rw [E0.out]; simp) rfl (Ret.mk (by rfl) (by (repeat' (first | (with_reducible exact Below.refl _ _) | (with_reducible exact Nat.le_refl _) | (with_reducible refine Below.bel ?_ ?_) | (with_reducible refine Below.alloc ?_ ?_ _) | (with_reducible refine Below.drew ?_) | (with_reducible refine Below.drawsN ?_ _) | (with_reducible refine Below.setCell ?_ ?_ _) | (with_reducible refine le_bel ?_) | (with_reducible refine le_alloc ?_) | (with_reducible refine le_setCell ?_) | (with_reducible refine le_drew ?_) | (with_reducible refine le_drawsN ?_) | (dsimp only; with_reducible refine le_bel ?_) | (dsimp only; with_reducible refine Nat.le_refl _) | (dsimp only; with_reducible refine le_bel_add ?_) | (with_reducible assumption) | omega | (dsimp only; omega)))))
          | cons c t =>
            have hrl : (l.drop (nd l)).length ≤ 60 := by rw [List.length_drop]; omega
            have hx := fun h => byte_at (l := c :: t) (k := 0) (c := c) rfl h
            have hsl : (ByteArray.mk (c :: t).toArray).extract 1 (t.length + 1) = ⟨t.toArray⟩ := by rw [← List.length_cons (a := c), extract_drop]; rfl
            have hne := ba_ne c t
            have hne' : ((c :: t) == ([] : List UInt8)) = false := rfl
            have hne'' : (c :: t) ≠ ([] : List UInt8) := by simp
            have hrn : (c :: t).length = t.length + 1 := rfl
            have hc8 := UInt8.toNat_lt c
            rw [hr] at HD hrl
            rw [hrn] at hrl
            by_cases h32 : c.toNat = 32
            · have hE := HE.trans (by rw [parV_space h0 hr h32])
              have HQ := fun w' => quotient_any t w' (by omega)
              have hqb := quoV_bd t
              generalize c :: t = r at *
              generalize num l = a at *
              obtain ⟨q1, q2, q3, hq⟩ : ∃ q1 q2 q3, quoV t = (q1, q2, q3) := ⟨_, _, _, rfl⟩
              rw [hq] at HQ hE hqb
              dsimp only at HQ hqb
              clear HE hq hr
              go_enter Tryd.func26, Tryd.ntmps26
              go_wp2_with fail
              (with_reducible refine ((HD _)).mono ?_)
              rintro _ _ ⟨rfl, x, rfl⟩
              go_wp2_with fail
              (with_reducible refine ((HQ _)).mono ?_)
              rintro _ _ ⟨rfl, y, rfl⟩
              cases q3 with
              | false =>
                have E0 := Lib.hid (hE.trans fin_no)
                clear hE
                go_wp2
                refine bodyPost_ret (v := .tuple #[.agg #[.int .i64 0, .int .i64 0], .int .i64 15]) (by simp [results, Tryd.results26, go_sem]) rfl (Ret.mk (by exact ret_triple E0.out) (by (repeat' (first | (with_reducible exact Below.refl _ _) | (with_reducible exact Nat.le_refl _) | (with_reducible refine Below.bel ?_ ?_) | (with_reducible refine Below.alloc ?_ ?_ _) | (with_reducible refine Below.drew ?_) | (with_reducible refine Below.drawsN ?_ _) | (with_reducible refine Below.setCell ?_ ?_ _) | (with_reducible refine le_bel ?_) | (with_reducible refine le_alloc ?_) | (with_reducible refine le_setCell ?_) | (with_reducible refine le_drew ?_) | (with_reducible refine le_drawsN ?_) | (dsimp only; with_reducible refine le_bel ?_) | (dsimp only; with_reducible refine Nat.le_refl _) | (dsimp only; with_reducible refine le_bel_add ?_) | (with_reducible assumption) | omega | (dsimp only; omega)))))
              | true =>
                by_cases ha : a > 1000000 ∨ q1 > 1000000 ∨ q2 > 1000000
                · have E0 := Lib.hid (hE.trans (fin_big ha))
                  clear hE
                  rcases Classical.em (a ≤ 1000000) with ha1 | ha1
                  · rcases Classical.em (q1 ≤ 1000000) with ha2 | ha2
                    · have ha3 : q2 > 1000000 := by omega
                      clear ha
                      go_wp2
                      refine bodyPost_ret (v := .tuple #[.agg #[.int .i64 0, .int .i64 0], .int .i64 4]) (by simp [results, Tryd.results26, go_sem]) rfl (Ret.mk (by exact ret_triple E0.out) (by (repeat' (first | (with_reducible exact Below.refl _ _) | (with_reducible exact Nat.le_refl _) | (with_reducible refine Below.bel ?_ ?_) | (with_reducible refine Below.alloc ?_ ?_ _) | (with_reducible refine Below.drew ?_) | (with_reducible refine Below.drawsN ?_ _) | (with_reducible refine Below.setCell ?_ ?_ _) | (with_reducible refine le_bel ?_) | (with_reducible refine le_alloc ?_) | (with_reducible refine le_setCell ?_) | (with_reducible refine le_drew ?_) | (with_reducible refine le_drawsN ?_) | (dsimp only; with_reducible refine le_bel ?_) | (dsimp only; with_reducible refine Nat.le_refl _) | (dsimp only; with_reducible refine le_bel_add ?_) | (with_reducible assumption) | omega | (dsimp only; omega)))))
                    · clear ha
                      go_wp2
                      refine bodyPost_ret (v := .tuple #[.agg #[.int .i64 0, .int .i64 0], .int .i64 4]) (by simp [results, Tryd.results26, go_sem]) rfl (Ret.mk (by exact ret_triple E0.out) (by (repeat' (first | (with_reducible exact Below.refl _ _) | (with_reducible exact Nat.le_refl _) | (with_reducible refine Below.bel ?_ ?_) | (with_reducible refine Below.alloc ?_ ?_ _) | (with_reducible refine Below.drew ?_) | (with_reducible refine Below.drawsN ?_ _) | (with_reducible refine Below.setCell ?_ ?_ _) | (with_reducible refine le_bel ?_) | (with_reducible refine le_alloc ?_) | (with_reducible refine le_setCell ?_) | (with_reducible refine le_drew ?_) | (with_reducible refine le_drawsN ?_) | (dsimp only; with_reducible refine le_bel ?_) | (dsimp only; with_reducible refine Nat.le_refl _) | (dsimp only; with_reducible refine le_bel_add ?_) | (with_reducible assumption) | omega | (dsimp only; omega)))))
                  · clear ha
                    go_wp2
                    refine bodyPost_ret (v := .tuple #[.agg #[.int .i64 0, .int .i64 0], .int .i64 4]) (by simp [results, Tryd.results26, go_sem]) rfl (Ret.mk (by exact ret_triple E0.out) (by (repeat' (first | (with_reducible exact Below.refl _ _) | (with_reducible exact Nat.le_refl _) | (with_reducible refine Below.bel ?_ ?_) | (with_reducible refine Below.alloc ?_ ?_ _) | (with_reducible refine Below.drew ?_) | (with_reducible refine Below.drawsN ?_ _) | (with_reducible refine Below.setCell ?_ ?_ _) | (with_reducible refine le_bel ?_) | (with_reducible refine le_alloc ?_) | (with_reducible refine le_setCell ?_) | (with_reducible refine le_drew ?_) | (with_reducible refine le_drawsN ?_) | (dsimp only; with_reducible refine le_bel ?_) | (dsimp only; with_reducible refine Nat.le_refl _) | (dsimp only; with_reducible refine le_bel_add ?_) | (with_reducible assumption) | omega | (dsimp only; omega)))))
                · have ha1 : a ≤ 1000000 := by omega
                  have ha2 : q1 ≤ 1000000 := by omega
                  have ha3 : q2 ≤ 1000000 := by omega
                  clear ha
                  have E0 := Lib.hid (hE.trans (fin_ok ha1 ha2 ha3))
                  clear hE
                  have hp := mul_bd6 (a := a) (b := q2) (by omega) ha1 (by omega) ha3
                  go_wp2_with fail
                  (with_reducible refine (make_val _ _ _ (by omega) (by omega) (by omega) (by omega)).mono ?_)
                  rintro _ _ ⟨rfl, z, rfl⟩
                  go_wp2
                  refine bodyPost_ret (v := .tuple #[.agg #[.int .i64 (parseL l).1, .int .i64 (parseL l).2.1], .int .i64 (parseL l).2.2]) (by simp [results, Tryd.results26, go_sem]; rw [E0.out]; simp []) rfl (Ret.mk (by rfl) (by (repeat' (first | (with_reducible exact Below.refl _ _) | (with_reducible exact Nat.le_refl _) | (with_reducible refine Below.bel ?_ ?_) | (with_reducible refine Below.alloc ?_ ?_ _) | (with_reducible refine Below.drew ?_) | (with_reducible refine Below.drawsN ?_ _) | (with_reducible refine Below.setCell ?_ ?_ _) | (with_reducible refine le_bel ?_) | (with_reducible refine le_alloc ?_) | (with_reducible refine le_setCell ?_) | (with_reducible refine le_drew ?_) | (with_reducible refine le_drawsN ?_) | (dsimp only; with_reducible refine le_bel ?_) | (dsimp only; with_reducible refine Nat.le_refl _) | (dsimp only; with_reducible refine le_bel_add ?_) | (with_reducible assumption) | omega | (dsimp only; omega)))))
            · have hE := HE.trans (by rw [parV_other h0 hr h32])
              have HQ := fun w' => quotient_any l w' hsb
              have hqb := quoV_bd l
              generalize c :: t = r at *
              generalize num l = a at *
              obtain ⟨q1, q2, q3, hq⟩ : ∃ q1 q2 q3, quoV l = (q1, q2, q3) := ⟨_, _, _, rfl⟩
              rw [hq] at HQ hE hqb
              dsimp only at HQ hqb
              clear HE hq hr
              go_enter Tryd.func26, Tryd.ntmps26
              go_wp2_with fail
              (with_reducible refine ((HD _)).mono ?_)
              rintro _ _ ⟨rfl, x, rfl⟩
              go_wp2_with fail
              (with_reducible refine ((HQ _)).mono ?_)
              rintro _ _ ⟨rfl, y, rfl⟩
              cases q3 with
              | false =>
                have E0 := Lib.hid (hE.trans fin_no)
                clear hE
                go_wp2
                refine bodyPost_ret (v := .tuple #[.agg #[.int .i64 0, .int .i64 0], .int .i64 15]) (by simp [results, Tryd.results26, go_sem]) rfl (Ret.mk (by exact ret_triple E0.out) (by (repeat' (first | (with_reducible exact Below.refl _ _) | (with_reducible exact Nat.le_refl _) | (with_reducible refine Below.bel ?_ ?_) | (with_reducible refine Below.alloc ?_ ?_ _) | (with_reducible refine Below.drew ?_) | (with_reducible refine Below.drawsN ?_ _) | (with_reducible refine Below.setCell ?_ ?_ _) | (with_reducible refine le_bel ?_) | (with_reducible refine le_alloc ?_) | (with_reducible refine le_setCell ?_) | (with_reducible refine le_drew ?_) | (with_reducible refine le_drawsN ?_) | (dsimp only; with_reducible refine le_bel ?_) | (dsimp only; with_reducible refine Nat.le_refl _) | (dsimp only; with_reducible refine le_bel_add ?_) | (with_reducible assumption) | omega | (dsimp only; omega)))))
              | true =>
                by_cases ha : (0 : Int) > 1000000 ∨ q1 > 1000000 ∨ q2 > 1000000
                · have E0 := Lib.hid (hE.trans (fin_big ha))
                  clear hE
                  rcases Classical.em ((0 : Int) ≤ 1000000) with ha1 | ha1
                  · rcases Classical.em (q1 ≤ 1000000) with ha2 | ha2
                    · have ha3 : q2 > 1000000 := by omega
                      clear ha
                      go_wp2
                      refine bodyPost_ret (v := .tuple #[.agg #[.int .i64 0, .int .i64 0], .int .i64 4]) (by simp [results, Tryd.results26, go_sem]) rfl (Ret.mk (by exact ret_triple E0.out) (by (repeat' (first | (with_reducible exact Below.refl _ _) | (with_reducible exact Nat.le_refl _) | (with_reducible refine Below.bel ?_ ?_) | (with_reducible refine Below.alloc ?_ ?_ _) | (with_reducible refine Below.drew ?_) | (with_reducible refine Below.drawsN ?_ _) | (with_reducible refine Below.setCell ?_ ?_ _) | (with_reducible refine le_bel ?_) | (with_reducible refine le_alloc ?_) | (with_reducible refine le_setCell ?_) | (with_reducible refine le_drew ?_) | (with_reducible refine le_drawsN ?_) | (dsimp only; with_reducible refine le_bel ?_) | (dsimp only; with_reducible refine Nat.le_refl _) | (dsimp only; with_reducible refine le_bel_add ?_) | (with_reducible assumption) | omega | (dsimp only; omega)))))
                    · clear ha
                      go_wp2
                      refine bodyPost_ret (v := .tuple #[.agg #[.int .i64 0, .int .i64 0], .int .i64 4]) (by simp [results, Tryd.results26, go_sem]) rfl (Ret.mk (by exact ret_triple E0.out) (by (repeat' (first | (with_reducible exact Below.refl _ _) | (with_reducible exact Nat.le_refl _) | (with_reducible refine Below.bel ?_ ?_) | (with_reducible refine Below.alloc ?_ ?_ _) | (with_reducible refine Below.drew ?_) | (with_reducible refine Below.drawsN ?_ _) | (with_reducible refine Below.setCell ?_ ?_ _) | (with_reducible refine le_bel ?_) | (with_reducible refine le_alloc ?_) | (with_reducible refine le_setCell ?_) | (with_reducible refine le_drew ?_) | (with_reducible refine le_drawsN ?_) | (dsimp only; with_reducible refine le_bel ?_) | (dsimp only; with_reducible refine Nat.le_refl _) | (dsimp only; with_reducible refine le_bel_add ?_) | (with_reducible assumption) | omega | (dsimp only; omega)))))
                  · omega
                · have ha1 : (0 : Int) ≤ 1000000 := by omega
                  have ha2 : q1 ≤ 1000000 := by omega
                  have ha3 : q2 ≤ 1000000 := by omega
                  clear ha
                  have E0 := Lib.hid (hE.trans (fin_ok ha1 ha2 ha3))
                  clear hE
                  have hp := mul_bd6 (a := (0 : Int)) (b := q2) (by omega) ha1 (by omega) ha3
                  go_wp2_with fail
                  (with_reducible refine (make_val _ _ _ (by omega) (by omega) (by omega) (by omega)).mono ?_)
                  rintro _ _ ⟨rfl, z, rfl⟩
                  go_wp2
                  refine bodyPost_ret (v := .tuple #[.agg #[.int .i64 (parseL l).1, .int .i64 (parseL l).2.1], .int .i64 (parseL l).2.2]) (by simp [results, Tryd.results26, go_sem]; rw [E0.out]; simp []) rfl (Ret.mk (by rfl) (by (repeat' (first | (with_reducible exact Below.refl _ _) | (with_reducible exact Nat.le_refl _) | (with_reducible refine Below.bel ?_ ?_) | (with_reducible refine Below.alloc ?_ ?_ _) | (with_reducible refine Below.drew ?_) | (with_reducible refine Below.drawsN ?_ _) | (with_reducible refine Below.setCell ?_ ?_ _) | (with_reducible refine le_bel ?_) | (with_reducible refine le_alloc ?_) | (with_reducible refine le_setCell ?_) | (with_reducible refine le_drew ?_) | (with_reducible refine le_drawsN ?_) | (dsimp only; with_reducible refine le_bel ?_) | (dsimp only; with_reducible refine Nat.le_refl _) | (dsimp only; with_reducible refine le_bel_add ?_) | (with_reducible assumption) | omega | (dsimp only; omega)))))
end Go.Proofs.YtoncbkkhfblpdaaDoor
