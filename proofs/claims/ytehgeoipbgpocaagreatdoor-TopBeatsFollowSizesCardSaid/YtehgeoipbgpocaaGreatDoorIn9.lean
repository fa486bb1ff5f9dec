/- Sum and Product. -/
import Derived.Test.YtehgeoipbgpocaaGreatDoorIn5
namespace Go.Proofs.YtehgeoipbgpocaaGreatDoor.I
set_option linter.unusedVariables false
set_option linter.unusedSimpArgs false
open Go.RowKit Go.Shelf
theorem dec_lenle {n k : Nat} (h : n < 10 ^ k) (hk : 0 < k) : (Lib.decDigits n).length ≤ k := by
  by_cases h0 : n = 0
  · subst h0; rw [dec_small (by decide)]; exact hk
  · have h2 := (Nat.pow_lt_pow_iff_right (show 1 < 10 by decide)).1 (Nat.lt_of_le_of_lt (dec_ge h0) h)
    omega
theorem nd_le10 {z : Int} {k : Nat} (hk : 0 < k) (h : z.natAbs < 10 ^ k) : nd z ≤ k := dec_lenle h hk
def Texts (w : World) (a : Option Addr) (ls : List (List UInt8)) : Prop := 0 < ls.length → ∃ b off, a = some ⟨b, off, none⟩ ∧ ∀ (j : Nat) l, ls[j]? = some l → w.cell? ⟨b, off + j, none⟩ = some (.string ⟨l.toArray⟩)
end Go.Proofs.YtehgeoipbgpocaaGreatDoor.I

namespace Go.Proofs.YtehgeoipbgpocaaGreatDoor.I
set_option linter.unusedVariables false
set_option linter.unusedSimpArgs false
open Go.RowKit Go.Shelf
attribute [local go_sem low] Bel.cell Bel.frozen alloc_cell alloc_frozen

theorem nd_add (a b : Int) : nd (a + b) ≤ max (nd a) (nd b) + 1 :=
  nd_le10 (by omega) (Nat.lt_of_le_of_lt (Int.natAbs_add_le a b) (add_lt10 (nd_lt a) (nd_lt b)))
theorem nd_mul (a b : Int) : nd (a * b) ≤ nd a + nd b := by
  refine nd_le10 (by have := dec_pos a.natAbs; unfold nd; omega) ?_
  rw [Int.natAbs_mul]
  exact mul_lt10 (nd_lt a) (nd_lt b)
/-- The slices of texts that a call makes. -/
theorem texts2 (w : World) (a b : List UInt8) : Texts (w.alloc (.cells #[.string ⟨a.toArray⟩, .string ⟨b.toArray⟩] 171)) (some ⟨w.heap.size, 0, none⟩) [a, b] := fun _ => by
  refine ⟨_, _, rfl, fun j l hj => ?_⟩
  match j, hj with
  | 0, hj => injection hj with hj; subst hj; simp [go_sem]
  | 1, hj => injection hj with hj; subst hj; simp [go_sem]
theorem texts3 (w : World) (a b c : List UInt8) : Texts (w.alloc (.cells #[.string ⟨a.toArray⟩, .string ⟨b.toArray⟩, .string ⟨c.toArray⟩] 171)) (some ⟨w.heap.size, 0, none⟩) [a, b, c] := fun _ => by
  refine ⟨_, _, rfl, fun j l hj => ?_⟩
  match j, hj with
  | 0, hj => injection hj with hj; subst hj; simp [go_sem]
  | 1, hj => injection hj with hj; subst hj; simp [go_sem]
  | 2, hj => injection hj with hj; subst hj; simp [go_sem]
theorem iT_0 : iT 0 = [48] := by rw [iT_pos (by decide), show Int.natAbs 0 = 0 from rfl, dec_small (by decide)]; rfl
theorem iT_1 : iT 1 = [49] := by rw [iT_pos (by decide), show Int.natAbs 1 = 1 from rfl, dec_small (by decide)]; rfl
theorem nd_0 : nd 0 = 1 := by unfold nd; rw [show Int.natAbs 0 = 0 from rfl, dec_small (by decide)]; rfl
theorem nd_1 : nd 1 = 1 := by unfold nd; rw [show Int.natAbs 1 = 1 from rfl, dec_small (by decide)]; rfl
theorem fold_next {f : Int → Int → Int} {s : Int} {zs : List Int} {k : Nat} {z : Int} (h : zs[k]? = some z) : (zs.take (k + 1)).foldl f s = f ((zs.take k).foldl f s) z := by
  rw [List.take_add_one, h, List.foldl_append]; rfl
set_option maxRecDepth 100000 in
set_option maxHeartbeats 6400000 in
theorem sum_any (a : Option Addr) (cap : Nat) (zs : List Int) (w : World) (hX : Texts w a (zs.map iT)) (hl : zs.length ≤ 10) (hn : ∀ z ∈ zs, nd z ≤ 100) (hT : Tab w) :
    Calls Tryz.prog 146 #[.slice a zs.length cap] w (Ret (.string ⟨(iT (zs.foldl (fun (x y : Int) => x + y) 0)).toArray⟩) w) := by
  have HT := Lib.hid hT
  clear hT
  have hml : (zs.map iT).length = zs.length := List.length_map _
  have h0 := iT_0
  go_enter Tryz.func146, Tryz.ntmps146
  go_wp2
  go_loopw [3, 8] (fun s i wr => ∃ k : Nat, k ≤ zs.length ∧ i = .int .i64 (k : Int) ∧ s = .string ⟨(iT ((zs.take k).foldl (fun (x y : Int) => x + y) 0)).toArray⟩ ∧ nd ((zs.take k).foldl (fun (x y : Int) => x + y) 0) ≤ 101 * (k + 1) ∧ Below w.heap.size w wr) (fun _ i _ => zs.length - (intOf i).toNat)
  case atStart => exact ⟨0, by omega, rfl, by rw [List.take_zero, List.foldl_nil, h0], by rw [List.take_zero, List.foldl_nil, nd_0]; omega, by (repeat' (first | (with_reducible first | apply Zl1 | apply Zl2 | apply Zl3 | apply Zl4 | apply Zl5 | apply Zl6 | apply Zl7 | apply Zl8 | apply Zl9 | apply Zla | apply Zlb | apply Zlc) | (dsimp only; with_reducible first | apply Zl8 | apply Zl2 | apply Zld) | with_reducible assumption | omega | (dsimp only; omega)))⟩
  case round =>
    obtain ⟨k, hk, rfl, rfl, hnd, hb⟩ := hrel
    have hbs := hb.size
    by_cases hkl : k < zs.length
    · have hki : (k : Int) < (zs.length : Int) := by omega
      obtain ⟨b, off, rfl, hc⟩ := hX (by omega)
      obtain ⟨z, hz⟩ : ∃ z, zs[k]? = some z := ⟨_, List.getElem?_eq_getElem hkl⟩
      have g1 := cell_carry hb (hc k (iT z) (by rw [List.getElem?_map, hz]; rfl))
      have hnz := hn z (List.mem_of_getElem? hz)
      have hN := @nd_add ((zs.take k).foldl (fun (x y : Int) => x + y) 0) z
      have HN := Lib.hid (show nd ((zs.take (k + 1)).foldl (fun (x y : Int) => x + y) 0) ≤ 101 * (k + 1 + 1) by rw [fold_next hz]; omega)
      have HA := Lib.hid (fun w' hT => add_any ((zs.take k).foldl (fun (x y : Int) => x + y) 0) z w' (by omega) (by omega) hT)
      have HE := Lib.hid (show (zs.take (k + 1)).foldl (fun (x y : Int) => x + y) 0 = (fun (x y : Int) => x + y) ((zs.take k).foldl (fun (x y : Int) => x + y) 0) z from fold_next hz)
      clear hz hN hc hX hn h0
      go_wp2_with fail
      (with_reducible refine (HA.out _ (HT.out.of (by (repeat' (first | (with_reducible first | apply Zl1 | apply Zl2 | apply Zl3 | apply Zl4 | apply Zl5 | apply Zl6 | apply Zl7 | apply Zl8 | apply Zl9 | apply Zla | apply Zlb | apply Zlc) | (dsimp only; with_reducible first | apply Zl8 | apply Zl2 | apply Zld) | with_reducible assumption | omega | (dsimp only; omega)))))).mono ?_)
      rintro _ _ ⟨rfl, y, rfl⟩
      have hys := y.size_le
      dsimp only
      go_wp2
      go_roundw
      case rel => exact ⟨k + 1, by omega, by go_num, by rw [HE.out], HN.out, by (repeat' (first | (with_reducible first | apply Zl1 | apply Zl2 | apply Zl3 | apply Zl4 | apply Zl5 | apply Zl6 | apply Zl7 | apply Zl8 | apply Zl9 | apply Zla | apply Zlb | apply Zlc) | (dsimp only; with_reducible first | apply Zl8 | apply Zl2 | apply Zld) | with_reducible assumption | omega | (dsimp only; omega)))⟩
      case measure => simp [intOf]; omega
    · obtain rfl : k = zs.length := by omega
      rw [List.take_length]
      clear hX hn hnd
      go_wp2
      go_ret
      exact Ret.mk (by rfl) (by (repeat' (first | (with_reducible first | apply Zl1 | apply Zl2 | apply Zl3 | apply Zl4 | apply Zl5 | apply Zl6 | apply Zl7 | apply Zl8 | apply Zl9 | apply Zla | apply Zlb | apply Zlc) | (dsimp only; with_reducible first | apply Zl8 | apply Zl2 | apply Zld) | with_reducible assumption | omega | (dsimp only; omega))))
end Go.Proofs.YtehgeoipbgpocaaGreatDoor.I
