/- quick. -/
import Derived.Test.YteglfhmmkoahfaaGreatDoorM10
namespace Go.Proofs.YteglfhmmkoahfaaGreatDoor
open Go.RowKit Go.Shelf
attribute [local go_sem low] Bel.cell Bel.frozen alloc_cell alloc_frozen

theorem quick_no (z : Int) (D : Nat) (w : World) (hl : D < (Lib.decDigits z.natAbs).length) (hD : D ≤ 1000) (hll : (Lib.decDigits z.natAbs).length ≤ 100000) :
    Calls Tryz.prog 45 #[.string ⟨(iT z).toArray⟩, .int .i64 (D : Int)] w (Ret (.tuple #[.int .i64 0, .bool false]) w) := by
  have HC := Lib.hid (cut_any z)
  generalize Lib.decDigits z.natAbs = d at *
  generalize iT z = t at *
  have hD' : decide ((D : Int) < (d.length : Int)) = true := decide_eq_true (by omega)
  generalize decide (z < 0) = m at *
  go_enter Tryz.func45, Tryz.ntmps45
  go_wp2_with fail
  (with_reducible refine (HC.out _).mono ?_)
  rintro _ _ ⟨rfl, x, rfl⟩
  dsimp only
  go_wp2
  refine bodyPost_ret (v := .tuple #[.int .i64 0, .bool false]) (by simp [results, Tryz.results45, go_sem]) rfl (Ret.mk (by rfl) (by (repeat' (first | (with_reducible exact Below.refl _ _) | (with_reducible exact Nat.le_refl _) | (with_reducible refine Below.bel ?_ ?_) | (with_reducible refine Below.alloc ?_ ?_ _) | (with_reducible refine Below.drew ?_) | (with_reducible refine Below.drawsN ?_ _) | (with_reducible refine Below.setCell ?_ ?_ _) | (with_reducible refine le_bel ?_) | (with_reducible refine le_alloc ?_) | (with_reducible refine le_setCell ?_) | (with_reducible refine le_drew ?_) | (with_reducible refine le_drawsN ?_) | (dsimp only; with_reducible refine le_bel ?_) | (dsimp only; with_reducible refine Nat.le_refl _) | (dsimp only; with_reducible refine le_bel_add ?_) | (with_reducible assumption) | omega | (dsimp only; omega)))))
set_option maxRecDepth 100000 in
set_option maxHeartbeats 3200000 in
theorem quick_yes (z : Int) (D : Nat) (w : World) (hl : (Lib.decDigits z.natAbs).length ≤ D) (hD : D ≤ 18) :
    Calls Tryz.prog 45 #[.string ⟨(iT z).toArray⟩, .int .i64 (D : Int)] w (Ret (.tuple #[.int .i64 z, .bool true]) w) := by
  have HC := Lib.hid (cut_any z)
  have HD := Lib.hid (dec_digits z.natAbs)
  have hn := dec_num z.natAbs
  have hnz : z = if z < 0 then -(z.natAbs : Int) else (z.natAbs : Int) := by split <;> omega
  have hzb : z.natAbs < 1000000000000000000 := by
    rw [← hn]
    exact Nat.lt_of_lt_of_le (numD_lt HD.out) (Nat.pow_le_pow_right (by decide) (by omega : (Lib.decDigits z.natAbs).length ≤ 18))
  generalize Lib.decDigits z.natAbs = d at *
  generalize iT z = t at *
  have hD' : decide ((D : Int) < (d.length : Int)) = false := decide_eq_false (by omega)
  obtain ⟨m, hm⟩ : ∃ m, decide (z < 0) = m := ⟨_, rfl⟩
  have HZ := Lib.hid (show z = if m = true then -(z.natAbs : Int) else (z.natAbs : Int) by
    rw [← hm]
    by_cases h : z < 0
    · rw [if_pos h] at hnz; rw [if_pos (decide_eq_true h)]; exact hnz
    · rw [if_neg h] at hnz; rw [if_neg (by simpa using h)]; exact hnz)
  rw [hm] at HC
  clear hm hnz
  generalize z.natAbs = u at *
  have HN := Lib.hid hn
  clear hn
  go_enter Tryz.func45, Tryz.ntmps45
  go_wp2_with fail
  (with_reducible refine (HC.out _).mono ?_)
  rintro _ _ ⟨rfl, x, rfl⟩
  have hxs := x.size_le
  dsimp only
  obtain ⟨xb, capb, hcv, hcc⟩ := conv_bytes x.w d
  have hbs := xb.size_le
  have HCC := Lib.hid hcc
  clear hcc
  go_wp2
  go_loopw [8, 23] (fun c j wr => ∃ k : Nat, j = .int .i64 (k : Int) ∧ k ≤ d.length ∧ c = .int .i64 (numD (d.take k) : Nat) ∧ wr = xb.w) (fun _ j _ => d.length - (intOf j).toNat)
  case atStart => refine ⟨0, ?_, ?_, ?_, ?_⟩ <;> first | rfl | trivial | omega
  case round =>
    obtain ⟨k, rfl, hk, rfl, rfl⟩ := hrel
    by_cases hkc : k < d.length
    · have hki : (k : Int) < (d.length : Int) := by omega
      obtain ⟨c, hc⟩ : ∃ c, d[k]? = some c := ⟨_, List.getElem?_eq_getElem hkc⟩
      have g1 := HCC.out k c hc
      have hcb := HD.out c (List.mem_of_getElem? hc)
      have hus := u8_sub hcb
      have hnx := numD_next hc
      have hnl : numD (d.take k) < 1000000000000000000 := by
        have := numD_lt (digits_take HD.out k)
        exact Nat.lt_of_lt_of_le this (Nat.pow_le_pow_right (by decide) (by rw [List.length_take]; omega : (d.take k).length ≤ 18))
      have hdb : c.toNat - 48 ≤ 9 := by omega
      obtain ⟨dg, hdg⟩ : ∃ d, c.toNat - 48 = d := ⟨_, rfl⟩
      rw [hdg] at hus hnx hdb
      have hnl2 : numD (d.take k) ≤ 99999999999999999 := by
        have := numD_lt (digits_take HD.out k)
        have h2 : (10 : Nat) ^ (d.take k).length ≤ 10 ^ 17 := Nat.pow_le_pow_right (by decide) (by rw [List.length_take]; omega)
        have : (10 : Nat) ^ 17 = 100000000000000000 := by decide
        omega
      have HNX := Lib.hid hnx
      clear hc hcb hdg hnx
      generalize numD (d.take k) = v0 at *
      go_wp2
      go_roundw
      case rel => exact ⟨k + 1, by go_num, by omega, by rw [HNX.out]; go_num, by first | rfl | trivial⟩
      case measure => simp [intOf]; omega
    · obtain rfl : k = d.length := by omega
      rw [List.take_length, HN.out]
      cases m
      · have HV := Lib.hid (show z = (u : Int) from HZ.out)
        go_wp2
        refine bodyPost_ret (v := .tuple #[.int .i64 u, .bool true]) (by simp [results, Tryz.results45, go_sem]) rfl (Ret.mk (by rw [HV.out]) (by (repeat' (first | (with_reducible exact Below.refl _ _) | (with_reducible exact Nat.le_refl _) | (with_reducible refine Below.bel ?_ ?_) | (with_reducible refine Below.alloc ?_ ?_ _) | (with_reducible refine Below.drew ?_) | (with_reducible refine Below.drawsN ?_ _) | (with_reducible refine Below.setCell ?_ ?_ _) | (with_reducible refine le_bel ?_) | (with_reducible refine le_alloc ?_) | (with_reducible refine le_setCell ?_) | (with_reducible refine le_drew ?_) | (with_reducible refine le_drawsN ?_) | (dsimp only; with_reducible refine le_bel ?_) | (dsimp only; with_reducible refine Nat.le_refl _) | (dsimp only; with_reducible refine le_bel_add ?_) | (with_reducible assumption) | omega | (dsimp only; omega)))))
      · have HV := Lib.hid (show z = -(u : Int) from HZ.out)
        have hw : IntKind.i64.wrap (-(u : Int)) = -(u : Int) := IntWalk.i64_in _ (by omega)
        go_wp2
        refine bodyPost_ret (v := .tuple #[.int .i64 (-(u : Int)), .bool true]) (by simp [results, Tryz.results45, go_sem]) rfl (Ret.mk (by rw [HV.out]) (by (repeat' (first | (with_reducible exact Below.refl _ _) | (with_reducible exact Nat.le_refl _) | (with_reducible refine Below.bel ?_ ?_) | (with_reducible refine Below.alloc ?_ ?_ _) | (with_reducible refine Below.drew ?_) | (with_reducible refine Below.drawsN ?_ _) | (with_reducible refine Below.setCell ?_ ?_ _) | (with_reducible refine le_bel ?_) | (with_reducible refine le_alloc ?_) | (with_reducible refine le_setCell ?_) | (with_reducible refine le_drew ?_) | (with_reducible refine le_drawsN ?_) | (dsimp only; with_reducible refine le_bel ?_) | (dsimp only; with_reducible refine Nat.le_refl _) | (dsimp only; with_reducible refine le_bel_add ?_) | (with_reducible assumption) | omega | (dsimp only; omega)))))
end Go.Proofs.YteglfhmmkoahfaaGreatDoor
