/- Of, Neg, Sign, Small. -/
import Derived.Test.YteglfhmmkoahfaaGreatDoorM11
namespace Go.Proofs.YteglfhmmkoahfaaGreatDoor
open Go.RowKit Go.Shelf
attribute [local go_sem low] Bel.cell Bel.frozen alloc_cell alloc_frozen

theorem iT_is0 (z : Int) : (iT z == [48]) = decide (z = 0) := by
  by_cases h : z = 0
  · subst h
    rw [decide_eq_true rfl, show iT 0 = [48] by rw [iT_pos (by decide), show Int.natAbs 0 = 0 from rfl, dec_small (by decide)]; rfl]
    rfl
  · rw [decide_eq_false h]
    refine beq_eq_false_iff_ne.2 fun e => h ?_
    by_cases hz : z < 0
    · rw [iT_neg hz] at e
      injection e with e1
      exact absurd e1 (by decide)
    · rw [iT_pos hz] at e
      have := dec_num z.natAbs
      rw [e, show numD [48] = 0 from rfl] at this
      omega
theorem of_any (n : Int) (w : World) (h0 : -9223372036854775808 ≤ n) (h1 : n ≤ 9223372036854775807) (hT : Tab w) : Calls Tryz.prog 46 #[.int .i64 n] w (Ret (.string ⟨(iT n).toArray⟩) w) := by
  have HI := Lib.hid (itoa_any n w h0 h1 hT)
  rw [iT_itoa] at HI
  generalize iT n = t at *
  go_enter Tryz.func46, Tryz.ntmps46
  go_wp2_with fail
  (with_reducible refine HI.out.mono ?_)
  rintro _ _ ⟨rfl, x, rfl⟩
  go_wp2
  go_ret
  exact Ret.mk (by rfl) (by (repeat' (first | (with_reducible exact Below.refl _ _) | (with_reducible exact Nat.le_refl _) | (with_reducible refine Below.bel ?_ ?_) | (with_reducible refine Below.alloc ?_ ?_ _) | (with_reducible refine Below.drew ?_) | (with_reducible refine Below.drawsN ?_ _) | (with_reducible refine Below.setCell ?_ ?_ _) | (with_reducible refine le_bel ?_) | (with_reducible refine le_alloc ?_) | (with_reducible refine le_setCell ?_) | (with_reducible refine le_drew ?_) | (with_reducible refine le_drawsN ?_) | (dsimp only; with_reducible refine le_bel ?_) | (dsimp only; with_reducible refine Nat.le_refl _) | (dsimp only; with_reducible refine le_bel_add ?_) | (with_reducible assumption) | omega | (dsimp only; omega))))
theorem neg_any (z : Int) (w : World) (hl : (Lib.decDigits z.natAbs).length ≤ 100000) : Calls Tryz.prog 15 #[.string ⟨(iT z).toArray⟩] w (Ret (.string ⟨(iT (-z)).toArray⟩) w) := by
  have hq := iT_is0 z
  have HC := Lib.hid (cut_any z)
  by_cases h0 : z = 0
  · subst h0
    rw [decide_eq_true rfl] at hq
    rw [show (-0 : Int) = 0 from rfl]
    clear HC
    generalize iT 0 = t at *
    go_enter Tryz.func15, Tryz.ntmps15
    go_wp2
    go_ret
    exact Ret.mk (by rfl) (by (repeat' (first | (with_reducible exact Below.refl _ _) | (with_reducible exact Nat.le_refl _) | (with_reducible refine Below.bel ?_ ?_) | (with_reducible refine Below.alloc ?_ ?_ _) | (with_reducible refine Below.drew ?_) | (with_reducible refine Below.drawsN ?_ _) | (with_reducible refine Below.setCell ?_ ?_ _) | (with_reducible refine le_bel ?_) | (with_reducible refine le_alloc ?_) | (with_reducible refine le_setCell ?_) | (with_reducible refine le_drew ?_) | (with_reducible refine le_drawsN ?_) | (dsimp only; with_reducible refine le_bel ?_) | (dsimp only; with_reducible refine Nat.le_refl _) | (dsimp only; with_reducible refine le_bel_add ?_) | (with_reducible assumption) | omega | (dsimp only; omega))))
  · rw [decide_eq_false h0] at hq
    by_cases hz : z < 0
    · rw [decide_eq_true hz] at HC
      have HS := Lib.hid (show iT (-z) = Lib.decDigits z.natAbs by rw [iT_pos (by omega), Int.natAbs_neg])
      generalize Lib.decDigits z.natAbs = d at *
      generalize iT z = t at *
      generalize iT (-z) = u at *
      go_enter Tryz.func15, Tryz.ntmps15
      go_wp2_with fail
      (with_reducible refine (HC.out _).mono ?_)
      rintro _ _ ⟨rfl, x, rfl⟩
      dsimp only
      go_wp2
      go_ret
      exact Ret.mk (by rw [HS.out]; rfl) (by (repeat' (first | (with_reducible exact Below.refl _ _) | (with_reducible exact Nat.le_refl _) | (with_reducible refine Below.bel ?_ ?_) | (with_reducible refine Below.alloc ?_ ?_ _) | (with_reducible refine Below.drew ?_) | (with_reducible refine Below.drawsN ?_ _) | (with_reducible refine Below.setCell ?_ ?_ _) | (with_reducible refine le_bel ?_) | (with_reducible refine le_alloc ?_) | (with_reducible refine le_setCell ?_) | (with_reducible refine le_drew ?_) | (with_reducible refine le_drawsN ?_) | (dsimp only; with_reducible refine le_bel ?_) | (dsimp only; with_reducible refine Nat.le_refl _) | (dsimp only; with_reducible refine le_bel_add ?_) | (with_reducible assumption) | omega | (dsimp only; omega))))
    · rw [decide_eq_false hz] at HC
      have hd := iT_pos hz
      have HS := Lib.hid (show iT (-z) = 45 :: iT z by rw [iT_neg (by omega), Int.natAbs_neg, hd])
      have hll : (iT z).length ≤ 100000 := by rw [hd]; exact hl
      generalize Lib.decDigits z.natAbs = d at *
      generalize iT z = t at *
      generalize iT (-z) = u at *
      have l1 : (9223372036854775807 < 1 + t.length) = False := eq_false (by omega)
      have b1 : (ByteArray.mk #[45]) ++ ⟨t.toArray⟩ = ⟨([45] ++ t).toArray⟩ := bytes_app [45] t
      clear hd
      go_enter Tryz.func15, Tryz.ntmps15
      go_wp2_with fail
      (with_reducible refine (HC.out _).mono ?_)
      rintro _ _ ⟨rfl, x, rfl⟩
      dsimp only
      go_wp2
      go_ret
      exact Ret.mk (by rw [HS.out]; rfl) (by (repeat' (first | (with_reducible exact Below.refl _ _) | (with_reducible exact Nat.le_refl _) | (with_reducible refine Below.bel ?_ ?_) | (with_reducible refine Below.alloc ?_ ?_ _) | (with_reducible refine Below.drew ?_) | (with_reducible refine Below.drawsN ?_ _) | (with_reducible refine Below.setCell ?_ ?_ _) | (with_reducible refine le_bel ?_) | (with_reducible refine le_alloc ?_) | (with_reducible refine le_setCell ?_) | (with_reducible refine le_drew ?_) | (with_reducible refine le_drawsN ?_) | (dsimp only; with_reducible refine le_bel ?_) | (dsimp only; with_reducible refine Nat.le_refl _) | (dsimp only; with_reducible refine le_bel_add ?_) | (with_reducible assumption) | omega | (dsimp only; omega))))
theorem has_pre (z : Int) (w : World) : Calls Tryz.prog 33 #[.string ⟨(iT z).toArray⟩, .string ⟨#[45]⟩] w (Ret (.bool (decide (z < 0))) w) := by
  have h := Tryz.strings_HasPrefix ⟨(iT z).toArray⟩ ⟨#[45]⟩ w
  by_cases hz : z < 0
  · rw [iT_neg hz] at h ⊢
    have h2 := pre_neg (Lib.decDigits z.natAbs)
    refine h.mono fun e w' ⟨he, hw⟩ => ⟨?_, ⟨w, Below.refl _ _⟩, hw⟩
    rw [he, decide_eq_true hz]
    show Ending.returned (.bool (Lib.hasPrefix (45 :: Lib.decDigits z.natAbs) [45])) = _
    rw [h2.1]
  · rw [iT_pos hz] at h ⊢
    have h2 := pre_pos z.natAbs
    refine h.mono fun e w' ⟨he, hw⟩ => ⟨?_, ⟨w, Below.refl _ _⟩, hw⟩
    rw [he, decide_eq_false hz]
    show Ending.returned (.bool (Lib.hasPrefix (Lib.decDigits z.natAbs) [45])) = _
    rw [h2.1]
theorem sign_any (z : Int) (w : World) : Calls Tryz.prog 11 #[.string ⟨(iT z).toArray⟩] w (Ret (.int .i64 z.sign) w) := by
  have hq := iT_is0 z
  have HC := Lib.hid (has_pre z)
  by_cases h0 : z = 0
  · subst h0
    rw [decide_eq_true rfl] at hq
    clear HC
    generalize iT 0 = t at *
    go_enter Tryz.func11, Tryz.ntmps11
    go_wp2
    go_ret
    exact Ret.mk (by rfl) (by (repeat' (first | (with_reducible exact Below.refl _ _) | (with_reducible exact Nat.le_refl _) | (with_reducible refine Below.bel ?_ ?_) | (with_reducible refine Below.alloc ?_ ?_ _) | (with_reducible refine Below.drew ?_) | (with_reducible refine Below.drawsN ?_ _) | (with_reducible refine Below.setCell ?_ ?_ _) | (with_reducible refine le_bel ?_) | (with_reducible refine le_alloc ?_) | (with_reducible refine le_setCell ?_) | (with_reducible refine le_drew ?_) | (with_reducible refine le_drawsN ?_) | (dsimp only; with_reducible refine le_bel ?_) | (dsimp only; with_reducible refine Nat.le_refl _) | (dsimp only; with_reducible refine le_bel_add ?_) | (with_reducible assumption) | omega | (dsimp only; omega))))
  · rw [decide_eq_false h0] at hq
    by_cases hz : z < 0
    · rw [decide_eq_true hz] at HC
      have HS := Lib.hid (Int.sign_eq_neg_one_of_neg hz)
      generalize iT z = t at *
      go_enter Tryz.func11, Tryz.ntmps11
      go_wp2_with fail
      (with_reducible refine (HC.out _).mono ?_)
      rintro _ _ ⟨rfl, x, rfl⟩
      go_wp2
      go_ret
      exact Ret.mk (by rw [HS.out]; rfl) (by (repeat' (first | (with_reducible exact Below.refl _ _) | (with_reducible exact Nat.le_refl _) | (with_reducible refine Below.bel ?_ ?_) | (with_reducible refine Below.alloc ?_ ?_ _) | (with_reducible refine Below.drew ?_) | (with_reducible refine Below.drawsN ?_ _) | (with_reducible refine Below.setCell ?_ ?_ _) | (with_reducible refine le_bel ?_) | (with_reducible refine le_alloc ?_) | (with_reducible refine le_setCell ?_) | (with_reducible refine le_drew ?_) | (with_reducible refine le_drawsN ?_) | (dsimp only; with_reducible refine le_bel ?_) | (dsimp only; with_reducible refine Nat.le_refl _) | (dsimp only; with_reducible refine le_bel_add ?_) | (with_reducible assumption) | omega | (dsimp only; omega))))
    · rw [decide_eq_false hz] at HC
      have HS := Lib.hid (Int.sign_eq_one_of_pos (show 0 < z by omega))
      generalize iT z = t at *
      go_enter Tryz.func11, Tryz.ntmps11
      go_wp2_with fail
      (with_reducible refine (HC.out _).mono ?_)
      rintro _ _ ⟨rfl, x, rfl⟩
      go_wp2
      go_ret
      exact Ret.mk (by rw [HS.out]; rfl) (by (repeat' (first | (with_reducible exact Below.refl _ _) | (with_reducible exact Nat.le_refl _) | (with_reducible refine Below.bel ?_ ?_) | (with_reducible refine Below.alloc ?_ ?_ _) | (with_reducible refine Below.drew ?_) | (with_reducible refine Below.drawsN ?_ _) | (with_reducible refine Below.setCell ?_ ?_ _) | (with_reducible refine le_bel ?_) | (with_reducible refine le_alloc ?_) | (with_reducible refine le_setCell ?_) | (with_reducible refine le_drew ?_) | (with_reducible refine le_drawsN ?_) | (dsimp only; with_reducible refine le_bel ?_) | (dsimp only; with_reducible refine Nat.le_refl _) | (dsimp only; with_reducible refine le_bel_add ?_) | (with_reducible assumption) | omega | (dsimp only; omega))))
theorem quick_18 (z : Int) (w : World) (hl : (Lib.decDigits z.natAbs).length ≤ 18) : Calls Tryz.prog 45 #[.string ⟨(iT z).toArray⟩, .int .i64 18] w (Ret (.tuple #[.int .i64 z, .bool true]) w) := quick_yes z 18 w hl (by decide)
theorem quick_n18 (z : Int) (w : World) (hl : 18 < (Lib.decDigits z.natAbs).length) (hll : (Lib.decDigits z.natAbs).length ≤ 100000) : Calls Tryz.prog 45 #[.string ⟨(iT z).toArray⟩, .int .i64 18] w (Ret (.tuple #[.int .i64 0, .bool false]) w) := quick_no z 18 w hl (by decide) hll
theorem quick_9 (z : Int) (w : World) (hl : (Lib.decDigits z.natAbs).length ≤ 9) : Calls Tryz.prog 45 #[.string ⟨(iT z).toArray⟩, .int .i64 9] w (Ret (.tuple #[.int .i64 z, .bool true]) w) := quick_yes z 9 w hl (by decide)
theorem quick_n9 (z : Int) (w : World) (hl : 9 < (Lib.decDigits z.natAbs).length) (hll : (Lib.decDigits z.natAbs).length ≤ 100000) : Calls Tryz.prog 45 #[.string ⟨(iT z).toArray⟩, .int .i64 9] w (Ret (.tuple #[.int .i64 0, .bool false]) w) := quick_no z 9 w hl (by decide) hll
end Go.Proofs.YteglfhmmkoahfaaGreatDoor
