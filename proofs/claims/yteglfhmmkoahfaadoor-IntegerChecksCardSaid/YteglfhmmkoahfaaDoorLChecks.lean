/- The walk of IntegerChecks. -/
import Derived.Test.YteglfhmmkoahfaaDoorM23
import Derived.Test.YteglfhmmkoahfaaDoorM27
namespace Go.Proofs.YteglfhmmkoahfaaDoor
open Go.RowKit Go.Shelf
attribute [local go_sem low] Bel.cell Bel.frozen alloc_cell alloc_frozen

theorem chk_right (l : List UInt8) : chkV l = if rgV l = true then 0 else 2 := by
  unfold chkV rgV canV
  generalize Lib.trimPrefix l [45] = d
  generalize Lib.hasPrefix l [45] = m
  cases d with
  | nil => rfl
  | cons c r =>
    unfold chkD canD
    dsimp only
    by_cases h4 : 400 < (c :: r).length
    · rw [if_pos h4, decide_eq_false (show ¬ (c :: r).length ≤ 400 by omega), Bool.and_false]; rfl
    · rw [if_neg h4, decide_eq_true (show (c :: r).length ≤ 400 by omega), Bool.and_true]
      split
      · rfl
      · rfl
set_option maxRecDepth 100000 in
set_option maxHeartbeats 6400000 in
theorem lawChecks_any (l : List UInt8) (n : Int) (w : World) (hT : Tab w) (h0 : -9223372036854775808 ≤ n) (h1 : n ≤ 9223372036854775807) (hl : l.length ≤ 9223372036854775807) :
    Calls Tryd.prog 6 #[.string ⟨l.toArray⟩, .int .i64 n] w (Ret (.bool true) w) := by
  have HT := Lib.hid hT
  clear hT
  by_cases h410 : 410 < l.length
  · have e1 : decide ((410 : Int) < (l.length : Int)) = true := decide_eq_true (by omega)
    clear h410
    go_enter Tryd.func6, Tryd.ntmps6
    go_wp2_with fail
    (with_reducible refine (known_any _ (HT.out.of (by (repeat' (first | (with_reducible exact Below.refl _ _) | (with_reducible exact Nat.le_refl _) | (with_reducible refine Below.bel ?_ ?_) | (with_reducible refine Below.alloc ?_ ?_ _) | (with_reducible refine Below.drew ?_) | (with_reducible refine Below.drawsN ?_ _) | (with_reducible refine Below.setCell ?_ ?_ _) | (with_reducible refine le_bel ?_) | (with_reducible refine le_alloc ?_) | (with_reducible refine le_setCell ?_) | (with_reducible refine le_drew ?_) | (with_reducible refine le_drawsN ?_) | (dsimp only; with_reducible refine le_bel ?_) | (dsimp only; with_reducible refine Nat.le_refl _) | (dsimp only; with_reducible refine le_bel_add ?_) | (with_reducible assumption) | omega | (dsimp only; omega)))))).mono ?_)
    rintro _ _ ⟨rfl, x, rfl⟩
    have hxs := x.size_le
    go_wp2_with fail
    (with_reducible refine (known_any _ (HT.out.of (by (repeat' (first | (with_reducible exact Below.refl _ _) | (with_reducible exact Nat.le_refl _) | (with_reducible refine Below.bel ?_ ?_) | (with_reducible refine Below.alloc ?_ ?_ _) | (with_reducible refine Below.drew ?_) | (with_reducible refine Below.drawsN ?_ _) | (with_reducible refine Below.setCell ?_ ?_ _) | (with_reducible refine le_bel ?_) | (with_reducible refine le_alloc ?_) | (with_reducible refine le_setCell ?_) | (with_reducible refine le_drew ?_) | (with_reducible refine le_drawsN ?_) | (dsimp only; with_reducible refine le_bel ?_) | (dsimp only; with_reducible refine Nat.le_refl _) | (dsimp only; with_reducible refine le_bel_add ?_) | (with_reducible assumption) | omega | (dsimp only; omega)))))).mono ?_)
    rintro _ _ ⟨rfl, z, rfl⟩
    go_wp2
    go_ret
    exact Ret.mk (by rfl) (by (repeat' (first | (with_reducible exact Below.refl _ _) | (with_reducible exact Nat.le_refl _) | (with_reducible refine Below.bel ?_ ?_) | (with_reducible refine Below.alloc ?_ ?_ _) | (with_reducible refine Below.drew ?_) | (with_reducible refine Below.drawsN ?_ _) | (with_reducible refine Below.setCell ?_ ?_ _) | (with_reducible refine le_bel ?_) | (with_reducible refine le_alloc ?_) | (with_reducible refine le_setCell ?_) | (with_reducible refine le_drew ?_) | (with_reducible refine le_drawsN ?_) | (dsimp only; with_reducible refine le_bel ?_) | (dsimp only; with_reducible refine Nat.le_refl _) | (dsimp only; with_reducible refine le_bel_add ?_) | (with_reducible assumption) | omega | (dsimp only; omega))))
  · have e1 : decide ((410 : Int) < (l.length : Int)) = false := decide_eq_false (by omega)
    have HR := Lib.hid (fun w' => right_any l w' (by omega))
    have HC := Lib.hid (fun w' => check_any l w' (by omega))
    have HO := Lib.hid (fun w' hT => of_any n w' h0 h1 hT)
    have HP := Lib.hid (fun w' hT => refOf_any n w' h0 h1 hT)
    have HK := Lib.hid (fun w' => canonical_any l w' (by omega))
    rw [chk_right] at HC
    cases hc : canV l
    · rw [hc] at HK
      have hr : rgV l = false := by unfold rgV; rw [hc]; rfl
      rw [hr] at HR HC
      rw [if_neg (by decide)] at HC
      clear hc hr h410
      generalize iT n = t at *
      go_enter Tryd.func6, Tryd.ntmps6
      go_wp2_with fail
      (with_reducible refine (known_any _ (HT.out.of (by (repeat' (first | (with_reducible exact Below.refl _ _) | (with_reducible exact Nat.le_refl _) | (with_reducible refine Below.bel ?_ ?_) | (with_reducible refine Below.alloc ?_ ?_ _) | (with_reducible refine Below.drew ?_) | (with_reducible refine Below.drawsN ?_ _) | (with_reducible refine Below.setCell ?_ ?_ _) | (with_reducible refine le_bel ?_) | (with_reducible refine le_alloc ?_) | (with_reducible refine le_setCell ?_) | (with_reducible refine le_drew ?_) | (with_reducible refine le_drawsN ?_) | (dsimp only; with_reducible refine le_bel ?_) | (dsimp only; with_reducible refine Nat.le_refl _) | (dsimp only; with_reducible refine le_bel_add ?_) | (with_reducible assumption) | omega | (dsimp only; omega)))))).mono ?_)
      rintro _ _ ⟨rfl, x, rfl⟩
      have hxs := x.size_le
      go_wp2_with fail
      (with_reducible refine (HR.out _).mono ?_)
      rintro _ _ ⟨rfl, z1, rfl⟩
      have hz1 := z1.size_le
      go_wp2_with fail
      (with_reducible refine (HC.out _).mono ?_)
      rintro _ _ ⟨rfl, z2, rfl⟩
      have hz2 := z2.size_le
      dsimp only
      go_wp2_with fail
      (with_reducible refine (HO.out _ (HT.out.of (by (repeat' (first | (with_reducible exact Below.refl _ _) | (with_reducible exact Nat.le_refl _) | (with_reducible refine Below.bel ?_ ?_) | (with_reducible refine Below.alloc ?_ ?_ _) | (with_reducible refine Below.drew ?_) | (with_reducible refine Below.drawsN ?_ _) | (with_reducible refine Below.setCell ?_ ?_ _) | (with_reducible refine le_bel ?_) | (with_reducible refine le_alloc ?_) | (with_reducible refine le_setCell ?_) | (with_reducible refine le_drew ?_) | (with_reducible refine le_drawsN ?_) | (dsimp only; with_reducible refine le_bel ?_) | (dsimp only; with_reducible refine Nat.le_refl _) | (dsimp only; with_reducible refine le_bel_add ?_) | (with_reducible assumption) | omega | (dsimp only; omega)))))).mono ?_)
      rintro _ _ ⟨rfl, z3, rfl⟩
      have hz3 := z3.size_le
      dsimp only
      go_wp2_with fail
      (with_reducible refine (HP.out _ (HT.out.of (by (repeat' (first | (with_reducible exact Below.refl _ _) | (with_reducible exact Nat.le_refl _) | (with_reducible refine Below.bel ?_ ?_) | (with_reducible refine Below.alloc ?_ ?_ _) | (with_reducible refine Below.drew ?_) | (with_reducible refine Below.drawsN ?_ _) | (with_reducible refine Below.setCell ?_ ?_ _) | (with_reducible refine le_bel ?_) | (with_reducible refine le_alloc ?_) | (with_reducible refine le_setCell ?_) | (with_reducible refine le_drew ?_) | (with_reducible refine le_drawsN ?_) | (dsimp only; with_reducible refine le_bel ?_) | (dsimp only; with_reducible refine Nat.le_refl _) | (dsimp only; with_reducible refine le_bel_add ?_) | (with_reducible assumption) | omega | (dsimp only; omega)))))).mono ?_)
      rintro _ _ ⟨rfl, z4, rfl⟩
      have hz4 := z4.size_le
      dsimp only
      go_wp2_with fail
      (with_reducible refine (HK.out _).mono ?_)
      rintro _ _ ⟨rfl, z5, rfl⟩
      have hz5 := z5.size_le
      dsimp only
      go_wp2
      go_ret
      exact Ret.mk (by rfl) (by (repeat' (first | (with_reducible exact Below.refl _ _) | (with_reducible exact Nat.le_refl _) | (with_reducible refine Below.bel ?_ ?_) | (with_reducible refine Below.alloc ?_ ?_ _) | (with_reducible refine Below.drew ?_) | (with_reducible refine Below.drawsN ?_ _) | (with_reducible refine Below.setCell ?_ ?_ _) | (with_reducible refine le_bel ?_) | (with_reducible refine le_alloc ?_) | (with_reducible refine le_setCell ?_) | (with_reducible refine le_drew ?_) | (with_reducible refine le_drawsN ?_) | (dsimp only; with_reducible refine le_bel ?_) | (dsimp only; with_reducible refine Nat.le_refl _) | (dsimp only; with_reducible refine le_bel_add ?_) | (with_reducible assumption) | omega | (dsimp only; omega))))
    · rw [hc] at HK
      obtain ⟨z, rfl, hd⟩ := canV_int hc
      have hnz : nd z ≤ 410 := by
        have := trimP_len (iT z)
        rw [hd] at this
        unfold nd; omega
      have HS := Lib.hid (fun w' => smallI_any z w' (show nd z ≤ 100000 by omega))
      have HQ := Lib.hid (fun w' => refSmall_any z w' (by omega))
      rw [show (Lib.decDigits z.natAbs).length = nd z from rfl] at HS
      clear hc hd h410 hnz
      generalize iT n = t at *
      cases hr : rgV (iT z)
      · rw [hr] at HR HC
        rw [if_neg (by decide)] at HC
        clear hr
        generalize iT z = u at *
        generalize (if nd z ≤ 18 then z else 0) = v at *
        generalize decide (nd z ≤ 18) = b at *
        go_enter Tryd.func6, Tryd.ntmps6
        go_wp2_with fail
        (with_reducible refine (known_any _ (HT.out.of (by (repeat' (first | (with_reducible exact Below.refl _ _) | (with_reducible exact Nat.le_refl _) | (with_reducible refine Below.bel ?_ ?_) | (with_reducible refine Below.alloc ?_ ?_ _) | (with_reducible refine Below.drew ?_) | (with_reducible refine Below.drawsN ?_ _) | (with_reducible refine Below.setCell ?_ ?_ _) | (with_reducible refine le_bel ?_) | (with_reducible refine le_alloc ?_) | (with_reducible refine le_setCell ?_) | (with_reducible refine le_drew ?_) | (with_reducible refine le_drawsN ?_) | (dsimp only; with_reducible refine le_bel ?_) | (dsimp only; with_reducible refine Nat.le_refl _) | (dsimp only; with_reducible refine le_bel_add ?_) | (with_reducible assumption) | omega | (dsimp only; omega)))))).mono ?_)
        rintro _ _ ⟨rfl, x, rfl⟩
        have hxs := x.size_le
        go_wp2_with fail
        (with_reducible refine (HR.out _).mono ?_)
        rintro _ _ ⟨rfl, z1, rfl⟩
        have hz1 := z1.size_le
        go_wp2_with fail
        (with_reducible refine (HC.out _).mono ?_)
        rintro _ _ ⟨rfl, z2, rfl⟩
        have hz2 := z2.size_le
        dsimp only
        go_wp2_with fail
        (with_reducible refine (HO.out _ (HT.out.of (by (repeat' (first | (with_reducible exact Below.refl _ _) | (with_reducible exact Nat.le_refl _) | (with_reducible refine Below.bel ?_ ?_) | (with_reducible refine Below.alloc ?_ ?_ _) | (with_reducible refine Below.drew ?_) | (with_reducible refine Below.drawsN ?_ _) | (with_reducible refine Below.setCell ?_ ?_ _) | (with_reducible refine le_bel ?_) | (with_reducible refine le_alloc ?_) | (with_reducible refine le_setCell ?_) | (with_reducible refine le_drew ?_) | (with_reducible refine le_drawsN ?_) | (dsimp only; with_reducible refine le_bel ?_) | (dsimp only; with_reducible refine Nat.le_refl _) | (dsimp only; with_reducible refine le_bel_add ?_) | (with_reducible assumption) | omega | (dsimp only; omega)))))).mono ?_)
        rintro _ _ ⟨rfl, z3, rfl⟩
        have hz3 := z3.size_le
        dsimp only
        go_wp2_with fail
        (with_reducible refine (HP.out _ (HT.out.of (by (repeat' (first | (with_reducible exact Below.refl _ _) | (with_reducible exact Nat.le_refl _) | (with_reducible refine Below.bel ?_ ?_) | (with_reducible refine Below.alloc ?_ ?_ _) | (with_reducible refine Below.drew ?_) | (with_reducible refine Below.drawsN ?_ _) | (with_reducible refine Below.setCell ?_ ?_ _) | (with_reducible refine le_bel ?_) | (with_reducible refine le_alloc ?_) | (with_reducible refine le_setCell ?_) | (with_reducible refine le_drew ?_) | (with_reducible refine le_drawsN ?_) | (dsimp only; with_reducible refine le_bel ?_) | (dsimp only; with_reducible refine Nat.le_refl _) | (dsimp only; with_reducible refine le_bel_add ?_) | (with_reducible assumption) | omega | (dsimp only; omega)))))).mono ?_)
        rintro _ _ ⟨rfl, z4, rfl⟩
        have hz4 := z4.size_le
        dsimp only
        go_wp2_with fail
        (with_reducible refine (HK.out _).mono ?_)
        rintro _ _ ⟨rfl, z5, rfl⟩
        have hz5 := z5.size_le
        dsimp only
        go_wp2_with fail
        (with_reducible refine (HS.out _).mono ?_)
        rintro _ _ ⟨rfl, z6, rfl⟩
        have hz6 := z6.size_le
        dsimp only
        go_wp2_with fail
        (with_reducible refine (HQ.out _).mono ?_)
        rintro _ _ ⟨rfl, z7, rfl⟩
        have hz7 := z7.size_le
        dsimp only
        go_wp2
        go_ret
        exact Ret.mk (by simp) (by (repeat' (first | (with_reducible exact Below.refl _ _) | (with_reducible exact Nat.le_refl _) | (with_reducible refine Below.bel ?_ ?_) | (with_reducible refine Below.alloc ?_ ?_ _) | (with_reducible refine Below.drew ?_) | (with_reducible refine Below.drawsN ?_ _) | (with_reducible refine Below.setCell ?_ ?_ _) | (with_reducible refine le_bel ?_) | (with_reducible refine le_alloc ?_) | (with_reducible refine le_setCell ?_) | (with_reducible refine le_drew ?_) | (with_reducible refine le_drawsN ?_) | (dsimp only; with_reducible refine le_bel ?_) | (dsimp only; with_reducible refine Nat.le_refl _) | (dsimp only; with_reducible refine le_bel_add ?_) | (with_reducible assumption) | omega | (dsimp only; omega))))
      · rw [hr] at HR HC
        rw [if_pos rfl] at HC
        clear hr
        generalize iT z = u at *
        generalize (if nd z ≤ 18 then z else 0) = v at *
        generalize decide (nd z ≤ 18) = b at *
        go_enter Tryd.func6, Tryd.ntmps6
        go_wp2_with fail
        (with_reducible refine (known_any _ (HT.out.of (by (repeat' (first | (with_reducible exact Below.refl _ _) | (with_reducible exact Nat.le_refl _) | (with_reducible refine Below.bel ?_ ?_) | (with_reducible refine Below.alloc ?_ ?_ _) | (with_reducible refine Below.drew ?_) | (with_reducible refine Below.drawsN ?_ _) | (with_reducible refine Below.setCell ?_ ?_ _) | (with_reducible refine le_bel ?_) | (with_reducible refine le_alloc ?_) | (with_reducible refine le_setCell ?_) | (with_reducible refine le_drew ?_) | (with_reducible refine le_drawsN ?_) | (dsimp only; with_reducible refine le_bel ?_) | (dsimp only; with_reducible refine Nat.le_refl _) | (dsimp only; with_reducible refine le_bel_add ?_) | (with_reducible assumption) | omega | (dsimp only; omega)))))).mono ?_)
        rintro _ _ ⟨rfl, x, rfl⟩
        have hxs := x.size_le
        go_wp2_with fail
        (with_reducible refine (HR.out _).mono ?_)
        rintro _ _ ⟨rfl, z1, rfl⟩
        have hz1 := z1.size_le
        go_wp2_with fail
        (with_reducible refine (HC.out _).mono ?_)
        rintro _ _ ⟨rfl, z2, rfl⟩
        have hz2 := z2.size_le
        dsimp only
        go_wp2_with fail
        (with_reducible refine (HO.out _ (HT.out.of (by (repeat' (first | (with_reducible exact Below.refl _ _) | (with_reducible exact Nat.le_refl _) | (with_reducible refine Below.bel ?_ ?_) | (with_reducible refine Below.alloc ?_ ?_ _) | (with_reducible refine Below.drew ?_) | (with_reducible refine Below.drawsN ?_ _) | (with_reducible refine Below.setCell ?_ ?_ _) | (with_reducible refine le_bel ?_) | (with_reducible refine le_alloc ?_) | (with_reducible refine le_setCell ?_) | (with_reducible refine le_drew ?_) | (with_reducible refine le_drawsN ?_) | (dsimp only; with_reducible refine le_bel ?_) | (dsimp only; with_reducible refine Nat.le_refl _) | (dsimp only; with_reducible refine le_bel_add ?_) | (with_reducible assumption) | omega | (dsimp only; omega)))))).mono ?_)
        rintro _ _ ⟨rfl, z3, rfl⟩
        have hz3 := z3.size_le
        dsimp only
        go_wp2_with fail
        (with_reducible refine (HP.out _ (HT.out.of (by (repeat' (first | (with_reducible exact Below.refl _ _) | (with_reducible exact Nat.le_refl _) | (with_reducible refine Below.bel ?_ ?_) | (with_reducible refine Below.alloc ?_ ?_ _) | (with_reducible refine Below.drew ?_) | (with_reducible refine Below.drawsN ?_ _) | (with_reducible refine Below.setCell ?_ ?_ _) | (with_reducible refine le_bel ?_) | (with_reducible refine le_alloc ?_) | (with_reducible refine le_setCell ?_) | (with_reducible refine le_drew ?_) | (with_reducible refine le_drawsN ?_) | (dsimp only; with_reducible refine le_bel ?_) | (dsimp only; with_reducible refine Nat.le_refl _) | (dsimp only; with_reducible refine le_bel_add ?_) | (with_reducible assumption) | omega | (dsimp only; omega)))))).mono ?_)
        rintro _ _ ⟨rfl, z4, rfl⟩
        have hz4 := z4.size_le
        dsimp only
        go_wp2_with fail
        (with_reducible refine (HK.out _).mono ?_)
        rintro _ _ ⟨rfl, z5, rfl⟩
        have hz5 := z5.size_le
        dsimp only
        go_wp2_with fail
        (with_reducible refine (HS.out _).mono ?_)
        rintro _ _ ⟨rfl, z6, rfl⟩
        have hz6 := z6.size_le
        dsimp only
        go_wp2_with fail
        (with_reducible refine (HQ.out _).mono ?_)
        rintro _ _ ⟨rfl, z7, rfl⟩
        have hz7 := z7.size_le
        dsimp only
        go_wp2
        go_ret
        exact Ret.mk (by simp) (by (repeat' (first | (with_reducible exact Below.refl _ _) | (with_reducible exact Nat.le_refl _) | (with_reducible refine Below.bel ?_ ?_) | (with_reducible refine Below.alloc ?_ ?_ _) | (with_reducible refine Below.drew ?_) | (with_reducible refine Below.drawsN ?_ _) | (with_reducible refine Below.setCell ?_ ?_ _) | (with_reducible refine le_bel ?_) | (with_reducible refine le_alloc ?_) | (with_reducible refine le_setCell ?_) | (with_reducible refine le_drew ?_) | (with_reducible refine le_drawsN ?_) | (dsimp only; with_reducible refine le_bel ?_) | (dsimp only; with_reducible refine Nat.le_refl _) | (dsimp only; with_reducible refine le_bel_add ?_) | (with_reducible assumption) | omega | (dsimp only; omega))))
end Go.Proofs.YteglfhmmkoahfaaDoor
