/- The walk of IntegerParses. -/
import Derived.Test.YteglfhmmkoahfaaDoorM23
import Derived.Test.YteglfhmmkoahfaaDoorM26
import Derived.Test.YteglfhmmkoahfaaDoorM13
namespace Go.Proofs.YteglfhmmkoahfaaDoor
open Go.RowKit Go.Shelf
attribute [local go_sem low] Bel.cell Bel.frozen alloc_cell alloc_frozen

theorem parI_all (l : List UInt8) (w : World) (hl : l.length ≤ 100000) : Calls Tryd.prog 9 #[.string ⟨l.toArray⟩] w (Ret (.tuple #[.string ⟨(parI l).1.toArray⟩, .int .i64 (parI l).2]) w) := by
  cases l with
  | nil => exact parI_nil w
  | cons c r => exact parI_any c r w (by simp at hl; omega)
theorem refParse_all (l : List UInt8) (w : World) (hl : l.length ≤ 100000) : Calls Tryd.prog 10 #[.string ⟨l.toArray⟩] w (Ret (.tuple #[.string ⟨(parI l).1.toArray⟩, .int .i64 (parI l).2]) w) := by
  cases l with
  | nil => exact refParse_nil w
  | cons c r => exact refParse_any c r w (by simp at hl; omega)
theorem digits_isD {d : List UInt8} (h : Digits d) : ∀ c ∈ d, isD c = true := fun c hc => by
  have := h c hc
  unfold isD
  rw [decide_eq_true this.1, decide_eq_true this.2]; rfl
theorem digS_digits {d : List UInt8} (h : Digits d) : digS d = some d := by
  have h1 := digits_isD h
  rw [digS_ok (fun i hi => by
    unfold okAt
    rw [List.getD_eq_getElem?_getD, List.getElem?_eq_getElem hi]
    show (isD d[i] || _) = true
    rw [h1 _ (List.getElem_mem hi)]; rfl)]
  rw [List.filter_eq_self.2 h1]
theorem strip_dec {n : Nat} (h0 : n ≠ 0) : strip0 (Lib.decDigits n) = Lib.decDigits n := by
  obtain ⟨c, r, h, _⟩ := dec_cons n
  have := dec_head n h0 c r h
  rw [h]
  exact strip_other (fun e => this (by rw [e]; rfl)) r
theorem parI_iT {z : Int} (hl : nd z ≤ 400) : parI (iT z) = (iT z, 0) := by
  obtain ⟨c, r, h, hc1, hc2⟩ := dec_cons z.natAbs
  have hdig := digS_digits (dec_digits z.natAbs)
  have hne : ∀ n : Nat, Lib.decDigits n ≠ [] := fun n h => by have := dec_pos n; rw [h] at this; simp at this
  by_cases hz : z < 0
  · have hs := strip_dec (show z.natAbs ≠ 0 by omega)
    unfold nd at hl
    rw [iT_neg hz, show parI (45 :: Lib.decDigits z.natAbs) = parD true (digS (Lib.decDigits z.natAbs)) from by rw [parI]; exact if_pos rfl, hdig]
    rw [h] at hs hl ⊢
    unfold parD
    dsimp only
    rw [hs, if_neg (by simp), if_neg (by omega), if_pos rfl]
  · have hp : parI (Lib.decDigits z.natAbs) = parD false (digS (Lib.decDigits z.natAbs)) := by
      rw [h, parI]
      exact (if_neg (fun e => by subst e; revert hc1; decide)).trans (if_neg (fun e => by subst e; revert hc1; decide))
    rw [iT_pos hz, hp, hdig]
    by_cases h0 : z.natAbs = 0
    · rw [h0, dec_small (by decide)]; rfl
    · have hs := strip_dec h0
      unfold nd at hl
      rw [h] at hs hl ⊢
      unfold parD
      dsimp only
      rw [hs, if_neg (by simp), if_neg (by omega), if_neg (by decide)]
theorem rep_zeros (d : Nat) (hd : d ≤ 1000) (w : World) : Calls Tryd.prog 8 #[.string ⟨#[48]⟩, .int .i64 (d : Int)] w (Ret (.string ⟨(List.replicate d 48).toArray⟩) w) := by
  refine (Tryd.strings_Repeat ⟨#[48]⟩ d w (by omega) (by show 1 * d ≤ _; omega)).mono fun e w' ⟨he, hb⟩ => ⟨?_, ⟨w', hb⟩, rfl⟩
  rw [he]
  have : ∀ k : Nat, Lib.repeatL [(48 : UInt8)] k = List.replicate k 48 := fun k => by
    induction k with
    | zero => rfl
    | succ k ih => rw [show Lib.repeatL [(48 : UInt8)] (k + 1) = [48] ++ Lib.repeatL [48] k from rfl, ih]; rfl
  have h2 := this d
  show _ = Ending.returned (.string ⟨(List.replicate d 48).toArray⟩)
  rw [← h2]
set_option maxRecDepth 100000 in
set_option maxHeartbeats 6400000 in
theorem lawParses_any (l : List UInt8) (g : Nat) (w : World) (hT : Tab w) (hg : g < 65536) (hl : l.length ≤ 9223372036854775807) :
    Calls Tryd.prog 3 #[.string ⟨l.toArray⟩, .int .u16 (g : Int)] w (Ret (.bool true) w) := by
  have HT := Lib.hid hT
  clear hT
  by_cases h60 : 60 < l.length
  · have e1 : decide ((60 : Int) < (l.length : Int)) = true := decide_eq_true (by omega)
    clear h60
    go_enter Tryd.func3, Tryd.ntmps3
    go_wp2_with fail
    (with_reducible refine (known_any _ (HT.out.of (by (repeat' (first | (with_reducible exact Below.refl _ _) | (with_reducible exact Nat.le_refl _) | (with_reducible refine Below.bel ?_ ?_) | (with_reducible refine Below.alloc ?_ ?_ _) | (with_reducible refine Below.drew ?_) | (with_reducible refine Below.drawsN ?_ _) | (with_reducible refine Below.setCell ?_ ?_ _) | (with_reducible refine le_bel ?_) | (with_reducible refine le_alloc ?_) | (with_reducible refine le_setCell ?_) | (with_reducible refine le_drew ?_) | (with_reducible refine le_drawsN ?_) | (dsimp only; with_reducible refine le_bel ?_) | (dsimp only; with_reducible refine Nat.le_refl _) | (dsimp only; with_reducible refine le_bel_add ?_) | (with_reducible assumption) | omega | (dsimp only; omega)))))).mono ?_)
    rintro _ _ ⟨rfl, x, rfl⟩
    have hxs := x.size_le
    go_wp2_with fail
    (with_reducible refine (known_any _ (HT.out.of (by (repeat' (first | (with_reducible exact Below.refl _ _) | (with_reducible exact Nat.le_refl _) | (with_reducible refine Below.bel ?_ ?_) | (with_reducible refine Below.alloc ?_ ?_ _) | (with_reducible refine Below.drew ?_) | (with_reducible refine Below.drawsN ?_ _) | (with_reducible refine Below.setCell ?_ ?_ _) | (with_reducible refine le_bel ?_) | (with_reducible refine le_alloc ?_) | (with_reducible refine le_setCell ?_) | (with_reducible refine le_drew ?_) | (with_reducible refine le_drawsN ?_) | (dsimp only; with_reducible refine le_bel ?_) | (dsimp only; with_reducible refine Nat.le_refl _) | (dsimp only; with_reducible refine le_bel_add ?_) | (with_reducible assumption) | omega | (dsimp only; omega)))))).mono ?_)
    rintro _ _ ⟨rfl, z, rfl⟩
    go_wp2
    go_ret
    exact Ret.mk (by rfl) (by (repeat' (first | (with_reducible exact Below.refl _ _) | (with_reducible exact Nat.le_refl _) | (with_reducible refine Below.bel ?_ ?_) | (with_reducible refine Below.alloc ?_ ?_ _) | (with_reducible refine Below.drew ?_) | (with_reducible refine Below.drawsN ?_ _) | (with_reducible refine Below.setCell ?_ ?_ _) | (with_reducible refine le_bel ?_) | (with_reducible refine le_alloc ?_) | (with_reducible refine le_setCell ?_) | (with_reducible refine le_drew ?_) | (with_reducible refine le_drawsN ?_) | (dsimp only; with_reducible refine le_bel ?_) | (dsimp only; with_reducible refine Nat.le_refl _) | (dsimp only; with_reducible refine le_bel_add ?_) | (with_reducible assumption) | omega | (dsimp only; omega))))
  · have e1 : decide ((60 : Int) < (l.length : Int)) = false := decide_eq_false (by omega)
    have ht1 : IntKind.i64.wrap (g : Int) = (g : Int) := IntWalk.i64_in _ (by omega)
    obtain ⟨d, hd⟩ : ∃ d : Nat, g % 401 = d := ⟨_, rfl⟩
    have hdb : d ≤ 400 := by omega
    have hdc : (g : Int) % 401 = (d : Int) := by omega
    have hdt : (g : Int).tmod 401 = (d : Int) := by rw [Int.tmod_eq_emod_of_nonneg (by omega)]; exact hdc
    have HZ := Lib.hid (fun w' => rep_zeros d (by omega) w')
    have b1 := bytes_app l (List.replicate d 48)
    have l1 : (9223372036854775807 < l.length + d) = False := eq_false (by omega)
    have hrl : (List.replicate d (48 : UInt8)).length = d := List.length_replicate
    have hll : (l ++ List.replicate d (48 : UInt8)).length ≤ 1000 := by rw [List.length_append, hrl]; omega
    have HP := Lib.hid (fun w' => parI_all (l ++ List.replicate d 48) w' (by omega))
    have HQ := Lib.hid (fun w' => refParse_all (l ++ List.replicate d 48) w' (by omega))
    have HS := Lib.hid (fun w' => parI_all l w' (by omega))
    have HR := Lib.hid (fun w' => right_any l w' (by omega))
    have key : rgV l = true → parI l = (l, 0) := fun h => by
      unfold rgV at h
      rw [Bool.and_eq_true] at h
      obtain ⟨z, rfl, hd⟩ := canV_int h.1
      have := of_decide_eq_true h.2
      rw [hd] at this
      exact parI_iT this
    clear hd
    generalize hrp : List.replicate d (48 : UInt8) = zs at *
    generalize l ++ zs = t at *
    obtain ⟨p1, hp1⟩ : ∃ p, (parI t).1 = p := ⟨_, rfl⟩
    obtain ⟨p2, hp2⟩ : ∃ p, (parI t).2 = p := ⟨_, rfl⟩
    rw [hp1, hp2] at HP HQ
    clear hp1 hp2 hrp h60
    cases hr : rgV l
    · rw [hr] at HR
      clear key hr
      generalize (parI l).1 = q1 at *
      generalize (parI l).2 = q2 at *
      go_enter Tryd.func3, Tryd.ntmps3
      go_wp2_with fail
      (with_reducible refine (known_any _ (HT.out.of (by (repeat' (first | (with_reducible exact Below.refl _ _) | (with_reducible exact Nat.le_refl _) | (with_reducible refine Below.bel ?_ ?_) | (with_reducible refine Below.alloc ?_ ?_ _) | (with_reducible refine Below.drew ?_) | (with_reducible refine Below.drawsN ?_ _) | (with_reducible refine Below.setCell ?_ ?_ _) | (with_reducible refine le_bel ?_) | (with_reducible refine le_alloc ?_) | (with_reducible refine le_setCell ?_) | (with_reducible refine le_drew ?_) | (with_reducible refine le_drawsN ?_) | (dsimp only; with_reducible refine le_bel ?_) | (dsimp only; with_reducible refine Nat.le_refl _) | (dsimp only; with_reducible refine le_bel_add ?_) | (with_reducible assumption) | omega | (dsimp only; omega)))))).mono ?_)
      rintro _ _ ⟨rfl, x, rfl⟩
      have hxs := x.size_le
      go_wp2_with fail
      (with_reducible refine (HZ.out _).mono ?_)
      rintro _ _ ⟨rfl, z1, rfl⟩
      have hz1 := z1.size_le
      go_wp2_with fail
      (with_reducible refine (HP.out _).mono ?_)
      rintro _ _ ⟨rfl, z2, rfl⟩
      have hz2 := z2.size_le
      dsimp only
      go_wp2_with fail
      (with_reducible refine (HQ.out _).mono ?_)
      rintro _ _ ⟨rfl, z3, rfl⟩
      have hz3 := z3.size_le
      dsimp only
      go_wp2_with fail
      (with_reducible refine (HS.out _).mono ?_)
      rintro _ _ ⟨rfl, z4, rfl⟩
      have hz4 := z4.size_le
      dsimp only
      go_wp2_with fail
      (with_reducible refine (HR.out _).mono ?_)
      rintro _ _ ⟨rfl, z5, rfl⟩
      have hz5 := z5.size_le
      dsimp only
      go_wp2
      go_ret
      exact Ret.mk (by simp) (by (repeat' (first | (with_reducible exact Below.refl _ _) | (with_reducible exact Nat.le_refl _) | (with_reducible refine Below.bel ?_ ?_) | (with_reducible refine Below.alloc ?_ ?_ _) | (with_reducible refine Below.drew ?_) | (with_reducible refine Below.drawsN ?_ _) | (with_reducible refine Below.setCell ?_ ?_ _) | (with_reducible refine le_bel ?_) | (with_reducible refine le_alloc ?_) | (with_reducible refine le_setCell ?_) | (with_reducible refine le_drew ?_) | (with_reducible refine le_drawsN ?_) | (dsimp only; with_reducible refine le_bel ?_) | (dsimp only; with_reducible refine Nat.le_refl _) | (dsimp only; with_reducible refine le_bel_add ?_) | (with_reducible assumption) | omega | (dsimp only; omega))))
    · rw [hr] at HR
      rw [key hr] at HS
      clear key hr
      go_enter Tryd.func3, Tryd.ntmps3
      go_wp2_with fail
      (with_reducible refine (known_any _ (HT.out.of (by (repeat' (first | (with_reducible exact Below.refl _ _) | (with_reducible exact Nat.le_refl _) | (with_reducible refine Below.bel ?_ ?_) | (with_reducible refine Below.alloc ?_ ?_ _) | (with_reducible refine Below.drew ?_) | (with_reducible refine Below.drawsN ?_ _) | (with_reducible refine Below.setCell ?_ ?_ _) | (with_reducible refine le_bel ?_) | (with_reducible refine le_alloc ?_) | (with_reducible refine le_setCell ?_) | (with_reducible refine le_drew ?_) | (with_reducible refine le_drawsN ?_) | (dsimp only; with_reducible refine le_bel ?_) | (dsimp only; with_reducible refine Nat.le_refl _) | (dsimp only; with_reducible refine le_bel_add ?_) | (with_reducible assumption) | omega | (dsimp only; omega)))))).mono ?_)
      rintro _ _ ⟨rfl, x, rfl⟩
      have hxs := x.size_le
      go_wp2_with fail
      (with_reducible refine (HZ.out _).mono ?_)
      rintro _ _ ⟨rfl, z1, rfl⟩
      have hz1 := z1.size_le
      go_wp2_with fail
      (with_reducible refine (HP.out _).mono ?_)
      rintro _ _ ⟨rfl, z2, rfl⟩
      have hz2 := z2.size_le
      dsimp only
      go_wp2_with fail
      (with_reducible refine (HQ.out _).mono ?_)
      rintro _ _ ⟨rfl, z3, rfl⟩
      have hz3 := z3.size_le
      dsimp only
      go_wp2_with fail
      (with_reducible refine (HS.out _).mono ?_)
      rintro _ _ ⟨rfl, z4, rfl⟩
      have hz4 := z4.size_le
      dsimp only
      go_wp2_with fail
      (with_reducible refine (HR.out _).mono ?_)
      rintro _ _ ⟨rfl, z5, rfl⟩
      have hz5 := z5.size_le
      dsimp only
      go_wp2
      go_ret
      exact Ret.mk (by simp) (by (repeat' (first | (with_reducible exact Below.refl _ _) | (with_reducible exact Nat.le_refl _) | (with_reducible refine Below.bel ?_ ?_) | (with_reducible refine Below.alloc ?_ ?_ _) | (with_reducible refine Below.drew ?_) | (with_reducible refine Below.drawsN ?_ _) | (with_reducible refine Below.setCell ?_ ?_ _) | (with_reducible refine le_bel ?_) | (with_reducible refine le_alloc ?_) | (with_reducible refine le_setCell ?_) | (with_reducible refine le_drew ?_) | (with_reducible refine le_drawsN ?_) | (dsimp only; with_reducible refine le_bel ?_) | (dsimp only; with_reducible refine Nat.le_refl _) | (dsimp only; with_reducible refine le_bel_add ?_) | (with_reducible assumption) | omega | (dsimp only; omega))))
end Go.Proofs.YteglfhmmkoahfaaDoor
