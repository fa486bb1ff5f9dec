/- split, signed, quick. -/
import Derived.Test.YteglfhmmkoahfaaGreatDoorM9
import Derived.Test.YteglfhmmkoahfaaGreatDoorM6
namespace Go.Proofs.YteglfhmmkoahfaaGreatDoor
open Go.RowKit Go.Shelf
attribute [local go_sem low] Bel.cell Bel.frozen alloc_cell alloc_frozen

/-- The text of an integer. -/
def iT (z : Int) : List UInt8 := if z < 0 then 45 :: Lib.decDigits z.natAbs else Lib.decDigits z.natAbs
theorem iT_itoa (z : Int) : Lib.itoa z = iT z := by
  unfold Lib.itoa iT
  split
  · rfl
  · rw [show z.toNat = z.natAbs by omega]
theorem iT_neg {z : Int} (h : z < 0) : iT z = 45 :: Lib.decDigits z.natAbs := if_pos h
theorem iT_pos {z : Int} (h : ¬ z < 0) : iT z = Lib.decDigits z.natAbs := if_neg h
theorem dec_cons (u : Nat) : ∃ c r, Lib.decDigits u = c :: r ∧ 48 ≤ c.toNat ∧ c.toNat ≤ 57 := by
  have h := dec_pos u
  have hd := dec_digits u
  cases he : Lib.decDigits u with
  | nil => rw [he] at h; exact absurd h (by decide)
  | cons c r => rw [he] at hd; have := hd c (by simp); exact ⟨c, r, rfl, this.1, this.2⟩
theorem pre_neg (l : List UInt8) : Lib.hasPrefix (45 :: l) [45] = true ∧ Lib.trimPrefix (45 :: l) [45] = l := by
  constructor
  · simp [Lib.hasPrefix]
  · simp [Lib.trimPrefix, Lib.hasPrefix]
theorem pre_pos (u : Nat) : Lib.hasPrefix (Lib.decDigits u) [45] = false ∧ Lib.trimPrefix (Lib.decDigits u) [45] = Lib.decDigits u := by
  obtain ⟨c, r, h, h1, h2⟩ := dec_cons u
  have hc : ¬ (45 : UInt8) = c := fun e => by subst e; revert h1; decide
  have hp : Lib.hasPrefix (Lib.decDigits u) [45] = false := by
    rw [h]
    simp [Lib.hasPrefix, List.isPrefixOf, hc]
  refine ⟨hp, ?_⟩
  unfold Lib.trimPrefix
  rw [hp]; rfl
theorem cut_any (z : Int) (w : World) : Calls Tryz.prog 36 #[.string ⟨(iT z).toArray⟩, .string ⟨#[45]⟩] w (Ret (.tuple #[.string ⟨(Lib.decDigits z.natAbs).toArray⟩, .bool (decide (z < 0))]) w) := by
  have h := Tryz.strings_CutPrefix ⟨(iT z).toArray⟩ ⟨#[45]⟩ w
  by_cases hz : z < 0
  · rw [iT_neg hz] at h ⊢
    have h2 := pre_neg (Lib.decDigits z.natAbs)
    refine h.mono fun e w' ⟨he, hw⟩ => ⟨?_, ⟨w, Below.refl _ _⟩, hw⟩
    rw [he, decide_eq_true hz]
    show Ending.returned (.tuple #[.string ⟨(Lib.trimPrefix (45 :: Lib.decDigits z.natAbs) [45]).toArray⟩, .bool (Lib.hasPrefix (45 :: Lib.decDigits z.natAbs) [45])]) = _
    rw [h2.1, h2.2]
  · rw [iT_pos hz] at h ⊢
    have h2 := pre_pos z.natAbs
    refine h.mono fun e w' ⟨he, hw⟩ => ⟨?_, ⟨w, Below.refl _ _⟩, hw⟩
    rw [he, decide_eq_false hz]
    show Ending.returned (.tuple #[.string ⟨(Lib.trimPrefix (Lib.decDigits z.natAbs) [45]).toArray⟩, .bool (Lib.hasPrefix (Lib.decDigits z.natAbs) [45])]) = _
    rw [h2.1, h2.2]
set_option maxHeartbeats 1600000 in
theorem split_any (z : Int) (w : World) (hl : (Lib.decDigits z.natAbs).length ≤ 80000) :
    Calls Tryz.prog 38 #[.string ⟨(iT z).toArray⟩] w fun e w' => ∃ v, e = .returned (.tuple #[v, .bool (decide (z < 0))]) ∧ ∃ y : Bel w, w' = y.w ∧ OwnV y.w w.heap.size 59 v (uVs (lim z.natAbs)) := by
  have HC := Lib.hid (cut_any z)
  have HLo := Lib.hid (fun w' => long_any (Lib.decDigits z.natAbs) w' (dec_digits _) hl)
  rw [dec_num] at HLo
  generalize Lib.decDigits z.natAbs = d at *
  generalize iT z = t at *
  generalize decide (z < 0) = m at *
  generalize z.natAbs = n at *
  go_enter Tryz.func38, Tryz.ntmps38
  go_wp2_with fail
  (with_reducible refine (HC.out _).mono ?_)
  rintro _ _ ⟨rfl, x, rfl⟩
  have hxs := x.size_le
  dsimp only
  go_wp2_with fail
  refine (HLo.out _).mono ?_
  rintro _ _ ⟨v, rfl, y, rfl, hv⟩
  dsimp only
  obtain ⟨pa, cap, rfl, hcc⟩ := showsV_at (ownV_shows hv)
  go_wp2
  go_ret2
  exact ⟨_, rfl, ⟨_, by (repeat' (first | (with_reducible exact Below.refl _ _) | (with_reducible exact Nat.le_refl _) | (with_reducible refine Below.bel ?_ ?_) | (with_reducible refine Below.alloc ?_ ?_ _) | (with_reducible refine Below.drew ?_) | (with_reducible refine Below.drawsN ?_ _) | (with_reducible refine Below.setCell ?_ ?_ _) | (with_reducible refine le_bel ?_) | (with_reducible refine le_alloc ?_) | (with_reducible refine le_setCell ?_) | (with_reducible refine le_drew ?_) | (with_reducible refine le_drawsN ?_) | (dsimp only; with_reducible refine le_bel ?_) | (dsimp only; with_reducible refine Nat.le_refl _) | (dsimp only; with_reducible refine le_bel_add ?_) | (with_reducible assumption) | omega | (dsimp only; omega)))⟩, rfl, ownV_mono hv hxs⟩
/-- A number with a sign. -/
def sg (m : Bool) (n : Nat) : Int := if m then -(n : Int) else n
theorem sg_abs (m : Bool) (n : Nat) : (sg m n).natAbs = n := by cases m <;> simp [sg]
theorem sg_text (m : Bool) (n : Nat) : iT (sg m n) = if m = true ∧ n ≠ 0 then 45 :: Lib.decDigits n else Lib.decDigits n := by
  unfold iT
  rw [sg_abs]
  cases m
  · rw [if_neg (by simp [sg]), if_neg (by simp)]
  · by_cases h : n = 0
    · subst h; rfl
    · rw [if_pos (by simp [sg]; omega), if_pos ⟨rfl, h⟩]
theorem bkL_lt {L : List Nat} (h : ∀ x ∈ L, x < 1000000000) : ∀ k, ∀ p ∈ bkL L k, p.2 < 1000000000
  | 0, p, hp => by simp [bkL] at hp
  | k + 1, p, hp => by
    rw [bkL] at hp
    rcases List.mem_cons.1 hp with rfl | hp
    · show L.getD k 0 < _
      rw [List.getD_eq_getElem?_getD]
      cases hk : L[k]? with
      | none => decide
      | some x => exact h x (List.mem_of_getElem? hk)
    · exact bkL_lt h k p hp
theorem dec_len (n : Nat) (hl : (lim n).length ≤ 10000) : (Lib.decDigits n).length ≤ 90000 := by
  by_cases hn : n = 0
  · subst hn; rw [dec_small (by decide)]; decide
  · rw [← txt_all n hn]
    have := txt_len (lim n).length (bkL (lim n) (lim n).length) (bkL_lt (lim_lt n) _)
    rw [bkL_len] at this
    omega
set_option maxHeartbeats 1600000 in
theorem signed_any (m : Bool) (n : Nat) (a : Option Addr) (cap : Nat) (w : World) (hL : Limbs w a (lim n)) (hl : (lim n).length ≤ 10000) (hT : Tab w) :
    Calls Tryz.prog 40 #[.slice a (lim n).length cap, .bool m] w (Ret (.string ⟨(iT (sg m n)).toArray⟩) w) := by
  have HTX := Lib.hid (text_any a cap n w hL hl hT)
  have hdl := dec_len n hl
  have hiff : (lim n).length = 0 ↔ n = 0 := by rw [List.length_eq_zero_iff]; exact limbs_nil (by decide)
  cases m
  · have HS := Lib.hid ((sg_text false n).trans (if_neg (by simp)))
    clear hiff hL
    generalize lim n = L at *
    generalize Lib.decDigits n = d at *
    generalize iT (sg false n) = t at *
    go_enter Tryz.func40, Tryz.ntmps40
    go_wp2_with fail
    (with_reducible refine HTX.out.mono ?_)
    rintro _ _ ⟨rfl, y, rfl⟩
    go_wp2
    go_ret
    exact Ret.mk (by exact str_eq HS.out.symm) (by (repeat' (first | (with_reducible exact Below.refl _ _) | (with_reducible exact Nat.le_refl _) | (with_reducible refine Below.bel ?_ ?_) | (with_reducible refine Below.alloc ?_ ?_ _) | (with_reducible refine Below.drew ?_) | (with_reducible refine Below.drawsN ?_ _) | (with_reducible refine Below.setCell ?_ ?_ _) | (with_reducible refine le_bel ?_) | (with_reducible refine le_alloc ?_) | (with_reducible refine le_setCell ?_) | (with_reducible refine le_drew ?_) | (with_reducible refine le_drawsN ?_) | (dsimp only; with_reducible refine le_bel ?_) | (dsimp only; with_reducible refine Nat.le_refl _) | (dsimp only; with_reducible refine le_bel_add ?_) | (with_reducible assumption) | omega | (dsimp only; omega))))
  · by_cases h0 : n = 0
    · have HS := Lib.hid ((sg_text true n).trans (if_neg (fun h => h.2 h0)))
      have hl0 := hiff.2 h0
      have ht : (0 < (lim n).length) = False := eq_false (by omega)
      clear hiff hL h0 hl0
      generalize lim n = L at *
      generalize Lib.decDigits n = d at *
      generalize iT (sg true n) = t at *
      go_enter Tryz.func40, Tryz.ntmps40
      go_wp2_with fail
      (with_reducible refine HTX.out.mono ?_)
      rintro _ _ ⟨rfl, y, rfl⟩
      go_wp2
      go_ret
      exact Ret.mk (by exact str_eq HS.out.symm) (by (repeat' (first | (with_reducible exact Below.refl _ _) | (with_reducible exact Nat.le_refl _) | (with_reducible refine Below.bel ?_ ?_) | (with_reducible refine Below.alloc ?_ ?_ _) | (with_reducible refine Below.drew ?_) | (with_reducible refine Below.drawsN ?_ _) | (with_reducible refine Below.setCell ?_ ?_ _) | (with_reducible refine le_bel ?_) | (with_reducible refine le_alloc ?_) | (with_reducible refine le_setCell ?_) | (with_reducible refine le_drew ?_) | (with_reducible refine le_drawsN ?_) | (dsimp only; with_reducible refine le_bel ?_) | (dsimp only; with_reducible refine Nat.le_refl _) | (dsimp only; with_reducible refine le_bel_add ?_) | (with_reducible assumption) | omega | (dsimp only; omega))))
    · have HS := Lib.hid ((sg_text true n).trans (if_pos ⟨rfl, h0⟩))
      have ht : (0 < (lim n).length) = True := eq_true (by have := mt hiff.1 h0; omega)
      clear hiff hL h0
      generalize lim n = L at *
      generalize Lib.decDigits n = d at *
      generalize iT (sg true n) = t at *
      have l1 : (9223372036854775807 < 1 + d.length) = False := eq_false (by omega)
      have b1 : (ByteArray.mk #[45]) ++ ⟨d.toArray⟩ = ⟨([45] ++ d).toArray⟩ := bytes_app [45] d
      go_enter Tryz.func40, Tryz.ntmps40
      go_wp2_with fail
      (with_reducible refine HTX.out.mono ?_)
      rintro _ _ ⟨rfl, y, rfl⟩
      go_wp2
      go_ret
      exact Ret.mk (by rw [HS.out]; rfl) (by (repeat' (first | (with_reducible exact Below.refl _ _) | (with_reducible exact Nat.le_refl _) | (with_reducible refine Below.bel ?_ ?_) | (with_reducible refine Below.alloc ?_ ?_ _) | (with_reducible refine Below.drew ?_) | (with_reducible refine Below.drawsN ?_ _) | (with_reducible refine Below.setCell ?_ ?_ _) | (with_reducible refine le_bel ?_) | (with_reducible refine le_alloc ?_) | (with_reducible refine le_setCell ?_) | (with_reducible refine le_drew ?_) | (with_reducible refine le_drawsN ?_) | (dsimp only; with_reducible refine le_bel ?_) | (dsimp only; with_reducible refine Nat.le_refl _) | (dsimp only; with_reducible refine le_bel_add ?_) | (with_reducible assumption) | omega | (dsimp only; omega))))
end Go.Proofs.YteglfhmmkoahfaaGreatDoor
