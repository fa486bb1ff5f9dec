/- Mul. -/
import Derived.Test.YteglfhmmkoahfaaGreatDoorM12
import Derived.Test.YteglfhmmkoahfaaGreatDoorM4
namespace Go.Proofs.YteglfhmmkoahfaaGreatDoor
open Go.RowKit Go.Shelf
attribute [local go_sem low] Bel.cell Bel.frozen alloc_cell alloc_frozen

/-- How many digits an integer has. -/
def nd (z : Int) : Nat := (Lib.decDigits z.natAbs).length
theorem nd_lt (z : Int) : z.natAbs < 10 ^ nd z := by
  have h := numD_lt (dec_digits z.natAbs)
  rw [dec_num] at h
  exact h
theorem lim_le {n k : Nat} (h : n < 10 ^ (9 * k)) : (lim n).length ≤ k := limbs_len_le (by decide) (by
  rw [Nat.pow_mul, show (10 : Nat) ^ 9 = 1000000000 from rfl] at h
  exact h)
theorem lim_le2 {n d k : Nat} (h : n < 10 ^ d) (hd : d ≤ 9 * k) : (lim n).length ≤ k := lim_le (Nat.lt_of_lt_of_le h (Nat.pow_le_pow_right (by decide) hd))
theorem lim_nd (z : Int) (h : nd z ≤ 80000) : (lim z.natAbs).length ≤ 10000 := lim_le2 (nd_lt z) (by omega)
theorem mul_lt10 {a b d e : Nat} (h1 : a < 10 ^ d) (h2 : b < 10 ^ e) : a * b < 10 ^ (d + e) := by
  rw [Nat.pow_add]
  exact Nat.mul_lt_mul'' h1 h2
theorem lim_mul (a b : Int) (h : nd a + nd b ≤ 90000) : (lim (a.natAbs * b.natAbs)).length ≤ 10000 := lim_le2 (mul_lt10 (nd_lt a) (nd_lt b)) (by omega)
theorem sg_mul (a b : Int) : sg (decide (a < 0) != decide (b < 0)) (a.natAbs * b.natAbs) = a * b := by
  have ha : a = if a < 0 then -(a.natAbs : Int) else (a.natAbs : Int) := by split <;> omega
  have hb : b = if b < 0 then -(b.natAbs : Int) else (b.natAbs : Int) := by split <;> omega
  unfold sg
  by_cases h1 : a < 0 <;> by_cases h2 : b < 0
  · rw [if_pos h1] at ha
    rw [if_pos h2] at hb
    rw [if_neg (by simp [h1, h2])]
    conv => rhs; rw [ha, hb]
    rw [Int.neg_mul_neg, Int.natCast_mul]
  · rw [if_pos h1] at ha
    rw [if_neg h2] at hb
    rw [if_pos (by simp [h1]; omega)]
    conv => rhs; rw [ha, hb]
    rw [Int.neg_mul, Int.natCast_mul]
  · rw [if_neg h1] at ha
    rw [if_pos h2] at hb
    rw [if_pos (by simp [h2]; omega)]
    conv => rhs; rw [ha, hb]
    rw [Int.mul_neg, Int.natCast_mul]
  · rw [if_neg h1] at ha
    rw [if_neg h2] at hb
    rw [if_neg (by simp [h1, h2])]
    conv => rhs; rw [ha, hb]
    rw [Int.natCast_mul]
theorem mul_small {a b : Int} (h1 : nd a ≤ 9) (h2 : nd b ≤ 9) : -1000000000000000000 ≤ a * b ∧ a * b ≤ 1000000000000000000 := by
  have h3 := nd_lt a
  have h4 := nd_lt b
  have h5 : (10 : Nat) ^ nd a ≤ 10 ^ 9 := Nat.pow_le_pow_right (by decide) h1
  have h6 : (10 : Nat) ^ nd b ≤ 10 ^ 9 := Nat.pow_le_pow_right (by decide) h2
  have h7 : (a * b).natAbs ≤ 1000000000 * 1000000000 := by
    rw [Int.natAbs_mul]
    exact Nat.mul_le_mul (by have : (10 : Nat) ^ 9 = 1000000000 := rfl; omega) (by have : (10 : Nat) ^ 9 = 1000000000 := rfl; omega)
  omega
set_option maxRecDepth 100000 in
set_option maxHeartbeats 6400000 in
theorem mul_any (a b : Int) (w : World) (ha : nd a ≤ 40000) (hb : nd b ≤ 40000) (hT : Tab w) :
    Calls Tryz.prog 22 #[.string ⟨(iT a).toArray⟩, .string ⟨(iT b).toArray⟩] w (Ret (.string ⟨(iT (a * b)).toArray⟩) w) := by
  have HT := Lib.hid hT
  clear hT
  have HSa := Lib.hid (fun w' => split_any a w' (show nd a ≤ 80000 by omega))
  have HSb := Lib.hid (fun w' => split_any b w' (show nd b ≤ 80000 by omega))
  have hla := lim_nd a (by omega)
  have hlb := lim_nd b (by omega)
  have hlm := lim_mul a b (by omega)
  have HSG := Lib.hid (sg_mul a b)
  have HQa := Lib.hid (fun w' (h : nd a ≤ 9) => quick_9 a w' h)
  have HQb := Lib.hid (fun w' (h : nd b ≤ 9) => quick_9 b w' h)
  have HNa := Lib.hid (fun w' (h : 9 < nd a) => quick_n9 a w' h (show nd a ≤ 100000 by omega))
  have HNb := Lib.hid (fun w' (h : 9 < nd b) => quick_n9 b w' h (show nd b ≤ 100000 by omega))
  have HMS := Lib.hid (@mul_small a b)
  obtain ⟨p, hp⟩ : ∃ p, a * b = p := ⟨_, rfl⟩
  rw [hp] at HSG HMS ⊢
  have HP := Lib.hid hp
  clear hp
  by_cases h9 : nd a ≤ 9
  · by_cases h9b : nd b ≤ 9
    · have hms := HMS.out h9 h9b
      have hw : IntKind.i64.wrap p = p := IntWalk.i64_in _ (by omega)
      have hpe : a * b = p := HP.out
      go_enter Tryz.func22, Tryz.ntmps22
      go_wp2_with fail
      (with_reducible refine (HQa.out _ h9).mono ?_)
      rintro _ _ ⟨rfl, x1, rfl⟩
      have hx1 := x1.size_le
      dsimp only
      go_wp2_with fail
      (with_reducible refine (HQb.out _ h9b).mono ?_)
      rintro _ _ ⟨rfl, x2, rfl⟩
      have hx2 := x2.size_le
      dsimp only
      go_wp2_with fail
      (with_reducible refine (of_any p _ (by omega) (by omega) (HT.out.of (by (repeat' (first | (with_reducible exact Below.refl _ _) | (with_reducible exact Nat.le_refl _) | (with_reducible refine Below.bel ?_ ?_) | (with_reducible refine Below.alloc ?_ ?_ _) | (with_reducible refine Below.drew ?_) | (with_reducible refine Below.drawsN ?_ _) | (with_reducible refine Below.setCell ?_ ?_ _) | (with_reducible refine le_bel ?_) | (with_reducible refine le_alloc ?_) | (with_reducible refine le_setCell ?_) | (with_reducible refine le_drew ?_) | (with_reducible refine le_drawsN ?_) | (dsimp only; with_reducible refine le_bel ?_) | (dsimp only; with_reducible refine Nat.le_refl _) | (dsimp only; with_reducible refine le_bel_add ?_) | (with_reducible assumption) | omega | (dsimp only; omega)))))).mono ?_)
      rintro _ _ ⟨rfl, x3, rfl⟩
      go_wp2
      go_ret
      exact Ret.mk (by rfl) (by (repeat' (first | (with_reducible exact Below.refl _ _) | (with_reducible exact Nat.le_refl _) | (with_reducible refine Below.bel ?_ ?_) | (with_reducible refine Below.alloc ?_ ?_ _) | (with_reducible refine Below.drew ?_) | (with_reducible refine Below.drawsN ?_ _) | (with_reducible refine Below.setCell ?_ ?_ _) | (with_reducible refine le_bel ?_) | (with_reducible refine le_alloc ?_) | (with_reducible refine le_setCell ?_) | (with_reducible refine le_drew ?_) | (with_reducible refine le_drawsN ?_) | (dsimp only; with_reducible refine le_bel ?_) | (dsimp only; with_reducible refine Nat.le_refl _) | (dsimp only; with_reducible refine le_bel_add ?_) | (with_reducible assumption) | omega | (dsimp only; omega))))
    · go_enter Tryz.func22, Tryz.ntmps22
      go_wp2_with fail
      (with_reducible refine (HQa.out _ h9).mono ?_)
      rintro _ _ ⟨rfl, x1, rfl⟩
      have hx1 := x1.size_le
      dsimp only
      go_wp2_with fail
      (with_reducible refine (HNb.out _ (by omega)).mono ?_)
      rintro _ _ ⟨rfl, x2, rfl⟩
      have hx2 := x2.size_le
      dsimp only
      go_wp2_with fail
      refine (HSa.out _).mono ?_
      rintro _ _ ⟨v1, rfl, y1, rfl, hv1⟩
      have hs1 := y1.size_le
      obtain ⟨p1, c1, rfl, hL1⟩ := limbs_own hv1
      have HV1 := Lib.hid hv1
      clear hv1 hL1
      dsimp only
      go_wp2_with fail
      refine (HSb.out _).mono ?_
      rintro _ _ ⟨v2, rfl, y2, rfl, hv2⟩
      have hs2 := y2.size_le
      obtain ⟨p2, c2, rfl, hL2⟩ := limbs_own hv2
      have hW1 := ownV_bel HV1.out y2
      obtain ⟨p1', c1', he1, hL1⟩ := limbs_own hW1
      cases he1
      dsimp only
      go_wp2_with fail
      refine (times_any _ _ _ _ _ _ _ hL1 hL2 hla hlb).mono ?_
      rintro _ _ ⟨v3, rfl, y3, rfl, hv3⟩
      have hs3 := y3.size_le
      obtain ⟨p3, c3, rfl, hL3⟩ := limbs_own hv3
      clear hW1 hL1 hL2 hv2
      dsimp only
      go_wp2_with fail
      refine (signed_any _ _ _ _ _ hL3 hlm (HT.out.of (by (repeat' (first | (with_reducible exact Below.refl _ _) | (with_reducible exact Nat.le_refl _) | (with_reducible refine Below.bel ?_ ?_) | (with_reducible refine Below.alloc ?_ ?_ _) | (with_reducible refine Below.drew ?_) | (with_reducible refine Below.drawsN ?_ _) | (with_reducible refine Below.setCell ?_ ?_ _) | (with_reducible refine le_bel ?_) | (with_reducible refine le_alloc ?_) | (with_reducible refine le_setCell ?_) | (with_reducible refine le_drew ?_) | (with_reducible refine le_drawsN ?_) | (dsimp only; with_reducible refine le_bel ?_) | (dsimp only; with_reducible refine Nat.le_refl _) | (dsimp only; with_reducible refine le_bel_add ?_) | (with_reducible assumption) | omega | (dsimp only; omega)))))).mono ?_
      rintro _ _ ⟨rfl, y4, rfl⟩
      dsimp only
      go_wp2
      go_ret
      exact Ret.mk (by rw [← HSG.out]; rfl) (by (repeat' (first | (with_reducible exact Below.refl _ _) | (with_reducible exact Nat.le_refl _) | (with_reducible refine Below.bel ?_ ?_) | (with_reducible refine Below.alloc ?_ ?_ _) | (with_reducible refine Below.drew ?_) | (with_reducible refine Below.drawsN ?_ _) | (with_reducible refine Below.setCell ?_ ?_ _) | (with_reducible refine le_bel ?_) | (with_reducible refine le_alloc ?_) | (with_reducible refine le_setCell ?_) | (with_reducible refine le_drew ?_) | (with_reducible refine le_drawsN ?_) | (dsimp only; with_reducible refine le_bel ?_) | (dsimp only; with_reducible refine Nat.le_refl _) | (dsimp only; with_reducible refine le_bel_add ?_) | (with_reducible assumption) | omega | (dsimp only; omega))))
  · go_enter Tryz.func22, Tryz.ntmps22
    go_wp2_with fail
    (with_reducible refine (HNa.out _ (by omega)).mono ?_)
    rintro _ _ ⟨rfl, x1, rfl⟩
    have hx1 := x1.size_le
    dsimp only
    go_wp2_with fail
    refine (HSa.out _).mono ?_
    rintro _ _ ⟨v1, rfl, y1, rfl, hv1⟩
    have hs1 := y1.size_le
    obtain ⟨p1, c1, rfl, hL1⟩ := limbs_own hv1
    have HV1 := Lib.hid hv1
    clear hv1 hL1
    dsimp only
    go_wp2_with fail
    refine (HSb.out _).mono ?_
    rintro _ _ ⟨v2, rfl, y2, rfl, hv2⟩
    have hs2 := y2.size_le
    obtain ⟨p2, c2, rfl, hL2⟩ := limbs_own hv2
    have hW1 := ownV_bel HV1.out y2
    obtain ⟨p1', c1', he1, hL1⟩ := limbs_own hW1
    cases he1
    dsimp only
    go_wp2_with fail
    refine (times_any _ _ _ _ _ _ _ hL1 hL2 hla hlb).mono ?_
    rintro _ _ ⟨v3, rfl, y3, rfl, hv3⟩
    have hs3 := y3.size_le
    obtain ⟨p3, c3, rfl, hL3⟩ := limbs_own hv3
    clear hW1 hL1 hL2 hv2
    dsimp only
    go_wp2_with fail
    refine (signed_any _ _ _ _ _ hL3 hlm (HT.out.of (by (repeat' (first | (with_reducible exact Below.refl _ _) | (with_reducible exact Nat.le_refl _) | (with_reducible refine Below.bel ?_ ?_) | (with_reducible refine Below.alloc ?_ ?_ _) | (with_reducible refine Below.drew ?_) | (with_reducible refine Below.drawsN ?_ _) | (with_reducible refine Below.setCell ?_ ?_ _) | (with_reducible refine le_bel ?_) | (with_reducible refine le_alloc ?_) | (with_reducible refine le_setCell ?_) | (with_reducible refine le_drew ?_) | (with_reducible refine le_drawsN ?_) | (dsimp only; with_reducible refine le_bel ?_) | (dsimp only; with_reducible refine Nat.le_refl _) | (dsimp only; with_reducible refine le_bel_add ?_) | (with_reducible assumption) | omega | (dsimp only; omega)))))).mono ?_
    rintro _ _ ⟨rfl, y4, rfl⟩
    dsimp only
    go_wp2
    go_ret
    exact Ret.mk (by rw [← HSG.out]; rfl) (by (repeat' (first | (with_reducible exact Below.refl _ _) | (with_reducible exact Nat.le_refl _) | (with_reducible refine Below.bel ?_ ?_) | (with_reducible refine Below.alloc ?_ ?_ _) | (with_reducible refine Below.drew ?_) | (with_reducible refine Below.drawsN ?_ _) | (with_reducible refine Below.setCell ?_ ?_ _) | (with_reducible refine le_bel ?_) | (with_reducible refine le_alloc ?_) | (with_reducible refine le_setCell ?_) | (with_reducible refine le_drew ?_) | (with_reducible refine le_drawsN ?_) | (dsimp only; with_reducible refine le_bel ?_) | (dsimp only; with_reducible refine Nat.le_refl _) | (dsimp only; with_reducible refine le_bel_add ?_) | (with_reducible assumption) | omega | (dsimp only; omega))))
end Go.Proofs.YteglfhmmkoahfaaGreatDoor
