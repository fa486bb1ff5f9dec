/- Compare. -/
import Derived.Test.YteglfhmmkoahfaaGreatDoorM14
import Derived.Test.YteglfhmmkoahfaaGreatDoorM1
namespace Go.Proofs.YteglfhmmkoahfaaGreatDoor
open Go.RowKit Go.Shelf
attribute [local go_sem low] Bel.cell Bel.frozen alloc_cell alloc_frozen

theorem numD_cons (c : UInt8) (l : List UInt8) : numD (c :: l) = (c.toNat - 48) * 10 ^ l.length + numD l := by
  rw [show c :: l = [c] ++ l from rfl, numD_app]
  simp [numD]
theorem cmp_step {x y p q k : Nat} (h : x < y) (hp : p < 10 ^ k) : x * 10 ^ k + p < y * 10 ^ k + q := by
  have := Nat.mul_le_mul_right (10 ^ k) (show x + 1 ≤ y by omega)
  rw [Nat.add_mul, Nat.one_mul] at this
  omega
theorem cmpN_add (k x y : Nat) : cmpN (k + x) (k + y) = cmpN x y := by unfold cmpN; simp only [Nat.add_lt_add_iff_left]
theorem cmp_digits : ∀ l m : List UInt8, l.length = m.length → Digits l → Digits m → Lib.compareBytes l m = cmpN (numD l) (numD m)
  | [], [], _, _, _ => by rw [Lib.compareBytes]; rfl
  | [], _ :: _, h, _, _ => by simp at h
  | _ :: _, [], h, _, _ => by simp at h
  | a :: l, b :: m, h, hl, hm => by
    have h' : l.length = m.length := by simpa using h
    have ha := hl a List.mem_cons_self
    have hb := hm b List.mem_cons_self
    have hl' : Digits l := fun c hc => hl c (List.mem_cons_of_mem _ hc)
    have hm' : Digits m := fun c hc => hm c (List.mem_cons_of_mem _ hc)
    have ih := cmp_digits l m h' hl' hm'
    have n1 := numD_lt hl'
    have n2 := numD_lt hm'
    rw [Lib.compareBytes, numD_cons, numD_cons, h'] 
    rw [h'] at n1
    by_cases h1 : a < b
    · rw [if_pos h1]
      have h1' : a.toNat < b.toNat := UInt8.lt_iff_toNat_lt.1 h1
      have := @cmp_step (a.toNat - 48) (b.toNat - 48) (numD l) (numD m) m.length (by omega) n1
      unfold cmpN
      rw [if_pos this]
    · rw [if_neg h1]
      by_cases h2 : b < a
      · rw [if_pos h2]
        have h2' : b.toNat < a.toNat := UInt8.lt_iff_toNat_lt.1 h2
        have := @cmp_step (b.toNat - 48) (a.toNat - 48) (numD m) (numD l) m.length (by omega) n2
        unfold cmpN
        rw [if_neg (by omega), if_pos this]
      · rw [if_neg h2, ih]
        have e : a.toNat = b.toNat := by
          have q1 := mt UInt8.lt_iff_toNat_lt.2 h1
          have q2 := mt UInt8.lt_iff_toNat_lt.2 h2
          omega
        rw [e]
        exact (cmpN_add _ _ _).symm
theorem dec_ge {u : Nat} (h0 : u ≠ 0) : 10 ^ ((Lib.decDigits u).length - 1) ≤ u := by
  obtain ⟨c, r, h, h1, h2⟩ := dec_cons u
  have h3 := dec_head u h0 c r h
  have h4 := dec_num u
  rw [h, numD_cons] at h4
  rw [h, List.length_cons, Nat.add_sub_cancel]
  have := Nat.mul_le_mul_right (10 ^ r.length) (show 1 ≤ c.toNat - 48 by omega)
  omega
theorem nd_cmp {a b : Int} (h : nd a < nd b) : a.natAbs < b.natAbs := by
  have h1 := nd_lt a
  by_cases hb : b.natAbs = 0
  · have : nd b = 1 := by unfold nd; rw [hb, dec_small (by decide)]; rfl
    have h2 := dec_pos a.natAbs
    unfold nd at *
    omega
  · have h2 := dec_ge hb
    have h3 : (10 : Nat) ^ nd a ≤ 10 ^ (nd b - 1) := Nat.pow_le_pow_right (by decide) (by omega)
    unfold nd at *
    omega
/-- What Compare returns. -/
def cmpI (a b : Int) : Int := if a < b then -1 else if b < a then 1 else 0
theorem cmpI_sign1 {a b : Int} (h : a.sign < b.sign) : cmpI a b = -1 := by
  unfold cmpI
  rw [if_pos]
  rcases Int.lt_trichotomy a 0 with h1 | h1 | h1 <;> rcases Int.lt_trichotomy b 0 with h2 | h2 | h2
  all_goals first | omega | (exfalso; simp only [Int.sign_eq_neg_one_of_neg, Int.sign_eq_one_of_pos, h1, h2, Int.sign_zero] at h; omega)
theorem cmpI_sign2 {a b : Int} (h : b.sign < a.sign) : cmpI a b = 1 := by
  have := cmpI_sign1 h
  unfold cmpI at *
  by_cases h1 : b < a
  · rw [if_neg (by omega), if_pos h1]
  · rw [if_neg h1] at this
    split at this <;> simp at this
theorem cmpI_same {a b : Int} (h : a.sign = b.sign) : cmpI a b = a.sign * cmpN a.natAbs b.natAbs := by
  unfold cmpI cmpN
  rcases Int.lt_trichotomy a 0 with h1 | h1 | h1 <;> rcases Int.lt_trichotomy b 0 with h2 | h2 | h2
  all_goals first
    | (exfalso; simp only [Int.sign_eq_neg_one_of_neg, Int.sign_eq_one_of_pos, h1, h2, Int.sign_zero] at h; omega)
    | (first | rw [Int.sign_eq_neg_one_of_neg h1] | rw [Int.sign_eq_one_of_pos h1] | (rw [h1, Int.sign_zero]))
  all_goals (repeat' split) <;> omega
theorem strCmp_any (a b : Int) (w : World) (h : nd a = nd b) : Calls Tryz.prog 37 #[.string ⟨(Lib.decDigits a.natAbs).toArray⟩, .string ⟨(Lib.decDigits b.natAbs).toArray⟩] w (Ret (.int .i64 (cmpN a.natAbs b.natAbs)) w) := by
  refine (Tryz.strings_Compare ⟨(Lib.decDigits a.natAbs).toArray⟩ ⟨(Lib.decDigits b.natAbs).toArray⟩ w).mono fun e w' ⟨he, hw⟩ => ⟨?_, ⟨w, Below.refl _ _⟩, hw⟩
  rw [he]
  show Ending.returned (.int .i64 (Lib.compareBytes (Lib.decDigits a.natAbs) (Lib.decDigits b.natAbs))) = _
  rw [cmp_digits _ _ h (dec_digits _) (dec_digits _), dec_num, dec_num]
theorem cmpN_in (m n : Nat) : cmpN m n = -1 ∨ cmpN m n = 0 ∨ cmpN m n = 1 := by unfold cmpN; split; · exact .inl rfl
                                                                                · split; · exact .inr (.inr rfl)
                                                                                  · exact .inr (.inl rfl)
theorem sign_in (a : Int) : a.sign = -1 ∨ a.sign = 0 ∨ a.sign = 1 := by
  rcases Int.lt_trichotomy a 0 with h | h | h
  · exact .inl (Int.sign_eq_neg_one_of_neg h)
  · exact .inr (.inl (by rw [h]; rfl))
  · exact .inr (.inr (Int.sign_eq_one_of_pos h))
set_option maxRecDepth 100000 in
set_option maxHeartbeats 6400000 in
theorem compareI_any (a b : Int) (w : World) (ha : nd a ≤ 80000) (hb : nd b ≤ 80000) : Calls Tryz.prog 13 #[.string ⟨(iT a).toArray⟩, .string ⟨(iT b).toArray⟩] w (Ret (.int .i64 (cmpI a b)) w) := by
  have HSa := Lib.hid (sign_any a)
  have HSb := Lib.hid (sign_any b)
  have HCa := Lib.hid (cut_any a)
  have HCb := Lib.hid (cut_any b)
  have HST := Lib.hid (fun w' (h : nd a = nd b) => strCmp_any a b w' h)
  have H1 := Lib.hid (@cmpI_sign1 a b)
  have H2 := Lib.hid (@cmpI_sign2 a b)
  have H3 := Lib.hid (@cmpI_same a b)
  have H4 := Lib.hid (@nd_cmp a b)
  have H5 := Lib.hid (@nd_cmp b a)
  have hsi := sign_in a
  have hna : nd a = (Lib.decDigits a.natAbs).length := rfl
  have hnb : nd b = (Lib.decDigits b.natAbs).length := rfl
  generalize a.sign = s at *
  generalize b.sign = u at *
  generalize decide (a < 0) = ma at *
  generalize decide (b < 0) = mb at *
  generalize iT a = ta at *
  generalize iT b = tb at *
  generalize Lib.decDigits a.natAbs = da at *
  generalize Lib.decDigits b.natAbs = db at *
  by_cases h1 : s < u
  · have HR := Lib.hid (H1.out h1)
    go_enter Tryz.func13, Tryz.ntmps13
    go_wp2_with fail
    (with_reducible refine (HSa.out _).mono ?_)
    rintro _ _ ⟨rfl, x1, rfl⟩
    go_wp2_with fail
    (with_reducible refine (HSb.out _).mono ?_)
    rintro _ _ ⟨rfl, x2, rfl⟩
    go_wp2
    go_ret
    exact Ret.mk (by rw [HR.out]; rfl) (by (repeat' (first | (with_reducible exact Below.refl _ _) | (with_reducible exact Nat.le_refl _) | (with_reducible refine Below.bel ?_ ?_) | (with_reducible refine Below.alloc ?_ ?_ _) | (with_reducible refine Below.drew ?_) | (with_reducible refine Below.drawsN ?_ _) | (with_reducible refine Below.setCell ?_ ?_ _) | (with_reducible refine le_bel ?_) | (with_reducible refine le_alloc ?_) | (with_reducible refine le_setCell ?_) | (with_reducible refine le_drew ?_) | (with_reducible refine le_drawsN ?_) | (dsimp only; with_reducible refine le_bel ?_) | (dsimp only; with_reducible refine Nat.le_refl _) | (dsimp only; with_reducible refine le_bel_add ?_) | (with_reducible assumption) | omega | (dsimp only; omega))))
  · by_cases h2 : u < s
    · have HR := Lib.hid (H2.out h2)
      go_enter Tryz.func13, Tryz.ntmps13
      go_wp2_with fail
      (with_reducible refine (HSa.out _).mono ?_)
      rintro _ _ ⟨rfl, x1, rfl⟩
      go_wp2_with fail
      (with_reducible refine (HSb.out _).mono ?_)
      rintro _ _ ⟨rfl, x2, rfl⟩
      go_wp2
      go_ret
      exact Ret.mk (by rw [HR.out]; rfl) (by (repeat' (first | (with_reducible exact Below.refl _ _) | (with_reducible exact Nat.le_refl _) | (with_reducible refine Below.bel ?_ ?_) | (with_reducible refine Below.alloc ?_ ?_ _) | (with_reducible refine Below.drew ?_) | (with_reducible refine Below.drawsN ?_ _) | (with_reducible refine Below.setCell ?_ ?_ _) | (with_reducible refine le_bel ?_) | (with_reducible refine le_alloc ?_) | (with_reducible refine le_setCell ?_) | (with_reducible refine le_drew ?_) | (with_reducible refine le_drawsN ?_) | (dsimp only; with_reducible refine le_bel ?_) | (dsimp only; with_reducible refine Nat.le_refl _) | (dsimp only; with_reducible refine le_bel_add ?_) | (with_reducible assumption) | omega | (dsimp only; omega))))
    · obtain rfl : s = u := by omega
      have HR := Lib.hid (H3.out rfl)
      clear h1 h2
      rcases Nat.lt_trichotomy da.length db.length with hl | hl | hl
      · have hl' : (da.length : Int) < (db.length : Int) := by omega
        have HC := Lib.hid (show cmpN a.natAbs b.natAbs = -1 from if_pos (H4.out (by omega)))
        have hw : IntKind.i64.wrap (-s) = -s := IntWalk.i64_in _ (by omega)
        go_enter Tryz.func13, Tryz.ntmps13
        go_wp2_with fail
        (with_reducible refine (HSa.out _).mono ?_)
        rintro _ _ ⟨rfl, x1, rfl⟩
        go_wp2_with fail
        (with_reducible refine (HSb.out _).mono ?_)
        rintro _ _ ⟨rfl, x2, rfl⟩
        go_wp2_with fail
        (with_reducible refine (HCa.out _).mono ?_)
        rintro _ _ ⟨rfl, x3, rfl⟩
        dsimp only
        go_wp2_with fail
        (with_reducible refine (HCb.out _).mono ?_)
        rintro _ _ ⟨rfl, x4, rfl⟩
        dsimp only
        go_wp2
        go_ret
        exact Ret.mk (by rw [HR.out, HC.out, Int.mul_neg, Int.mul_one]; rfl) (by (repeat' (first | (with_reducible exact Below.refl _ _) | (with_reducible exact Nat.le_refl _) | (with_reducible refine Below.bel ?_ ?_) | (with_reducible refine Below.alloc ?_ ?_ _) | (with_reducible refine Below.drew ?_) | (with_reducible refine Below.drawsN ?_ _) | (with_reducible refine Below.setCell ?_ ?_ _) | (with_reducible refine le_bel ?_) | (with_reducible refine le_alloc ?_) | (with_reducible refine le_setCell ?_) | (with_reducible refine le_drew ?_) | (with_reducible refine le_drawsN ?_) | (dsimp only; with_reducible refine le_bel ?_) | (dsimp only; with_reducible refine Nat.le_refl _) | (dsimp only; with_reducible refine le_bel_add ?_) | (with_reducible assumption) | omega | (dsimp only; omega))))
      · have HC := Lib.hid (HST.out · (by omega))
        have hci := cmpN_in a.natAbs b.natAbs
        generalize cmpN a.natAbs b.natAbs = c at *
        obtain ⟨p, hp⟩ : ∃ p, s * c = p := ⟨_, rfl⟩
        have hpb : -1 ≤ p ∧ p ≤ 1 := by
          rw [← hp]
          rcases hsi with rfl | rfl | rfl <;> rcases hci with rfl | rfl | rfl <;> decide
        have hw : IntKind.i64.wrap p = p := IntWalk.i64_in _ (by omega)
        rw [hp] at HR
        have n1 : ¬ (da.length : Int) < (db.length : Int) := by omega
        have n2 : ¬ (db.length : Int) < (da.length : Int) := by omega
        clear hsi hci
        go_enter Tryz.func13, Tryz.ntmps13
        go_wp2_with fail
        (with_reducible refine (HSa.out _).mono ?_)
        rintro _ _ ⟨rfl, x1, rfl⟩
        go_wp2_with fail
        (with_reducible refine (HSb.out _).mono ?_)
        rintro _ _ ⟨rfl, x2, rfl⟩
        go_wp2_with fail
        (with_reducible refine (HCa.out _).mono ?_)
        rintro _ _ ⟨rfl, x3, rfl⟩
        dsimp only
        go_wp2_with fail
        (with_reducible refine (HCb.out _).mono ?_)
        rintro _ _ ⟨rfl, x4, rfl⟩
        dsimp only
        go_wp2_with fail
        (with_reducible refine (HC.out _).mono ?_)
        rintro _ _ ⟨rfl, x5, rfl⟩
        go_wp2
        go_ret
        exact Ret.mk (by rw [HR.out]; rfl) (by (repeat' (first | (with_reducible exact Below.refl _ _) | (with_reducible exact Nat.le_refl _) | (with_reducible refine Below.bel ?_ ?_) | (with_reducible refine Below.alloc ?_ ?_ _) | (with_reducible refine Below.drew ?_) | (with_reducible refine Below.drawsN ?_ _) | (with_reducible refine Below.setCell ?_ ?_ _) | (with_reducible refine le_bel ?_) | (with_reducible refine le_alloc ?_) | (with_reducible refine le_setCell ?_) | (with_reducible refine le_drew ?_) | (with_reducible refine le_drawsN ?_) | (dsimp only; with_reducible refine le_bel ?_) | (dsimp only; with_reducible refine Nat.le_refl _) | (dsimp only; with_reducible refine le_bel_add ?_) | (with_reducible assumption) | omega | (dsimp only; omega))))
      · have hl' : (db.length : Int) < (da.length : Int) := by omega
        have n1 : ¬ (da.length : Int) < (db.length : Int) := by omega
        have HC := Lib.hid (show cmpN a.natAbs b.natAbs = 1 from (if_neg (by have := H5.out (by omega); omega)).trans (if_pos (H5.out (by omega))))
        go_enter Tryz.func13, Tryz.ntmps13
        go_wp2_with fail
        (with_reducible refine (HSa.out _).mono ?_)
        rintro _ _ ⟨rfl, x1, rfl⟩
        go_wp2_with fail
        (with_reducible refine (HSb.out _).mono ?_)
        rintro _ _ ⟨rfl, x2, rfl⟩
        go_wp2_with fail
        (with_reducible refine (HCa.out _).mono ?_)
        rintro _ _ ⟨rfl, x3, rfl⟩
        dsimp only
        go_wp2_with fail
        (with_reducible refine (HCb.out _).mono ?_)
        rintro _ _ ⟨rfl, x4, rfl⟩
        dsimp only
        go_wp2
        go_ret
        exact Ret.mk (by rw [HR.out, HC.out, Int.mul_one]; rfl) (by (repeat' (first | (with_reducible exact Below.refl _ _) | (with_reducible exact Nat.le_refl _) | (with_reducible refine Below.bel ?_ ?_) | (with_reducible refine Below.alloc ?_ ?_ _) | (with_reducible refine Below.drew ?_) | (with_reducible refine Below.drawsN ?_ _) | (with_reducible refine Below.setCell ?_ ?_ _) | (with_reducible refine le_bel ?_) | (with_reducible refine le_alloc ?_) | (with_reducible refine le_setCell ?_) | (with_reducible refine le_drew ?_) | (with_reducible refine le_drawsN ?_) | (dsimp only; with_reducible refine le_bel ?_) | (dsimp only; with_reducible refine Nat.le_refl _) | (dsimp only; with_reducible refine le_bel_add ?_) | (with_reducible assumption) | omega | (dsimp only; omega))))
end Go.Proofs.YteglfhmmkoahfaaGreatDoor
