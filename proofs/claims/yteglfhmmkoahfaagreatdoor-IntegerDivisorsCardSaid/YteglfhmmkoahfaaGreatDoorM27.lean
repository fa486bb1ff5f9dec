/- The reference's Of and Small. -/
import Derived.Test.YteglfhmmkoahfaaGreatDoorM12
import Derived.Test.YteglfhmmkoahfaaGreatDoorM24
import Derived.Test.YteglfhmmkoahfaaGreatDoorM13
import Derived.Lib.AtoiAllCases
import Derived.Lib.SmallJoins
namespace Go.Proofs.YteglfhmmkoahfaaGreatDoor
open Go.RowKit Go.Shelf
attribute [local go_sem low] Bel.cell Bel.frozen alloc_cell alloc_frozen

theorem puint_digits : ∀ (l : List UInt8) (acc : Nat), Digits l → l.foldl (fun a c => 10 * a + (c.toNat - 48)) acc < 1000000000000000000 → Lib.parseUint10 acc l = .ok (l.foldl (fun a c => 10 * a + (c.toNat - 48)) acc)
  | [], acc, _, _ => rfl
  | c :: r, acc, hd, h => by
    have hc := hd c List.mem_cons_self
    rw [List.foldl_cons] at h ⊢
    have hge : 10 * acc + (c.toNat - 48) ≤ r.foldl (fun a c => 10 * a + (c.toNat - 48)) (10 * acc + (c.toNat - 48)) := by
      rw [numD_from r]
      have : (10 * acc + (c.toNat - 48)) * 1 ≤ (10 * acc + (c.toNat - 48)) * 10 ^ r.length := Nat.mul_le_mul_left _ (Nat.pow_pos (by decide))
      omega
    have ih := puint_digits r _ (fun x hx => hd x (List.mem_cons_of_mem _ hx)) h
    rw [Lib.parseUint10, if_pos hc, if_neg (by omega), if_neg (by omega), show acc * 10 + (c.toNat - 48) = 10 * acc + (c.toNat - 48) by omega]
    exact ih
theorem pmag_digits {d : List UInt8} (hd : Digits d) (h0 : d ≠ []) (hl : d.length ≤ 18) : Lib.parseMag d = .ok (numD d) := by
  unfold Lib.parseMag
  rw [if_neg h0]
  refine puint_digits d 0 hd ?_
  have := numD_lt hd
  have h2 : (10 : Nat) ^ d.length ≤ 10 ^ 18 := Nat.pow_le_pow_right (by decide) hl
  show numD d < _
  omega
theorem numD_18 {d : List UInt8} (hd : Digits d) (hl : d.length ≤ 18) : numD d < 1000000000000000000 := by
  have := numD_lt hd
  have h2 : (10 : Nat) ^ d.length ≤ 10 ^ 18 := Nat.pow_le_pow_right (by decide) hl
  omega
theorem atoi_digits {d : List UInt8} (hd : Digits d) (h0 : d ≠ []) (hl : d.length ≤ 18) : Lib.atoiAll d = .ok (numD d : Int) := by
  cases d with
  | nil => exact absurd rfl h0
  | cons c r =>
    have hc := hd c List.mem_cons_self
    rw [Lib.atoiAll_plain c r (by omega) (by omega), pmag_digits hd h0 hl]
    have := numD_18 hd hl
    exact if_neg (by omega)
theorem atoi_minus {d : List UInt8} (hd : Digits d) (h0 : d ≠ []) (hl : d.length ≤ 18) : Lib.atoiAll (45 :: d) = .ok (-(numD d : Int)) := by
  rw [Lib.atoiAll_minus, pmag_digits hd h0 hl]
  have := numD_18 hd hl
  exact if_neg (by omega)
theorem atoi_iT {z : Int} (hl : nd z ≤ 18) : Lib.atoiAll (iT z) = .ok z := by
  have hd := dec_digits z.natAbs
  have h0 : Lib.decDigits z.natAbs ≠ [] := fun h => by have := dec_pos z.natAbs; rw [h] at this; simp at this
  by_cases hz : z < 0
  · rw [iT_neg hz, atoi_minus hd h0 hl, dec_num]
    congr 1; omega
  · rw [iT_pos hz, atoi_digits hd h0 hl, dec_num]
    congr 1; omega
theorem atoi_ok (l : List UInt8) (v : Int) (w : World) (hl : l.length ≤ 1000000) (h : Lib.atoiAll l = .ok v) : Calls Tryz.prog 71 #[.string ⟨l.toArray⟩] w (Ret (.tuple #[.int .i64 v, .nilIface]) w) :=
  (Tryz.strconv_Atoi_ok ⟨l.toArray⟩ (by show l.toArray.size ≤ _; simp; omega) v h w).mono fun e w' ⟨he, hw⟩ => ⟨he, by
    rcases hw with hw | ⟨t, hw⟩
    · exact ⟨⟨w, Below.refl _ _⟩, hw⟩
    · exact ⟨⟨_, Go.Joins.below_bytesWorld w.heap.size w 5 t (Nat.le_refl _)⟩, hw⟩⟩
theorem iT_len (z : Int) : (iT z).length ≤ nd z + 1 := by
  unfold nd
  by_cases hz : z < 0
  · rw [iT_neg hz]; simp
  · rw [iT_pos hz]; omega
theorem cutZ_any (z : Int) (w : World) (hl : nd z ≤ 100000) : Calls Tryz.prog 34 #[.string ⟨(iT z).toArray⟩] w (Ret (.tuple #[.bool (decide (z < 0)), .string ⟨(Lib.decDigits z.natAbs).toArray⟩]) w) := by
  have hlen := iT_len z
  have h := refCut_any (iT z) w (by omega)
  by_cases hz : z < 0
  · rw [iT_neg hz] at h ⊢
    rw [decide_eq_true hz]
    have h2 := pre_neg (Lib.decDigits z.natAbs)
    rw [h2.1, h2.2] at h
    exact h
  · rw [iT_pos hz] at h ⊢
    rw [decide_eq_false hz]
    have h2 := pre_pos z.natAbs
    rw [h2.1, h2.2] at h
    exact h
theorem refSmall_any (z : Int) (w : World) (hll : nd z ≤ 100000) : Calls Tryz.prog 47 #[.string ⟨(iT z).toArray⟩] w
    (Ret (.tuple #[.int .i64 (if nd z ≤ 18 then z else 0), .bool (decide (nd z ≤ 18))]) w) := by
  have HC := Lib.hid (fun w' => cutZ_any z w' hll)
  by_cases h : nd z ≤ 18
  · rw [if_pos h, decide_eq_true h]
    have hlen := iT_len z
    have HA := Lib.hid (fun w' => atoi_ok (iT z) z w' (by omega) (atoi_iT h))
    have e1 : decide ((18 : Int) < ((Lib.decDigits z.natAbs).length : Int)) = false := decide_eq_false (by unfold nd at h; omega)
    clear hlen hll h
    generalize iT z = t at *
    generalize Lib.decDigits z.natAbs = d at *
    generalize decide (z < 0) = m at *
    go_enter Tryz.func47, Tryz.ntmps47
    go_wp2_with fail
    (with_reducible refine (HC.out _).mono ?_)
    rintro _ _ ⟨rfl, x1, rfl⟩
    dsimp only
    go_wp2_with fail
    (with_reducible refine (HA.out _).mono ?_)
    rintro _ _ ⟨rfl, x2, rfl⟩
    dsimp only
    go_wp2
    refine bodyPost_ret (v := .tuple #[.int .i64 z, .bool true]) (by simp [results, Tryz.results47, go_sem]) rfl (Ret.mk (by rfl) (by (repeat' (first | (with_reducible exact Below.refl _ _) | (with_reducible exact Nat.le_refl _) | (with_reducible refine Below.bel ?_ ?_) | (with_reducible refine Below.alloc ?_ ?_ _) | (with_reducible refine Below.drew ?_) | (with_reducible refine Below.drawsN ?_ _) | (with_reducible refine Below.setCell ?_ ?_ _) | (with_reducible refine le_bel ?_) | (with_reducible refine le_alloc ?_) | (with_reducible refine le_setCell ?_) | (with_reducible refine le_drew ?_) | (with_reducible refine le_drawsN ?_) | (dsimp only; with_reducible refine le_bel ?_) | (dsimp only; with_reducible refine Nat.le_refl _) | (dsimp only; with_reducible refine le_bel_add ?_) | (with_reducible assumption) | omega | (dsimp only; omega)))))
  · rw [if_neg h, decide_eq_false h]
    have e1 : decide ((18 : Int) < ((Lib.decDigits z.natAbs).length : Int)) = true := decide_eq_true (by unfold nd at h; omega)
    clear hll h
    generalize iT z = t at *
    generalize Lib.decDigits z.natAbs = d at *
    generalize decide (z < 0) = m at *
    go_enter Tryz.func47, Tryz.ntmps47
    go_wp2_with fail
    (with_reducible refine (HC.out _).mono ?_)
    rintro _ _ ⟨rfl, x1, rfl⟩
    dsimp only
    go_wp2
    refine bodyPost_ret (v := .tuple #[.int .i64 0, .bool false]) (by simp [results, Tryz.results47, go_sem]) rfl (Ret.mk (by rfl) (by (repeat' (first | (with_reducible exact Below.refl _ _) | (with_reducible exact Nat.le_refl _) | (with_reducible refine Below.bel ?_ ?_) | (with_reducible refine Below.alloc ?_ ?_ _) | (with_reducible refine Below.drew ?_) | (with_reducible refine Below.drawsN ?_ _) | (with_reducible refine Below.setCell ?_ ?_ _) | (with_reducible refine le_bel ?_) | (with_reducible refine le_alloc ?_) | (with_reducible refine le_setCell ?_) | (with_reducible refine le_drew ?_) | (with_reducible refine le_drawsN ?_) | (dsimp only; with_reducible refine le_bel ?_) | (dsimp only; with_reducible refine Nat.le_refl _) | (dsimp only; with_reducible refine le_bel_add ?_) | (with_reducible assumption) | omega | (dsimp only; omega)))))
theorem refOf_any (n : Int) (w : World) (h0 : -9223372036854775808 ≤ n) (h1 : n ≤ 9223372036854775807) (hT : Tab w) : Calls Tryz.prog 48 #[.int .i64 n] w (Ret (.string ⟨(iT n).toArray⟩) w) := by
  have HI := Lib.hid (itoa_any n w h0 h1 hT)
  rw [iT_itoa] at HI
  generalize iT n = t at *
  go_enter Tryz.func48, Tryz.ntmps48
  go_wp2_with fail
  (with_reducible refine HI.out.mono ?_)
  rintro _ _ ⟨rfl, x, rfl⟩
  go_wp2
  go_ret
  exact Ret.mk (by rfl) (by (repeat' (first | (with_reducible exact Below.refl _ _) | (with_reducible exact Nat.le_refl _) | (with_reducible refine Below.bel ?_ ?_) | (with_reducible refine Below.alloc ?_ ?_ _) | (with_reducible refine Below.drew ?_) | (with_reducible refine Below.drawsN ?_ _) | (with_reducible refine Below.setCell ?_ ?_ _) | (with_reducible refine le_bel ?_) | (with_reducible refine le_alloc ?_) | (with_reducible refine le_setCell ?_) | (with_reducible refine le_drew ?_) | (with_reducible refine le_drawsN ?_) | (dsimp only; with_reducible refine le_bel ?_) | (dsimp only; with_reducible refine Nat.le_refl _) | (dsimp only; with_reducible refine le_bel_add ?_) | (with_reducible assumption) | omega | (dsimp only; omega))))
end Go.Proofs.YteglfhmmkoahfaaGreatDoor
