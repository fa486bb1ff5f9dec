/- The reference's Power. -/
import Derived.Test.YteglfhmmkoahfaaGreatDoorR9
namespace Go.Proofs.YteglfhmmkoahfaaGreatDoor
open Go.RowKit Go.Shelf
attribute [local go_sem low] Bel.cell Bel.frozen alloc_cell alloc_frozen

theorem nd_pow (a : Int) (e : Nat) : nd (a ^ e) ≤ e * nd a + 1 := by
  induction e with
  | zero => rw [Int.pow_zero, nd_1]; omega
  | succ e ih =>
    have h := nd_mul (a ^ e) a
    rw [Int.pow_succ, Nat.succ_mul]
    omega
set_option maxRecDepth 100000 in
set_option maxHeartbeats 6400000 in
theorem refPower_any (a : Int) (m : Nat) (w : World) (ha : nd a ≤ 10) (hm : m ≤ 60) (hT : Tab w) :
    Calls Tryz.prog 21 #[.string ⟨(iT a).toArray⟩, .int .i64 (m : Int)] w (Ret (.string ⟨(iT (a ^ m)).toArray⟩) w) := by
  have HT := Lib.hid hT
  clear hT
  have HN := Lib.hid (fun (e : Nat) (he : e ≤ 120) => show nd (a ^ e) ≤ 20000 by
    have h1 := nd_pow a e
    have h2 := Nat.mul_le_mul he ha
    omega)
  have HM := Lib.hid (fun (e f : Nat) (he : e ≤ 120) (hf : f ≤ 120) w' hT => (show Calls Tryz.prog 23 #[.string ⟨(iT (a ^ e)).toArray⟩, .string ⟨(iT (a ^ f)).toArray⟩] w' (Ret (.string ⟨(iT (a ^ (e + f))).toArray⟩) w') by
    rw [Int.pow_add]
    exact refMul_any (a ^ e) (a ^ f) w' (HN.out e he) (HN.out f hf) hT))
  have hA : iT a = (fun e => iT (a ^ e)) 1 := by show iT a = iT (a ^ 1); rw [Int.pow_one]
  have h1 : ([49] : List UInt8) = (fun e => iT (a ^ e)) 0 := by show [49] = iT (a ^ 0); rw [Int.pow_zero, iT_1]
  rw [hA]
  have HA0 := Lib.hid h1
  clear h1 hA HN
  show Calls Tryz.prog 21 #[.string ⟨((fun e => iT (a ^ e)) 1).toArray⟩, .int .i64 (m : Int)] w (Ret (.string ⟨((fun e => iT (a ^ e)) m).toArray⟩) w)
  replace HM := Lib.hid (show ∀ (e f : Nat), e ≤ 120 → f ≤ 120 → ∀ w', Tab w' → Calls Tryz.prog 23 #[.string ⟨((fun e => iT (a ^ e)) e).toArray⟩, .string ⟨((fun e => iT (a ^ e)) f).toArray⟩] w' (Ret (.string ⟨((fun e => iT (a ^ e)) (e + f)).toArray⟩) w') from HM.out)
  generalize (fun e : Nat => iT (a ^ e)) = F at *
  go_enter Tryz.func21, Tryz.ntmps21
  go_wp2
  go_loopw [5, 0, 1] (fun o x n wr => ∃ e f k : Nat, o = .string ⟨(F f).toArray⟩ ∧ x = .string ⟨(F e).toArray⟩ ∧ n = .int .i64 (k : Int) ∧ f + e * k = m ∧ 1 ≤ e ∧ e ≤ 120 ∧ k ≤ 60 ∧ Below w.heap.size w wr) (fun _ _ n _ => (intOf n).toNat)
  case atStart => exact ⟨1, 0, m, by rw [← HA0.out], rfl, rfl, by omega, by omega, by omega, hm, Below.refl _ _⟩
  case round =>
    obtain ⟨e, f, k, rfl, rfl, rfl, hs, he1, he, hk, hb⟩ := hrel
    have hbs := hb.size
    rcases Nat.eq_zero_or_pos k with h0 | h0
    · subst h0
      rw [Nat.mul_zero, Nat.add_zero] at hs
      subst hs
      have f0 : decide ((0 : Int) < ((0 : Nat) : Int)) = false := by decide
      go_wp2
      go_ret
      exact Ret.mk (by rfl) (by (repeat' (first | (with_reducible exact Below.refl _ _) | (with_reducible exact Nat.le_refl _) | (with_reducible refine Below.bel ?_ ?_) | (with_reducible refine Below.alloc ?_ ?_ _) | (with_reducible refine Below.drew ?_) | (with_reducible refine Below.drawsN ?_ _) | (with_reducible refine Below.setCell ?_ ?_ _) | (with_reducible refine le_bel ?_) | (with_reducible refine le_alloc ?_) | (with_reducible refine le_setCell ?_) | (with_reducible refine le_drew ?_) | (with_reducible refine le_drawsN ?_) | (dsimp only; with_reducible refine le_bel ?_) | (dsimp only; with_reducible refine Nat.le_refl _) | (dsimp only; with_reducible refine le_bel_add ?_) | (with_reducible assumption) | omega | (dsimp only; omega))))
    · have f0 : decide ((0 : Int) < (k : Int)) = true := decide_eq_true (by omega)
      obtain ⟨k2, hk2⟩ : ∃ x, k / 2 = x := ⟨_, rfl⟩
      have hk2' : (k : Int) / 2 = (k2 : Int) := by omega
      have hee : e * 1 ≤ e * k := Nat.mul_le_mul_left e h0
      have hf : f ≤ 60 := by omega
      have he2 : e ≤ 60 := by omega
      by_cases h2 : k % 2 = 1
      · have f1 : ((k : Int) % 2 == 1) = true := beq_iff_eq.2 (by omega)
        have hs2 : (f + e) + (e + e) * k2 = m := by
          rw [← hs, show k = k2 + k2 + 1 by omega, Nat.mul_add, Nat.mul_add, Nat.add_mul]
          omega
        go_wp2_with fail
        refine (HM.out f e (by omega) (by omega) _ (HT.out.of (by (repeat' (first | (with_reducible exact Below.refl _ _) | (with_reducible exact Nat.le_refl _) | (with_reducible refine Below.bel ?_ ?_) | (with_reducible refine Below.alloc ?_ ?_ _) | (with_reducible refine Below.drew ?_) | (with_reducible refine Below.drawsN ?_ _) | (with_reducible refine Below.setCell ?_ ?_ _) | (with_reducible refine le_bel ?_) | (with_reducible refine le_alloc ?_) | (with_reducible refine le_setCell ?_) | (with_reducible refine le_drew ?_) | (with_reducible refine le_drawsN ?_) | (dsimp only; with_reducible refine le_bel ?_) | (dsimp only; with_reducible refine Nat.le_refl _) | (dsimp only; with_reducible refine le_bel_add ?_) | (with_reducible assumption) | omega | (dsimp only; omega)))))).mono ?_
        rintro _ _ ⟨rfl, z1, rfl⟩
        have hz1 := z1.size_le
        go_wp2_with fail
        refine (HM.out e e (by omega) (by omega) _ (HT.out.of (by (repeat' (first | (with_reducible exact Below.refl _ _) | (with_reducible exact Nat.le_refl _) | (with_reducible refine Below.bel ?_ ?_) | (with_reducible refine Below.alloc ?_ ?_ _) | (with_reducible refine Below.drew ?_) | (with_reducible refine Below.drawsN ?_ _) | (with_reducible refine Below.setCell ?_ ?_ _) | (with_reducible refine le_bel ?_) | (with_reducible refine le_alloc ?_) | (with_reducible refine le_setCell ?_) | (with_reducible refine le_drew ?_) | (with_reducible refine le_drawsN ?_) | (dsimp only; with_reducible refine le_bel ?_) | (dsimp only; with_reducible refine Nat.le_refl _) | (dsimp only; with_reducible refine le_bel_add ?_) | (with_reducible assumption) | omega | (dsimp only; omega)))))).mono ?_
        rintro _ _ ⟨rfl, z2, rfl⟩
        have hz2 := z2.size_le
        go_wp2
        go_roundw
        case rel => exact ⟨e + e, f + e, k2, rfl, rfl, rfl, hs2, by omega, by omega, by omega, by (repeat' (first | (with_reducible exact Below.refl _ _) | (with_reducible exact Nat.le_refl _) | (with_reducible refine Below.bel ?_ ?_) | (with_reducible refine Below.alloc ?_ ?_ _) | (with_reducible refine Below.drew ?_) | (with_reducible refine Below.drawsN ?_ _) | (with_reducible refine Below.setCell ?_ ?_ _) | (with_reducible refine le_bel ?_) | (with_reducible refine le_alloc ?_) | (with_reducible refine le_setCell ?_) | (with_reducible refine le_drew ?_) | (with_reducible refine le_drawsN ?_) | (dsimp only; with_reducible refine le_bel ?_) | (dsimp only; with_reducible refine Nat.le_refl _) | (dsimp only; with_reducible refine le_bel_add ?_) | (with_reducible assumption) | omega | (dsimp only; omega)))⟩
        case measure => simp [intOf] <;> omega
      · have f1 : ((k : Int) % 2 == 1) = false := beq_eq_false_iff_ne.2 (by omega)
        have hs2 : f + (e + e) * k2 = m := by
          rw [← hs, show k = k2 + k2 by omega, Nat.mul_add, Nat.add_mul]
        go_wp2_with fail
        refine (HM.out e e (by omega) (by omega) _ (HT.out.of (by (repeat' (first | (with_reducible exact Below.refl _ _) | (with_reducible exact Nat.le_refl _) | (with_reducible refine Below.bel ?_ ?_) | (with_reducible refine Below.alloc ?_ ?_ _) | (with_reducible refine Below.drew ?_) | (with_reducible refine Below.drawsN ?_ _) | (with_reducible refine Below.setCell ?_ ?_ _) | (with_reducible refine le_bel ?_) | (with_reducible refine le_alloc ?_) | (with_reducible refine le_setCell ?_) | (with_reducible refine le_drew ?_) | (with_reducible refine le_drawsN ?_) | (dsimp only; with_reducible refine le_bel ?_) | (dsimp only; with_reducible refine Nat.le_refl _) | (dsimp only; with_reducible refine le_bel_add ?_) | (with_reducible assumption) | omega | (dsimp only; omega)))))).mono ?_
        rintro _ _ ⟨rfl, z2, rfl⟩
        have hz2 := z2.size_le
        go_wp2
        go_roundw
        case rel => exact ⟨e + e, f, k2, rfl, rfl, rfl, hs2, by omega, by omega, by omega, by (repeat' (first | (with_reducible exact Below.refl _ _) | (with_reducible exact Nat.le_refl _) | (with_reducible refine Below.bel ?_ ?_) | (with_reducible refine Below.alloc ?_ ?_ _) | (with_reducible refine Below.drew ?_) | (with_reducible refine Below.drawsN ?_ _) | (with_reducible refine Below.setCell ?_ ?_ _) | (with_reducible refine le_bel ?_) | (with_reducible refine le_alloc ?_) | (with_reducible refine le_setCell ?_) | (with_reducible refine le_drew ?_) | (with_reducible refine le_drawsN ?_) | (dsimp only; with_reducible refine le_bel ?_) | (dsimp only; with_reducible refine Nat.le_refl _) | (dsimp only; with_reducible refine le_bel_add ?_) | (with_reducible assumption) | omega | (dsimp only; omega)))⟩
        case measure => simp [intOf] <;> omega
end Go.Proofs.YteglfhmmkoahfaaGreatDoor
