/- isDigit, Check. -/
import Derived.Test.YteglfhmmkoahfaaGreatDoorM10
namespace Go.Proofs.YteglfhmmkoahfaaGreatDoor
open Go.RowKit Go.Shelf
attribute [local go_sem low] Bel.cell Bel.frozen alloc_cell alloc_frozen

def isD (c : UInt8) : Bool := decide (48 ≤ c.toNat) && decide (c.toNat ≤ 57)
theorem isD_any (c : UInt8) (w : World) : Calls Tryz.prog 56 #[.int .u8 (c.toNat : Int)] w (Ret (.bool (isD c)) w) := by
  by_cases h1 : 48 ≤ c.toNat
  · by_cases h2 : c.toNat ≤ 57
    · have HD := Lib.hid (show isD c = true by unfold isD; rw [decide_eq_true h1, decide_eq_true h2]; rfl)
      have e1 : decide ((48 : Int) ≤ (c.toNat : Int)) = true := decide_eq_true (by omega)
      have e2 : decide ((c.toNat : Int) ≤ (57 : Int)) = true := decide_eq_true (by omega)
      go_enter Tryz.func56, Tryz.ntmps56
      go_wp2
      go_ret
      exact Ret.mk (by rw [HD.out]; rfl) (by (repeat' (first | (with_reducible exact Below.refl _ _) | (with_reducible exact Nat.le_refl _) | (with_reducible refine Below.bel ?_ ?_) | (with_reducible refine Below.alloc ?_ ?_ _) | (with_reducible refine Below.drew ?_) | (with_reducible refine Below.drawsN ?_ _) | (with_reducible refine Below.setCell ?_ ?_ _) | (with_reducible refine le_bel ?_) | (with_reducible refine le_alloc ?_) | (with_reducible refine le_setCell ?_) | (with_reducible refine le_drew ?_) | (with_reducible refine le_drawsN ?_) | (dsimp only; with_reducible refine le_bel ?_) | (dsimp only; with_reducible refine Nat.le_refl _) | (dsimp only; with_reducible refine le_bel_add ?_) | (with_reducible assumption) | omega | (dsimp only; omega))))
    · have HD := Lib.hid (show isD c = false by unfold isD; rw [decide_eq_true h1, decide_eq_false h2]; rfl)
      have e1 : decide ((48 : Int) ≤ (c.toNat : Int)) = true := decide_eq_true (by omega)
      have e2 : decide ((c.toNat : Int) ≤ (57 : Int)) = false := decide_eq_false (by omega)
      go_enter Tryz.func56, Tryz.ntmps56
      go_wp2
      go_ret
      exact Ret.mk (by rw [HD.out]; rfl) (by (repeat' (first | (with_reducible exact Below.refl _ _) | (with_reducible exact Nat.le_refl _) | (with_reducible refine Below.bel ?_ ?_) | (with_reducible refine Below.alloc ?_ ?_ _) | (with_reducible refine Below.drew ?_) | (with_reducible refine Below.drawsN ?_ _) | (with_reducible refine Below.setCell ?_ ?_ _) | (with_reducible refine le_bel ?_) | (with_reducible refine le_alloc ?_) | (with_reducible refine le_setCell ?_) | (with_reducible refine le_drew ?_) | (with_reducible refine le_drawsN ?_) | (dsimp only; with_reducible refine le_bel ?_) | (dsimp only; with_reducible refine Nat.le_refl _) | (dsimp only; with_reducible refine le_bel_add ?_) | (with_reducible assumption) | omega | (dsimp only; omega))))
  · have HD := Lib.hid (show isD c = false by unfold isD; rw [decide_eq_false h1]; rfl)
    have e1 : decide ((48 : Int) ≤ (c.toNat : Int)) = false := decide_eq_false (by omega)
    go_enter Tryz.func56, Tryz.ntmps56
    go_wp2
    go_ret
    exact Ret.mk (by rw [HD.out]; rfl) (by (repeat' (first | (with_reducible exact Below.refl _ _) | (with_reducible exact Nat.le_refl _) | (with_reducible refine Below.bel ?_ ?_) | (with_reducible refine Below.alloc ?_ ?_ _) | (with_reducible refine Below.drew ?_) | (with_reducible refine Below.drawsN ?_ _) | (with_reducible refine Below.setCell ?_ ?_ _) | (with_reducible refine le_bel ?_) | (with_reducible refine le_alloc ?_) | (with_reducible refine le_setCell ?_) | (with_reducible refine le_drew ?_) | (with_reducible refine le_drawsN ?_) | (dsimp only; with_reducible refine le_bel ?_) | (dsimp only; with_reducible refine Nat.le_refl _) | (dsimp only; with_reducible refine le_bel_add ?_) | (with_reducible assumption) | omega | (dsimp only; omega))))
theorem cutG_any (l : List UInt8) (w : World) : Calls Tryz.prog 36 #[.string ⟨l.toArray⟩, .string ⟨#[45]⟩] w (Ret (.tuple #[.string ⟨(Lib.trimPrefix l [45]).toArray⟩, .bool (Lib.hasPrefix l [45])]) w) :=
  (Tryz.strings_CutPrefix ⟨l.toArray⟩ ⟨#[45]⟩ w).mono fun e w' ⟨he, hw⟩ => ⟨he, ⟨w, Below.refl _ _⟩, hw⟩
theorem trimP_len (l : List UInt8) : (Lib.trimPrefix l [45]).length ≤ l.length := by
  unfold Lib.trimPrefix
  split
  · rw [List.length_drop]; omega
  · exact Nat.le_refl _
/-- What Check returns. -/
def chkD (m : Bool) (d : List UInt8) : Int := match d with
  | [] => 2
  | c :: r => if 400 < (c :: r).length then 2 else if c = 48 ∧ (m = true ∨ r ≠ []) then 2 else if (c :: r).all isD then 0 else 2
def chkV (l : List UInt8) : Int := chkD (Lib.hasPrefix l [45]) (Lib.trimPrefix l [45])
end Go.Proofs.YteglfhmmkoahfaaGreatDoor
