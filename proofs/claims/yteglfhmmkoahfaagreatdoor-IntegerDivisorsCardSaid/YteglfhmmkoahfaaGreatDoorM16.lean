/- divide, where the divisor has one limb or is greater. -/
import Derived.Test.YteglfhmmkoahfaaGreatDoorM14
import Derived.Test.YteglfhmmkoahfaaGreatDoorM5
import Derived.Test.YteglfhmmkoahfaaGreatDoorM1
namespace Go.Proofs.YteglfhmmkoahfaaGreatDoor
open Go.RowKit Go.Shelf
attribute [local go_sem low] Bel.cell Bel.frozen alloc_cell alloc_frozen

theorem ownV_one (w : World) (e : TypeId) (x : Value) : OwnV (w.alloc (.cells #[x] e)) w.heap.size e (.slice (some ⟨w.heap.size, 0, none⟩) 1 1) [x] := by
  refine ⟨rfl, .inr ⟨w.heap.size, 1, #[x], rfl, Nat.le_refl _, ?_, Nat.le_refl _, by unfold maxLen; omega, rfl, rfl⟩⟩
  show (w.heap.push _)[w.heap.size]? = _
  simp
/-- A slice that shows a magnitude. -/
def LV (w : World) (v : Value) (n : Nat) : Prop := ∃ a cap, v = .slice a (lim n).length cap ∧ Limbs w a (lim n)
theorem LV.of {w w' : World} {v : Value} {n : Nat} (h : LV w v n) (hb : Below w.heap.size w w') : LV w' v n := by
  obtain ⟨a, cap, hv, hl⟩ := h
  exact ⟨a, cap, hv, limbs_of hl hb⟩
theorem LV.own {w : World} {base : Nat} {v : Value} {n : Nat} (h : OwnV w base 59 v (uVs (lim n))) : LV w v n := limbs_own h
def DivRet (w : World) (q r : Nat) (e : Ending) (w' : World) : Prop := ∃ v u, e = .returned (.tuple #[v, u]) ∧ ∃ y : Bel w, w' = y.w ∧ LV y.w v q ∧ LV y.w u r
theorem LV.zero (w : World) : LV w (.slice none 0 0) 0 := ⟨none, 0, by rw [show lim 0 = [] from limbs_zero _]; rfl, fun h => absurd h (by rw [show lim 0 = [] from limbs_zero _]; decide)⟩
theorem lim_one {n : Nat} (h0 : n ≠ 0) (h : n < 1000000000) : lim n = [n] := by
  show limbs 1000000000 n = [n]
  rw [limbs_pos (by decide) h0, Nat.mod_eq_of_lt h, Nat.div_eq_of_lt h, limbs_zero]
set_option maxRecDepth 100000 in
set_option maxHeartbeats 6400000 in
theorem divide_lt (a b : Option Addr) (cap cap' m n : Nat) (w : World) (h1 : Limbs w a (lim m)) (h2 : Limbs w b (lim n)) (hl1 : (lim m).length ≤ 10000) (hl2 : (lim n).length ≤ 10000) (h : m < n) :
    Calls Tryz.prog 39 #[.slice a (lim m).length cap, .slice b (lim n).length cap'] w (DivRet w 0 m) := by
  have HC := Lib.hid (compare_any a b cap cap' m n w h1 h2 (by omega) (by omega))
  rw [show cmpN m n = -1 from if_pos h] at HC
  have HL := Lib.hid (show ∀ y : Bel w, LV y.w (.slice a (lim m).length cap) m from fun y => ⟨a, cap, rfl, limbs_of h1 y.below⟩)
  clear h1 h2
  generalize (lim m).length = lm at *
  generalize (lim n).length = ln at *
  go_enter Tryz.func39, Tryz.ntmps39
  go_wp2_with fail
  (with_reducible refine HC.out.mono ?_)
  rintro _ _ ⟨rfl, x1, rfl⟩
  go_wp2
  go_ret2
  exact ⟨_, _, rfl, x1, rfl, LV.zero _, HL.out x1⟩
set_option maxRecDepth 100000 in
set_option maxHeartbeats 6400000 in
theorem divide_one (a b : Option Addr) (cap cap' m n : Nat) (w : World) (h1 : Limbs w a (lim m)) (h2 : Limbs w b (lim n)) (hl1 : (lim m).length ≤ 10000) (h : n ≤ m) (hn0 : n ≠ 0) (hn : n < 1000000000) :
    Calls Tryz.prog 39 #[.slice a (lim m).length cap, .slice b (lim n).length cap'] w (DivRet w (m / n) (m % n)) := by
  have HC := Lib.hid (compare_any a b cap cap' m n w h1 h2 (by omega) (by rw [lim_one hn0 hn]; simp))
  have hcm : decide (cmpN m n < 0) = false := by unfold cmpN; rw [if_neg (by omega)]; split <;> decide
  have hr : m % n < 1000000000 := Nat.lt_trans (Nat.mod_lt _ (by omega)) hn
  have HB := Lib.hid (fun (y : Bel w) => by_any a cap m n y.w (limbs_of h1 y.below) hl1 (by omega) hn)
  rw [lim_one hn0 hn] at h2 HC ⊢
  rw [List.length_singleton] at HC ⊢
  obtain ⟨bb, off, rfl, hc⟩ := h2 (by simp)
  have g0 := hc 0 n rfl
  rw [Nat.add_zero] at g0
  clear h1 h2 hc
  have HT := Lib.hid (show trimL [m % n] = lim (m % n) from trimL_val (by decide) (fun x hx => by rw [List.mem_singleton.1 hx]; exact hr) (by simp [valB]))
  generalize (lim m).length = lm at *
  generalize cmpN m n = cm at *
  generalize m / n = Q at *
  generalize m % n = R at *
  go_enter Tryz.func39, Tryz.ntmps39
  go_wp2_with fail
  (with_reducible refine HC.out.mono ?_)
  rintro _ _ ⟨rfl, x1, rfl⟩
  have hx1 := x1.size_le
  go_wp2_with fail
  refine (HB.out x1).mono ?_
  rintro _ _ ⟨v, rfl, x2, rfl, hv⟩
  have hx2 := x2.size_le
  have HV := Lib.hid (LV.own hv)
  obtain ⟨pa, pc, rfl, hpl⟩ := limbs_own hv
  clear hv hpl
  dsimp only
  have hon := ownV_one x2.w 59 (.int .u64 (R : Int))
  have HO := Lib.hid (show OwnV (x2.w.alloc (.cells #[.int .u64 (R : Int)] 59)) x2.w.heap.size 59 (.slice (some ⟨x2.w.heap.size, 0, none⟩) [R].length 1) (uVs [R]) from hon)
  clear hon
  go_wp2_with fail
  refine (trim_own HO.out (by simp)).mono ?_
  rintro _ _ ⟨rfl, x3, rfl⟩
  have HR := Lib.hid (ownV_bel (own_trim HO.out) x3)
  rw [HT.out] at HR ⊢
  dsimp only
  go_wp2
  go_ret2
  exact ⟨_, _, rfl, ⟨x3.w, by (repeat' (first | (with_reducible exact Below.refl _ _) | (with_reducible exact Nat.le_refl _) | (with_reducible refine Below.bel ?_ ?_) | (with_reducible refine Below.alloc ?_ ?_ _) | (with_reducible refine Below.drew ?_) | (with_reducible refine Below.drawsN ?_ _) | (with_reducible refine Below.setCell ?_ ?_ _) | (with_reducible refine le_bel ?_) | (with_reducible refine le_alloc ?_) | (with_reducible refine le_setCell ?_) | (with_reducible refine le_drew ?_) | (with_reducible refine le_drawsN ?_) | (dsimp only; with_reducible refine le_bel ?_) | (dsimp only; with_reducible refine Nat.le_refl _) | (dsimp only; with_reducible refine le_bel_add ?_) | (with_reducible assumption) | omega | (dsimp only; omega)))⟩, rfl, HV.out.of (show Below x2.w.heap.size x2.w x3.w by (repeat' (first | (with_reducible exact Below.refl _ _) | (with_reducible exact Nat.le_refl _) | (with_reducible refine Below.bel ?_ ?_) | (with_reducible refine Below.alloc ?_ ?_ _) | (with_reducible refine Below.drew ?_) | (with_reducible refine Below.drawsN ?_ _) | (with_reducible refine Below.setCell ?_ ?_ _) | (with_reducible refine le_bel ?_) | (with_reducible refine le_alloc ?_) | (with_reducible refine le_setCell ?_) | (with_reducible refine le_drew ?_) | (with_reducible refine le_drawsN ?_) | (dsimp only; with_reducible refine le_bel ?_) | (dsimp only; with_reducible refine Nat.le_refl _) | (dsimp only; with_reducible refine le_bel_add ?_) | (with_reducible assumption) | omega | (dsimp only; omega)))), LV.own HR.out⟩
end Go.Proofs.YteglfhmmkoahfaaGreatDoor
