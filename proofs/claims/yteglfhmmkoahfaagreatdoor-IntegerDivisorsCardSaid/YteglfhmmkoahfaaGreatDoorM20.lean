/- Power beyond the limit; the quotients of the known example. -/
import Derived.Test.YteglfhmmkoahfaaGreatDoorM18
import Derived.Test.YteglfhmmkoahfaaGreatDoorM17
namespace Go.Proofs.YteglfhmmkoahfaaGreatDoor
open Go.RowKit Go.Shelf
attribute [local go_sem low] Bel.cell Bel.frozen alloc_cell alloc_frozen

set_option maxRecDepth 100000 in
set_option maxHeartbeats 6400000 in
theorem power_limit (z : Int) (n : Nat) (w : World) (hz : nd z ≤ 70000) (hn : n ≤ 6000) (hnd : 24000 < n * nd z) (hT : Tab w) :
    Calls Tryz.prog 20 #[.string ⟨(iT z).toArray⟩, .int .i64 (n : Int)] w (Ret (.tuple #[.string ⟨#[]⟩, .int .i64 4]) w) := by
  have HT := Lib.hid hT
  clear hT
  have HS := Lib.hid (fun w' => split_any z w' (show nd z ≤ 80000 by omega))
  have hlz := lim_nd z (by omega)
  have HTX := Lib.hid (fun a cap w' (h : Limbs w' a (lim z.natAbs)) (hT : Tab w') => text_any a cap z.natAbs w' h hlz hT)
  have hdn : (Lib.decDigits z.natAbs).length = nd z := rfl
  obtain ⟨mz, hmz⟩ : ∃ m, decide (z < 0) = m := ⟨_, rfl⟩
  rw [hmz] at HS
  clear hmz
  generalize iT z = tz at *
  generalize nd z = d at *
  generalize z.natAbs = M at *
  generalize Lib.decDigits M = dt at *
  obtain ⟨p, hp⟩ : ∃ p, n * d = p := ⟨_, rfl⟩
  have hpc : (n : Int) * (dt.length : Int) = (p : Int) := by rw [hdn, ← hp]; simp
  have hpb : p ≤ 420000000 := by rw [← hp]; exact Nat.le_trans (Nat.mul_le_mul hn hz) (by decide)
  rw [hp] at hnd
  clear hp hdn
  have e1 : decide ((n : Int) < 0) = false := decide_eq_false (by omega)
  have e2 : decide ((6000 : Int) < (n : Int)) = false := decide_eq_false (by omega)
  have e3 : decide ((24000 : Int) < (p : Int)) = true := decide_eq_true (by omega)
  go_enter Tryz.func20, Tryz.ntmps20
  go_wp2_with fail
  refine (HS.out _).mono ?_
  rintro _ _ ⟨v1, rfl, y1, rfl, hv1⟩
  have hs1 := y1.size_le
  obtain ⟨p1, c1, rfl, hL1⟩ := LV.own hv1
  dsimp only
  go_wp2_with fail
  refine (HTX.out _ _ _ hL1 (HT.out.of (by (repeat' (first | (with_reducible exact Below.refl _ _) | (with_reducible exact Nat.le_refl _) | (with_reducible refine Below.bel ?_ ?_) | (with_reducible refine Below.alloc ?_ ?_ _) | (with_reducible refine Below.drew ?_) | (with_reducible refine Below.drawsN ?_ _) | (with_reducible refine Below.setCell ?_ ?_ _) | (with_reducible refine le_bel ?_) | (with_reducible refine le_alloc ?_) | (with_reducible refine le_setCell ?_) | (with_reducible refine le_drew ?_) | (with_reducible refine le_drawsN ?_) | (dsimp only; with_reducible refine le_bel ?_) | (dsimp only; with_reducible refine Nat.le_refl _) | (dsimp only; with_reducible refine le_bel_add ?_) | (with_reducible assumption) | omega | (dsimp only; omega)))))).mono ?_
  rintro _ _ ⟨rfl, y2, rfl⟩
  dsimp only
  go_wp2
  refine bodyPost_ret (v := .tuple #[.string ⟨#[]⟩, .int .i64 4]) (by simp [results, Tryz.results20, go_sem]) rfl (Ret.mk (by rfl) (by (repeat' (first | (with_reducible exact Below.refl _ _) | (with_reducible exact Nat.le_refl _) | (with_reducible refine Below.bel ?_ ?_) | (with_reducible refine Below.alloc ?_ ?_ _) | (with_reducible refine Below.drew ?_) | (with_reducible refine Below.drawsN ?_ _) | (with_reducible refine Below.setCell ?_ ?_ _) | (with_reducible refine le_bel ?_) | (with_reducible refine le_alloc ?_) | (with_reducible refine le_setCell ?_) | (with_reducible refine le_drew ?_) | (with_reducible refine le_drawsN ?_) | (dsimp only; with_reducible refine le_bel ?_) | (dsimp only; with_reducible refine Nat.le_refl _) | (dsimp only; with_reducible refine le_bel_add ?_) | (with_reducible assumption) | omega | (dsimp only; omega)))))
theorem divMod_one (a b : Int) (w : World) (ha : nd a ≤ 70000) (hb0 : b ≠ 0) (hb : b.natAbs < 1000000000) (hT : Tab w) :
    Calls Tryz.prog 19 #[.string ⟨(iT a).toArray⟩, .string ⟨(iT b).toArray⟩] w (Ret (.tuple #[.string ⟨(iT (dmQ a b)).toArray⟩, .string ⟨(iT (dmR a b)).toArray⟩, .int .i64 0]) w) := by
  have hlb : (lim b.natAbs).length ≤ 10000 := by rw [lim_one (by omega) hb]; simp
  have hnb : nd b ≤ 70000 := by have := nDig9 hb; unfold nd; omega
  refine divMod_of a b w ha hnb hb0 hT fun pa pb ca cb w' h1 h2 => ?_
  by_cases h : a.natAbs < b.natAbs
  · have := divide_lt pa pb ca cb a.natAbs b.natAbs w' h1 h2 (lim_nd a (by omega)) hlb h
    rw [Nat.div_eq_of_lt h, Nat.mod_eq_of_lt h]
    exact this
  · exact divide_one pa pb ca cb a.natAbs b.natAbs w' h1 h2 (lim_nd a (by omega)) (by omega) (by omega) hb
theorem known_text (z : Int) (l : List UInt8) (h : iT z = l) (l' : List UInt8) (h2 : l = l') : iT z = l' := h.trans h2
theorem iT_7 : iT 7 = [55] := by rw [iT_pos (by decide), show Int.natAbs 7 = 7 from rfl, dec_small (by decide)]; rfl
theorem iT_m2 : iT (-2) = [45, 50] := by rw [iT_neg (by decide), show Int.natAbs (-2) = 2 from rfl, dec_small (by decide)]; rfl
theorem iT_m4 : iT (-4) = [45, 52] := by rw [iT_neg (by decide), show Int.natAbs (-4) = 4 from rfl, dec_small (by decide)]; rfl
theorem iT_m1 : iT (-1) = [45, 49] := by rw [iT_neg (by decide), show Int.natAbs (-1) = 1 from rfl, dec_small (by decide)]; rfl
theorem iT_3 : iT 3 = [51] := by rw [iT_pos (by decide), show Int.natAbs 3 = 3 from rfl, dec_small (by decide)]; rfl
theorem known_div (w : World) (hT : Tab w) : Calls Tryz.prog 19 #[.string ⟨#[55]⟩, .string ⟨#[45, 50]⟩] w (Ret (.tuple #[.string ⟨#[45, 52]⟩, .string ⟨#[45, 49]⟩, .int .i64 0]) w) := by
  have h := divMod_one 7 (-2) w (by unfold nd; rw [show Int.natAbs 7 = 7 from rfl, dec_small (by decide)]; decide) (by decide) (by decide) hT
  rw [show dmQ 7 (-2) = -4 by decide, show dmR 7 (-2) = -1 by decide, iT_7, iT_m2, iT_m4, iT_m1] at h
  exact h
end Go.Proofs.YteglfhmmkoahfaaGreatDoor
