/- The walk of IntegerLimits. -/
import Derived.Test.YteglfhmmkoahfaaDoorM23
namespace Go.Proofs.YteglfhmmkoahfaaDoor
open Go.RowKit Go.Shelf
attribute [local go_sem low] Bel.cell Bel.frozen alloc_cell alloc_frozen

/-- The integer of d ones. -/
def ones (d : Nat) : Int := (numD (List.replicate d 49) : Nat)
theorem ones_text (d : Nat) (h : 0 < d) : iT (ones d) = List.replicate d 49 := by
  have hc : Canon (List.replicate d 49) := by
    refine ⟨fun c hc => ?_, fun e => ?_, fun c r e h48 => ?_⟩
    · rw [(List.mem_replicate.1 hc).2]; decide
    · have := congrArg List.length e
      rw [List.length_replicate] at this
      simp at this
      omega
    · have hm : c ∈ List.replicate d 49 := by rw [e]; simp
      rw [(List.mem_replicate.1 hm).2] at h48
      exact absurd h48 (by decide)
  unfold ones
  rw [nat_text]
  exact (canon_eq _ hc).symm
theorem ones_nd (d : Nat) (h : 0 < d) : nd (ones d) = d := by
  have h1 := nd_len (ones d) (by unfold ones; omega)
  rw [h1, ones_text d h, List.length_replicate]
theorem rep_ones (d : Nat) (hd : d ≤ 1000) (w : World) : Calls Tryd.prog 8 #[.string ⟨#[49]⟩, .int .i64 (d : Int)] w (Ret (.string ⟨(List.replicate d 49).toArray⟩) w) := by
  refine (Tryd.strings_Repeat ⟨#[49]⟩ d w (by omega) (by show 1 * d ≤ _; omega)).mono fun e w' ⟨he, hb⟩ => ⟨?_, ⟨w', hb⟩, rfl⟩
  rw [he]
  have : ∀ k : Nat, Lib.repeatL [(49 : UInt8)] k = List.replicate k 49 := fun k => by
    induction k with
    | zero => rfl
    | succ k ih => rw [show Lib.repeatL [(49 : UInt8)] (k + 1) = [49] ++ Lib.repeatL [49] k from rfl, ih]; rfl
  have h2 := this d
  show _ = Ending.returned (.string ⟨(List.replicate d 49).toArray⟩)
  rw [← h2]
set_option maxRecDepth 100000 in
set_option maxHeartbeats 6400000 in
theorem lawLimits_any (g : Nat) (b : Int) (w : World) (hT : Tab w) (hg : g < 256) (hb1 : -128 ≤ b) (hb2 : b ≤ 127) :
    Calls Tryd.prog 4 #[.int .u8 (g : Int), .int .i8 b] w (Ret (.bool true) w) := by
  have HT := Lib.hid hT
  clear hT
  obtain ⟨d, hd⟩ : ∃ d, 1 + g % 40 = d := ⟨_, rfl⟩
  have hd1 : 1 ≤ d ∧ d ≤ 40 := by omega
  have hdc : (1 : Int) + (g : Int) % 40 = (d : Int) := by omega
  clear hd
  have hnd := ones_nd d hd1.1
  have hot := ones_text d hd1.1
  have HR := Lib.hid (fun w' => rep_ones d (by omega) w')
  have HP := Lib.hid (fun (n : Nat) w' (h1 : n ≤ 6000) (h2 : n * d ≤ 24000) (hT : Tab w') => power_any (ones d) n w' (by omega) h1 (by rw [hnd]; exact h2) hT)
  have HLm := Lib.hid (fun (n : Nat) w' (h1 : n ≤ 6000) (h2 : 24000 < n * d) (hT : Tab w') => power_limit (ones d) n w' (by omega) h1 (by rw [hnd]; exact h2) hT)
  rw [hot] at HP HLm
  obtain ⟨tx, htx⟩ : ∃ tx, List.replicate d (49 : UInt8) = tx := ⟨_, rfl⟩
  rw [htx] at HR HP HLm
  obtain ⟨q, hq⟩ : ∃ q : Nat, 24000 / d = q := ⟨_, rfl⟩
  have hqc : (24000 : Int) / (d : Int) = (q : Int) := by rw [← hq]; simp
  have hqb : 600 ≤ q ∧ q ≤ 24000 := by
    rw [← hq]
    exact ⟨(Nat.le_div_iff_mul_le (by omega)).2 (by omega), Nat.div_le_self _ _⟩
  have htm : -2 ≤ b.tmod 3 ∧ b.tmod 3 ≤ 2 := by
    have h1 := Int.tmod_lt_of_pos b (show (0 : Int) < 3 by decide)
    have h2 := Int.lt_tmod_of_pos b (show (0 : Int) < 3 by decide)
    omega
  obtain ⟨t, ht⟩ : ∃ t, b.tmod 3 = t := ⟨_, rfl⟩
  rw [ht] at htm
  obtain ⟨n, hn⟩ : ∃ n : Nat, (q : Int) + t = (n : Int) := ⟨((q : Int) + t).toNat, by omega⟩
  have hw : wrap64 (n : Int) = (n : Int) := by unfold wrap64; omega
  clear hq htx hot hnd
  have e0 : decide ((n : Int) < 0) = false := decide_eq_false (by omega)
  by_cases h6 : 6000 < n
  · have e1 : decide ((6000 : Int) < (n : Int)) = true := decide_eq_true (by omega)
    go_enter Tryd.func4, Tryd.ntmps4
    go_wp2_with fail
    (with_reducible refine (known_any _ (HT.out.of (by (repeat' (first | (with_reducible exact Below.refl _ _) | (with_reducible exact Nat.le_refl _) | (with_reducible refine Below.bel ?_ ?_) | (with_reducible refine Below.alloc ?_ ?_ _) | (with_reducible refine Below.drew ?_) | (with_reducible refine Below.drawsN ?_ _) | (with_reducible refine Below.setCell ?_ ?_ _) | (with_reducible refine le_bel ?_) | (with_reducible refine le_alloc ?_) | (with_reducible refine le_setCell ?_) | (with_reducible refine le_drew ?_) | (with_reducible refine le_drawsN ?_) | (dsimp only; with_reducible refine le_bel ?_) | (dsimp only; with_reducible refine Nat.le_refl _) | (dsimp only; with_reducible refine le_bel_add ?_) | (with_reducible assumption) | omega | (dsimp only; omega)))))).mono ?_)
    rintro _ _ ⟨rfl, x, rfl⟩
    have hxs := x.size_le
    go_wp2_with fail
    (with_reducible refine (HR.out _).mono ?_)
    rintro _ _ ⟨rfl, y, rfl⟩
    have hys := y.size_le
    dsimp only
    go_wp2
    go_ret
    exact Ret.mk (by rfl) (by (repeat' (first | (with_reducible exact Below.refl _ _) | (with_reducible exact Nat.le_refl _) | (with_reducible refine Below.bel ?_ ?_) | (with_reducible refine Below.alloc ?_ ?_ _) | (with_reducible refine Below.drew ?_) | (with_reducible refine Below.drawsN ?_ _) | (with_reducible refine Below.setCell ?_ ?_ _) | (with_reducible refine le_bel ?_) | (with_reducible refine le_alloc ?_) | (with_reducible refine le_setCell ?_) | (with_reducible refine le_drew ?_) | (with_reducible refine le_drawsN ?_) | (dsimp only; with_reducible refine le_bel ?_) | (dsimp only; with_reducible refine Nat.le_refl _) | (dsimp only; with_reducible refine le_bel_add ?_) | (with_reducible assumption) | omega | (dsimp only; omega))))
  · have e1 : decide ((6000 : Int) < (n : Int)) = false := decide_eq_false (by omega)
    obtain ⟨p, hp⟩ : ∃ p, n * d = p := ⟨_, rfl⟩
    have hpc : (n : Int) * (d : Int) = (p : Int) := by rw [← hp]; simp
    have hpb : p ≤ 240000 := by rw [← hp]; exact Nat.le_trans (Nat.mul_le_mul (show n ≤ 6000 by omega) hd1.2) (by decide)
    have HPP := Lib.hid hp
    clear hp
    by_cases h24 : 24000 < p
    · have e2 : decide ((24000 : Int) < (p : Int)) = true := decide_eq_true (by omega)
      go_enter Tryd.func4, Tryd.ntmps4
      go_wp2_with fail
      (with_reducible refine (known_any _ (HT.out.of (by (repeat' (first | (with_reducible exact Below.refl _ _) | (with_reducible exact Nat.le_refl _) | (with_reducible refine Below.bel ?_ ?_) | (with_reducible refine Below.alloc ?_ ?_ _) | (with_reducible refine Below.drew ?_) | (with_reducible refine Below.drawsN ?_ _) | (with_reducible refine Below.setCell ?_ ?_ _) | (with_reducible refine le_bel ?_) | (with_reducible refine le_alloc ?_) | (with_reducible refine le_setCell ?_) | (with_reducible refine le_drew ?_) | (with_reducible refine le_drawsN ?_) | (dsimp only; with_reducible refine le_bel ?_) | (dsimp only; with_reducible refine Nat.le_refl _) | (dsimp only; with_reducible refine le_bel_add ?_) | (with_reducible assumption) | omega | (dsimp only; omega)))))).mono ?_)
      rintro _ _ ⟨rfl, x, rfl⟩
      have hxs := x.size_le
      go_wp2_with fail
      (with_reducible refine (HR.out _).mono ?_)
      rintro _ _ ⟨rfl, y, rfl⟩
      have hys := y.size_le
      dsimp only
      go_wp2_with fail
      (with_reducible refine (HLm.out n _ (by omega) (by rw [HPP.out]; exact h24) (HT.out.of (by (repeat' (first | (with_reducible exact Below.refl _ _) | (with_reducible exact Nat.le_refl _) | (with_reducible refine Below.bel ?_ ?_) | (with_reducible refine Below.alloc ?_ ?_ _) | (with_reducible refine Below.drew ?_) | (with_reducible refine Below.drawsN ?_ _) | (with_reducible refine Below.setCell ?_ ?_ _) | (with_reducible refine le_bel ?_) | (with_reducible refine le_alloc ?_) | (with_reducible refine le_setCell ?_) | (with_reducible refine le_drew ?_) | (with_reducible refine le_drawsN ?_) | (dsimp only; with_reducible refine le_bel ?_) | (dsimp only; with_reducible refine Nat.le_refl _) | (dsimp only; with_reducible refine le_bel_add ?_) | (with_reducible assumption) | omega | (dsimp only; omega)))))).mono ?_)
      rintro _ _ ⟨rfl, z, rfl⟩
      dsimp only
      go_wp2
      go_ret
      exact Ret.mk (by rfl) (by (repeat' (first | (with_reducible exact Below.refl _ _) | (with_reducible exact Nat.le_refl _) | (with_reducible refine Below.bel ?_ ?_) | (with_reducible refine Below.alloc ?_ ?_ _) | (with_reducible refine Below.drew ?_) | (with_reducible refine Below.drawsN ?_ _) | (with_reducible refine Below.setCell ?_ ?_ _) | (with_reducible refine le_bel ?_) | (with_reducible refine le_alloc ?_) | (with_reducible refine le_setCell ?_) | (with_reducible refine le_drew ?_) | (with_reducible refine le_drawsN ?_) | (dsimp only; with_reducible refine le_bel ?_) | (dsimp only; with_reducible refine Nat.le_refl _) | (dsimp only; with_reducible refine le_bel_add ?_) | (with_reducible assumption) | omega | (dsimp only; omega))))
    · have e2 : decide ((24000 : Int) < (p : Int)) = false := decide_eq_false (by omega)
      have hlen : 0 < (iT (ones d ^ n)).length := by
        by_cases h : ones d ^ n < 0
        · rw [iT_neg h]; simp
        · rw [iT_pos h]; exact dec_pos _
      go_enter Tryd.func4, Tryd.ntmps4
      go_wp2_with fail
      (with_reducible refine (known_any _ (HT.out.of (by (repeat' (first | (with_reducible exact Below.refl _ _) | (with_reducible exact Nat.le_refl _) | (with_reducible refine Below.bel ?_ ?_) | (with_reducible refine Below.alloc ?_ ?_ _) | (with_reducible refine Below.drew ?_) | (with_reducible refine Below.drawsN ?_ _) | (with_reducible refine Below.setCell ?_ ?_ _) | (with_reducible refine le_bel ?_) | (with_reducible refine le_alloc ?_) | (with_reducible refine le_setCell ?_) | (with_reducible refine le_drew ?_) | (with_reducible refine le_drawsN ?_) | (dsimp only; with_reducible refine le_bel ?_) | (dsimp only; with_reducible refine Nat.le_refl _) | (dsimp only; with_reducible refine le_bel_add ?_) | (with_reducible assumption) | omega | (dsimp only; omega)))))).mono ?_)
      rintro _ _ ⟨rfl, x, rfl⟩
      have hxs := x.size_le
      go_wp2_with fail
      (with_reducible refine (HR.out _).mono ?_)
      rintro _ _ ⟨rfl, y, rfl⟩
      have hys := y.size_le
      dsimp only
      go_wp2_with fail
      (with_reducible refine (HP.out n _ (by omega) (by rw [HPP.out]; omega) (HT.out.of (by (repeat' (first | (with_reducible exact Below.refl _ _) | (with_reducible exact Nat.le_refl _) | (with_reducible refine Below.bel ?_ ?_) | (with_reducible refine Below.alloc ?_ ?_ _) | (with_reducible refine Below.drew ?_) | (with_reducible refine Below.drawsN ?_ _) | (with_reducible refine Below.setCell ?_ ?_ _) | (with_reducible refine le_bel ?_) | (with_reducible refine le_alloc ?_) | (with_reducible refine le_setCell ?_) | (with_reducible refine le_drew ?_) | (with_reducible refine le_drawsN ?_) | (dsimp only; with_reducible refine le_bel ?_) | (dsimp only; with_reducible refine Nat.le_refl _) | (dsimp only; with_reducible refine le_bel_add ?_) | (with_reducible assumption) | omega | (dsimp only; omega)))))).mono ?_)
      rintro _ _ ⟨rfl, z, rfl⟩
      dsimp only
      generalize iT (ones d ^ n) = u at *
      go_wp2
      go_ret
      exact Ret.mk (by first | (simp; done) | (simp; exact hlen)) (by (repeat' (first | (with_reducible exact Below.refl _ _) | (with_reducible exact Nat.le_refl _) | (with_reducible refine Below.bel ?_ ?_) | (with_reducible refine Below.alloc ?_ ?_ _) | (with_reducible refine Below.drew ?_) | (with_reducible refine Below.drawsN ?_ _) | (with_reducible refine Below.setCell ?_ ?_ _) | (with_reducible refine le_bel ?_) | (with_reducible refine le_alloc ?_) | (with_reducible refine le_setCell ?_) | (with_reducible refine le_drew ?_) | (with_reducible refine le_drawsN ?_) | (dsimp only; with_reducible refine le_bel ?_) | (dsimp only; with_reducible refine Nat.le_refl _) | (dsimp only; with_reducible refine le_bel_add ?_) | (with_reducible assumption) | omega | (dsimp only; omega))))
end Go.Proofs.YteglfhmmkoahfaaDoor
