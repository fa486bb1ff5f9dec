/- The walk of IntegerDivisors. -/
import Derived.Test.YteglfhmmkoahfaaGreatDoorD4
import Derived.Test.YteglfhmmkoahfaaGreatDoorM23
namespace Go.Proofs.YteglfhmmkoahfaaGreatDoor
open Go.RowKit Go.Shelf
attribute [local go_sem low] Bel.cell Bel.frozen alloc_cell alloc_frozen

theorem nd_gcd (a b : Int) : nd ((Nat.gcd a.natAbs b.natAbs : Nat) : Int) ≤ max (nd a) (nd b) := by
  by_cases h : a = 0
  · subst h
    rw [show (0 : Int).natAbs = 0 from rfl, Nat.gcd_zero_left]
    have : nd ((b.natAbs : Nat) : Int) ≤ nd b := nd_mono (by rw [Int.natAbs_natCast]; exact Nat.le_refl _)
    omega
  · have : nd ((Nat.gcd a.natAbs b.natAbs : Nat) : Int) ≤ nd a := nd_mono (by rw [Int.natAbs_natCast]; exact Nat.gcd_le_left _ (by omega))
    omega
theorem dm_div {a : Int} {g : Nat} (hg : 0 < g) (h : g ∣ a.natAbs) : dmR a g = 0 ∧ (dmQ a g).natAbs = a.natAbs / g := by
  have h0 : a.natAbs % g = 0 := Nat.mod_eq_zero_of_dvd h
  unfold dmR dmQ dmX dmY
  rw [sg_abs, Int.natAbs_natCast, h0]
  simp [sg]
set_option maxRecDepth 100000 in
set_option maxHeartbeats 6400000 in
theorem lawDivisors_any (la lb : List UInt8) (w : World) (hT : Tab w) (ha : la.length ≤ 9223372036854775807) (hb : lb.length ≤ 9223372036854775807) :
    Calls Tryz.prog 4 #[.string ⟨la.toArray⟩, .string ⟨lb.toArray⟩] w (Ret (.bool true) w) := by
  have HT := Lib.hid hT
  clear hT
  have HF := Lib.hid (fun w' => fits_any (some ⟨w'.heap.size, 0, none⟩) 2 [la, lb] _ (texts2 w' la lb) (by simp) (by
    intro l hl
    simp at hl
    rcases hl with rfl | rfl <;> omega))
  rw [List.length_cons, List.length_singleton] at HF
  obtain ⟨f, hf⟩ : ∃ f, [la, lb].all fitV = f := ⟨_, rfl⟩
  rw [hf] at HF
  cases f
  · clear hf
    go_enter Tryz.func4, Tryz.ntmps4
    go_wp2_with fail
    (with_reducible refine (known_any _ (HT.out.of (by (repeat' (first | (with_reducible exact Below.refl _ _) | (with_reducible exact Nat.le_refl _) | (with_reducible refine Below.bel ?_ ?_) | (with_reducible refine Below.alloc ?_ ?_ _) | (with_reducible refine Below.drew ?_) | (with_reducible refine Below.drawsN ?_ _) | (with_reducible refine Below.setCell ?_ ?_ _) | (with_reducible refine le_bel ?_) | (with_reducible refine le_alloc ?_) | (with_reducible refine le_setCell ?_) | (with_reducible refine le_drew ?_) | (with_reducible refine le_drawsN ?_) | (dsimp only; with_reducible refine le_bel ?_) | (dsimp only; with_reducible refine Nat.le_refl _) | (dsimp only; with_reducible refine le_bel_add ?_) | (with_reducible assumption) | omega | (dsimp only; omega)))))).mono ?_)
    rintro _ _ ⟨rfl, x, rfl⟩
    have hxs := x.size_le
    go_wp2_with fail
    (with_reducible refine (HF.out _).mono ?_)
    rintro _ _ ⟨rfl, y, rfl⟩
    have hys := y.size_le
    simp at hys
    go_wp2_with fail
    (with_reducible refine (known_any _ (HT.out.of (by (repeat' (first | (with_reducible exact Below.refl _ _) | (with_reducible exact Nat.le_refl _) | (with_reducible refine Below.bel ?_ ?_) | (with_reducible refine Below.alloc ?_ ?_ _) | (with_reducible refine Below.drew ?_) | (with_reducible refine Below.drawsN ?_ _) | (with_reducible refine Below.setCell ?_ ?_ _) | (with_reducible refine le_bel ?_) | (with_reducible refine le_alloc ?_) | (with_reducible refine le_setCell ?_) | (with_reducible refine le_drew ?_) | (with_reducible refine le_drawsN ?_) | (dsimp only; with_reducible refine le_bel ?_) | (dsimp only; with_reducible refine Nat.le_refl _) | (dsimp only; with_reducible refine le_bel_add ?_) | (with_reducible assumption) | omega | (dsimp only; omega)))))).mono ?_)
    rintro _ _ ⟨rfl, z, rfl⟩
    go_wp2
    go_ret
    exact Ret.mk (by rfl) (by (repeat' (first | (with_reducible exact Below.refl _ _) | (with_reducible exact Nat.le_refl _) | (with_reducible refine Below.bel ?_ ?_) | (with_reducible refine Below.alloc ?_ ?_ _) | (with_reducible refine Below.drew ?_) | (with_reducible refine Below.drawsN ?_ _) | (with_reducible refine Below.setCell ?_ ?_ _) | (with_reducible refine le_bel ?_) | (with_reducible refine le_alloc ?_) | (with_reducible refine le_setCell ?_) | (with_reducible refine le_drew ?_) | (with_reducible refine le_drawsN ?_) | (dsimp only; with_reducible refine le_bel ?_) | (dsimp only; with_reducible refine Nat.le_refl _) | (dsimp only; with_reducible refine le_bel_add ?_) | (with_reducible assumption) | omega | (dsimp only; omega))))
  · have hf3 : fitV la = true ∧ fitV lb = true := by simpa using hf
    obtain ⟨a, rfl, na⟩ := fitV_int hf3.1
    obtain ⟨b, rfl, nb⟩ := fitV_int hf3.2
    have hqa := iT_is0 a
    have hqb := iT_is0 b
    have n1 := nd_gcd a b
    obtain ⟨g, hg⟩ : ∃ g, Nat.gcd a.natAbs b.natAbs = g := ⟨_, rfl⟩
    have H1 := Lib.hid (fun w' hT => gcd_any a b w' (by omega) (by omega) hT)
    have H2 := Lib.hid (fun w' hT => refGcd_any a b w' (by omega) (by omega) hT)
    rw [hg] at H1 H2 n1
    have hqg := iT_is0 (g : Int)
    obtain ⟨l, hl⟩ : ∃ l, (iT a).length = l := ⟨_, rfl⟩
    obtain ⟨m, hm⟩ : ∃ m, (iT b).length = m := ⟨_, rfl⟩
    have hlc : ((iT a).length : Int) = (l : Int) := by rw [hl]
    have hmc : ((iT b).length : Int) = (m : Int) := by rw [hm]
    by_cases h5 : 50 < l
    · have g5 : decide ((50 : Int) < (l : Int)) = true := decide_eq_true (by omega)
      clear hf3 hf hqa hqb hqg H1 H2 hl hm na nb n1 hg
      generalize iT a = ta at *
      generalize iT b = tb at *
      go_enter Tryz.func4, Tryz.ntmps4
      go_wp2_with fail
      (with_reducible refine (known_any _ (HT.out.of (by (repeat' (first | (with_reducible exact Below.refl _ _) | (with_reducible exact Nat.le_refl _) | (with_reducible refine Below.bel ?_ ?_) | (with_reducible refine Below.alloc ?_ ?_ _) | (with_reducible refine Below.drew ?_) | (with_reducible refine Below.drawsN ?_ _) | (with_reducible refine Below.setCell ?_ ?_ _) | (with_reducible refine le_bel ?_) | (with_reducible refine le_alloc ?_) | (with_reducible refine le_setCell ?_) | (with_reducible refine le_drew ?_) | (with_reducible refine le_drawsN ?_) | (dsimp only; with_reducible refine le_bel ?_) | (dsimp only; with_reducible refine Nat.le_refl _) | (dsimp only; with_reducible refine le_bel_add ?_) | (with_reducible assumption) | omega | (dsimp only; omega)))))).mono ?_)
      rintro _ _ ⟨rfl, x, rfl⟩
      have hxs := x.size_le
      go_wp2_with fail
      (with_reducible refine (HF.out _).mono ?_)
      rintro _ _ ⟨rfl, y, rfl⟩
      have hys := y.size_le
      simp at hys
      go_wp2_with fail
      (with_reducible refine (known_any _ (HT.out.of (by (repeat' (first | (with_reducible exact Below.refl _ _) | (with_reducible exact Nat.le_refl _) | (with_reducible refine Below.bel ?_ ?_) | (with_reducible refine Below.alloc ?_ ?_ _) | (with_reducible refine Below.drew ?_) | (with_reducible refine Below.drawsN ?_ _) | (with_reducible refine Below.setCell ?_ ?_ _) | (with_reducible refine le_bel ?_) | (with_reducible refine le_alloc ?_) | (with_reducible refine le_setCell ?_) | (with_reducible refine le_drew ?_) | (with_reducible refine le_drawsN ?_) | (dsimp only; with_reducible refine le_bel ?_) | (dsimp only; with_reducible refine Nat.le_refl _) | (dsimp only; with_reducible refine le_bel_add ?_) | (with_reducible assumption) | omega | (dsimp only; omega)))))).mono ?_)
      rintro _ _ ⟨rfl, z, rfl⟩
      go_wp2
      go_ret
      exact Ret.mk (by rfl) (by (repeat' (first | (with_reducible exact Below.refl _ _) | (with_reducible exact Nat.le_refl _) | (with_reducible refine Below.bel ?_ ?_) | (with_reducible refine Below.alloc ?_ ?_ _) | (with_reducible refine Below.drew ?_) | (with_reducible refine Below.drawsN ?_ _) | (with_reducible refine Below.setCell ?_ ?_ _) | (with_reducible refine le_bel ?_) | (with_reducible refine le_alloc ?_) | (with_reducible refine le_setCell ?_) | (with_reducible refine le_drew ?_) | (with_reducible refine le_drawsN ?_) | (dsimp only; with_reducible refine le_bel ?_) | (dsimp only; with_reducible refine Nat.le_refl _) | (dsimp only; with_reducible refine le_bel_add ?_) | (with_reducible assumption) | omega | (dsimp only; omega))))
    · have g5 : decide ((50 : Int) < (l : Int)) = false := decide_eq_false (by omega)
      by_cases h6 : 50 < m
      · have g6 : decide ((50 : Int) < (m : Int)) = true := decide_eq_true (by omega)
        clear hf3 hf hqa hqb hqg H1 H2 hl hm na nb n1 hg
        generalize iT a = ta at *
        generalize iT b = tb at *
        go_enter Tryz.func4, Tryz.ntmps4
        go_wp2_with fail
        (with_reducible refine (known_any _ (HT.out.of (by (repeat' (first | (with_reducible exact Below.refl _ _) | (with_reducible exact Nat.le_refl _) | (with_reducible refine Below.bel ?_ ?_) | (with_reducible refine Below.alloc ?_ ?_ _) | (with_reducible refine Below.drew ?_) | (with_reducible refine Below.drawsN ?_ _) | (with_reducible refine Below.setCell ?_ ?_ _) | (with_reducible refine le_bel ?_) | (with_reducible refine le_alloc ?_) | (with_reducible refine le_setCell ?_) | (with_reducible refine le_drew ?_) | (with_reducible refine le_drawsN ?_) | (dsimp only; with_reducible refine le_bel ?_) | (dsimp only; with_reducible refine Nat.le_refl _) | (dsimp only; with_reducible refine le_bel_add ?_) | (with_reducible assumption) | omega | (dsimp only; omega)))))).mono ?_)
        rintro _ _ ⟨rfl, x, rfl⟩
        have hxs := x.size_le
        go_wp2_with fail
        (with_reducible refine (HF.out _).mono ?_)
        rintro _ _ ⟨rfl, y, rfl⟩
        have hys := y.size_le
        simp at hys
        go_wp2_with fail
        (with_reducible refine (known_any _ (HT.out.of (by (repeat' (first | (with_reducible exact Below.refl _ _) | (with_reducible exact Nat.le_refl _) | (with_reducible refine Below.bel ?_ ?_) | (with_reducible refine Below.alloc ?_ ?_ _) | (with_reducible refine Below.drew ?_) | (with_reducible refine Below.drawsN ?_ _) | (with_reducible refine Below.setCell ?_ ?_ _) | (with_reducible refine le_bel ?_) | (with_reducible refine le_alloc ?_) | (with_reducible refine le_setCell ?_) | (with_reducible refine le_drew ?_) | (with_reducible refine le_drawsN ?_) | (dsimp only; with_reducible refine le_bel ?_) | (dsimp only; with_reducible refine Nat.le_refl _) | (dsimp only; with_reducible refine le_bel_add ?_) | (with_reducible assumption) | omega | (dsimp only; omega)))))).mono ?_)
        rintro _ _ ⟨rfl, z, rfl⟩
        go_wp2
        go_ret
        exact Ret.mk (by rfl) (by (repeat' (first | (with_reducible exact Below.refl _ _) | (with_reducible exact Nat.le_refl _) | (with_reducible refine Below.bel ?_ ?_) | (with_reducible refine Below.alloc ?_ ?_ _) | (with_reducible refine Below.drew ?_) | (with_reducible refine Below.drawsN ?_ _) | (with_reducible refine Below.setCell ?_ ?_ _) | (with_reducible refine le_bel ?_) | (with_reducible refine le_alloc ?_) | (with_reducible refine le_setCell ?_) | (with_reducible refine le_drew ?_) | (with_reducible refine le_drawsN ?_) | (dsimp only; with_reducible refine le_bel ?_) | (dsimp only; with_reducible refine Nat.le_refl _) | (dsimp only; with_reducible refine le_bel_add ?_) | (with_reducible assumption) | omega | (dsimp only; omega))))
      · have g6 : decide ((50 : Int) < (m : Int)) = false := decide_eq_false (by omega)
        by_cases h0 : g = 0
        · have ea : a = 0 := by
            have := Nat.eq_zero_of_gcd_eq_zero_left (by rw [hg]; exact h0)
            omega
          have eb : b = 0 := by
            have := Nat.eq_zero_of_gcd_eq_zero_right (by rw [hg]; exact h0)
            omega
          rw [decide_eq_true ea] at hqa
          rw [decide_eq_true eb] at hqb
          rw [decide_eq_true (by omega)] at hqg
          clear hf3 hf hl hm na nb n1 hg ea eb h0
          generalize iT a = ta at *
          generalize iT b = tb at *
          generalize iT (g : Int) = tg at *
          go_enter Tryz.func4, Tryz.ntmps4
          go_wp2_with fail
          (with_reducible refine (known_any _ (HT.out.of (by (repeat' (first | (with_reducible exact Below.refl _ _) | (with_reducible exact Nat.le_refl _) | (with_reducible refine Below.bel ?_ ?_) | (with_reducible refine Below.alloc ?_ ?_ _) | (with_reducible refine Below.drew ?_) | (with_reducible refine Below.drawsN ?_ _) | (with_reducible refine Below.setCell ?_ ?_ _) | (with_reducible refine le_bel ?_) | (with_reducible refine le_alloc ?_) | (with_reducible refine le_setCell ?_) | (with_reducible refine le_drew ?_) | (with_reducible refine le_drawsN ?_) | (dsimp only; with_reducible refine le_bel ?_) | (dsimp only; with_reducible refine Nat.le_refl _) | (dsimp only; with_reducible refine le_bel_add ?_) | (with_reducible assumption) | omega | (dsimp only; omega)))))).mono ?_)
          rintro _ _ ⟨rfl, x, rfl⟩
          have hxs := x.size_le
          go_wp2_with fail
          (with_reducible refine (HF.out _).mono ?_)
          rintro _ _ ⟨rfl, y, rfl⟩
          have hys := y.size_le
          simp at hys
          go_wp2_with fail
          (with_reducible refine (H1.out _ (HT.out.of (by (repeat' (first | (with_reducible exact Below.refl _ _) | (with_reducible exact Nat.le_refl _) | (with_reducible refine Below.bel ?_ ?_) | (with_reducible refine Below.alloc ?_ ?_ _) | (with_reducible refine Below.drew ?_) | (with_reducible refine Below.drawsN ?_ _) | (with_reducible refine Below.setCell ?_ ?_ _) | (with_reducible refine le_bel ?_) | (with_reducible refine le_alloc ?_) | (with_reducible refine le_setCell ?_) | (with_reducible refine le_drew ?_) | (with_reducible refine le_drawsN ?_) | (dsimp only; with_reducible refine le_bel ?_) | (dsimp only; with_reducible refine Nat.le_refl _) | (dsimp only; with_reducible refine le_bel_add ?_) | (with_reducible assumption) | omega | (dsimp only; omega)))))).mono ?_)
          rintro _ _ ⟨rfl, z1, rfl⟩
          have h1 := z1.size_le
          dsimp only
          go_wp2_with fail
          (with_reducible refine (H2.out _ (HT.out.of (by (repeat' (first | (with_reducible exact Below.refl _ _) | (with_reducible exact Nat.le_refl _) | (with_reducible refine Below.bel ?_ ?_) | (with_reducible refine Below.alloc ?_ ?_ _) | (with_reducible refine Below.drew ?_) | (with_reducible refine Below.drawsN ?_ _) | (with_reducible refine Below.setCell ?_ ?_ _) | (with_reducible refine le_bel ?_) | (with_reducible refine le_alloc ?_) | (with_reducible refine le_setCell ?_) | (with_reducible refine le_drew ?_) | (with_reducible refine le_drawsN ?_) | (dsimp only; with_reducible refine le_bel ?_) | (dsimp only; with_reducible refine Nat.le_refl _) | (dsimp only; with_reducible refine le_bel_add ?_) | (with_reducible assumption) | omega | (dsimp only; omega)))))).mono ?_)
          rintro _ _ ⟨rfl, z2, rfl⟩
          have h2 := z2.size_le
          dsimp only
          go_wp2
          go_ret
          exact Ret.mk (by simp) (by (repeat' (first | (with_reducible exact Below.refl _ _) | (with_reducible exact Nat.le_refl _) | (with_reducible refine Below.bel ?_ ?_) | (with_reducible refine Below.alloc ?_ ?_ _) | (with_reducible refine Below.drew ?_) | (with_reducible refine Below.drawsN ?_ _) | (with_reducible refine Below.setCell ?_ ?_ _) | (with_reducible refine le_bel ?_) | (with_reducible refine le_alloc ?_) | (with_reducible refine le_setCell ?_) | (with_reducible refine le_drew ?_) | (with_reducible refine le_drawsN ?_) | (dsimp only; with_reducible refine le_bel ?_) | (dsimp only; with_reducible refine Nat.le_refl _) | (dsimp only; with_reducible refine le_bel_add ?_) | (with_reducible assumption) | omega | (dsimp only; omega))))
        · rw [decide_eq_false (by omega)] at hqg
          have hgp : 0 < g := by omega
          obtain ⟨r1, q1⟩ := dm_div hgp (show g ∣ a.natAbs by rw [← hg]; exact Nat.gcd_dvd_left _ _)
          obtain ⟨r2, q2⟩ := dm_div hgp (show g ∣ b.natAbs by rw [← hg]; exact Nat.gcd_dvd_right _ _)
          have m1 := nd_dmQ a g
          have m2 := nd_dmQ b g
          have H3 := Lib.hid (fun w' hT => divMod_any a g w' (by omega) (by omega) (by omega) hT)
          have H4 := Lib.hid (fun w' hT => divMod_any b g w' (by omega) (by omega) (by omega) hT)
          have H5 := Lib.hid (fun w' hT => gcd_any (dmQ a g) (dmQ b g) w' (by omega) (by omega) hT)
          rw [r1, iT_0] at H3
          rw [r2, iT_0] at H4
          have hcop : Nat.gcd (a.natAbs / g) (b.natAbs / g) = 1 := by
            have h := Nat.coprime_div_gcd_div_gcd (m := a.natAbs) (n := b.natAbs) (by rw [hg]; exact hgp)
            rw [hg] at h
            exact h
          rw [q1, q2, hcop, show ((1 : Nat) : Int) = 1 from rfl, iT_1] at H5
          clear hf3 hf hl hm na nb n1 hg h0 hgp r1 q1 r2 q2 m1 m2 hqa hqb hcop
          generalize iT (dmQ a g) = t1 at *
          generalize iT (dmQ b g) = t2 at *
          generalize iT a = ta at *
          generalize iT b = tb at *
          generalize iT (g : Int) = tg at *
          go_enter Tryz.func4, Tryz.ntmps4
          go_wp2_with fail
          (with_reducible refine (known_any _ (HT.out.of (by (repeat' (first | (with_reducible exact Below.refl _ _) | (with_reducible exact Nat.le_refl _) | (with_reducible refine Below.bel ?_ ?_) | (with_reducible refine Below.alloc ?_ ?_ _) | (with_reducible refine Below.drew ?_) | (with_reducible refine Below.drawsN ?_ _) | (with_reducible refine Below.setCell ?_ ?_ _) | (with_reducible refine le_bel ?_) | (with_reducible refine le_alloc ?_) | (with_reducible refine le_setCell ?_) | (with_reducible refine le_drew ?_) | (with_reducible refine le_drawsN ?_) | (dsimp only; with_reducible refine le_bel ?_) | (dsimp only; with_reducible refine Nat.le_refl _) | (dsimp only; with_reducible refine le_bel_add ?_) | (with_reducible assumption) | omega | (dsimp only; omega)))))).mono ?_)
          rintro _ _ ⟨rfl, x, rfl⟩
          have hxs := x.size_le
          go_wp2_with fail
          (with_reducible refine (HF.out _).mono ?_)
          rintro _ _ ⟨rfl, y, rfl⟩
          have hys := y.size_le
          simp at hys
          go_wp2_with fail
          (with_reducible refine (H1.out _ (HT.out.of (by (repeat' (first | (with_reducible exact Below.refl _ _) | (with_reducible exact Nat.le_refl _) | (with_reducible refine Below.bel ?_ ?_) | (with_reducible refine Below.alloc ?_ ?_ _) | (with_reducible refine Below.drew ?_) | (with_reducible refine Below.drawsN ?_ _) | (with_reducible refine Below.setCell ?_ ?_ _) | (with_reducible refine le_bel ?_) | (with_reducible refine le_alloc ?_) | (with_reducible refine le_setCell ?_) | (with_reducible refine le_drew ?_) | (with_reducible refine le_drawsN ?_) | (dsimp only; with_reducible refine le_bel ?_) | (dsimp only; with_reducible refine Nat.le_refl _) | (dsimp only; with_reducible refine le_bel_add ?_) | (with_reducible assumption) | omega | (dsimp only; omega)))))).mono ?_)
          rintro _ _ ⟨rfl, z1, rfl⟩
          have h1 := z1.size_le
          dsimp only
          go_wp2_with fail
          (with_reducible refine (H2.out _ (HT.out.of (by (repeat' (first | (with_reducible exact Below.refl _ _) | (with_reducible exact Nat.le_refl _) | (with_reducible refine Below.bel ?_ ?_) | (with_reducible refine Below.alloc ?_ ?_ _) | (with_reducible refine Below.drew ?_) | (with_reducible refine Below.drawsN ?_ _) | (with_reducible refine Below.setCell ?_ ?_ _) | (with_reducible refine le_bel ?_) | (with_reducible refine le_alloc ?_) | (with_reducible refine le_setCell ?_) | (with_reducible refine le_drew ?_) | (with_reducible refine le_drawsN ?_) | (dsimp only; with_reducible refine le_bel ?_) | (dsimp only; with_reducible refine Nat.le_refl _) | (dsimp only; with_reducible refine le_bel_add ?_) | (with_reducible assumption) | omega | (dsimp only; omega)))))).mono ?_)
          rintro _ _ ⟨rfl, z2, rfl⟩
          have h2 := z2.size_le
          dsimp only
          go_wp2_with fail
          (with_reducible refine (H3.out _ (HT.out.of (by (repeat' (first | (with_reducible exact Below.refl _ _) | (with_reducible exact Nat.le_refl _) | (with_reducible refine Below.bel ?_ ?_) | (with_reducible refine Below.alloc ?_ ?_ _) | (with_reducible refine Below.drew ?_) | (with_reducible refine Below.drawsN ?_ _) | (with_reducible refine Below.setCell ?_ ?_ _) | (with_reducible refine le_bel ?_) | (with_reducible refine le_alloc ?_) | (with_reducible refine le_setCell ?_) | (with_reducible refine le_drew ?_) | (with_reducible refine le_drawsN ?_) | (dsimp only; with_reducible refine le_bel ?_) | (dsimp only; with_reducible refine Nat.le_refl _) | (dsimp only; with_reducible refine le_bel_add ?_) | (with_reducible assumption) | omega | (dsimp only; omega)))))).mono ?_)
          rintro _ _ ⟨rfl, z3, rfl⟩
          have h3 := z3.size_le
          dsimp only
          go_wp2_with fail
          (with_reducible refine (H4.out _ (HT.out.of (by (repeat' (first | (with_reducible exact Below.refl _ _) | (with_reducible exact Nat.le_refl _) | (with_reducible refine Below.bel ?_ ?_) | (with_reducible refine Below.alloc ?_ ?_ _) | (with_reducible refine Below.drew ?_) | (with_reducible refine Below.drawsN ?_ _) | (with_reducible refine Below.setCell ?_ ?_ _) | (with_reducible refine le_bel ?_) | (with_reducible refine le_alloc ?_) | (with_reducible refine le_setCell ?_) | (with_reducible refine le_drew ?_) | (with_reducible refine le_drawsN ?_) | (dsimp only; with_reducible refine le_bel ?_) | (dsimp only; with_reducible refine Nat.le_refl _) | (dsimp only; with_reducible refine le_bel_add ?_) | (with_reducible assumption) | omega | (dsimp only; omega)))))).mono ?_)
          rintro _ _ ⟨rfl, z4, rfl⟩
          have h4 := z4.size_le
          dsimp only
          go_wp2_with fail
          (with_reducible refine (H5.out _ (HT.out.of (by (repeat' (first | (with_reducible exact Below.refl _ _) | (with_reducible exact Nat.le_refl _) | (with_reducible refine Below.bel ?_ ?_) | (with_reducible refine Below.alloc ?_ ?_ _) | (with_reducible refine Below.drew ?_) | (with_reducible refine Below.drawsN ?_ _) | (with_reducible refine Below.setCell ?_ ?_ _) | (with_reducible refine le_bel ?_) | (with_reducible refine le_alloc ?_) | (with_reducible refine le_setCell ?_) | (with_reducible refine le_drew ?_) | (with_reducible refine le_drawsN ?_) | (dsimp only; with_reducible refine le_bel ?_) | (dsimp only; with_reducible refine Nat.le_refl _) | (dsimp only; with_reducible refine le_bel_add ?_) | (with_reducible assumption) | omega | (dsimp only; omega)))))).mono ?_)
          rintro _ _ ⟨rfl, z5, rfl⟩
          have h5 := z5.size_le
          dsimp only
          go_wp2
          go_ret
          exact Ret.mk (by simp) (by (repeat' (first | (with_reducible exact Below.refl _ _) | (with_reducible exact Nat.le_refl _) | (with_reducible refine Below.bel ?_ ?_) | (with_reducible refine Below.alloc ?_ ?_ _) | (with_reducible refine Below.drew ?_) | (with_reducible refine Below.drawsN ?_ _) | (with_reducible refine Below.setCell ?_ ?_ _) | (with_reducible refine le_bel ?_) | (with_reducible refine le_alloc ?_) | (with_reducible refine le_setCell ?_) | (with_reducible refine le_drew ?_) | (with_reducible refine le_drawsN ?_) | (dsimp only; with_reducible refine le_bel ?_) | (dsimp only; with_reducible refine Nat.le_refl _) | (dsimp only; with_reducible refine le_bel_add ?_) | (with_reducible assumption) | omega | (dsimp only; omega))))
end Go.Proofs.YteglfhmmkoahfaaGreatDoor
