/- The walk of IntegerRing. -/
import Derived.Test.YteglfhmmkoahfaaDoorM23
import Derived.Test.YteglfhmmkoahfaaDoorM25
namespace Go.Proofs.YteglfhmmkoahfaaDoor
open Go.RowKit Go.Shelf
attribute [local go_sem low] Bel.cell Bel.frozen alloc_cell alloc_frozen

theorem nd_le {z : Int} {k : Nat} (hk : 0 < k) (h : z.natAbs < 10 ^ k) : nd z ≤ k := by
  by_cases h0 : z.natAbs = 0
  · unfold nd; rw [h0, dec_small (by decide)]; exact hk
  · have h1 := dec_ge h0
    have h2 := (Nat.pow_lt_pow_iff_right (show 1 < 10 by decide)).1 (Nat.lt_of_le_of_lt h1 h)
    unfold nd; omega
theorem nd_add (a b : Int) : nd (a + b) ≤ max (nd a) (nd b) + 1 :=
  nd_le (by omega) (Nat.lt_of_le_of_lt (Int.natAbs_add_le a b) (add_lt10 (nd_lt a) (nd_lt b)))
theorem nd_mul (a b : Int) : nd (a * b) ≤ nd a + nd b := by
  refine nd_le (by have := dec_pos a.natAbs; unfold nd; omega) ?_
  rw [Int.natAbs_mul]
  exact mul_lt10 (nd_lt a) (nd_lt b)
theorem cmpI_add (a b c : Int) : cmpI (a + c) (b + c) = cmpI a b := by unfold cmpI; (repeat' split) <;> omega
theorem cmpI_swap (a b : Int) : IntKind.i64.wrap (-(cmpI b a)) = cmpI a b := by
  have : -(cmpI b a) = cmpI a b := by unfold cmpI; (repeat' split) <;> omega
  rw [this]
  exact IntWalk.i64_in _ (by unfold cmpI; (repeat' split) <;> omega)
/-- The slice of texts that a call with three of them makes. -/
theorem texts3 (w : World) (a b c : List UInt8) : Texts (w.alloc (.cells #[.string ⟨a.toArray⟩, .string ⟨b.toArray⟩, .string ⟨c.toArray⟩] 25)) (some ⟨w.heap.size, 0, none⟩) [a, b, c] := fun _ => by
  refine ⟨_, _, rfl, fun j l hj => ?_⟩
  match j, hj with
  | 0, hj => injection hj with hj; subst hj; simp [go_sem]
  | 1, hj => injection hj with hj; subst hj; simp [go_sem]
  | 2, hj => injection hj with hj; subst hj; simp [go_sem]
set_option maxRecDepth 100000 in
set_option maxHeartbeats 6400000 in
theorem lawRing_any (la lb lc : List UInt8) (w : World) (hT : Tab w) (ha : la.length ≤ 9223372036854775807) (hb : lb.length ≤ 9223372036854775807) (hc : lc.length ≤ 9223372036854775807) :
    Calls Tryd.prog 5 #[.string ⟨la.toArray⟩, .string ⟨lb.toArray⟩, .string ⟨lc.toArray⟩] w (Ret (.bool true) w) := by
  have HT := Lib.hid hT
  clear hT
  have HF := Lib.hid (fun w' => fits_any (some ⟨w'.heap.size, 0, none⟩) 3 [la, lb, lc] _ (texts3 w' la lb lc) (by simp) (by
    intro l hl
    simp at hl
    rcases hl with rfl | rfl | rfl <;> omega))
  rw [List.length_cons, List.length_cons, List.length_singleton] at HF
  obtain ⟨f, hf⟩ : ∃ f, [la, lb, lc].all fitV = f := ⟨_, rfl⟩
  rw [hf] at HF
  cases f
  · clear hf
    go_enter Tryd.func5, Tryd.ntmps5
    go_wp2_with fail
    (with_reducible refine (known_any _ (HT.out.of (by (repeat' (first | (with_reducible exact Below.refl _ _) | (with_reducible exact Nat.le_refl _) | (with_reducible refine Below.bel ?_ ?_) | (with_reducible refine Below.alloc ?_ ?_ _) | (with_reducible refine Below.drew ?_) | (with_reducible refine Below.drawsN ?_ _) | (with_reducible refine Below.setCell ?_ ?_ _) | (with_reducible refine le_bel ?_) | (with_reducible refine le_alloc ?_) | (with_reducible refine le_setCell ?_) | (with_reducible refine le_drew ?_) | (with_reducible refine le_drawsN ?_) | (dsimp only; with_reducible refine le_bel ?_) | (dsimp only; with_reducible refine Nat.le_refl _) | (dsimp only; with_reducible refine le_bel_add ?_) | (with_reducible assumption) | omega | (dsimp only; omega)))))).mono ?_)
    rintro _ _ ⟨rfl, x, rfl⟩
    have hxs := x.size_le
    go_wp2_with fail
    (with_reducible refine (HF.out _).mono ?_)
    rintro _ _ ⟨rfl, y, rfl⟩
    have hys := y.size_le
    simp at hys
    go_wp2_with fail
    (with_reducible refine (known_any _ (HT.out.of (by (repeat' (first | (with_reducible exact Below.refl _ _) | (with_reducible exact Nat.le_refl _) | (with_reducible refine Below.bel ?_ ?_) | (with_reducible refine Below.alloc ?_ ?_ _) | (with_reducible refine Below.drew ?_) | (with_reducible refine Below.drawsN ?_ _) | (with_reducible refine Below.setCell ?_ ?_ _) | (with_reducible refine le_bel ?_) | (with_reducible refine le_alloc ?_) | (with_reducible refine le_setCell ?_) | (with_reducible refine le_drew ?_) | (with_reducible refine le_drawsN ?_) | (dsimp only; with_reducible refine le_bel ?_) | (dsimp only; with_reducible refine Nat.le_refl _) | (dsimp only; with_reducible refine le_bel_add ?_) | (with_reducible assumption) | omega | (dsimp only; omega)))))).mono ?_)
    rintro _ _ ⟨rfl, z, rfl⟩
    go_wp2
    go_ret
    exact Ret.mk (by rfl) (by (repeat' (first | (with_reducible exact Below.refl _ _) | (with_reducible exact Nat.le_refl _) | (with_reducible refine Below.bel ?_ ?_) | (with_reducible refine Below.alloc ?_ ?_ _) | (with_reducible refine Below.drew ?_) | (with_reducible refine Below.drawsN ?_ _) | (with_reducible refine Below.setCell ?_ ?_ _) | (with_reducible refine le_bel ?_) | (with_reducible refine le_alloc ?_) | (with_reducible refine le_setCell ?_) | (with_reducible refine le_drew ?_) | (with_reducible refine le_drawsN ?_) | (dsimp only; with_reducible refine le_bel ?_) | (dsimp only; with_reducible refine Nat.le_refl _) | (dsimp only; with_reducible refine le_bel_add ?_) | (with_reducible assumption) | omega | (dsimp only; omega))))
  · have hf3 : fitV la = true ∧ fitV lb = true ∧ fitV lc = true := by simpa using hf
    obtain ⟨a, rfl, na⟩ := fitV_int hf3.1
    obtain ⟨b, rfl, nb⟩ := fitV_int hf3.2.1
    obtain ⟨c, rfl, nc⟩ := fitV_int hf3.2.2
    have n1 := nd_add a b
    have n2 := nd_add c b
    have n3 := nd_mul a c
    have n4 := nd_mul b c
    have n5 := nd_add a c
    have n6 := nd_add b c
    have HA1 := Lib.hid (fun w' hT => add_any a b w' (by omega) (by omega) hT)
    have HA2 := Lib.hid (fun w' hT => add_any (a + b) c w' (by omega) (by omega) hT)
    have HA3 := Lib.hid (fun w' hT => add_any c b w' (by omega) (by omega) hT)
    have HA4 := Lib.hid (fun w' hT => add_any a (c + b) w' (by omega) (by omega) hT)
    have HM1 := Lib.hid (fun w' hT => mul_any a b w' (by omega) (by omega) hT)
    have HM2 := Lib.hid (fun w' hT => mul_any b a w' (by omega) (by omega) hT)
    have HS := Lib.hid (fun w' hT => sub_any (a + b) b w' (by omega) (by omega) hT)
    have HM3 := Lib.hid (fun w' hT => mul_any (a + b) c w' (by omega) (by omega) hT)
    have HM4 := Lib.hid (fun w' hT => mul_any a c w' (by omega) (by omega) hT)
    have HM5 := Lib.hid (fun w' hT => mul_any b c w' (by omega) (by omega) hT)
    have HA5 := Lib.hid (fun w' hT => add_any (a * c) (b * c) w' (by omega) (by omega) hT)
    have HA6 := Lib.hid (fun w' hT => add_any a c w' (by omega) (by omega) hT)
    have HA7 := Lib.hid (fun w' hT => add_any b c w' (by omega) (by omega) hT)
    have HC1 := Lib.hid (fun w' => compareI_any (a + c) (b + c) w' (by omega) (by omega))
    have HC2 := Lib.hid (fun w' => compareI_any a b w' (by omega) (by omega))
    have HC3 := Lib.hid (fun w' => compareI_any b a w' (by omega) (by omega))
    have hsw := cmpI_swap a b
    rw [cmpI_add] at HC1
    rw [show a + (c + b) = a + b + c by omega] at HA4
    rw [Int.mul_comm b a] at HM2
    rw [show a + b - b = a by omega] at HS
    rw [← Int.add_mul] at HA5
    clear na nb nc n1 n2 n3 n4 n5 n6 hf3 hf ha hb hc
    generalize iT (a + b + c) = t1 at *
    generalize iT ((a + b) * c) = t8 at *
    generalize iT (a + b) = t2 at *
    generalize iT (c + b) = t3 at *
    generalize iT (a * b) = t4 at *
    generalize iT (a * c) = t5 at *
    generalize iT (b * c) = t6 at *
    generalize iT (a + c) = t7 at *
    generalize iT (b + c) = t9 at *
    generalize iT a = ta at *
    generalize iT b = tb at *
    generalize iT c = tc at *
    generalize cmpI a b = v at *
    generalize cmpI b a = u at *
    go_enter Tryd.func5, Tryd.ntmps5
    go_wp2_with fail
    (with_reducible refine (known_any _ (HT.out.of (by (repeat' (first | (with_reducible exact Below.refl _ _) | (with_reducible exact Nat.le_refl _) | (with_reducible refine Below.bel ?_ ?_) | (with_reducible refine Below.alloc ?_ ?_ _) | (with_reducible refine Below.drew ?_) | (with_reducible refine Below.drawsN ?_ _) | (with_reducible refine Below.setCell ?_ ?_ _) | (with_reducible refine le_bel ?_) | (with_reducible refine le_alloc ?_) | (with_reducible refine le_setCell ?_) | (with_reducible refine le_drew ?_) | (with_reducible refine le_drawsN ?_) | (dsimp only; with_reducible refine le_bel ?_) | (dsimp only; with_reducible refine Nat.le_refl _) | (dsimp only; with_reducible refine le_bel_add ?_) | (with_reducible assumption) | omega | (dsimp only; omega)))))).mono ?_)
    rintro _ _ ⟨rfl, x, rfl⟩
    have hxs := x.size_le
    go_wp2_with fail
    (with_reducible refine (HF.out _).mono ?_)
    rintro _ _ ⟨rfl, y, rfl⟩
    have hys := y.size_le
    simp at hys
    go_wp2_with fail
    (with_reducible refine (HA1.out _ (HT.out.of (by (repeat' (first | (with_reducible exact Below.refl _ _) | (with_reducible exact Nat.le_refl _) | (with_reducible refine Below.bel ?_ ?_) | (with_reducible refine Below.alloc ?_ ?_ _) | (with_reducible refine Below.drew ?_) | (with_reducible refine Below.drawsN ?_ _) | (with_reducible refine Below.setCell ?_ ?_ _) | (with_reducible refine le_bel ?_) | (with_reducible refine le_alloc ?_) | (with_reducible refine le_setCell ?_) | (with_reducible refine le_drew ?_) | (with_reducible refine le_drawsN ?_) | (dsimp only; with_reducible refine le_bel ?_) | (dsimp only; with_reducible refine Nat.le_refl _) | (dsimp only; with_reducible refine le_bel_add ?_) | (with_reducible assumption) | omega | (dsimp only; omega)))))).mono ?_)
    rintro _ _ ⟨rfl, z1, rfl⟩
    have h1 := z1.size_le
    go_wp2_with fail
    (with_reducible refine (HA2.out _ (HT.out.of (by (repeat' (first | (with_reducible exact Below.refl _ _) | (with_reducible exact Nat.le_refl _) | (with_reducible refine Below.bel ?_ ?_) | (with_reducible refine Below.alloc ?_ ?_ _) | (with_reducible refine Below.drew ?_) | (with_reducible refine Below.drawsN ?_ _) | (with_reducible refine Below.setCell ?_ ?_ _) | (with_reducible refine le_bel ?_) | (with_reducible refine le_alloc ?_) | (with_reducible refine le_setCell ?_) | (with_reducible refine le_drew ?_) | (with_reducible refine le_drawsN ?_) | (dsimp only; with_reducible refine le_bel ?_) | (dsimp only; with_reducible refine Nat.le_refl _) | (dsimp only; with_reducible refine le_bel_add ?_) | (with_reducible assumption) | omega | (dsimp only; omega)))))).mono ?_)
    rintro _ _ ⟨rfl, z2, rfl⟩
    have h2 := z2.size_le
    go_wp2_with fail
    (with_reducible refine (HA3.out _ (HT.out.of (by (repeat' (first | (with_reducible exact Below.refl _ _) | (with_reducible exact Nat.le_refl _) | (with_reducible refine Below.bel ?_ ?_) | (with_reducible refine Below.alloc ?_ ?_ _) | (with_reducible refine Below.drew ?_) | (with_reducible refine Below.drawsN ?_ _) | (with_reducible refine Below.setCell ?_ ?_ _) | (with_reducible refine le_bel ?_) | (with_reducible refine le_alloc ?_) | (with_reducible refine le_setCell ?_) | (with_reducible refine le_drew ?_) | (with_reducible refine le_drawsN ?_) | (dsimp only; with_reducible refine le_bel ?_) | (dsimp only; with_reducible refine Nat.le_refl _) | (dsimp only; with_reducible refine le_bel_add ?_) | (with_reducible assumption) | omega | (dsimp only; omega)))))).mono ?_)
    rintro _ _ ⟨rfl, z3, rfl⟩
    have h3 := z3.size_le
    go_wp2_with fail
    (with_reducible refine (HA4.out _ (HT.out.of (by (repeat' (first | (with_reducible exact Below.refl _ _) | (with_reducible exact Nat.le_refl _) | (with_reducible refine Below.bel ?_ ?_) | (with_reducible refine Below.alloc ?_ ?_ _) | (with_reducible refine Below.drew ?_) | (with_reducible refine Below.drawsN ?_ _) | (with_reducible refine Below.setCell ?_ ?_ _) | (with_reducible refine le_bel ?_) | (with_reducible refine le_alloc ?_) | (with_reducible refine le_setCell ?_) | (with_reducible refine le_drew ?_) | (with_reducible refine le_drawsN ?_) | (dsimp only; with_reducible refine le_bel ?_) | (dsimp only; with_reducible refine Nat.le_refl _) | (dsimp only; with_reducible refine le_bel_add ?_) | (with_reducible assumption) | omega | (dsimp only; omega)))))).mono ?_)
    rintro _ _ ⟨rfl, z4, rfl⟩
    have h4 := z4.size_le
    go_wp2_with fail
    (with_reducible refine (HM1.out _ (HT.out.of (by (repeat' (first | (with_reducible exact Below.refl _ _) | (with_reducible exact Nat.le_refl _) | (with_reducible refine Below.bel ?_ ?_) | (with_reducible refine Below.alloc ?_ ?_ _) | (with_reducible refine Below.drew ?_) | (with_reducible refine Below.drawsN ?_ _) | (with_reducible refine Below.setCell ?_ ?_ _) | (with_reducible refine le_bel ?_) | (with_reducible refine le_alloc ?_) | (with_reducible refine le_setCell ?_) | (with_reducible refine le_drew ?_) | (with_reducible refine le_drawsN ?_) | (dsimp only; with_reducible refine le_bel ?_) | (dsimp only; with_reducible refine Nat.le_refl _) | (dsimp only; with_reducible refine le_bel_add ?_) | (with_reducible assumption) | omega | (dsimp only; omega)))))).mono ?_)
    rintro _ _ ⟨rfl, z5, rfl⟩
    have h5 := z5.size_le
    go_wp2_with fail
    (with_reducible refine (HM2.out _ (HT.out.of (by (repeat' (first | (with_reducible exact Below.refl _ _) | (with_reducible exact Nat.le_refl _) | (with_reducible refine Below.bel ?_ ?_) | (with_reducible refine Below.alloc ?_ ?_ _) | (with_reducible refine Below.drew ?_) | (with_reducible refine Below.drawsN ?_ _) | (with_reducible refine Below.setCell ?_ ?_ _) | (with_reducible refine le_bel ?_) | (with_reducible refine le_alloc ?_) | (with_reducible refine le_setCell ?_) | (with_reducible refine le_drew ?_) | (with_reducible refine le_drawsN ?_) | (dsimp only; with_reducible refine le_bel ?_) | (dsimp only; with_reducible refine Nat.le_refl _) | (dsimp only; with_reducible refine le_bel_add ?_) | (with_reducible assumption) | omega | (dsimp only; omega)))))).mono ?_)
    rintro _ _ ⟨rfl, z6, rfl⟩
    have h6 := z6.size_le
    go_wp2_with fail
    (with_reducible refine (HS.out _ (HT.out.of (by (repeat' (first | (with_reducible exact Below.refl _ _) | (with_reducible exact Nat.le_refl _) | (with_reducible refine Below.bel ?_ ?_) | (with_reducible refine Below.alloc ?_ ?_ _) | (with_reducible refine Below.drew ?_) | (with_reducible refine Below.drawsN ?_ _) | (with_reducible refine Below.setCell ?_ ?_ _) | (with_reducible refine le_bel ?_) | (with_reducible refine le_alloc ?_) | (with_reducible refine le_setCell ?_) | (with_reducible refine le_drew ?_) | (with_reducible refine le_drawsN ?_) | (dsimp only; with_reducible refine le_bel ?_) | (dsimp only; with_reducible refine Nat.le_refl _) | (dsimp only; with_reducible refine le_bel_add ?_) | (with_reducible assumption) | omega | (dsimp only; omega)))))).mono ?_)
    rintro _ _ ⟨rfl, z7, rfl⟩
    have h7 := z7.size_le
    go_wp2_with fail
    (with_reducible refine (HM3.out _ (HT.out.of (by (repeat' (first | (with_reducible exact Below.refl _ _) | (with_reducible exact Nat.le_refl _) | (with_reducible refine Below.bel ?_ ?_) | (with_reducible refine Below.alloc ?_ ?_ _) | (with_reducible refine Below.drew ?_) | (with_reducible refine Below.drawsN ?_ _) | (with_reducible refine Below.setCell ?_ ?_ _) | (with_reducible refine le_bel ?_) | (with_reducible refine le_alloc ?_) | (with_reducible refine le_setCell ?_) | (with_reducible refine le_drew ?_) | (with_reducible refine le_drawsN ?_) | (dsimp only; with_reducible refine le_bel ?_) | (dsimp only; with_reducible refine Nat.le_refl _) | (dsimp only; with_reducible refine le_bel_add ?_) | (with_reducible assumption) | omega | (dsimp only; omega)))))).mono ?_)
    rintro _ _ ⟨rfl, z8, rfl⟩
    have h8 := z8.size_le
    go_wp2_with fail
    (with_reducible refine (HM4.out _ (HT.out.of (by (repeat' (first | (with_reducible exact Below.refl _ _) | (with_reducible exact Nat.le_refl _) | (with_reducible refine Below.bel ?_ ?_) | (with_reducible refine Below.alloc ?_ ?_ _) | (with_reducible refine Below.drew ?_) | (with_reducible refine Below.drawsN ?_ _) | (with_reducible refine Below.setCell ?_ ?_ _) | (with_reducible refine le_bel ?_) | (with_reducible refine le_alloc ?_) | (with_reducible refine le_setCell ?_) | (with_reducible refine le_drew ?_) | (with_reducible refine le_drawsN ?_) | (dsimp only; with_reducible refine le_bel ?_) | (dsimp only; with_reducible refine Nat.le_refl _) | (dsimp only; with_reducible refine le_bel_add ?_) | (with_reducible assumption) | omega | (dsimp only; omega)))))).mono ?_)
    rintro _ _ ⟨rfl, z9, rfl⟩
    have h9 := z9.size_le
    go_wp2_with fail
    (with_reducible refine (HM5.out _ (HT.out.of (by (repeat' (first | (with_reducible exact Below.refl _ _) | (with_reducible exact Nat.le_refl _) | (with_reducible refine Below.bel ?_ ?_) | (with_reducible refine Below.alloc ?_ ?_ _) | (with_reducible refine Below.drew ?_) | (with_reducible refine Below.drawsN ?_ _) | (with_reducible refine Below.setCell ?_ ?_ _) | (with_reducible refine le_bel ?_) | (with_reducible refine le_alloc ?_) | (with_reducible refine le_setCell ?_) | (with_reducible refine le_drew ?_) | (with_reducible refine le_drawsN ?_) | (dsimp only; with_reducible refine le_bel ?_) | (dsimp only; with_reducible refine Nat.le_refl _) | (dsimp only; with_reducible refine le_bel_add ?_) | (with_reducible assumption) | omega | (dsimp only; omega)))))).mono ?_)
    rintro _ _ ⟨rfl, z10, rfl⟩
    have h10 := z10.size_le
    go_wp2_with fail
    (with_reducible refine (HA5.out _ (HT.out.of (by (repeat' (first | (with_reducible exact Below.refl _ _) | (with_reducible exact Nat.le_refl _) | (with_reducible refine Below.bel ?_ ?_) | (with_reducible refine Below.alloc ?_ ?_ _) | (with_reducible refine Below.drew ?_) | (with_reducible refine Below.drawsN ?_ _) | (with_reducible refine Below.setCell ?_ ?_ _) | (with_reducible refine le_bel ?_) | (with_reducible refine le_alloc ?_) | (with_reducible refine le_setCell ?_) | (with_reducible refine le_drew ?_) | (with_reducible refine le_drawsN ?_) | (dsimp only; with_reducible refine le_bel ?_) | (dsimp only; with_reducible refine Nat.le_refl _) | (dsimp only; with_reducible refine le_bel_add ?_) | (with_reducible assumption) | omega | (dsimp only; omega)))))).mono ?_)
    rintro _ _ ⟨rfl, z11, rfl⟩
    have h11 := z11.size_le
    go_wp2_with fail
    (with_reducible refine (HA6.out _ (HT.out.of (by (repeat' (first | (with_reducible exact Below.refl _ _) | (with_reducible exact Nat.le_refl _) | (with_reducible refine Below.bel ?_ ?_) | (with_reducible refine Below.alloc ?_ ?_ _) | (with_reducible refine Below.drew ?_) | (with_reducible refine Below.drawsN ?_ _) | (with_reducible refine Below.setCell ?_ ?_ _) | (with_reducible refine le_bel ?_) | (with_reducible refine le_alloc ?_) | (with_reducible refine le_setCell ?_) | (with_reducible refine le_drew ?_) | (with_reducible refine le_drawsN ?_) | (dsimp only; with_reducible refine le_bel ?_) | (dsimp only; with_reducible refine Nat.le_refl _) | (dsimp only; with_reducible refine le_bel_add ?_) | (with_reducible assumption) | omega | (dsimp only; omega)))))).mono ?_)
    rintro _ _ ⟨rfl, z12, rfl⟩
    have h12 := z12.size_le
    go_wp2_with fail
    (with_reducible refine (HA7.out _ (HT.out.of (by (repeat' (first | (with_reducible exact Below.refl _ _) | (with_reducible exact Nat.le_refl _) | (with_reducible refine Below.bel ?_ ?_) | (with_reducible refine Below.alloc ?_ ?_ _) | (with_reducible refine Below.drew ?_) | (with_reducible refine Below.drawsN ?_ _) | (with_reducible refine Below.setCell ?_ ?_ _) | (with_reducible refine le_bel ?_) | (with_reducible refine le_alloc ?_) | (with_reducible refine le_setCell ?_) | (with_reducible refine le_drew ?_) | (with_reducible refine le_drawsN ?_) | (dsimp only; with_reducible refine le_bel ?_) | (dsimp only; with_reducible refine Nat.le_refl _) | (dsimp only; with_reducible refine le_bel_add ?_) | (with_reducible assumption) | omega | (dsimp only; omega)))))).mono ?_)
    rintro _ _ ⟨rfl, z13, rfl⟩
    have h13 := z13.size_le
    go_wp2_with fail
    (with_reducible refine (HC1.out _).mono ?_)
    rintro _ _ ⟨rfl, z14, rfl⟩
    have h14 := z14.size_le
    go_wp2_with fail
    (with_reducible refine (HC2.out _).mono ?_)
    rintro _ _ ⟨rfl, z15, rfl⟩
    have h15 := z15.size_le
    go_wp2_with fail
    (with_reducible refine (HC2.out _).mono ?_)
    rintro _ _ ⟨rfl, z16, rfl⟩
    have h16 := z16.size_le
    go_wp2_with fail
    (with_reducible refine (HC3.out _).mono ?_)
    rintro _ _ ⟨rfl, z17, rfl⟩
    have h17 := z17.size_le
    go_wp2
    go_ret
    exact Ret.mk (by simp) (by (repeat' (first | (with_reducible exact Below.refl _ _) | (with_reducible exact Nat.le_refl _) | (with_reducible refine Below.bel ?_ ?_) | (with_reducible refine Below.alloc ?_ ?_ _) | (with_reducible refine Below.drew ?_) | (with_reducible refine Below.drawsN ?_ _) | (with_reducible refine Below.setCell ?_ ?_ _) | (with_reducible refine le_bel ?_) | (with_reducible refine le_alloc ?_) | (with_reducible refine le_setCell ?_) | (with_reducible refine le_drew ?_) | (with_reducible refine le_drawsN ?_) | (dsimp only; with_reducible refine le_bel ?_) | (dsimp only; with_reducible refine Nat.le_refl _) | (dsimp only; with_reducible refine le_bel_add ?_) | (with_reducible assumption) | omega | (dsimp only; omega))))
end Go.Proofs.YteglfhmmkoahfaaDoor
