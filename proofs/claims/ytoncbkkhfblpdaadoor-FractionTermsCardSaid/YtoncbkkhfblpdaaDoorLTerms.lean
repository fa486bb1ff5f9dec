/- The law FractionTerms, walked. -/
import Derived.Test.YtoncbkkhfblpdaaDoorS3
import Derived.Test.YtoncbkkhfblpdaaDoorE
namespace Go.Proofs.YtoncbkkhfblpdaaDoor
open Go.RowKit
attribute [local go_sem low] Bel.cell Bel.frozen alloc_cell alloc_frozen

theorem ownI_slice {w : World} {base : Nat} {v : Value} {l : List Int} (h : OwnI w base v l) (hl : 0 < l.length) :
    ∃ g cap, v = .slice (some ⟨g, 0, none⟩) l.length cap ∧ l.length ≤ cap ∧ ∀ (i : Nat) (z : Int), l[i]? = some z → w.cell? ⟨g, i, none⟩ = some (.int .i64 z) := by
  rcases h.2 with ⟨rfl, h0⟩ | ⟨g, cap, cur, rfl, hb, hg, hc, hm, hs, ht⟩
  · omega
  · refine ⟨g, cap, rfl, hc, fun i z hz => ?_⟩
    have hil := (List.getElem?_eq_some_iff.1 hz).1
    have h1 : (intVs l)[i]? = some (.int .i64 z) := by unfold intVs; rw [List.getElem?_map, hz]; rfl
    simp [World.cell?, hg]
    have h2 : cur.toList.take (l.length * 1) = intVs l := ht
    rw [← h2, List.getElem?_take, if_pos (by omega)] at h1
    simpa using h1
theorem ints_of {w : World} {g : Nat} {l : List Int} (h : ∀ (i : Nat) (z : Int), l[i]? = some z → w.cell? ⟨g, i, none⟩ = some (.int .i64 z)) : Ints w g 0 l := by
  intro i z hz
  rw [Nat.zero_add]
  exact h i z hz

set_option maxHeartbeats 3200000 in
theorem fractionTerms_any (n d : Int) (w : World) (hT : Tab w) : Calls Tryd.prog 11 #[.agg #[.int .i64 n, .int .i64 d]] w (Ret (.bool true) w) := by
  have HT := Lib.hid hT
  clear hT
  by_cases h1 : right n d = true
  · have R1 := Lib.hid h1
    obtain ⟨hv, hl0, hl1⟩ := terms_value h1
    obtain ⟨T, hTT⟩ : ∃ T, T = termsL n d.toNat := ⟨_, rfl⟩
    have HTM := fun w' => terms_any n d w' h1
    have HRT := fun w' => refterms_any n d w' h1
    rw [← hTT] at hv hl0 hl1 HTM HRT
    clear h1 hTT
    have HV := Lib.hid hv
    clear hv
    go_enter Tryd.func11, Tryd.ntmps11
    go_wp2_with fail
    (with_reducible refine (known_any _ (HT.out.of (by (repeat' (first | (with_reducible exact Below.refl _ _) | (with_reducible exact Nat.le_refl _) | (with_reducible refine Below.bel ?_ ?_) | (with_reducible refine Below.alloc ?_ ?_ _) | (with_reducible refine Below.drew ?_) | (with_reducible refine Below.drawsN ?_ _) | (with_reducible refine Below.setCell ?_ ?_ _) | (with_reducible refine le_bel ?_) | (with_reducible refine le_alloc ?_) | (with_reducible refine le_setCell ?_) | (with_reducible refine le_drew ?_) | (with_reducible refine le_drawsN ?_) | (dsimp only; with_reducible refine le_bel ?_) | (dsimp only; with_reducible refine Nat.le_refl _) | (dsimp only; with_reducible refine le_bel_add ?_) | (with_reducible assumption) | omega | (dsimp only; omega)))))).mono ?_)
    rintro _ _ ⟨rfl, x1, rfl⟩
    go_wp2_with fail
    (with_reducible refine (right_any _ _ _).mono ?_)
    rintro _ _ ⟨rfl, x2, rfl⟩
    rw [R1.out]
    go_wp2_with fail
    (with_reducible refine (HTM _).mono ?_)
    rintro _ W1 ⟨v1, rfl, ho1, hB1⟩
    obtain ⟨g1, c1, rfl, hc1, hi1⟩ := ownI_slice ho1 hl0
    obtain ⟨x3, rfl⟩ : ∃ x : Bel x2.w, W1 = x.w := ⟨⟨W1, hB1⟩, rfl⟩
    have HI1 := Lib.hid hi1
    clear ho1 hi1 hB1
    go_wp2_with fail
    (with_reducible refine (HRT _).mono ?_)
    rintro _ W2 ⟨v2, rfl, ho2, hB2⟩
    obtain ⟨g2, c2, rfl, hc2, hi2⟩ := ownI_slice ho2 hl0
    obtain ⟨x4, rfl⟩ : ∃ x : Bel x3.w, W2 = x.w := ⟨⟨W2, hB2⟩, rfl⟩
    have HI2 := Lib.hid hi2
    clear ho2 hi2 hB2
    have hb3 := x3.below
    have hb4 := x4.below
    go_wp2
    go_loopw [6] (fun i wr => ∃ k : Nat, k ≤ T.length ∧ i = .int .i64 (k : Int) ∧ ∃ x : Bel x4.w, wr = x.w) (fun i _ => T.length - (intOf i).toNat)
    case atStart => exact ⟨0, by omega, rfl, ⟨_, Below.refl _ _⟩, rfl⟩
    case round =>
      obtain ⟨k, hk, rfl, x, rfl⟩ := hrel
      by_cases hlt : k < T.length
      · obtain ⟨z, hz⟩ : ∃ z, T[k]? = some z := ⟨_, List.getElem?_eq_getElem hlt⟩
        have hA := cell_keep hb4 (HI1.out k z hz)
        have hB := HI2.out k z hz
        clear hz
        go_wp2
        refine wp_region_bel (by kernel_rfl) (by kernel_rfl) ?_
        repeat (go_big_quiet_step (fail))
        refine wpQuiet_nil ?_
        rintro _ ⟨y, rfl⟩
        go_wp2
        go_roundw
        case rel => exact ⟨k + 1, by omega, by go_num, ⟨y.w, by (repeat' (first | (with_reducible exact Below.refl _ _) | (with_reducible exact Nat.le_refl _) | (with_reducible refine Below.bel ?_ ?_) | (with_reducible refine Below.alloc ?_ ?_ _) | (with_reducible refine Below.drew ?_) | (with_reducible refine Below.drawsN ?_ _) | (with_reducible refine Below.setCell ?_ ?_ _) | (with_reducible refine le_bel ?_) | (with_reducible refine le_alloc ?_) | (with_reducible refine le_setCell ?_) | (with_reducible refine le_drew ?_) | (with_reducible refine le_drawsN ?_) | (dsimp only; with_reducible refine le_bel ?_) | (dsimp only; with_reducible refine Nat.le_refl _) | (dsimp only; with_reducible refine le_bel_add ?_) | (with_reducible assumption) | omega | (dsimp only; omega)))⟩, by first | rfl | trivial⟩
        case measure => simp [intOf]; omega
      · have hx4 : ∀ (i : Nat) (z : Int), T[i]? = some z → x.w.cell? ⟨g1, i, none⟩ = some (.int .i64 z) := fun i z hz => cell_keep x.below (cell_keep hb4 (HI1.out i z hz))
        have HX := Lib.hid (ints_of hx4)
        clear hx4
        go_wp2_with fail
        (with_reducible refine (value_any _ g1 0 c1 T HX.out hl0 hl1 hc1).mono ?_)
        rintro _ _ ⟨rfl, y, rfl⟩
        rw [HV.out]
        go_wp2
        go_ret
        exact Ret.mk (by simp) (by (repeat' (first | (with_reducible exact Below.refl _ _) | (with_reducible exact Nat.le_refl _) | (with_reducible refine Below.bel ?_ ?_) | (with_reducible refine Below.alloc ?_ ?_ _) | (with_reducible refine Below.drew ?_) | (with_reducible refine Below.drawsN ?_ _) | (with_reducible refine Below.setCell ?_ ?_ _) | (with_reducible refine le_bel ?_) | (with_reducible refine le_alloc ?_) | (with_reducible refine le_setCell ?_) | (with_reducible refine le_drew ?_) | (with_reducible refine le_drawsN ?_) | (dsimp only; with_reducible refine le_bel ?_) | (dsimp only; with_reducible refine Nat.le_refl _) | (dsimp only; with_reducible refine le_bel_add ?_) | (with_reducible assumption) | omega | (dsimp only; omega))))
  · have R1 := Lib.hid (Bool.eq_false_iff.2 h1)
    clear h1
    go_enter Tryd.func11, Tryd.ntmps11
    go_wp2_with fail
    (with_reducible refine (known_any _ (HT.out.of (by (repeat' (first | (with_reducible exact Below.refl _ _) | (with_reducible exact Nat.le_refl _) | (with_reducible refine Below.bel ?_ ?_) | (with_reducible refine Below.alloc ?_ ?_ _) | (with_reducible refine Below.drew ?_) | (with_reducible refine Below.drawsN ?_ _) | (with_reducible refine Below.setCell ?_ ?_ _) | (with_reducible refine le_bel ?_) | (with_reducible refine le_alloc ?_) | (with_reducible refine le_setCell ?_) | (with_reducible refine le_drew ?_) | (with_reducible refine le_drawsN ?_) | (dsimp only; with_reducible refine le_bel ?_) | (dsimp only; with_reducible refine Nat.le_refl _) | (dsimp only; with_reducible refine le_bel_add ?_) | (with_reducible assumption) | omega | (dsimp only; omega)))))).mono ?_)
    rintro _ _ ⟨rfl, x1, rfl⟩
    go_wp2_with fail
    (with_reducible refine (right_any _ _ _).mono ?_)
    rintro _ _ ⟨rfl, y, rfl⟩
    rw [R1.out]
    go_wp2_with fail
    (with_reducible refine (known_any _ (HT.out.of (by (repeat' (first | (with_reducible exact Below.refl _ _) | (with_reducible exact Nat.le_refl _) | (with_reducible refine Below.bel ?_ ?_) | (with_reducible refine Below.alloc ?_ ?_ _) | (with_reducible refine Below.drew ?_) | (with_reducible refine Below.drawsN ?_ _) | (with_reducible refine Below.setCell ?_ ?_ _) | (with_reducible refine le_bel ?_) | (with_reducible refine le_alloc ?_) | (with_reducible refine le_setCell ?_) | (with_reducible refine le_drew ?_) | (with_reducible refine le_drawsN ?_) | (dsimp only; with_reducible refine le_bel ?_) | (dsimp only; with_reducible refine Nat.le_refl _) | (dsimp only; with_reducible refine le_bel_add ?_) | (with_reducible assumption) | omega | (dsimp only; omega)))))).mono ?_)
    rintro _ _ ⟨rfl, x2, rfl⟩
    go_wp2
    go_ret
    exact Ret.mk (by rfl) (by (repeat' (first | (with_reducible exact Below.refl _ _) | (with_reducible exact Nat.le_refl _) | (with_reducible refine Below.bel ?_ ?_) | (with_reducible refine Below.alloc ?_ ?_ _) | (with_reducible refine Below.drew ?_) | (with_reducible refine Below.drawsN ?_ _) | (with_reducible refine Below.setCell ?_ ?_ _) | (with_reducible refine le_bel ?_) | (with_reducible refine le_alloc ?_) | (with_reducible refine le_setCell ?_) | (with_reducible refine le_drew ?_) | (with_reducible refine le_drawsN ?_) | (dsimp only; with_reducible refine le_bel ?_) | (dsimp only; with_reducible refine Nat.le_refl _) | (dsimp only; with_reducible refine le_bel_add ?_) | (with_reducible assumption) | omega | (dsimp only; omega))))
end Go.Proofs.YtoncbkkhfblpdaaDoor
