/- DivMod, from what divide returns. -/
import Derived.Test.YteglfhmmkoahfaaGreatDoorM16
import Derived.Test.YteglfhmmkoahfaaGreatDoorM2
import Derived.Test.YteglfhmmkoahfaaGreatDoorM3
namespace Go.Proofs.YteglfhmmkoahfaaGreatDoor
open Go.RowKit Go.Shelf
attribute [local go_sem low] Bel.cell Bel.frozen alloc_cell alloc_frozen

/-- The quotient's and the rest's magnitudes. -/
def dmX (a b : Int) : Nat := if decide (a < 0) ≠ decide (b < 0) ∧ 0 < a.natAbs % b.natAbs then a.natAbs / b.natAbs + 1 else a.natAbs / b.natAbs
def dmY (a b : Int) : Nat := if decide (a < 0) ≠ decide (b < 0) ∧ 0 < a.natAbs % b.natAbs then b.natAbs - a.natAbs % b.natAbs else a.natAbs % b.natAbs
def dmQ (a b : Int) : Int := sg (decide (a < 0) != decide (b < 0)) (dmX a b)
def dmR (a b : Int) : Int := sg (decide (b < 0)) (dmY a b)
theorem lim_pos {n : Nat} : 0 < (lim n).length ↔ 0 < n := by
  have h : (lim n).length = 0 ↔ n = 0 := by rw [List.length_eq_zero_iff]; exact limbs_nil (by decide)
  omega
theorem divMod_zero (a : Int) (w : World) : Calls Tryz.prog 19 #[.string ⟨(iT a).toArray⟩, .string ⟨(iT 0).toArray⟩] w (Ret (.tuple #[.string ⟨#[]⟩, .string ⟨#[]⟩, .int .i64 17]) w) := by
  have hq := iT_is0 0
  rw [decide_eq_true rfl] at hq
  generalize iT 0 = t at *
  generalize iT a = s at *
  go_enter Tryz.func19, Tryz.ntmps19
  go_wp2
  refine bodyPost_ret (v := .tuple #[.string ⟨#[]⟩, .string ⟨#[]⟩, .int .i64 17]) (by simp [results, Tryz.results19, go_sem]) rfl (Ret.mk (by rfl) (by (repeat' (first | (with_reducible exact Below.refl _ _) | (with_reducible exact Nat.le_refl _) | (with_reducible refine Below.bel ?_ ?_) | (with_reducible refine Below.alloc ?_ ?_ _) | (with_reducible refine Below.drew ?_) | (with_reducible refine Below.drawsN ?_ _) | (with_reducible refine Below.setCell ?_ ?_ _) | (with_reducible refine le_bel ?_) | (with_reducible refine le_alloc ?_) | (with_reducible refine le_setCell ?_) | (with_reducible refine le_drew ?_) | (with_reducible refine le_drawsN ?_) | (dsimp only; with_reducible refine le_bel ?_) | (dsimp only; with_reducible refine Nat.le_refl _) | (dsimp only; with_reducible refine le_bel_add ?_) | (with_reducible assumption) | omega | (dsimp only; omega)))))
set_option maxRecDepth 100000 in
set_option maxHeartbeats 12800000 in
theorem divMod_of (a b : Int) (w : World) (ha : nd a ≤ 70000) (hb : nd b ≤ 70000) (hb0 : b ≠ 0) (hT : Tab w)
    (HD : ∀ (pa pb : Option Addr) (ca cb : Nat) (w' : World), Limbs w' pa (lim a.natAbs) → Limbs w' pb (lim b.natAbs) → Calls Tryz.prog 39 #[.slice pa (lim a.natAbs).length ca, .slice pb (lim b.natAbs).length cb] w' (DivRet w' (a.natAbs / b.natAbs) (a.natAbs % b.natAbs))) :
    Calls Tryz.prog 19 #[.string ⟨(iT a).toArray⟩, .string ⟨(iT b).toArray⟩] w (Ret (.tuple #[.string ⟨(iT (dmQ a b)).toArray⟩, .string ⟨(iT (dmR a b)).toArray⟩, .int .i64 0]) w) := by
  have HT := Lib.hid hT
  clear hT
  have HSa := Lib.hid (fun w' => split_any a w' (show nd a ≤ 80000 by omega))
  have HSb := Lib.hid (fun w' => split_any b w' (show nd b ≤ 80000 by omega))
  have HDV := Lib.hid HD
  clear HD
  have hq0 := iT_is0 b
  rw [decide_eq_false hb0] at hq0
  have hbp : 0 < b.natAbs := by omega
  have hrl : a.natAbs % b.natAbs < b.natAbs := Nat.mod_lt _ hbp
  have hql : a.natAbs / b.natAbs ≤ a.natAbs := Nat.div_le_self _ _
  have hna := nd_lt a
  have hnb := nd_lt b
  have hlb := lim_nd b (by omega)
  have hlq : (lim (a.natAbs / b.natAbs)).length ≤ 10000 := lim_le2 (Nat.lt_of_le_of_lt hql hna) (by omega)
  have hlq1 : (lim (a.natAbs / b.natAbs + 1)).length ≤ 10000 := lim_le2 (add_lt10 (Nat.lt_of_le_of_lt hql hna) (show 1 < 10 ^ 1 by decide)) (by omega)
  have hlr : (lim (a.natAbs % b.natAbs)).length ≤ 10000 := lim_le2 (Nat.lt_trans hrl hnb) (by omega)
  have hlr1 : (lim (b.natAbs - a.natAbs % b.natAbs)).length ≤ 10000 := lim_le2 (Nat.lt_of_le_of_lt (Nat.sub_le _ _) hnb) (by omega)
  have hX : dmX a b = dmX a b := rfl
  have hY : dmY a b = dmY a b := rfl
  conv at hX => rhs; unfold dmX
  conv at hY => rhs; unfold dmY
  unfold dmQ dmR
  have hl1 : lim 1 = [1] := lim_one (by decide) (by decide)
  have hrp := @lim_pos (a.natAbs % b.natAbs)
  obtain ⟨ma, hma⟩ : ∃ m, decide (a < 0) = m := ⟨_, rfl⟩
  obtain ⟨mb, hmb⟩ : ∃ m, decide (b < 0) = m := ⟨_, rfl⟩
  rw [hma] at HSa hX hY ⊢
  rw [hmb] at HSb hX hY ⊢
  clear hma hmb hna hnb hql
  obtain ⟨Q, hQ⟩ : ∃ Q, a.natAbs / b.natAbs = Q := ⟨_, rfl⟩
  obtain ⟨R, hR⟩ : ∃ R, a.natAbs % b.natAbs = R := ⟨_, rfl⟩
  rw [hQ] at HDV hX hlq hlq1
  rw [hR] at HDV hX hY hrl hlr hlr1 hrp
  clear hQ hR
  cases ma
  · cases mb
    · rw [if_neg (fun h => (absurd h.1 (by decide)))] at hX hY
      rw [hX, hY]
      have hrp0 : 0 < R ∨ (0 < (lim R).length) = False := by
        rcases Nat.eq_zero_or_pos R with h | h
        · exact .inr (eq_false (fun h2 => by have := hrp.1 h2; omega))
        · exact .inl h
      clear hrp hX hY
      skip
      go_enter Tryz.func19, Tryz.ntmps19
      go_wp2_with fail
      refine (HSa.out _).mono ?_
      rintro _ _ ⟨v1, rfl, y1, rfl, hv1⟩
      have hs1 := y1.size_le
      have hl1v := LV.own hv1
      obtain ⟨p1, c1, rfl, hL1⟩ := LV.own hv1
      dsimp only
      go_wp2_with fail
      refine (HSb.out _).mono ?_
      rintro _ _ ⟨v2, rfl, y2, rfl, hv2⟩
      have hs2 := y2.size_le
      obtain ⟨p2, c2, rfl, hL2⟩ := LV.own hv2
      have HL2 := Lib.hid hL2
      have HL1 := Lib.hid (limbs_of hL1 y2.below)
      clear hv1 hv2 hL1 hL2 hl1v
      dsimp only
      go_wp2_with fail
      refine (HDV.out _ _ _ _ _ HL1.out HL2.out).mono ?_
      rintro _ _ ⟨v3, v4, rfl, y3, rfl, hv3, hv4⟩
      have hs3 := y3.size_le
      obtain ⟨p3, c3, rfl, hL3⟩ := hv3
      obtain ⟨p4, c4, rfl, hL4⟩ := hv4
      have HL3 := Lib.hid hL3
      have HL4 := Lib.hid hL4
      have HLb := Lib.hid (limbs_of HL2.out y3.below)
      clear hL3 hL4
      dsimp only
      have HLX := HL3
      have HLY := HL4
      have hlX := hlq
      have hlY := hlr
      go_wp2_with fail
      refine (signed_any _ _ _ _ _ HLX.out hlX (HT.out.of (by (repeat' (first | (with_reducible exact Below.refl _ _) | (with_reducible exact Nat.le_refl _) | (with_reducible refine Below.bel ?_ ?_) | (with_reducible refine Below.alloc ?_ ?_ _) | (with_reducible refine Below.drew ?_) | (with_reducible refine Below.drawsN ?_ _) | (with_reducible refine Below.setCell ?_ ?_ _) | (with_reducible refine le_bel ?_) | (with_reducible refine le_alloc ?_) | (with_reducible refine le_setCell ?_) | (with_reducible refine le_drew ?_) | (with_reducible refine le_drawsN ?_) | (dsimp only; with_reducible refine le_bel ?_) | (dsimp only; with_reducible refine Nat.le_refl _) | (dsimp only; with_reducible refine le_bel_add ?_) | (with_reducible assumption) | omega | (dsimp only; omega)))))).mono ?_
      rintro _ _ ⟨rfl, z1, rfl⟩
      have hz1 := z1.size_le
      dsimp only
      go_wp2_with fail
      refine (signed_any _ _ _ _ _ (limbs_of HLY.out z1.below) hlY (HT.out.of (by (repeat' (first | (with_reducible exact Below.refl _ _) | (with_reducible exact Nat.le_refl _) | (with_reducible refine Below.bel ?_ ?_) | (with_reducible refine Below.alloc ?_ ?_ _) | (with_reducible refine Below.drew ?_) | (with_reducible refine Below.drawsN ?_ _) | (with_reducible refine Below.setCell ?_ ?_ _) | (with_reducible refine le_bel ?_) | (with_reducible refine le_alloc ?_) | (with_reducible refine le_setCell ?_) | (with_reducible refine le_drew ?_) | (with_reducible refine le_drawsN ?_) | (dsimp only; with_reducible refine le_bel ?_) | (dsimp only; with_reducible refine Nat.le_refl _) | (dsimp only; with_reducible refine le_bel_add ?_) | (with_reducible assumption) | omega | (dsimp only; omega)))))).mono ?_
      rintro _ _ ⟨rfl, z2, rfl⟩
      dsimp only
      go_wp2
      refine bodyPost_ret (v := .tuple #[.string ⟨(iT (sg false Q)).toArray⟩, .string ⟨(iT (sg false R)).toArray⟩, .int .i64 0]) (by simp [results, Tryz.results19, go_sem]) rfl (Ret.mk (by rfl) (by (repeat' (first | (with_reducible exact Below.refl _ _) | (with_reducible exact Nat.le_refl _) | (with_reducible refine Below.bel ?_ ?_) | (with_reducible refine Below.alloc ?_ ?_ _) | (with_reducible refine Below.drew ?_) | (with_reducible refine Below.drawsN ?_ _) | (with_reducible refine Below.setCell ?_ ?_ _) | (with_reducible refine le_bel ?_) | (with_reducible refine le_alloc ?_) | (with_reducible refine le_setCell ?_) | (with_reducible refine le_drew ?_) | (with_reducible refine le_drawsN ?_) | (dsimp only; with_reducible refine le_bel ?_) | (dsimp only; with_reducible refine Nat.le_refl _) | (dsimp only; with_reducible refine le_bel_add ?_) | (with_reducible assumption) | omega | (dsimp only; omega)))))
    · rcases Nat.eq_zero_or_pos R with hR0 | hR0
      · rw [if_neg (fun h => (by omega))] at hX hY
        rw [hX, hY]
        have hrp0 : 0 < R ∨ (0 < (lim R).length) = False := by
          rcases Nat.eq_zero_or_pos R with h | h
          · exact .inr (eq_false (fun h2 => by have := hrp.1 h2; omega))
          · exact .inl h
        clear hrp hX hY
        (replace hrp0 := hrp0.resolve_left (by omega); clear hR0)
        go_enter Tryz.func19, Tryz.ntmps19
        go_wp2_with fail
        refine (HSa.out _).mono ?_
        rintro _ _ ⟨v1, rfl, y1, rfl, hv1⟩
        have hs1 := y1.size_le
        have hl1v := LV.own hv1
        obtain ⟨p1, c1, rfl, hL1⟩ := LV.own hv1
        dsimp only
        go_wp2_with fail
        refine (HSb.out _).mono ?_
        rintro _ _ ⟨v2, rfl, y2, rfl, hv2⟩
        have hs2 := y2.size_le
        obtain ⟨p2, c2, rfl, hL2⟩ := LV.own hv2
        have HL2 := Lib.hid hL2
        have HL1 := Lib.hid (limbs_of hL1 y2.below)
        clear hv1 hv2 hL1 hL2 hl1v
        dsimp only
        go_wp2_with fail
        refine (HDV.out _ _ _ _ _ HL1.out HL2.out).mono ?_
        rintro _ _ ⟨v3, v4, rfl, y3, rfl, hv3, hv4⟩
        have hs3 := y3.size_le
        obtain ⟨p3, c3, rfl, hL3⟩ := hv3
        obtain ⟨p4, c4, rfl, hL4⟩ := hv4
        have HL3 := Lib.hid hL3
        have HL4 := Lib.hid hL4
        have HLb := Lib.hid (limbs_of HL2.out y3.below)
        clear hL3 hL4
        dsimp only
        have HLX := HL3
        have HLY := HL4
        have hlX := hlq
        have hlY := hlr
        go_wp2_with fail
        refine (signed_any _ _ _ _ _ HLX.out hlX (HT.out.of (by (repeat' (first | (with_reducible exact Below.refl _ _) | (with_reducible exact Nat.le_refl _) | (with_reducible refine Below.bel ?_ ?_) | (with_reducible refine Below.alloc ?_ ?_ _) | (with_reducible refine Below.drew ?_) | (with_reducible refine Below.drawsN ?_ _) | (with_reducible refine Below.setCell ?_ ?_ _) | (with_reducible refine le_bel ?_) | (with_reducible refine le_alloc ?_) | (with_reducible refine le_setCell ?_) | (with_reducible refine le_drew ?_) | (with_reducible refine le_drawsN ?_) | (dsimp only; with_reducible refine le_bel ?_) | (dsimp only; with_reducible refine Nat.le_refl _) | (dsimp only; with_reducible refine le_bel_add ?_) | (with_reducible assumption) | omega | (dsimp only; omega)))))).mono ?_
        rintro _ _ ⟨rfl, z1, rfl⟩
        have hz1 := z1.size_le
        dsimp only
        go_wp2_with fail
        refine (signed_any _ _ _ _ _ (limbs_of HLY.out z1.below) hlY (HT.out.of (by (repeat' (first | (with_reducible exact Below.refl _ _) | (with_reducible exact Nat.le_refl _) | (with_reducible refine Below.bel ?_ ?_) | (with_reducible refine Below.alloc ?_ ?_ _) | (with_reducible refine Below.drew ?_) | (with_reducible refine Below.drawsN ?_ _) | (with_reducible refine Below.setCell ?_ ?_ _) | (with_reducible refine le_bel ?_) | (with_reducible refine le_alloc ?_) | (with_reducible refine le_setCell ?_) | (with_reducible refine le_drew ?_) | (with_reducible refine le_drawsN ?_) | (dsimp only; with_reducible refine le_bel ?_) | (dsimp only; with_reducible refine Nat.le_refl _) | (dsimp only; with_reducible refine le_bel_add ?_) | (with_reducible assumption) | omega | (dsimp only; omega)))))).mono ?_
        rintro _ _ ⟨rfl, z2, rfl⟩
        dsimp only
        go_wp2
        refine bodyPost_ret (v := .tuple #[.string ⟨(iT (sg true Q)).toArray⟩, .string ⟨(iT (sg true R)).toArray⟩, .int .i64 0]) (by simp [results, Tryz.results19, go_sem]) rfl (Ret.mk (by rfl) (by (repeat' (first | (with_reducible exact Below.refl _ _) | (with_reducible exact Nat.le_refl _) | (with_reducible refine Below.bel ?_ ?_) | (with_reducible refine Below.alloc ?_ ?_ _) | (with_reducible refine Below.drew ?_) | (with_reducible refine Below.drawsN ?_ _) | (with_reducible refine Below.setCell ?_ ?_ _) | (with_reducible refine le_bel ?_) | (with_reducible refine le_alloc ?_) | (with_reducible refine le_setCell ?_) | (with_reducible refine le_drew ?_) | (with_reducible refine le_drawsN ?_) | (dsimp only; with_reducible refine le_bel ?_) | (dsimp only; with_reducible refine Nat.le_refl _) | (dsimp only; with_reducible refine le_bel_add ?_) | (with_reducible assumption) | omega | (dsimp only; omega)))))
      · rw [if_pos ⟨by decide, hR0⟩] at hX hY
        rw [hX, hY]
        have hrp1 : (0 < (lim R).length) = True := eq_true (hrp.2 hR0)
        clear hrp hX hY
        go_enter Tryz.func19, Tryz.ntmps19
        go_wp2_with fail
        refine (HSa.out _).mono ?_
        rintro _ _ ⟨v1, rfl, y1, rfl, hv1⟩
        have hs1 := y1.size_le
        have hl1v := LV.own hv1
        obtain ⟨p1, c1, rfl, hL1⟩ := LV.own hv1
        dsimp only
        go_wp2_with fail
        refine (HSb.out _).mono ?_
        rintro _ _ ⟨v2, rfl, y2, rfl, hv2⟩
        have hs2 := y2.size_le
        obtain ⟨p2, c2, rfl, hL2⟩ := LV.own hv2
        have HL2 := Lib.hid hL2
        have HL1 := Lib.hid (limbs_of hL1 y2.below)
        clear hv1 hv2 hL1 hL2 hl1v
        dsimp only
        go_wp2_with fail
        refine (HDV.out _ _ _ _ _ HL1.out HL2.out).mono ?_
        rintro _ _ ⟨v3, v4, rfl, y3, rfl, hv3, hv4⟩
        have hs3 := y3.size_le
        obtain ⟨p3, c3, rfl, hL3⟩ := hv3
        obtain ⟨p4, c4, rfl, hL4⟩ := hv4
        have HL3 := Lib.hid hL3
        have HL4 := Lib.hid hL4
        have HLb := Lib.hid (limbs_of HL2.out y3.below)
        clear hL3 hL4
        dsimp only
        have HO1 := Lib.hid (show Limbs (y3.w.alloc (.cells #[.int .u64 1] 59)) (some ⟨y3.w.heap.size, 0, none⟩) (lim 1) by
          rw [hl1]
          intro _
          exact ⟨_, 0, rfl, fun j x hj => by
            rcases j with _ | j
            · cases hj; simp [go_sem]
            · simp at hj⟩)
        have HP := Lib.hid (plus_any p3 (some ⟨y3.w.heap.size, 0, none⟩) c3 1 Q 1 _ (limbs_of HL3.out (by (repeat' (first | (with_reducible exact Below.refl _ _) | (with_reducible exact Nat.le_refl _) | (with_reducible refine Below.bel ?_ ?_) | (with_reducible refine Below.alloc ?_ ?_ _) | (with_reducible refine Below.drew ?_) | (with_reducible refine Below.drawsN ?_ _) | (with_reducible refine Below.setCell ?_ ?_ _) | (with_reducible refine le_bel ?_) | (with_reducible refine le_alloc ?_) | (with_reducible refine le_setCell ?_) | (with_reducible refine le_drew ?_) | (with_reducible refine le_drawsN ?_) | (dsimp only; with_reducible refine le_bel ?_) | (dsimp only; with_reducible refine Nat.le_refl _) | (dsimp only; with_reducible refine le_bel_add ?_) | (with_reducible assumption) | omega | (dsimp only; omega))))) HO1.out hlq (by rw [hl1]; simp))
        rw [hl1, List.length_singleton] at HP
        go_wp2_with fail
        refine HP.out.mono ?_
        rintro _ _ ⟨v5, rfl, y5, rfl, hv5⟩
        have hs5 := y5.size_le
        simp at hs5
        obtain ⟨p5, c5, rfl, hL5⟩ := LV.own hv5
        have HLb5 := Lib.hid (limbs_of HLb.out (show Below y3.w.heap.size y3.w y5.w by (repeat' (first | (with_reducible exact Below.refl _ _) | (with_reducible exact Nat.le_refl _) | (with_reducible refine Below.bel ?_ ?_) | (with_reducible refine Below.alloc ?_ ?_ _) | (with_reducible refine Below.drew ?_) | (with_reducible refine Below.drawsN ?_ _) | (with_reducible refine Below.setCell ?_ ?_ _) | (with_reducible refine le_bel ?_) | (with_reducible refine le_alloc ?_) | (with_reducible refine le_setCell ?_) | (with_reducible refine le_drew ?_) | (with_reducible refine le_drawsN ?_) | (dsimp only; with_reducible refine le_bel ?_) | (dsimp only; with_reducible refine Nat.le_refl _) | (dsimp only; with_reducible refine le_bel_add ?_) | (with_reducible assumption) | omega | (dsimp only; omega)))))
        have HL45 := Lib.hid (limbs_of HL4.out (show Below y3.w.heap.size y3.w y5.w by (repeat' (first | (with_reducible exact Below.refl _ _) | (with_reducible exact Nat.le_refl _) | (with_reducible refine Below.bel ?_ ?_) | (with_reducible refine Below.alloc ?_ ?_ _) | (with_reducible refine Below.drew ?_) | (with_reducible refine Below.drawsN ?_ _) | (with_reducible refine Below.setCell ?_ ?_ _) | (with_reducible refine le_bel ?_) | (with_reducible refine le_alloc ?_) | (with_reducible refine le_setCell ?_) | (with_reducible refine le_drew ?_) | (with_reducible refine le_drawsN ?_) | (dsimp only; with_reducible refine le_bel ?_) | (dsimp only; with_reducible refine Nat.le_refl _) | (dsimp only; with_reducible refine le_bel_add ?_) | (with_reducible assumption) | omega | (dsimp only; omega)))))
        clear hv5
        dsimp only
        go_wp2_with fail
        refine (less_any _ _ _ _ _ _ _ HLb5.out HL45.out hlb (by omega)).mono ?_
        rintro _ _ ⟨v6, rfl, y6, rfl, hv6⟩
        have hs6 := y6.size_le
        obtain ⟨p6, c6, rfl, hL6⟩ := LV.own hv6
        have HLX := Lib.hid (limbs_of hL5 y6.below)
        have HLY := Lib.hid hL6
        have hlX := hlq1
        have hlY := hlr1
        clear hv6 hL5 hL6
        dsimp only
        go_wp2_with fail
        refine (signed_any _ _ _ _ _ HLX.out hlX (HT.out.of (by (repeat' (first | (with_reducible exact Below.refl _ _) | (with_reducible exact Nat.le_refl _) | (with_reducible refine Below.bel ?_ ?_) | (with_reducible refine Below.alloc ?_ ?_ _) | (with_reducible refine Below.drew ?_) | (with_reducible refine Below.drawsN ?_ _) | (with_reducible refine Below.setCell ?_ ?_ _) | (with_reducible refine le_bel ?_) | (with_reducible refine le_alloc ?_) | (with_reducible refine le_setCell ?_) | (with_reducible refine le_drew ?_) | (with_reducible refine le_drawsN ?_) | (dsimp only; with_reducible refine le_bel ?_) | (dsimp only; with_reducible refine Nat.le_refl _) | (dsimp only; with_reducible refine le_bel_add ?_) | (with_reducible assumption) | omega | (dsimp only; omega)))))).mono ?_
        rintro _ _ ⟨rfl, z1, rfl⟩
        have hz1 := z1.size_le
        dsimp only
        go_wp2_with fail
        refine (signed_any _ _ _ _ _ (limbs_of HLY.out z1.below) hlY (HT.out.of (by (repeat' (first | (with_reducible exact Below.refl _ _) | (with_reducible exact Nat.le_refl _) | (with_reducible refine Below.bel ?_ ?_) | (with_reducible refine Below.alloc ?_ ?_ _) | (with_reducible refine Below.drew ?_) | (with_reducible refine Below.drawsN ?_ _) | (with_reducible refine Below.setCell ?_ ?_ _) | (with_reducible refine le_bel ?_) | (with_reducible refine le_alloc ?_) | (with_reducible refine le_setCell ?_) | (with_reducible refine le_drew ?_) | (with_reducible refine le_drawsN ?_) | (dsimp only; with_reducible refine le_bel ?_) | (dsimp only; with_reducible refine Nat.le_refl _) | (dsimp only; with_reducible refine le_bel_add ?_) | (with_reducible assumption) | omega | (dsimp only; omega)))))).mono ?_
        rintro _ _ ⟨rfl, z2, rfl⟩
        dsimp only
        go_wp2
        refine bodyPost_ret (v := .tuple #[.string ⟨(iT (sg true (Q + 1))).toArray⟩, .string ⟨(iT (sg true (b.natAbs - R))).toArray⟩, .int .i64 0]) (by simp [results, Tryz.results19, go_sem]) rfl (Ret.mk (by rfl) (by (repeat' (first | (with_reducible exact Below.refl _ _) | (with_reducible exact Nat.le_refl _) | (with_reducible refine Below.bel ?_ ?_) | (with_reducible refine Below.alloc ?_ ?_ _) | (with_reducible refine Below.drew ?_) | (with_reducible refine Below.drawsN ?_ _) | (with_reducible refine Below.setCell ?_ ?_ _) | (with_reducible refine le_bel ?_) | (with_reducible refine le_alloc ?_) | (with_reducible refine le_setCell ?_) | (with_reducible refine le_drew ?_) | (with_reducible refine le_drawsN ?_) | (dsimp only; with_reducible refine le_bel ?_) | (dsimp only; with_reducible refine Nat.le_refl _) | (dsimp only; with_reducible refine le_bel_add ?_) | (with_reducible assumption) | omega | (dsimp only; omega)))))
  · cases mb
    · rcases Nat.eq_zero_or_pos R with hR0 | hR0
      · rw [if_neg (fun h => (by omega))] at hX hY
        rw [hX, hY]
        have hrp0 : 0 < R ∨ (0 < (lim R).length) = False := by
          rcases Nat.eq_zero_or_pos R with h | h
          · exact .inr (eq_false (fun h2 => by have := hrp.1 h2; omega))
          · exact .inl h
        clear hrp hX hY
        (replace hrp0 := hrp0.resolve_left (by omega); clear hR0)
        go_enter Tryz.func19, Tryz.ntmps19
        go_wp2_with fail
        refine (HSa.out _).mono ?_
        rintro _ _ ⟨v1, rfl, y1, rfl, hv1⟩
        have hs1 := y1.size_le
        have hl1v := LV.own hv1
        obtain ⟨p1, c1, rfl, hL1⟩ := LV.own hv1
        dsimp only
        go_wp2_with fail
        refine (HSb.out _).mono ?_
        rintro _ _ ⟨v2, rfl, y2, rfl, hv2⟩
        have hs2 := y2.size_le
        obtain ⟨p2, c2, rfl, hL2⟩ := LV.own hv2
        have HL2 := Lib.hid hL2
        have HL1 := Lib.hid (limbs_of hL1 y2.below)
        clear hv1 hv2 hL1 hL2 hl1v
        dsimp only
        go_wp2_with fail
        refine (HDV.out _ _ _ _ _ HL1.out HL2.out).mono ?_
        rintro _ _ ⟨v3, v4, rfl, y3, rfl, hv3, hv4⟩
        have hs3 := y3.size_le
        obtain ⟨p3, c3, rfl, hL3⟩ := hv3
        obtain ⟨p4, c4, rfl, hL4⟩ := hv4
        have HL3 := Lib.hid hL3
        have HL4 := Lib.hid hL4
        have HLb := Lib.hid (limbs_of HL2.out y3.below)
        clear hL3 hL4
        dsimp only
        have HLX := HL3
        have HLY := HL4
        have hlX := hlq
        have hlY := hlr
        go_wp2_with fail
        refine (signed_any _ _ _ _ _ HLX.out hlX (HT.out.of (by (repeat' (first | (with_reducible exact Below.refl _ _) | (with_reducible exact Nat.le_refl _) | (with_reducible refine Below.bel ?_ ?_) | (with_reducible refine Below.alloc ?_ ?_ _) | (with_reducible refine Below.drew ?_) | (with_reducible refine Below.drawsN ?_ _) | (with_reducible refine Below.setCell ?_ ?_ _) | (with_reducible refine le_bel ?_) | (with_reducible refine le_alloc ?_) | (with_reducible refine le_setCell ?_) | (with_reducible refine le_drew ?_) | (with_reducible refine le_drawsN ?_) | (dsimp only; with_reducible refine le_bel ?_) | (dsimp only; with_reducible refine Nat.le_refl _) | (dsimp only; with_reducible refine le_bel_add ?_) | (with_reducible assumption) | omega | (dsimp only; omega)))))).mono ?_
        rintro _ _ ⟨rfl, z1, rfl⟩
        have hz1 := z1.size_le
        dsimp only
        go_wp2_with fail
        refine (signed_any _ _ _ _ _ (limbs_of HLY.out z1.below) hlY (HT.out.of (by (repeat' (first | (with_reducible exact Below.refl _ _) | (with_reducible exact Nat.le_refl _) | (with_reducible refine Below.bel ?_ ?_) | (with_reducible refine Below.alloc ?_ ?_ _) | (with_reducible refine Below.drew ?_) | (with_reducible refine Below.drawsN ?_ _) | (with_reducible refine Below.setCell ?_ ?_ _) | (with_reducible refine le_bel ?_) | (with_reducible refine le_alloc ?_) | (with_reducible refine le_setCell ?_) | (with_reducible refine le_drew ?_) | (with_reducible refine le_drawsN ?_) | (dsimp only; with_reducible refine le_bel ?_) | (dsimp only; with_reducible refine Nat.le_refl _) | (dsimp only; with_reducible refine le_bel_add ?_) | (with_reducible assumption) | omega | (dsimp only; omega)))))).mono ?_
        rintro _ _ ⟨rfl, z2, rfl⟩
        dsimp only
        go_wp2
        refine bodyPost_ret (v := .tuple #[.string ⟨(iT (sg true Q)).toArray⟩, .string ⟨(iT (sg false R)).toArray⟩, .int .i64 0]) (by simp [results, Tryz.results19, go_sem]) rfl (Ret.mk (by rfl) (by (repeat' (first | (with_reducible exact Below.refl _ _) | (with_reducible exact Nat.le_refl _) | (with_reducible refine Below.bel ?_ ?_) | (with_reducible refine Below.alloc ?_ ?_ _) | (with_reducible refine Below.drew ?_) | (with_reducible refine Below.drawsN ?_ _) | (with_reducible refine Below.setCell ?_ ?_ _) | (with_reducible refine le_bel ?_) | (with_reducible refine le_alloc ?_) | (with_reducible refine le_setCell ?_) | (with_reducible refine le_drew ?_) | (with_reducible refine le_drawsN ?_) | (dsimp only; with_reducible refine le_bel ?_) | (dsimp only; with_reducible refine Nat.le_refl _) | (dsimp only; with_reducible refine le_bel_add ?_) | (with_reducible assumption) | omega | (dsimp only; omega)))))
      · rw [if_pos ⟨by decide, hR0⟩] at hX hY
        rw [hX, hY]
        have hrp1 : (0 < (lim R).length) = True := eq_true (hrp.2 hR0)
        clear hrp hX hY
        go_enter Tryz.func19, Tryz.ntmps19
        go_wp2_with fail
        refine (HSa.out _).mono ?_
        rintro _ _ ⟨v1, rfl, y1, rfl, hv1⟩
        have hs1 := y1.size_le
        have hl1v := LV.own hv1
        obtain ⟨p1, c1, rfl, hL1⟩ := LV.own hv1
        dsimp only
        go_wp2_with fail
        refine (HSb.out _).mono ?_
        rintro _ _ ⟨v2, rfl, y2, rfl, hv2⟩
        have hs2 := y2.size_le
        obtain ⟨p2, c2, rfl, hL2⟩ := LV.own hv2
        have HL2 := Lib.hid hL2
        have HL1 := Lib.hid (limbs_of hL1 y2.below)
        clear hv1 hv2 hL1 hL2 hl1v
        dsimp only
        go_wp2_with fail
        refine (HDV.out _ _ _ _ _ HL1.out HL2.out).mono ?_
        rintro _ _ ⟨v3, v4, rfl, y3, rfl, hv3, hv4⟩
        have hs3 := y3.size_le
        obtain ⟨p3, c3, rfl, hL3⟩ := hv3
        obtain ⟨p4, c4, rfl, hL4⟩ := hv4
        have HL3 := Lib.hid hL3
        have HL4 := Lib.hid hL4
        have HLb := Lib.hid (limbs_of HL2.out y3.below)
        clear hL3 hL4
        dsimp only
        have HO1 := Lib.hid (show Limbs (y3.w.alloc (.cells #[.int .u64 1] 59)) (some ⟨y3.w.heap.size, 0, none⟩) (lim 1) by
          rw [hl1]
          intro _
          exact ⟨_, 0, rfl, fun j x hj => by
            rcases j with _ | j
            · cases hj; simp [go_sem]
            · simp at hj⟩)
        have HP := Lib.hid (plus_any p3 (some ⟨y3.w.heap.size, 0, none⟩) c3 1 Q 1 _ (limbs_of HL3.out (by (repeat' (first | (with_reducible exact Below.refl _ _) | (with_reducible exact Nat.le_refl _) | (with_reducible refine Below.bel ?_ ?_) | (with_reducible refine Below.alloc ?_ ?_ _) | (with_reducible refine Below.drew ?_) | (with_reducible refine Below.drawsN ?_ _) | (with_reducible refine Below.setCell ?_ ?_ _) | (with_reducible refine le_bel ?_) | (with_reducible refine le_alloc ?_) | (with_reducible refine le_setCell ?_) | (with_reducible refine le_drew ?_) | (with_reducible refine le_drawsN ?_) | (dsimp only; with_reducible refine le_bel ?_) | (dsimp only; with_reducible refine Nat.le_refl _) | (dsimp only; with_reducible refine le_bel_add ?_) | (with_reducible assumption) | omega | (dsimp only; omega))))) HO1.out hlq (by rw [hl1]; simp))
        rw [hl1, List.length_singleton] at HP
        go_wp2_with fail
        refine HP.out.mono ?_
        rintro _ _ ⟨v5, rfl, y5, rfl, hv5⟩
        have hs5 := y5.size_le
        simp at hs5
        obtain ⟨p5, c5, rfl, hL5⟩ := LV.own hv5
        have HLb5 := Lib.hid (limbs_of HLb.out (show Below y3.w.heap.size y3.w y5.w by (repeat' (first | (with_reducible exact Below.refl _ _) | (with_reducible exact Nat.le_refl _) | (with_reducible refine Below.bel ?_ ?_) | (with_reducible refine Below.alloc ?_ ?_ _) | (with_reducible refine Below.drew ?_) | (with_reducible refine Below.drawsN ?_ _) | (with_reducible refine Below.setCell ?_ ?_ _) | (with_reducible refine le_bel ?_) | (with_reducible refine le_alloc ?_) | (with_reducible refine le_setCell ?_) | (with_reducible refine le_drew ?_) | (with_reducible refine le_drawsN ?_) | (dsimp only; with_reducible refine le_bel ?_) | (dsimp only; with_reducible refine Nat.le_refl _) | (dsimp only; with_reducible refine le_bel_add ?_) | (with_reducible assumption) | omega | (dsimp only; omega)))))
        have HL45 := Lib.hid (limbs_of HL4.out (show Below y3.w.heap.size y3.w y5.w by (repeat' (first | (with_reducible exact Below.refl _ _) | (with_reducible exact Nat.le_refl _) | (with_reducible refine Below.bel ?_ ?_) | (with_reducible refine Below.alloc ?_ ?_ _) | (with_reducible refine Below.drew ?_) | (with_reducible refine Below.drawsN ?_ _) | (with_reducible refine Below.setCell ?_ ?_ _) | (with_reducible refine le_bel ?_) | (with_reducible refine le_alloc ?_) | (with_reducible refine le_setCell ?_) | (with_reducible refine le_drew ?_) | (with_reducible refine le_drawsN ?_) | (dsimp only; with_reducible refine le_bel ?_) | (dsimp only; with_reducible refine Nat.le_refl _) | (dsimp only; with_reducible refine le_bel_add ?_) | (with_reducible assumption) | omega | (dsimp only; omega)))))
        clear hv5
        dsimp only
        go_wp2_with fail
        refine (less_any _ _ _ _ _ _ _ HLb5.out HL45.out hlb (by omega)).mono ?_
        rintro _ _ ⟨v6, rfl, y6, rfl, hv6⟩
        have hs6 := y6.size_le
        obtain ⟨p6, c6, rfl, hL6⟩ := LV.own hv6
        have HLX := Lib.hid (limbs_of hL5 y6.below)
        have HLY := Lib.hid hL6
        have hlX := hlq1
        have hlY := hlr1
        clear hv6 hL5 hL6
        dsimp only
        go_wp2_with fail
        refine (signed_any _ _ _ _ _ HLX.out hlX (HT.out.of (by (repeat' (first | (with_reducible exact Below.refl _ _) | (with_reducible exact Nat.le_refl _) | (with_reducible refine Below.bel ?_ ?_) | (with_reducible refine Below.alloc ?_ ?_ _) | (with_reducible refine Below.drew ?_) | (with_reducible refine Below.drawsN ?_ _) | (with_reducible refine Below.setCell ?_ ?_ _) | (with_reducible refine le_bel ?_) | (with_reducible refine le_alloc ?_) | (with_reducible refine le_setCell ?_) | (with_reducible refine le_drew ?_) | (with_reducible refine le_drawsN ?_) | (dsimp only; with_reducible refine le_bel ?_) | (dsimp only; with_reducible refine Nat.le_refl _) | (dsimp only; with_reducible refine le_bel_add ?_) | (with_reducible assumption) | omega | (dsimp only; omega)))))).mono ?_
        rintro _ _ ⟨rfl, z1, rfl⟩
        have hz1 := z1.size_le
        dsimp only
        go_wp2_with fail
        refine (signed_any _ _ _ _ _ (limbs_of HLY.out z1.below) hlY (HT.out.of (by (repeat' (first | (with_reducible exact Below.refl _ _) | (with_reducible exact Nat.le_refl _) | (with_reducible refine Below.bel ?_ ?_) | (with_reducible refine Below.alloc ?_ ?_ _) | (with_reducible refine Below.drew ?_) | (with_reducible refine Below.drawsN ?_ _) | (with_reducible refine Below.setCell ?_ ?_ _) | (with_reducible refine le_bel ?_) | (with_reducible refine le_alloc ?_) | (with_reducible refine le_setCell ?_) | (with_reducible refine le_drew ?_) | (with_reducible refine le_drawsN ?_) | (dsimp only; with_reducible refine le_bel ?_) | (dsimp only; with_reducible refine Nat.le_refl _) | (dsimp only; with_reducible refine le_bel_add ?_) | (with_reducible assumption) | omega | (dsimp only; omega)))))).mono ?_
        rintro _ _ ⟨rfl, z2, rfl⟩
        dsimp only
        go_wp2
        refine bodyPost_ret (v := .tuple #[.string ⟨(iT (sg true (Q + 1))).toArray⟩, .string ⟨(iT (sg false (b.natAbs - R))).toArray⟩, .int .i64 0]) (by simp [results, Tryz.results19, go_sem]) rfl (Ret.mk (by rfl) (by (repeat' (first | (with_reducible exact Below.refl _ _) | (with_reducible exact Nat.le_refl _) | (with_reducible refine Below.bel ?_ ?_) | (with_reducible refine Below.alloc ?_ ?_ _) | (with_reducible refine Below.drew ?_) | (with_reducible refine Below.drawsN ?_ _) | (with_reducible refine Below.setCell ?_ ?_ _) | (with_reducible refine le_bel ?_) | (with_reducible refine le_alloc ?_) | (with_reducible refine le_setCell ?_) | (with_reducible refine le_drew ?_) | (with_reducible refine le_drawsN ?_) | (dsimp only; with_reducible refine le_bel ?_) | (dsimp only; with_reducible refine Nat.le_refl _) | (dsimp only; with_reducible refine le_bel_add ?_) | (with_reducible assumption) | omega | (dsimp only; omega)))))
    · rw [if_neg (fun h => (absurd h.1 (by decide)))] at hX hY
      rw [hX, hY]
      have hrp0 : 0 < R ∨ (0 < (lim R).length) = False := by
        rcases Nat.eq_zero_or_pos R with h | h
        · exact .inr (eq_false (fun h2 => by have := hrp.1 h2; omega))
        · exact .inl h
      clear hrp hX hY
      skip
      go_enter Tryz.func19, Tryz.ntmps19
      go_wp2_with fail
      refine (HSa.out _).mono ?_
      rintro _ _ ⟨v1, rfl, y1, rfl, hv1⟩
      have hs1 := y1.size_le
      have hl1v := LV.own hv1
      obtain ⟨p1, c1, rfl, hL1⟩ := LV.own hv1
      dsimp only
      go_wp2_with fail
      refine (HSb.out _).mono ?_
      rintro _ _ ⟨v2, rfl, y2, rfl, hv2⟩
      have hs2 := y2.size_le
      obtain ⟨p2, c2, rfl, hL2⟩ := LV.own hv2
      have HL2 := Lib.hid hL2
      have HL1 := Lib.hid (limbs_of hL1 y2.below)
      clear hv1 hv2 hL1 hL2 hl1v
      dsimp only
      go_wp2_with fail
      refine (HDV.out _ _ _ _ _ HL1.out HL2.out).mono ?_
      rintro _ _ ⟨v3, v4, rfl, y3, rfl, hv3, hv4⟩
      have hs3 := y3.size_le
      obtain ⟨p3, c3, rfl, hL3⟩ := hv3
      obtain ⟨p4, c4, rfl, hL4⟩ := hv4
      have HL3 := Lib.hid hL3
      have HL4 := Lib.hid hL4
      have HLb := Lib.hid (limbs_of HL2.out y3.below)
      clear hL3 hL4
      dsimp only
      have HLX := HL3
      have HLY := HL4
      have hlX := hlq
      have hlY := hlr
      go_wp2_with fail
      refine (signed_any _ _ _ _ _ HLX.out hlX (HT.out.of (by (repeat' (first | (with_reducible exact Below.refl _ _) | (with_reducible exact Nat.le_refl _) | (with_reducible refine Below.bel ?_ ?_) | (with_reducible refine Below.alloc ?_ ?_ _) | (with_reducible refine Below.drew ?_) | (with_reducible refine Below.drawsN ?_ _) | (with_reducible refine Below.setCell ?_ ?_ _) | (with_reducible refine le_bel ?_) | (with_reducible refine le_alloc ?_) | (with_reducible refine le_setCell ?_) | (with_reducible refine le_drew ?_) | (with_reducible refine le_drawsN ?_) | (dsimp only; with_reducible refine le_bel ?_) | (dsimp only; with_reducible refine Nat.le_refl _) | (dsimp only; with_reducible refine le_bel_add ?_) | (with_reducible assumption) | omega | (dsimp only; omega)))))).mono ?_
      rintro _ _ ⟨rfl, z1, rfl⟩
      have hz1 := z1.size_le
      dsimp only
      go_wp2_with fail
      refine (signed_any _ _ _ _ _ (limbs_of HLY.out z1.below) hlY (HT.out.of (by (repeat' (first | (with_reducible exact Below.refl _ _) | (with_reducible exact Nat.le_refl _) | (with_reducible refine Below.bel ?_ ?_) | (with_reducible refine Below.alloc ?_ ?_ _) | (with_reducible refine Below.drew ?_) | (with_reducible refine Below.drawsN ?_ _) | (with_reducible refine Below.setCell ?_ ?_ _) | (with_reducible refine le_bel ?_) | (with_reducible refine le_alloc ?_) | (with_reducible refine le_setCell ?_) | (with_reducible refine le_drew ?_) | (with_reducible refine le_drawsN ?_) | (dsimp only; with_reducible refine le_bel ?_) | (dsimp only; with_reducible refine Nat.le_refl _) | (dsimp only; with_reducible refine le_bel_add ?_) | (with_reducible assumption) | omega | (dsimp only; omega)))))).mono ?_
      rintro _ _ ⟨rfl, z2, rfl⟩
      dsimp only
      go_wp2
      refine bodyPost_ret (v := .tuple #[.string ⟨(iT (sg false Q)).toArray⟩, .string ⟨(iT (sg true R)).toArray⟩, .int .i64 0]) (by simp [results, Tryz.results19, go_sem]) rfl (Ret.mk (by rfl) (by (repeat' (first | (with_reducible exact Below.refl _ _) | (with_reducible exact Nat.le_refl _) | (with_reducible refine Below.bel ?_ ?_) | (with_reducible refine Below.alloc ?_ ?_ _) | (with_reducible refine Below.drew ?_) | (with_reducible refine Below.drawsN ?_ _) | (with_reducible refine Below.setCell ?_ ?_ _) | (with_reducible refine le_bel ?_) | (with_reducible refine le_alloc ?_) | (with_reducible refine le_setCell ?_) | (with_reducible refine le_drew ?_) | (with_reducible refine le_drawsN ?_) | (dsimp only; with_reducible refine le_bel ?_) | (dsimp only; with_reducible refine Nat.le_refl _) | (dsimp only; with_reducible refine le_bel_add ?_) | (with_reducible assumption) | omega | (dsimp only; omega)))))
end Go.Proofs.YteglfhmmkoahfaaGreatDoor
