/- Gcd, of the program and of the reference. -/
import Derived.Test.YteglfhmmkoahfaaGreatDoorD3
import Derived.Test.YteglfhmmkoahfaaGreatDoorM18
namespace Go.Proofs.YteglfhmmkoahfaaGreatDoor
open Go.RowKit Go.Shelf
attribute [local go_sem low] Bel.cell Bel.frozen alloc_cell alloc_frozen

theorem lim_inj {M N : Nat} (h : lim M = lim N) : M = N := by rw [← vB_lim M, ← vB_lim N, h]
theorem lim_lenm {M N : Nat} (h : M ≤ N) : (lim M).length ≤ (lim N).length := limbs_len_le (by decide) (Nat.lt_of_le_of_lt h (limbs_bounds (by decide) N).1)
theorem LV.unique {w : World} {v : Value} {M N : Nat} (h1 : LV w v M) (h2 : LV w v N) : M = N := by
  obtain ⟨a, c, rfl, hL⟩ := h1
  obtain ⟨a', c', he, hL'⟩ := h2
  injection he with e1 e2 e3
  subst e1
  have e2' : (lim M).length = (lim N).length := by omega
  refine lim_inj (List.ext_getElem? fun j => ?_)
  by_cases hj : j < (lim M).length
  · have hj' : j < (lim N).length := by omega
    obtain ⟨b, off, hb, hc⟩ := hL (by omega)
    obtain ⟨b', off', hb', hc'⟩ := hL' (by omega)
    rw [hb] at hb'
    injection hb' with hb'
    injection hb' with q1 q2 q3
    subst q1 q2
    have k1 := hc j _ (List.getElem?_eq_getElem hj)
    have k2 := hc' j _ (List.getElem?_eq_getElem hj')
    rw [k1] at k2
    injection k2 with k2
    injection k2 with _ k2
    rw [List.getElem?_eq_getElem hj, List.getElem?_eq_getElem hj']
    congr 1
    omega
  · rw [List.getElem?_eq_none (by omega), List.getElem?_eq_none (by omega)]
open Classical in
/-- The number that a slice of limbs holds. -/
noncomputable def gm (v : Value) (w : World) : Nat := if h : ∃ N, LV w v N then h.choose else 0
theorem gm_eq {w : World} {v : Value} {N : Nat} (h : LV w v N) : gm v w = N := by
  have hx : ∃ N, LV w v N := ⟨N, h⟩
  unfold gm
  rw [dif_pos hx]
  exact LV.unique hx.choose_spec h
theorem gcd_flip {M N : Nat} : Nat.gcd N (M % N) = Nat.gcd M N := by
  rw [Nat.gcd_comm N, ← Nat.gcd_rec, Nat.gcd_comm]
set_option maxRecDepth 100000 in
set_option maxHeartbeats 6400000 in
theorem gcd_any (a b : Int) (w : World) (ha : nd a ≤ 40000) (hb : nd b ≤ 40000) (hT : Tab w) :
    Calls Tryz.prog 17 #[.string ⟨(iT a).toArray⟩, .string ⟨(iT b).toArray⟩] w (Ret (.string ⟨(iT (Nat.gcd a.natAbs b.natAbs : Nat)).toArray⟩) w) := by
  have HT := Lib.hid hT
  clear hT
  have HSa := Lib.hid (fun w' => split_any a w' (show nd a ≤ 80000 by omega))
  have HSb := Lib.hid (fun w' => split_any b w' (show nd b ≤ 80000 by omega))
  have hla : (lim a.natAbs).length ≤ 5000 := lim_le2 (nd_lt a) (by omega)
  have hlb : (lim b.natAbs).length ≤ 5000 := lim_le2 (nd_lt b) (by omega)
  obtain ⟨g, hg⟩ : ∃ g, Nat.gcd a.natAbs b.natAbs = g := ⟨_, rfl⟩
  rw [hg]
  have HG := Lib.hid hg
  have HSG := Lib.hid (show iT (sg false g) = iT (g : Int) from rfl)
  clear hg ha hb
  generalize iT a = ta at *
  generalize iT b = tb at *
  obtain ⟨A, hA⟩ : ∃ A, a.natAbs = A := ⟨_, rfl⟩
  obtain ⟨B, hB⟩ : ∃ B, b.natAbs = B := ⟨_, rfl⟩
  rw [hA] at HSa hla HG
  rw [hB] at HSb hlb HG
  clear hA hB
  go_enter Tryz.func17, Tryz.ntmps17
  go_wp2_with fail
  refine (HSa.out _).mono ?_
  rintro _ _ ⟨v1, rfl, y1, rfl, hv1⟩
  have hs1 := y1.size_le
  obtain ⟨p1, c1, rfl, hL1⟩ := LV.own hv1
  have HL1 := Lib.hid hL1
  clear hv1 hL1
  dsimp only
  go_wp2_with fail
  refine (HSb.out _).mono ?_
  rintro _ _ ⟨v2, rfl, y2, rfl, hv2⟩
  have hs2 := y2.size_le
  obtain ⟨p2, c2, rfl, hL2⟩ := LV.own hv2
  have HL2 := Lib.hid hL2
  clear hv2 hL2
  dsimp only
  go_wp2
  go_loopw [5, 7] (fun m n wr => ∃ M N : Nat, LV wr m M ∧ LV wr n N ∧ Nat.gcd M N = g ∧ (lim M).length ≤ 5000 ∧ (lim N).length ≤ 5000 ∧ Below w.heap.size w wr) (fun _ n wr => gm n wr)
  case atStart => exact ⟨A, B, ⟨_, _, rfl, limbs_of HL1.out (by (repeat' (first | (with_reducible exact Below.refl _ _) | (with_reducible exact Nat.le_refl _) | (with_reducible refine Below.bel ?_ ?_) | (with_reducible refine Below.alloc ?_ ?_ _) | (with_reducible refine Below.drew ?_) | (with_reducible refine Below.drawsN ?_ _) | (with_reducible refine Below.setCell ?_ ?_ _) | (with_reducible refine le_bel ?_) | (with_reducible refine le_alloc ?_) | (with_reducible refine le_setCell ?_) | (with_reducible refine le_drew ?_) | (with_reducible refine le_drawsN ?_) | (dsimp only; with_reducible refine le_bel ?_) | (dsimp only; with_reducible refine Nat.le_refl _) | (dsimp only; with_reducible refine le_bel_add ?_) | (with_reducible assumption) | omega | (dsimp only; omega))))⟩, ⟨_, _, rfl, limbs_of HL2.out (by (repeat' (first | (with_reducible exact Below.refl _ _) | (with_reducible exact Nat.le_refl _) | (with_reducible refine Below.bel ?_ ?_) | (with_reducible refine Below.alloc ?_ ?_ _) | (with_reducible refine Below.drew ?_) | (with_reducible refine Below.drawsN ?_ _) | (with_reducible refine Below.setCell ?_ ?_ _) | (with_reducible refine le_bel ?_) | (with_reducible refine le_alloc ?_) | (with_reducible refine le_setCell ?_) | (with_reducible refine le_drew ?_) | (with_reducible refine le_drawsN ?_) | (dsimp only; with_reducible refine le_bel ?_) | (dsimp only; with_reducible refine Nat.le_refl _) | (dsimp only; with_reducible refine le_bel_add ?_) | (with_reducible assumption) | omega | (dsimp only; omega))))⟩, HG.out, hla, hlb, by (repeat' (first | (with_reducible exact Below.refl _ _) | (with_reducible exact Nat.le_refl _) | (with_reducible refine Below.bel ?_ ?_) | (with_reducible refine Below.alloc ?_ ?_ _) | (with_reducible refine Below.drew ?_) | (with_reducible refine Below.drawsN ?_ _) | (with_reducible refine Below.setCell ?_ ?_ _) | (with_reducible refine le_bel ?_) | (with_reducible refine le_alloc ?_) | (with_reducible refine le_setCell ?_) | (with_reducible refine le_drew ?_) | (with_reducible refine le_drawsN ?_) | (dsimp only; with_reducible refine le_bel ?_) | (dsimp only; with_reducible refine Nat.le_refl _) | (dsimp only; with_reducible refine le_bel_add ?_) | (with_reducible assumption) | omega | (dsimp only; omega)))⟩
  case round =>
    obtain ⟨M, N, hm, hn, hgg, hlM, hlN, hb⟩ := hrel
    have hbs := hb.size
    have hmeas := gm_eq hn
    have HMS := Lib.hid hmeas
    have HN := Lib.hid hn
    have HM := Lib.hid hm
    obtain ⟨pm, cm, rfl, hLm⟩ := hm
    obtain ⟨pn, cn, rfl, hLn⟩ := hn
    have hlp := @lim_pos N
    have HD := Lib.hid (fun h0 => divide_any pm pn cm cn M N wr hLm hLn hlM (by omega) h0)
    have HLm := Lib.hid hLm
    have HGG := Lib.hid hgg
    clear hLm hLn hmeas hgg
    rcases Nat.eq_zero_or_pos N with h0 | h0
    · have hl0 : (0 < (lim N).length) = False := eq_false (fun h => by have := hlp.1 h; omega)
      have hM : M = g := by have := HGG.out; rw [h0, Nat.gcd_zero_right] at this; exact this
      subst hM
      have H0 := Lib.hid h0
      clear hlp h0
      go_wp2_with fail
      refine (signed_any false _ _ _ _ HLm.out (by omega) (HT.out.of (by (repeat' (first | (with_reducible exact Below.refl _ _) | (with_reducible exact Nat.le_refl _) | (with_reducible refine Below.bel ?_ ?_) | (with_reducible refine Below.alloc ?_ ?_ _) | (with_reducible refine Below.drew ?_) | (with_reducible refine Below.drawsN ?_ _) | (with_reducible refine Below.setCell ?_ ?_ _) | (with_reducible refine le_bel ?_) | (with_reducible refine le_alloc ?_) | (with_reducible refine le_setCell ?_) | (with_reducible refine le_drew ?_) | (with_reducible refine le_drawsN ?_) | (dsimp only; with_reducible refine le_bel ?_) | (dsimp only; with_reducible refine Nat.le_refl _) | (dsimp only; with_reducible refine le_bel_add ?_) | (with_reducible assumption) | omega | (dsimp only; omega)))))).mono ?_
      rintro _ _ ⟨rfl, z1, rfl⟩
      dsimp only
      go_wp2
      go_ret
      exact Ret.mk (by rw [← HSG.out]; rfl) (by (repeat' (first | (with_reducible exact Below.refl _ _) | (with_reducible exact Nat.le_refl _) | (with_reducible refine Below.bel ?_ ?_) | (with_reducible refine Below.alloc ?_ ?_ _) | (with_reducible refine Below.drew ?_) | (with_reducible refine Below.drawsN ?_ _) | (with_reducible refine Below.setCell ?_ ?_ _) | (with_reducible refine le_bel ?_) | (with_reducible refine le_alloc ?_) | (with_reducible refine le_setCell ?_) | (with_reducible refine le_drew ?_) | (with_reducible refine le_drawsN ?_) | (dsimp only; with_reducible refine le_bel ?_) | (dsimp only; with_reducible refine Nat.le_refl _) | (dsimp only; with_reducible refine le_bel_add ?_) | (with_reducible assumption) | omega | (dsimp only; omega))))
    · have hl0 : (0 < (lim N).length) = True := eq_true (hlp.2 h0)
      clear hlp
      go_wp2_with fail
      refine (HD.out (by omega)).mono ?_
      rintro _ _ ⟨v3, v4, rfl, z1, rfl, hv3, hv4⟩
      have hz1 := z1.size_le
      have HV4 := Lib.hid hv4
      clear hv3 hv4
      dsimp only
      go_wp2
      go_roundw
      case rel => exact ⟨N, M % N, HN.out.of z1.below, HV4.out, by rw [gcd_flip]; exact HGG.out, hlN, Nat.le_trans (lim_lenm (Nat.le_of_lt (Nat.mod_lt M h0))) hlN, by (repeat' (first | (with_reducible exact Below.refl _ _) | (with_reducible exact Nat.le_refl _) | (with_reducible refine Below.bel ?_ ?_) | (with_reducible refine Below.alloc ?_ ?_ _) | (with_reducible refine Below.drew ?_) | (with_reducible refine Below.drawsN ?_ _) | (with_reducible refine Below.setCell ?_ ?_ _) | (with_reducible refine le_bel ?_) | (with_reducible refine le_alloc ?_) | (with_reducible refine le_setCell ?_) | (with_reducible refine le_drew ?_) | (with_reducible refine le_drawsN ?_) | (dsimp only; with_reducible refine le_bel ?_) | (dsimp only; with_reducible refine Nat.le_refl _) | (dsimp only; with_reducible refine le_bel_add ?_) | (with_reducible assumption) | omega | (dsimp only; omega)))⟩
      case measure =>
        have e1 := gm_eq HV4.out
        have e2 := HMS.out
        have e3 := Nat.mod_lt M h0
        first | (rw [e1, e2]; exact e3) | (simp only [e1, e2]; exact e3)
/-- The magnitude that a text shows. -/
def mT (v : Value) : Nat := match v with
  | .string s => match s.data.toList with
    | 45 :: l => numD l
    | l => numD l
  | _ => 0
theorem mT_eq (z : Int) : mT (.string ⟨(iT z).toArray⟩) = z.natAbs := by
  by_cases h : z < 0
  · rw [iT_neg h]
    exact dec_num _
  · rw [iT_pos h]
    obtain ⟨c, r, hc, h1, h2⟩ := dec_cons z.natAbs
    have hd := dec_num z.natAbs
    rw [hc] at hd ⊢
    have hne : c ≠ 45 := fun e => by rw [e] at h1; revert h1; decide
    unfold mT
    dsimp only
    split
    · rename_i heq
      injection heq with e1 e2
      exact absurd e1 hne
    · exact hd
theorem gcd_dm (a b : Int) (hb : b ≠ 0) : Nat.gcd b.natAbs (dmR a b).natAbs = Nat.gcd a.natAbs b.natAbs := by
  have h2 := Nat.mod_lt a.natAbs (show 0 < b.natAbs by omega)
  unfold dmR dmY
  rw [sg_abs]
  split
  · rw [Nat.gcd_self_sub_right (Nat.le_of_lt h2)]
    exact gcd_flip
  · exact gcd_flip
set_option maxRecDepth 100000 in
set_option maxHeartbeats 6400000 in
theorem refGcd_any (a b : Int) (w : World) (ha : nd a ≤ 5000) (hb : nd b ≤ 5000) (hT : Tab w) :
    Calls Tryz.prog 18 #[.string ⟨(iT a).toArray⟩, .string ⟨(iT b).toArray⟩] w (Ret (.string ⟨(iT (Nat.gcd a.natAbs b.natAbs : Nat)).toArray⟩) w) := by
  have HT := Lib.hid hT
  clear hT
  obtain ⟨g, hg⟩ : ∃ g, Nat.gcd a.natAbs b.natAbs = g := ⟨_, rfl⟩
  rw [hg]
  go_enter Tryz.func18, Tryz.ntmps18
  go_wp2
  go_loopw [0, 1] (fun s t wr => ∃ x y : Int, s = .string ⟨(iT x).toArray⟩ ∧ t = .string ⟨(iT y).toArray⟩ ∧ nd x ≤ 5000 ∧ nd y ≤ 5000 ∧ Nat.gcd x.natAbs y.natAbs = g ∧ Below w.heap.size w wr) (fun _ t _ => mT t)
  case atStart => exact ⟨a, b, rfl, rfl, ha, hb, hg, Below.refl _ _⟩
  case round =>
    clear ha hb hg
    obtain ⟨x, y, rfl, rfl, hx, hy, hg, hb⟩ := hrel
    have hbs := hb.size
    have hq := iT_is0 y
    have HG := Lib.hid hg
    clear hg
    by_cases h0 : y = 0
    · subst h0
      rw [decide_eq_true rfl] at hq
      have HC := Lib.hid (fun w' => cutZ_any x w' (by omega))
      have HX := Lib.hid (show iT (g : Int) = Lib.decDigits x.natAbs by
        have := HG.out
        rw [show (0 : Int).natAbs = 0 from rfl, Nat.gcd_zero_right] at this
        rw [← this, iT_pos (by omega), Int.natAbs_natCast])
      generalize iT x = tx at *
      generalize iT 0 = ty at *
      go_wp2_with fail
      (with_reducible refine (HC.out _).mono ?_)
      rintro _ _ ⟨rfl, z1, rfl⟩
      dsimp only
      go_wp2
      go_ret
      exact Ret.mk (by rw [HX.out]; rfl) (by (repeat' (first | (with_reducible exact Below.refl _ _) | (with_reducible exact Nat.le_refl _) | (with_reducible refine Below.bel ?_ ?_) | (with_reducible refine Below.alloc ?_ ?_ _) | (with_reducible refine Below.drew ?_) | (with_reducible refine Below.drawsN ?_ _) | (with_reducible refine Below.setCell ?_ ?_ _) | (with_reducible refine le_bel ?_) | (with_reducible refine le_alloc ?_) | (with_reducible refine le_setCell ?_) | (with_reducible refine le_drew ?_) | (with_reducible refine le_drawsN ?_) | (dsimp only; with_reducible refine le_bel ?_) | (dsimp only; with_reducible refine Nat.le_refl _) | (dsimp only; with_reducible refine le_bel_add ?_) | (with_reducible assumption) | omega | (dsimp only; omega))))
    · rw [decide_eq_false h0] at hq
      have HD := Lib.hid (fun w' hT => refDivMod_any x y w' hx hy h0 hT)
      have HM := Lib.hid (mT_eq y)
      have HM2 := Lib.hid (mT_eq (dmR x y))
      have HL := Lib.hid (dm_law x y h0).2.1
      have HGS := Lib.hid (gcd_dm x y h0)
      have HND := Lib.hid (nd_dmR x y h0)
      obtain ⟨ty, hty⟩ : ∃ t, iT y = t := ⟨_, rfl⟩
      obtain ⟨tr, htr⟩ : ∃ t, iT (dmR x y) = t := ⟨_, rfl⟩
      obtain ⟨tq, htq⟩ : ∃ t, iT (dmQ x y) = t := ⟨_, rfl⟩
      obtain ⟨tx, htx⟩ : ∃ t, iT x = t := ⟨_, rfl⟩
      rw [hty, htr, htq, htx] at HD
      rw [hty] at hq HM ⊢
      rw [htr] at HM2
      rw [htx]
      have HTY := Lib.hid hty
      have HTR := Lib.hid htr
      clear hty htr htq htx
      go_wp2_with fail
      (with_reducible refine (HD.out _ (HT.out.of (by (repeat' (first | (with_reducible exact Below.refl _ _) | (with_reducible exact Nat.le_refl _) | (with_reducible refine Below.bel ?_ ?_) | (with_reducible refine Below.alloc ?_ ?_ _) | (with_reducible refine Below.drew ?_) | (with_reducible refine Below.drawsN ?_ _) | (with_reducible refine Below.setCell ?_ ?_ _) | (with_reducible refine le_bel ?_) | (with_reducible refine le_alloc ?_) | (with_reducible refine le_setCell ?_) | (with_reducible refine le_drew ?_) | (with_reducible refine le_drawsN ?_) | (dsimp only; with_reducible refine le_bel ?_) | (dsimp only; with_reducible refine Nat.le_refl _) | (dsimp only; with_reducible refine le_bel_add ?_) | (with_reducible assumption) | omega | (dsimp only; omega)))))).mono ?_)
      rintro _ _ ⟨rfl, z1, rfl⟩
      have hz1 := z1.size_le
      dsimp only
      go_wp2
      go_roundw
      case rel => exact ⟨y, dmR x y, by rw [HTY.out], by rw [HTR.out], hy, Nat.le_trans HND.out hy, by rw [HGS.out]; exact HG.out, by (repeat' (first | (with_reducible exact Below.refl _ _) | (with_reducible exact Nat.le_refl _) | (with_reducible refine Below.bel ?_ ?_) | (with_reducible refine Below.alloc ?_ ?_ _) | (with_reducible refine Below.drew ?_) | (with_reducible refine Below.drawsN ?_ _) | (with_reducible refine Below.setCell ?_ ?_ _) | (with_reducible refine le_bel ?_) | (with_reducible refine le_alloc ?_) | (with_reducible refine le_setCell ?_) | (with_reducible refine le_drew ?_) | (with_reducible refine le_drawsN ?_) | (dsimp only; with_reducible refine le_bel ?_) | (dsimp only; with_reducible refine Nat.le_refl _) | (dsimp only; with_reducible refine le_bel_add ?_) | (with_reducible assumption) | omega | (dsimp only; omega)))⟩
      case measure =>
        have e1 := HM.out
        have e2 := HM2.out
        have e3 := HL.out
        first | (rw [e1, e2]; exact e3) | (simp only [e1, e2]; exact e3)
end Go.Proofs.YteglfhmmkoahfaaGreatDoor
