/- The functions of Count. -/
import Derived.Test.YtkdmhjlcgpnjpaaGreatDoorX25
import Derived.Test.YtkdmhjlcgpnjpaaGreatDoorPl
import Derived.Test.YtkdmhjlcgpnjpaaGreatDoorIn5
namespace Go.Proofs.YtkdmhjlcgpnjpaaGreatDoor
set_option linter.unusedVariables false
set_option linter.unusedSimpArgs false
open Go.RowKit Go.Maps
attribute [local go_sem low] Bel.cell Bel.frozen alloc_cell alloc_frozen
attribute [local go_sem] calmOp chainOp yieldsC grows
variable {rk : Nat → Nat}

theorem cntL_le {M : List (Nat × Nat × Nat)} (hM : Good M) {n : Nat} (hn : ∀ x ∈ M, x.1 < n) {p : Nat} (hp : p < M.length + 2) : 2 ^ lev3 M n p * (cntL M n M.length).getD p 0 ≤ 2 ^ n := by
  have h := cnt_num hM hn p hp 0 (Nat.zero_le _)
  rw [Nat.sub_zero, Nat.sub_zero] at h
  rw [← h]
  have : ∀ (m : Nat) (f : (Nat → Bool) → Bool) (k : Nat), num3 f k m ≤ 2 ^ m := by
    intro m
    induction m with
    | zero => intro f k; rw [num3]; split <;> decide
    | succ m ih => intro f k; rw [num3, Nat.pow_succ]; have := ih (fun ρ => f (upd3 ρ k false)) (k + 1); have := ih (fun ρ => f (upd3 ρ k true)) (k + 1); omega
  exact this n _ 0
theorem dec_le : ∀ (k u : Nat), u < 10 ^ (k + 1) → (Lib.decDigits u).length ≤ k + 1 := by
  intro k
  induction k with
  | zero => intro u hu; rw [I.dec_small (by simpa using hu)]; exact Nat.le_refl _
  | succ k ih =>
    intro u hu
    by_cases h : u < 10
    · rw [I.dec_small h, List.length_singleton]; omega
    · rw [I.dec_big h, List.length_append, List.length_singleton]
      have := ih (u / 10) (by rw [Nat.pow_succ] at hu; omega)
      omega
theorem nd_le1 {z : Nat} {n : Nat} (h : z ≤ 2 ^ n) : I.nd (z : Int) ≤ n + 1 := by
  unfold I.nd
  rw [Int.natAbs_natCast]
  have h1 : z < 10 ^ (n + 1) := Nat.lt_of_le_of_lt (Nat.le_trans h (Nat.pow_le_pow_left (by decide) n)) (Nat.pow_lt_pow_right (by decide) (Nat.lt_succ_self n))
  exact dec_le n z h1
theorem nd_2 : I.nd 2 = 1 := by unfold I.nd; rw [show Int.natAbs 2 = 2 from rfl, I.dec_small (by decide)]; rfl
theorem iT_0 : (⟨(I.iT 0).toArray⟩ : ByteArray) = ⟨#[48]⟩ := by rw [I.iT_pos (by decide), show Int.natAbs 0 = 0 from rfl, I.dec_small (by decide)]; rfl
theorem iT_1 : (⟨(I.iT 1).toArray⟩ : ByteArray) = ⟨#[49]⟩ := by rw [I.iT_pos (by decide), show Int.natAbs 1 = 1 from rfl, I.dec_small (by decide)]; rfl
theorem iT_2 : (⟨(I.iT 2).toArray⟩ : ByteArray) = ⟨#[50]⟩ := by rw [I.iT_pos (by decide), show Int.natAbs 2 = 2 from rfl, I.dec_small (by decide)]; rfl
theorem egLevel : ∀ args w, (callFunc 52 args).run Tryz.prog w = .ok (.enter 52 args) w := fun args w => by kernel_rfl
theorem egTimes : ∀ args w, (callFunc 53 args).run Tryz.prog w = .ok (.enter 53 args) w := fun args w => by kernel_rfl
set_option maxRecDepth 100000 in
set_option maxHeartbeats 6400000 in
theorem level_any (M : List (Nat × Nat × Nat)) (ad : Option Addr) (cap n p bv bd : Nat) (w : World) (hi : InD w.heap.size w ad (M.map z3)) (hp : p < M.length + 2) (hl : M.length ≤ 50000) (h1 : w.cell? ⟨bv, 0, none⟩ = some (.int .i64 (n : Int))) (h2 : w.cell? ⟨bd, 0, none⟩ = some (.slice ad M.length cap)) :
    Calls Tryz.prog 52 #[.int .i64 (p : Int), .pointer (some ⟨bv, 0, none⟩), .pointer (some ⟨bd, 0, none⟩)] w (Ret (.int .i64 (lev3 M n p : Int)) w) := by
  rcases Nat.lt_or_ge p 2 with hp2 | hp2
  · rw [show lev3 M n p = n from if_pos hp2]
    have f0 : decide ((p : Int) < 2) = true := decide_eq_true (by omega)
    clear hi
    go_enter Tryz.func52, Tryz.ntmps52
    go_wp2
    go_ret
    exact Ret.mk (by rfl) (by (repeat' (first | (with_reducible first | exact Below.refl _ _ | exact Nat.le_refl _ | refine Below.bel ?_ ?_ | refine Below.alloc ?_ ?_ _ | refine Below.drew ?_ | refine Below.drawsN ?_ _ | refine Below.setCell ?_ ?_ _ | refine le_bel ?_ | refine le_alloc ?_ | refine le_setCell ?_ | refine le_drew ?_ | refine le_drawsN ?_) | (dsimp only; with_reducible first | refine le_bel ?_ | refine Nat.le_refl _ | refine le_bel_add ?_) | (with_reducible assumption) | omega | (dsimp only; omega))))
  · rw [show lev3 M n p = (node3 M p).1 from if_neg (by omega)]
    have f0 : decide ((p : Int) < 2) = false := decide_eq_false (by omega)
    obtain ⟨g, off, hadd, hg, hcs⟩ := hi (by rw [List.length_map]; omega)
    subst hadd
    obtain ⟨x0, -, -⟩ := hcs (p - 2) (z3 (node3 M p)) (by rw [List.getElem?_map, node3_some hp hp2]; rfl)
    dsimp only [z3] at x0
    obtain ⟨xa, hxa⟩ : ∃ z, (node3 M p).1 = z := ⟨_, rfl⟩
    rw [hxa] at x0 ⊢
    obtain ⟨pp, hpp⟩ : ∃ pp, p - 2 = pp := ⟨_, rfl⟩
    rw [hpp] at x0
    have hpi : ((p : Int) - 2) = (pp : Int) := by omega
    have hib : (0 ≤ (pp : Int) ∧ (pp : Int) < (M.length : Int)) := ⟨by omega, by omega⟩
    clear hcs hi hxa
    go_enter Tryz.func52, Tryz.ntmps52
    go_wp2
    go_ret
    exact Ret.mk (by rfl) (by (repeat' (first | (with_reducible first | exact Below.refl _ _ | exact Nat.le_refl _ | refine Below.bel ?_ ?_ | refine Below.alloc ?_ ?_ _ | refine Below.drew ?_ | refine Below.drawsN ?_ _ | refine Below.setCell ?_ ?_ _ | refine le_bel ?_ | refine le_alloc ?_ | refine le_setCell ?_ | refine le_drew ?_ | refine le_drawsN ?_) | (dsimp only; with_reducible first | refine le_bel ?_ | refine Nat.le_refl _ | refine le_bel_add ?_) | (with_reducible assumption) | omega | (dsimp only; omega))))
/-- Texts of numbers as values. -/
def txtsV (l : List Nat) : List Value := l.map fun (p : Nat) => .string ⟨(I.iT (p : Int)).toArray⟩
theorem txtsV_at {l : List Nat} {j p : Nat} (h : l[j]? = some p) : (txtsV l)[j]? = some (.string ⟨(I.iT (p : Int)).toArray⟩) := by unfold txtsV; rw [List.getElem?_map, h]; rfl
theorem Tryz.infoTx : (Tryz.prog.info? 40).map (fun i => (i.zero, i.size, i.bytes)) = some (some (.string ⟨#[]⟩), 1, 16) := by kernel_rfl
/-- A slice of the call's own that shows numbers as texts. -/
def OwnT (w : World) (base : Nat) (v : Value) (l : List Nat) : Prop := w.ownsRow base 40 1 v l.length (txtsV l)
theorem ownT_val {w : World} {base : Nat} {v : Value} {l : List Nat} (h : OwnT w base v l) (h0 : 0 < l.length) : ∃ g c, v = .slice (some ⟨g, 0, none⟩) l.length c ∧ base ≤ g ∧ g < w.heap.size ∧ ∀ (j p : Nat), l[j]? = some p → w.cell? ⟨g, j, none⟩ = some (.string ⟨(I.iT (p : Int)).toArray⟩) := by
  rcases h with ⟨hxl, ⟨e1, e2⟩ | ⟨g, cap, cur, e1, hg, hh, hn, hc, hcs, hcur⟩⟩
  · omega
  · refine ⟨g, cap, e1, hg, (Array.getElem?_eq_some_iff.1 hh).1, fun j p hp => ?_⟩
    have hj := (List.getElem?_eq_some_iff.1 hp).1
    have e := txtsV_at hp
    rw [← hcur, List.getElem?_take_of_lt (by omega)] at e
    simp [World.cell?, hh]
    simpa using e
theorem ownT_bel {w w' : World} {base : Nat} {v : Value} {l : List Nat} (h : OwnT w base v l) (hb : Below w.heap.size w w') : OwnT w' base v l := by
  obtain ⟨hxl, ⟨e1, e2⟩ | ⟨g', cap', cur, e1, hg, hh, hn, hc, hcs, hcur⟩⟩ := h
  · exact ⟨hxl, .inl ⟨e1, e2⟩⟩
  · exact ⟨hxl, .inr ⟨g', cap', cur, e1, hg, obj_in hb hh, hn, hc, hcs, hcur⟩⟩
set_option maxRecDepth 100000 in
set_option maxHeartbeats 6400000 in
theorem times_any (M : List (Nat × Nat × Nat)) (ad : Option Addr) (cap n p fr bv bd bl bc base : Nat) (v : Value) (l : List Nat) (w : World) (hi : InD w.heap.size w ad (M.map z3)) (hl : M.length ≤ 50000) (hn : n ≤ 1000) (h1 : w.cell? ⟨bv, 0, none⟩ = some (.int .i64 (n : Int))) (h2 : w.cell? ⟨bd, 0, none⟩ = some (.slice ad M.length cap))
    (h3 : w.cell? ⟨bl, 0, none⟩ = some (.func (.func 52) #[] #[.pointer (some ⟨bv, 0, none⟩), .pointer (some ⟨bd, 0, none⟩)])) (h4 : w.cell? ⟨bc, 0, none⟩ = some v) (ho : OwnT w base v l) (hp : p < l.length) (hpm : p < M.length + 2) (hfr : fr ≤ lev3 M n p) (hlv : lev3 M n p ≤ n) (hcl : l.getD p 0 ≤ 2 ^ n) (hT : I.Tab w) :
    Calls Tryz.prog 53 #[.int .i64 (p : Int), .int .i64 (fr : Int), .pointer (some ⟨bl, 0, none⟩), .pointer (some ⟨bc, 0, none⟩)] w (Ret (.string ⟨(I.iT ((2 ^ (lev3 M n p - fr) * l.getD p 0 : Nat) : Int)).toArray⟩) w) := by
  obtain ⟨g, c, rfl, hg, hgl, hcs⟩ := ownT_val ho (by omega)
  have hc := hcs p (l.getD p 0) (by rw [List.getD_eq_getElem?_getD, List.getElem?_eq_getElem hp]; rfl)
  obtain ⟨z, hz⟩ : ∃ z, l.getD p 0 = z := ⟨_, rfl⟩
  rw [hz] at hc hcl ⊢
  obtain ⟨lv, hlvv⟩ : ∃ lv, lev3 M n p = lv := ⟨_, rfl⟩
  have HL := Lib.hid (fun w' (hb : Below w.heap.size w w') => level_any M ad cap n p bv bd w' ((hi.of hb).up hb.size) hpm hl (cell_in hb h1) (cell_in hb h2))
  rw [hlvv] at HL hfr hlv ⊢
  obtain ⟨d, hd⟩ : ∃ d, lv - fr = d := ⟨_, rfl⟩
  have hsub : (lv : Int) - (fr : Int) = (d : Int) := by omega
  have hdn : d ≤ n := by omega
  have HP := Lib.hid (fun w' (hb : Below w.heap.size w w') => I.power_any 2 d w' (by rw [nd_2]; decide) (by omega) (by rw [nd_2]; omega) (hT.of hb))
  have HM := Lib.hid (fun w' (hb : Below w.heap.size w w') => I.mul_any ((2 : Int) ^ d) (z : Int) w' (by
    have h := nd_le1 (z := 2 ^ d) (n := n) (Nat.pow_le_pow_right (by decide) hdn)
    rw [show (((2 ^ d : Nat)) : Int) = (2 : Int) ^ d from by norm_cast] at h
    omega) (by have := nd_le1 hcl; omega) (hT.of hb))
  rw [show (2 : Int) ^ d * (z : Int) = ((2 ^ d * z : Nat) : Int) from by push_cast; rfl] at HM
  rw [hd]
  obtain ⟨pw, hpw⟩ : ∃ pw, (⟨(I.iT ((2 : Int) ^ d)).toArray⟩ : ByteArray) = pw := ⟨_, rfl⟩
  obtain ⟨rs, hrs⟩ : ∃ rs, (⟨(I.iT ((2 ^ d * z : Nat) : Int)).toArray⟩ : ByteArray) = rs := ⟨_, rfl⟩
  obtain ⟨cz, hcz⟩ : ∃ cz, (⟨(I.iT (z : Int)).toArray⟩ : ByteArray) = cz := ⟨_, rfl⟩
  rw [iT_2] at HP
  rw [hpw] at HP HM
  rw [hrs] at HM ⊢
  rw [hcz] at hc HM
  have hib : (0 ≤ (p : Int) ∧ (p : Int) < (l.length : Int)) := ⟨by omega, by omega⟩
  have eg := egLevel
  clear hi ho hcs hT hz hpw hrs hcz hcl
  go_enter Tryz.func53, Tryz.ntmps53
  go_wp2_with (first | (go_at_fn 52; refine (HL.out _ (by (repeat' (first | (with_reducible first | exact Below.refl _ _ | exact Nat.le_refl _ | refine Below.bel ?_ ?_ | refine Below.alloc ?_ ?_ _ | refine Below.drew ?_ | refine Below.drawsN ?_ _ | refine Below.setCell ?_ ?_ _ | refine le_bel ?_ | refine le_alloc ?_ | refine le_setCell ?_ | refine le_drew ?_ | refine le_drawsN ?_) | (dsimp only; with_reducible first | refine le_bel ?_ | refine Nat.le_refl _ | refine le_bel_add ?_) | (with_reducible assumption) | omega | (dsimp only; omega))))).mono ?_; rintro _ _ ⟨rfl, y1, rfl⟩; dsimp only) | (go_at_call 54; refine (HP.out _ (by (repeat' (first | (with_reducible first | exact Below.refl _ _ | exact Nat.le_refl _ | refine Below.bel ?_ ?_ | refine Below.alloc ?_ ?_ _ | refine Below.drew ?_ | refine Below.drawsN ?_ _ | refine Below.setCell ?_ ?_ _ | refine le_bel ?_ | refine le_alloc ?_ | refine le_setCell ?_ | refine le_drew ?_ | refine le_drawsN ?_) | (dsimp only; with_reducible first | refine le_bel ?_ | refine Nat.le_refl _ | refine le_bel_add ?_) | (with_reducible assumption) | omega | (dsimp only; omega))))).mono ?_; rintro _ _ ⟨rfl, y2, rfl⟩; dsimp only) | (go_at_call 55; refine (HM.out _ (by (repeat' (first | (with_reducible first | exact Below.refl _ _ | exact Nat.le_refl _ | refine Below.bel ?_ ?_ | refine Below.alloc ?_ ?_ _ | refine Below.drew ?_ | refine Below.drawsN ?_ _ | refine Below.setCell ?_ ?_ _ | refine le_bel ?_ | refine le_alloc ?_ | refine le_setCell ?_ | refine le_drew ?_ | refine le_drawsN ?_) | (dsimp only; with_reducible first | refine le_bel ?_ | refine Nat.le_refl _ | refine le_bel_add ?_) | (with_reducible assumption) | omega | (dsimp only; omega))))).mono ?_; rintro _ _ ⟨rfl, y3, rfl⟩; dsimp only))
  go_ret
  exact Ret.mk (by rfl) (by (repeat' (first | (with_reducible first | exact Below.refl _ _ | exact Nat.le_refl _ | refine Below.bel ?_ ?_ | refine Below.alloc ?_ ?_ _ | refine Below.drew ?_ | refine Below.drawsN ?_ _ | refine Below.setCell ?_ ?_ _ | refine le_bel ?_ | refine le_alloc ?_ | refine le_setCell ?_ | refine le_drew ?_ | refine le_drawsN ?_) | (dsimp only; with_reducible first | refine le_bel ?_ | refine Nat.le_refl _ | refine le_bel_add ?_) | (with_reducible assumption) | omega | (dsimp only; omega))))
end Go.Proofs.YtkdmhjlcgpnjpaaGreatDoor
