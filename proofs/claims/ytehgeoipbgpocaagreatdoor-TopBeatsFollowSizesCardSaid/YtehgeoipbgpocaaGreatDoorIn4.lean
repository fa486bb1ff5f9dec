/- split, signed, quick. quick. Of, Neg, Sign, Small. Mul. -/
import Derived.Test.YtehgeoipbgpocaaGreatDoorIn2
import Derived.Test.YtehgeoipbgpocaaGreatDoorIn3
namespace Go.Proofs.YtehgeoipbgpocaaGreatDoor.I
set_option linter.unusedVariables false
set_option linter.unusedSimpArgs false
open Go.RowKit Go.Shelf
attribute [local go_sem low] Bel.cell Bel.frozen alloc_cell alloc_frozen

/-- The text of an integer. -/
def iT (z : Int) : List UInt8 := if z < 0 then 45 :: Lib.decDigits z.natAbs else Lib.decDigits z.natAbs
theorem iT_itoa (z : Int) : Lib.itoa z = iT z := by
  unfold Lib.itoa iT
  split
  · rfl
  · rw [show z.toNat = z.natAbs by omega]
theorem iT_neg {z : Int} (h : z < 0) : iT z = 45 :: Lib.decDigits z.natAbs := if_pos h
theorem iT_pos {z : Int} (h : ¬ z < 0) : iT z = Lib.decDigits z.natAbs := if_neg h
theorem dec_cons (u : Nat) : ∃ c r, Lib.decDigits u = c :: r ∧ 48 ≤ c.toNat ∧ c.toNat ≤ 57 := by
  have h := dec_pos u
  have hd := dec_digits u
  cases he : Lib.decDigits u with
  | nil => rw [he] at h; exact absurd h (by decide)
  | cons c r => rw [he] at hd; have := hd c (by simp); exact ⟨c, r, rfl, this.1, this.2⟩
theorem pre_neg (l : List UInt8) : Lib.hasPrefix (45 :: l) [45] = true ∧ Lib.trimPrefix (45 :: l) [45] = l := by
  constructor
  · simp [Lib.hasPrefix]
  · simp [Lib.trimPrefix, Lib.hasPrefix]
theorem pre_pos (u : Nat) : Lib.hasPrefix (Lib.decDigits u) [45] = false ∧ Lib.trimPrefix (Lib.decDigits u) [45] = Lib.decDigits u := by
  obtain ⟨c, r, h, h1, h2⟩ := dec_cons u
  have hc : ¬ (45 : UInt8) = c := fun e => by subst e; revert h1; decide
  have hp : Lib.hasPrefix (Lib.decDigits u) [45] = false := by
    rw [h]
    simp [Lib.hasPrefix, List.isPrefixOf, hc]
  refine ⟨hp, ?_⟩
  unfold Lib.trimPrefix
  rw [hp]; rfl
theorem cut_any (z : Int) (w : World) : Calls Tryz.prog 155 #[.string ⟨(iT z).toArray⟩, .string ⟨#[45]⟩] w (Ret (.tuple #[.string ⟨(Lib.decDigits z.natAbs).toArray⟩, .bool (decide (z < 0))]) w) := by
  have h := Tryz.strings_CutPrefix ⟨(iT z).toArray⟩ ⟨#[45]⟩ w
  by_cases hz : z < 0
  · rw [iT_neg hz] at h ⊢
    have h2 := pre_neg (Lib.decDigits z.natAbs)
    refine h.mono fun e w' ⟨he, hw⟩ => ⟨?_, ⟨w, Below.refl _ _⟩, hw⟩
    rw [he, decide_eq_true hz]
    show Ending.returned (.tuple #[.string ⟨(Lib.trimPrefix (45 :: Lib.decDigits z.natAbs) [45]).toArray⟩, .bool (Lib.hasPrefix (45 :: Lib.decDigits z.natAbs) [45])]) = _
    rw [h2.1, h2.2]
  · rw [iT_pos hz] at h ⊢
    have h2 := pre_pos z.natAbs
    refine h.mono fun e w' ⟨he, hw⟩ => ⟨?_, ⟨w, Below.refl _ _⟩, hw⟩
    rw [he, decide_eq_false hz]
    show Ending.returned (.tuple #[.string ⟨(Lib.trimPrefix (Lib.decDigits z.natAbs) [45]).toArray⟩, .bool (Lib.hasPrefix (Lib.decDigits z.natAbs) [45])]) = _
    rw [h2.1, h2.2]
set_option maxHeartbeats 1600000 in
theorem split_any (z : Int) (w : World) (hl : (Lib.decDigits z.natAbs).length ≤ 80000) :
    Calls Tryz.prog 150 #[.string ⟨(iT z).toArray⟩] w fun e w' => ∃ v, e = .returned (.tuple #[v, .bool (decide (z < 0))]) ∧ ∃ y : Bel w, w' = y.w ∧ OwnV y.w w.heap.size 76 v (uVs (lim z.natAbs)) := by
  have HC := Lib.hid (cut_any z)
  have HLo := Lib.hid (fun w' => long_any (Lib.decDigits z.natAbs) w' (dec_digits _) hl)
  rw [dec_num] at HLo
  generalize Lib.decDigits z.natAbs = d at *
  generalize iT z = t at *
  generalize decide (z < 0) = m at *
  generalize z.natAbs = n at *
  go_enter Tryz.func150, Tryz.ntmps150
  go_wp2_with fail
  (with_reducible refine (HC.out _).mono ?_)
  rintro _ _ ⟨rfl, x, rfl⟩
  have hxs := x.size_le
  dsimp only
  go_wp2_with fail
  refine (HLo.out _).mono ?_
  rintro _ _ ⟨v, rfl, y, rfl, hv⟩
  dsimp only
  obtain ⟨pa, cap, rfl, hcc⟩ := showsV_at (ownV_shows hv)
  go_wp2
  go_ret2
  exact ⟨_, rfl, ⟨_, by (repeat' (first | (with_reducible first | apply Zl1 | apply Zl2 | apply Zl3 | apply Zl4 | apply Zl5 | apply Zl6 | apply Zl7 | apply Zl8 | apply Zl9 | apply Zla | apply Zlb | apply Zlc) | (dsimp only; with_reducible first | apply Zl8 | apply Zl2 | apply Zld) | with_reducible assumption | omega | (dsimp only; omega)))⟩, rfl, ownV_mono hv hxs⟩
/-- A number with a sign. -/
def sg (m : Bool) (n : Nat) : Int := if m then -(n : Int) else n
theorem sg_abs (m : Bool) (n : Nat) : (sg m n).natAbs = n := by cases m <;> simp [sg]
theorem sg_text (m : Bool) (n : Nat) : iT (sg m n) = if m = true ∧ n ≠ 0 then 45 :: Lib.decDigits n else Lib.decDigits n := by
  unfold iT
  rw [sg_abs]
  cases m
  · rw [if_neg (by simp [sg]), if_neg (by simp)]
  · by_cases h : n = 0
    · subst h; rfl
    · rw [if_pos (by simp [sg]; omega), if_pos ⟨rfl, h⟩]
theorem bkL_lt {L : List Nat} (h : ∀ x ∈ L, x < 1000000000) : ∀ k, ∀ p ∈ bkL L k, p.2 < 1000000000
  | 0, p, hp => by simp [bkL] at hp
  | k + 1, p, hp => by
    rw [bkL] at hp
    rcases List.mem_cons.1 hp with rfl | hp
    · show L.getD k 0 < _
      rw [List.getD_eq_getElem?_getD]
      cases hk : L[k]? with
      | none => decide
      | some x => exact h x (List.mem_of_getElem? hk)
    · exact bkL_lt h k p hp
theorem dec_len (n : Nat) (hl : (lim n).length ≤ 10000) : (Lib.decDigits n).length ≤ 90000 := by
  by_cases hn : n = 0
  · subst hn; rw [dec_small (by decide)]; decide
  · rw [← txt_all n hn]
    have := txt_len (lim n).length (bkL (lim n) (lim n).length) (bkL_lt (lim_lt n) _)
    rw [bkL_len] at this
    omega
set_option maxHeartbeats 1600000 in
theorem signed_any (m : Bool) (n : Nat) (a : Option Addr) (cap : Nat) (w : World) (hL : Limbs w a (lim n)) (hl : (lim n).length ≤ 10000) (hT : Tab w) :
    Calls Tryz.prog 153 #[.slice a (lim n).length cap, .bool m] w (Ret (.string ⟨(iT (sg m n)).toArray⟩) w) := by
  have HTX := Lib.hid (text_any a cap n w hL hl hT)
  have hdl := dec_len n hl
  have hiff : (lim n).length = 0 ↔ n = 0 := by rw [List.length_eq_zero_iff]; exact limbs_nil (by decide)
  cases m
  · have HS := Lib.hid ((sg_text false n).trans (if_neg (by simp)))
    clear hiff hL
    generalize lim n = L at *
    generalize Lib.decDigits n = d at *
    generalize iT (sg false n) = t at *
    go_enter Tryz.func153, Tryz.ntmps153
    go_wp2_with fail
    (with_reducible refine HTX.out.mono ?_)
    rintro _ _ ⟨rfl, y, rfl⟩
    go_wp2
    go_ret
    exact Ret.mk (by exact str_eq HS.out.symm) (by (repeat' (first | (with_reducible first | apply Zl1 | apply Zl2 | apply Zl3 | apply Zl4 | apply Zl5 | apply Zl6 | apply Zl7 | apply Zl8 | apply Zl9 | apply Zla | apply Zlb | apply Zlc) | (dsimp only; with_reducible first | apply Zl8 | apply Zl2 | apply Zld) | with_reducible assumption | omega | (dsimp only; omega))))
  · by_cases h0 : n = 0
    · have HS := Lib.hid ((sg_text true n).trans (if_neg (fun h => h.2 h0)))
      have hl0 := hiff.2 h0
      have ht : (0 < (lim n).length) = False := eq_false (by omega)
      clear hiff hL h0 hl0
      generalize lim n = L at *
      generalize Lib.decDigits n = d at *
      generalize iT (sg true n) = t at *
      go_enter Tryz.func153, Tryz.ntmps153
      go_wp2_with fail
      (with_reducible refine HTX.out.mono ?_)
      rintro _ _ ⟨rfl, y, rfl⟩
      go_wp2
      go_ret
      exact Ret.mk (by exact str_eq HS.out.symm) (by (repeat' (first | (with_reducible first | apply Zl1 | apply Zl2 | apply Zl3 | apply Zl4 | apply Zl5 | apply Zl6 | apply Zl7 | apply Zl8 | apply Zl9 | apply Zla | apply Zlb | apply Zlc) | (dsimp only; with_reducible first | apply Zl8 | apply Zl2 | apply Zld) | with_reducible assumption | omega | (dsimp only; omega))))
    · have HS := Lib.hid ((sg_text true n).trans (if_pos ⟨rfl, h0⟩))
      have ht : (0 < (lim n).length) = True := eq_true (by have := mt hiff.1 h0; omega)
      clear hiff hL h0
      generalize lim n = L at *
      generalize Lib.decDigits n = d at *
      generalize iT (sg true n) = t at *
      have l1 : (9223372036854775807 < 1 + d.length) = False := eq_false (by omega)
      have b1 : (ByteArray.mk #[45]) ++ ⟨d.toArray⟩ = ⟨([45] ++ d).toArray⟩ := bytes_app [45] d
      go_enter Tryz.func153, Tryz.ntmps153
      go_wp2_with fail
      (with_reducible refine HTX.out.mono ?_)
      rintro _ _ ⟨rfl, y, rfl⟩
      go_wp2
      go_ret
      exact Ret.mk (by rw [HS.out]; rfl) (by (repeat' (first | (with_reducible first | apply Zl1 | apply Zl2 | apply Zl3 | apply Zl4 | apply Zl5 | apply Zl6 | apply Zl7 | apply Zl8 | apply Zl9 | apply Zla | apply Zlb | apply Zlc) | (dsimp only; with_reducible first | apply Zl8 | apply Zl2 | apply Zld) | with_reducible assumption | omega | (dsimp only; omega))))
end Go.Proofs.YtehgeoipbgpocaaGreatDoor.I

namespace Go.Proofs.YtehgeoipbgpocaaGreatDoor.I
set_option linter.unusedVariables false
set_option linter.unusedSimpArgs false
open Go.RowKit Go.Shelf
attribute [local go_sem low] Bel.cell Bel.frozen alloc_cell alloc_frozen

theorem quick_no (z : Int) (D : Nat) (w : World) (hl : D < (Lib.decDigits z.natAbs).length) (hD : D ≤ 1000) (hll : (Lib.decDigits z.natAbs).length ≤ 100000) :
    Calls Tryz.prog 154 #[.string ⟨(iT z).toArray⟩, .int .i64 (D : Int)] w (Ret (.tuple #[.int .i64 0, .bool false]) w) := by
  have HC := Lib.hid (cut_any z)
  generalize Lib.decDigits z.natAbs = d at *
  generalize iT z = t at *
  have hD' : decide ((D : Int) < (d.length : Int)) = true := decide_eq_true (by omega)
  generalize decide (z < 0) = m at *
  go_enter Tryz.func154, Tryz.ntmps154
  go_wp2_with fail
  (with_reducible refine (HC.out _).mono ?_)
  rintro _ _ ⟨rfl, x, rfl⟩
  dsimp only
  go_wp2
  refine bodyPost_ret (v := .tuple #[.int .i64 0, .bool false]) (by simp [results, Tryz.results154, go_sem]) rfl (Ret.mk (by rfl) (by (repeat' (first | (with_reducible first | apply Zl1 | apply Zl2 | apply Zl3 | apply Zl4 | apply Zl5 | apply Zl6 | apply Zl7 | apply Zl8 | apply Zl9 | apply Zla | apply Zlb | apply Zlc) | (dsimp only; with_reducible first | apply Zl8 | apply Zl2 | apply Zld) | with_reducible assumption | omega | (dsimp only; omega)))))
set_option maxRecDepth 100000 in
set_option maxHeartbeats 3200000 in
theorem quick_yes (z : Int) (D : Nat) (w : World) (hl : (Lib.decDigits z.natAbs).length ≤ D) (hD : D ≤ 18) :
    Calls Tryz.prog 154 #[.string ⟨(iT z).toArray⟩, .int .i64 (D : Int)] w (Ret (.tuple #[.int .i64 z, .bool true]) w) := by
  have HC := Lib.hid (cut_any z)
  have HD := Lib.hid (dec_digits z.natAbs)
  have hn := dec_num z.natAbs
  have hnz : z = if z < 0 then -(z.natAbs : Int) else (z.natAbs : Int) := by split <;> omega
  have hzb : z.natAbs < 1000000000000000000 := by
    rw [← hn]
    exact Nat.lt_of_lt_of_le (numD_lt HD.out) (Nat.pow_le_pow_right (by decide) (by omega : (Lib.decDigits z.natAbs).length ≤ 18))
  generalize Lib.decDigits z.natAbs = d at *
  generalize iT z = t at *
  have hD' : decide ((D : Int) < (d.length : Int)) = false := decide_eq_false (by omega)
  obtain ⟨m, hm⟩ : ∃ m, decide (z < 0) = m := ⟨_, rfl⟩
  have HZ := Lib.hid (show z = if m = true then -(z.natAbs : Int) else (z.natAbs : Int) by
    rw [← hm]
    by_cases h : z < 0
    · rw [if_pos h] at hnz; rw [if_pos (decide_eq_true h)]; exact hnz
    · rw [if_neg h] at hnz; rw [if_neg (by simpa using h)]; exact hnz)
  rw [hm] at HC
  clear hm hnz
  generalize z.natAbs = u at *
  have HN := Lib.hid hn
  clear hn
  go_enter Tryz.func154, Tryz.ntmps154
  go_wp2_with fail
  (with_reducible refine (HC.out _).mono ?_)
  rintro _ _ ⟨rfl, x, rfl⟩
  have hxs := x.size_le
  dsimp only
  obtain ⟨xb, capb, hcv, hcc⟩ := conv_bytes x.w d
  have hbs := xb.size_le
  have HCC := Lib.hid hcc
  clear hcc
  go_wp2
  go_loopw [8, 23] (fun c j wr => ∃ k : Nat, j = .int .i64 (k : Int) ∧ k ≤ d.length ∧ c = .int .i64 (numD (d.take k) : Nat) ∧ wr = xb.w) (fun _ j _ => d.length - (intOf j).toNat)
  case atStart => refine ⟨0, ?_, ?_, ?_, ?_⟩ <;> first | rfl | trivial | omega
  case round =>
    obtain ⟨k, rfl, hk, rfl, rfl⟩ := hrel
    by_cases hkc : k < d.length
    · have hki : (k : Int) < (d.length : Int) := by omega
      obtain ⟨c, hc⟩ : ∃ c, d[k]? = some c := ⟨_, List.getElem?_eq_getElem hkc⟩
      have g1 := HCC.out k c hc
      have hcb := HD.out c (List.mem_of_getElem? hc)
      have hus := u8_sub hcb
      have hnx := numD_next hc
      have hnl : numD (d.take k) < 1000000000000000000 := by
        have := numD_lt (digits_take HD.out k)
        exact Nat.lt_of_lt_of_le this (Nat.pow_le_pow_right (by decide) (by rw [List.length_take]; omega : (d.take k).length ≤ 18))
      have hdb : c.toNat - 48 ≤ 9 := by omega
      obtain ⟨dg, hdg⟩ : ∃ d, c.toNat - 48 = d := ⟨_, rfl⟩
      rw [hdg] at hus hnx hdb
      have hnl2 : numD (d.take k) ≤ 99999999999999999 := by
        have := numD_lt (digits_take HD.out k)
        have h2 : (10 : Nat) ^ (d.take k).length ≤ 10 ^ 17 := Nat.pow_le_pow_right (by decide) (by rw [List.length_take]; omega)
        have : (10 : Nat) ^ 17 = 100000000000000000 := by decide
        omega
      have HNX := Lib.hid hnx
      clear hc hcb hdg hnx
      generalize numD (d.take k) = v0 at *
      go_wp2
      go_roundw
      case rel => exact ⟨k + 1, by go_num, by omega, by rw [HNX.out]; go_num, by first | rfl | trivial⟩
      case measure => simp [intOf]; omega
    · obtain rfl : k = d.length := by omega
      rw [List.take_length, HN.out]
      cases m
      · have HV := Lib.hid (show z = (u : Int) from HZ.out)
        go_wp2
        refine bodyPost_ret (v := .tuple #[.int .i64 u, .bool true]) (by simp [results, Tryz.results154, go_sem]) rfl (Ret.mk (by rw [HV.out]) (by (repeat' (first | (with_reducible first | apply Zl1 | apply Zl2 | apply Zl3 | apply Zl4 | apply Zl5 | apply Zl6 | apply Zl7 | apply Zl8 | apply Zl9 | apply Zla | apply Zlb | apply Zlc) | (dsimp only; with_reducible first | apply Zl8 | apply Zl2 | apply Zld) | with_reducible assumption | omega | (dsimp only; omega)))))
      · have HV := Lib.hid (show z = -(u : Int) from HZ.out)
        have hw : IntKind.i64.wrap (-(u : Int)) = -(u : Int) := IntWalk.i64_in _ (by omega)
        go_wp2
        refine bodyPost_ret (v := .tuple #[.int .i64 (-(u : Int)), .bool true]) (by simp [results, Tryz.results154, go_sem]) rfl (Ret.mk (by rw [HV.out]) (by (repeat' (first | (with_reducible first | apply Zl1 | apply Zl2 | apply Zl3 | apply Zl4 | apply Zl5 | apply Zl6 | apply Zl7 | apply Zl8 | apply Zl9 | apply Zla | apply Zlb | apply Zlc) | (dsimp only; with_reducible first | apply Zl8 | apply Zl2 | apply Zld) | with_reducible assumption | omega | (dsimp only; omega)))))
end Go.Proofs.YtehgeoipbgpocaaGreatDoor.I

namespace Go.Proofs.YtehgeoipbgpocaaGreatDoor.I
set_option linter.unusedVariables false
set_option linter.unusedSimpArgs false
open Go.RowKit Go.Shelf
attribute [local go_sem low] Bel.cell Bel.frozen alloc_cell alloc_frozen

theorem iT_is0 (z : Int) : (iT z == [48]) = decide (z = 0) := by
  by_cases h : z = 0
  · subst h
    rw [decide_eq_true rfl, show iT 0 = [48] by rw [iT_pos (by decide), show Int.natAbs 0 = 0 from rfl, dec_small (by decide)]; rfl]
    rfl
  · rw [decide_eq_false h]
    refine beq_eq_false_iff_ne.2 fun e => h ?_
    by_cases hz : z < 0
    · rw [iT_neg hz] at e
      injection e with e1
      exact absurd e1 (by decide)
    · rw [iT_pos hz] at e
      have := dec_num z.natAbs
      rw [e, show numD [48] = 0 from rfl] at this
      omega
theorem of_any (n : Int) (w : World) (h0 : -9223372036854775808 ≤ n) (h1 : n ≤ 9223372036854775807) (hT : Tab w) : Calls Tryz.prog 147 #[.int .i64 n] w (Ret (.string ⟨(iT n).toArray⟩) w) := by
  have HI := Lib.hid (itoa_any n w h0 h1 hT)
  rw [iT_itoa] at HI
  generalize iT n = t at *
  go_enter Tryz.func147, Tryz.ntmps147
  go_wp2_with fail
  (with_reducible refine HI.out.mono ?_)
  rintro _ _ ⟨rfl, x, rfl⟩
  go_wp2
  go_ret
  exact Ret.mk (by rfl) (by (repeat' (first | (with_reducible first | apply Zl1 | apply Zl2 | apply Zl3 | apply Zl4 | apply Zl5 | apply Zl6 | apply Zl7 | apply Zl8 | apply Zl9 | apply Zla | apply Zlb | apply Zlc) | (dsimp only; with_reducible first | apply Zl8 | apply Zl2 | apply Zld) | with_reducible assumption | omega | (dsimp only; omega))))
theorem has_pre (z : Int) (w : World) : Calls Tryz.prog 149 #[.string ⟨(iT z).toArray⟩, .string ⟨#[45]⟩] w (Ret (.bool (decide (z < 0))) w) := by
  have h := Tryz.strings_HasPrefix ⟨(iT z).toArray⟩ ⟨#[45]⟩ w
  by_cases hz : z < 0
  · rw [iT_neg hz] at h ⊢
    have h2 := pre_neg (Lib.decDigits z.natAbs)
    refine h.mono fun e w' ⟨he, hw⟩ => ⟨?_, ⟨w, Below.refl _ _⟩, hw⟩
    rw [he, decide_eq_true hz]
    show Ending.returned (.bool (Lib.hasPrefix (45 :: Lib.decDigits z.natAbs) [45])) = _
    rw [h2.1]
  · rw [iT_pos hz] at h ⊢
    have h2 := pre_pos z.natAbs
    refine h.mono fun e w' ⟨he, hw⟩ => ⟨?_, ⟨w, Below.refl _ _⟩, hw⟩
    rw [he, decide_eq_false hz]
    show Ending.returned (.bool (Lib.hasPrefix (Lib.decDigits z.natAbs) [45])) = _
    rw [h2.1]
theorem sign_any (z : Int) (w : World) : Calls Tryz.prog 90 #[.string ⟨(iT z).toArray⟩] w (Ret (.int .i64 z.sign) w) := by
  have hq := iT_is0 z
  have HC := Lib.hid (has_pre z)
  by_cases h0 : z = 0
  · subst h0
    rw [decide_eq_true rfl] at hq
    clear HC
    generalize iT 0 = t at *
    go_enter Tryz.func90, Tryz.ntmps90
    go_wp2
    go_ret
    exact Ret.mk (by rfl) (by (repeat' (first | (with_reducible first | apply Zl1 | apply Zl2 | apply Zl3 | apply Zl4 | apply Zl5 | apply Zl6 | apply Zl7 | apply Zl8 | apply Zl9 | apply Zla | apply Zlb | apply Zlc) | (dsimp only; with_reducible first | apply Zl8 | apply Zl2 | apply Zld) | with_reducible assumption | omega | (dsimp only; omega))))
  · rw [decide_eq_false h0] at hq
    by_cases hz : z < 0
    · rw [decide_eq_true hz] at HC
      have HS := Lib.hid (Int.sign_eq_neg_one_of_neg hz)
      generalize iT z = t at *
      go_enter Tryz.func90, Tryz.ntmps90
      go_wp2_with fail
      (with_reducible refine (HC.out _).mono ?_)
      rintro _ _ ⟨rfl, x, rfl⟩
      go_wp2
      go_ret
      exact Ret.mk (by rw [HS.out]; rfl) (by (repeat' (first | (with_reducible first | apply Zl1 | apply Zl2 | apply Zl3 | apply Zl4 | apply Zl5 | apply Zl6 | apply Zl7 | apply Zl8 | apply Zl9 | apply Zla | apply Zlb | apply Zlc) | (dsimp only; with_reducible first | apply Zl8 | apply Zl2 | apply Zld) | with_reducible assumption | omega | (dsimp only; omega))))
    · rw [decide_eq_false hz] at HC
      have HS := Lib.hid (Int.sign_eq_one_of_pos (show 0 < z by omega))
      generalize iT z = t at *
      go_enter Tryz.func90, Tryz.ntmps90
      go_wp2_with fail
      (with_reducible refine (HC.out _).mono ?_)
      rintro _ _ ⟨rfl, x, rfl⟩
      go_wp2
      go_ret
      exact Ret.mk (by rw [HS.out]; rfl) (by (repeat' (first | (with_reducible first | apply Zl1 | apply Zl2 | apply Zl3 | apply Zl4 | apply Zl5 | apply Zl6 | apply Zl7 | apply Zl8 | apply Zl9 | apply Zla | apply Zlb | apply Zlc) | (dsimp only; with_reducible first | apply Zl8 | apply Zl2 | apply Zld) | with_reducible assumption | omega | (dsimp only; omega))))
theorem quick_18 (z : Int) (w : World) (hl : (Lib.decDigits z.natAbs).length ≤ 18) : Calls Tryz.prog 154 #[.string ⟨(iT z).toArray⟩, .int .i64 18] w (Ret (.tuple #[.int .i64 z, .bool true]) w) := quick_yes z 18 w hl (by decide)
theorem quick_n18 (z : Int) (w : World) (hl : 18 < (Lib.decDigits z.natAbs).length) (hll : (Lib.decDigits z.natAbs).length ≤ 100000) : Calls Tryz.prog 154 #[.string ⟨(iT z).toArray⟩, .int .i64 18] w (Ret (.tuple #[.int .i64 0, .bool false]) w) := quick_no z 18 w hl (by decide) hll
theorem quick_9 (z : Int) (w : World) (hl : (Lib.decDigits z.natAbs).length ≤ 9) : Calls Tryz.prog 154 #[.string ⟨(iT z).toArray⟩, .int .i64 9] w (Ret (.tuple #[.int .i64 z, .bool true]) w) := quick_yes z 9 w hl (by decide)
theorem quick_n9 (z : Int) (w : World) (hl : 9 < (Lib.decDigits z.natAbs).length) (hll : (Lib.decDigits z.natAbs).length ≤ 100000) : Calls Tryz.prog 154 #[.string ⟨(iT z).toArray⟩, .int .i64 9] w (Ret (.tuple #[.int .i64 0, .bool false]) w) := quick_no z 9 w hl (by decide) hll
theorem smallI_any (z : Int) (w : World) (hll : (Lib.decDigits z.natAbs).length ≤ 100000) : Calls Tryz.prog 260 #[.string ⟨(iT z).toArray⟩] w
    (Ret (.tuple #[.int .i64 (if (Lib.decDigits z.natAbs).length ≤ 18 then z else 0), .bool (decide ((Lib.decDigits z.natAbs).length ≤ 18))]) w) := by
  by_cases h : (Lib.decDigits z.natAbs).length ≤ 18
  · have HQ := Lib.hid (quick_18 z w h)
    rw [if_pos h, decide_eq_true h]
    generalize iT z = t at *
    go_enter Tryz.func260, Tryz.ntmps260
    go_wp2_with fail
    (with_reducible refine HQ.out.mono ?_)
    rintro _ _ ⟨rfl, x, rfl⟩
    dsimp only
    go_wp2
    refine bodyPost_ret (v := .tuple #[.int .i64 z, .bool true]) (by simp [results, Tryz.results260, go_sem]) rfl (Ret.mk (by rfl) (by (repeat' (first | (with_reducible first | apply Zl1 | apply Zl2 | apply Zl3 | apply Zl4 | apply Zl5 | apply Zl6 | apply Zl7 | apply Zl8 | apply Zl9 | apply Zla | apply Zlb | apply Zlc) | (dsimp only; with_reducible first | apply Zl8 | apply Zl2 | apply Zld) | with_reducible assumption | omega | (dsimp only; omega)))))
  · have HQ := Lib.hid (quick_n18 z w (by omega) hll)
    rw [if_neg h, decide_eq_false h]
    generalize iT z = t at *
    go_enter Tryz.func260, Tryz.ntmps260
    go_wp2_with fail
    (with_reducible refine HQ.out.mono ?_)
    rintro _ _ ⟨rfl, x, rfl⟩
    dsimp only
    go_wp2
    refine bodyPost_ret (v := .tuple #[.int .i64 0, .bool false]) (by simp [results, Tryz.results260, go_sem]) rfl (Ret.mk (by rfl) (by (repeat' (first | (with_reducible first | apply Zl1 | apply Zl2 | apply Zl3 | apply Zl4 | apply Zl5 | apply Zl6 | apply Zl7 | apply Zl8 | apply Zl9 | apply Zla | apply Zlb | apply Zlc) | (dsimp only; with_reducible first | apply Zl8 | apply Zl2 | apply Zld) | with_reducible assumption | omega | (dsimp only; omega)))))
end Go.Proofs.YtehgeoipbgpocaaGreatDoor.I

namespace Go.Proofs.YtehgeoipbgpocaaGreatDoor.I
set_option linter.unusedVariables false
set_option linter.unusedSimpArgs false
open Go.RowKit Go.Shelf
attribute [local go_sem low] Bel.cell Bel.frozen alloc_cell alloc_frozen

/-- How many digits an integer has. -/
def nd (z : Int) : Nat := (Lib.decDigits z.natAbs).length
theorem nd_lt (z : Int) : z.natAbs < 10 ^ nd z := by
  have h := numD_lt (dec_digits z.natAbs)
  rw [dec_num] at h
  exact h
theorem lim_le {n k : Nat} (h : n < 10 ^ (9 * k)) : (lim n).length ≤ k := limbs_len_le (by decide) (by
  rw [Nat.pow_mul, show (10 : Nat) ^ 9 = 1000000000 from rfl] at h
  exact h)
theorem lim_le2 {n d k : Nat} (h : n < 10 ^ d) (hd : d ≤ 9 * k) : (lim n).length ≤ k := lim_le (Nat.lt_of_lt_of_le h (Nat.pow_le_pow_right (by decide) hd))
theorem lim_nd (z : Int) (h : nd z ≤ 80000) : (lim z.natAbs).length ≤ 10000 := lim_le2 (nd_lt z) (by omega)
theorem mul_lt10 {a b d e : Nat} (h1 : a < 10 ^ d) (h2 : b < 10 ^ e) : a * b < 10 ^ (d + e) := by
  rw [Nat.pow_add]
  exact Nat.mul_lt_mul'' h1 h2
theorem lim_mul (a b : Int) (h : nd a + nd b ≤ 90000) : (lim (a.natAbs * b.natAbs)).length ≤ 10000 := lim_le2 (mul_lt10 (nd_lt a) (nd_lt b)) (by omega)
theorem sg_mul (a b : Int) : sg (decide (a < 0) != decide (b < 0)) (a.natAbs * b.natAbs) = a * b := by
  have ha : a = if a < 0 then -(a.natAbs : Int) else (a.natAbs : Int) := by split <;> omega
  have hb : b = if b < 0 then -(b.natAbs : Int) else (b.natAbs : Int) := by split <;> omega
  unfold sg
  by_cases h1 : a < 0 <;> by_cases h2 : b < 0
  · rw [if_pos h1] at ha
    rw [if_pos h2] at hb
    rw [if_neg (by simp [h1, h2])]
    conv => rhs; rw [ha, hb]
    rw [Int.neg_mul_neg, Int.natCast_mul]
  · rw [if_pos h1] at ha
    rw [if_neg h2] at hb
    rw [if_pos (by simp [h1]; omega)]
    conv => rhs; rw [ha, hb]
    rw [Int.neg_mul, Int.natCast_mul]
  · rw [if_neg h1] at ha
    rw [if_pos h2] at hb
    rw [if_pos (by simp [h2]; omega)]
    conv => rhs; rw [ha, hb]
    rw [Int.mul_neg, Int.natCast_mul]
  · rw [if_neg h1] at ha
    rw [if_neg h2] at hb
    rw [if_neg (by simp [h1, h2])]
    conv => rhs; rw [ha, hb]
    rw [Int.natCast_mul]
theorem mul_small {a b : Int} (h1 : nd a ≤ 9) (h2 : nd b ≤ 9) : -1000000000000000000 ≤ a * b ∧ a * b ≤ 1000000000000000000 := by
  have h3 := nd_lt a
  have h4 := nd_lt b
  have h5 : (10 : Nat) ^ nd a ≤ 10 ^ 9 := Nat.pow_le_pow_right (by decide) h1
  have h6 : (10 : Nat) ^ nd b ≤ 10 ^ 9 := Nat.pow_le_pow_right (by decide) h2
  have h7 : (a * b).natAbs ≤ 1000000000 * 1000000000 := by
    rw [Int.natAbs_mul]
    exact Nat.mul_le_mul (by have : (10 : Nat) ^ 9 = 1000000000 := rfl; omega) (by have : (10 : Nat) ^ 9 = 1000000000 := rfl; omega)
  omega
set_option maxRecDepth 100000 in
set_option maxHeartbeats 6400000 in
theorem mul_any (a b : Int) (w : World) (ha : nd a ≤ 40000) (hb : nd b ≤ 40000) (hT : Tab w) :
    Calls Tryz.prog 92 #[.string ⟨(iT a).toArray⟩, .string ⟨(iT b).toArray⟩] w (Ret (.string ⟨(iT (a * b)).toArray⟩) w) := by
  have HT := Lib.hid hT
  clear hT
  have HSa := Lib.hid (fun w' => split_any a w' (show nd a ≤ 80000 by omega))
  have HSb := Lib.hid (fun w' => split_any b w' (show nd b ≤ 80000 by omega))
  have hla := lim_nd a (by omega)
  have hlb := lim_nd b (by omega)
  have hlm := lim_mul a b (by omega)
  have HSG := Lib.hid (sg_mul a b)
  have HQa := Lib.hid (fun w' (h : nd a ≤ 9) => quick_9 a w' h)
  have HQb := Lib.hid (fun w' (h : nd b ≤ 9) => quick_9 b w' h)
  have HNa := Lib.hid (fun w' (h : 9 < nd a) => quick_n9 a w' h (show nd a ≤ 100000 by omega))
  have HNb := Lib.hid (fun w' (h : 9 < nd b) => quick_n9 b w' h (show nd b ≤ 100000 by omega))
  have HMS := Lib.hid (@mul_small a b)
  obtain ⟨p, hp⟩ : ∃ p, a * b = p := ⟨_, rfl⟩
  rw [hp] at HSG HMS ⊢
  have HP := Lib.hid hp
  clear hp
  by_cases h9 : nd a ≤ 9
  · by_cases h9b : nd b ≤ 9
    · have hms := HMS.out h9 h9b
      have hw : IntKind.i64.wrap p = p := IntWalk.i64_in _ (by omega)
      have hpe : a * b = p := HP.out
      go_enter Tryz.func92, Tryz.ntmps92
      go_wp2_with fail
      (with_reducible refine (HQa.out _ h9).mono ?_)
      rintro _ _ ⟨rfl, x1, rfl⟩
      have hx1 := x1.size_le
      dsimp only
      go_wp2_with fail
      (with_reducible refine (HQb.out _ h9b).mono ?_)
      rintro _ _ ⟨rfl, x2, rfl⟩
      have hx2 := x2.size_le
      dsimp only
      go_wp2_with fail
      (with_reducible refine (of_any p _ (by omega) (by omega) (HT.out.of (by (repeat' (first | (with_reducible first | apply Zl1 | apply Zl2 | apply Zl3 | apply Zl4 | apply Zl5 | apply Zl6 | apply Zl7 | apply Zl8 | apply Zl9 | apply Zla | apply Zlb | apply Zlc) | (dsimp only; with_reducible first | apply Zl8 | apply Zl2 | apply Zld) | with_reducible assumption | omega | (dsimp only; omega)))))).mono ?_)
      rintro _ _ ⟨rfl, x3, rfl⟩
      go_wp2
      go_ret
      exact Ret.mk (by rfl) (by (repeat' (first | (with_reducible first | apply Zl1 | apply Zl2 | apply Zl3 | apply Zl4 | apply Zl5 | apply Zl6 | apply Zl7 | apply Zl8 | apply Zl9 | apply Zla | apply Zlb | apply Zlc) | (dsimp only; with_reducible first | apply Zl8 | apply Zl2 | apply Zld) | with_reducible assumption | omega | (dsimp only; omega))))
    · go_enter Tryz.func92, Tryz.ntmps92
      go_wp2_with fail
      (with_reducible refine (HQa.out _ h9).mono ?_)
      rintro _ _ ⟨rfl, x1, rfl⟩
      have hx1 := x1.size_le
      dsimp only
      go_wp2_with fail
      (with_reducible refine (HNb.out _ (by omega)).mono ?_)
      rintro _ _ ⟨rfl, x2, rfl⟩
      have hx2 := x2.size_le
      dsimp only
      go_wp2_with fail
      refine (HSa.out _).mono ?_
      rintro _ _ ⟨v1, rfl, y1, rfl, hv1⟩
      have hs1 := y1.size_le
      obtain ⟨p1, c1, rfl, hL1⟩ := limbs_own hv1
      have HV1 := Lib.hid hv1
      clear hv1 hL1
      dsimp only
      go_wp2_with fail
      refine (HSb.out _).mono ?_
      rintro _ _ ⟨v2, rfl, y2, rfl, hv2⟩
      have hs2 := y2.size_le
      obtain ⟨p2, c2, rfl, hL2⟩ := limbs_own hv2
      have hW1 := ownV_bel HV1.out y2
      obtain ⟨p1', c1', he1, hL1⟩ := limbs_own hW1
      cases he1
      dsimp only
      go_wp2_with fail
      refine (times_any _ _ _ _ _ _ _ hL1 hL2 hla hlb).mono ?_
      rintro _ _ ⟨v3, rfl, y3, rfl, hv3⟩
      have hs3 := y3.size_le
      obtain ⟨p3, c3, rfl, hL3⟩ := limbs_own hv3
      clear hW1 hL1 hL2 hv2
      dsimp only
      go_wp2_with fail
      refine (signed_any _ _ _ _ _ hL3 hlm (HT.out.of (by (repeat' (first | (with_reducible first | apply Zl1 | apply Zl2 | apply Zl3 | apply Zl4 | apply Zl5 | apply Zl6 | apply Zl7 | apply Zl8 | apply Zl9 | apply Zla | apply Zlb | apply Zlc) | (dsimp only; with_reducible first | apply Zl8 | apply Zl2 | apply Zld) | with_reducible assumption | omega | (dsimp only; omega)))))).mono ?_
      rintro _ _ ⟨rfl, y4, rfl⟩
      dsimp only
      go_wp2
      go_ret
      exact Ret.mk (by rw [← HSG.out]; rfl) (by (repeat' (first | (with_reducible first | apply Zl1 | apply Zl2 | apply Zl3 | apply Zl4 | apply Zl5 | apply Zl6 | apply Zl7 | apply Zl8 | apply Zl9 | apply Zla | apply Zlb | apply Zlc) | (dsimp only; with_reducible first | apply Zl8 | apply Zl2 | apply Zld) | with_reducible assumption | omega | (dsimp only; omega))))
  · go_enter Tryz.func92, Tryz.ntmps92
    go_wp2_with fail
    (with_reducible refine (HNa.out _ (by omega)).mono ?_)
    rintro _ _ ⟨rfl, x1, rfl⟩
    have hx1 := x1.size_le
    dsimp only
    go_wp2_with fail
    refine (HSa.out _).mono ?_
    rintro _ _ ⟨v1, rfl, y1, rfl, hv1⟩
    have hs1 := y1.size_le
    obtain ⟨p1, c1, rfl, hL1⟩ := limbs_own hv1
    have HV1 := Lib.hid hv1
    clear hv1 hL1
    dsimp only
    go_wp2_with fail
    refine (HSb.out _).mono ?_
    rintro _ _ ⟨v2, rfl, y2, rfl, hv2⟩
    have hs2 := y2.size_le
    obtain ⟨p2, c2, rfl, hL2⟩ := limbs_own hv2
    have hW1 := ownV_bel HV1.out y2
    obtain ⟨p1', c1', he1, hL1⟩ := limbs_own hW1
    cases he1
    dsimp only
    go_wp2_with fail
    refine (times_any _ _ _ _ _ _ _ hL1 hL2 hla hlb).mono ?_
    rintro _ _ ⟨v3, rfl, y3, rfl, hv3⟩
    have hs3 := y3.size_le
    obtain ⟨p3, c3, rfl, hL3⟩ := limbs_own hv3
    clear hW1 hL1 hL2 hv2
    dsimp only
    go_wp2_with fail
    refine (signed_any _ _ _ _ _ hL3 hlm (HT.out.of (by (repeat' (first | (with_reducible first | apply Zl1 | apply Zl2 | apply Zl3 | apply Zl4 | apply Zl5 | apply Zl6 | apply Zl7 | apply Zl8 | apply Zl9 | apply Zla | apply Zlb | apply Zlc) | (dsimp only; with_reducible first | apply Zl8 | apply Zl2 | apply Zld) | with_reducible assumption | omega | (dsimp only; omega)))))).mono ?_
    rintro _ _ ⟨rfl, y4, rfl⟩
    dsimp only
    go_wp2
    go_ret
    exact Ret.mk (by rw [← HSG.out]; rfl) (by (repeat' (first | (with_reducible first | apply Zl1 | apply Zl2 | apply Zl3 | apply Zl4 | apply Zl5 | apply Zl6 | apply Zl7 | apply Zl8 | apply Zl9 | apply Zla | apply Zlb | apply Zlc) | (dsimp only; with_reducible first | apply Zl8 | apply Zl2 | apply Zld) | with_reducible assumption | omega | (dsimp only; omega))))
end Go.Proofs.YtehgeoipbgpocaaGreatDoor.I
