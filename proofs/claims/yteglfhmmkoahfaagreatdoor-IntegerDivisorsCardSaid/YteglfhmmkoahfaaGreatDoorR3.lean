/- The reference's whole. -/
import Derived.Test.YteglfhmmkoahfaaGreatDoorR2
import Derived.Test.YteglfhmmkoahfaaGreatDoorM15
namespace Go.Proofs.YteglfhmmkoahfaaGreatDoor
open Go.RowKit
attribute [local go_sem low] Bel.cell Bel.frozen alloc_cell alloc_frozen

/-- Four digits. -/
def pad4 (x : Nat) : List UInt8 := List.replicate (4 - (Lib.decDigits x).length) 48 ++ Lib.decDigits x
theorem nDig4 {x : Nat} (h : x < 10000) : (Lib.decDigits x).length ≤ 4 := by
  by_cases h0 : x = 0
  · subst h0; rw [dec_small (by decide)]; decide
  · have h2 := (Nat.pow_lt_pow_iff_right (show 1 < 10 by decide)).1 (Nat.lt_of_le_of_lt (dec_ge h0) (show x < 10 ^ 4 from h))
    omega
theorem pad4_len {x : Nat} (h : x < 10000) : (pad4 x).length = 4 := by
  have := nDig4 h
  unfold pad4; rw [List.length_append, List.length_replicate]; omega
theorem pad4_num (x : Nat) : numD (pad4 x) = x := by unfold pad4; rw [numD_app, zeros_num, dec_num]; omega
theorem pad4_digits (x : Nat) : Digits (pad4 x) := fun c hc => by
  rcases List.mem_append.1 hc with h | h
  · rw [(List.mem_replicate.1 h).2]; decide
  · exact dec_digits x c h
theorem dec_pad4 {q x : Nat} (hq : q ≠ 0) (hx : x < 10000) : Lib.decDigits q ++ pad4 x = Lib.decDigits (q * 10000 + x) := by
  have hc : Canon (Lib.decDigits q ++ pad4 x) := by
    refine ⟨fun c hc => ?_, fun h => ?_, fun c r he h48 => ?_⟩
    · rcases List.mem_append.1 hc with h | h
      · exact dec_digits q c h
      · exact pad4_digits x c h
    · have := dec_pos q
      have h2 := congrArg List.length h
      simp at h2
      rw [h2.1] at this; simp at this
    · cases hd : Lib.decDigits q with
      | nil => have := dec_pos q; rw [hd] at this; simp at this
      | cons a b =>
        rw [hd] at he
        simp at he
        exact absurd (by rw [he.1]; exact h48) (dec_head q hq a b hd)
  have := canon_eq _ hc
  rw [numD_app, dec_num, pad4_num, pad4_len hx] at this
  exact this
theorem itoa_pad4 {x : Nat} (h : x < 10000) : Lib.itoa (10000 + (x : Int)) = 49 :: pad4 x := by
  rw [iT_itoa, show (10000 + (x : Int)) = ((1 * 10000 + x : Nat) : Int) by omega, iT_pos (by omega), Int.natAbs_natCast, ← dec_pad4 (by decide) h, dec_small (by decide)]; rfl
theorem itoa_nat (x : Nat) : Lib.itoa (x : Int) = Lib.decDigits x := by rw [iT_itoa, iT_pos (by omega), Int.natAbs_natCast]
theorem grp_lenle {n k : Nat} (h : n < 10 ^ (4 * k)) : (grp n).length ≤ k := limbs_len_le (by decide) (by
  rw [Nat.pow_mul, show (10 : Nat) ^ 4 = 10000 from rfl] at h
  exact h)
theorem vG_drop_pos {N j : Nat} (h : j < (grp N).length) : vG ((grp N).drop j) ≠ 0 := by
  intro h0
  have hg : ∀ x ∈ (grp N).drop j, x < 10000 := fun x hx => grp_lt N x (List.mem_of_mem_drop hx)
  rcases snoc_cases (grp N) with he | ⟨m, x, he⟩
  · rw [he] at h; simp at h
  · have hx := limbs_last (by decide) N m x he
    have hj : j ≤ m.length := by rw [he, List.length_append, List.length_singleton] at h; omega
    rw [he, List.drop_append_of_le_length hj, vG_snoc] at h0
    have h1 : 10000 ^ (m.drop j).length * x = 0 := by omega
    rcases Nat.mul_eq_zero.1 h1 with h2 | h2
    · have : 0 < 10000 ^ (m.drop j).length := Nat.pow_pos (by decide)
      omega
    · exact hx h2
theorem grp_drop {N j x : Nat} (h : (grp N)[j]? = some x) : vG ((grp N).drop j) = vG ((grp N).drop (j + 1)) * 10000 + x := by
  rw [List.drop_eq_getElem_cons (List.getElem?_eq_some_iff.1 h).1, (List.getElem?_eq_some_iff.1 h).2]
  show x + 10000 * vG _ = _
  omega
theorem dec_lenle {n k : Nat} (h : n < 10 ^ k) (hk : 0 < k) : (Lib.decDigits n).length ≤ k := by
  by_cases h0 : n = 0
  · subst h0; rw [dec_small (by decide)]; exact hk
  · have h2 := (Nat.pow_lt_pow_iff_right (show 1 < 10 by decide)).1 (Nat.lt_of_le_of_lt (dec_ge h0) h)
    omega
theorem grp_bound (N : Nat) : N < 10 ^ (4 * (grp N).length) := by
  have := (limbs_bounds (B := 10000) (by decide) N).1
  rw [Nat.pow_mul]
  exact this
theorem vG_drop_le (l : List Nat) (j : Nat) : vG (l.drop j) ≤ vG l := by
  induction j generalizing l with
  | zero => exact Nat.le_refl _
  | succ j ih =>
    cases l with
    | nil => exact Nat.le_refl _
    | cons x r =>
      have h1 := ih r
      rw [List.drop_succ_cons]
      show vG (r.drop j) ≤ x + 10000 * vG r
      omega
set_option maxRecDepth 100000 in
set_option maxHeartbeats 6400000 in
theorem whole_any (m : Bool) (N : Nat) (a : Option Addr) (cap : Nat) (w : World) (h : Grps w a (grp N)) (hl : (grp N).length ≤ 10000) (hT : Tab w) :
    Calls Tryz.prog 49 #[.bool m, .slice a (grp N).length cap] w (Ret (.string ⟨(iT (sg m N)).toArray⟩) w) := by
  have HT := Lib.hid hT
  clear hT
  by_cases hN : N = 0
  · subst hN
    rw [show grp 0 = [] from limbs_zero _]
    have HS := Lib.hid (show iT (sg m 0) = [48] by rw [sg_text, if_neg (fun h => h.2 rfl), dec_small (by decide)]; rfl)
    clear h hl
    go_enter Tryz.func49, Tryz.ntmps49
    go_wp2
    go_ret
    exact Ret.mk (by rw [HS.out]; rfl) (by (repeat' (first | (with_reducible exact Below.refl _ _) | (with_reducible exact Nat.le_refl _) | (with_reducible refine Below.bel ?_ ?_) | (with_reducible refine Below.alloc ?_ ?_ _) | (with_reducible refine Below.drew ?_) | (with_reducible refine Below.drawsN ?_ _) | (with_reducible refine Below.setCell ?_ ?_ _) | (with_reducible refine le_bel ?_) | (with_reducible refine le_alloc ?_) | (with_reducible refine le_setCell ?_) | (with_reducible refine le_drew ?_) | (with_reducible refine le_drawsN ?_) | (dsimp only; with_reducible refine le_bel ?_) | (dsimp only; with_reducible refine Nat.le_refl _) | (dsimp only; with_reducible refine le_bel_add ?_) | (with_reducible assumption) | omega | (dsimp only; omega))))
  · obtain ⟨K, hK⟩ : ∃ K, (grp N).length = K + 1 := ⟨(grp N).length - 1, by
      have : (grp N).length ≠ 0 := fun h => hN ((limbs_nil (by decide)).1 (List.length_eq_zero_iff.1 h))
      omega⟩
    obtain ⟨b, off, rfl, hc⟩ := h (by omega)
    have hb0 := grp_bound N
    have HLEN := Lib.hid (fun j => dec_lenle (Nat.lt_of_le_of_lt (Nat.le_trans (vG_drop_le (grp N) j) (Nat.le_of_eq (vG_grp N))) hb0) (by omega))
    have HNZ := Lib.hid (fun j h => @vG_drop_pos N j h)
    have HD := Lib.hid (fun j x h => @grp_drop N j x h)
    have HV0 := Lib.hid (show vG ((grp N).drop 0) = N by rw [List.drop_zero]; exact vG_grp N)
    have HG := Lib.hid (fun j x h => @grp_at N j x h)
    obtain ⟨x0, hx0⟩ : ∃ x, (grp N)[K]? = some x := ⟨_, List.getElem?_eq_getElem (by omega)⟩
    have g0 := hc K x0 hx0
    have hx0b := HG.out K x0 hx0
    have HC := Lib.hid hc
    have HGE := Lib.hid (show ∀ j, j < (grp N).length → ∃ x, (grp N)[j]? = some x from fun j h => ⟨_, List.getElem?_eq_getElem h⟩)
    have HS := Lib.hid (sg_text m N)
    have HI0 := Lib.hid (fun w' hT => itoa_any (x0 : Int) w' (by omega) (by omega) hT)
    rw [itoa_nat] at HI0
    have HV1 := Lib.hid (show Lib.decDigits x0 = Lib.decDigits (vG ((grp N).drop K)) by rw [HD.out K x0 hx0, List.drop_of_length_le (by omega)]; simp [valB])
    rw [hK] at hl HLEN HNZ HGE ⊢
    generalize grp N = L at *
    have t1 : IntKind.i64.wrap (((K : Int) + 1) - 1) = (K : Int) := by rw [IntWalk.i64_in _ (by omega)]; omega
    have t2 : IntKind.i64.wrap (((K : Int) + 1) - 2) = (K : Int) - 1 := by rw [IntWalk.i64_in _ (by omega)]; omega
    have hj1 : (K : Int) < (K : Int) + 1 := by omega
    clear hc hx0 hb0 hK
    go_enter Tryz.func49, Tryz.ntmps49
    go_wp2_with fail
    (with_reducible refine (HI0.out _ (HT.out.of (by (repeat' (first | (with_reducible exact Below.refl _ _) | (with_reducible exact Nat.le_refl _) | (with_reducible refine Below.bel ?_ ?_) | (with_reducible refine Below.alloc ?_ ?_ _) | (with_reducible refine Below.drew ?_) | (with_reducible refine Below.drawsN ?_ _) | (with_reducible refine Below.setCell ?_ ?_ _) | (with_reducible refine le_bel ?_) | (with_reducible refine le_alloc ?_) | (with_reducible refine le_setCell ?_) | (with_reducible refine le_drew ?_) | (with_reducible refine le_drawsN ?_) | (dsimp only; with_reducible refine le_bel ?_) | (dsimp only; with_reducible refine Nat.le_refl _) | (dsimp only; with_reducible refine le_bel_add ?_) | (with_reducible assumption) | omega | (dsimp only; omega)))))).mono ?_)
    rintro _ _ ⟨rfl, y0, rfl⟩
    have hy0 := y0.size_le
    clear HI0
    go_wp2
    go_loopw [5, 6] (fun s i wr => ∃ k : Nat, k ≤ K ∧ i = .int .i64 ((k : Int) - 1) ∧ s = .string ⟨(Lib.decDigits (vG (L.drop k))).toArray⟩ ∧ Below w.heap.size w wr) (fun s i _ => (intOf i + 1).toNat)
    case atStart => exact ⟨K, by omega, rfl, by rw [HV1.out], by (repeat' (first | (with_reducible exact Below.refl _ _) | (with_reducible exact Nat.le_refl _) | (with_reducible refine Below.bel ?_ ?_) | (with_reducible refine Below.alloc ?_ ?_ _) | (with_reducible refine Below.drew ?_) | (with_reducible refine Below.drawsN ?_ _) | (with_reducible refine Below.setCell ?_ ?_ _) | (with_reducible refine le_bel ?_) | (with_reducible refine le_alloc ?_) | (with_reducible refine le_setCell ?_) | (with_reducible refine le_drew ?_) | (with_reducible refine le_drawsN ?_) | (dsimp only; with_reducible refine le_bel ?_) | (dsimp only; with_reducible refine Nat.le_refl _) | (dsimp only; with_reducible refine le_bel_add ?_) | (with_reducible assumption) | omega | (dsimp only; omega)))⟩
    case round =>
      obtain ⟨k, hk, rfl, rfl, hb⟩ := hrel
      have hbs := hb.size
      by_cases hk0 : k = 0
      · subst hk0
        rw [HV0.out]
        have hdl := HLEN.out 0
        rw [HV0.out] at hdl
        cases m
        · have HE := Lib.hid (HS.out.trans (if_neg (by simp)))
          clear hdl
          generalize Lib.decDigits N = d at *
          go_wp2
          go_ret
          exact Ret.mk (by rw [HE.out]; rfl) (by (repeat' (first | (with_reducible exact Below.refl _ _) | (with_reducible exact Nat.le_refl _) | (with_reducible refine Below.bel ?_ ?_) | (with_reducible refine Below.alloc ?_ ?_ _) | (with_reducible refine Below.drew ?_) | (with_reducible refine Below.drawsN ?_ _) | (with_reducible refine Below.setCell ?_ ?_ _) | (with_reducible refine le_bel ?_) | (with_reducible refine le_alloc ?_) | (with_reducible refine le_setCell ?_) | (with_reducible refine le_drew ?_) | (with_reducible refine le_drawsN ?_) | (dsimp only; with_reducible refine le_bel ?_) | (dsimp only; with_reducible refine Nat.le_refl _) | (dsimp only; with_reducible refine le_bel_add ?_) | (with_reducible assumption) | omega | (dsimp only; omega))))
        · have HE := Lib.hid (HS.out.trans (if_pos ⟨rfl, hN⟩))
          have l1 : (9223372036854775807 < 1 + (Lib.decDigits N).length) = False := eq_false (by omega)
          have b1 : (ByteArray.mk #[45]) ++ ⟨(Lib.decDigits N).toArray⟩ = ⟨([45] ++ Lib.decDigits N).toArray⟩ := bytes_app [45] _
          clear hdl
          generalize Lib.decDigits N = d at *
          go_wp2
          go_ret
          exact Ret.mk (by rw [HE.out]; rfl) (by (repeat' (first | (with_reducible exact Below.refl _ _) | (with_reducible exact Nat.le_refl _) | (with_reducible refine Below.bel ?_ ?_) | (with_reducible refine Below.alloc ?_ ?_ _) | (with_reducible refine Below.drew ?_) | (with_reducible refine Below.drawsN ?_ _) | (with_reducible refine Below.setCell ?_ ?_ _) | (with_reducible refine le_bel ?_) | (with_reducible refine le_alloc ?_) | (with_reducible refine le_setCell ?_) | (with_reducible refine le_drew ?_) | (with_reducible refine le_drawsN ?_) | (dsimp only; with_reducible refine le_bel ?_) | (dsimp only; with_reducible refine Nat.le_refl _) | (dsimp only; with_reducible refine le_bel_add ?_) | (with_reducible assumption) | omega | (dsimp only; omega))))
      · obtain ⟨j, rfl⟩ : ∃ j, k = j + 1 := ⟨k - 1, by omega⟩
        obtain ⟨x, hx⟩ := HGE.out j (by omega)
        have g1 := cell_carry hb (HC.out j x hx)
        have hxb := HG.out j x hx
        have HI := Lib.hid (fun w' hT => itoa_any (10000 + (x : Int)) w' (by omega) (by omega) hT)
        rw [itoa_pad4 hxb] at HI
        have hpl := pad4_len hxb
        have hq := HNZ.out (j + 1) (by omega)
        have HQ := Lib.hid (show Lib.decDigits (vG (L.drop (j + 1))) ++ pad4 x = Lib.decDigits (vG (L.drop j)) by rw [dec_pad4 hq hxb, HD.out j x hx])
        have hdl := HLEN.out (j + 1)
        have t3 : ((j + 1 : Nat) : Int) - 1 = (j : Int) := by omega
        have t4 : IntKind.i64.wrap ((j : Int) - 1) = (j : Int) - 1 := IntWalk.i64_in _ (by omega)
        have t5 : IntKind.i64.wrap (10000 + (x : Int)) = 10000 + (x : Int) := IntWalk.i64_in _ (by omega)
        have hj1 : (j : Int) < (K : Int) + 1 := by omega
        have hx1 : (ByteArray.mk (49 :: pad4 x).toArray).extract 1 5 = ⟨(pad4 x).toArray⟩ := by
          have := extract_drop (49 :: pad4 x) 1
          rw [List.length_cons, hpl] at this
          exact this
        have b1 := bytes_app (Lib.decDigits (vG (L.drop (j + 1)))) (pad4 x)
        have l1 : (9223372036854775807 < (Lib.decDigits (vG (L.drop (j + 1)))).length + 4) = False := eq_false (by omega)
        rw [t3]
        clear t3 hdl hq hx
        generalize pad4 x = p at *
        generalize Lib.decDigits (vG (L.drop (j + 1))) = d at *
        go_wp2_with fail
        (with_reducible refine (HI.out _ (HT.out.of (by (repeat' (first | (with_reducible exact Below.refl _ _) | (with_reducible exact Nat.le_refl _) | (with_reducible refine Below.bel ?_ ?_) | (with_reducible refine Below.alloc ?_ ?_ _) | (with_reducible refine Below.drew ?_) | (with_reducible refine Below.drawsN ?_ _) | (with_reducible refine Below.setCell ?_ ?_ _) | (with_reducible refine le_bel ?_) | (with_reducible refine le_alloc ?_) | (with_reducible refine le_setCell ?_) | (with_reducible refine le_drew ?_) | (with_reducible refine le_drawsN ?_) | (dsimp only; with_reducible refine le_bel ?_) | (dsimp only; with_reducible refine Nat.le_refl _) | (dsimp only; with_reducible refine le_bel_add ?_) | (with_reducible assumption) | omega | (dsimp only; omega)))))).mono ?_)
        rintro _ _ ⟨rfl, y, rfl⟩
        have hys := y.size_le
        go_wp2
        go_roundw
        case rel => exact ⟨j, by omega, rfl, by rw [HQ.out], by (repeat' (first | (with_reducible exact Below.refl _ _) | (with_reducible exact Nat.le_refl _) | (with_reducible refine Below.bel ?_ ?_) | (with_reducible refine Below.alloc ?_ ?_ _) | (with_reducible refine Below.drew ?_) | (with_reducible refine Below.drawsN ?_ _) | (with_reducible refine Below.setCell ?_ ?_ _) | (with_reducible refine le_bel ?_) | (with_reducible refine le_alloc ?_) | (with_reducible refine le_setCell ?_) | (with_reducible refine le_drew ?_) | (with_reducible refine le_drawsN ?_) | (dsimp only; with_reducible refine le_bel ?_) | (dsimp only; with_reducible refine Nat.le_refl _) | (dsimp only; with_reducible refine le_bel_add ?_) | (with_reducible assumption) | omega | (dsimp only; omega)))⟩
        case measure => simp [intOf] <;> omega
end Go.Proofs.YteglfhmmkoahfaaGreatDoor
