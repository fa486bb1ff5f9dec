/- Decimal texts: plain laws. No program in sight. -/
import Derived.Test.YteglfhmmkoahfaaGreatDoorPd
import Derived.Lib.Itoa
import Derived.Lib.ItoaLen
import Derived.Lib.ItoaMem
namespace Go.Proofs.YteglfhmmkoahfaaGreatDoor
open Go.RowKit
open Go.Lib (decDigits nDigits itoa)

theorem dec_small {u : Nat} (h : u < 10) : decDigits u = [UInt8.ofNat (48 + u)] := Lib.decDigits_one h
theorem dec_big {u : Nat} (h : ¬ u < 10) : decDigits u = decDigits (u / 10) ++ [UInt8.ofNat (48 + u % 10)] := by rw [decDigits, dif_neg h]
theorem dig_val {d : Nat} (h : d < 10) : (UInt8.ofNat (48 + d)).toNat = 48 + d := by rw [UInt8.toNat_ofNat']; omega
theorem dec_digits (u : Nat) : Digits (decDigits u) := by
  induction u using Nat.strongRecOn with
  | ind u ih =>
    by_cases h : u < 10
    · rw [dec_small h]
      intro c hc
      rw [List.mem_singleton.1 hc, dig_val h]; omega
    · rw [dec_big h]
      intro c hc
      rcases List.mem_append.1 hc with h1 | h1
      · exact ih (u / 10) (by omega) c h1
      · rw [List.mem_singleton.1 h1, dig_val (Nat.mod_lt _ (by decide))]; omega
theorem dec_num (u : Nat) : numD (decDigits u) = u := by
  induction u using Nat.strongRecOn with
  | ind u ih =>
    by_cases h : u < 10
    · rw [dec_small h]; simp [numD]; omega
    · rw [dec_big h, numD_snoc, ih (u / 10) (by omega), dig_val (Nat.mod_lt _ (by decide))]; omega
theorem dec_pos (u : Nat) : 0 < (decDigits u).length := by rw [Lib.decDigits_length]; exact Lib.nDigits_pos u
theorem dec_head (u : Nat) (h0 : u ≠ 0) : ∀ c r, decDigits u = c :: r → c.toNat ≠ 48 := by
  induction u using Nat.strongRecOn with
  | ind u ih =>
    intro c r hc
    by_cases h : u < 10
    · rw [dec_small h] at hc
      simp at hc
      rw [← hc.1]
      simp
      omega
    · rw [dec_big h] at hc
      cases hd : decDigits (u / 10) with
      | nil => have := dec_pos (u / 10); rw [hd] at this; simp at this
      | cons a b =>
        rw [hd] at hc
        simp at hc
        rw [← hc.1]
        exact ih (u / 10) (by omega) (by omega) a b hd
/-- Digits without a zero in front, but the one digit. -/
def Canon (l : List UInt8) : Prop := Digits l ∧ l ≠ [] ∧ ∀ c r, l = c :: r → c.toNat = 48 → r = []
theorem canon_dec (u : Nat) : Canon (decDigits u) := by
  refine ⟨dec_digits u, fun h => by have := dec_pos u; rw [h] at this; simp at this, fun c r hc h48 => ?_⟩
  by_cases h0 : u = 0
  · subst h0
    rw [dec_small (by decide)] at hc
    simp at hc
    exact hc.2
  · exact absurd h48 (dec_head u h0 c r hc)
theorem canon_eq (l : List UInt8) (h : Canon l) : l = decDigits (numD l) := by
  induction hn : l.length generalizing l with
  | zero => exact absurd (List.length_eq_zero_iff.1 hn) h.2.1
  | succ n ih =>
    rcases List.eq_nil_or_concat l with rfl | ⟨m, c, rfl⟩
    · simp at hn
    · rw [List.concat_eq_append] at *
      obtain ⟨hd, _, h0⟩ := h
      have hc := hd c (by simp)
      have hcc : UInt8.ofNat (48 + (c.toNat - 48)) = c := by
        apply UInt8.toNat.inj
        rw [dig_val (by omega)]; omega
      cases m with
      | nil =>
        rw [List.nil_append, show numD [c] = c.toNat - 48 by simp [numD], dec_small (by omega), hcc]
      | cons a b =>
        have ha : a.toNat ≠ 48 := fun h48 => by
          have := h0 a (b ++ [c]) rfl h48
          simp at this
        have hm : Canon (a :: b) := ⟨fun x hx => hd x (List.mem_append_left _ hx), by simp, fun c' r' he h48 => by
          simp at he
          rw [← he.1] at h48
          exact absurd h48 ha⟩
        have ihm := ih (a :: b) hm (by simpa using hn)
        have hpos : numD (a :: b) ≠ 0 := fun hz => by
          rw [hz, dec_small (by decide)] at ihm
          simp at ihm
          exact ha (by rw [ihm.1]; rfl)
        have hs := numD_snoc (a :: b) c
        rw [hs, dec_big (by omega), show (10 * numD (a :: b) + (c.toNat - 48)) / 10 = numD (a :: b) by omega, show (10 * numD (a :: b) + (c.toNat - 48)) % 10 = c.toNat - 48 by omega, ← ihm, hcc]
theorem nDig9 {x : Nat} (h : x < 1000000000) : (decDigits x).length ≤ 9 := by
  rw [Lib.decDigits_length]
  refine Classical.byContradiction fun hn => ?_
  obtain ⟨k, hk⟩ : ∃ k, nDigits x = k + 1 := ⟨nDigits x - 1, by omega⟩
  have gen : ∀ (k u : Nat), nDigits u = k + 1 → k = 0 ∨ 10 ^ k ≤ u := by
    intro k
    induction k with
    | zero => intro u _; exact .inl rfl
    | succ k ih =>
      intro u hu
      by_cases h : u < 10
      · rw [Lib.nDigits_small h] at hu; omega
      · rw [Lib.nDigits_big h] at hu
        rcases ih (u / 10) (by omega) with rfl | h2
        · right; simp; omega
        · right; rw [Nat.pow_succ]; omega
  rcases gen k x hk with rfl | h2
  · omega
  · have h3 : 10 ^ 9 ≤ 10 ^ k := Nat.pow_le_pow_right (by decide) (by omega)
    omega
/-- Nine digits. -/
def pad9 (x : Nat) : List UInt8 := List.replicate (9 - (decDigits x).length) 48 ++ decDigits x
theorem pad9_len {x : Nat} (h : x < 1000000000) : (pad9 x).length = 9 := by
  have := nDig9 h
  unfold pad9; rw [List.length_append, List.length_replicate]; omega
theorem zeros_num (k : Nat) : numD (List.replicate k 48) = 0 := by
  induction k with
  | zero => rfl
  | succ k ih => rw [List.replicate_succ', numD_snoc, ih]; rfl
theorem pad9_num (x : Nat) : numD (pad9 x) = x := by unfold pad9; rw [numD_app, zeros_num, dec_num]; omega
theorem pad9_digits (x : Nat) : Digits (pad9 x) := fun c hc => by
  rcases List.mem_append.1 hc with h | h
  · rw [(List.mem_replicate.1 h).2]; decide
  · exact dec_digits x c h
theorem dec_pad {q x : Nat} (hq : q ≠ 0) (hx : x < 1000000000) : decDigits q ++ pad9 x = decDigits (q * 1000000000 + x) := by
  have hc : Canon (decDigits q ++ pad9 x) := by
    refine ⟨fun c hc => ?_, fun h => ?_, fun c r he h48 => ?_⟩
    · rcases List.mem_append.1 hc with h | h
      · exact dec_digits q c h
      · exact pad9_digits x c h
    · have := dec_pos q
      have h2 := congrArg List.length h
      simp at h2
      rw [h2.1] at this; simp at this
    · cases hd : decDigits q with
      | nil => have := dec_pos q; rw [hd] at this; simp at this
      | cons a b =>
        rw [hd] at he
        simp at he
        exact absurd (by rw [he.1]; exact h48) (dec_head q hq a b hd)
  have := canon_eq _ hc
  rw [numD_app, dec_num, pad9_num, pad9_len hx] at this
  exact this
/-- What Backward yields: the indices below k from the top, with the limbs. -/
def bkL (L : List Nat) : Nat → List (Nat × Nat)
  | 0 => []
  | k + 1 => (k, L.getD k 0) :: bkL L k
theorem bkL_len (L : List Nat) : ∀ k, (bkL L k).length = k
  | 0 => rfl
  | k + 1 => by rw [bkL, List.length_cons, bkL_len L k]
/-- The text of what has come. -/
def txt (len : Nat) (l : List (Nat × Nat)) : List UInt8 := l.flatMap fun p => if p.1 + 1 < len then pad9 p.2 else decDigits p.2
theorem txt_snoc (len : Nat) (l : List (Nat × Nat)) (p : Nat × Nat) : txt len (l ++ [p]) = txt len l ++ (if p.1 + 1 < len then pad9 p.2 else decDigits p.2) := by unfold txt; rw [List.flatMap_append]; simp
theorem txt_low {L : List Nat} (hL : ∀ x ∈ L, x < 1000000000) : ∀ (k q : Nat), q ≠ 0 → k < L.length → decDigits q ++ txt L.length (bkL L k) = decDigits (q * 1000000000 ^ k + vB (L.take k))
  | 0, q, _, _ => by simp [bkL, txt, valB]
  | k + 1, q, hq, hk => by
    obtain ⟨x, hx⟩ : ∃ x, L[k]? = some x := ⟨_, List.getElem?_eq_getElem (by omega)⟩
    have hx9 := hL x (List.mem_of_getElem? hx)
    have hg : L.getD k 0 = x := by rw [List.getD_eq_getElem?_getD, hx]; rfl
    have e1 : txt L.length (bkL L (k + 1)) = pad9 x ++ txt L.length (bkL L k) := by
      unfold txt; rw [bkL, List.flatMap_cons, if_pos (show k + 1 < L.length by omega), hg]
    have ht : vB (L.take (k + 1)) = vB (L.take k) + 1000000000 ^ k * x := valB_take hx
    rw [e1, ← List.append_assoc, dec_pad hq hx9, txt_low hL k _ (by omega) (by omega), ht, Nat.pow_succ, Nat.add_mul]
    congr 1
    rw [Nat.mul_assoc, Nat.mul_comm 1000000000, Nat.mul_comm x]
    omega
theorem txt_all (n : Nat) (hn : n ≠ 0) : txt (lim n).length (bkL (lim n) (lim n).length) = decDigits n := by
  obtain ⟨j, hj⟩ : ∃ j, (lim n).length = j + 1 := ⟨(lim n).length - 1, by
    have : (lim n).length ≠ 0 := fun h => hn ((limbs_nil (by decide)).1 (List.length_eq_zero_iff.1 h))
    omega⟩
  obtain ⟨x, hx⟩ : ∃ x, (lim n)[j]? = some x := ⟨_, List.getElem?_eq_getElem (by omega)⟩
  have hg : (lim n).getD j 0 = x := by rw [List.getD_eq_getElem?_getD, hx]; rfl
  have ht := valB_take (B := 1000000000) hx
  have hall : (lim n).take (j + 1) = lim n := List.take_of_length_le (by omega)
  have hxs : (lim n) = (lim n).take j ++ [x] := by rw [← take_next hx, hall]
  have hx0 : x ≠ 0 := limbs_last (by decide) n _ _ hxs
  rw [hall] at ht
  have hv := vB_lim n
  have e1 : txt (lim n).length (bkL (lim n) (j + 1)) = decDigits x ++ txt (lim n).length (bkL (lim n) j) := by
    show txt (lim n).length ((j, (lim n).getD j 0) :: bkL (lim n) j) = _
    unfold txt
    rw [List.flatMap_cons, if_neg (show ¬ (j + 1 < (lim n).length) by omega), hg]
  rw [show bkL (lim n) (lim n).length = bkL (lim n) (j + 1) by rw [hj], e1, txt_low (lim_lt n) j x hx0 (by omega)]
  congr 1
  rw [Nat.mul_comm]
  have : vB (lim n) = vB ((lim n).take j) + 1000000000 ^ j * x := ht
  omega
theorem txt_len (len : Nat) : ∀ l : List (Nat × Nat), (∀ p ∈ l, p.2 < 1000000000) → (txt len l).length ≤ 9 * l.length
  | [], _ => by simp [txt]
  | p :: r, h => by
    have ih := txt_len len r (fun q hq => h q (List.mem_cons_of_mem _ hq))
    have hp := h p List.mem_cons_self
    have e : txt len (p :: r) = (if p.1 + 1 < len then pad9 p.2 else decDigits p.2) ++ txt len r := by unfold txt; rw [List.flatMap_cons]
    rw [e, List.length_append, List.length_cons]
    have : (if p.1 + 1 < len then pad9 p.2 else decDigits p.2).length ≤ 9 := by
      split
      · rw [pad9_len hp]; exact Nat.le_refl _
      · exact nDig9 hp
    omega
end Go.Proofs.YteglfhmmkoahfaaGreatDoor
