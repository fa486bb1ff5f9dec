/- Digits: plain laws. No program in sight. Decimal texts: plain laws. No program in sight. Long division by guessed digits: plain laws. No program in sight. Long division on lists of limbs: plain laws. No program in sight. -/
import Derived.Test.YteglfhmmkoahfaaGreatDoorM2
import Derived.Lib.Itoa
import Derived.Lib.ItoaLen
import Derived.Lib.ItoaMem
import Derived.Laws.CopyOwn
namespace Go.Proofs.YteglfhmmkoahfaaGreatDoor
open Go.RowKit
/-- All bytes are digits. -/
def Digits (l : List UInt8) : Prop := ∀ c ∈ l, 48 ≤ c.toNat ∧ c.toNat ≤ 57
/-- The number that digits write. -/
def numD (l : List UInt8) : Nat := l.foldl (fun a c => 10 * a + (c.toNat - 48)) 0
theorem numD_from (l : List UInt8) : ∀ a : Nat, l.foldl (fun a c => 10 * a + (c.toNat - 48)) a = a * 10 ^ l.length + numD l := by
  induction l with
  | nil => intro a; simp [numD]
  | cons c r ih =>
    intro a
    unfold numD
    rw [List.foldl_cons, List.foldl_cons, ih, ih (10 * 0 + _), List.length_cons, Nat.pow_succ]
    rw [Nat.add_mul, Nat.mul_zero, Nat.zero_add, Nat.mul_comm 10 a, Nat.mul_assoc, Nat.mul_comm 10 (10 ^ r.length)]
    omega
theorem numD_app (l m : List UInt8) : numD (l ++ m) = numD l * 10 ^ m.length + numD m := by
  unfold numD; rw [List.foldl_append, numD_from]; rfl
theorem numD_snoc (l : List UInt8) (c : UInt8) : numD (l ++ [c]) = 10 * numD l + (c.toNat - 48) := by rw [numD_app]; simp [numD]; omega
theorem numD_nil : numD [] = 0 := rfl
theorem numD_lt {l : List UInt8} (h : Digits l) : numD l < 10 ^ l.length := by
  induction hn : l.length generalizing l with
  | zero => rw [List.length_eq_zero_iff.1 hn]; decide
  | succ n ih =>
    rcases List.eq_nil_or_concat l with rfl | ⟨m, c, rfl⟩
    · simp at hn
    · rw [List.concat_eq_append] at *
      have h1 := ih (l := m) (fun x hx => h x (by simp [hx])) (by simpa using hn)
      have h2 := h c (by simp)
      rw [numD_snoc, Nat.pow_succ]
      omega
theorem digits_take {l : List UInt8} (h : Digits l) (k : Nat) : Digits (l.take k) := fun c hc => h c (List.mem_of_mem_take hc)
theorem digits_drop {l : List UInt8} (h : Digits l) (k : Nat) : Digits (l.drop k) := fun c hc => h c (List.mem_of_mem_drop hc)
theorem take_next {α : Type} {l : List α} {k : Nat} {c : α} (h : l[k]? = some c) : l.take (k + 1) = l.take k ++ [c] := by rw [List.take_add_one, h]; rfl
theorem numD_next {l : List UInt8} {k : Nat} {c : UInt8} (h : l[k]? = some c) : numD (l.take (k + 1)) = 10 * numD (l.take k) + (c.toNat - 48) := by rw [take_next h, numD_snoc]
theorem pow_nine (k : Nat) : 10 ^ (9 * k) = 1000000000 ^ k := by rw [Nat.pow_mul]
/-- The bytes from a to e. -/
def chunk (l : List UInt8) (a e : Nat) : List UInt8 := (l.drop a).take (e - a)
theorem chunk_len {l : List UInt8} {a e : Nat} (h : e ≤ l.length) : (chunk l a e).length = e - a := by unfold chunk; rw [List.length_take, List.length_drop]; omega
theorem chunk_drop {l : List UInt8} {a e : Nat} (h : a ≤ e) : l.drop a = chunk l a e ++ l.drop e := by
  unfold chunk
  have := (List.take_append_drop (e - a) (l.drop a)).symm
  rwa [List.drop_drop, show a + (e - a) = e by omega] at this
theorem chunk_digits {l : List UInt8} {a e : Nat} (h : Digits l) : Digits (chunk l a e) := digits_take (digits_drop h a) _
theorem extract_chunk (l : List UInt8) (a e : Nat) : (ByteArray.mk l.toArray).extract a e = ⟨(chunk l a e).toArray⟩ := by
  have h : ((ByteArray.mk l.toArray).extract a e).data = (chunk l a e).toArray := by
    rw [ByteArray.data_extract, List.extract_toArray, List.extract_eq_take_drop]; rfl
  exact ByteArray.ext h
theorem numD_chunk {l : List UInt8} (hd : Digits l) {a e : Nat} (h : e ≤ l.length) (h9 : e ≤ a + 9) : numD (chunk l a e) < 1000000000 := by
  have := numD_lt (chunk_digits (a := a) (e := e) hd)
  rw [chunk_len h] at this
  exact Nat.lt_of_lt_of_le this (Nat.pow_le_pow_right (by decide) (by omega : e - a ≤ 9))
/-- A further limb. -/
theorem long_step {l : List UInt8} {L : List Nat} {a e : Nat} (hae : a ≤ e) (he : l.length = e + 9 * L.length) (hv : vB L = numD (l.drop e)) : vB (L ++ [numD (chunk l a e)]) = numD (l.drop a) := by
  rw [chunk_drop hae, numD_app, vB_snoc, hv, List.length_drop, show l.length - e = 9 * L.length by omega, pow_nine, Nat.mul_comm]
  omega
end Go.Proofs.YteglfhmmkoahfaaGreatDoor

namespace Go.Proofs.YteglfhmmkoahfaaGreatDoor
open Go.RowKit
open Go.Lib (decDigits nDigits itoa)

theorem dec_small {u : Nat} (h : u < 10) : decDigits u = [UInt8.ofNat (48 + u)] := Lib.decDigits_one h
theorem dec_big {u : Nat} (h : ¬ u < 10) : decDigits u = decDigits (u / 10) ++ [UInt8.ofNat (48 + u % 10)] := by rw [decDigits, dif_neg h]
theorem dig_val {d : Nat} (h : d < 10) : (UInt8.ofNat (48 + d)).toNat = 48 + d := by rw [UInt8.toNat_ofNat']; omega
theorem dec_digits (u : Nat) : Digits (decDigits u) := by
  induction u using Nat.strongRecOn with
  | ind u ih =>
    by_cases h : u < 10
    · rw [dec_small h]
      intro c hc
      rw [List.mem_singleton.1 hc, dig_val h]; omega
    · rw [dec_big h]
      intro c hc
      rcases List.mem_append.1 hc with h1 | h1
      · exact ih (u / 10) (by omega) c h1
      · rw [List.mem_singleton.1 h1, dig_val (Nat.mod_lt _ (by decide))]; omega
theorem dec_num (u : Nat) : numD (decDigits u) = u := by
  induction u using Nat.strongRecOn with
  | ind u ih =>
    by_cases h : u < 10
    · rw [dec_small h]; simp [numD]; omega
    · rw [dec_big h, numD_snoc, ih (u / 10) (by omega), dig_val (Nat.mod_lt _ (by decide))]; omega
theorem dec_pos (u : Nat) : 0 < (decDigits u).length := by rw [Lib.decDigits_length]; exact Lib.nDigits_pos u
theorem dec_head (u : Nat) (h0 : u ≠ 0) : ∀ c r, decDigits u = c :: r → c.toNat ≠ 48 := by
  induction u using Nat.strongRecOn with
  | ind u ih =>
    intro c r hc
    by_cases h : u < 10
    · rw [dec_small h] at hc
      simp at hc
      rw [← hc.1]
      simp
      omega
    · rw [dec_big h] at hc
      cases hd : decDigits (u / 10) with
      | nil => have := dec_pos (u / 10); rw [hd] at this; simp at this
      | cons a b =>
        rw [hd] at hc
        simp at hc
        rw [← hc.1]
        exact ih (u / 10) (by omega) (by omega) a b hd
/-- Digits without a zero in front, but the one digit. -/
def Canon (l : List UInt8) : Prop := Digits l ∧ l ≠ [] ∧ ∀ c r, l = c :: r → c.toNat = 48 → r = []
theorem canon_dec (u : Nat) : Canon (decDigits u) := by
  refine ⟨dec_digits u, fun h => by have := dec_pos u; rw [h] at this; simp at this, fun c r hc h48 => ?_⟩
  by_cases h0 : u = 0
  · subst h0
    rw [dec_small (by decide)] at hc
    simp at hc
    exact hc.2
  · exact absurd h48 (dec_head u h0 c r hc)
theorem canon_eq (l : List UInt8) (h : Canon l) : l = decDigits (numD l) := by
  induction hn : l.length generalizing l with
  | zero => exact absurd (List.length_eq_zero_iff.1 hn) h.2.1
  | succ n ih =>
    rcases List.eq_nil_or_concat l with rfl | ⟨m, c, rfl⟩
    · simp at hn
    · rw [List.concat_eq_append] at *
      obtain ⟨hd, _, h0⟩ := h
      have hc := hd c (by simp)
      have hcc : UInt8.ofNat (48 + (c.toNat - 48)) = c := by
        apply UInt8.toNat.inj
        rw [dig_val (by omega)]; omega
      cases m with
      | nil =>
        rw [List.nil_append, show numD [c] = c.toNat - 48 by simp [numD], dec_small (by omega), hcc]
      | cons a b =>
        have ha : a.toNat ≠ 48 := fun h48 => by
          have := h0 a (b ++ [c]) rfl h48
          simp at this
        have hm : Canon (a :: b) := ⟨fun x hx => hd x (List.mem_append_left _ hx), by simp, fun c' r' he h48 => by
          simp at he
          rw [← he.1] at h48
          exact absurd h48 ha⟩
        have ihm := ih (a :: b) hm (by simpa using hn)
        have hpos : numD (a :: b) ≠ 0 := fun hz => by
          rw [hz, dec_small (by decide)] at ihm
          simp at ihm
          exact ha (by rw [ihm.1]; rfl)
        have hs := numD_snoc (a :: b) c
        rw [hs, dec_big (by omega), show (10 * numD (a :: b) + (c.toNat - 48)) / 10 = numD (a :: b) by omega, show (10 * numD (a :: b) + (c.toNat - 48)) % 10 = c.toNat - 48 by omega, ← ihm, hcc]
theorem nDig9 {x : Nat} (h : x < 1000000000) : (decDigits x).length ≤ 9 := by
  rw [Lib.decDigits_length]
  refine Classical.byContradiction fun hn => ?_
  obtain ⟨k, hk⟩ : ∃ k, nDigits x = k + 1 := ⟨nDigits x - 1, by omega⟩
  have gen : ∀ (k u : Nat), nDigits u = k + 1 → k = 0 ∨ 10 ^ k ≤ u := by
    intro k
    induction k with
    | zero => intro u _; exact .inl rfl
    | succ k ih =>
      intro u hu
      by_cases h : u < 10
      · rw [Lib.nDigits_small h] at hu; omega
      · rw [Lib.nDigits_big h] at hu
        rcases ih (u / 10) (by omega) with rfl | h2
        · right; simp; omega
        · right; rw [Nat.pow_succ]; omega
  rcases gen k x hk with rfl | h2
  · omega
  · have h3 : 10 ^ 9 ≤ 10 ^ k := Nat.pow_le_pow_right (by decide) (by omega)
    omega
/-- Nine digits. -/
def pad9 (x : Nat) : List UInt8 := List.replicate (9 - (decDigits x).length) 48 ++ decDigits x
theorem pad9_len {x : Nat} (h : x < 1000000000) : (pad9 x).length = 9 := by
  have := nDig9 h
  unfold pad9; rw [List.length_append, List.length_replicate]; omega
theorem zeros_num (k : Nat) : numD (List.replicate k 48) = 0 := by
  induction k with
  | zero => rfl
  | succ k ih => rw [List.replicate_succ', numD_snoc, ih]; rfl
theorem pad9_num (x : Nat) : numD (pad9 x) = x := by unfold pad9; rw [numD_app, zeros_num, dec_num]; omega
theorem pad9_digits (x : Nat) : Digits (pad9 x) := fun c hc => by
  rcases List.mem_append.1 hc with h | h
  · rw [(List.mem_replicate.1 h).2]; decide
  · exact dec_digits x c h
theorem dec_pad {q x : Nat} (hq : q ≠ 0) (hx : x < 1000000000) : decDigits q ++ pad9 x = decDigits (q * 1000000000 + x) := by
  have hc : Canon (decDigits q ++ pad9 x) := by
    refine ⟨fun c hc => ?_, fun h => ?_, fun c r he h48 => ?_⟩
    · rcases List.mem_append.1 hc with h | h
      · exact dec_digits q c h
      · exact pad9_digits x c h
    · have := dec_pos q
      have h2 := congrArg List.length h
      simp at h2
      rw [h2.1] at this; simp at this
    · cases hd : decDigits q with
      | nil => have := dec_pos q; rw [hd] at this; simp at this
      | cons a b =>
        rw [hd] at he
        simp at he
        exact absurd (by rw [he.1]; exact h48) (dec_head q hq a b hd)
  have := canon_eq _ hc
  rw [numD_app, dec_num, pad9_num, pad9_len hx] at this
  exact this
/-- What Backward yields: the indices below k from the top, with the limbs. -/
def bkL (L : List Nat) : Nat → List (Nat × Nat)
  | 0 => []
  | k + 1 => (k, L.getD k 0) :: bkL L k
theorem bkL_len (L : List Nat) : ∀ k, (bkL L k).length = k
  | 0 => rfl
  | k + 1 => by rw [bkL, List.length_cons, bkL_len L k]
/-- The text of what has come. -/
def txt (len : Nat) (l : List (Nat × Nat)) : List UInt8 := l.flatMap fun p => if p.1 + 1 < len then pad9 p.2 else decDigits p.2
theorem txt_snoc (len : Nat) (l : List (Nat × Nat)) (p : Nat × Nat) : txt len (l ++ [p]) = txt len l ++ (if p.1 + 1 < len then pad9 p.2 else decDigits p.2) := by unfold txt; rw [List.flatMap_append]; simp
theorem txt_low {L : List Nat} (hL : ∀ x ∈ L, x < 1000000000) : ∀ (k q : Nat), q ≠ 0 → k < L.length → decDigits q ++ txt L.length (bkL L k) = decDigits (q * 1000000000 ^ k + vB (L.take k))
  | 0, q, _, _ => by simp [bkL, txt, valB]
  | k + 1, q, hq, hk => by
    obtain ⟨x, hx⟩ : ∃ x, L[k]? = some x := ⟨_, List.getElem?_eq_getElem (by omega)⟩
    have hx9 := hL x (List.mem_of_getElem? hx)
    have hg : L.getD k 0 = x := by rw [List.getD_eq_getElem?_getD, hx]; rfl
    have e1 : txt L.length (bkL L (k + 1)) = pad9 x ++ txt L.length (bkL L k) := by
      unfold txt; rw [bkL, List.flatMap_cons, if_pos (show k + 1 < L.length by omega), hg]
    have ht : vB (L.take (k + 1)) = vB (L.take k) + 1000000000 ^ k * x := valB_take hx
    rw [e1, ← List.append_assoc, dec_pad hq hx9, txt_low hL k _ (by omega) (by omega), ht, Nat.pow_succ, Nat.add_mul]
    congr 1
    rw [Nat.mul_assoc, Nat.mul_comm 1000000000, Nat.mul_comm x]
    omega
theorem txt_all (n : Nat) (hn : n ≠ 0) : txt (lim n).length (bkL (lim n) (lim n).length) = decDigits n := by
  obtain ⟨j, hj⟩ : ∃ j, (lim n).length = j + 1 := ⟨(lim n).length - 1, by
    have : (lim n).length ≠ 0 := fun h => hn ((limbs_nil (by decide)).1 (List.length_eq_zero_iff.1 h))
    omega⟩
  obtain ⟨x, hx⟩ : ∃ x, (lim n)[j]? = some x := ⟨_, List.getElem?_eq_getElem (by omega)⟩
  have hg : (lim n).getD j 0 = x := by rw [List.getD_eq_getElem?_getD, hx]; rfl
  have ht := valB_take (B := 1000000000) hx
  have hall : (lim n).take (j + 1) = lim n := List.take_of_length_le (by omega)
  have hxs : (lim n) = (lim n).take j ++ [x] := by rw [← take_next hx, hall]
  have hx0 : x ≠ 0 := limbs_last (by decide) n _ _ hxs
  rw [hall] at ht
  have hv := vB_lim n
  have e1 : txt (lim n).length (bkL (lim n) (j + 1)) = decDigits x ++ txt (lim n).length (bkL (lim n) j) := by
    show txt (lim n).length ((j, (lim n).getD j 0) :: bkL (lim n) j) = _
    unfold txt
    rw [List.flatMap_cons, if_neg (show ¬ (j + 1 < (lim n).length) by omega), hg]
  rw [show bkL (lim n) (lim n).length = bkL (lim n) (j + 1) by rw [hj], e1, txt_low (lim_lt n) j x hx0 (by omega)]
  congr 1
  rw [Nat.mul_comm]
  have : vB (lim n) = vB ((lim n).take j) + 1000000000 ^ j * x := ht
  omega
theorem txt_len (len : Nat) : ∀ l : List (Nat × Nat), (∀ p ∈ l, p.2 < 1000000000) → (txt len l).length ≤ 9 * l.length
  | [], _ => by simp [txt]
  | p :: r, h => by
    have ih := txt_len len r (fun q hq => h q (List.mem_cons_of_mem _ hq))
    have hp := h p List.mem_cons_self
    have e : txt len (p :: r) = (if p.1 + 1 < len then pad9 p.2 else decDigits p.2) ++ txt len r := by unfold txt; rw [List.flatMap_cons]
    rw [e, List.length_append, List.length_cons]
    have : (if p.1 + 1 < len then pad9 p.2 else decDigits p.2).length ≤ 9 := by
      split
      · rw [pad9_len hp]; exact Nat.le_refl _
      · exact nDig9 hp
    omega
end Go.Proofs.YteglfhmmkoahfaaGreatDoor

namespace Go.Proofs.YteglfhmmkoahfaaGreatDoor

abbrev BB : Nat := 1000000000
/-- The top two digits of the divisor times the guess exceed the top three of the dividend: the guess is too great. -/
theorem guess_over {E P V t3 v12 lo vlo g : Nat} (hP : P = t3 * E + lo) (hlo : lo < E) (hV : V = v12 * E + vlo) (h : t3 < g * v12) : P < g * V := by
  have h1 : (t3 + 1) * E ≤ (g * v12) * E := Nat.mul_le_mul_right _ h
  rw [Nat.add_mul, Nat.one_mul] at h1
  have h2 : g * V = g * v12 * E + g * vlo := by rw [hV, Nat.mul_add, Nat.mul_assoc]
  omega
/-- Else it is too great by one at most. -/
theorem guess_under {E P V t3 v12 lo vlo g B : Nat} (hP : P = t3 * E + lo) (hV : V = v12 * E + vlo) (hvlo : vlo < E) (hg : g ≤ B) (hBV : B * E ≤ V) (h : g * v12 ≤ t3) : g * V ≤ P + V := by
  have h1 : (g * v12) * E ≤ t3 * E := Nat.mul_le_mul_right _ h
  have h2 : g * V = g * v12 * E + g * vlo := by rw [hV, Nat.mul_add, Nat.mul_assoc]
  have h3 : g * vlo ≤ B * E := Nat.mul_le_mul hg (by omega)
  omega
theorem div_lt_of {P V g : Nat} (h : P < g * V) : P / V < g := (Nat.div_lt_iff_lt_mul (Nat.pos_of_ne_zero fun h0 => by rw [h0] at h; simp at h)).2 h
theorem div_ge_of {P V g : Nat} (hV : 0 < V) (h : g * V ≤ P + V) : g ≤ P / V + 1 := by
  have h1 : (P + V) / V = P / V + 1 := Nat.add_div_right _ hV
  rw [← h1]
  exact (Nat.le_div_iff_mul_le hV).2 h
/-- What stands before the guess is tested: q the true digit. -/
structure Guess (P V v1 v2 top u2 q g r : Nat) : Prop where
  eq : g * v1 + r = top
  ge : q ≤ g
  r : r < BB
/-- What holds of the numbers at one step. -/
structure Digit (k P V v1 v2 u0 u1 u2 : Nat) : Prop where
  hP : ∃ lo, P = ((u0 * BB + u1) * BB + u2) * BB ^ (k - 2) + lo ∧ lo < BB ^ (k - 2)
  hV : ∃ lo, V = (v1 * BB + v2) * BB ^ (k - 2) + lo ∧ lo < BB ^ (k - 2)
  big : BB * BB ^ (k - 2) ≤ V
  lt : P < BB * V
  h0 : u0 ≤ v1
  h1 : u1 < BB
  h2 : u2 < BB
  w2 : v2 < BB
  w1 : v1 < BB
  w0 : 0 < v1
theorem guess_start {k P V v1 v2 u0 u1 u2 : Nat} (h : Digit k P V v1 v2 u0 u1 u2) : Guess P V v1 v2 (u0 * BB + u1) u2 (P / V) ((u0 * BB + u1) / v1) ((u0 * BB + u1) % v1) := by
  have hv := h.w0
  have hv1 := h.w1
  refine ⟨?_, ?_, Nat.lt_trans (Nat.mod_lt _ hv) hv1⟩
  · rw [Nat.mul_comm]; exact Nat.div_add_mod _ _
  · obtain ⟨lo, hP, hlo⟩ := h.hP
    obtain ⟨vlo, hV, hvlo⟩ := h.hV
    have hlt : (u0 * BB + u1) < ((u0 * BB + u1) / v1 + 1) * v1 := by
      have := Nat.div_add_mod (u0 * BB + u1) v1
      have h2 := Nat.mod_lt (u0 * BB + u1) hv
      rw [Nat.add_mul, Nat.one_mul, Nat.mul_comm ((u0 * BB + u1) / v1)]
      omega
    obtain ⟨G, hG⟩ : ∃ G, (u0 * BB + u1) / v1 = G := ⟨_, rfl⟩
    obtain ⟨T, hT⟩ : ∃ T, u0 * BB + u1 = T := ⟨_, rfl⟩
    rw [hG] at hlt ⊢
    rw [hT] at hlt hP
    have hu2 := h.h2
    have h3 : T * BB + u2 < (G + 1) * (v1 * BB + v2) := by
      have h4 : (T + 1) * BB ≤ ((G + 1) * v1) * BB := Nat.mul_le_mul_right _ hlt
      have h5 : (G + 1) * (v1 * BB + v2) = (G + 1) * v1 * BB + (G + 1) * v2 := by rw [Nat.mul_add, Nat.mul_assoc]
      rw [Nat.add_mul, Nat.one_mul] at h4
      omega
    have := div_lt_of (guess_over hP hlo hV h3)
    generalize P / V = Q at *
    omega
/-- The test says that the guess is too great. -/
theorem guess_next {k P V v1 v2 u0 u1 u2 g r : Nat} (h : Digit k P V v1 v2 u0 u1 u2) (hg : Guess P V v1 v2 (u0 * BB + u1) u2 (P / V) g r) (ht : BB ≤ g ∨ r * BB + u2 < g * v2) :
    P / V < g ∧ (g - 1) * v1 + (r + v1) = u0 * BB + u1 := by
  have h1 : P / V < g := by
    rcases ht with ht | ht
    · have := div_lt_of h.lt; omega
    · obtain ⟨lo, hP, hlo⟩ := h.hP
      obtain ⟨vlo, hV, hvlo⟩ := h.hV
      refine div_lt_of (guess_over hP hlo hV ?_)
      rw [← hg.eq, Nat.mul_add, Nat.add_mul, Nat.mul_assoc]
      omega
  refine ⟨h1, ?_⟩
  obtain ⟨p, rfl⟩ : ∃ p, g = p + 1 := ⟨g - 1, by
    generalize P / V = Q at *
    omega⟩
  have := hg.eq
  rw [Nat.add_mul, Nat.one_mul] at this
  rw [Nat.add_sub_cancel]
  omega
/-- The test says no. -/
theorem guess_done {k P V v1 v2 u0 u1 u2 g r : Nat} (h : Digit k P V v1 v2 u0 u1 u2) (heq : g * v1 + r = u0 * BB + u1) (hg : g < BB) (ht : g * v2 ≤ r * BB + u2) : g ≤ P / V + 1 := by
  obtain ⟨lo, hP, hlo⟩ := h.hP
  obtain ⟨vlo, hV, hvlo⟩ := h.hV
  have hVp : 0 < V := Nat.lt_of_lt_of_le (Nat.mul_pos (by decide) (Nat.pow_pos (by decide))) h.big
  refine div_ge_of hVp (guess_under hP hV hvlo (Nat.le_of_lt hg) h.big ?_)
  rw [← heq, Nat.mul_add, Nat.add_mul, Nat.mul_assoc]
  omega
/-- The rest has grown beyond the base. -/
theorem guess_break {k P V v1 v2 u0 u1 u2 g r : Nat} (h : Digit k P V v1 v2 u0 u1 u2) (heq : g * v1 + r = u0 * BB + u1) (hr : BB ≤ r) : g < BB ∧ g ≤ P / V + 1 := by
  have hg : g < BB := by
    refine Nat.lt_of_not_le fun hge => ?_
    have h1 : BB * v1 ≤ g * v1 := Nat.mul_le_mul_right _ hge
    have h2 : u0 * BB ≤ v1 * BB := Nat.mul_le_mul_right _ h.h0
    have := h.h1
    rw [Nat.mul_comm BB v1] at h1
    omega
  refine ⟨hg, guess_done h heq hg ?_⟩
  have h1 : g * v2 ≤ BB * BB := Nat.mul_le_mul (Nat.le_of_lt hg) (Nat.le_of_lt h.w2)
  have h2 : BB * BB ≤ r * BB := Nat.mul_le_mul_right _ hr
  omega
/-- The last correction gives the true digit and the rest. -/
theorem guess_fix {P V g : Nat} (hV : 0 < V) (h1 : P / V ≤ g) (h2 : g ≤ P / V + 1) : (P < V * g → g - 1 = P / V ∧ P - (V * g - V) = P % V) ∧ (V * g ≤ P → g = P / V ∧ P - V * g = P % V) := by
  have hdm := Nat.div_add_mod P V
  have hm := Nat.mod_lt P hV
  generalize P / V = Q at *
  generalize P % V = R at *
  constructor
  · intro h
    have hg : g = Q + 1 := by
      refine Classical.byContradiction fun hn => ?_
      have : g = Q := by omega
      subst this
      omega
    subst hg
    rw [Nat.mul_add, Nat.mul_one]
    omega
  · intro h
    have hg : g = Q := by
      refine Classical.byContradiction fun hn => ?_
      have : g = Q + 1 := by omega
      subst this
      rw [Nat.mul_add, Nat.mul_one] at h
      omega
    subst hg
    omega
end Go.Proofs.YteglfhmmkoahfaaGreatDoor

namespace Go.Proofs.YteglfhmmkoahfaaGreatDoor

theorem vB_split (X : List Nat) {n : Nat} (h : n ≤ X.length) : vB X = vB (X.take n) + BB ^ n * vB (X.drop n) := by
  have := valB_app BB (X.take n) (X.drop n)
  rw [List.take_append_drop, List.length_take, Nat.min_eq_left h] at this
  exact this
theorem vB_take_lt {X : List Nat} (hX : ∀ x ∈ X, x < BB) {n : Nat} (h : n ≤ X.length) : vB (X.take n) < BB ^ n := by
  have := valB_lt (B := BB) (by decide) (l := X.take n) (fun x hx => hX x (List.mem_of_mem_take hx))
  rwa [List.length_take, Nat.min_eq_left h] at this
theorem drop_cons {X : List Nat} {j x : Nat} (h : X[j]? = some x) : X.drop j = x :: X.drop (j + 1) := by
  rw [List.drop_eq_getElem_cons (List.getElem?_eq_some_iff.1 h).1, (List.getElem?_eq_some_iff.1 h).2]
theorem vB_app (l m : List Nat) : vB (l ++ m) = vB l + BB ^ l.length * vB m := valB_app BB l m
theorem vB_cons (x : Nat) (X : List Nat) : vB (x :: X) = x + BB * vB X := rfl
/-- The numbers of one step of the division. -/
theorem digit_of {L W : List Nat} {j k V v1 v2 u0 u1 u2 : Nat} (hL : ∀ x ∈ L, x < BB) (hW : ∀ x ∈ W, x < BB) (hV : vB W = V) (hk : W.length = k + 2) (h1 : W[k + 1]? = some v1) (h2 : W[k]? = some v2) (hv1 : v1 ≠ 0)
    (hu0 : L[j + k + 2]? = some u0) (hu1 : L[j + k + 1]? = some u1) (hu2 : L[j + k]? = some u2) (hlow : vB (L.drop (j + 1)) < V) :
    Digit (k + 2) (vB (L.drop j)) V v1 v2 u0 u1 u2 ∧ vB (L.drop (j + k + 3)) = 0 := by
  have hjl := (List.getElem?_eq_some_iff.1 hu0).1
  have hE : 0 < BB ^ k := Nat.pow_pos (by decide)
  have b1 := hW v1 (List.mem_of_getElem? h1)
  have b2 := hW v2 (List.mem_of_getElem? h2)
  have c1 := hL u1 (List.mem_of_getElem? hu1)
  have c2 := hL u2 (List.mem_of_getElem? hu2)
  have hV1 : V = vB (W.take k) + BB ^ k * (v2 + BB * v1) := by
    rw [← hV, vB_split W (n := k) (by omega), drop_cons h2, drop_cons h1, List.drop_of_length_le (by omega)]
    simp only [vB_cons]; rfl
  have lV := vB_take_lt hW (n := k) (by omega)
  have eV : BB ^ k * (v2 + BB * v1) = (v1 * BB + v2) * BB ^ k := by rw [Nat.mul_comm (BB ^ k), Nat.mul_comm BB v1, Nat.add_comm v2]
  have hVlt : V < BB ^ (k + 2) := by
    have := valB_lt (B := BB) (by decide) hW
    rw [hk] at this
    rw [← hV]; exact this
  have s1 : vB (L.drop (j + 1)) = vB ((L.drop (j + 1)).take (k + 2)) + BB ^ (k + 2) * vB (L.drop (j + k + 3)) := by
    have := vB_split (L.drop (j + 1)) (n := k + 2) (by rw [List.length_drop]; omega)
    rwa [List.drop_drop, show j + 1 + (k + 2) = j + k + 3 by omega] at this
  have z0 : vB (L.drop (j + k + 3)) = 0 := by
    refine Classical.byContradiction fun hz => ?_
    have : BB ^ (k + 2) * 1 ≤ BB ^ (k + 2) * vB (L.drop (j + k + 3)) := Nat.mul_le_mul_left _ (by omega)
    omega
  have hP1 : vB (L.drop j) = vB ((L.drop j).take k) + BB ^ k * (u2 + BB * (u1 + BB * u0)) := by
    have := vB_split (L.drop j) (n := k) (by rw [List.length_drop]; omega)
    rw [List.drop_drop, drop_cons hu2, drop_cons hu1, drop_cons hu0] at this
    simp only [vB_cons] at this
    rw [z0] at this
    rw [this]
    simp
  have lP := vB_take_lt (X := L.drop j) (fun x hx => hL x (List.mem_of_mem_drop hx)) (n := k) (by rw [List.length_drop]; omega)
  obtain ⟨y, hy⟩ : ∃ y, L[j]? = some y := ⟨_, List.getElem?_eq_getElem (by omega)⟩
  have hyb := hL y (List.mem_of_getElem? hy)
  refine ⟨⟨⟨_, ?_, lP⟩, ⟨_, ?_, lV⟩, ?_, ?_, ?_, c1, c2, b2, b1, by omega⟩, z0⟩
  · rw [hP1, Nat.add_comm]
    congr 1
    rw [Nat.add_sub_cancel, Nat.mul_comm (BB ^ k)]
    congr 1
    rw [Nat.add_mul, Nat.mul_add, Nat.mul_comm BB u1, Nat.mul_comm BB (BB * u0), Nat.mul_comm BB u0]
    omega
  · rw [hV1, eV, Nat.add_comm, Nat.add_sub_cancel]
  · rw [Nat.add_sub_cancel, hV1, Nat.mul_add, ← Nat.mul_assoc, Nat.mul_comm (BB ^ k) BB]
    have : BB * BB ^ k * 1 ≤ BB * BB ^ k * v1 := Nat.mul_le_mul_left _ (by omega)
    omega
  · rw [drop_cons hy, vB_cons]
    have : BB * (vB (L.drop (j + 1)) + 1) ≤ BB * V := Nat.mul_le_mul_left _ hlow
    rw [Nat.mul_add, Nat.mul_one] at this
    omega
  · have s2 : vB (L.drop (j + 1)) = vB ((L.drop (j + 1)).take (k + 1)) + BB ^ (k + 1) * u0 := by
      have := vB_split (L.drop (j + 1)) (n := k + 1) (by rw [List.length_drop]; omega)
      rw [List.drop_drop, show j + 1 + (k + 1) = j + k + 2 by omega, drop_cons hu0, vB_cons, show j + k + 2 + 1 = j + k + 3 by omega, z0] at this
      rw [this]; simp
    have s3 : V = vB (W.take (k + 1)) + BB ^ (k + 1) * v1 := by
      rw [← hV, vB_split W (n := k + 1) (by omega), drop_cons h1, List.drop_of_length_le (by omega)]
      simp only [vB_cons]; rfl
    have l3 := vB_take_lt hW (n := k + 1) (by omega)
    refine Nat.le_of_not_lt fun hlt => ?_
    have : BB ^ (k + 1) * (v1 + 1) ≤ BB ^ (k + 1) * u0 := Nat.mul_le_mul_left _ hlt
    rw [Nat.mul_add] at this
    omega
theorem vB_zeros (n : Nat) (X : List Nat) (h : vB X = 0) : vB (List.replicate n 0 ++ X) = 0 := by
  rw [vB_app, h, Nat.mul_zero, Nat.add_zero]
  induction n with
  | zero => rfl
  | succ n ih =>
    rw [List.replicate_succ, vB_cons, ih]; rfl
/-- The two copies: the rest takes the part's place. -/
theorem copies {L R : List Nat} {j n : Nat} (hj : j + n ≤ L.length) (hR : R.length ≤ n) (hz : vB (L.drop (j + n)) = 0) :
    ∃ X, splice (splice L j (List.replicate n 0)) j R = L.take j ++ (R ++ X) ∧ vB X = 0 ∧ (∀ x ∈ X, x = 0 ∨ x ∈ L) ∧ (splice (splice L j (List.replicate n 0)) j R).length = L.length := by
  have h0 : (splice L j (List.replicate n 0)).length = L.length := length_splice L j _ (by rw [List.length_replicate]; exact hj)
  refine ⟨List.replicate (n - R.length) 0 ++ L.drop (j + n), ?_, vB_zeros _ _ hz, ?_, ?_⟩
  · unfold splice
    rw [List.length_replicate, List.take_append_of_le_length (by rw [List.length_take]; omega), List.take_take, Nat.min_self]
    congr 2
    rw [List.drop_append, List.drop_of_length_le (by rw [List.length_take]; omega), List.nil_append, List.length_take, Nat.min_eq_left (by omega), Nat.add_sub_cancel_left,
      List.drop_append, List.drop_replicate, List.length_replicate, show R.length - n = 0 by omega]
    rfl
  · intro x hx
    rcases List.mem_append.1 hx with h | h
    · exact .inl (List.mem_replicate.1 h).2
    · exact .inr (List.mem_of_mem_drop h)
  · rw [length_splice _ _ _ (by rw [h0]; omega), h0]
theorem copies_val {L R X : List Nat} {j : Nat} (hj : j ≤ L.length) (hX : vB X = 0) : vB (L.take j ++ (R ++ X)) = vB (L.take j) + BB ^ j * vB R ∧ vB ((L.take j ++ (R ++ X)).drop j) = vB R := by
  have e : vB (R ++ X) = vB R := by rw [vB_app, hX, Nat.mul_zero, Nat.add_zero]
  constructor
  · rw [vB_app, e, List.length_take, Nat.min_eq_left hj]
  · rw [List.drop_append_of_le_length (by rw [List.length_take]; omega), List.drop_of_length_le (by rw [List.length_take]; omega), List.nil_append, e]
theorem set_val {Q : List Nat} {j g : Nat} (hj : j < Q.length) : vB ((Q.set j g).drop j) = g + BB * vB (Q.drop (j + 1)) := by
  have h : (Q.set j g)[j]? = some g := by rw [List.getElem?_set_self hj]
  rw [drop_cons h, vB_cons]
  congr 2
  rw [List.drop_set_of_lt (by omega)]
/-- What holds ahead of a round: jj digits are still to be found. -/
structure DivInv (U V T K jj : Nat) (L Q : List Nat) : Prop where
  len : L.length = T
  qlen : Q.length = K
  lim : ∀ x ∈ L, x < BB
  qlim : ∀ x ∈ Q, x < BB
  low : vB (L.drop jj) < V
  val : vB L + V * (BB ^ jj * vB (Q.drop jj)) = U
theorem div_step {U V T K j : Nat} {L Q R X : List Nat} (h : DivInv U V T K (j + 1) L Q) (hj : j < K) (hjT : j ≤ T) (hX : vB X = 0) (hXL : ∀ x ∈ X, x = 0 ∨ x ∈ L) (hR : ∀ x ∈ R, x < BB) (hRv : vB R = vB (L.drop j) % V) (hV : 0 < V)
    (hg : vB (L.drop j) / V < BB) (hlen : (L.take j ++ (R ++ X)).length = T) : DivInv U V T K j (L.take j ++ (R ++ X)) (Q.set j (vB (L.drop j) / V)) := by
  obtain ⟨e1, e2⟩ := copies_val (L := L) (R := R) (X := X) (j := j) (by rw [h.len]; exact hjT) hX
  refine ⟨hlen, by rw [List.length_set]; exact h.qlen, ?_, ?_, ?_, ?_⟩
  · intro x hx
    rcases List.mem_append.1 hx with h1 | h1
    · exact h.lim x (List.mem_of_mem_take h1)
    · rcases List.mem_append.1 h1 with h2 | h2
      · exact hR x h2
      · rcases hXL x h2 with rfl | h3
        · decide
        · exact h.lim x h3
  · intro x hx
    rcases List.mem_or_eq_of_mem_set hx with h1 | rfl
    · exact h.qlim x h1
    · exact hg
  · rw [e2, hRv]; exact Nat.mod_lt _ hV
  · rw [e1, hRv, set_val (by rw [h.qlen]; exact hj)]
    have hv := h.val
    rw [vB_split L (n := j) (by rw [h.len]; exact hjT)] at hv
    rw [← hv]
    have hdm := Nat.div_add_mod (vB (L.drop j)) V
    have e3 : V * (BB ^ j * (vB (L.drop j) / V + BB * vB (Q.drop (j + 1)))) = BB ^ j * (V * (vB (L.drop j) / V)) + V * (BB ^ (j + 1) * vB (Q.drop (j + 1))) := by
      rw [Nat.mul_add, Nat.mul_add, Nat.pow_succ, Nat.mul_assoc (BB ^ j) BB]
      congr 1
      rw [← Nat.mul_assoc, Nat.mul_comm V, Nat.mul_assoc]
    have e4 : BB ^ j * vB (L.drop j) = BB ^ j * (V * (vB (L.drop j) / V)) + BB ^ j * (vB (L.drop j) % V) := by rw [← Nat.mul_add, hdm]
    omega
/-- The factor that makes the divisor's highest limb great keeps its length. -/
theorem norm_of {n k top : Nat} (hk : (lim n).length = k + 1) (ht : (lim n)[k]? = some top) : 0 < BB / (top + 1) ∧ BB / (top + 1) < BB ∧ (lim (n * (BB / (top + 1)))).length = k + 1 := by
  have htop : top < BB := lim_at ht
  have h0 : top ≠ 0 := by
    have h1 : lim n = (lim n).take k ++ [top] := by
      have := (List.take_append_drop k (lim n)).symm
      rwa [drop_cons ht, List.drop_of_length_le (by omega)] at this
    exact limbs_last (by decide) n _ _ h1
  have hd1 : 0 < BB / (top + 1) := Nat.div_pos (by omega) (by omega)
  have hd2 : BB / (top + 1) < BB := Nat.div_lt_self (by decide) (by omega)
  refine ⟨hd1, hd2, ?_⟩
  have hv := vB_split (lim n) (n := k) (by omega)
  rw [vB_lim, drop_cons ht, List.drop_of_length_le (by omega), vB_cons, show vB [] = 0 from rfl, Nat.mul_zero, Nat.add_zero] at hv
  have hlow := vB_take_lt (X := lim n) (lim_lt n) (n := k) (by omega)
  have hn1 : n + 1 ≤ BB ^ k * (top + 1) := by rw [Nat.mul_add, Nat.mul_one]; omega
  have hdm : (BB / (top + 1)) * (top + 1) ≤ BB := Nat.div_mul_le_self _ _
  generalize BB / (top + 1) = d at *
  have up : n * d < BB ^ (k + 1) := by
    have h1 : (n + 1) * d ≤ BB ^ k * (top + 1) * d := Nat.mul_le_mul_right _ hn1
    have h2 : BB ^ k * (d * (top + 1)) ≤ BB ^ k * BB := Nat.mul_le_mul_left _ hdm
    rw [Nat.add_mul, Nat.one_mul, Nat.mul_assoc, Nat.mul_comm (top + 1)] at h1
    rw [Nat.pow_succ]
    omega
  have hle := limbs_len_le (B := BB) (by decide) up
  have hge : BB ^ k ≤ n := by
    have := (limbs_bounds (B := BB) (by decide) n).2 (fun h => by rw [h, show lim 0 = [] from limbs_zero _] at hk; simp at hk)
    rw [show (limbs BB n).length = k + 1 from hk] at this
    exact this
  have hge2 : BB ^ k ≤ n * d := Nat.le_trans hge (Nat.le_mul_of_pos_right n hd1)
  have hb := (limbs_bounds (B := BB) (by decide) (n * d)).1
  have := (Nat.pow_lt_pow_iff_right (show 1 < BB by decide)).1 (Nat.lt_of_le_of_lt hge2 hb)
  show (limbs BB (n * d)).length = k + 1
  omega
theorem div_init {m n d p k T : Nat} (hd : 0 < d) (hk : (lim n).length = k) (hk2 : (lim (n * d)).length = k) (hk0 : 0 < k) (hT : T = (lim m).length + 1) (hp : (lim (m * d)).length + p = T) (hkT : k ≤ T) :
    DivInv (m * d) (n * d) T (T - k) (T - k) (lim (m * d) ++ List.replicate p 0) (List.replicate (T - k) 0) := by
  have hl : (lim (m * d) ++ List.replicate p 0).length = T := by rw [List.length_append, List.length_replicate, hp]
  have hv : vB (lim (m * d) ++ List.replicate p 0) = m * d := by
    have := vB_zeros p [] rfl
    rw [List.append_nil] at this
    rw [vB_app, this, vB_lim, Nat.mul_zero, Nat.add_zero]
  refine ⟨hl, List.length_replicate, ?_, ?_, ?_, ?_⟩
  · intro x hx
    rcases List.mem_append.1 hx with h | h
    · exact lim_lt _ x h
    · rw [(List.mem_replicate.1 h).2]; decide
  · intro x hx
    rw [(List.mem_replicate.1 hx).2]; decide
  · refine Nat.lt_of_not_le fun hge => ?_
    have h1 := vB_split (lim (m * d) ++ List.replicate p 0) (n := T - k) (by omega)
    rw [hv] at h1
    have h2 : BB ^ (T - k) * (n * d) ≤ m * d := Nat.le_trans (Nat.mul_le_mul_left _ hge) (by omega)
    rw [← Nat.mul_assoc] at h2
    have h3 := Nat.le_of_mul_le_mul_right h2 hd
    have h4 : BB ^ (k - 1) ≤ n := by
      have := (limbs_bounds (B := BB) (by decide) n).2 (fun h => by rw [h] at hk; rw [show lim 0 = [] from limbs_zero _] at hk; simp at hk; omega)
      rw [show (limbs BB n).length = k from hk] at this
      exact this
    have h5 : BB ^ (T - k) * BB ^ (k - 1) ≤ m := Nat.le_trans (Nat.mul_le_mul_left _ h4) h3
    rw [← Nat.pow_add, show T - k + (k - 1) = (lim m).length by omega] at h5
    have := (limbs_bounds (B := BB) (by decide) m).1
    have h6 : (limbs BB m).length = (lim m).length := rfl
    rw [h6] at this
    omega
  · rw [hv, List.drop_of_length_le (by rw [List.length_replicate]; exact Nat.le_refl _), show vB [] = 0 from rfl]
    simp
theorem div_end {m n d T K : Nat} {L Q : List Nat} (h : DivInv (m * d) (n * d) T K 0 L Q) (hd : 0 < d) (hn : 0 < n) : vB Q = m / n ∧ vB L = d * (m % n) := by
  have hv := h.val
  have hl := h.low
  rw [List.drop_zero] at hl
  rw [List.drop_zero, Nat.pow_zero, Nat.one_mul] at hv
  have hpos : 0 < n * d := Nat.mul_pos hn hd
  constructor
  · rw [← Nat.mul_div_mul_right m n hd, ← hv, Nat.add_mul_div_left _ _ hpos, Nat.div_eq_of_lt hl, Nat.zero_add]
  · have : (m * d) % (n * d) = vB L := by rw [← hv, Nat.add_mul_mod_self_left, Nat.mod_eq_of_lt hl]
    rw [← this, Nat.mul_mod_mul_right, Nat.mul_comm]
end Go.Proofs.YteglfhmmkoahfaaGreatDoor
