/- What Parse answers for the text of a fraction: plain Lean. -/
import Derived.Test.YtoncbkkhfblpdaaDoorO3
import Derived.Test.YtoncbkkhfblpdaaDoorF
namespace Go.Proofs.YtoncbkkhfblpdaaDoor
open Go.RowKit

theorem isD_dig {i : Nat} (h : i < 10) : isD (UInt8.ofNat (48 + i)) = true := by
  have : i = 0 ∨ i = 1 ∨ i = 2 ∨ i = 3 ∨ i = 4 ∨ i = 5 ∨ i = 6 ∨ i = 7 ∨ i = 8 ∨ i = 9 := by omega
  rcases this with rfl | rfl | rfl | rfl | rfl | rfl | rfl | rfl | rfl | rfl <;> decide
theorem toNat_dig {i : Nat} (h : i < 10) : ((UInt8.ofNat (48 + i)).toNat : Int) = 48 + i := by
  have : (UInt8.ofNat (48 + i)).toNat = 48 + i := by
    rw [UInt8.toNat_ofNat']; omega
  omega
theorem dec_digits (u : Nat) : (Lib.decDigits u).all isD = true ∧ Lib.decDigits u ≠ [] := by
  induction u using Nat.strongRecOn with
  | ind u ih =>
    rw [Lib.decDigits]
    split
    · rename_i h; exact ⟨by rw [List.all_cons, isD_dig h]; rfl, by simp⟩
    · rename_i h
      refine ⟨?_, by simp⟩
      rw [List.all_append, (ih (u / 10) (by omega)).1]
      rw [List.all_cons, isD_dig (Nat.mod_lt u (by omega : 0 < 10))]; rfl
theorem dec_num (u : Nat) (hu : u ≤ 1000000) : numOf (Lib.decDigits u) = u := by
  induction u using Nat.strongRecOn with
  | ind u ih =>
    rw [Lib.decDigits]
    split
    · rename_i h
      show numF 0 _ = _
      unfold numF
      rw [toNat_dig h]
      omega
    · rename_i h
      rw [numOf_snoc, ih (u / 10) (by omega) (by omega)]
      unfold numF
      rw [toNat_dig (Nat.mod_lt u (by omega))]
      omega
theorem nDigits_le (k u : Nat) (h : u < 10 ^ (k + 1)) : Lib.nDigits u ≤ k + 1 := by
  induction k generalizing u with
  | zero => rw [Lib.nDigits_small (by simpa using h)]; omega
  | succ k ih =>
    by_cases h10 : u < 10
    · rw [Lib.nDigits_small h10]; omega
    · rw [Lib.nDigits_big h10]
      have := ih (u / 10) (by rw [Nat.pow_succ] at h; omega)
      omega
/-- The digits of a part of a fraction. -/
theorem part (x : Int) (h0 : 0 ≤ x) (h1 : x ≤ 1000000) : (Lib.itoa x).all isD = true ∧ Lib.itoa x ≠ [] ∧ numOf (Lib.itoa x) = x ∧ (Lib.itoa x).length ≤ 7 := by
  obtain ⟨u, rfl⟩ := Int.eq_ofNat_of_zero_le h0
  rw [Lib.itoa_nonneg]
  refine ⟨(dec_digits u).1, (dec_digits u).2, dec_num u (by omega), ?_⟩
  rw [Lib.decDigits_length]
  exact nDigits_le 6 u (by omega)
/-- Digits, and then no digit. -/
theorem tw_app {a r : List UInt8} (h : a.all isD = true) (hr : r = [] ∨ ∃ c t, r = c :: t ∧ isD c = false) : (a ++ r).takeWhile isD = a := by
  induction a with
  | nil =>
    rcases hr with rfl | ⟨c, t, rfl, hc⟩
    · rfl
    · simp [hc]
  | cons c a ih =>
    simp only [List.all_cons, Bool.and_eq_true] at h
    rw [List.cons_append, List.takeWhile_cons, if_pos h.1, ih h.2]
theorem lead {a r : List UInt8} (h : a.all isD = true) (hr : r = [] ∨ ∃ c t, r = c :: t ∧ isD c = false) : nd (a ++ r) = a.length ∧ num (a ++ r) = numOf a ∧ (a ++ r).drop (nd (a ++ r)) = r := by
  have h1 := tw_app h hr
  have h2 : nd (a ++ r) = a.length := by unfold nd; rw [h1]
  refine ⟨h2, by unfold num; rw [h1], ?_⟩
  rw [h2]; simp
theorem lead1 {a : List UInt8} (h : a.all isD = true) : nd a = a.length ∧ num a = numOf a ∧ a.drop (nd a) = [] := by
  have := lead (r := []) h (.inl rfl)
  rw [List.append_nil] at this
  exact this
theorem len_ne {a : List UInt8} (h : a ≠ []) : a.length ≠ 0 := by simpa using h
theorem quoV_text {a b : List UInt8} (ha : a.all isD = true) (hb : b.all isD = true) (ha0 : a ≠ []) (hb0 : b ≠ []) : quoV (a ++ 47 :: b) = (numOf a, numOf b, true) := by
  obtain ⟨h1, h2, h3⟩ := lead (r := 47 :: b) ha (.inr ⟨47, b, rfl, by decide⟩)
  obtain ⟨k1, k2, k3⟩ := lead1 hb
  have hb1 := len_ne hb0
  unfold quoV
  rw [if_neg (by rw [h1]; exact len_ne ha0), h3]
  dsimp only
  rw [if_pos (by decide), h2, k2, k3, k1, decide_eq_true (by omega : 0 < b.length)]
  rfl
theorem parV_whole {a : List UInt8} (ha : a.all isD = true) (ha0 : a ≠ []) : parV a = (numOf a, 0, 1, true) := by
  obtain ⟨k1, k2, k3⟩ := lead1 ha
  rw [parV_nil (by rw [k1]; exact len_ne ha0) k3, k2]
theorem parV_quo {a b : List UInt8} (ha : a.all isD = true) (hb : b.all isD = true) (ha0 : a ≠ []) (hb0 : b ≠ []) : parV (a ++ 47 :: b) = (0, numOf a, numOf b, true) := by
  obtain ⟨h1, h2, h3⟩ := lead (r := 47 :: b) ha (.inr ⟨47, b, rfl, by decide⟩)
  rw [parV_other (by rw [h1]; exact len_ne ha0) h3 (by decide), quoV_text ha hb ha0 hb0]
theorem parV_full {a b c : List UInt8} (ha : a.all isD = true) (hb : b.all isD = true) (hc : c.all isD = true) (ha0 : a ≠ []) (hb0 : b ≠ []) (hc0 : c ≠ []) :
    parV (a ++ 32 :: (b ++ 47 :: c)) = (numOf a, numOf b, numOf c, true) := by
  obtain ⟨h1, h2, h3⟩ := lead (r := 32 :: (b ++ 47 :: c)) ha (.inr ⟨32, _, rfl, by decide⟩)
  rw [parV_space (by rw [h1]; exact len_ne ha0) h3 (by decide), h2, quoV_text hb hc hb0 hc0]
/-- A text that begins with a digit, or '-' and a digit. -/
theorem parse_pos {s : List UInt8} (h0 : s ≠ []) (h : s.length ≤ 39) (hs : ∀ c t, s = c :: t → c.toNat ≠ 45) : parseL s = fin 1 (parV s) := by
  cases hc : s with
  | nil => exact absurd hc h0
  | cons c t =>
    unfold parseL; dsimp only
    rw [if_neg (by rw [← hc]; omega), if_neg (hs c t hc)]
theorem parse_neg {s : List UInt8} (h : s.length ≤ 39) : parseL (45 :: s) = fin (-1) (parV s) := by
  unfold parseL; dsimp only
  rw [if_neg (by simp; omega), if_pos (by decide)]
theorem head_dig {a r : List UInt8} (ha : a.all isD = true) (ha0 : a ≠ []) : ∀ c t, a ++ r = c :: t → c.toNat ≠ 45 := by
  intro c t h
  cases a with
  | nil => exact absurd rfl ha0
  | cons d a =>
    simp at h ha
    have h1 := ha.1
    rw [h.1] at h1
    unfold isD at h1
    rw [decide_eq_true_iff] at h1
    omega
theorem mk_right {n d : Int} (h : right n d = true) : mk1 n d = n ∧ mk2 n d = d ∧ mk3 n d = 0 := by
  obtain ⟨r1, r2, r3, r4, r5⟩ := right_spec h
  have hM : mkM n d = n.natAbs := by unfold mkM; rw [r5]; simp
  have hD : mkD n d = d := by unfold mkD; rw [r5]; simp; omega
  have hN : mkN n d = n := by unfold mkN; rw [hM]; split <;> simp_all <;> omega
  have hf : fits n d = true := by unfold fits; rw [hM, hD]; simp; omega
  obtain ⟨a, b, c⟩ := mk_fit (by omega) hf
  rw [a, b, c, hN, hD]
  exact ⟨rfl, rfl, rfl⟩
theorem fin_right {n d sg a w b : Int} (h : right n d = true) (ha : 0 ≤ a ∧ a ≤ 1000000) (hw : w ≤ 1000000) (hb : b = d) (hn : sg * (a * b + w) = n) : fin sg (a, w, b, true) = (n, d, 0) := by
  obtain ⟨r1, r2, r3, r4, r5⟩ := right_spec h
  obtain ⟨e1, e2, e3⟩ := mk_right h
  rw [fin_ok ha.2 hw (by omega), hn, hb, e1, e2, e3]
theorem parse_text {n d : Int} (h : right n d = true) : parseL (textL n d) = (n, d, 0) ∧ (textL n d).length ≤ 40 := by
  obtain ⟨r1, r2, r3, r4, r5⟩ := right_spec h
  obtain ⟨m, hm⟩ : ∃ m : Int, m = n.natAbs := ⟨_, rfl⟩
  have q0 : 0 ≤ m / d := Int.ediv_nonneg (by omega) (by omega)
  have q1 : m / d ≤ 1000000 := Int.le_trans (Int.ediv_le_self _ (by omega)) (by omega)
  have s0 : 0 ≤ m % d := Int.emod_nonneg _ (by omega)
  have s1 : m % d < d := Int.emod_lt_of_pos _ (by omega)
  have hE := Int.ediv_mul_add_emod m d
  obtain ⟨a1, a2, a3, a4⟩ := part (m / d) q0 q1
  obtain ⟨b1, b2, b3, b4⟩ := part (m % d) s0 (by omega)
  obtain ⟨c1, c2, c3, c4⟩ := part d (by omega) r2
  have key : ∃ s : List UInt8, textL n d = (if n < 0 then [45] else []) ++ s ∧ s ≠ [] ∧ s.length ≤ 39 ∧ (∀ c t, s = c :: t → c.toNat ≠ 45) ∧ ∀ sg : Int, sg * m = n → fin sg (parV s) = (n, d, 0) := by
    unfold textL
    rw [← hm]
    by_cases h1 : m % d = 0
    · rw [if_pos h1]
      refine ⟨_, rfl, a2, by omega, fun c t hc => head_dig (r := []) a1 a2 c t (by rw [List.append_nil]; exact hc), fun sg hsg => ?_⟩
      have hd1 : d = 1 := by
        have hdv : d ∣ m := Int.dvd_of_emod_eq_zero h1
        have h2 : d ∣ n := by rcases Int.natAbs_eq n with h | h <;> (rw [h, ← hm]; first | exact hdv | exact (Int.dvd_neg.2 hdv))
        have h3 : d ∣ (Int.gcd n d : Int) := Int.dvd_coe_gcd h2 (Int.dvd_refl d)
        rw [r5] at h3
        exact Int.eq_one_of_dvd_one (by omega) h3
      rw [parV_whole a1 a2]
      refine fin_right h (by rw [a3]; exact ⟨q0, q1⟩) (by omega) hd1.symm ?_
      rw [a3]; rw [hd1] at hE ⊢; rw [← hsg]; simp
    · rw [if_neg h1]
      by_cases h2 : m / d = 0
      · rw [if_pos h2]
        refine ⟨Lib.itoa (m % d) ++ 47 :: Lib.itoa d, by simp, by simp, by simp; omega, head_dig b1 b2, fun sg hsg => ?_⟩
        rw [parV_quo b1 c1 b2 c2]
        refine fin_right h (by omega) (by omega) c3 ?_
        rw [b3]; rw [h2] at hE; rw [← hsg]; congr 1; omega
      · rw [if_neg h2]
        refine ⟨Lib.itoa (m / d) ++ 32 :: (Lib.itoa (m % d) ++ 47 :: Lib.itoa d), by simp, by simp, by simp; omega, head_dig a1 a2, fun sg hsg => ?_⟩
        rw [parV_full a1 b1 c1 a2 b2 c2]
        refine fin_right h (by rw [a3]; exact ⟨q0, q1⟩) (by omega) c3 ?_
        rw [a3, b3, c3, hE, hsg]
  obtain ⟨s, e, k0, k1, k2, k3⟩ := key
  rw [e]
  by_cases hn : n < 0
  · rw [if_pos hn]
    refine ⟨?_, by simp; omega⟩
    show parseL (45 :: s) = _
    rw [parse_neg k1, k3 (-1) (by omega)]
  · rw [if_neg hn]
    refine ⟨?_, by simp; omega⟩
    show parseL s = _
    rw [parse_pos k0 k1 k2, k3 1 (by omega)]
end Go.Proofs.YtoncbkkhfblpdaaDoor
