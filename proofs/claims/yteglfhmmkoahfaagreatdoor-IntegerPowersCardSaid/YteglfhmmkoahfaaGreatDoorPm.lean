/- Limbs of nine digits: plain Lean. -/
import Derived.Test.YteglfhmmkoahfaaGreatDoorBase
namespace Go.Proofs.YteglfhmmkoahfaaGreatDoor

/-- The value of limbs, the lowest first, at a base. -/
def valB (B : Nat) : List Nat → Nat
  | [] => 0
  | x :: r => x + B * valB B r
/-- Without zeros at the end. -/
def trimL (l : List Nat) : List Nat := (l.reverse.dropWhile (· == 0)).reverse
/-- The limbs of a number. -/
def limbs (B n : Nat) : List Nat := if h : n = 0 ∨ B ≤ 1 then [] else n % B :: limbs B (n / B)
termination_by n
decreasing_by exact Nat.div_lt_self (by omega) (by omega)

theorem limbs_zero (B : Nat) : limbs B 0 = [] := by rw [limbs]; simp
theorem limbs_pos {B n : Nat} (hB : 1 < B) (hn : n ≠ 0) : limbs B n = n % B :: limbs B (n / B) := by
  rw [limbs, dif_neg (by omega)]
theorem valB_limbs {B : Nat} (hB : 1 < B) (n : Nat) : valB B (limbs B n) = n := by
  induction n using Nat.strongRecOn with
  | ind n ih =>
    by_cases hn : n = 0
    · rw [hn, limbs_zero]; rfl
    · rw [limbs_pos hB hn, valB, ih (n / B) (Nat.div_lt_self (by omega) hB)]
      exact Nat.mod_add_div n B
theorem limbs_lt {B : Nat} (hB : 1 < B) (n : Nat) : ∀ x ∈ limbs B n, x < B := by
  induction n using Nat.strongRecOn with
  | ind n ih =>
    by_cases hn : n = 0
    · rw [hn, limbs_zero]; simp
    · rw [limbs_pos hB hn]
      intro x hx
      rcases List.mem_cons.1 hx with rfl | hx
      · exact Nat.mod_lt _ (by omega)
      · exact ih (n / B) (Nat.div_lt_self (by omega) hB) x hx
theorem valB_snoc (B : Nat) (x : Nat) : ∀ l : List Nat, valB B (l ++ [x]) = valB B l + B ^ l.length * x
  | [] => by simp [valB]
  | y :: r => by
    simp only [List.cons_append, valB, valB_snoc B x r, List.length_cons, Nat.pow_succ]
    rw [Nat.mul_add, Nat.mul_comm (B ^ r.length) B, Nat.mul_assoc]; omega
theorem valB_app (B : Nat) : ∀ l m : List Nat, valB B (l ++ m) = valB B l + B ^ l.length * valB B m
  | [], m => by simp [valB]
  | y :: r, m => by
    simp only [List.cons_append, valB, valB_app B r m, List.length_cons, Nat.pow_succ]
    rw [Nat.mul_add, Nat.mul_comm (B ^ r.length) B, Nat.mul_assoc]; omega
theorem valB_lt {B : Nat} (hB : 1 < B) : ∀ {l : List Nat}, (∀ x ∈ l, x < B) → valB B l < B ^ l.length
  | [], _ => by simp [valB]
  | y :: r, h => by
    have h1 := valB_lt hB (l := r) (fun x hx => h x (List.mem_cons_of_mem _ hx))
    have h2 := h y List.mem_cons_self
    simp only [valB, List.length_cons, Nat.pow_succ]
    have h3 : B * (valB B r + 1) ≤ B * B ^ r.length := Nat.mul_le_mul_left _ h1
    rw [Nat.mul_add, Nat.mul_comm B (B ^ r.length)] at h3
    omega
theorem valB_take {B : Nat} {l : List Nat} {i x : Nat} (h : l[i]? = some x) : valB B (l.take (i + 1)) = valB B (l.take i) + B ^ i * x := by
  have hi := (List.getElem?_eq_some_iff.1 h).1
  have hx := (List.getElem?_eq_some_iff.1 h).2
  rw [List.take_succ_eq_append_getElem hi, valB_snoc, List.length_take, Nat.min_eq_left (by omega), hx]
theorem trimL_snoc_zero (l : List Nat) : trimL (l ++ [0]) = trimL l := by simp [trimL]
theorem trimL_snoc {x : Nat} (hx : x ≠ 0) (l : List Nat) : trimL (l ++ [x]) = l ++ [x] := by simp [trimL, hx]
theorem trimL_nil : trimL [] = [] := rfl
theorem snoc_cases (l : List Nat) : l = [] ∨ ∃ m x, l = m ++ [x] := by
  cases h : l.reverse with
  | nil => left; simpa using h
  | cons x m => right; exact ⟨m.reverse, x, by rw [← List.reverse_reverse l, h]; simp⟩
theorem valB_trimL (B : Nat) (l : List Nat) : valB B (trimL l) = valB B l := by
  induction hn : l.length generalizing l with
  | zero => rw [List.length_eq_zero_iff.1 hn]; rfl
  | succ n ih =>
    rcases snoc_cases l with rfl | ⟨m, x, rfl⟩
    · simp at hn
    · by_cases hx : x = 0
      · subst hx
        rw [trimL_snoc_zero, ih m (by simpa using hn), valB_snoc]; simp
      · rw [trimL_snoc hx]
/-- Limbs below the base whose last one is not 0 are the limbs of their value. -/
theorem limbs_canon {B : Nat} (hB : 1 < B) : ∀ {l : List Nat}, (∀ x ∈ l, x < B) → (∀ m x, l = m ++ [x] → x ≠ 0) → limbs B (valB B l) = l
  | [], _, _ => limbs_zero B
  | y :: r, h, hl => by
    have hr : limbs B (valB B r) = r := limbs_canon hB (fun x hx => h x (List.mem_cons_of_mem _ hx)) (fun m x hm => hl (y :: m) x (by rw [hm]; rfl))
    have hy := h y List.mem_cons_self
    have h0 : valB B (y :: r) ≠ 0 := by
      intro h0
      simp only [valB] at h0
      have h1 : y = 0 := by omega
      have h2 : valB B r = 0 := by
        have : B * valB B r = 0 := by omega
        rcases Nat.mul_eq_zero.1 this with h | h
        · omega
        · exact h
      rw [h2, limbs_zero] at hr
      exact hl [] y (by rw [← hr]; rfl) h1
    rw [limbs_pos hB h0]
    simp only [valB]
    rw [Nat.add_mul_mod_self_left, Nat.mod_eq_of_lt hy, Nat.add_mul_div_left _ _ (by omega), Nat.div_eq_of_lt hy, Nat.zero_add, hr]
theorem trimL_limbs {B : Nat} (hB : 1 < B) {l : List Nat} (h : ∀ x ∈ l, x < B) : trimL l = limbs B (valB B l) := by
  induction hn : l.length generalizing l with
  | zero => rw [List.length_eq_zero_iff.1 hn]; exact (limbs_zero B).symm
  | succ n ih =>
    rcases snoc_cases l with rfl | ⟨m, x, rfl⟩
    · simp at hn
    · by_cases hx : x = 0
      · subst hx
        rw [trimL_snoc_zero, ih (fun x hx => h x (by simp [hx])) (by simpa using hn), valB_snoc]; simp
      · rw [trimL_snoc hx, limbs_canon hB h]
        intro m' x' hm
        have := (List.append_inj' hm rfl).2
        simp at this
        omega
theorem trimL_val {B : Nat} (hB : 1 < B) {l : List Nat} {n : Nat} (h : ∀ x ∈ l, x < B) (hv : valB B l = n) : trimL l = limbs B n := by rw [trimL_limbs hB h, hv]
theorem limbs_last {B : Nat} (hB : 1 < B) (n : Nat) : ∀ m x, limbs B n = m ++ [x] → x ≠ 0 := by
  intro m x h hx
  have h1 := trimL_limbs hB (limbs_lt hB n)
  rw [valB_limbs hB, h, hx, trimL_snoc_zero] at h1
  have h2 : (trimL m).length ≤ m.length := by
    unfold trimL
    rw [List.length_reverse]
    exact Nat.le_trans (List.dropWhile_sublist _).length_le (by simp)
  have h3 := congrArg List.length h1
  simp at h3; omega
/-- How long: the number lies below the power of its length, and not below the one before. -/
theorem limbs_bounds {B : Nat} (hB : 1 < B) (n : Nat) : n < B ^ (limbs B n).length ∧ (n ≠ 0 → B ^ ((limbs B n).length - 1) ≤ n) := by
  have h1 := valB_lt hB (limbs_lt hB n)
  rw [valB_limbs hB] at h1
  refine ⟨h1, fun hn => ?_⟩
  rcases snoc_cases (limbs B n) with h | ⟨m, x, h⟩
  · have := valB_limbs hB n; rw [h] at this; simp [valB] at this; omega
  · have hx := limbs_last hB n m x h
    have := valB_limbs hB n
    rw [h, valB_snoc] at this
    rw [h]; simp
    have h4 : B ^ m.length * 1 ≤ B ^ m.length * x := Nat.mul_le_mul_left _ (by omega)
    omega
theorem limbs_len_le {B : Nat} (hB : 1 < B) {n k : Nat} (h : n < B ^ k) : (limbs B n).length ≤ k := by
  by_cases hn : n = 0
  · rw [hn, limbs_zero]; simp
  · have h1 := (limbs_bounds hB n).2 hn
    have h2 := Nat.lt_of_le_of_lt h1 h
    have h3 := (Nat.pow_lt_pow_iff_right hB).1 h2
    omega
theorem limbs_nil {B : Nat} (hB : 1 < B) {n : Nat} : limbs B n = [] ↔ n = 0 := by
  constructor
  · intro h; have := valB_limbs hB n; rw [h] at this; simpa [valB] using this.symm
  · rintro rfl; exact limbs_zero B
end Go.Proofs.YteglfhmmkoahfaaGreatDoor
