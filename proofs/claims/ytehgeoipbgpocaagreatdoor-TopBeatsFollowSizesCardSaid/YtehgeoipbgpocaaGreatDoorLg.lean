/- Logarithms to the base 2 of 3 and 5, times 10 to the power 30, rounded down: by repeated squaring. No program in sight. -/
namespace Go.Proofs.YtehgeoipbgpocaaGreatDoor
set_option linter.unusedVariables false
set_option linter.unusedSimpArgs false
/-- A number between m and M, each times 2 to the power e. -/
def Btw (x m M e : Nat) : Prop := m * 2 ^ e ≤ x ∧ x ≤ M * 2 ^ e
def cutM (k : Nat) (s : Nat × Nat × Nat) : Nat × Nat × Nat := if k = 0 then s else (s.1 / 2 ^ k, s.2.1 / 2 ^ k + 1, s.2.2 + k)
def sqM (c : Nat) (s : Nat × Nat × Nat) : Nat × Nat × Nat := (s.1 * s.1 * c, s.2.1 * s.2.1 * c, 2 * s.2.2)
def fitM (p : Nat) (s : Nat × Nat × Nat) : Nat × Nat × Nat := cutM (s.1.log2 - p) s
def stepM (p b : Nat) (s : Nat × Nat × Nat) (t : Bool) : Nat × Nat × Nat := fitM p (sqM (if t then b else 1) s)
def bitsV (l : List Bool) (k : Nat) : Nat := l.foldl (fun n t => 2 * n + (if t then 1 else 0)) k
theorem btw_sq {x m M e : Nat} (h : Btw x m M e) (c : Nat) : Btw (x * x * c) (m * m * c) (M * M * c) (2 * e) := by
  obtain ⟨h1, h2⟩ := h
  have e2 : 2 ^ (2 * e) = 2 ^ e * 2 ^ e := by rw [Nat.two_mul, Nat.pow_add]
  constructor
  · rw [e2, show m * m * c * (2 ^ e * 2 ^ e) = m * 2 ^ e * (m * 2 ^ e) * c by ac_rfl]
    exact Nat.mul_le_mul_right _ (Nat.mul_le_mul h1 h1)
  · rw [e2, show M * M * c * (2 ^ e * 2 ^ e) = M * 2 ^ e * (M * 2 ^ e) * c by ac_rfl]
    exact Nat.mul_le_mul_right _ (Nat.mul_le_mul h2 h2)
theorem btw_cut {x m M e : Nat} (h : Btw x m M e) (k : Nat) : Btw x (m / 2 ^ k) (M / 2 ^ k + 1) (e + k) := by
  obtain ⟨h1, h2⟩ := h
  have e2 : 2 ^ (e + k) = 2 ^ k * 2 ^ e := by rw [Nat.add_comm, Nat.pow_add]
  have hp : 0 < 2 ^ k := Nat.pow_pos (by decide)
  constructor
  · rw [e2, ← Nat.mul_assoc]
    exact Nat.le_trans (Nat.mul_le_mul_right _ (Nat.div_mul_le_self _ _)) h1
  · rw [e2, ← Nat.mul_assoc]
    refine Nat.le_trans h2 (Nat.mul_le_mul_right _ ?_)
    have := Nat.lt_div_mul_add (a := M) hp
    rw [Nat.add_mul, Nat.one_mul]
    omega
theorem btw_cutM {x : Nat} {s : Nat × Nat × Nat} (h : Btw x s.1 s.2.1 s.2.2) (k : Nat) : Btw x (cutM k s).1 (cutM k s).2.1 (cutM k s).2.2 := by
  unfold cutM
  split
  · exact h
  · exact btw_cut h k
theorem btw_fit (p : Nat) {x : Nat} {s : Nat × Nat × Nat} (h : Btw x s.1 s.2.1 s.2.2) : Btw x (fitM p s).1 (fitM p s).2.1 (fitM p s).2.2 := btw_cutM h _
theorem btw_step (p b k : Nat) (s : Nat × Nat × Nat) (t : Bool) (h : Btw (b ^ k) s.1 s.2.1 s.2.2) :
    Btw (b ^ (2 * k + (if t then 1 else 0))) (stepM p b s t).1 (stepM p b s t).2.1 (stepM p b s t).2.2 := by
  have e1 : b ^ (2 * k + (if t then 1 else 0)) = b ^ k * b ^ k * (if t then b else 1) := by
    rw [Nat.pow_add, Nat.two_mul, Nat.pow_add]
    cases t <;> simp
  rw [e1]
  exact btw_fit p (s := sqM _ s) (btw_sq h _)
theorem btw_run (p b : Nat) (l : List Bool) : ∀ (k : Nat) (s : Nat × Nat × Nat), Btw (b ^ k) s.1 s.2.1 s.2.2 →
    Btw (b ^ (bitsV l k)) (l.foldl (stepM p b) s).1 (l.foldl (stepM p b) s).2.1 (l.foldl (stepM p b) s).2.2 := by
  induction l with
  | nil => intro k s h; exact h
  | cons t l ih => intro k s h; exact ih _ _ (btw_step p b k s t h)
theorem btw_lim {x m M e t L : Nat} (h : Btw x m M e) (h1 : 2 ^ t ≤ m) (h2 : M < 2 ^ (t + 1)) (hL : e + t = L) : 2 ^ L ≤ x ∧ x < 2 ^ (L + 1) := by
  subst hL
  obtain ⟨a, b⟩ := h
  have hp : 0 < 2 ^ e := Nat.pow_pos (by decide)
  constructor
  · rw [Nat.pow_add, Nat.mul_comm]
    exact Nat.le_trans (Nat.mul_le_mul_right _ h1) a
  · rw [Nat.add_assoc, Nat.pow_add, Nat.mul_comm]
    exact Nat.lt_of_le_of_lt b ((Nat.mul_lt_mul_right hp).2 h2)
def bitsU : List Bool := [true, true, false, false, true, false, false, true, true, true, true, true, false, false, true, false, true, true, false, false, true, false, false, true, true, true, false, false, true, true, false, true, false, false, false, false, false, true, false, false, false, true, true, false, false, true, true, true, false, true, false, false, true, true, true, false, true, true, false, true, true, true, true, false, true, false, true, false, false, true, false, false, false, false, false, false, false, false, false, false, false, false, false, false, false, false, false, false, false, false, false, false, false, false, false, false, false, false, false, false]
theorem bits_U : bitsV bitsU 0 = 1000000000000000000000000000000 := by decide +kernel
def okM (p b L : Nat) : Bool := (fun s : Nat × Nat × Nat => decide (2 ^ p ≤ s.1 ∧ s.2.1 < 2 ^ (p + 1) ∧ s.2.2 + p = L)) (bitsU.foldl (stepM p b) (1, 1, 0))
theorem log_of (p b L : Nat) (h : okM p b L = true)
    (U : Nat) (hU : U = 1000000000000000000000000000000) : 2 ^ L ≤ b ^ U ∧ b ^ U < 2 ^ (L + 1) := by
  have h := of_decide_eq_true h
  have := btw_run p b bitsU 0 (1, 1, 0) (by constructor <;> simp)
  rw [bits_U, ← hU] at this
  exact btw_lim this h.1 h.2.1 h.2.2
theorem log3 (U L : Nat) (hU : U = 1000000000000000000000000000000) (hL : L = 1584962500721156181453738943947) : 2 ^ L ≤ 3 ^ U ∧ 3 ^ U < 2 ^ (L + 1) :=
  log_of 200 3 L (by rw [hL]; decide +kernel) U hU
theorem log5 (U L : Nat) (hU : U = 1000000000000000000000000000000) (hL : L = 2321928094887362347870319429489) : 2 ^ L ≤ 5 ^ U ∧ 5 ^ U < 2 ^ (L + 1) :=
  log_of 200 5 L (by rw [hL]; decide +kernel) U hU
end Go.Proofs.YtehgeoipbgpocaaGreatDoor
