/- Long division by guessed digits: plain laws. No program in sight. Long division on lists of limbs: plain laws. No program in sight. copy into a slice of the call's own, and append of zeros to it within its room, as laws on what the call owns. No program in sight. times, with the room that its result has; slices.Clone. -/
import Derived.Laws.CopyOwn
import Derived.Lib.AppendZeros
import Derived.Test.YtehgeoipbgpocaaGreatDoorIn2
namespace Go.Proofs.YtehgeoipbgpocaaGreatDoor.I
set_option linter.unusedVariables false
set_option linter.unusedSimpArgs false

abbrev BB : Nat := 1000000000
/-- The top two digits of the divisor times the guess exceed the top three of the dividend: the guess is too great. -/
theorem guess_over {E P V t3 v12 lo vlo g : Nat} (hP : P = t3 * E + lo) (hlo : lo < E) (hV : V = v12 * E + vlo) (h : t3 < g * v12) : P < g * V := by
  have h1 : (t3 + 1) * E ≤ (g * v12) * E := Nat.mul_le_mul_right _ h
  rw [Nat.add_mul, Nat.one_mul] at h1
  have h2 : g * V = g * v12 * E + g * vlo := by rw [hV, Nat.mul_add, Nat.mul_assoc]
  omega
/-- Else it is too great by one at most. -/
theorem guess_under {E P V t3 v12 lo vlo g B : Nat} (hP : P = t3 * E + lo) (hV : V = v12 * E + vlo) (hvlo : vlo < E) (hg : g ≤ B) (hBV : B * E ≤ V) (h : g * v12 ≤ t3) : g * V ≤ P + V := by
  have h1 : (g * v12) * E ≤ t3 * E := Nat.mul_le_mul_right _ h
  have h2 : g * V = g * v12 * E + g * vlo := by rw [hV, Nat.mul_add, Nat.mul_assoc]
  have h3 : g * vlo ≤ B * E := Nat.mul_le_mul hg (by omega)
  omega
theorem div_lt_of {P V g : Nat} (h : P < g * V) : P / V < g := (Nat.div_lt_iff_lt_mul (Nat.pos_of_ne_zero fun h0 => by rw [h0] at h; simp at h)).2 h
theorem div_ge_of {P V g : Nat} (hV : 0 < V) (h : g * V ≤ P + V) : g ≤ P / V + 1 := by
  have h1 : (P + V) / V = P / V + 1 := Nat.add_div_right _ hV
  rw [← h1]
  exact (Nat.le_div_iff_mul_le hV).2 h
/-- What stands before the guess is tested: q the true digit. -/
structure Guess (P V v1 v2 top u2 q g r : Nat) : Prop where
  eq : g * v1 + r = top
  ge : q ≤ g
  r : r < BB
/-- What holds of the numbers at one step. -/
structure Digit (k P V v1 v2 u0 u1 u2 : Nat) : Prop where
  hP : ∃ lo, P = ((u0 * BB + u1) * BB + u2) * BB ^ (k - 2) + lo ∧ lo < BB ^ (k - 2)
  hV : ∃ lo, V = (v1 * BB + v2) * BB ^ (k - 2) + lo ∧ lo < BB ^ (k - 2)
  big : BB * BB ^ (k - 2) ≤ V
  lt : P < BB * V
  h0 : u0 ≤ v1
  h1 : u1 < BB
  h2 : u2 < BB
  w2 : v2 < BB
  w1 : v1 < BB
  w0 : 0 < v1
theorem guess_start {k P V v1 v2 u0 u1 u2 : Nat} (h : Digit k P V v1 v2 u0 u1 u2) : Guess P V v1 v2 (u0 * BB + u1) u2 (P / V) ((u0 * BB + u1) / v1) ((u0 * BB + u1) % v1) := by
  have hv := h.w0
  have hv1 := h.w1
  refine ⟨?_, ?_, Nat.lt_trans (Nat.mod_lt _ hv) hv1⟩
  · rw [Nat.mul_comm]; exact Nat.div_add_mod _ _
  · obtain ⟨lo, hP, hlo⟩ := h.hP
    obtain ⟨vlo, hV, hvlo⟩ := h.hV
    have hlt : (u0 * BB + u1) < ((u0 * BB + u1) / v1 + 1) * v1 := by
      have := Nat.div_add_mod (u0 * BB + u1) v1
      have h2 := Nat.mod_lt (u0 * BB + u1) hv
      rw [Nat.add_mul, Nat.one_mul, Nat.mul_comm ((u0 * BB + u1) / v1)]
      omega
    obtain ⟨G, hG⟩ : ∃ G, (u0 * BB + u1) / v1 = G := ⟨_, rfl⟩
    obtain ⟨T, hT⟩ : ∃ T, u0 * BB + u1 = T := ⟨_, rfl⟩
    rw [hG] at hlt ⊢
    rw [hT] at hlt hP
    have hu2 := h.h2
    have h3 : T * BB + u2 < (G + 1) * (v1 * BB + v2) := by
      have h4 : (T + 1) * BB ≤ ((G + 1) * v1) * BB := Nat.mul_le_mul_right _ hlt
      have h5 : (G + 1) * (v1 * BB + v2) = (G + 1) * v1 * BB + (G + 1) * v2 := by rw [Nat.mul_add, Nat.mul_assoc]
      rw [Nat.add_mul, Nat.one_mul] at h4
      omega
    have := div_lt_of (guess_over hP hlo hV h3)
    generalize P / V = Q at *
    omega
/-- The test says that the guess is too great. -/
theorem guess_next {k P V v1 v2 u0 u1 u2 g r : Nat} (h : Digit k P V v1 v2 u0 u1 u2) (hg : Guess P V v1 v2 (u0 * BB + u1) u2 (P / V) g r) (ht : BB ≤ g ∨ r * BB + u2 < g * v2) :
    P / V < g ∧ (g - 1) * v1 + (r + v1) = u0 * BB + u1 := by
  have h1 : P / V < g := by
    rcases ht with ht | ht
    · have := div_lt_of h.lt; omega
    · obtain ⟨lo, hP, hlo⟩ := h.hP
      obtain ⟨vlo, hV, hvlo⟩ := h.hV
      refine div_lt_of (guess_over hP hlo hV ?_)
      rw [← hg.eq, Nat.mul_add, Nat.add_mul, Nat.mul_assoc]
      omega
  refine ⟨h1, ?_⟩
  obtain ⟨p, rfl⟩ : ∃ p, g = p + 1 := ⟨g - 1, by
    generalize P / V = Q at *
    omega⟩
  have := hg.eq
  rw [Nat.add_mul, Nat.one_mul] at this
  rw [Nat.add_sub_cancel]
  omega
/-- The test says no. -/
theorem guess_done {k P V v1 v2 u0 u1 u2 g r : Nat} (h : Digit k P V v1 v2 u0 u1 u2) (heq : g * v1 + r = u0 * BB + u1) (hg : g < BB) (ht : g * v2 ≤ r * BB + u2) : g ≤ P / V + 1 := by
  obtain ⟨lo, hP, hlo⟩ := h.hP
  obtain ⟨vlo, hV, hvlo⟩ := h.hV
  have hVp : 0 < V := Nat.lt_of_lt_of_le (Nat.mul_pos (by decide) (Nat.pow_pos (by decide))) h.big
  refine div_ge_of hVp (guess_under hP hV hvlo (Nat.le_of_lt hg) h.big ?_)
  rw [← heq, Nat.mul_add, Nat.add_mul, Nat.mul_assoc]
  omega
/-- The rest has grown beyond the base. -/
theorem guess_break {k P V v1 v2 u0 u1 u2 g r : Nat} (h : Digit k P V v1 v2 u0 u1 u2) (heq : g * v1 + r = u0 * BB + u1) (hr : BB ≤ r) : g < BB ∧ g ≤ P / V + 1 := by
  have hg : g < BB := by
    refine Nat.lt_of_not_le fun hge => ?_
    have h1 : BB * v1 ≤ g * v1 := Nat.mul_le_mul_right _ hge
    have h2 : u0 * BB ≤ v1 * BB := Nat.mul_le_mul_right _ h.h0
    have := h.h1
    rw [Nat.mul_comm BB v1] at h1
    omega
  refine ⟨hg, guess_done h heq hg ?_⟩
  have h1 : g * v2 ≤ BB * BB := Nat.mul_le_mul (Nat.le_of_lt hg) (Nat.le_of_lt h.w2)
  have h2 : BB * BB ≤ r * BB := Nat.mul_le_mul_right _ hr
  omega
/-- The last correction gives the true digit and the rest. -/
theorem guess_fix {P V g : Nat} (hV : 0 < V) (h1 : P / V ≤ g) (h2 : g ≤ P / V + 1) : (P < V * g → g - 1 = P / V ∧ P - (V * g - V) = P % V) ∧ (V * g ≤ P → g = P / V ∧ P - V * g = P % V) := by
  have hdm := Nat.div_add_mod P V
  have hm := Nat.mod_lt P hV
  generalize P / V = Q at *
  generalize P % V = R at *
  constructor
  · intro h
    have hg : g = Q + 1 := by
      refine Classical.byContradiction fun hn => ?_
      have : g = Q := by omega
      subst this
      omega
    subst hg
    rw [Nat.mul_add, Nat.mul_one]
    omega
  · intro h
    have hg : g = Q := by
      refine Classical.byContradiction fun hn => ?_
      have : g = Q + 1 := by omega
      subst this
      rw [Nat.mul_add, Nat.mul_one] at h
      omega
    subst hg
    omega
end Go.Proofs.YtehgeoipbgpocaaGreatDoor.I

namespace Go.Proofs.YtehgeoipbgpocaaGreatDoor.I
set_option linter.unusedVariables false
set_option linter.unusedSimpArgs false

theorem vB_split (X : List Nat) {n : Nat} (h : n ≤ X.length) : vB X = vB (X.take n) + BB ^ n * vB (X.drop n) := by
  have := valB_app BB (X.take n) (X.drop n)
  rw [List.take_append_drop, List.length_take, Nat.min_eq_left h] at this
  exact this
theorem vB_take_lt {X : List Nat} (hX : ∀ x ∈ X, x < BB) {n : Nat} (h : n ≤ X.length) : vB (X.take n) < BB ^ n := by
  have := valB_lt (B := BB) (by decide) (l := X.take n) (fun x hx => hX x (List.mem_of_mem_take hx))
  rwa [List.length_take, Nat.min_eq_left h] at this
theorem drop_cons {X : List Nat} {j x : Nat} (h : X[j]? = some x) : X.drop j = x :: X.drop (j + 1) := by
  rw [List.drop_eq_getElem_cons (List.getElem?_eq_some_iff.1 h).1, (List.getElem?_eq_some_iff.1 h).2]
theorem vB_app (l m : List Nat) : vB (l ++ m) = vB l + BB ^ l.length * vB m := valB_app BB l m
theorem vB_cons (x : Nat) (X : List Nat) : vB (x :: X) = x + BB * vB X := rfl
/-- The numbers of one step of the division. -/
theorem digit_of {L W : List Nat} {j k V v1 v2 u0 u1 u2 : Nat} (hL : ∀ x ∈ L, x < BB) (hW : ∀ x ∈ W, x < BB) (hV : vB W = V) (hk : W.length = k + 2) (h1 : W[k + 1]? = some v1) (h2 : W[k]? = some v2) (hv1 : v1 ≠ 0)
    (hu0 : L[j + k + 2]? = some u0) (hu1 : L[j + k + 1]? = some u1) (hu2 : L[j + k]? = some u2) (hlow : vB (L.drop (j + 1)) < V) :
    Digit (k + 2) (vB (L.drop j)) V v1 v2 u0 u1 u2 ∧ vB (L.drop (j + k + 3)) = 0 := by
  have hjl := (List.getElem?_eq_some_iff.1 hu0).1
  have hE : 0 < BB ^ k := Nat.pow_pos (by decide)
  have b1 := hW v1 (List.mem_of_getElem? h1)
  have b2 := hW v2 (List.mem_of_getElem? h2)
  have c1 := hL u1 (List.mem_of_getElem? hu1)
  have c2 := hL u2 (List.mem_of_getElem? hu2)
  have hV1 : V = vB (W.take k) + BB ^ k * (v2 + BB * v1) := by
    rw [← hV, vB_split W (n := k) (by omega), drop_cons h2, drop_cons h1, List.drop_of_length_le (by omega)]
    simp only [vB_cons]; rfl
  have lV := vB_take_lt hW (n := k) (by omega)
  have eV : BB ^ k * (v2 + BB * v1) = (v1 * BB + v2) * BB ^ k := by rw [Nat.mul_comm (BB ^ k), Nat.mul_comm BB v1, Nat.add_comm v2]
  have hVlt : V < BB ^ (k + 2) := by
    have := valB_lt (B := BB) (by decide) hW
    rw [hk] at this
    rw [← hV]; exact this
  have s1 : vB (L.drop (j + 1)) = vB ((L.drop (j + 1)).take (k + 2)) + BB ^ (k + 2) * vB (L.drop (j + k + 3)) := by
    have := vB_split (L.drop (j + 1)) (n := k + 2) (by rw [List.length_drop]; omega)
    rwa [List.drop_drop, show j + 1 + (k + 2) = j + k + 3 by omega] at this
  have z0 : vB (L.drop (j + k + 3)) = 0 := by
    refine Classical.byContradiction fun hz => ?_
    have : BB ^ (k + 2) * 1 ≤ BB ^ (k + 2) * vB (L.drop (j + k + 3)) := Nat.mul_le_mul_left _ (by omega)
    omega
  have hP1 : vB (L.drop j) = vB ((L.drop j).take k) + BB ^ k * (u2 + BB * (u1 + BB * u0)) := by
    have := vB_split (L.drop j) (n := k) (by rw [List.length_drop]; omega)
    rw [List.drop_drop, drop_cons hu2, drop_cons hu1, drop_cons hu0] at this
    simp only [vB_cons] at this
    rw [z0] at this
    rw [this]
    simp
  have lP := vB_take_lt (X := L.drop j) (fun x hx => hL x (List.mem_of_mem_drop hx)) (n := k) (by rw [List.length_drop]; omega)
  obtain ⟨y, hy⟩ : ∃ y, L[j]? = some y := ⟨_, List.getElem?_eq_getElem (by omega)⟩
  have hyb := hL y (List.mem_of_getElem? hy)
  refine ⟨⟨⟨_, ?_, lP⟩, ⟨_, ?_, lV⟩, ?_, ?_, ?_, c1, c2, b2, b1, by omega⟩, z0⟩
  · rw [hP1, Nat.add_comm]
    congr 1
    rw [Nat.add_sub_cancel, Nat.mul_comm (BB ^ k)]
    congr 1
    rw [Nat.add_mul, Nat.mul_add, Nat.mul_comm BB u1, Nat.mul_comm BB (BB * u0), Nat.mul_comm BB u0]
    omega
  · rw [hV1, eV, Nat.add_comm, Nat.add_sub_cancel]
  · rw [Nat.add_sub_cancel, hV1, Nat.mul_add, ← Nat.mul_assoc, Nat.mul_comm (BB ^ k) BB]
    have : BB * BB ^ k * 1 ≤ BB * BB ^ k * v1 := Nat.mul_le_mul_left _ (by omega)
    omega
  · rw [drop_cons hy, vB_cons]
    have : BB * (vB (L.drop (j + 1)) + 1) ≤ BB * V := Nat.mul_le_mul_left _ hlow
    rw [Nat.mul_add, Nat.mul_one] at this
    omega
  · have s2 : vB (L.drop (j + 1)) = vB ((L.drop (j + 1)).take (k + 1)) + BB ^ (k + 1) * u0 := by
      have := vB_split (L.drop (j + 1)) (n := k + 1) (by rw [List.length_drop]; omega)
      rw [List.drop_drop, show j + 1 + (k + 1) = j + k + 2 by omega, drop_cons hu0, vB_cons, show j + k + 2 + 1 = j + k + 3 by omega, z0] at this
      rw [this]; simp
    have s3 : V = vB (W.take (k + 1)) + BB ^ (k + 1) * v1 := by
      rw [← hV, vB_split W (n := k + 1) (by omega), drop_cons h1, List.drop_of_length_le (by omega)]
      simp only [vB_cons]; rfl
    have l3 := vB_take_lt hW (n := k + 1) (by omega)
    refine Nat.le_of_not_lt fun hlt => ?_
    have : BB ^ (k + 1) * (v1 + 1) ≤ BB ^ (k + 1) * u0 := Nat.mul_le_mul_left _ hlt
    rw [Nat.mul_add] at this
    omega
theorem vB_zeros (n : Nat) (X : List Nat) (h : vB X = 0) : vB (List.replicate n 0 ++ X) = 0 := by
  rw [vB_app, h, Nat.mul_zero, Nat.add_zero]
  induction n with
  | zero => rfl
  | succ n ih =>
    rw [List.replicate_succ, vB_cons, ih]; rfl
/-- The two copies: the rest takes the part's place. -/
theorem copies {L R : List Nat} {j n : Nat} (hj : j + n ≤ L.length) (hR : R.length ≤ n) (hz : vB (L.drop (j + n)) = 0) :
    ∃ X, splice (splice L j (List.replicate n 0)) j R = L.take j ++ (R ++ X) ∧ vB X = 0 ∧ (∀ x ∈ X, x = 0 ∨ x ∈ L) ∧ (splice (splice L j (List.replicate n 0)) j R).length = L.length := by
  have h0 : (splice L j (List.replicate n 0)).length = L.length := length_splice L j _ (by rw [List.length_replicate]; exact hj)
  refine ⟨List.replicate (n - R.length) 0 ++ L.drop (j + n), ?_, vB_zeros _ _ hz, ?_, ?_⟩
  · unfold splice
    rw [List.length_replicate, List.take_append_of_le_length (by rw [List.length_take]; omega), List.take_take, Nat.min_self]
    congr 2
    rw [List.drop_append, List.drop_of_length_le (by rw [List.length_take]; omega), List.nil_append, List.length_take, Nat.min_eq_left (by omega), Nat.add_sub_cancel_left,
      List.drop_append, List.drop_replicate, List.length_replicate, show R.length - n = 0 by omega]
    rfl
  · intro x hx
    rcases List.mem_append.1 hx with h | h
    · exact .inl (List.mem_replicate.1 h).2
    · exact .inr (List.mem_of_mem_drop h)
  · rw [length_splice _ _ _ (by rw [h0]; omega), h0]
theorem copies_val {L R X : List Nat} {j : Nat} (hj : j ≤ L.length) (hX : vB X = 0) : vB (L.take j ++ (R ++ X)) = vB (L.take j) + BB ^ j * vB R ∧ vB ((L.take j ++ (R ++ X)).drop j) = vB R := by
  have e : vB (R ++ X) = vB R := by rw [vB_app, hX, Nat.mul_zero, Nat.add_zero]
  constructor
  · rw [vB_app, e, List.length_take, Nat.min_eq_left hj]
  · rw [List.drop_append_of_le_length (by rw [List.length_take]; omega), List.drop_of_length_le (by rw [List.length_take]; omega), List.nil_append, e]
theorem set_val {Q : List Nat} {j g : Nat} (hj : j < Q.length) : vB ((Q.set j g).drop j) = g + BB * vB (Q.drop (j + 1)) := by
  have h : (Q.set j g)[j]? = some g := by rw [List.getElem?_set_self hj]
  rw [drop_cons h, vB_cons]
  congr 2
  rw [List.drop_set_of_lt (by omega)]
/-- What holds ahead of a round: jj digits are still to be found. -/
structure DivInv (U V T K jj : Nat) (L Q : List Nat) : Prop where
  len : L.length = T
  qlen : Q.length = K
  lim : ∀ x ∈ L, x < BB
  qlim : ∀ x ∈ Q, x < BB
  low : vB (L.drop jj) < V
  val : vB L + V * (BB ^ jj * vB (Q.drop jj)) = U
theorem div_step {U V T K j : Nat} {L Q R X : List Nat} (h : DivInv U V T K (j + 1) L Q) (hj : j < K) (hjT : j ≤ T) (hX : vB X = 0) (hXL : ∀ x ∈ X, x = 0 ∨ x ∈ L) (hR : ∀ x ∈ R, x < BB) (hRv : vB R = vB (L.drop j) % V) (hV : 0 < V)
    (hg : vB (L.drop j) / V < BB) (hlen : (L.take j ++ (R ++ X)).length = T) : DivInv U V T K j (L.take j ++ (R ++ X)) (Q.set j (vB (L.drop j) / V)) := by
  obtain ⟨e1, e2⟩ := copies_val (L := L) (R := R) (X := X) (j := j) (by rw [h.len]; exact hjT) hX
  refine ⟨hlen, by rw [List.length_set]; exact h.qlen, ?_, ?_, ?_, ?_⟩
  · intro x hx
    rcases List.mem_append.1 hx with h1 | h1
    · exact h.lim x (List.mem_of_mem_take h1)
    · rcases List.mem_append.1 h1 with h2 | h2
      · exact hR x h2
      · rcases hXL x h2 with rfl | h3
        · decide
        · exact h.lim x h3
  · intro x hx
    rcases List.mem_or_eq_of_mem_set hx with h1 | rfl
    · exact h.qlim x h1
    · exact hg
  · rw [e2, hRv]; exact Nat.mod_lt _ hV
  · rw [e1, hRv, set_val (by rw [h.qlen]; exact hj)]
    have hv := h.val
    rw [vB_split L (n := j) (by rw [h.len]; exact hjT)] at hv
    rw [← hv]
    have hdm := Nat.div_add_mod (vB (L.drop j)) V
    have e3 : V * (BB ^ j * (vB (L.drop j) / V + BB * vB (Q.drop (j + 1)))) = BB ^ j * (V * (vB (L.drop j) / V)) + V * (BB ^ (j + 1) * vB (Q.drop (j + 1))) := by
      rw [Nat.mul_add, Nat.mul_add, Nat.pow_succ, Nat.mul_assoc (BB ^ j) BB]
      congr 1
      rw [← Nat.mul_assoc, Nat.mul_comm V, Nat.mul_assoc]
    have e4 : BB ^ j * vB (L.drop j) = BB ^ j * (V * (vB (L.drop j) / V)) + BB ^ j * (vB (L.drop j) % V) := by rw [← Nat.mul_add, hdm]
    omega
/-- The factor that makes the divisor's highest limb great keeps its length. -/
theorem norm_of {n k top : Nat} (hk : (lim n).length = k + 1) (ht : (lim n)[k]? = some top) : 0 < BB / (top + 1) ∧ BB / (top + 1) < BB ∧ (lim (n * (BB / (top + 1)))).length = k + 1 := by
  have htop : top < BB := lim_at ht
  have h0 : top ≠ 0 := by
    have h1 : lim n = (lim n).take k ++ [top] := by
      have := (List.take_append_drop k (lim n)).symm
      rwa [drop_cons ht, List.drop_of_length_le (by omega)] at this
    exact limbs_last (by decide) n _ _ h1
  have hd1 : 0 < BB / (top + 1) := Nat.div_pos (by omega) (by omega)
  have hd2 : BB / (top + 1) < BB := Nat.div_lt_self (by decide) (by omega)
  refine ⟨hd1, hd2, ?_⟩
  have hv := vB_split (lim n) (n := k) (by omega)
  rw [vB_lim, drop_cons ht, List.drop_of_length_le (by omega), vB_cons, show vB [] = 0 from rfl, Nat.mul_zero, Nat.add_zero] at hv
  have hlow := vB_take_lt (X := lim n) (lim_lt n) (n := k) (by omega)
  have hn1 : n + 1 ≤ BB ^ k * (top + 1) := by rw [Nat.mul_add, Nat.mul_one]; omega
  have hdm : (BB / (top + 1)) * (top + 1) ≤ BB := Nat.div_mul_le_self _ _
  generalize BB / (top + 1) = d at *
  have up : n * d < BB ^ (k + 1) := by
    have h1 : (n + 1) * d ≤ BB ^ k * (top + 1) * d := Nat.mul_le_mul_right _ hn1
    have h2 : BB ^ k * (d * (top + 1)) ≤ BB ^ k * BB := Nat.mul_le_mul_left _ hdm
    rw [Nat.add_mul, Nat.one_mul, Nat.mul_assoc, Nat.mul_comm (top + 1)] at h1
    rw [Nat.pow_succ]
    omega
  have hle := limbs_len_le (B := BB) (by decide) up
  have hge : BB ^ k ≤ n := by
    have := (limbs_bounds (B := BB) (by decide) n).2 (fun h => by rw [h, show lim 0 = [] from limbs_zero _] at hk; simp at hk)
    rw [show (limbs BB n).length = k + 1 from hk] at this
    exact this
  have hge2 : BB ^ k ≤ n * d := Nat.le_trans hge (Nat.le_mul_of_pos_right n hd1)
  have hb := (limbs_bounds (B := BB) (by decide) (n * d)).1
  have := (Nat.pow_lt_pow_iff_right (show 1 < BB by decide)).1 (Nat.lt_of_le_of_lt hge2 hb)
  show (limbs BB (n * d)).length = k + 1
  omega
theorem div_init {m n d p k T : Nat} (hd : 0 < d) (hk : (lim n).length = k) (hk2 : (lim (n * d)).length = k) (hk0 : 0 < k) (hT : T = (lim m).length + 1) (hp : (lim (m * d)).length + p = T) (hkT : k ≤ T) :
    DivInv (m * d) (n * d) T (T - k) (T - k) (lim (m * d) ++ List.replicate p 0) (List.replicate (T - k) 0) := by
  have hl : (lim (m * d) ++ List.replicate p 0).length = T := by rw [List.length_append, List.length_replicate, hp]
  have hv : vB (lim (m * d) ++ List.replicate p 0) = m * d := by
    have := vB_zeros p [] rfl
    rw [List.append_nil] at this
    rw [vB_app, this, vB_lim, Nat.mul_zero, Nat.add_zero]
  refine ⟨hl, List.length_replicate, ?_, ?_, ?_, ?_⟩
  · intro x hx
    rcases List.mem_append.1 hx with h | h
    · exact lim_lt _ x h
    · rw [(List.mem_replicate.1 h).2]; decide
  · intro x hx
    rw [(List.mem_replicate.1 hx).2]; decide
  · refine Nat.lt_of_not_le fun hge => ?_
    have h1 := vB_split (lim (m * d) ++ List.replicate p 0) (n := T - k) (by omega)
    rw [hv] at h1
    have h2 : BB ^ (T - k) * (n * d) ≤ m * d := Nat.le_trans (Nat.mul_le_mul_left _ hge) (by omega)
    rw [← Nat.mul_assoc] at h2
    have h3 := Nat.le_of_mul_le_mul_right h2 hd
    have h4 : BB ^ (k - 1) ≤ n := by
      have := (limbs_bounds (B := BB) (by decide) n).2 (fun h => by rw [h] at hk; rw [show lim 0 = [] from limbs_zero _] at hk; simp at hk; omega)
      rw [show (limbs BB n).length = k from hk] at this
      exact this
    have h5 : BB ^ (T - k) * BB ^ (k - 1) ≤ m := Nat.le_trans (Nat.mul_le_mul_left _ h4) h3
    rw [← Nat.pow_add, show T - k + (k - 1) = (lim m).length by omega] at h5
    have := (limbs_bounds (B := BB) (by decide) m).1
    have h6 : (limbs BB m).length = (lim m).length := rfl
    rw [h6] at this
    omega
  · rw [hv, List.drop_of_length_le (by rw [List.length_replicate]; exact Nat.le_refl _), show vB [] = 0 from rfl]
    simp
theorem div_end {m n d T K : Nat} {L Q : List Nat} (h : DivInv (m * d) (n * d) T K 0 L Q) (hd : 0 < d) (hn : 0 < n) : vB Q = m / n ∧ vB L = d * (m % n) := by
  have hv := h.val
  have hl := h.low
  rw [List.drop_zero] at hl
  rw [List.drop_zero, Nat.pow_zero, Nat.one_mul] at hv
  have hpos : 0 < n * d := Nat.mul_pos hn hd
  constructor
  · rw [← Nat.mul_div_mul_right m n hd, ← hv, Nat.add_mul_div_left _ _ hpos, Nat.div_eq_of_lt hl, Nat.zero_add]
  · have : (m * d) % (n * d) = vB L := by rw [← hv, Nat.add_mul_mod_self_left, Nat.mod_eq_of_lt hl]
    rw [← this, Nat.mul_mod_mul_right, Nat.mul_comm]
end Go.Proofs.YtehgeoipbgpocaaGreatDoor.I

namespace Go.Proofs.YtehgeoipbgpocaaGreatDoor.I
set_option linter.unusedVariables false
set_option linter.unusedSimpArgs false
open Go.RowKit

theorem ownV_form {w : World} {base g n cap : Nat} {e : TypeId} {l : List Value} (h : OwnV w base e (.slice (some ⟨g, 0, none⟩) n cap) l) :
    ∃ cur, base ≤ g ∧ w.heap[g]? = some (.cells cur e (0, 0)) ∧ n = l.length ∧ n ≤ cap ∧ cap ≤ maxLen ∧ cur.size = cap ∧ cur.toList.take n = l := by
  rcases h.2 with ⟨hv, _⟩ | ⟨g', cap', cur, hv, hb, hg, hn, hm, hs, ht⟩
  · injection hv with e1; cases e1
  · injection hv with e1 e2 e3
    cases e1
    subst e2 e3
    exact ⟨cur, hb, hg, rfl, hn, hm, by omega, by simpa using ht⟩
theorem splice_take {cur l cs : List Value} {off n : Nat} (ht : cur.take n = l) (hn : l.length = n) (hf : off + cs.length ≤ n) : (splice cur off cs).take n = splice l off cs := by
  obtain ⟨t, rfl⟩ : ∃ t, cur = l ++ t := ⟨cur.drop n, by rw [← ht, List.take_append_drop]⟩
  have e : splice (l ++ t) off cs = splice l off cs ++ t := by
    unfold splice
    rw [List.take_append_of_le_length (by omega), List.drop_append_of_le_length (by omega)]
    simp [List.append_assoc]
  have hl : (splice l off cs).length = n := by rw [length_splice _ _ _ (by omega), hn]
  rw [e, List.take_append_of_le_length (by omega), List.take_of_length_le (by omega)]
theorem grown_row (w : World) (g : Nat) (cs : Array Value) : w.grownBy (w.setRow g cs) (some g) :=
  ⟨rfl, rfl, rfl, by simp [World.setRow], fun k _ hk => setRow_other w g k cs (fun e => hk (by rw [e]))⟩
theorem grown_refl (w : World) (row : Option Nat) : w.grownBy w row := ⟨rfl, rfl, rfl, Nat.le_refl _, fun _ _ _ => rfl⟩
theorem wpList_copyV {P : Program} {w : World} {ops : Array Oper} {rest : List Oper} {o : Oper} {a : Act} {Q : Exit → Act → World → Prop} (hgd : o.guard = none) (d s : Operand) (dT sT : TypeId)
    (ho : o.op = .call { callee := .builtin .copy, args := #[d, s], argTypes := #[dT, sT] }) (e : TypeId) (hu : P.underlying dT = some (.slice e)) (hsz : (P.info? e).map (·.size) = some 1)
    (base g n cap off dLen dCap : Nat) (l : List Value) (hown : OwnV w base e (.slice (some ⟨g, 0, none⟩) n cap) l) (sp : Option Addr) (sLen sCap : Nat) (hd : a.eval d = .slice (some ⟨g, off, none⟩) dLen dCap) (hs : a.eval s = .slice sp sLen sCap)
    (cs : List Value) (hn : cs.length = sLen) (hle : sLen ≤ dLen) (hfit : off + sLen ≤ n) (h1 : ∀ v ∈ cs, v.oneCell' = true)
    (hpos : 0 < cs.length → ∃ b so, sp = some ⟨b, so, none⟩ ∧ ∀ (j : Nat) v, cs[j]? = some v → w.cell? ⟨b, so + j, none⟩ = some v)
    (h : ∀ w', OwnV w' base e (.slice (some ⟨g, 0, none⟩) n cap) (splice l off cs) → w.grownBy w' (some g) → wpList P ops Q rest (a.put o.dst (goInt cs.length)) w') :
    wpList P ops Q (o :: rest) a w := by
  obtain ⟨cur, hb, hg, hnl, hnc, hcm, hcs, ht⟩ := ownV_form hown
  have hmin : cs.length = Nat.min sLen dLen := by rw [hn]; exact (Nat.min_eq_left hle).symm
  by_cases h0 : cs.length = 0
  · obtain rfl : cs = [] := List.eq_nil_of_length_eq_zero h0
    refine wpList_copy_nothing hgd d s dT sT ho e hu hsz _ sp dLen dCap sLen sCap hd hs (by simpa using hmin.symm) ?_
    exact h w (by simpa [splice] using hown) (grown_refl _ _)
  · obtain ⟨b, so, rfl, hsrc⟩ := hpos (by omega)
    refine wpList_copy_own hgd d s dT sT ho e hu hsz g off dLen dCap ⟨b, so, none⟩ sLen sCap hd hs cur e hg cs hmin (fun j v hj => ?_) (by omega) h1 ?_
    · have := hsrc j v hj
      unfold Addr.add
      split
      · simp_all
      · simpa using this
    · have hsl : (splice l off cs).length = n := by rw [length_splice _ _ _ (by omega), hnl]
      have hct : cur.toList.length = cap := by simpa using hcs
      have hsc : (splice cur.toList off cs).length = cap := by rw [length_splice _ _ _ (by omega), hct]
      refine h _ ⟨by rw [Nat.mul_one], .inr ⟨g, cap, _, by rw [hsl], hb, setRow_heap w g cur _ e _ hg, by rw [hsl]; exact hnc, hcm, ?_, ?_⟩⟩ (grown_row _ _ _)
      · rw [Nat.mul_one]
        show (splice cur.toList off cs).toArray.size = cap
        simpa using hsc
      · rw [hsl, Nat.mul_one]
        show (splice cur.toList off cs).toArray.toList.take n = _
        simpa using splice_take (off := off) (cs := cs) ht hnl.symm (by omega)
theorem run_append_zeros_room {P : Program} (w : World) (t tn ty e : TypeId) (i : TypeInfo) (z : Value) (kq kn : IntKind) (ht : P.underlying t = some (.slice e)) (htn : P.underlying tn = some (.int kn)) (hi : P.info? e = some i) (hz : i.zero = some z)
    (hs : i.size = 1) (hby : i.bytes = 8) (hzc : z.cells = #[z]) (hz1 : z.oneCell' = true) (g sLen sCap : Nat) (cur : Array Value) (hg : w.heap[g]? = some (.cells cur e (0, 0))) (k : Nat) (h48 : k ≤ 1000000) (hroom : sLen + k ≤ sCap) (hfit : sLen + k ≤ cur.size) :
    (Builtin.append_ #[t, tn] ty #[.slice (some ⟨g, 0, none⟩) sLen sCap, .int kq k]).run P w =
      .ok (.slice (some ⟨g, 0, none⟩) (sLen + k) sCap) (w.setRow g (cur.toList.take sLen ++ List.replicate k z ++ cur.toList.drop (sLen + k)).toArray) := by
  have hw : IntKind.i64.wrap (k : Int) = k := by rw [IntKind.wrap_i64]; omega
  have hneg : ¬ ((k : Int) < 0) := by omega
  have h48i : ¬ (281474976710656 < (k : Int) * 8) := by omega
  have hw0 : IntKind.i64.wrap 0 = 0 := by decide
  have hst := run_storeCells_at P g sLen e (List.replicate k z) 0 cur w hg (by simpa using hfit) (fun v hv => by rw [(List.mem_replicate.1 hv).2]; exact hz1)
  have hzk : (Builtin.zeroCells z.cells k).toList = List.replicate k z := by
    refine List.ext_getElem? fun j => ?_
    rw [hzc]
    simp [Builtin.zeroCells]
    rw [List.getElem?_replicate]
    by_cases hj : j < k
    · rw [if_pos hj, List.getElem?_eq_getElem (by simpa using hj)]
      simp [Nat.mod_one]
    · rw [if_neg hj, List.getElem?_eq_none (by simpa using Nat.le_of_not_lt hj)]
      rfl
  simp only [Nat.add_zero, List.length_replicate] at hst
  by_cases hk : k = 0
  · subst hk
    simp [Builtin.append_, run_underlying ht, run_underlying htn, sizeOf, typeInfo, hi, hs, asInt, asIntOf, hw0, hby, Addr.add_lit, show sLen ≤ sCap by omega] at hst ⊢
    simp [hst]
  · simp [Builtin.append_, run_underlying ht, run_underlying htn, sizeOf, typeInfo, zeroValue, hi, hz, hs, asInt, asIntOf, hw, hneg, hby, h48i, hk, hroom, Addr.add_lit, hzk, hst]
theorem wpList_appz {P : Program} {w : World} {ops : Array Oper} {rest : List Oper} {o : Oper} {a : Act} {Q : Exit → Act → World → Prop} (hgd : o.guard = none) (s x : Operand) (t tn : TypeId)
    (ho : o.op = .call { callee := .builtin .append, args := #[s, x], argTypes := #[t, tn] }) (e : TypeId) (i : TypeInfo) (z : Value) (kq kn : IntKind) (ht : P.underlying t = some (.slice e)) (htn : P.underlying tn = some (.int kn))
    (hi : P.info? e = some i) (hz : i.zero = some z) (hs1 : i.size = 1) (hby : i.bytes = 8) (hzc : z.cells = #[z]) (hz1 : z.oneCell' = true)
    (base g n cap k : Nat) (l : List Value) (hown : OwnV w base e (.slice (some ⟨g, 0, none⟩) n cap) l) (hs : a.eval s = .slice (some ⟨g, 0, none⟩) n cap) (hx : a.eval x = .int kq (k : Int)) (hk : k ≤ 1000000) (hroom : n + k ≤ cap)
    (h : ∀ w', OwnV w' base e (.slice (some ⟨g, 0, none⟩) (n + k) cap) (l ++ List.replicate k z) → w.grownBy w' (some g) → wpList P ops Q rest (a.put o.dst (.slice (some ⟨g, 0, none⟩) (n + k) cap)) w') :
    wpList P ops Q (o :: rest) a w := by
  obtain ⟨cur, hb, hg, hnl, hnc, hcm, hcs, htk⟩ := ownV_form hown
  have hr := run_append_zeros_room (P := P) w t tn o.type e i z kq kn ht htn hi hz hs1 hby hzc hz1 g n cap cur hg k hk hroom (by omega)
  refine Lib.wpList_append_run w hgd s x t tn ho _ _ hs hx _ _ hr ?_
  have hct : cur.toList.length = cap := by simpa using hcs
  have hll : (l ++ List.replicate k z).length = n + k := by rw [List.length_append, List.length_replicate, hnl]
  refine h _ ⟨by rw [Nat.mul_one], .inr ⟨g, cap, _, by rw [hll], hb, setRow_heap w g cur _ e _ hg, by rw [hll]; exact hroom, hcm, ?_, ?_⟩⟩ (grown_row _ _ _)
  · rw [Nat.mul_one]
    simp
    omega
  · rw [hll, Nat.mul_one, htk]
    show (l ++ List.replicate k z ++ cur.toList.drop (n + k)).take (n + k) = _
    rw [← hll]
    exact List.take_left
end Go.Proofs.YtehgeoipbgpocaaGreatDoor.I

namespace Go.Proofs.YtehgeoipbgpocaaGreatDoor.I
set_option linter.unusedVariables false
set_option linter.unusedSimpArgs false
open Go.RowKit
attribute [local go_sem low] Bel.cell Bel.frozen alloc_cell alloc_frozen

/-- The call returns a new slice of a number's limbs, with room for C of them. -/
def MagCap (w : World) (N C : Nat) (e : Ending) (w' : World) : Prop := ∃ cap, e = .returned (.slice (some ⟨w.heap.size, 0, none⟩) (lim N).length cap) ∧ C ≤ cap ∧ ∃ y : Bel w, w' = y.w ∧ OwnV y.w w.heap.size 76 (.slice (some ⟨w.heap.size, 0, none⟩) (lim N).length cap) (uVs (lim N))
set_option maxRecDepth 100000 in
set_option maxHeartbeats 6400000 in
theorem times_cap (a b : Option Addr) (cap cap' m n : Nat) (w : World) (h1 : Limbs w a (lim m)) (h2 : Limbs w b (lim n)) (hl1 : (lim m).length ≤ 10000) (hl2 : (lim n).length ≤ 10000) :
    Calls Tryz.prog 152 #[.slice a (lim m).length cap, .slice b (lim n).length cap'] w (MagCap w (m * n) ((lim m).length + (lim n).length + 1)) := by
  obtain ⟨i0, hi0, hz0, hz1, hz2⟩ := info_parts Tryz.infoU
  obtain ⟨T, hT⟩ : ∃ T, (lim m).length + (lim n).length + 1 = T := ⟨_, rfl⟩
  have hT' : ((lim m).length : Int) + ((lim n).length : Int) + 1 = (T : Int) := by omega
  have hTb : T ≤ 20001 := by omega
  obtain ⟨S, hS⟩ : ∃ S, m * n = S := ⟨_, rfl⟩
  have vN := vB_lim n
  go_enter Tryz.func152, Tryz.ntmps152
  go_wp2_with (at_make; refine wpList_make_full _ rfl _ _ 260 rfl (w.heap.size) 76 i0 (.int .u64 0) 1 Tryz.underlying260 hi0 hz0 hz1 _ _ _ _ (T) rfl rfl (by first | rfl | omega | (simp <;> omega)) (by first | rfl | omega | (simp <;> omega)) (by rw [hz2] <;> omega) (by unfold maxLen; omega) (by first | omega | (simp <;> omega)) ?_; intro wM hownM hgrowM)
  have hbM : Below w.heap.size w wM := (Below.refl _ _).grown hgrowM (Nat.le_refl _) (fun k e => by cases e)
  have ho0 : OwnV wM w.heap.size 76 (.slice (some ⟨w.heap.size, 0, none⟩) T T) (uVs (List.replicate T 0)) := by
    unfold OwnV
    rw [uVs_rep, List.length_replicate]
    have := hownM
    rw [Nat.mul_one, show (Value.int .u64 0).cells = #[Value.int .u64 0] from rfl, toList_madeCells_one] at this
    exact this
  clear hownM hgrowM
  go_loopw [21] (fun i wr => ∃ (k : Nat) (L : List Nat), i = .int .i64 (k : Int) ∧ k ≤ (lim m).length ∧ L.length = T ∧ (∀ x ∈ L, x < 1000000000) ∧ vB L = vB ((lim m).take k) * n ∧ Zeros L (k + (lim n).length) ∧
    OwnV wr w.heap.size 76 (.slice (some ⟨w.heap.size, 0, none⟩) T T) (uVs L) ∧ Below w.heap.size w wr) (fun i _ => (lim m).length - (intOf i).toNat)
  case atStart => exact ⟨0, List.replicate T 0, rfl, by omega, by rw [List.length_replicate], fun x hx => by rw [(List.mem_replicate.1 hx).2]; decide, by rw [vB_rep]; simp [valB], zeros_rep _ _, ho0, hbM⟩
  case round =>
    clear ho0 hbM
    obtain ⟨i, L, rfl, hk, hL, hlt, hv, hz, hown, hb⟩ := hrel
    have hbs := hb.size
    have HO := Lib.hid hown
    clear hown
    by_cases hkm : i < (lim m).length
    · have hki : (i : Int) < ((lim m).length : Int) := by omega
      obtain ⟨b1, o1, rfl, c1⟩ := h1 (by omega)
      obtain ⟨x, hx⟩ : ∃ x, (lim m)[i]? = some x := ⟨_, List.getElem?_eq_getElem hkm⟩
      have hx9 := lim_at hx
      have g1 := cell_carry hb (c1 i x hx)
      have HX := Lib.hid (valB_take (B := 1000000000) hx)
      have HC1 := Lib.hid c1
      have HV := Lib.hid hv
      have HLt := Lib.hid hlt
      have HZ := Lib.hid hz
      clear hx c1 hv hlt hz h1
      obtain ⟨wo, rfl⟩ : ∃ wo : World, wo = wr := ⟨_, rfl⟩
      go_wp2
      go_loopw [8, 28] (fun c j wr => ∃ (k c' : Nat) (L : List Nat), j = .int .i64 (k : Int) ∧ k ≤ (lim n).length ∧ c = .int .u64 (c' : Int) ∧ c' < 1000000000 ∧ L.length = T ∧ (∀ x ∈ L, x < 1000000000) ∧
        vB L + 1000000000 ^ (i + k) * c' = vB ((lim m).take i) * n + 1000000000 ^ i * (x * vB ((lim n).take k)) ∧ Zeros L (i + (lim n).length) ∧
        OwnV wr w.heap.size 76 (.slice (some ⟨w.heap.size, 0, none⟩) T T) (uVs L) ∧ Below w.heap.size w wr) (fun _ j _ => (lim n).length - (intOf j).toNat)
      case atStart => exact ⟨0, 0, L, rfl, by omega, rfl, by omega, hL, HLt.out, by rw [HV.out]; simp [valB], HZ.out, HO.out, hb⟩
      case round =>
        clear g1 HLt HV HZ HO hb hbs hL L
        obtain ⟨k, c, L, rfl, hk2, rfl, hc, hL, hlt, hv, hz, hown, hb⟩ := hrel
        have hbs := hb.size
        have HO := Lib.hid hown
        clear hown
        by_cases hkn : k < (lim n).length
        · have hkj : (k : Int) < ((lim n).length : Int) := by omega
          obtain ⟨b2, o2, rfl, c2⟩ := h2 (by omega)
          obtain ⟨y, hy⟩ : ∃ y, (lim n)[k]? = some y := ⟨_, List.getElem?_eq_getElem hkn⟩
          have hy9 := lim_at hy
          have g2 := cell_carry hb (c2 k y hy)
          have ey := valB_take (B := 1000000000) hy
          obtain ⟨z, hz1⟩ : ∃ z, L[i + k]? = some z := ⟨_, List.getElem?_eq_getElem (by omega)⟩
          have hz9 : z < 1000000000 := hlt z (List.mem_of_getElem? hz1)
          obtain ⟨g3, f3⟩ := own_at HO.out hz1
          obtain ⟨p1, hp1⟩ : ∃ p, x * y = p := ⟨_, rfl⟩
          have hp1' : (x : Int) * (y : Int) = (p1 : Int) := by rw [← hp1]; simp
          have hp1b : p1 ≤ 999999998000000001 := by
            rw [← hp1]
            exact Nat.le_trans (Nat.mul_le_mul (show x ≤ 999999999 by omega) (show y ≤ 999999999 by omega)) (by decide)
          obtain ⟨p2, hp2⟩ : ∃ p, z + p1 = p := ⟨_, rfl⟩
          have hp2' : (z : Int) + (p1 : Int) = (p2 : Int) := by omega
          have hp2b : p2 ≤ 999999999000000000 := by omega
          obtain ⟨p, hp⟩ : ∃ q, p2 + c = q := ⟨_, rfl⟩
          have hp' : (p2 : Int) + (c : Int) = (p : Int) := by omega
          have hpb : p ≤ 999999999999999999 := by omega
          obtain ⟨d, hd⟩ : ∃ d, p % 1000000000 = d := ⟨_, rfl⟩
          obtain ⟨q, hq⟩ : ∃ q, p / 1000000000 = q := ⟨_, rfl⟩
          have hd' : (p : Int) % 1000000000 = (d : Int) := by omega
          have hq' : (p : Int) / 1000000000 = (q : Int) := by omega
          have hqb : q < 1000000000 := by omega
          have hij : (i : Int) + (k : Int) < (T : Int) := by omega
          have HV := Lib.hid (times_step hv hz1 ey (by omega) hd hq)
          have HL := Lib.hid (lt_set (j := i + k) hlt (show d < 1000000000 by omega))
          have HZ := Lib.hid (zeros_set (d := d) hz (show i + k < i + (lim n).length by omega))
          have HS := Lib.hid (own_store (by rw [hL]; exact HO.out) (i + k) d)
          have HLe := Lib.hid hL
          clear hv hlt hz hd hq hp hp1 hp2 ey hy hz1 c2 h2 hL
          go_wp2
          go_roundw
          case rel =>
            have hS' := HS.out.1
            rw [List.length_set, HLe.out] at hS'
            exact ⟨k + 1, q, L.set (i + k) d, by go_num, by omega, rfl, hqb, by rw [List.length_set, HLe.out], HL.out, HV.out, HZ.out, hS', by (repeat' (first | (with_reducible first | apply Zl1 | apply Zl2 | apply Zl3 | apply Zl4 | apply Zl5 | apply Zl6 | apply Zl7 | apply Zl8 | apply Zl9 | apply Zla | apply Zlb | apply Zlc) | (dsimp only; with_reducible first | apply Zl8 | apply Zl2 | apply Zld) | with_reducible assumption | omega | (dsimp only; omega)))⟩
          case measure => simp [intOf]; omega
        · obtain rfl : k = (lim n).length := by omega
          have h0 : L[i + (lim n).length]? = some 0 := by
            obtain ⟨z, hz1⟩ : ∃ z, L[i + (lim n).length]? = some z := ⟨_, List.getElem?_eq_getElem (by omega)⟩
            rw [hz1, hz _ z (Nat.le_refl _) hz1]
          obtain ⟨g3, f3⟩ := own_at HO.out h0
          have hij : (i : Int) + ((lim n).length : Int) < (T : Int) := by omega
          have HV := Lib.hid (times_row hv vN HX.out h0)
          have HL := Lib.hid (lt_set (j := i + (lim n).length) hlt hc)
          have HZ := Lib.hid (show Zeros (L.set (i + (lim n).length) c) (i + 1 + (lim n).length) from zeros_set (fun j x hj hx => hz j x (by omega) hx) (by omega))
          have HS := Lib.hid (own_store (by rw [hL]; exact HO.out) (i + (lim n).length) c)
          have HLe := Lib.hid hL
          clear hv hlt hz h0 h2 hL
          go_wp2
          go_roundw
          case rel =>
            have hS' := HS.out.1
            rw [List.length_set, HLe.out] at hS'
            exact ⟨i + 1, L.set (i + (lim n).length) c, by go_num, by omega, by rw [List.length_set, HLe.out], HL.out, HV.out, HZ.out, hS', by (repeat' (first | (with_reducible first | apply Zl1 | apply Zl2 | apply Zl3 | apply Zl4 | apply Zl5 | apply Zl6 | apply Zl7 | apply Zl8 | apply Zl9 | apply Zla | apply Zlb | apply Zlc) | (dsimp only; with_reducible first | apply Zl8 | apply Zl2 | apply Zld) | with_reducible assumption | omega | (dsimp only; omega)))⟩
          case measure => simp [intOf]; omega
    · obtain rfl : i = (lim m).length := by omega
      have HV := Lib.hid (show vB L = S by rw [hv, List.take_length, vB_lim, hS])
      have HL := Lib.hid hlt
      have HTC := Lib.hid hT
      clear hT hT'
      subst hL
      have hLb : L.length ≤ 100000 := by omega
      clear hv hlt h1 h2 hk hkm hz
      go_wp2_with fail
      (with_reducible refine (trim_own HO.out hLb).mono ?_)
      rintro _ _ ⟨rfl, x, rfl⟩
      dsimp only
      go_wp2
      go_ret
      have h1 := own_trim HO.out
      have h2 := trim_lim HL.out HV.out
      rw [h2] at h1 ⊢
      rw [hS]
      exact ⟨_, rfl, Nat.le_of_eq HTC.out, ⟨x.w, Below.bel hb hb.size⟩, rfl, ownV_bel h1 x⟩
theorem ownV_empty (w : World) (e : TypeId) : OwnV (w.alloc (.cells #[] e)) w.heap.size e (.slice (some ⟨w.heap.size, 0, none⟩) 0 0) [] := by
  refine ⟨rfl, .inr ⟨w.heap.size, 0, #[], rfl, Nat.le_refl _, ?_, Nat.le_refl _, by unfold maxLen; omega, rfl, rfl⟩⟩
  show (w.heap.push _)[w.heap.size]? = _
  simp
theorem uVs_one (l : List Nat) : ∀ u ∈ uVs l, u.oneCell' = true := fun u hu => by
  obtain ⟨z, _, rfl⟩ := List.mem_map.1 hu
  rfl
set_option maxRecDepth 100000 in
set_option maxHeartbeats 1600000 in
theorem clone_any (b off cap : Nat) (l : List Nat) (w : World) (h : ∀ (j x : Nat), l[j]? = some x → w.cell? ⟨b, off + j, none⟩ = some (.int .u64 (x : Int))) (hl : l.length ≤ 100000) :
    Calls Tryz.prog 311 #[.slice (some ⟨b, off, none⟩) l.length cap] w fun e w' => ∃ v, e = .returned v ∧ ∃ y : Bel w, w' = y.w ∧ OwnV y.w w.heap.size 76 v (uVs l) := by
  obtain ⟨i0, hi0, hz0, hz1, hz2⟩ := info_parts Tryz.infoU
  have hll := uVs_len l
  have hnews : ∀ (jj : Nat) u, (uVs l)[jj]? = some u → (w.alloc (.cells #[] 76)).cell? (Addr.add ⟨b, off, none⟩ jj) = some u := fun jj u hu => by
    unfold uVs at hu
    rw [List.getElem?_map] at hu
    cases hx : l[jj]? with
    | none => rw [hx] at hu; cases hu
    | some x =>
      rw [hx] at hu
      injection hu with hu
      subst hu
      have := cell_carry ((Below.refl w.heap.size w).alloc (Nat.le_refl _) (.cells #[] 76)) (h jj x hx)
      rw [show Addr.add ⟨b, off, none⟩ jj = ⟨b, off + jj, none⟩ by simp [Addr.add]]; exact this
  have HNW := Lib.hid hnews
  have HE := Lib.hid (ownV_empty w 76)
  clear h hnews
  have heq := fun wx : World => Lib.run_eql_slice_nil (P := Tryz.prog) wx 260 76 (some ⟨b, off, none⟩) l.length cap 0 0 Tryz.underlying260
  go_enter Tryz.func311, Tryz.ntmps311
  go_wp2_with (at_builtin; refine wpList_append_own _ rfl _ _ 260 rfl w.heap.size 76 i0 (.int .u64 0) 1 8 Tryz.underlying260 hi0 hz0 hz1 hz2 rfl (by decide) _ _ _ rfl HE.out ⟨b, off, none⟩ l.length cap (uVs l) rfl (by rw [hll, Nat.mul_one]) HNW.out (uVs_one l) (by unfold maxLen; simp; omega) (by simp; omega) (by simp) ?_; intro v1 w1 hown1 hgrow1 hnn1)
  obtain ⟨ho1, hb0⟩ := ownV_app HE.out (Below.refl _ _) (by simp) (by simp) (by rw [hll]) hown1 hgrow1
  have hb1 : Below w.heap.size w w1 := ((Below.refl _ _).alloc (Nat.le_refl _) _).trans hb0
  clear hown1 hgrow1 hnn1
  go_wp2
  go_ret
  exact ⟨_, rfl, ⟨w1, hb1⟩, rfl, ho1⟩
end Go.Proofs.YtehgeoipbgpocaaGreatDoor.I
