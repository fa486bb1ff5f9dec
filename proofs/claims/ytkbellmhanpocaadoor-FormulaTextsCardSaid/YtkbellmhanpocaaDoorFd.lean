/- Texts of trees, in plain Lean: no text begins another one. -/
import Derived.Test.YtkbellmhanpocaaDoorFc
import Derived.Lib.Itoa
import Derived.Lib.ItoaLen
namespace Go.Proofs.YtkbellmhanpocaaDoor
set_option linter.unusedVariables false
set_option linter.unusedSimpArgs false
open F

/-- The digits of a number that is not negative. -/
def dgs (a : Int) : List UInt8 := Go.Lib.decDigits a.toNat
def isDg (c : UInt8) : Bool := decide (48 ≤ c.toNat) && decide (c.toNat ≤ 57)
theorem dgs_itoa {a : Int} (h : 0 ≤ a) : Go.Lib.itoa a = dgs a := by
  unfold dgs Go.Lib.itoa
  rw [if_neg (by omega)]
theorem dv {d : Nat} (h : d < 10) : (UInt8.ofNat (48 + d)).toNat = 48 + d := by rw [UInt8.toNat_ofNat']; omega
theorem dec_all (u : Nat) : ∀ c ∈ Go.Lib.decDigits u, isDg c = true := by
  induction u using Nat.strongRecOn with
  | ind u ih =>
    intro c hc
    by_cases h : u < 10
    · rw [Go.Lib.decDigits_one h] at hc
      rw [List.mem_singleton.1 hc]
      unfold isDg
      rw [dv h, Bool.and_eq_true]
      exact ⟨decide_eq_true (by omega), decide_eq_true (by omega)⟩
    · rw [Go.Lib.decDigits, dif_neg h] at hc
      rcases List.mem_append.1 hc with h1 | h1
      · exact ih (u / 10) (by omega) c h1
      · rw [List.mem_singleton.1 h1]
        unfold isDg
        rw [dv (Nat.mod_lt _ (by decide)), Bool.and_eq_true]
        exact ⟨decide_eq_true (by omega), decide_eq_true (by omega)⟩
def dval (l : List UInt8) : Nat := l.foldl (fun a c => 10 * a + (c.toNat - 48)) 0
theorem dec_val (u : Nat) : dval (Go.Lib.decDigits u) = u := by
  induction u using Nat.strongRecOn with
  | ind u ih =>
    by_cases h : u < 10
    · rw [Go.Lib.decDigits_one h]
      simp only [dval, List.foldl_cons, List.foldl_nil, dv h]
      omega
    · have hi := ih (u / 10) (by omega)
      rw [Go.Lib.decDigits, dif_neg h]
      unfold dval at hi ⊢
      rw [List.foldl_append, hi]
      simp only [List.foldl_cons, List.foldl_nil, dv (Nat.mod_lt u (show 0 < 10 by decide))]
      omega
theorem dgs_inj {a b : Int} (ha : 0 ≤ a) (hb : 0 ≤ b) (h : dgs a = dgs b) : a = b := by
  have h1 := dec_val a.toNat
  have h2 := dec_val b.toNat
  unfold dgs at h
  rw [h] at h1
  omega
theorem dgs_ne (a : Int) : dgs a ≠ [] := fun h => by
  have := Go.Lib.decDigits_length a.toNat
  have h2 := Go.Lib.nDigits_pos a.toNat
  unfold dgs at h
  rw [h] at this
  simp at this
  omega
mutual
def txt : F → List UInt8
  | nd k a l => if k = 1 then 120 :: dgs a else if k = 2 then 33 :: txtH l else if k = 5 then [48] else if k = 6 then [49] else (if k = 3 then 38 else 124) :: 40 :: (txtL l ++ [41])
def txtH : List F → List UInt8 | [] => [] | t :: _ => txt t
def txtL : List F → List UInt8 | [] => [] | t :: r => txt t ++ txtR r
def txtR : List F → List UInt8 | [] => [] | t :: r => 32 :: (txt t ++ txtR r)
end
theorem txtR_app : ∀ l r : List F, txtR (l ++ r) = txtR l ++ txtR r
  | [], r => rfl
  | t :: l, r => by rw [List.cons_append, txtR, txtR, txtR_app l r, List.cons_append, List.append_assoc]
theorem txtL_snoc (l : List F) (t : F) : txtL (l ++ [t]) = txtL l ++ (if l = [] then txt t else 32 :: txt t) := by
  cases l with
  | nil =>
    rw [if_pos rfl]
    show txt t ++ [] = [] ++ txt t
    rw [List.append_nil, List.nil_append]
  | cons u r =>
    rw [List.cons_append, txtL, txtL, txtR_app, if_neg (fun h => by cases h), List.append_assoc]
    show txt u ++ (txtR r ++ (32 :: (txt t ++ []))) = _
    rw [List.append_nil]
/-- What follows does not go on with a digit. -/
def stopD : List UInt8 → Bool | [] => true | c :: _ => !isDg c
theorem digs_split : ∀ {l m r s : List UInt8}, (∀ c ∈ l, isDg c = true) → (∀ c ∈ m, isDg c = true) → stopD r = true → stopD s = true → l ++ r = m ++ s → l = m ∧ r = s
  | [], [], r, s, _, _, _, _, h => ⟨rfl, h⟩
  | [], c :: m, r, s, _, hm, hr, _, h => by
    rw [List.nil_append] at h
    rw [h] at hr
    have := hm c (List.mem_cons_self ..)
    simp [stopD, this] at hr
  | c :: l, [], r, s, hl, _, _, hs, h => by
    rw [List.nil_append] at h
    rw [← h] at hs
    have := hl c (List.mem_cons_self ..)
    simp [stopD, this] at hs
  | c :: l, d :: m, r, s, hl, hm, hr, hs, h => by
    rw [List.cons_append, List.cons_append] at h
    injection h with h1 h2
    obtain ⟨e1, e2⟩ := digs_split (fun x hx => hl x (List.mem_cons_of_mem _ hx)) (fun x hx => hm x (List.mem_cons_of_mem _ hx)) hr hs h2
    exact ⟨by rw [h1, e1], e2⟩
theorem txt_head {k a : Int} {l : List F} (h : single (nd k a l) = 0) : ∃ c r, txt (nd k a l) = c :: r ∧ (c = if k = 1 then 120 else if k = 2 then 33 else if k = 3 then 38 else if k = 4 then 124 else if k = 5 then 48 else 49) := by
  rw [txt]
  rcases single_cases h with ⟨rfl, h1, h2, rfl⟩ | ⟨rfl, rfl, t, rfl⟩ | ⟨rfl | rfl, rfl, hl⟩ | ⟨rfl | rfl, rfl, rfl⟩
  · exact ⟨_, _, rfl, rfl⟩
  · exact ⟨_, _, rfl, rfl⟩
  · exact ⟨_, _, rfl, rfl⟩
  · exact ⟨_, _, rfl, rfl⟩
  · exact ⟨_, _, rfl, rfl⟩
  · exact ⟨_, _, rfl, rfl⟩
theorem head_kind {k k' : Int} (h : 1 ≤ k ∧ k ≤ 6) (h' : 1 ≤ k' ∧ k' ≤ 6)
    (e : (if k = 1 then (120 : UInt8) else if k = 2 then 33 else if k = 3 then 38 else if k = 4 then 124 else if k = 5 then 48 else 49) = (if k' = 1 then 120 else if k' = 2 then 33 else if k' = 3 then 38 else if k' = 4 then 124 else if k' = 5 then 48 else 49)) : k = k' := by
  have hk : k = 1 ∨ k = 2 ∨ k = 3 ∨ k = 4 ∨ k = 5 ∨ k = 6 := by omega
  have hk' : k' = 1 ∨ k' = 2 ∨ k' = 3 ∨ k' = 4 ∨ k' = 5 ∨ k' = 6 := by omega
  rcases hk with rfl | rfl | rfl | rfl | rfl | rfl <;> rcases hk' with rfl | rfl | rfl | rfl | rfl | rfl <;> first | rfl | (exact absurd e (by decide))
theorem ok_range {k a : Int} {l : List F} (h : single (nd k a l) = 0) : 1 ≤ k ∧ k ≤ 6 := by
  rcases single_cases h with ⟨rfl, _⟩ | ⟨rfl, _⟩ | ⟨hk, _⟩ | ⟨hk, _⟩ <;> omega
mutual
theorem txt_split : ∀ (t u : F) (r s : List UInt8), okT t → okT u → stopD r = true → stopD s = true → txt t ++ r = txt u ++ s → t = u ∧ r = s
  | nd k a l, nd k' a' l', r, s, h, h', hr, hs, e => by
    have hkk : k = k' := by
      obtain ⟨c, x, e1, e2⟩ := txt_head h.1
      obtain ⟨c', x', e1', e2'⟩ := txt_head h'.1
      rw [e1, e1'] at e
      injection e with e3 _
      exact head_kind (ok_range h.1) (ok_range h'.1) (by rw [← e2, ← e2', e3])
    subst hkk
    rcases single_cases h.1 with ⟨rfl, h1, h2, rfl⟩ | ⟨rfl, rfl, t, rfl⟩ | ⟨hk, rfl, hl⟩ | ⟨hk, rfl, rfl⟩
    · rcases single_cases h'.1 with ⟨_, h1', h2', rfl⟩ | ⟨e', _⟩ | ⟨e', _⟩ | ⟨e', _⟩
      · rw [txt, txt, if_pos rfl, if_pos rfl, List.cons_append, List.cons_append] at e
        injection e with _ e
        obtain ⟨e1, e2⟩ := digs_split (dec_all _) (dec_all _) hr hs e
        rw [dgs_inj h1 h1' e1]
        exact ⟨rfl, e2⟩
      all_goals omega
    · rcases single_cases h'.1 with ⟨e', _⟩ | ⟨_, rfl, t', rfl⟩ | ⟨e', _⟩ | ⟨e', _⟩
      · omega
      · rw [txt, txt, if_neg (by decide), if_pos rfl, if_neg (by decide), if_pos rfl, List.cons_append, List.cons_append, txtH, txtH] at e
        injection e with _ e
        obtain ⟨e1, e2⟩ := txt_split t t' r s h.2.1 h'.2.1 hr hs e
        rw [e1]
        exact ⟨rfl, e2⟩
      · omega
      · omega
    · rcases single_cases h'.1 with ⟨e', _⟩ | ⟨e', _⟩ | ⟨_, rfl, hl'⟩ | ⟨e', _⟩
      · omega
      · omega
      · have e4 : txtL l ++ (41 :: r) = txtL l' ++ (41 :: s) := by
          have e5 : ∀ l : List F, txt (nd k 0 l) = (if k = 3 then 38 else 124) :: 40 :: (txtL l ++ [41]) := fun l => by
            rw [txt, if_neg (by omega), if_neg (by omega), if_neg (by omega), if_neg (by omega)]
          rw [e5, e5] at e
          simp only [List.cons_append, List.append_assoc, List.nil_append] at e
          injection e with _ e
          injection e with _ e
        obtain ⟨e1, e2⟩ := txtL_split l l' r s h.2 h'.2 e4
        rw [e1]
        exact ⟨rfl, e2⟩
      · omega
    · rcases single_cases h'.1 with ⟨e', _⟩ | ⟨e', _⟩ | ⟨e', _⟩ | ⟨_, rfl, rfl⟩
      · omega
      · omega
      · omega
      · refine ⟨rfl, ?_⟩
        rcases hk with rfl | rfl
        · rw [txt, if_neg (by decide), if_neg (by decide), if_pos rfl] at e
          injection e
        · rw [txt, if_neg (by decide), if_neg (by decide), if_neg (by decide), if_pos rfl] at e
          injection e
theorem txtL_split : ∀ (l m : List F) (r s : List UInt8), okL l → okL m → txtL l ++ (41 :: r) = txtL m ++ (41 :: s) → l = m ∧ r = s
  | [], [], r, s, _, _, e => by
    rw [txtL] at e
    injection e with _ e
    exact ⟨rfl, e⟩
  | [], nd k a x :: m, r, s, _, h, e => by
    obtain ⟨c, y, e1, e2⟩ := txt_head h.1.1
    rw [txtL, txtL, e1] at e
    injection e with e3 _
    rw [e2] at e3
    split at e3 <;> try (exact absurd e3 (by decide))
    split at e3 <;> try (exact absurd e3 (by decide))
    split at e3 <;> try (exact absurd e3 (by decide))
    split at e3 <;> try (exact absurd e3 (by decide))
    split at e3 <;> exact absurd e3 (by decide)
  | nd k a x :: m, [], r, s, h, _, e => by
    obtain ⟨c, y, e1, e2⟩ := txt_head h.1.1
    rw [txtL, txtL, e1] at e
    injection e with e3 _
    rw [e2] at e3
    split at e3 <;> try (exact absurd e3 (by decide))
    split at e3 <;> try (exact absurd e3 (by decide))
    split at e3 <;> try (exact absurd e3 (by decide))
    split at e3 <;> try (exact absurd e3 (by decide))
    split at e3 <;> exact absurd e3 (by decide)
  | t :: l, u :: m, r, s, h, h', e => by
    rw [txtL, txtL, List.append_assoc, List.append_assoc] at e
    obtain ⟨e1, e2⟩ := txt_split t u _ _ h.1 h'.1 (by cases l <;> rfl) (by cases m <;> rfl) e
    obtain ⟨e3, e4⟩ := txtR_split l m r s h.2 h'.2 e2
    rw [e1, e3]
    exact ⟨rfl, e4⟩
theorem txtR_split : ∀ (l m : List F) (r s : List UInt8), okL l → okL m → txtR l ++ (41 :: r) = txtR m ++ (41 :: s) → l = m ∧ r = s
  | [], [], r, s, _, _, e => by
    rw [txtR] at e
    injection e with _ e
    exact ⟨rfl, e⟩
  | [], t :: m, r, s, _, h, e => by
    rw [txtR, txtR, List.cons_append] at e
    injection e with e3 _
    exact absurd e3 (by decide)
  | t :: m, [], r, s, h, _, e => by
    rw [txtR, txtR, List.cons_append] at e
    injection e with e3 _
    exact absurd e3 (by decide)
  | t :: l, u :: m, r, s, h, h', e => by
    rw [txtR, txtR, List.cons_append, List.cons_append, List.append_assoc, List.append_assoc] at e
    injection e with _ e
    obtain ⟨e1, e2⟩ := txt_split t u _ _ h.1 h'.1 (by cases l <;> rfl) (by cases m <;> rfl) e
    obtain ⟨e3, e4⟩ := txtR_split l m r s h.2 h'.2 e2
    rw [e1, e3]
    exact ⟨rfl, e4⟩
end
theorem txt_inj {t u : F} (h : okT t) (h' : okT u) (e : txt t = txt u) : t = u :=
  (txt_split t u [] [] h h' rfl rfl (by rw [e])).1
theorem txt_ne {t : F} (h : okT t) : txt t ≠ [] := by
  cases t with
  | nd k a l =>
    obtain ⟨c, r, e, _⟩ := txt_head h.1
    rw [e]
    exact fun h => by cases h
theorem dec_lenk : ∀ (k u : Nat), u < 10 ^ (k + 1) → (Go.Lib.decDigits u).length ≤ k + 1
  | 0, u, h => by rw [Go.Lib.decDigits_one (by omega)]; simp
  | k + 1, u, h => by
    by_cases hu : u < 10
    · rw [Go.Lib.decDigits_one hu]; simp
    · rw [Go.Lib.decDigits, dif_neg hu, List.length_append, List.length_singleton]
      have := dec_lenk k (u / 10) (by rw [Nat.pow_succ] at h; omega)
      omega
mutual
theorem txt_len : ∀ t : F, okT t → (txt t).length + 1 ≤ 6 * nodes t
  | nd k a l, h => by
    rw [txt, nodes]
    rcases single_cases h.1 with ⟨rfl, h1, h2, rfl⟩ | ⟨rfl, rfl, t, rfl⟩ | ⟨hk, rfl, hl⟩ | ⟨hk, rfl, rfl⟩
    · rw [if_pos rfl, List.length_cons]
      have : (dgs a).length ≤ 4 := dec_lenk 3 a.toNat (by omega)
      omega
    · have := txt_len t h.2.1
      rw [if_neg (by decide), if_pos rfl, txtH, List.length_cons, nodesL]
      omega
    · have := txtL_len l h.2
      rw [if_neg (by omega), if_neg (by omega), if_neg (by omega), if_neg (by omega)]
      simp only [List.length_cons, List.length_append, List.length_nil]
      omega
    · rw [if_neg (by omega), if_neg (by omega)]
      rcases hk with rfl | rfl <;> simp
      all_goals omega
theorem txtL_len : ∀ l : List F, okL l → (txtL l).length ≤ 6 * nodesL l
  | [], _ => by rw [txtL]; simp
  | t :: r, h => by
    have h1 := txt_len t h.1
    have h2 := txtR_len r h.2
    rw [txtL, List.length_append, nodesL]
    omega
theorem txtR_len : ∀ l : List F, okL l → (txtR l).length ≤ 6 * nodesL l
  | [], _ => by rw [txtR]; simp
  | t :: r, h => by
    have h1 := txt_len t h.1
    have h2 := txtR_len r h.2
    rw [txtR, List.length_cons, List.length_append, nodesL]
    omega
end
end Go.Proofs.YtkbellmhanpocaaDoor
