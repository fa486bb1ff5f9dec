/- Words between blanks, and the set of their names: plain laws. -/
import Derived.Test.YtjojdkdpdlmahaaDoorPc
import Derived.Test.YtjojdkdpdlmahaaDoorPe
import Derived.Lib.SplitLaws
import Derived.Lib.Join
namespace Go.Proofs.YtjojdkdpdlmahaaDoor
open Go.RowKit

/-- The words of a text between blanks. -/
def wordsR : List UInt8 → List (List UInt8)
  | [] => [[]]
  | c :: r => if c = 32 then [] :: wordsR r else match wordsR r with
    | w :: t => (c :: w) :: t
    | [] => [[c]]
theorem wordsR_ne (l : List UInt8) : wordsR l ≠ [] := by
  cases l with
  | nil => simp [wordsR]
  | cons c r =>
    rw [wordsR]
    split
    · simp
    · split <;> simp
theorem wordsR_blank (r : List UInt8) : wordsR (32 :: r) = [] :: wordsR r := by rw [wordsR, if_pos rfl]
theorem wordsR_other {c : UInt8} (h : c ≠ 32) {r w : List UInt8} {t : List (List UInt8)} (hr : wordsR r = w :: t) : wordsR (c :: r) = (c :: w) :: t := by rw [wordsR, if_neg h, hr]
theorem wordsR_cons (l : List UInt8) : ∃ w t, wordsR l = w :: t := by
  cases h : wordsR l with
  | nil => exact absurd h (wordsR_ne l)
  | cons w t => exact ⟨w, t, rfl⟩
/-- One byte more. -/
theorem wordsR_snoc (c : UInt8) : ∀ (l : List UInt8) (pre : List (List UInt8)) (x : List UInt8), wordsR l = pre ++ [x] → wordsR (l ++ [c]) = if c = 32 then pre ++ [x] ++ [[]] else pre ++ [x ++ [c]]
  | [], pre, x, h => by
    have h0 : pre = [] ∧ x = [] := by
      cases pre with
      | nil => simp [wordsR] at h; exact ⟨rfl, h⟩
      | cons a b => simp [wordsR] at h
    obtain ⟨rfl, rfl⟩ := h0
    by_cases hc : c = 32
    · simp [wordsR, hc]
    · simp [wordsR, hc]
  | d :: r, pre, x, h => by
    by_cases hd : d = 32
    · subst hd
      rw [wordsR_blank] at h
      rw [List.cons_append, wordsR_blank]
      cases pre with
      | nil =>
        simp at h
        exact absurd h.2 (wordsR_ne r)
      | cons a pre' =>
        simp only [List.cons_append, List.cons.injEq] at h
        obtain ⟨rfl, h⟩ := h
        rw [wordsR_snoc c r pre' x h]
        split <;> simp
    · obtain ⟨w, t, hr⟩ := wordsR_cons r
      rw [wordsR_other hd hr] at h
      rw [List.cons_append]
      cases pre with
      | nil =>
        simp only [List.nil_append, List.cons.injEq] at h
        obtain ⟨rfl, rfl⟩ := h
        have ih := wordsR_snoc c r [] w hr
        by_cases hc : c = 32
        · rw [if_pos hc] at ih ⊢
          rw [wordsR_other hd ih]; rfl
        · rw [if_neg hc] at ih ⊢
          rw [wordsR_other hd ih]; rfl
      | cons a pre' =>
        simp only [List.cons_append, List.cons.injEq] at h
        obtain ⟨rfl, rfl⟩ := h
        have ih := wordsR_snoc c r (w :: pre') x hr
        by_cases hc : c = 32
        · rw [if_pos hc] at ih ⊢
          rw [wordsR_other hd ih]; rfl
        · rw [if_neg hc] at ih ⊢
          rw [wordsR_other hd ih]; rfl
/-- The library's cut at blanks. -/
theorem split_words : ∀ l : List UInt8, Lib.splitK [32] 0 (Lib.count l [32]) l = wordsR l
  | [] => by rfl
  | c :: r => by
    have ih := split_words r
    by_cases hc : c = 32
    · subst hc
      rw [Lib.count_cons_eq, Nat.add_comm, Lib.splitK, wordsR_blank]
      have h0 : Lib.index (32 :: r) [32] = 0 := by simp [Lib.index]
      rw [h0, if_neg (by decide)]
      simp only [Int.toNat_zero, Nat.zero_add, List.take_zero, List.length_singleton, List.drop_succ_cons, List.drop_zero]
      rw [ih]
    · rw [Lib.count_cons_ne _ _ _ hc]
      have hge := Lib.index_ge r [32]
      have hix : Lib.index (c :: r) [32] = if Lib.index r [32] == -1 then -1 else Lib.index r [32] + 1 := by
        rw [Lib.index, if_neg (by simp [List.isPrefixOf]; exact fun h => hc h.symm)]
      by_cases hi : Lib.index r [32] = -1
      · have h0 := Lib.count_miss hi
        rw [h0] at ih ⊢
        rw [Lib.splitK] at ih ⊢
        rw [wordsR_other hc ih.symm]
      · obtain ⟨i, hi'⟩ : ∃ i : Nat, Lib.index r [32] = i := ⟨(Lib.index r [32]).toNat, by omega⟩
        rw [hi', if_neg (by simp)] at hix
        have h1 := Lib.count_hit (s := r) (sub := [32]) (by simp) hi'
        obtain ⟨k, hk⟩ : ∃ k, Lib.count (r.drop (i + [(32 : UInt8)].length)) [32] = k := ⟨_, rfl⟩
        rw [hk, Nat.add_comm] at h1
        rw [h1] at ih ⊢
        rw [Lib.splitK, hi', if_neg (by simp)] at ih
        rw [Lib.splitK, hix, if_neg (by simp; omega)]
        rw [wordsR_other hc ih.symm]
        have e : ((i : Int) + 1).toNat = i + 1 := by omega
        rw [e]
        simp only [Int.toNat_natCast, Nat.add_zero, List.take_succ_cons, List.length_singleton, List.drop_succ_cons]
/-- Names joined by blanks fall apart into themselves. -/
theorem words_join : ∀ (x : List UInt8) (xs : List (List UInt8)), (∀ y ∈ x :: xs, (32 : UInt8) ∉ y) → wordsR (Lib.join (x :: xs) [32]) = x :: xs
  | x, [], h => by
    have : Lib.join [x] [32] = x := by simp [Lib.join, List.intercalate]
    rw [this]
    have gen : ∀ y : List UInt8, (32 : UInt8) ∉ y → wordsR y = [y] := by
      intro y
      induction y with
      | nil => intro _; rfl
      | cons c r ih =>
        intro hy
        rw [wordsR_other (fun e => hy (by simp [e])) (ih fun h => hy (List.mem_cons_of_mem _ h))]
    exact gen x (h x List.mem_cons_self)
  | x, y :: ys, h => by
    have ih := words_join y ys (fun z hz => h z (List.mem_cons_of_mem _ hz))
    have e : Lib.join (x :: y :: ys) [32] = x ++ 32 :: Lib.join (y :: ys) [32] := by simp [Lib.join, List.intercalate, List.intersperse]
    rw [e]
    have gen : ∀ z : List UInt8, (32 : UInt8) ∉ z → wordsR (z ++ 32 :: Lib.join (y :: ys) [32]) = z :: wordsR (Lib.join (y :: ys) [32]) := by
      intro z
      induction z with
      | nil => intro _; rw [List.nil_append, wordsR_blank]
      | cons c r ih2 =>
        intro hz
        rw [List.cons_append, wordsR_other (fun e => hz (by simp [e])) (ih2 fun h => hz (List.mem_cons_of_mem _ h))]
    rw [gen x (h x List.mem_cons_self), ih]
/-- The set of the names in some words, on top of a set. -/
def parW : Nat → Nat → List (List UInt8) → Nat × Nat × Int
  | lo, hi, [] => (lo, hi, 0)
  | lo, hi, w :: r => match noteOf w with
    | none => (0, 0, 8)
    | some n => if mem lo hi n = true then (0, 0, 9) else parW (withLo lo n) (withHi hi n) r
def parV (l : List UInt8) : Nat × Nat × Int := if 65536 < l.length then (0, 0, 16) else if l = [] then (0, 0, 0) else parW 0 0 (wordsR l)
theorem parW_none {lo hi : Nat} {w : List UInt8} {r : List (List UInt8)} (h : noteOf w = none) : parW lo hi (w :: r) = (0, 0, 8) := by rw [parW, h]
theorem parW_dup {lo hi n : Nat} {w : List UInt8} {r : List (List UInt8)} (h : noteOf w = some n) (hm : mem lo hi n = true) : parW lo hi (w :: r) = (0, 0, 9) := by rw [parW, h]; simp [hm]
theorem parW_step {lo hi n : Nat} {w : List UInt8} {r : List (List UInt8)} (h : noteOf w = some n) (hm : mem lo hi n = false) : parW lo hi (w :: r) = parW (withLo lo n) (withHi hi n) r := by rw [parW, h]; simp [hm]
theorem parW_names : ∀ (l : List Nat) (lo hi : Nat), lo < 18446744073709551616 → hi < 18446744073709551616 → (∀ n ∈ l, n < 128) → l.Nodup → (∀ n ∈ l, mem lo hi n = false) →
    ∃ a b, parW lo hi (l.map nameL) = (a, b, 0) ∧ a < 18446744073709551616 ∧ b < 18446744073709551616 ∧ ∀ k, mem a b k = (mem lo hi k || decide (k ∈ l))
  | [], lo, hi, h1, h2, _, _, _ => ⟨lo, hi, rfl, h1, h2, fun k => by simp⟩
  | n :: r, lo, hi, h1, h2, hl, hn, hd => by
    have hn1 := hl n List.mem_cons_self
    rw [List.nodup_cons] at hn
    obtain ⟨a, b, e1, e2, e3, e4⟩ := parW_names r (withLo lo n) (withHi hi n) (withLo_lt n h1) (withHi_lt n h2 (by omega)) (fun m hm => hl m (List.mem_cons_of_mem _ hm)) hn.2
      (fun m hm => by
        rw [mem_with, hd m (List.mem_cons_of_mem _ hm), Bool.false_or, decide_eq_false_iff_not]
        rintro rfl
        exact hn.1 hm)
    refine ⟨a, b, ?_, e2, e3, fun k => ?_⟩
    · rw [List.map_cons, parW_step (note_find hn1) (hd n List.mem_cons_self)]
      exact e1
    · rw [e4, mem_with, Bool.or_assoc]
      congr 1
      rw [Bool.eq_iff_iff]
      simp
theorem name_blank : ∀ n : Fin 128, ((nameL n.val).all fun b => b != 32) = true := by decide +kernel
/-- The text of a set. -/
def textL (lo hi : Nat) : List UInt8 := Lib.join ((mems lo hi).map nameL) [32]
theorem parse_text {lo hi : Nat} (h1 : lo < 18446744073709551616) (h2 : hi < 18446744073709551616) (hlen : (textL lo hi).length ≤ 65536) : parV (textL lo hi) = (lo, hi, 0) := by
  unfold parV
  rw [if_neg (by omega)]
  cases hm : mems lo hi with
  | nil =>
    obtain ⟨rfl, rfl⟩ := mems_ne h1 h2 hm
    have : textL 0 0 = [] := by unfold textL; rw [hm]; rfl
    rw [this, if_pos rfl]
  | cons n r =>
    have hb : ∀ y ∈ (mems lo hi).map nameL, (32 : UInt8) ∉ y := fun y hy h32 => by
      obtain ⟨m, hmm, rfl⟩ := List.mem_map.1 hy
      have h3 := name_blank ⟨m, (mem_mems.1 hmm).1⟩
      rw [List.all_eq_true] at h3
      have := h3 32 h32
      simp at this
    have hw : wordsR (textL lo hi) = (mems lo hi).map nameL := by
      unfold textL
      rw [hm, List.map_cons]
      rw [hm, List.map_cons] at hb
      exact words_join _ _ hb
    have hne : textL lo hi ≠ [] := fun h => by
      rw [h] at hw
      rw [hm, List.map_cons] at hw
      have h5 : nameL n = [] := by
        have := congrArg (fun z => z.headD [1]) hw
        simpa [wordsR] using this.symm
      have h6 := name_inj (m := n) (n := n)
      have h7 : ∀ k : Fin 128, nameL k.val ≠ [] := by decide +kernel
      exact h7 ⟨n, (mem_mems.1 (by rw [hm]; exact List.mem_cons_self)).1⟩ h5
    rw [if_neg hne, hw]
    have hnd : (mems lo hi).Nodup := List.nodup_range.filter _
    obtain ⟨a, b, e1, e2, e3, e4⟩ := parW_names (mems lo hi) 0 0 (by decide) (by decide) (fun m hm => (mem_mems.1 hm).1) hnd (fun m _ => mem_zero m)
    rw [e1]
    obtain ⟨rfl, rfl⟩ : a = lo ∧ b = hi := set_ext e2 e3 h1 h2 fun k hk => by
      rw [e4, mem_zero, Bool.false_or, Bool.eq_iff_iff, decide_eq_true_iff, mem_mems]
      exact ⟨fun h => h.2, fun h => ⟨hk, h⟩⟩
    rfl
end Go.Proofs.YtjojdkdpdlmahaaDoor
