/- The note of a name: plain laws. No program in sight. -/
import Derived.Test.YtjojdkdpdlmahaaDoorB
import Derived.Lib.AtoiAll
import Derived.Lib.IndexAny
namespace Go.Proofs.YtjojdkdpdlmahaaDoor
open Go.RowKit

/-- The note of a name. -/
def noteOf (s : List UInt8) : Option Nat := (List.range 128).find? fun n => nameL n == s
def digitL : List UInt8 := [45, 48, 49, 50, 51, 52, 53, 54, 55, 56, 57]
theorem name_idx : ∀ n : Fin 128, Lib.indexAny (nameL n.val) digitL = ((letterL (n.val % 12)).length : Nat) := by decide +kernel
theorem name_ascii : ∀ n : Fin 128, ((nameL n.val).all fun b => decide (b.toNat < 128)) = true := by decide +kernel
theorem oct_atoi : ∀ q : Fin 11, (match Lib.atoiAll (Lib.itoa ((q.val : Int) - 1)) with | .ok v => decide (v = (q.val : Int) - 1) | _ => false) = true := by decide +kernel
theorem itoa_inj : ∀ p q : Fin 11, Lib.itoa ((p.val : Int) - 1) = Lib.itoa ((q.val : Int) - 1) → p = q := by decide +kernel
theorem letter_inj : ∀ p q : Fin 12, letterL p.val = letterL q.val → p = q := by decide +kernel
theorem name_oct {n : Nat} (_hn : n < 128) : (n : Int) / 12 - 1 = ((n / 12 : Nat) : Int) - 1 := by omega
theorem name_inj {m n : Nat} (hm : m < 128) (hn : n < 128) (h : nameL m = nameL n) : m = n := by
  have i1 := name_idx ⟨m, hm⟩
  have i2 := name_idx ⟨n, hn⟩
  dsimp only at i1 i2
  rw [h] at i1
  have hl : (letterL (m % 12)).length = (letterL (n % 12)).length := by omega
  unfold nameL at h
  rw [name_oct hm, name_oct hn] at h
  obtain ⟨h1, h2⟩ := List.append_inj h hl
  have k1 := letter_inj ⟨m % 12, by omega⟩ ⟨n % 12, by omega⟩ h1
  have k2 := itoa_inj ⟨m / 12, by omega⟩ ⟨n / 12, by omega⟩ h2
  simp only [Fin.mk.injEq] at k1 k2
  omega
theorem note_is {s : List UInt8} {n : Nat} (h : noteOf s = some n) : n < 128 ∧ nameL n = s := by
  unfold noteOf at h
  have h1 := List.find?_some h
  have h2 := List.mem_of_find?_eq_some h
  exact ⟨by simpa using h2, by simpa using h1⟩
theorem note_find {n : Nat} (hn : n < 128) : noteOf (nameL n) = some n := by
  cases h : noteOf (nameL n) with
  | none =>
    unfold noteOf at h
    rw [List.find?_eq_none] at h
    exact absurd (h n (by simpa using hn)) (by simp)
  | some m =>
    obtain ⟨h1, h2⟩ := note_is h
    rw [name_inj h1 hn h2]
/-- What an index of a digit in a text is good for. -/
def Idx (s : List UInt8) (r : Int) : Prop := -1 ≤ r ∧ r < s.length ∧ ∀ n, n < 128 → nameL n = s → r = ((letterL (n % 12)).length : Nat)
theorem idx_neg {s : List UInt8} {r : Int} (h : Idx s r) (hr : r < 0) : noteOf s = none := by
  cases hn : noteOf s with
  | none => rfl
  | some n =>
    obtain ⟨h1, h2⟩ := note_is hn
    have := h.2.2 n h1 h2
    omega
theorem idx_ascii {s : List UInt8} : Idx s (Lib.indexAny s digitL) ∨ s = [] := by
  by_cases h0 : s = []
  · exact .inr h0
  · refine .inl ⟨Lib.indexAny_ge _ _, ?_, fun n hn hs => by rw [← hs]; exact name_idx ⟨n, hn⟩⟩
    have gen : ∀ l : List UInt8, l ≠ [] → Lib.indexAny l digitL < l.length := fun l => by
      induction l with
      | nil => intro h; exact absurd rfl h
      | cons b l ih =>
        intro _
        rw [Lib.indexAny, List.length_cons]
        split
        · omega
        · split
          · omega
          · cases hl : l with
            | nil => rename_i h1; rw [hl] at h1; exact absurd rfl h1
            | cons c t => have := ih (by rw [hl]; simp); rw [hl] at this; omega
    exact gen s h0
theorem idx_parts {s : List UInt8} {r n : Nat} (h : Idx s r) (hn : noteOf s = some n) : n < 128 ∧ s.take r = letterL (n % 12) ∧ s.drop r = Lib.itoa (((n / 12 : Nat) : Int) - 1) := by
  obtain ⟨h1, h2⟩ := note_is hn
  have hr := h.2.2 n h1 h2
  have hr' : r = (letterL (n % 12)).length := by omega
  rw [← h2, hr']
  unfold nameL
  rw [name_oct h1, List.take_left, List.drop_left]
  exact ⟨h1, rfl, rfl⟩
theorem none_of {s : List UInt8} {r : Nat} (h : Idx s r) (no : ∀ n, n < 128 → s.take r = letterL (n % 12) → s.drop r = Lib.itoa (((n / 12 : Nat) : Int) - 1) → False) : noteOf s = none := by
  cases hn : noteOf s with
  | none => rfl
  | some n =>
    obtain ⟨h1, h2, h3⟩ := idx_parts h hn
    exact absurd (no n h1 h2 h3) not_false
theorem none_letter {s A B : List UInt8} {r : Nat} (h : Idx s r) (hAB : s.take r = A ∧ s.drop r = B) (hk : ∀ k : Nat, k < 12 → letterL k ≠ A) : noteOf s = none :=
  none_of h fun n _ h2 _ => hk (n % 12) (by omega) (h2.symm.trans hAB.1)
theorem oct_ok {n : Nat} (hn : n < 128) : Lib.atoiAll (Lib.itoa (((n / 12 : Nat) : Int) - 1)) = .ok (((n / 12 : Nat) : Int) - 1) := by
  have := oct_atoi ⟨n / 12, by omega⟩
  dsimp only at this
  split at this
  · rename_i v hv
    rw [hv]
    rw [decide_eq_true_iff] at this
    rw [this]
  · cases this
theorem none_atoi {s A B : List UInt8} {r : Nat} (h : Idx s r) (hAB : s.take r = A ∧ s.drop r = B) (hv : ∀ v, Lib.atoiAll B ≠ .ok v) : noteOf s = none :=
  none_of h fun n hn _ h3 => hv _ (by rw [← hAB.2, h3]; exact oct_ok hn)
theorem atoi_oct {s A B : List UInt8} {r n : Nat} {v : Int} (hAB : s.take r = A ∧ s.drop r = B) (hv : Lib.atoiAll B = .ok v) (hn : n < 128) (h3 : s.drop r = Lib.itoa (((n / 12 : Nat) : Int) - 1)) : v = ((n / 12 : Nat) : Int) - 1 := by
  rw [← hAB.2, h3, oct_ok hn] at hv
  injection hv with hv
  exact hv.symm
theorem none_itoa {s A B : List UInt8} {r : Nat} {v : Int} (h : Idx s r) (hAB : s.take r = A ∧ s.drop r = B) (hv : Lib.atoiAll B = .ok v) (hi : Lib.itoa v ≠ B) : noteOf s = none :=
  none_of h fun n hn _ h3 => hi (by rw [atoi_oct hAB hv hn h3, ← hAB.2, h3])
theorem none_range {s A B : List UInt8} {r : Nat} {v : Int} (h : Idx s r) (hAB : s.take r = A ∧ s.drop r = B) (hv : Lib.atoiAll B = .ok v) (hr : v < -1 ∨ 9 < v) : noteOf s = none :=
  none_of h fun n hn _ h3 => by have := atoi_oct hAB hv hn h3; omega
theorem none_over {s A B : List UInt8} {r k : Nat} {v : Int} (h : Idx s r) (hAB : s.take r = A ∧ s.drop r = B) (hv : Lib.atoiAll B = .ok v) (hk : letterL k = A) (hk12 : k < 12) (hr : 127 < 12 * (v + 1) + k) : noteOf s = none :=
  none_of h fun n hn h2 h3 => by
    have h4 := atoi_oct hAB hv hn h3
    have h5 := letter_inj ⟨k, hk12⟩ ⟨n % 12, by omega⟩ (by rw [hk, ← hAB.1, h2])
    simp only [Fin.mk.injEq] at h5
    omega
theorem note_some {s : List UInt8} {r k q : Nat} (hk : letterL k = s.take r) (hk12 : k < 12) (hi : Lib.itoa ((q : Int) - 1) = s.drop r) (hn : 12 * q + k < 128) : noteOf s = some (12 * q + k) := by
  have e : nameL (12 * q + k) = s := by
    unfold nameL
    rw [name_oct hn, show (12 * q + k) % 12 = k by omega, show (12 * q + k) / 12 = q by omega, hk, hi, List.take_append_drop]
  rw [← e]
  exact note_find hn
theorem some_of {s A B : List UInt8} {r k : Nat} {v : Int} (hAB : s.take r = A ∧ s.drop r = B) (hi : Lib.itoa v = B) (hk : letterL k = A) (hk12 : k < 12) (h1 : -1 ≤ v) (hr : 12 * (v + 1) + k ≤ 127) : ∃ n : Nat, noteOf s = some n ∧ 12 * (v + 1) + k = (n : Int) := by
  obtain ⟨q, hq⟩ := Int.eq_ofNat_of_zero_le (show 0 ≤ v + 1 by omega)
  obtain rfl : v = (q : Int) - 1 := by omega
  exact ⟨12 * q + k, note_some (hk.trans hAB.1.symm) hk12 (hi.trans hAB.2.symm) (by omega), by omega⟩
theorem atoi_bounds {l : List UInt8} {v : Int} (h : Lib.atoiAll l = .ok v) : -9223372036854775808 ≤ v ∧ v ≤ 9223372036854775807 := by
  unfold Lib.atoiAll at h
  split at h
  · cases h
  · dsimp only at h
    split at h
    · cases h
    · cases h
    · rename_i u _
      split at h
      · cases h
      · split at h
        · cases h
        · injection h with h
          rename_i h1 h2
          rw [← h]
          split
          · rename_i hn
            rw [not_and] at h2
            have := h2 hn
            omega
          · rename_i hn
            rw [not_and] at h1
            have := h1 hn
            omega
/-- The place of a name among the twelve. -/
theorem idxOfS_cases (zs : List ByteArray) (x : ByteArray) : (Lib.idxOfS zs x = -1 ∧ x ∉ zs) ∨ ∃ k, k < zs.length ∧ Lib.idxOfS zs x = (k : Int) ∧ zs[k]? = some x := by
  have gen : ∀ (zs : List ByteArray) (i : Nat), (Lib.idxFromS zs x i = -1 ∧ x ∉ zs) ∨ ∃ k, k < zs.length ∧ Lib.idxFromS zs x i = ((i + k : Nat) : Int) ∧ zs[k]? = some x := by
    intro zs
    induction zs with
    | nil => intro i; exact .inl ⟨rfl, by simp⟩
    | cons z zs ih =>
      intro i
      by_cases h : z = x
      · exact .inr ⟨0, by simp, by simp [Lib.idxFromS, h], by simp [h]⟩
      · rcases ih (i + 1) with ⟨h1, h2⟩ | ⟨k, h1, h2, h3⟩
        · exact .inl ⟨by simp [Lib.idxFromS, h, h1], by simp [h2, Ne.symm h]⟩
        · exact .inr ⟨k + 1, by simp; omega, by rw [Lib.idxFromS, if_neg h, h2]; congr 1; omega, by simpa using h3⟩
  have := gen zs 0
  simpa [Lib.idxOfS] using this
def twelveS : List ByteArray := (List.range 12).map fun k => ⟨(letterL k).toArray⟩
theorem twelveS_get {k : Nat} (h : k < 12) : twelveS[k]? = some ⟨(letterL k).toArray⟩ := by
  unfold twelveS; simp [h]
theorem twelve_idx (a : List UInt8) : (Lib.idxOfS twelveS ⟨a.toArray⟩ = -1 ∧ ∀ k : Nat, k < 12 → letterL k ≠ a) ∨ ∃ k : Nat, k < 12 ∧ Lib.idxOfS twelveS ⟨a.toArray⟩ = (k : Int) ∧ letterL k = a := by
  have hl : twelveS.length = 12 := by unfold twelveS; simp
  rcases idxOfS_cases twelveS ⟨a.toArray⟩ with ⟨h1, h2⟩ | ⟨k, h1, h2, h3⟩
  · refine .inl ⟨h1, fun k hk e => h2 ?_⟩
    have := twelveS_get hk
    rw [e] at this
    exact List.mem_of_getElem? this
  · rw [hl] at h1
    rw [twelveS_get h1] at h3
    refine .inr ⟨k, h1, h2, ?_⟩
    have h4 := congrArg (fun x : Option ByteArray => x.map fun y => y.data.toList) h3
    simpa using h4
end Go.Proofs.YtjojdkdpdlmahaaDoor
