/- Digits: plain laws. No program in sight. -/
import Derived.Test.YteglfhmmkoahfaaGreatDoorM2
namespace Go.Proofs.YteglfhmmkoahfaaGreatDoor
open Go.RowKit
/-- All bytes are digits. -/
def Digits (l : List UInt8) : Prop := ∀ c ∈ l, 48 ≤ c.toNat ∧ c.toNat ≤ 57
/-- The number that digits write. -/
def numD (l : List UInt8) : Nat := l.foldl (fun a c => 10 * a + (c.toNat - 48)) 0
theorem numD_from (l : List UInt8) : ∀ a : Nat, l.foldl (fun a c => 10 * a + (c.toNat - 48)) a = a * 10 ^ l.length + numD l := by
  induction l with
  | nil => intro a; simp [numD]
  | cons c r ih =>
    intro a
    unfold numD
    rw [List.foldl_cons, List.foldl_cons, ih, ih (10 * 0 + _), List.length_cons, Nat.pow_succ]
    rw [Nat.add_mul, Nat.mul_zero, Nat.zero_add, Nat.mul_comm 10 a, Nat.mul_assoc, Nat.mul_comm 10 (10 ^ r.length)]
    omega
theorem numD_app (l m : List UInt8) : numD (l ++ m) = numD l * 10 ^ m.length + numD m := by
  unfold numD; rw [List.foldl_append, numD_from]; rfl
theorem numD_snoc (l : List UInt8) (c : UInt8) : numD (l ++ [c]) = 10 * numD l + (c.toNat - 48) := by rw [numD_app]; simp [numD]; omega
theorem numD_nil : numD [] = 0 := rfl
theorem numD_lt {l : List UInt8} (h : Digits l) : numD l < 10 ^ l.length := by
  induction hn : l.length generalizing l with
  | zero => rw [List.length_eq_zero_iff.1 hn]; decide
  | succ n ih =>
    rcases List.eq_nil_or_concat l with rfl | ⟨m, c, rfl⟩
    · simp at hn
    · rw [List.concat_eq_append] at *
      have h1 := ih (l := m) (fun x hx => h x (by simp [hx])) (by simpa using hn)
      have h2 := h c (by simp)
      rw [numD_snoc, Nat.pow_succ]
      omega
theorem digits_take {l : List UInt8} (h : Digits l) (k : Nat) : Digits (l.take k) := fun c hc => h c (List.mem_of_mem_take hc)
theorem digits_drop {l : List UInt8} (h : Digits l) (k : Nat) : Digits (l.drop k) := fun c hc => h c (List.mem_of_mem_drop hc)
theorem take_next {α : Type} {l : List α} {k : Nat} {c : α} (h : l[k]? = some c) : l.take (k + 1) = l.take k ++ [c] := by rw [List.take_add_one, h]; rfl
theorem numD_next {l : List UInt8} {k : Nat} {c : UInt8} (h : l[k]? = some c) : numD (l.take (k + 1)) = 10 * numD (l.take k) + (c.toNat - 48) := by rw [take_next h, numD_snoc]
theorem pow_nine (k : Nat) : 10 ^ (9 * k) = 1000000000 ^ k := by rw [Nat.pow_mul]
/-- The bytes from a to e. -/
def chunk (l : List UInt8) (a e : Nat) : List UInt8 := (l.drop a).take (e - a)
theorem chunk_len {l : List UInt8} {a e : Nat} (h : e ≤ l.length) : (chunk l a e).length = e - a := by unfold chunk; rw [List.length_take, List.length_drop]; omega
theorem chunk_drop {l : List UInt8} {a e : Nat} (h : a ≤ e) : l.drop a = chunk l a e ++ l.drop e := by
  unfold chunk
  have := (List.take_append_drop (e - a) (l.drop a)).symm
  rwa [List.drop_drop, show a + (e - a) = e by omega] at this
theorem chunk_digits {l : List UInt8} {a e : Nat} (h : Digits l) : Digits (chunk l a e) := digits_take (digits_drop h a) _
theorem extract_chunk (l : List UInt8) (a e : Nat) : (ByteArray.mk l.toArray).extract a e = ⟨(chunk l a e).toArray⟩ := by
  have h : ((ByteArray.mk l.toArray).extract a e).data = (chunk l a e).toArray := by
    rw [ByteArray.data_extract, List.extract_toArray, List.extract_eq_take_drop]; rfl
  exact ByteArray.ext h
theorem numD_chunk {l : List UInt8} (hd : Digits l) {a e : Nat} (h : e ≤ l.length) (h9 : e ≤ a + 9) : numD (chunk l a e) < 1000000000 := by
  have := numD_lt (chunk_digits (a := a) (e := e) hd)
  rw [chunk_len h] at this
  exact Nat.lt_of_lt_of_le this (Nat.pow_le_pow_right (by decide) (by omega : e - a ≤ 9))
/-- A further limb. -/
theorem long_step {l : List UInt8} {L : List Nat} {a e : Nat} (hae : a ≤ e) (he : l.length = e + 9 * L.length) (hv : vB L = numD (l.drop e)) : vB (L ++ [numD (chunk l a e)]) = numD (l.drop a) := by
  rw [chunk_drop hae, numD_app, vB_snoc, hv, List.length_drop, show l.length - e = 9 * L.length by omega, pow_nine, Nat.mul_comm]
  omega
end Go.Proofs.YteglfhmmkoahfaaGreatDoor
