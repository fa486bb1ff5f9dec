/- Small laws on texts and numbers as values. No program in sight. -/
import Derived.Test.YtkbellmhanpocaaDoorBase
import Derived.Lib.ItoaLen
import Derived.Laws.IdiomStrings
namespace Go.Proofs.YtkbellmhanpocaaDoor
set_option linter.unusedVariables false
set_option linter.unusedSimpArgs false
open Go.RowKit
theorem bytes_app (a b : List UInt8) : (⟨a.toArray⟩ : ByteArray) ++ ⟨b.toArray⟩ = ⟨(a ++ b).toArray⟩ := by
  refine ByteArray.ext ?_
  rw [ByteArray.data_append]
  simp
theorem str_val {a b : ByteArray} (h : a = b) : Value.string a = Value.string b := by rw [h]
theorem str_eq {l m : List UInt8} (h : l = m) : Value.string ⟨l.toArray⟩ = .string ⟨m.toArray⟩ := by rw [h]
theorem pair_val {a b c d : Value} (h1 : a = c) (h2 : b = d) : Value.tuple #[a, b] = .tuple #[c, d] := by rw [h1, h2]
theorem extract_drop (l : List UInt8) (k : Nat) : (ByteArray.mk l.toArray).extract k l.length = ⟨(l.drop k).toArray⟩ := by
  have h : ((ByteArray.mk l.toArray).extract k l.length).data = (l.drop k).toArray := by
    rw [ByteArray.data_extract, List.extract_toArray, List.extract_eq_take_drop, List.take_of_length_le (by simp)]
  exact ByteArray.ext h
theorem extract_take (l : List UInt8) (k : Nat) : (ByteArray.mk l.toArray).extract 0 k = ⟨(l.take k).toArray⟩ := by
  have h : ((ByteArray.mk l.toArray).extract 0 k).data = (l.take k).toArray := by
    rw [ByteArray.data_extract, List.extract_toArray, List.extract_eq_take_drop, List.drop_zero, Nat.sub_zero]
  exact ByteArray.ext h
/-- Two cells of the call's own. -/
def Own2 (w : World) (B : Nat) (a b : Value) : Prop := w.cell? ⟨B, 0, none⟩ = some a ∧ w.cell? ⟨B, 1, none⟩ = some b ∧ w.frozen? ⟨B, 0, none⟩ = false ∧ w.frozen? ⟨B, 1, none⟩ = false
theorem cell_carry {w wr : World} {p : Addr} {v : Value} (hb : Below w.heap.size w wr) (h : w.cell? p = some v) : wr.cell? p = some v := by
  rw [hb.cell (World.block_lt_of_cell? w p h), h]
/-- A byte slice of one new cell as a text. -/
theorem conv_one {P : Program} (src dst e : TypeId) (hs : P.underlying src = some (.slice e)) (he : P.underlying e = some (.int .u8)) (hd : P.underlying dst = some .string) (w : World) (p : Nat) (hp : p < 256) (x : Bel (w.alloc (.cells #[.int .u8 (p : Int)] e))) :
    (convert src dst (.slice (some ⟨w.heap.size, 0, none⟩) 1 1)).run P x.w = .ok (.string ⟨[p.toUInt8].toArray⟩) x.w := by
  refine run_convert_bytes_back x.w src dst e ⟨w.heap.size, 0, none⟩ 1 [p.toUInt8] hs he hd fun j hj => ?_
  obtain rfl : j = 0 := by simpa using hj
  have h : (w.alloc (.cells #[.int .u8 (p : Int)] e)).cell? ⟨w.heap.size, 0, none⟩ = some (.int .u8 (p : Int)) := by simp [go_sem]
  have h2 := x.below.cell (p := ⟨w.heap.size, 0, none⟩) (by simp)
  rw [h] at h2
  have h3 : (p.toUInt8).toNat = p := by rw [Nat.toUInt8, UInt8.toNat_ofNat']; omega
  show x.w.cell? (Addr.add ⟨w.heap.size, 0, none⟩ 0) = some (.int .u8 ((p.toUInt8).toNat : Int))
  rw [h3]
  exact h2
end Go.Proofs.YtkbellmhanpocaaDoor
