/- The keys of the builder's maps. -/
import Derived.DeepKeys5
import Derived.Carry
import Derived.Test.YtkdmhjlcgpnjpaaGreatDoorMg
import Derived.Test.YtkdmhjlcgpnjpaaGreatDoorProg
namespace Go.Proofs.YtkdmhjlcgpnjpaaGreatDoor
set_option linter.unusedVariables false
set_option linter.unusedSimpArgs false
open Go.RowKit Go.Maps

theorem rowN : 55 < Tryz.prog.types.size := of_decide_eq_true (by kernel_rfl)
theorem rowK : 149 < Tryz.prog.types.size := of_decide_eq_true (by kernel_rfl)
theorem sizeT : Tryz.prog.types.size + 2 ≤ 10000 := of_decide_eq_true (by kernel_rfl)
theorem laidOut2 : laidOutB Tryz.prog = true := by kernel_rfl
theorem keyTN : Tryz.prog.keyType 55 = true := by kernel_rfl
theorem keyTK : Tryz.prog.keyType 149 = true := by kernel_rfl
theorem keyedN : Keyed Tryz.prog 55 := Keyed.of_law (deep_law_gate laidOut2 sizeT rowN keyTN (by kernel_rfl))
theorem keyedK : Keyed Tryz.prog 149 := Keyed.of_law (deep_law_gate laidOut2 sizeT rowK keyTK (by kernel_rfl))
theorem cellsN3 : Tryz.prog.cellsOf 55 = 3 := by kernel_rfl
theorem cellsK3 : Tryz.prog.cellsOf 149 = 3 := by kernel_rfl
theorem cellsIn1 : Tryz.prog.cellsOf 3 = 1 := by kernel_rfl
theorem key_int (d : Nat) (a : Int) (ha : (Lit.int .i64 a).wf = true) : Tryz.prog.keyLits (d + 1) 3 [.int .i64 a] = some [.int .i64 a] := by
  unfold Program.keyLits
  simp [Tryz.underlying3, ha]
theorem key_node (a b c : Int) (ha : (Lit.int .i64 a).wf = true) (hb : (Lit.int .i64 b).wf = true) (hc : (Lit.int .i64 c).wf = true) : ∃ kl, keyOf Tryz.prog 55 (.agg #[.int .i64 a, .int .i64 b, .int .i64 c]) = some kl := by
  obtain ⟨S, hS⟩ : ∃ S, Tryz.prog.types.size = S + 1 := ⟨Tryz.prog.types.size - 1, by have := rowN; omega⟩
  unfold keyOf
  simp only [Tryz.underlying55]
  rw [if_pos (by simp [keyTN, Value.formed, Tryz.underlying55, cellsN3])]
  rw [hS]
  unfold Program.keyLits
  simp [Tryz.underlying55, cellsN3, cellsIn1, Value.cells, key_int S a ha, key_int S b hb, key_int S c hc]
theorem key_three (a b c : Int) (ha : (Lit.int .i64 a).wf = true) (hb : (Lit.int .i64 b).wf = true) (hc : (Lit.int .i64 c).wf = true) : ∃ kl, keyOf Tryz.prog 149 (.agg #[.int .i64 a, .int .i64 b, .int .i64 c]) = some kl := by
  obtain ⟨S, hS⟩ : ∃ S, Tryz.prog.types.size = S + 1 := ⟨Tryz.prog.types.size - 1, by have := rowN; omega⟩
  unfold keyOf
  simp only [Tryz.underlying149]
  rw [if_pos (by simp [keyTK, Value.formed, Tryz.underlying149, cellsK3])]
  rw [hS]
  unfold Program.keyLits
  have r3 : List.range 3 = [0, 1, 2] := rfl
  simp [Tryz.underlying149, cellsK3, cellsIn1, Value.cells, r3, key_int S a ha, key_int S b hb, key_int S c hc]
end Go.Proofs.YtkdmhjlcgpnjpaaGreatDoor
