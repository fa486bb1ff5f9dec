/- Equality of sizes, and of three ints. -/
import Derived.Laws.StructEq
import Derived.Test.YtehgeoipbgpocaaGreatDoorIb
namespace Go.Proofs.YtehgeoipbgpocaaGreatDoor
set_option linter.unusedVariables false
set_option linter.unusedSimpArgs false
open Go.RowKit
theorem frac_stood : Tryz.prog.stoodInHeld 32 = false := by kernel_rfl
theorem frac_under : Tryz.prog.underlying 32 = some (.struct (Tryz.prog.fieldsOf 32)) := by kernel_rfl
theorem size_stood : Tryz.prog.stoodInHeld 45 = false := by kernel_rfl
theorem size_under : Tryz.prog.underlying 45 = some (.struct (Tryz.prog.fieldsOf 45)) := by kernel_rfl
theorem arr_stood : Tryz.prog.stoodInHeld 116 = false := by kernel_rfl
theorem eqIn_frac (d : Nat) (a b c e : Int) (w : World) : (Op.equalIn (d + 2) 32 (.agg #[.int .i64 a, .int .i64 b]) (.agg #[.int .i64 c, .int .i64 e])).run Tryz.prog w = .ok ((a == c) && (b == e)) w := by
  have h : ∀ (a b : Int) (w : World), (Op.equalIn (d + 1) 3 (.int .i64 a) (.int .i64 b)).run Tryz.prog w = .ok (a == b) w := fun a b w => run_equalIn_int w d 3 .i64 .i64 a b Tryz.underlying3
  rw [run_equalIn_agg w (d + 1) 32 _ _ frac_under frac_stood]
  simp [Program.fieldsOf, Tryz.underlying32, Op.eqFields, part, h]
  cases h1 : (a == c) <;> cases h2 : (b == e) <;> simp_all
theorem eqIn_size (d : Nat) (s t : Sz) (w : World) : (Op.equalIn (d + 3) 45 s.V t.V).run Tryz.prog w = .ok (decide (s = t)) w := by
  unfold Sz.V
  rw [run_equalIn_agg w (d + 2) 45 _ _ size_under size_stood]
  simp [Program.fieldsOf, Tryz.underlying45, Op.eqFields, part]
  simp only [eqIn_frac d, Result.andThen_ok]
  obtain ⟨⟨a1, a2⟩, ⟨a3, a4⟩, ⟨a5, a6⟩⟩ := s
  obtain ⟨⟨b1, b2⟩, ⟨b3, b4⟩, ⟨b5, b6⟩⟩ := t
  dsimp only
  by_cases h1 : a1 = b1 <;> by_cases h2 : a2 = b2 <;> by_cases h3 : a3 = b3 <;> by_cases h4 : a4 = b4 <;> by_cases h5 : a5 = b5 <;> by_cases h6 : a6 = b6 <;> simp [h1, h2, h3, h4, h5, h6]
theorem eqIn_arr (d : Nat) (x y z : Int) (w : World) : (Op.equalIn (d + 2) 116 (.agg #[.int .i64 x, .int .i64 y, .int .i64 z]) (.agg #[.int .i64 0, .int .i64 0, .int .i64 0])).run Tryz.prog w = .ok (decide (x = 0 ∧ y = 0 ∧ z = 0)) w := by
  have h : ∀ (a b : Int) (w : World), (Op.equalIn (d + 1) 3 (.int .i64 a) (.int .i64 b)).run Tryz.prog w = .ok (a == b) w := fun a b w => run_equalIn_int w d 3 .i64 .i64 a b Tryz.underlying3
  unfold Op.equalIn
  simp [Tryz.underlying116, arr_stood]
  rw [show List.range' 0 3 = [0, 1, 2] from rfl]
  simp only [List.forIn_cons, List.forIn_nil]
  by_cases h1 : x = 0 <;> by_cases h2 : y = 0 <;> by_cases h3 : z = 0 <;> simp [part, h, h1, h2, h3]
theorem run_eq_size (s t : Sz) (w : World) : (binOp .eql 45 s.V t.V).run Tryz.prog w = .ok (.bool (decide (s = t))) w := by
  have h := eqIn_size 9997 s t w
  unfold Sz.V at h ⊢
  rw [run_eql_struct, h]
  rfl
theorem run_eq_arr (x y z : Int) (w : World) : (binOp .eql 116 (.agg #[.int .i64 x, .int .i64 y, .int .i64 z]) (.agg #[.int .i64 0, .int .i64 0, .int .i64 0])).run Tryz.prog w = .ok (.bool (decide (x = 0 ∧ y = 0 ∧ z = 0))) w := by
  rw [run_eql_struct, eqIn_arr 9998 x y z w]
  rfl
theorem guard_size (x y : Operand) (xs ys : Array Value) (w : World) : (eqGuard .eql 45 x y (.agg xs) (.agg ys)).run Tryz.prog w = .ok () w := run_eqGuard_agg w _ _ _ _ _ _ (by kernel_rfl)
theorem guard_arr (x y : Operand) (xs ys : Array Value) (w : World) : (eqGuard .eql 116 x y (.agg xs) (.agg ys)).run Tryz.prog w = .ok () w := run_eqGuard_agg w _ _ _ _ _ _ (by kernel_rfl)
end Go.Proofs.YtehgeoipbgpocaaGreatDoor
