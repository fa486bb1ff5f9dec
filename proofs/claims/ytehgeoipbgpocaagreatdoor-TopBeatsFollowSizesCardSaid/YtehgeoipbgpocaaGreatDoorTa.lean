/- Circles of fifths: how a circle lies, and Check. -/
import Derived.Test.YtehgeoipbgpocaaGreatDoorIm
import Derived.Deep.WholeRow
import Derived.Deep.MidRow
namespace Go.Proofs.YtehgeoipbgpocaaGreatDoor
set_option linter.unusedVariables false
set_option linter.unusedSimpArgs false
open Go.RowKit
attribute [local go_sem low] Bel.cell Bel.frozen alloc_cell alloc_frozen

/-- A circle: the temperings of twelve fifths. -/
abbrev Cir := Nat → Q × Q
def cirA (c : Cir) : Array Value := ((List.range 12).flatMap fun k => [Value.int .i64 (c k).1.n, .int .i64 (c k).1.d, .int .i64 (c k).2.n, .int .i64 (c k).2.d]).toArray
def cirV (c : Cir) : Value := .agg (cirA c)
theorem cirA_size (c : Cir) : (cirA c).size = 48 := rfl
theorem cir_get (c : Cir) (k : Nat) (hk : k < 12) : (cirA c)[4 * k]? = some (.int .i64 (c k).1.n) ∧ (cirA c)[4 * k + 1]? = some (.int .i64 (c k).1.d) ∧ (cirA c)[4 * k + 2]? = some (.int .i64 (c k).2.n) ∧ (cirA c)[4 * k + 3]? = some (.int .i64 (c k).2.d) := by
  rcases (show k = 0 ∨ k = 1 ∨ k = 2 ∨ k = 3 ∨ k = 4 ∨ k = 5 ∨ k = 6 ∨ k = 7 ∨ k = 8 ∨ k = 9 ∨ k = 10 ∨ k = 11 by omega) with rfl | rfl | rfl | rfl | rfl | rfl | rfl | rfl | rfl | rfl | rfl | rfl <;> exact ⟨rfl, rfl, rfl, rfl⟩
theorem cir_idx (c : Cir) (k : Nat) (hk : k < 12) (w : World) : (Instr.index 36 (cirV c) (.int .i64 (k : Int))).run Tryz.prog w = .ok (.agg #[.int .i64 (c k).1.n, .int .i64 (c k).1.d, .int .i64 (c k).2.n, .int .i64 (c k).2.d]) w := by
  rcases (show k = 0 ∨ k = 1 ∨ k = 2 ∨ k = 3 ∨ k = 4 ∨ k = 5 ∨ k = 6 ∨ k = 7 ∨ k = 8 ∨ k = 9 ∨ k = 10 ∨ k = 11 by omega) with rfl | rfl | rfl | rfl | rfl | rfl | rfl | rfl | rfl | rfl | rfl | rfl <;> kernel_rfl
theorem cir_under : Tryz.prog.underlying 36 = some (.array 12 34) := by kernel_rfl
theorem cir_info : (Tryz.prog.info? 36).map (·.size) = some 48 := by kernel_rfl
theorem wpList_ldC {ops : Array Oper} {rest : List Oper} {o : Oper} {a : Act} {w : World} {Q : Exit → Act → World → Prop} (hg : o.guard = none) (x : Operand) (ho : o.op = .load 36 x)
    (B : Nat) (hx : a.eval x = .pointer (some ⟨B, 0, none⟩)) (cs : Array Value) (hob : w.heap[B]? = some (.cells cs 36)) (hs : cs.size = 48)
    (h : wpList Tryz.prog ops Q rest (a.put o.dst (.agg cs)) w) : wpList Tryz.prog ops Q (o :: rest) a w :=
  wpList_load_mid hg 36 x ho B 0 hx cs.toList _ (fun j v hv => by rw [Nat.zero_add, cell_of_row _ _ j cs _ _ hob]; simpa using hv) cir_under rfl (by rw [cir_info]; simp [hs]) (by simpa using h)

/-! ### Check -/
def ckX (st : Int × Bool) (x : Q) : Option (Int × Bool) :=
  if 12 * x.d < x.n ∨ x.n < -12 * x.d then none else some (if st.2 = true ∨ 240 < x.d then (st.1, true) else (lcI st.1 x.d, decide (240 < lcI st.1 x.d)))
def ckT (st : Int × Bool) (t : Q × Q) : Except Int (Int × Bool) :=
  if t.1.rt = false ∨ t.2.rt = false then .error 2 else
  match ckX st t.1 with
  | none => .error 3
  | some st1 => match ckX st1 t.2 with
    | none => .error 3
    | some st2 => .ok st2
def ckN (c : Cir) : Nat → Except Int (Int × Bool)
  | 0 => .ok (1, false)
  | k + 1 => match ckN c k with
    | .error e => .error e
    | .ok st => ckT st (c k)
def ckE (r : Except Int (Int × Bool)) : Int := match r with
  | .error e => e
  | .ok st => if st.2 = true then 4 else 0
def chkC (c : Cir) : Int := ckE (ckN c 12)
theorem ckN_err {c : Cir} {k : Nat} {e : Int} (h : ckN c k = .error e) : ∀ j, ckN c (k + j) = .error e
  | 0 => h
  | j + 1 => by rw [← Nat.add_assoc]; show (match ckN c (k + j) with | .error e => Except.error e | .ok st => ckT st (c (k + j))) = _; rw [ckN_err h j]
theorem chkC_err {c : Cir} {k : Nat} {st : Int × Bool} {e : Int} (hk : k < 12) (h : ckN c k = .ok st) (he : ckT st (c k) = .error e) : chkC c = e := by
  have h1 : ckN c (k + 1) = .error e := by show (match ckN c k with | .error e => Except.error e | .ok st => ckT st (c k)) = _; rw [h]; exact he
  have h2 := ckN_err h1 (11 - k)
  rw [show k + 1 + (11 - k) = 12 by omega] at h2
  unfold chkC
  rw [h2]; rfl
theorem ckN_ok {c : Cir} {k : Nat} {st st' : Int × Bool} (h : ckN c k = .ok st) (he : ckT st (c k) = .ok st') : ckN c (k + 1) = .ok st' := by
  show (match ckN c k with | .error e => Except.error e | .ok st => ckT st (c k)) = _
  rw [h]; exact he
theorem chkC_end {c : Cir} {st : Int × Bool} (h : ckN c 12 = .ok st) : chkC c = if st.2 = true then 4 else 0 := by unfold chkC; rw [h]; rfl
end Go.Proofs.YtehgeoipbgpocaaGreatDoor
