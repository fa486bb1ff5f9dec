/- What every range over a function of this seat leans on. No program in sight. -/
import Derived.RangeFuncNested
import Derived.RangeFuncBound
import Derived.RangeFuncCalls
import Derived.RangeFuncLeaves
import Derived.Shelf.Abstract
import Derived.Shelf.RegionOpen
import Derived.WalkKit
import Derived.OwnWalkIn
import Derived.TacticsInMore
import Derived.LoopNIn
import Derived.LoopIn
import Derived.Lib.Join
import Derived.Test.YtkbellmhanpocaaDoorOwn
namespace Go.Proofs.YtkbellmhanpocaaDoor
set_option linter.unusedVariables false
set_option linter.unusedSimpArgs false
open Go.RowKit
theorem bel_keeps {W : World} (y : Bel W) : KeepsOthers W y.w := KeepsOthers.of_grownBy (bel_grown y) (fun _ _ h => by cases h)
theorem bel_heap {W : World} (y : Bel W) {k : Nat} {o : Obj} (h : W.heap[k]? = some o) : y.w.heap[k]? = some o := by
  rw [y.below.block k (Array.getElem?_eq_some_iff.1 h).1, h]
theorem join_le (sep : List UInt8) (m : Nat) : ∀ xs : List (List UInt8), (∀ x ∈ xs, x.length ≤ m) → (Lib.join xs sep).length ≤ xs.length * (m + sep.length) := by
  intro xs
  induction xs with
  | nil => intro _; simp [Lib.join, List.intercalate]
  | cons x r ih =>
    intro h
    have h1 := h x (List.mem_cons_self ..)
    have h2 := ih fun y hy => h y (List.mem_cons_of_mem _ hy)
    have h3 : (Lib.join (x :: r) sep).length ≤ x.length + (sep.length + (Lib.join r sep).length) := by
      cases r with
      | nil => simp [Lib.join, List.intercalate]
      | cons y r => simp [Lib.join, List.intercalate, List.intersperse]
    rw [List.length_cons, Nat.add_mul]
    omega
end Go.Proofs.YtkbellmhanpocaaDoor
