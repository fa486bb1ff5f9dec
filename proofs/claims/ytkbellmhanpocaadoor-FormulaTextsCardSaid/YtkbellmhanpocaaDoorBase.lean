/- Worlds that have grown: what the walks of this seat lean on. No program in sight. -/
import Derived.WalkKit
import Derived.WalkLawsBesides
import Derived.WalkSpells
import Derived.Lib.Hide
import Derived.Deep.QuietTactic
import Derived.BigQuiet
namespace Go.Proofs.YtkbellmhanpocaaDoor
set_option linter.unusedVariables false
set_option linter.unusedSimpArgs false
open Go.RowKit

/-- A world in which all that lay in W lies as it lay. -/
structure Bel (W : World) where
  w : World
  below : Below W.heap.size W w

instance bel_nonempty (W : World) : Nonempty (Bel W) := ⟨⟨W, Below.refl _ _⟩⟩
theorem Bel.size_le {W : World} (x : Bel W) : W.heap.size ≤ x.w.heap.size := x.below.size
theorem cell_none {w : World} {p : Addr} (h : ¬ p.block < w.heap.size) : w.cell? p = none := by
  cases hc : w.cell? p with
  | none => rfl
  | some u => exact absurd (World.block_lt_of_cell? w p hc) h
/-- What a cell beyond W holds. -/
def Bel.rest {W : World} (x : Bel W) (p : Addr) : Option Value := if p.block < W.heap.size then none else x.w.cell? p
def Bel.restF {W : World} (x : Bel W) (p : Addr) : Bool := x.w.frozen? p
def restA (w : World) (o : Obj) (p : Addr) : Option Value := if p.block < w.heap.size then none else (w.alloc o).cell? p
def restAF (w : World) (o : Obj) (p : Addr) : Bool := (w.alloc o).frozen? p
theorem Bel.cell {W : World} (x : Bel W) (p : Addr) : x.w.cell? p = (W.cell? p).or (x.rest p) := by
  unfold Bel.rest
  by_cases h : p.block < W.heap.size
  · rw [if_pos h, x.below.cell h, Option.or_none]
  · rw [if_neg h, cell_none h, Option.none_or]
theorem Bel.frozen {W : World} (x : Bel W) (p : Addr) : x.w.frozen? p = bif (W.cell? p).isSome then W.frozen? p else x.restF p := by
  cases h : (W.cell? p).isSome with
  | false => rfl
  | true =>
    obtain ⟨u, hu⟩ := Option.isSome_iff_exists.1 h
    exact x.below.frozen (World.block_lt_of_cell? W p hu)
theorem alloc_cell (w : World) (o : Obj) (p : Addr) : (w.alloc o).cell? p = (w.cell? p).or (restA w o p) := by
  unfold restA
  by_cases h : p.block < w.heap.size
  · rw [if_pos h, World.cell?_alloc_lt _ _ _ h, Option.or_none]
  · rw [if_neg h, cell_none h, Option.none_or]
theorem alloc_frozen (w : World) (o : Obj) (p : Addr) : (w.alloc o).frozen? p = bif (w.cell? p).isSome then w.frozen? p else restAF w o p := by
  cases h : (w.cell? p).isSome with
  | false => rfl
  | true =>
    obtain ⟨u, hu⟩ := Option.isSome_iff_exists.1 h
    exact World.frozen?_alloc_old _ _ _ (Nat.ne_of_lt (World.block_lt_of_cell? w p hu))

theorem Below.bel {B : Nat} {a W : World} {x : Bel W} (h : Below B a W) (hB : B ≤ W.heap.size) : Below B a x.w := h.trans (x.below.mono hB)
theorem Below.drawsN {B : Nat} {a w : World} (h : Below B a w) (n : Nat) : Below B a (w.drewN n) := ⟨h.os, h.tape, h.output, h.size, h.block⟩
theorem le_bel {B : Nat} {W : World} {x : Bel W} (h : B ≤ W.heap.size) : B ≤ x.w.heap.size := Nat.le_trans h x.size_le
theorem le_bel_add {B k : Nat} {W : World} {x : Bel W} (h : B ≤ W.heap.size) : B ≤ x.w.heap.size + k := Nat.le_trans (Nat.le_trans h x.size_le) (Nat.le_add_right _ _)
theorem le_alloc {B : Nat} {w : World} {o : Obj} (h : B ≤ w.heap.size) : B ≤ (w.alloc o).heap.size := by simp; omega
theorem le_setCell {B : Nat} {w : World} {p : Addr} {v : Value} (h : B ≤ w.heap.size) : B ≤ (w.setCell p v).heap.size := by simpa using h
theorem le_drew {B : Nat} {w : World} (h : B ≤ w.heap.size) : B ≤ w.drew.heap.size := h
theorem le_drawsN {B n : Nat} {w : World} (h : B ≤ w.heap.size) : B ≤ (w.drewN n).heap.size := h
theorem size_drewN (w : World) (n : Nat) : (w.drewN n).heap.size = w.heap.size := rfl

/-- The call returns v; all that lay in w lies as it lay. -/
def Ret (v : Value) (w : World) (e : Ending) (w' : World) : Prop := e = .returned v ∧ ∃ x : Bel w, w' = x.w
theorem Ret.mk {v u : Value} {w w' : World} (h : u = v) (hb : Below w.heap.size w w') : Ret v w (.returned u) w' := ⟨by rw [h], ⟨w', hb⟩, rfl⟩

theorem ret_of_same {P : Program} {f : FuncId} {args : Array Value} {w : World} {v : Value} (h : Calls P f args w fun e w' => e = .returned v ∧ w = w') : Calls P f args w (Ret v w) :=
  h.mono fun _ _ ⟨he, hy⟩ => ⟨he, ⟨w, Below.refl _ _⟩, hy.symm⟩
theorem ret_of_draws {P : Program} {f : FuncId} {args : Array Value} {w : World} {v : Value} (h : Calls P f args w fun e w' => e = .returned v ∧ ∃ n, w' = w.drewN n) : Calls P f args w (Ret v w) :=
  h.mono fun _ _ ⟨he, n, hy⟩ => ⟨he, ⟨w.drewN n, Below.drawsN (Below.refl _ _) n⟩, hy⟩
theorem bel_of {P : Program} {f : FuncId} {args : Array Value} {W : World} {x : Bel W} {v : Value} (h : Calls P f args x.w (Ret v x.w)) :
    Calls P f args x.w fun e w'' => e = .returned v ∧ ∃ y : Bel W, w'' = y.w :=
  h.mono fun _ _ ⟨he, y, hy⟩ => ⟨he, ⟨y.w, x.below.trans (y.below.mono x.size_le)⟩, hy⟩
theorem bel_of_same {P : Program} {f : FuncId} {args : Array Value} {W : World} {x : Bel W} {v : Value} (h : Calls P f args x.w fun e w' => e = .returned v ∧ x.w = w') :
    Calls P f args x.w fun e w'' => e = .returned v ∧ ∃ y : Bel W, w'' = y.w :=
  h.mono fun _ _ ⟨he, hy⟩ => ⟨he, x, hy.symm⟩
theorem bel_of_draws {P : Program} {f : FuncId} {args : Array Value} {W : World} {x : Bel W} {v : Value} (h : Calls P f args x.w fun e w' => e = .returned v ∧ ∃ n, w' = x.w.drewN n) :
    Calls P f args x.w fun e w'' => e = .returned v ∧ ∃ y : Bel W, w'' = y.w :=
  h.mono fun _ _ ⟨he, n, hy⟩ => ⟨he, ⟨x.w.drewN n, Below.drawsN x.below n⟩, hy⟩

/-- A region that draws its order, whose operations read, and whose calls leave all that lay there as it lay: one walk, in the order of the text. -/
theorem wp_region_bel {P : Program} {id : Nat} {Q : Exit → Act → World → Prop} {a : Act} {w : World} {l : List Oper} (hm : P.follows .mixedOrders = true) (hB : Region.lexB .any l.toArray = true)
    (h : wpQuiet P l.toArray (fun w' => ∃ x : Bel w, w' = x.w) (fun a' => ∀ w', (∃ x : Bel w, w' = x.w) → Q .normal a' w') l a) : (Code.region id l.toArray true).wp P Q a w :=
  wp_region_quiet (C := fun w' => ∃ x : Bel w, w' = x.w) hm hB ⟨⟨{ w with drawn := w.drawn + 1 }, ⟨rfl, rfl, rfl, Nat.le_refl _, fun _ _ => rfl⟩⟩, rfl⟩ (by simpa using h)
theorem ret_int {k : IntKind} {a b : Int} (h : a = b) : Ending.returned (.int k a) = .returned (.int k b) := by rw [h]
end Go.Proofs.YtkbellmhanpocaaDoor
