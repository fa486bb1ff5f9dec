/- The law's needed. The law's join. -/
import Derived.Test.YtlnedapimmabdaaGreatDoorW5
namespace Go.Proofs.YtlnedapimmabdaaGreatDoor
set_option linter.unusedVariables false
set_option linter.unusedSimpArgs false
open Go.RowKit
attribute [local go_sem low] Bel.cell Bel.frozen alloc_cell alloc_frozen
attribute [local go_sem] calmOp chainOp yieldsC grows

theorem packF_le (on : Nat → Bool) : ∀ (G : List Gt) (s : List Gt × List Nat), (packF on G s).1.length ≤ s.1.length + G.length
  | [], s => Nat.le_refl _
  | g :: r, s => by
    rw [packF, List.length_cons]
    refine Nat.le_trans (packF_le on r _) ?_
    split <;> simp <;> omega
end Go.Proofs.YtlnedapimmabdaaGreatDoor

namespace Go.Proofs.YtlnedapimmabdaaGreatDoor
set_option linter.unusedVariables false
set_option linter.unusedSimpArgs false
open Go.RowKit
attribute [local go_sem low] Bel.cell Bel.frozen alloc_cell alloc_frozen

def GR (Pc : Nat → Prop) (r : List Gt × Nat) (base : Nat) (v : Value) (w : World) (e : Ending) (w' : World) : Prop := ∃ v', e = .returned (.tuple #[v', .int .i64 (r.2 : Int)]) ∧ OwnZ Pc w' base 45 v' (r.1.map gz) ∧ Below base w w' ∧ w.heap.size ≤ w'.heap.size ∧ KeepX v w w' ∧ (∀ b, v'.ownBlock = some b → v.ownBlock = some b ∨ w.heap.size ≤ b)
variable {Pc : Nat → Prop}
theorem GR.ahead {r : List Gt × Nat} {base : Nat} {v : Value} {w w1 w' : World} {e : Ending} (hb : Below w.heap.size w w1) (hbs : base ≤ w.heap.size) (h : GR Pc r base v w1 e w') : GR Pc r base v w e w' := by
  obtain ⟨v', h1, h2, h3, h4, h5, h6⟩ := h
  have hs := hb.size
  exact ⟨v', h1, h2, (hb.mono hbs).trans h3, by omega, fun b hl hn => (h5 b (by omega) hn).trans (hb.block b hl), fun b e => (h6 b e).imp id (fun h => by omega)⟩
theorem GR.same {L : List Gt} {base a : Nat} {v : Value} {w w1 : World} (hb : Below w.heap.size w w1) (hbs : base ≤ w.heap.size) (ho : OwnZ Pc w base 45 v (L.map gz)) : GR Pc (L, a) base v w (.returned (.tuple #[v, .int .i64 (a : Int)])) w1 :=
  ⟨v, rfl, ownZ_bel ho hb, hb.mono hbs, hb.size, fun b hl _ => hb.block b hl, fun b e => .inl e⟩
end Go.Proofs.YtlnedapimmabdaaGreatDoor
