/- Tree of a formula. -/
import Derived.Test.YtkdmhjlcgpnjpaaGreatDoorG7
namespace Go.Proofs.YtkdmhjlcgpnjpaaGreatDoor
set_option linter.unusedVariables false
set_option linter.unusedSimpArgs false
open Go.RowKit F
attribute [local go_sem low] Bel.cell Bel.frozen alloc_cell alloc_frozen
attribute [local go_sem] calmOp chainOp yieldsC grows

/-- A loop that appends trees to the inputs of a box. -/
def AppSt (w wr : World) (TE : TypeId) (BASE BOXB RESB FB : Nat) (K A : Int) (v : Value) (l : List F) (rz fo : Obj) : Prop :=
  OwnF wr BASE TE v l ∧ wr.heap[BOXB]? = some (.cells #[.int .i64 K, .int .i64 A, v] TE (0, 0)) ∧ wr.heap[RESB]? = some rz ∧ wr.heap[FB]? = some fo ∧ Below w.heap.size w wr ∧ BASE ≤ wr.heap.size
theorem AppSt.next {w wr Z w1 : World} {TE : TypeId} {BASE BOXB RESB FB : Nat} {K A : Int} {v v' : Value} {l l' : List F} {rz fo : Obj} (h : AppSt w wr TE BASE BOXB RESB FB K A v l rz fo) (hz : Below wr.heap.size wr Z) (hb : Below BASE Z w1) (ho : OwnF w1 BASE TE v' l')
    (h1 : RESB ≠ BOXB) (h2 : FB ≠ BOXB) (h3 : RESB < BASE) (h4 : FB < BASE) (h5 : BOXB < BASE) (h6 : w.heap.size ≤ BOXB) : AppSt w (w1.setCell ⟨BOXB, 2, none⟩ v') TE BASE BOXB RESB FB K A v' l' rz fo := by
  obtain ⟨_, a1, a2, a3, a4, a5⟩ := h
  have hsz : BASE ≤ w1.heap.size := Nat.le_trans a5 (Nat.le_trans hz.size hb.size)
  refine ⟨ownF_set ho h5 _, obj_set _ (obj_below hb h5 (obj_bel ⟨_, hz⟩ a1)), obj_ne _ h1 (obj_below hb h3 (obj_bel ⟨_, hz⟩ a2)), obj_ne _ h2 (obj_below hb h4 (obj_bel ⟨_, hz⟩ a3)), ?_, by simpa using hsz⟩
  exact ((a4.trans (hz.mono a4.size)).trans (hb.mono (by omega))).setCell (p := ⟨BOXB, 2, none⟩) h6 _
end Go.Proofs.YtkdmhjlcgpnjpaaGreatDoor
