/- constant, normal. result, Normal. -/
import Derived.Test.YtkdmhjlcgpnjpaaGreatDoorG5
namespace Go.Proofs.YtkdmhjlcgpnjpaaGreatDoor
set_option linter.unusedVariables false
set_option linter.unusedSimpArgs false
open Go.RowKit F
attribute [local go_sem low] Bel.cell Bel.frozen alloc_cell alloc_frozen
attribute [local go_sem] calmOp chainOp yieldsC grows

theorem RetF.mk {t : F} {w w' : World} {v : Value} (ad : Option Addr) (cap : Nat) (hv : v = .agg #[.int .i64 t.k, .int .i64 t.a, .slice ad t.l.length cap]) (hb : Below w.heap.size w w') (hi : InsF (fun b => w.heap.size ≤ b) w' ad t.l) : RetF t w (.returned v) w' :=
  ⟨v, rfl, ⟨w', hb⟩, rfl, ad, cap, hv, hi⟩
theorem constant_any (b : Bool) (w : World) : Calls Tryz.prog 111 #[.bool b] w (RetF (cst b) w) := by
  cases b
  · go_enter Tryz.func111, Tryz.ntmps111
    go_wp2
    refine bodyPost_ret (v := .agg #[.int .i64 5, .int .i64 0, .slice none 0 0]) (by simp [results, Tryz.results111, go_sem]) rfl ⟨_, rfl, ⟨_, (Below.refl _ _).alloc (Nat.le_refl _) _⟩, rfl, none, 0, rfl, insF_nil _ _ _⟩
  · go_enter Tryz.func111, Tryz.ntmps111
    go_wp2
    refine bodyPost_ret (v := .agg #[.int .i64 6, .int .i64 0, .slice none 0 0]) (by simp [results, Tryz.results111, go_sem]) rfl ⟨_, rfl, ⟨_, (Below.refl _ _).alloc (Nat.le_refl _) _⟩, rfl, none, 0, rfl, insF_nil _ _ _⟩
end Go.Proofs.YtkdmhjlcgpnjpaaGreatDoor

namespace Go.Proofs.YtkdmhjlcgpnjpaaGreatDoor
set_option linter.unusedVariables false
set_option linter.unusedSimpArgs false
open Go.RowKit F
attribute [local go_sem low] Bel.cell Bel.frozen alloc_cell alloc_frozen

/-- A formula, and no error. -/
def RetFE (t : F) (w : World) (e : Ending) (w' : World) : Prop := ∃ v, e = .returned (.tuple #[v, .int .i64 0]) ∧ ∃ y : Bel w, w' = y.w ∧ FV (fun b => w.heap.size ≤ b) y.w v t
theorem RetFE.mk {t : F} {w w' : World} {v : Value} (ad : Option Addr) (cap : Nat) (hv : v = .agg #[.int .i64 t.k, .int .i64 t.a, .slice ad t.l.length cap]) (hb : Below w.heap.size w w') (hi : InsF (fun b => w.heap.size ≤ b) w' ad t.l) : RetFE t w (.returned (.tuple #[v, .int .i64 0])) w' :=
  ⟨v, rfl, ⟨w', hb⟩, rfl, ad, cap, hv, hi⟩
end Go.Proofs.YtkdmhjlcgpnjpaaGreatDoor
