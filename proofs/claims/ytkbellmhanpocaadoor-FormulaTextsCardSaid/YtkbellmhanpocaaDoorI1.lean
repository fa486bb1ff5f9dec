/- The reader of formulas: its next byte. -/
import Derived.Test.YtkbellmhanpocaaDoorH3
namespace Go.Proofs.YtkbellmhanpocaaDoor
set_option linter.unusedVariables false
set_option linter.unusedSimpArgs false
open Go.RowKit Go.Shelf F
attribute [local go_sem low] Bel.cell Bel.frozen alloc_cell alloc_frozen

/-- The reader at block b. -/
def RdAt (w : World) (b : Nat) (S : List UInt8) (at_ : Nat) : Prop := w.heap[b]? = some (.cells #[.string ⟨S.toArray⟩, .int .i64 (at_ : Int)] 82 (0, 0))
theorem box2 {W : World} {b : Nat} {x y : Value} {e : TypeId} (h : W.heap[b]? = some (.cells #[x, y] e (0, 0))) : W.cell? ⟨b, 0, none⟩ = some x ∧ W.cell? ⟨b, 1, none⟩ = some y ∧ W.frozen? ⟨b, 0, none⟩ = false ∧ W.frozen? ⟨b, 1, none⟩ = false := by
  refine ⟨?_, ?_, ?_, ?_⟩ <;> simp [World.cell?, World.frozen?, h]
/-- All but the object at b lies as it lay. -/
def RK (b : Nat) (w w' : World) : Prop := Below b w w' ∧ ∀ k o, w.heap[k]? = some o → k ≠ b → w'.heap[k]? = some o
theorem RK.refl (b : Nat) (w : World) : RK b w w := ⟨Below.refl _ _, fun _ _ h _ => h⟩
theorem RK.trans {b : Nat} {w w1 w2 : World} (h : RK b w w1) (k : RK b w1 w2) : RK b w w2 := ⟨h.1.trans k.1, fun i o hi hn => k.2 i o (h.2 i o hi hn) hn⟩
theorem RK.bel {b : Nat} {w w' : World} (h : Below w.heap.size w w') (hb : b ≤ w.heap.size) : RK b w w' := ⟨h.mono hb, fun _ _ hi _ => obj_bel ⟨w', h⟩ hi⟩
theorem RK.set {b i : Nat} {w : World} (v : Value) : RK b w (w.setCell ⟨b, i, none⟩ v) := ⟨(Below.refl _ _).setCell (p := ⟨b, i, none⟩) (Nat.le_refl _) _, fun _ _ hi hn => obj_ne _ hn hi⟩
/-- The byte at a place; 0 behind the end. -/
def byteAt (S : List UInt8) (k : Nat) : UInt8 := S.getD k 0
set_option maxRecDepth 100000 in
set_option maxHeartbeats 3200000 in
theorem next_any (b : Nat) (S : List UInt8) (at_ : Nat) (w : World) (h : RdAt w b S at_) (hS : S.length ≤ 1000000) (ha : at_ ≤ 1000000) :
    Calls Tryd.prog 64 #[.pointer (some ⟨b, 0, none⟩)] w (Ret (.int .u8 ((byteAt S at_).toNat : Int)) w) := by
  obtain ⟨c0, c1, _, _⟩ := box2 h
  unfold byteAt
  by_cases hlt : at_ < S.length
  · have f0 : decide ((at_ : Int) < (S.length : Int)) = true := decide_eq_true (by omega)
    obtain ⟨c, hc⟩ := some_at hlt
    rw [List.getD_eq_getElem?_getD, hc]
    have HIX := Lib.hid (show ∀ h : at_ < (ByteArray.mk S.toArray).size, (ByteArray.mk S.toArray)[at_]'h = c from fun h => by
      obtain ⟨h1, h2⟩ := List.getElem?_eq_some_iff.1 hc
      show S.toArray[at_] = c
      rw [List.getElem_toArray]
      exact h2)
    go_enter Tryd.func64, Tryd.ntmps64
    go_wp2_with fail
    refine wp_region_bel (by kernel_rfl) (by kernel_rfl) ?_
    repeat (go_big_quiet_step (fail))
    refine wpQuiet_nil ?_
    rintro _ ⟨x, rfl⟩
    go_wp2_with fail
    refine wp_region_bel (by kernel_rfl) (by kernel_rfl) ?_
    repeat (go_big_quiet_step (fail))
    refine wpQuiet_nil ?_
    rintro _ ⟨y, rfl⟩
    go_wp2
    go_ret
    exact Ret.mk (by (have := HIX.out; simp [this])) (by (repeat' (first | (with_reducible exact Below.refl _ _) | (with_reducible exact Nat.le_refl _) | (with_reducible refine Below.bel ?_ ?_) | (with_reducible refine Below.alloc ?_ ?_ _) | (with_reducible refine Below.drew ?_) | (with_reducible refine Below.drawsN ?_ _) | (with_reducible refine Below.setCell ?_ ?_ _) | (with_reducible refine le_bel ?_) | (with_reducible refine le_alloc ?_) | (with_reducible refine le_setCell ?_) | (with_reducible refine le_drew ?_) | (with_reducible refine le_drawsN ?_) | (dsimp only; with_reducible refine le_bel ?_) | (dsimp only; with_reducible refine Nat.le_refl _) | (dsimp only; with_reducible refine le_bel_add ?_) | (with_reducible assumption) | omega | (dsimp only; omega))))
  · have f0 : decide ((at_ : Int) < (S.length : Int)) = false := decide_eq_false (by omega)
    rw [List.getD_eq_getElem?_getD, List.getElem?_eq_none (by omega)]
    go_enter Tryd.func64, Tryd.ntmps64
    go_wp2_with fail
    refine wp_region_bel (by kernel_rfl) (by kernel_rfl) ?_
    repeat (go_big_quiet_step (fail))
    refine wpQuiet_nil ?_
    rintro _ ⟨x, rfl⟩
    go_wp2
    go_ret
    exact Ret.mk (by rfl) (by (repeat' (first | (with_reducible exact Below.refl _ _) | (with_reducible exact Nat.le_refl _) | (with_reducible refine Below.bel ?_ ?_) | (with_reducible refine Below.alloc ?_ ?_ _) | (with_reducible refine Below.drew ?_) | (with_reducible refine Below.drawsN ?_ _) | (with_reducible refine Below.setCell ?_ ?_ _) | (with_reducible refine le_bel ?_) | (with_reducible refine le_alloc ?_) | (with_reducible refine le_setCell ?_) | (with_reducible refine le_drew ?_) | (with_reducible refine le_drawsN ?_) | (dsimp only; with_reducible refine le_bel ?_) | (dsimp only; with_reducible refine Nat.le_refl _) | (dsimp only; with_reducible refine le_bel_add ?_) | (with_reducible assumption) | omega | (dsimp only; omega))))
end Go.Proofs.YtkbellmhanpocaaDoor
