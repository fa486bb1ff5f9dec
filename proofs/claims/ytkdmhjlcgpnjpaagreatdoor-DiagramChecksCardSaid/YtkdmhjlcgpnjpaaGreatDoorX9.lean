/- The builder's restrict. -/
import Derived.Test.YtkdmhjlcgpnjpaaGreatDoorXB
namespace Go.Proofs.YtkdmhjlcgpnjpaaGreatDoor
set_option linter.unusedVariables false
set_option linter.unusedSimpArgs false
open Go.RowKit Go.Maps
attribute [local go_sem low] Bel.cell Bel.frozen alloc_cell alloc_frozen
attribute [local go_sem] calmOp chainOp yieldsC grows
variable {rk : Nat → Nat}

/-- What restrict has done: the places of places with a value put. -/
def DoneR (w : World) (dm : Nat) (N : List (Nat × Nat × Nat)) (x : Nat) (b : Bool) (E : Nat) : Prop :=
  ∃ n m, FunM Tryz.prog 3 3 w dm n m ∧ n ≤ E ∧ ∀ (p : Nat) (z : Int), m (.int .i64 (p : Int)) = some z → p < N.length + 2 ∧ ∃ q : Nat, z = (q : Int) ∧ q < N.length + 2 ∧ ∀ ρ, val3 ρ N q = put3 N p x b ρ
theorem DoneR.up {w w' : World} {dm x E E' : Nat} {N : List (Nat × Nat × Nat)} {b : Bool} (h : DoneR w dm N x b E) (M : List (Nat × Nat × Nat)) (hE : E ≤ E') (hb : ∀ o, w.heap[dm]? = some o → w'.heap[dm]? = some o) : DoneR w' dm (N ++ M) x b E' := by
  obtain ⟨n, m, h1, h2, h3⟩ := h
  refine ⟨n, m, h1.heap hb, Nat.le_trans h2 hE, fun p z hz => ?_⟩
  obtain ⟨a1, q, a2, a3, a4⟩ := h3 p z hz
  rw [List.length_append]
  exact ⟨by omega, q, a2, by omega, fun ρ => by rw [val3_app ρ N a3, put3_app b a1]; exact a4 ρ⟩
theorem DoneR.lay {w w' : World} {dm x E : Nat} {N : List (Nat × Nat × Nat)} {b : Bool} (h : DoneR w dm N x b E) (hb : Below w.heap.size w w') : DoneR w' dm N x b E := by
  have := h.up [] (Nat.le_refl E) (w' := w') fun o ho => obj_in hb ho
  rwa [List.append_nil] at this
theorem DoneR.lt {w : World} {dm x E : Nat} {N : List (Nat × Nat × Nat)} {b : Bool} (h : DoneR w dm N x b E) : dm < w.heap.size := by
  obtain ⟨n, m, h1, _⟩ := h
  exact h1.lt
/-- The first blocks are kept, and nothing but the builder's own four blocks and one more turns. -/
structure KbX (b0 B mp md dm : Nat) (v : Value) (w : World) (v' : Value) (w' : World) : Prop where
  below : Below b0 w w'
  keep : ∀ (c : Nat) (o : Obj), w.heap[c]? = some o → c ≠ B → c ≠ mp → c ≠ md → c ≠ dm → v.ownBlock ≠ some c → w'.heap[c]? = some o
  own : ∀ g, v'.ownBlock = some g → v.ownBlock = some g ∨ w.heap.size ≤ g
theorem Kb.x {b0 B mp md : Nat} (dm : Nat) {v v' : Value} {w w' : World} (h : Kb b0 B mp md v w v' w') : KbX b0 B mp md dm v w v' w' := ⟨h.below, fun c o ho h1 h2 h3 _ h4 => h.keep c o ho h1 h2 h3 h4, h.own⟩
theorem KbX.trans {b0 B mp md dm : Nat} {v v' v'' : Value} {w w' w'' : World} (h : KbX b0 B mp md dm v w v' w') (k : KbX b0 B mp md dm v' w' v'' w'') : KbX b0 B mp md dm v w v'' w'' := by
  refine ⟨h.below.trans k.below, fun c o ho h1 h2 h3 h5 h4 => k.keep c o (h.keep c o ho h1 h2 h3 h5 h4) h1 h2 h3 h5 fun e => ?_, fun g hg => ?_⟩
  · rcases h.own c e with e1 | e1
    · exact h4 e1
    · have := (Array.getElem?_eq_some_iff.1 ho).1
      omega
  · rcases k.own g hg with e1 | e1
    · exact h.own g e1
    · exact .inr (Nat.le_trans h.below.size e1)
theorem KbX.ahead {b0 B mp md dm : Nat} {v v' : Value} {w w' w'' : World} (k : Below w.heap.size w w') (h : KbX b0 B mp md dm v w' v' w'') (hb : b0 ≤ w.heap.size) : KbX b0 B mp md dm v w v' w'' :=
  ⟨(k.mono hb).trans h.below, fun c o ho h1 h2 h3 h5 h4 => h.keep c o ((k.block c (Array.getElem?_eq_some_iff.1 ho).1).trans ho) h1 h2 h3 h5 h4, fun g hg => (h.own g hg).imp_right (Nat.le_trans k.size)⟩
theorem KbX.row {b0 B mp md dm : Nat} {v v' : Value} {w w1 w2 : World} (h : KbX b0 B mp md dm v w v' w1) (hg : w1.grownBy w2 (some dm)) (hd : b0 ≤ dm) (hs : b0 ≤ w1.heap.size) : KbX b0 B mp md dm v w v' w2 := by
  refine ⟨h.below.grown hg hs (fun k hk => by injection hk with hk; omega), fun c o ho h1 h2 h3 h5 h4 => ?_, h.own⟩
  have := h.keep c o ho h1 h2 h3 h5 h4
  exact (hg.block c (Array.getElem?_eq_some_iff.1 this).1 (fun e => h5 (by injection e))).trans this
/-- What restrict returns. -/
def RetR (rk : Nat → Nat) (b0 B mp md base dm x : Nat) (b : Bool) (v : Value) (N : List (Nat × Nat × Nat)) (D E : Nat) (w : World) (c : Nat) (S : (Nat → Bool) → Bool) (u : Ending) (w' : World) : Prop :=
  ∃ (p : Nat) (v' : Value) (M : List (Nat × Nat × Nat)), u = .returned (.int .i64 (p : Int)) ∧ Bld rk w' b0 B mp md base v' (N ++ M) D ∧ DoneR w' dm (N ++ M) x b (E + c) ∧ KbX b0 B mp md dm v w v' w' ∧ M.length ≤ c ∧ p < (N ++ M).length + 2 ∧ ∀ ρ, val3 ρ (N ++ M) p = S ρ
theorem RetR.same {b0 B mp md base dm x : Nat} {b : Bool} {v : Value} {N : List (Nat × Nat × Nat)} {D E : Nat} {w w' : World} {c : Nat} {S : (Nat → Bool) → Bool} {p : Nat} (h : Bld rk w b0 B mp md base v N D) (hd : DoneR w dm N x b E) (hb : Below w.heap.size w w') (hp : p < N.length + 2) (hS : ∀ ρ, val3 ρ N p = S ρ) : RetR rk b0 B mp md base dm x b v N D E w c S (.returned (.int .i64 (p : Int))) w' :=
  ⟨p, v, [], rfl, by rw [List.append_nil]; exact h.bel hb, hd.up [] (Nat.le_add_right _ _) fun o ho => obj_in hb ho, ((Kb.refl _ _ _ _ _ _).of_below hb (by obtain ⟨d1, d2, d3, d4, d5, d6, d7, d8, d9, d10⟩ := h.dist; omega)).x dm, Nat.zero_le _, by rw [List.append_nil]; exact hp, by rw [List.append_nil]; exact hS⟩
end Go.Proofs.YtkdmhjlcgpnjpaaGreatDoor
