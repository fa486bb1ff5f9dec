/- The keys of the builder's maps. Nodes in memory; the builder's state. The builder's node: one place for each node. The builder's node: one place for each node. -/
import Derived.DeepKeys5
import Derived.Carry
import Derived.Test.YtlnedapimmabdaaGreatDoorMg
import Derived.Test.YtlnedapimmabdaaGreatDoorProg
import Derived.Test.YtlnedapimmabdaaGreatDoorPl
import Derived.Maps.AppendAt
import Derived.Laws.OwnMore
import Derived.Deep.RegionLaw
import Derived.Deep.AppendLies
namespace Go.Proofs.YtlnedapimmabdaaGreatDoor
set_option linter.unusedVariables false
set_option linter.unusedSimpArgs false
open Go.RowKit Go.Maps

theorem rowN : 96 < Tryz.prog.types.size := of_decide_eq_true (by kernel_rfl)
theorem rowK : 140 < Tryz.prog.types.size := of_decide_eq_true (by kernel_rfl)
theorem sizeT : Tryz.prog.types.size + 2 ≤ 10000 := of_decide_eq_true (by kernel_rfl)
theorem laidOut2 : laidOutB Tryz.prog = true := by kernel_rfl
theorem keyTN : Tryz.prog.keyType 96 = true := by kernel_rfl
theorem keyTK : Tryz.prog.keyType 140 = true := by kernel_rfl
theorem keyedN : Keyed Tryz.prog 96 := Keyed.of_law (deep_law_gate laidOut2 sizeT rowN keyTN (by kernel_rfl))
theorem keyedK : Keyed Tryz.prog 140 := Keyed.of_law (deep_law_gate laidOut2 sizeT rowK keyTK (by kernel_rfl))
theorem cellsN3 : Tryz.prog.cellsOf 96 = 3 := by kernel_rfl
theorem cellsK3 : Tryz.prog.cellsOf 140 = 3 := by kernel_rfl
theorem cellsIn1 : Tryz.prog.cellsOf 3 = 1 := by kernel_rfl
theorem key_int (d : Nat) (a : Int) (ha : (Lit.int .i64 a).wf = true) : Tryz.prog.keyLits (d + 1) 3 [.int .i64 a] = some [.int .i64 a] := by
  unfold Program.keyLits
  simp [Tryz.underlying3, ha]
theorem key_node (a b c : Int) (ha : (Lit.int .i64 a).wf = true) (hb : (Lit.int .i64 b).wf = true) (hc : (Lit.int .i64 c).wf = true) : ∃ kl, keyOf Tryz.prog 96 (.agg #[.int .i64 a, .int .i64 b, .int .i64 c]) = some kl := by
  obtain ⟨S, hS⟩ : ∃ S, Tryz.prog.types.size = S + 1 := ⟨Tryz.prog.types.size - 1, by have := rowN; omega⟩
  unfold keyOf
  simp only [Tryz.underlying96]
  rw [if_pos (by simp [keyTN, Value.formed, Tryz.underlying96, cellsN3])]
  rw [hS]
  unfold Program.keyLits
  simp [Tryz.underlying96, cellsN3, cellsIn1, Value.cells, key_int S a ha, key_int S b hb, key_int S c hc]
theorem key_three (a b c : Int) (ha : (Lit.int .i64 a).wf = true) (hb : (Lit.int .i64 b).wf = true) (hc : (Lit.int .i64 c).wf = true) : ∃ kl, keyOf Tryz.prog 140 (.agg #[.int .i64 a, .int .i64 b, .int .i64 c]) = some kl := by
  obtain ⟨S, hS⟩ : ∃ S, Tryz.prog.types.size = S + 1 := ⟨Tryz.prog.types.size - 1, by have := rowN; omega⟩
  unfold keyOf
  simp only [Tryz.underlying140]
  rw [if_pos (by simp [keyTK, Value.formed, Tryz.underlying140, cellsK3])]
  rw [hS]
  unfold Program.keyLits
  have r3 : List.range 3 = [0, 1, 2] := rfl
  simp [Tryz.underlying140, cellsK3, cellsIn1, Value.cells, r3, key_int S a ha, key_int S b hb, key_int S c hc]
end Go.Proofs.YtlnedapimmabdaaGreatDoor

namespace Go.Proofs.YtlnedapimmabdaaGreatDoor
set_option linter.unusedVariables false
set_option linter.unusedSimpArgs false
open Go.RowKit Go.Maps
attribute [local go_sem low] Bel.cell Bel.frozen alloc_cell alloc_frozen

def cellsD : List (Nat × Nat × Nat) → List Value
  | [] => []
  | x :: r => .int .i64 (x.1 : Int) :: .int .i64 (x.2.1 : Int) :: .int .i64 (x.2.2 : Int) :: cellsD r
theorem cellsD_len : ∀ l, (cellsD l).length = l.length * 3
  | [] => rfl
  | x :: r => by rw [cellsD, List.length_cons, List.length_cons, List.length_cons, cellsD_len r, List.length_cons]; omega
theorem cellsD_app : ∀ l r, cellsD (l ++ r) = cellsD l ++ cellsD r
  | [], r => rfl
  | x :: l, r => by rw [List.cons_append, cellsD, cellsD, cellsD_app l r]; rfl
theorem cellsD_at : ∀ (l : List (Nat × Nat × Nat)) (j : Nat) (x : Nat × Nat × Nat), l[j]? = some x → (cellsD l)[j * 3]? = some (.int .i64 (x.1 : Int)) ∧ (cellsD l)[j * 3 + 1]? = some (.int .i64 (x.2.1 : Int)) ∧ (cellsD l)[j * 3 + 2]? = some (.int .i64 (x.2.2 : Int))
  | [], j, x, h => by simp at h
  | y :: r, 0, x, h => by
    simp at h
    subst h
    exact ⟨rfl, rfl, rfl⟩
  | y :: r, j + 1, x, h => by
    have := cellsD_at r j x (by simpa using h)
    rw [cellsD, show (j + 1) * 3 = j * 3 + 1 + 1 + 1 by omega, show j * 3 + 1 + 1 + 1 + 1 = j * 3 + 1 + 1 + 1 + 1 by rfl]
    simpa [List.getElem?_cons_succ] using this
def OwnD (w : World) (base : Nat) (e : TypeId) (v : Value) (N : List (Nat × Nat × Nat)) : Prop := w.ownsRow base e 3 v N.length (cellsD N)
theorem ownD_nil (w : World) (base : Nat) (e : TypeId) : OwnD w base e (.slice none 0 0) [] := World.ownsRow_nil _ _ _ _
theorem ownD_val {w : World} {base : Nat} {e : TypeId} {v : Value} {N : List (Nat × Nat × Nat)} (h : OwnD w base e v N) : ∃ a c, v = .slice a N.length c ∧ (0 < N.length → ∃ g, a = some ⟨g, 0, none⟩ ∧ base ≤ g ∧ g < w.heap.size ∧ v.ownBlock = some g ∧ ∀ (i : Nat) (x : Value), (cellsD N)[i]? = some x → w.cell? ⟨g, i, none⟩ = some x) := by
  rcases h with ⟨hxl, ⟨rfl, h0⟩ | ⟨g, cap, cur, rfl, hg, hh, hn, hc, hcs, hcur⟩⟩
  · exact ⟨none, 0, by rw [h0], fun h => by omega⟩
  · refine ⟨_, _, rfl, fun _ => ⟨g, rfl, hg, (Array.getElem?_eq_some_iff.1 hh).1, rfl, fun i x hx => ?_⟩⟩
    have hi : i < N.length * 3 := by
      have := (List.getElem?_eq_some_iff.1 hx).1
      rw [cellsD_len] at this
      exact this
    rw [← hcur, List.getElem?_take_of_lt hi] at hx
    simp [World.cell?, hh]
    simpa using hx
theorem ownD_lt {w : World} {base : Nat} {e : TypeId} {v : Value} {N : List (Nat × Nat × Nat)} (h : OwnD w base e v N) {b : Nat} (hb : v.ownBlock = some b) : base ≤ b ∧ b < w.heap.size := World.ownsRow.lt h b hb
def nodeV (x : Nat × Nat × Nat) : Value := .agg #[.int .i64 (x.1 : Int), .int .i64 (x.2.1 : Int), .int .i64 (x.2.2 : Int)]
theorem nodeV_inj {x y : Nat × Nat × Nat} (h : nodeV x = nodeV y) : x = y := by
  unfold nodeV at h
  simp at h
  exact Prod.ext (by omega) (Prod.ext (by omega) (by omega))
structure Kb (b0 B mp md : Nat) (v : Value) (w : World) (v' : Value) (w' : World) : Prop where
  below : Below b0 w w'
  keep : ∀ (c : Nat) (o : Obj), w.heap[c]? = some o → c ≠ B → c ≠ mp → c ≠ md → v.ownBlock ≠ some c → w'.heap[c]? = some o
  own : ∀ g, v'.ownBlock = some g → v.ownBlock = some g ∨ w.heap.size ≤ g
theorem Kb.refl (b0 B mp md : Nat) (v : Value) (w : World) : Kb b0 B mp md v w v w := ⟨Below.refl _ _, fun _ _ h _ _ _ _ => h, fun _ h => .inl h⟩
theorem Kb.trans {b0 B mp md : Nat} {v v' v'' : Value} {w w' w'' : World} (h : Kb b0 B mp md v w v' w') (k : Kb b0 B mp md v' w' v'' w'') : Kb b0 B mp md v w v'' w'' := by
  refine ⟨h.below.trans k.below, fun c o ho h1 h2 h3 h4 => k.keep c o (h.keep c o ho h1 h2 h3 h4) h1 h2 h3 fun e => ?_, fun g hg => ?_⟩
  · rcases h.own c e with e1 | e1
    · exact h4 e1
    · have := (Array.getElem?_eq_some_iff.1 ho).1
      omega
  · rcases k.own g hg with e1 | e1
    · exact h.own g e1
    · exact .inr (Nat.le_trans h.below.size e1)
theorem Kb.of_below {b0 B mp md : Nat} {v v' : Value} {w w' w'' : World} (h : Kb b0 B mp md v w v' w') (k : Below w'.heap.size w' w'') (hb : b0 ≤ w.heap.size) : Kb b0 B mp md v w v' w'' :=
  ⟨h.below.trans (k.mono (Nat.le_trans hb h.below.size)), fun c o ho h1 h2 h3 h4 => (k.block c (Array.getElem?_eq_some_iff.1 (h.keep c o ho h1 h2 h3 h4)).1).trans (h.keep c o ho h1 h2 h3 h4), h.own⟩
theorem Kb.ahead {b0 B mp md : Nat} {v v' : Value} {w w' w'' : World} (k : Below w.heap.size w w') (h : Kb b0 B mp md v w' v' w'') (hb : b0 ≤ w.heap.size) : Kb b0 B mp md v w v' w'' :=
  ⟨(k.mono hb).trans h.below, fun c o ho h1 h2 h3 h4 => h.keep c o ((k.block c (Array.getElem?_eq_some_iff.1 ho).1).trans ho) h1 h2 h3 h4, fun g hg => (h.own g hg).imp_right (Nat.le_trans k.size)⟩
def VarOk (rk : Nat → Nat) (a : Nat) : Prop := a < 4096 ∧ ∀ y, a < y → rk y < rk a
structure Bld (rk : Nat → Nat) (w : World) (b0 B mp md base : Nat) (v : Value) (N : List (Nat × Nat × Nat)) (D : Nat) : Prop where
  obj : w.heap[B]? = some (.cells #[v, .map (some mp), .map (some md), .bool false] 144 (0, 0))
  own : OwnD w base 96 v N
  plc : ∃ n m, FunM Tryz.prog 96 3 w mp n m ∧ n ≤ N.length ∧ (∀ (i : Nat) (x : Nat × Nat × Nat), N[i]? = some x → m (nodeV x) = some ((i + 2 : Nat) : Int)) ∧ ∀ (x : Nat × Nat × Nat) (z : Int), m (nodeV x) = some z → ∃ i : Nat, N[i]? = some x ∧ z = ((i + 2 : Nat) : Int)
  dn : ∃ n m, FunM Tryz.prog 140 3 w md n m ∧ n ≤ D ∧ ∀ (x : Nat × Nat × Nat) (z : Int), m (nodeV x) = some z → x.1 < N.length + 2 ∧ x.2.1 < N.length + 2 ∧ x.2.2 < N.length + 2 ∧ ∃ p : Nat, z = (p : Int) ∧ p < N.length + 2 ∧ ∀ ρ, val3 ρ N p = if val3 ρ N x.1 then val3 ρ N x.2.1 else val3 ρ N x.2.2
  good : Good N
  vars : ∀ x ∈ N, VarOk rk x.1
  dist : B ≠ mp ∧ B ≠ md ∧ mp ≠ md ∧ b0 ≤ B ∧ b0 ≤ mp ∧ b0 ≤ md ∧ B < base ∧ mp < base ∧ md < base ∧ base ≤ w.heap.size
variable {rk : Nat → Nat}
theorem bld_cells {w : World} {b0 B mp md base : Nat} {v : Value} {N : List (Nat × Nat × Nat)} {D : Nat} (h : Bld rk w b0 B mp md base v N D) :
    w.cell? ⟨B, 0, none⟩ = some v ∧ w.cell? ⟨B, 1, none⟩ = some (.map (some mp)) ∧ w.cell? ⟨B, 2, none⟩ = some (.map (some md)) ∧ w.cell? ⟨B, 3, none⟩ = some (.bool false) ∧ w.frozen? ⟨B, 0, none⟩ = false := by
  have ho := h.obj
  refine ⟨?_, ?_, ?_, ?_, ?_⟩ <;> simp [World.cell?, World.frozen?, ho]
theorem obj_in {w w' : World} {c : Nat} {o : Obj} (hb : Below w.heap.size w w') (ho : w.heap[c]? = some o) : w'.heap[c]? = some o :=
  (hb.block c (Array.getElem?_eq_some_iff.1 ho).1).trans ho
theorem Bld.bel {w w' : World} {b0 B mp md base : Nat} {v : Value} {N : List (Nat × Nat × Nat)} {D : Nat} (h : Bld rk w b0 B mp md base v N D) (hb : Below w.heap.size w w') : Bld rk w' b0 B mp md base v N D := by
  have hob : ∀ (c : Nat) (o : Obj), w.heap[c]? = some o → w'.heap[c]? = some o := fun c o ho => obj_in hb ho
  obtain ⟨d1, d2, d3, d4, d5, d6, d7, d8, d9, d10⟩ := h.dist
  obtain ⟨n1, m1, p1, p2, p3, p4⟩ := h.plc
  obtain ⟨n2, m2, q1, q2, q3⟩ := h.dn
  refine ⟨hob _ _ h.obj, ?_, ⟨n1, m1, p1.heap (hob _), p2, p3, p4⟩, ⟨n2, m2, q1.heap (hob _), q2, q3⟩, h.good, h.vars, ⟨d1, d2, d3, d4, d5, d6, d7, d8, d9, Nat.le_trans d10 hb.size⟩⟩
  rcases h.own with ⟨hxl, ⟨e1, e2⟩ | ⟨g, cap, cur, e1, hg, hh, hn, hc, hcs, hcur⟩⟩
  · exact ⟨hxl, .inl ⟨e1, e2⟩⟩
  · exact ⟨hxl, .inr ⟨g, cap, cur, e1, hg, hob _ _ hh, hn, hc, hcs, hcur⟩⟩
theorem bld_node {w : World} {b0 B mp md base : Nat} {v : Value} {N : List (Nat × Nat × Nat)} {D : Nat} (h : Bld rk w b0 B mp md base v N D) {p : Nat} (hp : p < N.length + 2) (h2 : 2 ≤ p) :
    ∃ g c, v = .slice (some ⟨g, 0, none⟩) N.length c ∧ w.cell? ⟨g, (p - 2) * 3, none⟩ = some (.int .i64 ((node3 N p).1 : Int)) ∧ w.cell? ⟨g, (p - 2) * 3 + 1, none⟩ = some (.int .i64 ((node3 N p).2.1 : Int)) ∧ w.cell? ⟨g, (p - 2) * 3 + 2, none⟩ = some (.int .i64 ((node3 N p).2.2 : Int)) := by
  obtain ⟨a, c, rfl, hc⟩ := ownD_val h.own
  obtain ⟨g, rfl, _, _, _, hcell⟩ := hc (by omega)
  obtain ⟨k0, k1, k2⟩ := cellsD_at N (p - 2) _ (node3_some hp h2)
  exact ⟨g, c, rfl, hcell _ _ k0, hcell _ _ k1, hcell _ _ k2⟩
set_option maxRecDepth 100000 in
theorem variable_any {w : World} {b0 B mp md base : Nat} {v : Value} {N : List (Nat × Nat × Nat)} {D : Nat} (h : Bld rk w b0 B mp md base v N D) (p : Nat) (hp : p < N.length + 2) (hl : N.length ≤ 1000000) :
    Calls Tryz.prog 92 #[.pointer (some ⟨B, 0, none⟩), .int .i64 (p : Int)] w (Ret (.int .i64 (var3 N p : Nat)) w) := by
  rcases Nat.lt_or_ge p 2 with h2 | h2
  · have f0 : decide ((p : Int) < 2) = true := decide_eq_true (by omega)
    have e : var3 N p = 4096 := by unfold var3; rw [if_pos h2]
    rw [e]
    clear h
    go_enter Tryz.func92, Tryz.ntmps92
    go_wp2
    go_ret
    exact Ret.mk (by rfl) (by (repeat' (first | (with_reducible first | apply Zl1 | apply Zl2 | apply Zl3 | apply Zl4 | apply Zl5 | apply Zl6 | apply Zl7 | apply Zl8 | apply Zl9 | apply Zla | apply Zlb | apply Zlc) | (dsimp only; with_reducible first | apply Zl8 | apply Zl2 | apply Zld) | with_reducible assumption | omega | (dsimp only; omega))))
  · have f0 : decide ((p : Int) < 2) = false := decide_eq_false (by omega)
    obtain ⟨b1, _⟩ := bld_cells h
    obtain ⟨g, c, rfl, c0, c1, c2⟩ := bld_node h hp h2
    have e : var3 N p = (node3 N p).1 := by unfold var3 node3; rw [if_neg (by omega)]
    rw [e]
    obtain ⟨x, hx⟩ : ∃ x, node3 N p = x := ⟨_, rfl⟩
    rw [hx] at c0 ⊢
    obtain ⟨q, rfl⟩ : ∃ q, p = q + 2 := ⟨p - 2, by omega⟩
    rw [Nat.add_sub_cancel] at c0
    have hq : (((q + 2 : Nat) : Int) - 2) = (q : Int) := by omega
    have hib : (0 ≤ (q : Int) ∧ (q : Int) < (N.length : Int)) := ⟨by omega, by omega⟩
    clear h c1 c2 e hx
    go_enter Tryz.func92, Tryz.ntmps92
    go_wp2
    go_ret
    exact Ret.mk (by rfl) (by (repeat' (first | (with_reducible first | apply Zl1 | apply Zl2 | apply Zl3 | apply Zl4 | apply Zl5 | apply Zl6 | apply Zl7 | apply Zl8 | apply Zl9 | apply Zla | apply Zlb | apply Zlc) | (dsimp only; with_reducible first | apply Zl8 | apply Zl2 | apply Zld) | with_reducible assumption | omega | (dsimp only; omega))))
theorem Bld.mono {w : World} {b0 B mp md base : Nat} {v : Value} {N : List (Nat × Nat × Nat)} {D E : Nat} (h : Bld rk w b0 B mp md base v N D) (hDE : D ≤ E) : Bld rk w b0 B mp md base v N E := by
  obtain ⟨n2, m2, q1, q2, q3⟩ := h.dn
  exact ⟨h.obj, h.own, h.plc, ⟨n2, m2, q1, Nat.le_trans q2 hDE, q3⟩, h.good, h.vars, h.dist⟩
def RetB (rk : Nat → Nat) (b0 B mp md base : Nat) (v : Value) (N : List (Nat × Nat × Nat)) (D : Nat) (w : World) (a c : Nat) (S : (Nat → Bool) → Bool) (u : Ending) (w' : World) : Prop :=
  ∃ (p : Nat) (v' : Value) (M : List (Nat × Nat × Nat)), u = .returned (.int .i64 (p : Int)) ∧ Bld rk w' b0 B mp md base v' (N ++ M) (D + c) ∧ Kb b0 B mp md v w v' w' ∧ M.length ≤ a ∧ p < (N ++ M).length + 2 ∧ ∀ ρ, val3 ρ (N ++ M) p = S ρ
theorem RetB.same {b0 B mp md base : Nat} {v : Value} {N : List (Nat × Nat × Nat)} {D : Nat} {w w' : World} {a c : Nat} {S : (Nat → Bool) → Bool} {p : Nat} (h : Bld rk w b0 B mp md base v N D) (hb : Below w.heap.size w w') (hp : p < N.length + 2) (hS : ∀ ρ, val3 ρ N p = S ρ) : RetB rk b0 B mp md base v N D w a c S (.returned (.int .i64 (p : Int))) w' :=
  ⟨p, v, [], rfl, by rw [List.append_nil]; exact (h.bel hb).mono (Nat.le_add_right _ _), (Kb.refl _ _ _ _ _ _).of_below hb (by obtain ⟨d1, d2, d3, d4, d5, d6, d7, d8, d9, d10⟩ := h.dist; omega), Nat.zero_le _, by rw [List.append_nil]; exact hp, by rw [List.append_nil]; exact hS⟩
def RetN (rk : Nat → Nat) (P : List (Nat × Nat × Nat) → Nat → Prop) (b0 B mp md base : Nat) (v : Value) (N : List (Nat × Nat × Nat)) (D : Nat) (w : World) (c : Nat) (S : (Nat → Bool) → Bool) (u : Ending) (w' : World) : Prop :=
  ∃ (p : Nat) (v' : Value) (M : List (Nat × Nat × Nat)), u = .returned (.int .i64 (p : Int)) ∧ Bld rk w' b0 B mp md base v' (N ++ M) (D + c) ∧ Kb b0 B mp md v w v' w' ∧ P M p ∧ p < (N ++ M).length + 2 ∧ ∀ ρ, val3 ρ (N ++ M) p = S ρ
theorem RetN.same {P : List (Nat × Nat × Nat) → Nat → Prop} {b0 B mp md base : Nat} {v : Value} {N : List (Nat × Nat × Nat)} {D : Nat} {w w' : World} {c : Nat} {S : (Nat → Bool) → Bool} {p : Nat} (h : Bld rk w b0 B mp md base v N D) (hb : Below w.heap.size w w') (hp : p < N.length + 2) (hP : P [] p) (hS : ∀ ρ, val3 ρ N p = S ρ) : RetN rk P b0 B mp md base v N D w c S (.returned (.int .i64 (p : Int))) w' :=
  ⟨p, v, [], rfl, by rw [List.append_nil]; exact (h.bel hb).mono (Nat.le_add_right _ _), (Kb.refl _ _ _ _ _ _).of_below hb (by obtain ⟨d1, d2, d3, d4, d5, d6, d7, d8, d9, d10⟩ := h.dist; omega), hP, by rw [List.append_nil]; exact hp, by rw [List.append_nil]; exact hS⟩
end Go.Proofs.YtlnedapimmabdaaGreatDoor

namespace Go.Proofs.YtlnedapimmabdaaGreatDoor
set_option linter.unusedVariables false
set_option linter.unusedSimpArgs false
open Go.RowKit Go.Maps
attribute [local go_sem low] Bel.cell Bel.frozen alloc_cell alloc_frozen
attribute [local go_sem] calmOp chainOp yieldsC grows
variable {rk : Nat → Nat}

theorem wpList_appD {P : Program} {ops : Array Oper} {rest : List Oper} {o : Oper} {a : Act} {Q : Exit → Act → World → Prop} (hgd : o.guard = none) (s x : Operand) (T E : TypeId)
    (ho : o.op = .call { callee := .builtin .append, args := #[s, x], argTypes := #[T, T] }) (i : TypeInfo) (ht : P.underlying T = some (.slice E)) (hi : P.info? E = some i)
    (hz : i.zero = some (.agg #[.int .i64 0, .int .i64 0, .int .i64 0])) (hsize : i.size = 3) (hby : i.bytes = 24) (W : World) (base : Nat) (v : Value) (N : List (Nat × Nat × Nat)) (n1 n2 n3 : Nat) (g0 : Nat)
    (hs : a.eval s = v) (hown : W.ownsRow base E 3 v N.length (cellsD N)) (hx : a.eval x = .slice (some ⟨g0, 0, none⟩) 1 1) (hsrc : W.heap[g0]? = some (.cells #[.int .i64 (n1 : Int), .int .i64 (n2 : Int), .int .i64 (n3 : Int)] E (0, 0))) (hn : N.length ≤ 100000000) (hbase : base ≤ W.heap.size)
    (h : ∀ g c w1, w1.ownsRow base E 3 (.slice (some ⟨g, 0, none⟩) (N.length + 1) c) (N ++ [(n1, n2, n3)]).length (cellsD (N ++ [(n1, n2, n3)])) → W.grownBy w1 v.ownBlock → (v.ownBlock = some g ∨ g = W.heap.size) → wpList P ops Q rest (a.put o.dst (.slice (some ⟨g, 0, none⟩) (N.length + 1) c)) w1) :
    wpList P ops Q (o :: rest) a W := by
  refine wpList_append_own_at _ hgd s x T ho base E i _ 3 24 ht hi hz hsize hby rfl (by decide) v N.length (cellsD N) hs hown ⟨g0, 0, none⟩ 1 1 [.int .i64 (n1 : Int), .int .i64 (n2 : Int), .int .i64 (n3 : Int)] hx rfl ?_ ?_ (by unfold maxLen; omega) (by omega) hbase ?_
  · intro j z hj
    match j, hj with
    | 0, hj => simp at hj; subst hj; simp [Addr.add, World.cell?, hsrc]
    | 1, hj => simp at hj; subst hj; simp [Addr.add, World.cell?, hsrc]
    | 2, hj => simp at hj; subst hj; simp [Addr.add, World.cell?, hsrc]
  · intro z hz
    simp at hz
    rcases hz with rfl | rfl | rfl <;> rfl
  · intro v' w1 hrow hg hnil h5
    obtain ⟨g, c, rfl⟩ : ∃ g c, v' = .slice (some ⟨g, 0, none⟩) (N.length + 1) c := by
      rcases hrow.2 with ⟨_, h0⟩ | ⟨g, cp, cur, hv, _⟩
      · omega
      · exact ⟨g, cp, hv⟩
    refine h g c w1 ?_ hg ?_
    · rw [List.length_append, cellsD_app]
      exact hrow
    · rcases h5 with h5 | h5
      · exact .inl h5.symm
      · exact .inr (by injection h5)
set_option maxRecDepth 100000 in
theorem side_any {w : World} {b0 B mp md base : Nat} {v : Value} {N : List (Nat × Nat × Nat)} {D : Nat} (h : Bld rk w b0 B mp md base v N D) (p x : Nat) (yes : Bool) (hp : p < N.length + 2) (hl : N.length ≤ 1000000) (hx : x < 4096) :
    Calls Tryz.prog 93 #[.pointer (some ⟨B, 0, none⟩), .int .i64 (p : Int), .int .i64 (x : Int), .bool yes] w (Ret (.int .i64 ((if var3 N p = x then (if yes then (node3 N p).2.2 else (node3 N p).2.1) else p : Nat) : Int)) w) := by
  have HV := Lib.hid (fun w' (h' : Bld rk w' b0 B mp md base v N D) => variable_any h' p hp hl)
  have HB := Lib.hid h
  by_cases hv : var3 N p = x
  · have h2 : 2 ≤ p := by
      rcases Nat.lt_or_ge p 2 with h2 | h2
      · unfold var3 at hv; rw [if_pos h2] at hv; omega
      · exact h2
    rw [if_pos hv]
    obtain ⟨b1, _⟩ := bld_cells h
    obtain ⟨g, c, rfl, c0, c1, c2⟩ := bld_node h hp h2
    obtain ⟨y, hy⟩ : ∃ y, node3 N p = y := ⟨_, rfl⟩
    rw [hy] at c1 c2 ⊢
    rw [hv] at HV
    obtain ⟨q, rfl⟩ : ∃ q, p = q + 2 := ⟨p - 2, by omega⟩
    rw [Nat.add_sub_cancel] at c1 c2
    have hq : (((q + 2 : Nat) : Int) - 2) = (q : Int) := by omega
    have hib : (0 ≤ (q : Int) ∧ (q : Int) < (N.length : Int)) := ⟨by omega, by omega⟩
    have f0 : ((x : Int) != (x : Int)) = false := by simp
    clear h c0 hy hv
    cases yes
    · rw [if_neg (by decide)]
      go_enter Tryz.func93, Tryz.ntmps93
      go_wp2_with fail
      refine (HV.out _ HB.out).mono ?_
      rintro _ _ ⟨rfl, y1, rfl⟩
      go_wp2
      go_ret
      exact Ret.mk (by rfl) (by (repeat' (first | (with_reducible first | apply Zl1 | apply Zl2 | apply Zl3 | apply Zl4 | apply Zl5 | apply Zl6 | apply Zl7 | apply Zl8 | apply Zl9 | apply Zla | apply Zlb | apply Zlc) | (dsimp only; with_reducible first | apply Zl8 | apply Zl2 | apply Zld) | with_reducible assumption | omega | (dsimp only; omega))))
    · rw [if_pos rfl]
      go_enter Tryz.func93, Tryz.ntmps93
      go_wp2_with fail
      refine (HV.out _ HB.out).mono ?_
      rintro _ _ ⟨rfl, y1, rfl⟩
      go_wp2
      go_ret
      exact Ret.mk (by rfl) (by (repeat' (first | (with_reducible first | apply Zl1 | apply Zl2 | apply Zl3 | apply Zl4 | apply Zl5 | apply Zl6 | apply Zl7 | apply Zl8 | apply Zl9 | apply Zla | apply Zlb | apply Zlc) | (dsimp only; with_reducible first | apply Zl8 | apply Zl2 | apply Zld) | with_reducible assumption | omega | (dsimp only; omega))))
  · rw [if_neg hv]
    obtain ⟨q, hq⟩ : ∃ q, var3 N p = q := ⟨_, rfl⟩
    rw [hq] at HV hv
    have f0 : ((q : Int) != (x : Int)) = true := by simp; omega
    clear h hq
    go_enter Tryz.func93, Tryz.ntmps93
    go_wp2_with fail
    refine (HV.out _ HB.out).mono ?_
    rintro _ _ ⟨rfl, y1, rfl⟩
    go_wp2
    go_ret
    exact Ret.mk (by rfl) (by (repeat' (first | (with_reducible first | apply Zl1 | apply Zl2 | apply Zl3 | apply Zl4 | apply Zl5 | apply Zl6 | apply Zl7 | apply Zl8 | apply Zl9 | apply Zla | apply Zlb | apply Zlc) | (dsimp only; with_reducible first | apply Zl8 | apply Zl2 | apply Zld) | with_reducible assumption | omega | (dsimp only; omega))))
end Go.Proofs.YtlnedapimmabdaaGreatDoor

namespace Go.Proofs.YtlnedapimmabdaaGreatDoor
set_option linter.unusedVariables false
set_option linter.unusedSimpArgs false
open Go.RowKit Go.Maps
attribute [local go_sem low] Bel.cell Bel.frozen alloc_cell alloc_frozen
attribute [local go_sem] calmOp chainOp yieldsC grows
variable {rk : Nat → Nat}

theorem cell_in {w w' : World} (hb : Below w.heap.size w w') {a : Addr} {v : Value} (h : w.cell? a = some v) : w'.cell? a = some v :=
  (World.cell?_of_block (hb.block a.block (World.block_lt_of_cell? w a h))).trans h
theorem frozen_in {w w' : World} (hb : Below w.heap.size w w') {a : Addr} {v : Value} (h : w.cell? a = some v) : w'.frozen? a = w.frozen? a :=
  World.frozen?_of_block (hb.block a.block (World.block_lt_of_cell? w a h))
theorem obj_neD {W : World} {b c i : Nat} {o : Obj} (x : Value) (hne : b ≠ c) (h : W.heap[b]? = some o) : (W.setCell ⟨c, i, none⟩ x).heap[b]? = some o := by
  rw [Below.heap_setCell _ _ _ _ (fun e => hne (by first | exact e | exact e.symm))]; exact h
theorem obj_setD {W : World} {b i : Nat} {vs : Array Value} {t : TypeId} (x : Value) (h : W.heap[b]? = some (.cells vs t (0, 0))) : (W.setCell ⟨b, i, none⟩ x).heap[b]? = some (.cells (vs.setIfInBounds i x) t (0, 0)) := by
  obtain ⟨hlt, hk⟩ := Array.getElem?_eq_some_iff.1 h
  show (W.heap.modify b _)[b]? = _
  rw [Array.getElem?_eq_getElem (by rw [Array.size_modify]; exact hlt), Array.getElem_modify_self, hk]
  rfl
theorem bld_set {w w1 w3 : World} {b0 B mp md base : Nat} {v : Value} {N : List (Nat × Nat × Nat)} {D : Nat} (h : Bld rk w b0 B mp md base v N D) {a n y : Nat} (ha : VarOk rk a) (hn : n < N.length + 2) (hy : y < N.length + 2) (hny : n ≠ y) (hvn : a < var3 N n) (hvy : a < var3 N y)
    (hnew : ∀ j : Nat, N[j]? ≠ some (a, n, y)) {g c : Nat} (hown : w1.ownsRow base 96 3 (.slice (some ⟨g, 0, none⟩) (N.length + 1) c) (N ++ [(a, n, y)]).length (cellsD (N ++ [(a, n, y)]))) (hg : w.grownBy w1 v.ownBlock) (hgv : v.ownBlock = some g ∨ w.heap.size ≤ g) 
    (hplc : ∃ k m', FunM Tryz.prog 96 3 w3 mp k m' ∧ k ≤ N.length + 1 ∧ ∃ k0 m, FunM Tryz.prog 96 3 w mp k0 m ∧ (∀ (i : Nat) (x : Nat × Nat × Nat), N[i]? = some x → m (nodeV x) = some ((i + 2 : Nat) : Int)) ∧ (∀ (x : Nat × Nat × Nat) (z : Int), m (nodeV x) = some z → ∃ i : Nat, N[i]? = some x ∧ z = ((i + 2 : Nat) : Int)) ∧ m' (nodeV (a, n, y)) = some ((N.length + 2 : Nat) : Int) ∧ ∀ j, j ≠ nodeV (a, n, y) → m' j = m j)
    (hg3 : (w1.setCell ⟨B, 0, none⟩ (.slice (some ⟨g, 0, none⟩) (N.length + 1) c)).grownBy w3 (some mp)) :
    Bld rk w3 b0 B mp md base (.slice (some ⟨g, 0, none⟩) (N.length + 1) c) (N ++ [(a, n, y)]) D ∧ Kb b0 B mp md v w (.slice (some ⟨g, 0, none⟩) (N.length + 1) c) w3 := by
  obtain ⟨d1, d2, d3, d4, d5, d6, d7, d8, d9, d10⟩ := h.dist
  have hvb : ∀ c, c < base → some c ≠ v.ownBlock := fun c hc e => by
    have := ownD_lt h.own e.symm
    omega
  have hs1 := hg.size
  have hs3 := hg3.size
  have hs2 : (w1.setCell ⟨B, 0, none⟩ (.slice (some ⟨g, 0, none⟩) (N.length + 1) c)).heap.size = w1.heap.size := by simp
  have hk1 : ∀ (c : Nat) (o : Obj), w.heap[c]? = some o → v.ownBlock ≠ some c → w1.heap[c]? = some o := fun c o ho hne => (hg.block c (Array.getElem?_eq_some_iff.1 ho).1 (fun e => hne e.symm)).trans ho
  have hk2 : ∀ (c' : Nat) (o : Obj), w1.heap[c']? = some o → c' ≠ B → c' ≠ mp → w3.heap[c']? = some o := fun c' o ho h1 h2 => by
    have hl := (Array.getElem?_eq_some_iff.1 ho).1
    rw [hg3.block c' (by omega) (fun e => h2 (by injection e))]
    exact obj_neD _ h1 ho
  have hown3 : w3.ownsRow base 96 3 (.slice (some ⟨g, 0, none⟩) (N.length + 1) c) (N ++ [(a, n, y)]).length (cellsD (N ++ [(a, n, y)])) := by
    have hbg : base ≤ g := (World.ownsRow.lt hown g rfl).1
    rcases hown with ⟨hxl, ⟨e1, e2⟩ | ⟨g', cap, cur, e1, hg', hh, hn', hc, hcs, hcur⟩⟩
    · simp at e2
    · have : g = g' := by injection e1 with e1 _ _; injection e1 with e1; injection e1
      subst this
      exact ⟨hxl, .inr ⟨g, cap, cur, e1, hg', hk2 _ _ hh (by omega) (by omega), hn', hc, hcs, hcur⟩⟩
  refine ⟨⟨?_, hown3, ?_, ?_, ?_, ?_, ⟨d1, d2, d3, d4, d5, d6, d7, d8, d9, by omega⟩⟩, ⟨?_, ?_, ?_⟩⟩
  · have hB : w1.heap[B]? = some (.cells #[v, .map (some mp), .map (some md), .bool false] 144 (0, 0)) := hk1 _ _ h.obj (fun e => hvb B d7 e.symm)
    have hl := (Array.getElem?_eq_some_iff.1 hB).1
    rw [hg3.block B (by omega) (fun e => d1 (by injection e))]
    exact obj_setD _ hB
  · obtain ⟨k, m', p1, p2, k0, m, q1, q2, q3, q4, q5⟩ := hplc
    refine ⟨k, m', p1, by rw [List.length_append]; exact p2, fun i x hx => ?_, fun x z hz => ?_⟩
    · rcases Nat.lt_or_ge i N.length with hi | hi
      · rw [List.getElem?_append_left hi] at hx
        rw [q5 _ (fun e => hnew i (by rw [hx, nodeV_inj e])), q2 i x hx]
      · have hl := (List.getElem?_eq_some_iff.1 hx).1
        rw [List.length_append, List.length_singleton] at hl
        have hie : i = N.length := by omega
        subst hie
        rw [List.getElem?_append_right (Nat.le_refl _), Nat.sub_self] at hx
        have e : (a, n, y) = x := by simpa using hx
        subst e
        exact q4
    · by_cases e : nodeV x = nodeV (a, n, y)
      · have := nodeV_inj e
        subst this
        rw [q4] at hz
        exact ⟨N.length, by simp, by injection hz with hz; exact hz.symm⟩
      · rw [q5 _ e] at hz
        obtain ⟨i, h1, h2⟩ := q3 x z hz
        exact ⟨i, by rw [List.getElem?_append_left (List.getElem?_eq_some_iff.1 h1).1]; exact h1, h2⟩
  · obtain ⟨k, m, p1, p2, p3⟩ := h.dn
    refine ⟨k, m, p1.heap fun o ho => hk2 _ _ (hk1 _ _ ho (fun e => hvb md d9 e.symm)) (Ne.symm d2) (Ne.symm d3), p2, fun x z hz => ?_⟩
    obtain ⟨q1, q2, q3, p, q4, q5, q6⟩ := p3 x z hz
    rw [List.length_append, List.length_singleton]
    refine ⟨by omega, by omega, by omega, p, q4, by omega, fun ρ => ?_⟩
    rw [val3_app _ _ q5, val3_app _ _ q1, val3_app _ _ q2, val3_app _ _ q3]
    exact q6 ρ
  · exact good_snoc h.good ⟨ha.1, hn, hy, hny, hvn, hvy, fun j _ => hnew j⟩
  · intro x hx
    rcases List.mem_append.1 hx with hx | hx
    · exact h.vars x hx
    · rw [List.mem_singleton.1 hx]; exact ha
  · have e1 : Below b0 w w1 := (Below.refl _ w).grown hg (by omega) (fun k hk => by have := ownD_lt h.own hk; omega)
    have e2 : Below b0 w (w1.setCell ⟨B, 0, none⟩ (.slice (some ⟨g, 0, none⟩) (N.length + 1) c)) := e1.setCell (p := ⟨B, 0, none⟩) (by simpa using d4) _
    exact e2.grown hg3 (by omega) (fun k hk => by injection hk with hk; omega)
  · intro c' o ho h1 h2 h3 h4
    exact hk2 _ _ (hk1 _ _ ho h4) h1 h2
  · intro g' hg'
    have : g = g' := by injection hg'
    subst this
    exact hgv
theorem Tryz.infoD : (Tryz.prog.info? 96).map (fun i => (i.zero, i.size, i.bytes)) = some (some (.agg #[.int .i64 0, .int .i64 0, .int .i64 0]), 3, 24) := by kernel_rfl
theorem wf_i64D {a : Int} (h : -9223372036854775808 ≤ a ∧ a < 9223372036854775808) : (Lit.int .i64 a).wf = true := by
  simp [Lit.wf, IntKind.min, IntKind.max, IntKind.bits, IntKind.signed]
  omega
theorem wf_nat {n : Nat} (h : n ≤ 4611686018427387904) : (Lit.int .i64 (n : Int)).wf = true := wf_i64D ⟨by omega, by omega⟩
set_option maxRecDepth 100000 in
set_option maxHeartbeats 6400000 in
theorem node_one {w : World} {b0 B mp md base : Nat} {v : Value} {N : List (Nat × Nat × Nat)} {D : Nat} (h : Bld rk w b0 B mp md base v N D) (a n y : Nat) (ha : VarOk rk a) (hn : n < N.length + 2) (hy : y < N.length + 2) (hvn : n ≠ y → a < var3 N n ∧ a < var3 N y) (hl : N.length < 1000000) :
    Calls Tryz.prog 94 #[.pointer (some ⟨B, 0, none⟩), .int .i64 (a : Int), .int .i64 (n : Int), .int .i64 (y : Int)] w (RetN rk (fun M p => M = [] ∨ ∃ x, M = [x] ∧ p = N.length + 2) b0 B mp md base v N D w 0 (fun ρ => if ρ a then val3 ρ N y else val3 ρ N n)) := by
  obtain ⟨i0, hi0, hz0, hz1, hz2⟩ := info_parts Tryz.infoD
  obtain ⟨b1, b2, b3, b4, b5⟩ := bld_cells h
  have HB := Lib.hid h
  have ha4 := ha.1
  by_cases hny : n = y
  · subst hny
    have f0 : ((n : Int) == (n : Int)) = true := by simp
    clear h hvn
    go_enter Tryz.func94, Tryz.ntmps94
    go_wp2_with fail
    refine bodyPost_ret (v := .int .i64 (n : Int)) (by simp [results, Tryz.results94, go_sem]) rfl (RetN.same HB.out (by (repeat' (first | (with_reducible first | apply Zl1 | apply Zl2 | apply Zl3 | apply Zl4 | apply Zl5 | apply Zl6 | apply Zl7 | apply Zl8 | apply Zl9 | apply Zla | apply Zlb | apply Zlc) | (dsimp only; with_reducible first | apply Zl8 | apply Zl2 | apply Zld) | with_reducible assumption | omega | (dsimp only; omega)))) hn (.inl rfl) fun ρ => by cases ρ a <;> rfl)
  · obtain ⟨hva, hvy⟩ := hvn hny
    have f0 : ((n : Int) == (y : Int)) = false := by simp; omega
    obtain ⟨kl, hkl⟩ := key_node (a : Int) (n : Int) (y : Int) (wf_nat (by omega)) (wf_nat (by omega)) (wf_nat (by omega))
    obtain ⟨k0, m, hm, hk0, hm1, hm2⟩ := h.plc
    obtain ⟨r0, hr0⟩ : ∃ r : Int, (m (.agg #[.int .i64 (a : Int), .int .i64 (n : Int), .int .i64 (y : Int)])).getD 0 = r := ⟨_, rfl⟩
    obtain ⟨ad, cap, rfl, -⟩ := ownD_val h.own
    have HM := Lib.hid hm
    have HK := Lib.hid hkl
    obtain ⟨d1, d2, d3, d4, d5, d6, d7, d8, d9, d10⟩ := h.dist
    cases hmk : m (.agg #[.int .i64 (a : Int), .int .i64 (n : Int), .int .i64 (y : Int)]) with
    | some z =>
      obtain ⟨q, hq, rfl⟩ := hm2 (a, n, y) z hmk
      have hrun : ∀ x : Bel (w.alloc (.cells #[.int .i64 (a : Int), .int .i64 (n : Int), .int .i64 (y : Int)] 96 (0, 0))), (Instr.lookup 141 (.map (some mp)) (.agg #[.int .i64 (a : Int), .int .i64 (n : Int), .int .i64 (y : Int)]) true).run Tryz.prog x.w = .ok (.tuple #[.int .i64 ((q + 2 : Nat) : Int), .bool true]) x.w := fun x => by
        have := funM_run_ok (t := 141) (w := x.w) keyedN Tryz.underlying141 Tryz.underlying3 (by rfl) (HM.out.heap fun o ho => obj_in (show Below w.heap.size w x.w by (repeat' (first | (with_reducible first | apply Zl1 | apply Zl2 | apply Zl3 | apply Zl4 | apply Zl5 | apply Zl6 | apply Zl7 | apply Zl8 | apply Zl9 | apply Zla | apply Zlb | apply Zlc) | (dsimp only; with_reducible first | apply Zl8 | apply Zl2 | apply Zld) | with_reducible assumption | omega | (dsimp only; omega)))) ho) hkl
        rw [hmk] at this
        exact this
      have HQ := Lib.hid hq
      clear h hvn hm hmk hm1 hm2 hkl hq
      go_enter Tryz.func94, Tryz.ntmps94
      go_wp2_with fail
      refine wp_region_bel (by kernel_rfl) (by kernel_rfl) ?_
      repeat (go_big_quiet_step (fail))
      refine wpQuiet_nil ?_
      rintro _ ⟨z, rfl⟩
      go_wp2
      have hql := (List.getElem?_eq_some_iff.1 HQ.out).1
      refine bodyPost_ret (v := .int .i64 ((q + 2 : Nat) : Int)) (by simp [results, Tryz.results94, go_sem]) rfl (RetN.same HB.out (by (repeat' (first | (with_reducible first | apply Zl1 | apply Zl2 | apply Zl3 | apply Zl4 | apply Zl5 | apply Zl6 | apply Zl7 | apply Zl8 | apply Zl9 | apply Zla | apply Zlb | apply Zlc) | (dsimp only; with_reducible first | apply Zl8 | apply Zl2 | apply Zld) | with_reducible assumption | omega | (dsimp only; omega)))) (by omega) (.inl rfl) fun ρ => ?_)
      exact val3_node HB.out.good ρ HQ.out
    | none =>
      have hrun : ∀ x : Bel (w.alloc (.cells #[.int .i64 (a : Int), .int .i64 (n : Int), .int .i64 (y : Int)] 96 (0, 0))), (Instr.lookup 141 (.map (some mp)) (.agg #[.int .i64 (a : Int), .int .i64 (n : Int), .int .i64 (y : Int)]) true).run Tryz.prog x.w = .ok (.tuple #[.int .i64 0, .bool false]) x.w := fun x => by
        have := funM_run_ok (t := 141) (w := x.w) keyedN Tryz.underlying141 Tryz.underlying3 (by rfl) (HM.out.heap fun o ho => obj_in (show Below w.heap.size w x.w by (repeat' (first | (with_reducible first | apply Zl1 | apply Zl2 | apply Zl3 | apply Zl4 | apply Zl5 | apply Zl6 | apply Zl7 | apply Zl8 | apply Zl9 | apply Zla | apply Zlb | apply Zlc) | (dsimp only; with_reducible first | apply Zl8 | apply Zl2 | apply Zld) | with_reducible assumption | omega | (dsimp only; omega)))) ho) hkl
        rw [hmk] at this
        exact this
      have HNEW := Lib.hid (show ∀ j : Nat, N[j]? ≠ some (a, n, y) from fun j hj => by
        have := hm1 j _ hj
        unfold nodeV at this
        rw [hmk] at this
        cases this)
      have HM1 := Lib.hid (And.intro hm1 hm2)
      have f1 : decide ((1000000 : Int) ≤ (N.length : Int)) = false := decide_eq_false (by omega)
      clear h hvn hm hmk hm1 hm2
      go_enter Tryz.func94, Tryz.ntmps94
      go_wp2_with fail
      refine wp_region_bel (by kernel_rfl) (by kernel_rfl) ?_
      repeat (go_big_quiet_step (fail))
      refine wpQuiet_nil ?_
      rintro _ ⟨z, rfl⟩
      have hwz : Below w.heap.size w z.w := by (repeat' (first | (with_reducible first | apply Zl1 | apply Zl2 | apply Zl3 | apply Zl4 | apply Zl5 | apply Zl6 | apply Zl7 | apply Zl8 | apply Zl9 | apply Zla | apply Zlb | apply Zlc) | (dsimp only; with_reducible first | apply Zl8 | apply Zl2 | apply Zld) | with_reducible assumption | omega | (dsimp only; omega)))
      have hbz := HB.out.bel hwz
      have HO := Lib.hid hbz.own
      have HMZ := Lib.hid (HM.out.heap fun o ho => obj_in hwz ho)
      have hzs : w.heap.size < z.w.heap.size := by
        have h3 := z.size_le
        simp at h3
        omega
      have hx0 := obj_in (show Below _ _ z.w from z.below) (World.alloc_heap_new w (.cells #[.int .i64 (a : Int), .int .i64 (n : Int), .int .i64 (y : Int)] 96 (0, 0)))
      obtain ⟨x0, hx0e⟩ : ∃ x0, w.heap.size = x0 := ⟨_, rfl⟩
      obtain ⟨Z, hZ⟩ : ∃ Z, z.w = Z := ⟨_, rfl⟩
      have HBZ := Lib.hid hbz
      have HWZ := Lib.hid hwz
      have hB0 := hbz.obj
      obtain ⟨c1, c2, c3, c4, c5⟩ := bld_cells hbz
      obtain ⟨e1, e2, e3⟩ : z.w.cell? ⟨w.heap.size, 0, none⟩ = some (.int .i64 (a : Int)) ∧ z.w.cell? ⟨w.heap.size, 1, none⟩ = some (.int .i64 (n : Int)) ∧ z.w.cell? ⟨w.heap.size, 2, none⟩ = some (.int .i64 (y : Int)) := by
        refine ⟨?_, ?_, ?_⟩ <;> simp [World.cell?, hx0]
      rw [hZ] at HO HMZ HBZ HWZ hB0 hzs hx0 c1 c2 c3 c4 c5 e1 e2 e3 ⊢
      rw [hx0e] at hx0 e1 e2 e3 hzs ⊢
      have HX0 := Lib.hid hx0
      have HXE := Lib.hid hx0e
      clear b1 b2 b3 b4 b5 hrun hbz hwz hZ z hx0 hx0e
      go_wp2_with fail
      have SK := Lib.hid (show ∀ V : World, Below Z.heap.size Z V → (V.cell? ⟨B, 0, none⟩ = some (.slice ad N.length cap) ∧ V.frozen? ⟨B, 0, none⟩ = false) ∧ V.cell? ⟨x0, 0, none⟩ = some (.int .i64 (a : Int)) ∧ V.cell? ⟨x0, 1, none⟩ = some (.int .i64 (n : Int)) ∧ V.cell? ⟨x0, 2, none⟩ = some (.int .i64 (y : Int)) from fun V h => ⟨⟨cell_in h c1, (frozen_in h c1).trans c5⟩, cell_in h e1, cell_in h e2, cell_in h e3⟩)
      have hBv : some B ≠ (Value.slice ad N.length cap).ownBlock := fun e => by
        have := ownD_lt HO.out e.symm
        omega
      have hXv : some x0 ≠ (Value.slice ad N.length cap).ownBlock := fun e => by
        have h1 := ownD_lt HB.out.own e.symm
        have h2 := HXE.out
        omega
      have SG := Lib.hid (show ∀ V V1 : World, Below Z.heap.size Z V → V.grownBy V1 (Value.slice ad N.length cap).ownBlock → (V1.cell? ⟨B, 0, none⟩ = some (.slice ad N.length cap) ∧ V1.frozen? ⟨B, 0, none⟩ = false) ∧ V1.cell? ⟨x0, 0, none⟩ = some (.int .i64 (a : Int)) ∧ V1.cell? ⟨x0, 1, none⟩ = some (.int .i64 (n : Int)) ∧ V1.cell? ⟨x0, 2, none⟩ = some (.int .i64 (y : Int)) from fun V V1 h hg => by
        obtain ⟨⟨s1, s5⟩, s2, s3, s4⟩ := SK.out V h
        exact ⟨⟨hg.cell s1 hBv, (hg.frozen_far _ (World.block_lt_of_cell? V _ s1) hBv).trans s5⟩, hg.cell s2 hXv, hg.cell s3 hXv, hg.cell s4 hXv⟩)
      have SX := Lib.hid (show ∀ (V : World) (u : Value), (V.cell? ⟨x0, 0, none⟩ = some (.int .i64 (a : Int)) ∧ V.cell? ⟨x0, 1, none⟩ = some (.int .i64 (n : Int)) ∧ V.cell? ⟨x0, 2, none⟩ = some (.int .i64 (y : Int))) → ((V.setCell ⟨B, 0, none⟩ u).cell? ⟨x0, 0, none⟩ = some (.int .i64 (a : Int)) ∧ (V.setCell ⟨B, 0, none⟩ u).cell? ⟨x0, 1, none⟩ = some (.int .i64 (n : Int)) ∧ (V.setCell ⟨B, 0, none⟩ u).cell? ⟨x0, 2, none⟩ = some (.int .i64 (y : Int))) from fun V u h => by
        have hne : x0 ≠ B := by have := HXE.out; omega
        have hc : ∀ (k : Nat) (x : Value), V.cell? ⟨x0, k, none⟩ = some x → (V.setCell ⟨B, 0, none⟩ u).cell? ⟨x0, k, none⟩ = some x := fun k x hx => by
          rw [World.cell?_of_block (Below.heap_setCell _ _ _ _ (fun e => hne e))]; exact hx
        exact ⟨hc _ _ h.1, hc _ _ h.2.1, hc _ _ h.2.2⟩)
      have HB0 := Lib.hid hB0
      have hzb : base ≤ Z.heap.size := Nat.le_trans d10 HWZ.out.size
      clear hB0 hBv hXv
      go_region_law ((refine step_append_lies _ (by rfl) _ _ _ (by rfl) base 96 i0 _ 3 24 Tryz.underlying61 hi0 hz0 hz1 hz2 (by decide) (by decide) _ N.length (cellsD N) (by rfl) (World.ownsRow.alloc (HO.out) _) ⟨Z.heap.size, 0, none⟩ 1 1 [.int .i64 (a : Int), .int .i64 (n : Int), .int .i64 (y : Int)] (by rfl) rfl (World.news_of_block (World.alloc_heap_new _ _)) (by simp [Value.oneCell']) (by decide) (by unfold maxLen; omega) (by omega) (by simp; omega) _ rfl ?_; intro g1 cap1 w1 hown1 hgrow1 hgv1 hgl1; have SG1 := Lib.hid (SG.out _ w1 (by (repeat' (first | (with_reducible first | apply Zl1 | apply Zl2 | apply Zl3 | apply Zl4 | apply Zl5 | apply Zl6 | apply Zl7 | apply Zl8 | apply Zl9 | apply Zla | apply Zlb | apply Zlc) | (dsimp only; with_reducible first | apply Zl8 | apply Zl2 | apply Zld) | with_reducible assumption | omega | (dsimp only; omega)))) hgrow1); obtain ⟨⟨s1, s5⟩, -⟩ := SG1.out))
      all_goals
        have hgz : ∃ Y0 : Bel Z, Y0.w.grownBy w1 (Value.slice ad N.length cap).ownBlock ∧ ((Value.slice ad N.length cap).ownBlock = some g1 ∨ g1 = Y0.w.heap.size) ∧ Y0.w.heap.size = Z.heap.size + 1 := ⟨⟨_, by first | exact (Below.refl _ _).alloc (Nat.le_refl _) _ | exact ((Below.refl _ _).alloc (Nat.le_refl _) _).drew⟩, hgrow1, by first | exact hgv1 | (rcases hgv1 with h | h; exact .inl h; exact .inr (by rw [h]; simp)), by simp⟩
        obtain ⟨Y0, hg0, hgv0, hsz0⟩ := hgz
        have hbY := HBZ.out.bel Y0.below
        have hmY := HMZ.out.heap fun o ho => obj_in Y0.below ho
        obtain ⟨MPo, hMPo⟩ := hmY.obj
        have hsv : Y0.w.heap.size ≤ w1.heap.size := hg0.size
        obtain ⟨d1, d2, d3, d4, d5, d6, d7, d8, d9, d10⟩ := hbY.dist
        have hvb : ∀ c, c < base → some c ≠ (Value.slice ad N.length cap).ownBlock := fun c hc e => by
          have := ownD_lt hbY.own e.symm
          omega
        have hB1 : w1.heap[B]? = some (.cells #[.slice ad N.length cap, .map (some mp), .map (some md), .bool false] 144 (0, 0)) := (hg0.block B (by omega) (hvb B d7)).trans hbY.obj
        have hB2 := obj_setD (i := 0) (.slice (some ⟨g1, 0, none⟩) (N.length + 1) cap1) hB1
        have hm2 : FunM Tryz.prog 96 3 (w1.setCell ⟨B, 0, none⟩ (.slice (some ⟨g1, 0, none⟩) (N.length + 1) cap1)) mp k0 m := (hmY.heap fun o ho => (hg0.block mp (Array.getElem?_eq_some_iff.1 ho).1 (hvb mp d8)).trans ho).heap fun o ho => obj_neD _ (fun e => d1 e.symm) ho
        obtain ⟨s2, s3, s4⟩ := SX.out w1 (.slice (some ⟨g1, 0, none⟩) (N.length + 1) cap1) SG1.out.2
        obtain ⟨Y, hY⟩ : ∃ Y, w1.setCell ⟨B, 0, none⟩ (.slice (some ⟨g1, 0, none⟩) (N.length + 1) cap1) = Y := ⟨_, rfl⟩
        have HY := Lib.hid hY
        rw [hY] at hB2 hm2 s2 s3 s4 ⊢
        obtain ⟨t0, t1, t2⟩ : Y.cell? ⟨B, 0, none⟩ = some (.slice (some ⟨g1, 0, none⟩) (N.length + 1) cap1) ∧ Y.cell? ⟨B, 1, none⟩ = some (.map (some mp)) ∧ Y.frozen? ⟨B, 0, none⟩ = false := by
          refine ⟨?_, ?_, ?_⟩ <;> simp [World.cell?, World.frozen?, hB2]
        have HM2 := Lib.hid hm2
        have HB2 := Lib.hid hB2
        have HG0 := Lib.hid hg0
        have HBY := Lib.hid hbY
        have HGV := Lib.hid hgv0
        have HOW := Lib.hid hown1
        clear hg0 hbY hgv0 hown1 hm2 hY hB2 hB1 hvb hmY hMPo c1 c2 c3 c4 c5 e1 e2 e3 s1 s5 hgv1 hgrow1 hgl1
        have hwrap : IntKind.i64.wrap ((N.length : Int) + 1 + 1) = (N.length : Int) + 1 + 1 := IntWalk.i64_in _ (by omega)
        go_wp2_with fail
        refine wp_region_plan 11 (.calm 0 (.calm 1 (.calm 2 (.calm 3 (.calm 4 (.calm 5 (.calm 6 (.calm 7 (.calm 8 (.calm 9 (.calm 10 .tail))))))))))) (by kernel_rfl) (by kernel_rfl) ?_
        simp only [Plan.walk, operAt, List.getElem?_cons_succ, List.getElem?_cons_zero, Option.getD_some, List.drop_succ_cons, List.drop_zero]
        repeat (refine wpX_calm (fun K hK => ?_); go_simp; first | (refine hK _ _ ?_; clear hK K) | (apply Exists.intro; refine ⟨fun _ => ?_, hK _ _ ?_⟩; (fail); clear hK K))
        refine wpX_tail ?_
        intro z9
        have HM9 := Lib.hid (HM2.out.heap fun o ho => obj_in z9.below ho)
        have HB9 := Lib.hid (obj_in z9.below HB2.out)
        have hz9 := z9.size_le
        have hmn := HM2.out.lt
        go_wp2_with (at_mapUpdate; (refine wpList_update_funM _ rfl _ _ _ _ rfl 96 3 keyedN Tryz.underlying141 Tryz.underlying3 mp k0 m rfl HM9.out (by unfold maxLen; omega) (.agg #[.int .i64 (a : Int), .int .i64 (n : Int), .int .i64 (y : Int)]) kl rfl hkl ((N.length : Int) + 1 + 1) rfl (wf_i64D ⟨by omega, by omega⟩) ?_; intro w3 m3 hm3 hz3 ho3 hg3; have HM3 := Lib.hid hm3; have HH3 := Lib.hid (And.intro hz3 ho3); have HG3 := Lib.hid hg3; have hs3 := hg3.size; have HB3 := Lib.hid ((hg3.block B (Array.getElem?_eq_some_iff.1 HB9.out).1 (fun e => d1 (by injection e))).trans HB9.out); clear hm3 hz3 ho3 hg3; obtain ⟨u0, u1⟩ : w3.cell? ⟨B, 0, none⟩ = some (.slice (some ⟨g1, 0, none⟩) (N.length + 1) cap1) ∧ w3.cell? ⟨B, 1, none⟩ = some (.map (some mp)) := by (refine ⟨?_, ?_⟩ <;> simp [World.cell?, HB3.out])))
        go_wp2
        have hrt : Value.int .i64 ((N.length : Int) + 1 + 1) = .int .i64 ((N.length + 2 : Nat) : Int) := by congr 1
        have hgY : Y.grownBy w3 (some mp) := ((bel_grown z9).but _).trans HG3.out
        rw [← HY.out] at hgY
        have hdd := Y0.below.size
        obtain ⟨hBld, hKb⟩ := bld_set HBY.out ha hn hy hny hva hvy HNEW.out (by rw [List.length_append, cellsD_app]; exact HOW.out) HG0.out (HGV.out.imp_right fun e => by omega) ⟨k0 + 1, m3, HM3.out, by omega, k0, m, HM.out.heap (fun o ho => obj_in Y0.below (obj_in HWZ.out ho)), HM1.out.1, HM1.out.2, by rw [show nodeV (a, n, y) = .agg #[.int .i64 (a : Int), .int .i64 (n : Int), .int .i64 (y : Int)] from rfl, HH3.out.1]; congr 1, HH3.out.2⟩ hgY
        refine bodyPost_ret (v := .int .i64 ((N.length : Int) + 1 + 1)) (by simp [results, Tryz.results94, go_sem]) rfl ⟨N.length + 2, _, [(a, n, y)], by rw [hrt], hBld, Kb.ahead (HWZ.out.trans (Y0.below.mono HWZ.out.size)) hKb (Nat.le_trans d4 (by omega)), .inr ⟨_, rfl, rfl⟩, by rw [List.length_append]; exact Nat.lt_succ_self _, fun ρ => val3_new ρ N (a, n, y)⟩
theorem node_any {w : World} {b0 B mp md base : Nat} {v : Value} {N : List (Nat × Nat × Nat)} {D : Nat} (h : Bld rk w b0 B mp md base v N D) (a n y : Nat) (ha : VarOk rk a) (hn : n < N.length + 2) (hy : y < N.length + 2) (hvn : n ≠ y → a < var3 N n ∧ a < var3 N y) (hl : N.length < 1000000) :
    Calls Tryz.prog 94 #[.pointer (some ⟨B, 0, none⟩), .int .i64 (a : Int), .int .i64 (n : Int), .int .i64 (y : Int)] w (RetB rk b0 B mp md base v N D w 1 0 (fun ρ => if ρ a then val3 ρ N y else val3 ρ N n)) :=
  (node_one h a n y ha hn hy hvn hl).mono fun _ _ ⟨p, v', M, h1, h2, h3, h4, h5, h6⟩ => ⟨p, v', M, h1, h2, h3, by rcases h4 with rfl | ⟨x, rfl, _⟩ <;> simp, h5, h6⟩
end Go.Proofs.YtlnedapimmabdaaGreatDoor
