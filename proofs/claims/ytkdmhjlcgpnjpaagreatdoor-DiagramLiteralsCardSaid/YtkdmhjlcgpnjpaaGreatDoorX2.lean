/- Nodes in memory; the builder's state. -/
import Derived.Test.YtkdmhjlcgpnjpaaGreatDoorX1
import Derived.Test.YtkdmhjlcgpnjpaaGreatDoorXp
import Derived.Maps.AppendAt
import Derived.Laws.OwnMore
namespace Go.Proofs.YtkdmhjlcgpnjpaaGreatDoor
set_option linter.unusedVariables false
set_option linter.unusedSimpArgs false
open Go.RowKit Go.Maps
attribute [local go_sem low] Bel.cell Bel.frozen alloc_cell alloc_frozen

/-- The cells of nodes. -/
def cellsD : List (Nat × Nat × Nat) → List Value
  | [] => []
  | x :: r => .int .i64 (x.1 : Int) :: .int .i64 (x.2.1 : Int) :: .int .i64 (x.2.2 : Int) :: cellsD r
theorem cellsD_len : ∀ l, (cellsD l).length = l.length * 3
  | [] => rfl
  | x :: r => by rw [cellsD, List.length_cons, List.length_cons, List.length_cons, cellsD_len r, List.length_cons]; omega
theorem cellsD_app : ∀ l r, cellsD (l ++ r) = cellsD l ++ cellsD r
  | [], r => rfl
  | x :: l, r => by rw [List.cons_append, cellsD, cellsD, cellsD_app l r]; rfl
theorem cellsD_at : ∀ (l : List (Nat × Nat × Nat)) (j : Nat) (x : Nat × Nat × Nat), l[j]? = some x → (cellsD l)[j * 3]? = some (.int .i64 (x.1 : Int)) ∧ (cellsD l)[j * 3 + 1]? = some (.int .i64 (x.2.1 : Int)) ∧ (cellsD l)[j * 3 + 2]? = some (.int .i64 (x.2.2 : Int))
  | [], j, x, h => by simp at h
  | y :: r, 0, x, h => by
    simp at h
    subst h
    exact ⟨rfl, rfl, rfl⟩
  | y :: r, j + 1, x, h => by
    have := cellsD_at r j x (by simpa using h)
    rw [cellsD, show (j + 1) * 3 = j * 3 + 1 + 1 + 1 by omega, show j * 3 + 1 + 1 + 1 + 1 = j * 3 + 1 + 1 + 1 + 1 by rfl]
    simpa [List.getElem?_cons_succ] using this
/-- A slice of the call's own that shows nodes. -/
def OwnD (w : World) (base : Nat) (e : TypeId) (v : Value) (N : List (Nat × Nat × Nat)) : Prop := w.ownsRow base e 3 v N.length (cellsD N)
theorem ownD_nil (w : World) (base : Nat) (e : TypeId) : OwnD w base e (.slice none 0 0) [] := World.ownsRow_nil _ _ _ _
theorem ownD_val {w : World} {base : Nat} {e : TypeId} {v : Value} {N : List (Nat × Nat × Nat)} (h : OwnD w base e v N) : ∃ a c, v = .slice a N.length c ∧ (0 < N.length → ∃ g, a = some ⟨g, 0, none⟩ ∧ base ≤ g ∧ g < w.heap.size ∧ v.ownBlock = some g ∧ ∀ (i : Nat) (x : Value), (cellsD N)[i]? = some x → w.cell? ⟨g, i, none⟩ = some x) := by
  rcases h with ⟨hxl, ⟨rfl, h0⟩ | ⟨g, cap, cur, rfl, hg, hh, hn, hc, hcs, hcur⟩⟩
  · exact ⟨none, 0, by rw [h0], fun h => by omega⟩
  · refine ⟨_, _, rfl, fun _ => ⟨g, rfl, hg, (Array.getElem?_eq_some_iff.1 hh).1, rfl, fun i x hx => ?_⟩⟩
    have hi : i < N.length * 3 := by
      have := (List.getElem?_eq_some_iff.1 hx).1
      rw [cellsD_len] at this
      exact this
    rw [← hcur, List.getElem?_take_of_lt hi] at hx
    simp [World.cell?, hh]
    simpa using hx
theorem ownD_lt {w : World} {base : Nat} {e : TypeId} {v : Value} {N : List (Nat × Nat × Nat)} (h : OwnD w base e v N) {b : Nat} (hb : v.ownBlock = some b) : base ≤ b ∧ b < w.heap.size := World.ownsRow.lt h b hb
/-- The value of a node as a key. -/
def nodeV (x : Nat × Nat × Nat) : Value := .agg #[.int .i64 (x.1 : Int), .int .i64 (x.2.1 : Int), .int .i64 (x.2.2 : Int)]
theorem nodeV_inj {x y : Nat × Nat × Nat} (h : nodeV x = nodeV y) : x = y := by
  unfold nodeV at h
  simp at h
  exact Prod.ext (by omega) (Prod.ext (by omega) (by omega))
/-- The first blocks of a builder are kept, and nothing but its own four blocks turns. -/
structure Kb (b0 B mp md : Nat) (v : Value) (w : World) (v' : Value) (w' : World) : Prop where
  below : Below b0 w w'
  keep : ∀ (c : Nat) (o : Obj), w.heap[c]? = some o → c ≠ B → c ≠ mp → c ≠ md → v.ownBlock ≠ some c → w'.heap[c]? = some o
  own : ∀ g, v'.ownBlock = some g → v.ownBlock = some g ∨ w.heap.size ≤ g
theorem Kb.refl (b0 B mp md : Nat) (v : Value) (w : World) : Kb b0 B mp md v w v w := ⟨Below.refl _ _, fun _ _ h _ _ _ _ => h, fun _ h => .inl h⟩
theorem Kb.trans {b0 B mp md : Nat} {v v' v'' : Value} {w w' w'' : World} (h : Kb b0 B mp md v w v' w') (k : Kb b0 B mp md v' w' v'' w'') : Kb b0 B mp md v w v'' w'' := by
  refine ⟨h.below.trans k.below, fun c o ho h1 h2 h3 h4 => k.keep c o (h.keep c o ho h1 h2 h3 h4) h1 h2 h3 fun e => ?_, fun g hg => ?_⟩
  · rcases h.own c e with e1 | e1
    · exact h4 e1
    · have := (Array.getElem?_eq_some_iff.1 ho).1
      omega
  · rcases k.own g hg with e1 | e1
    · exact h.own g e1
    · exact .inr (Nat.le_trans h.below.size e1)
theorem Kb.of_below {b0 B mp md : Nat} {v v' : Value} {w w' w'' : World} (h : Kb b0 B mp md v w v' w') (k : Below w'.heap.size w' w'') (hb : b0 ≤ w.heap.size) : Kb b0 B mp md v w v' w'' :=
  ⟨h.below.trans (k.mono (Nat.le_trans hb h.below.size)), fun c o ho h1 h2 h3 h4 => (k.block c (Array.getElem?_eq_some_iff.1 (h.keep c o ho h1 h2 h3 h4)).1).trans (h.keep c o ho h1 h2 h3 h4), h.own⟩
theorem Kb.ahead {b0 B mp md : Nat} {v v' : Value} {w w' w'' : World} (k : Below w.heap.size w w') (h : Kb b0 B mp md v w' v' w'') (hb : b0 ≤ w.heap.size) : Kb b0 B mp md v w v' w'' :=
  ⟨(k.mono hb).trans h.below, fun c o ho h1 h2 h3 h4 => h.keep c o ((k.block c (Array.getElem?_eq_some_iff.1 ho).1).trans ho) h1 h2 h3 h4, fun g hg => (h.own g hg).imp_right (Nat.le_trans k.size)⟩
/-- A variable, by a rank that falls behind it. -/
def VarOk (rk : Nat → Nat) (a : Nat) : Prop := a < 4096 ∧ ∀ y, a < y → rk y < rk a
/-- A builder: its nodes, and its two maps; at most D triples were combined. -/
structure Bld (rk : Nat → Nat) (w : World) (b0 B mp md base : Nat) (v : Value) (N : List (Nat × Nat × Nat)) (D : Nat) : Prop where
  obj : w.heap[B]? = some (.cells #[v, .map (some mp), .map (some md), .bool false] 141 (0, 0))
  own : OwnD w base 55 v N
  plc : ∃ n m, FunM Tryz.prog 55 3 w mp n m ∧ n ≤ N.length ∧ (∀ (i : Nat) (x : Nat × Nat × Nat), N[i]? = some x → m (nodeV x) = some ((i + 2 : Nat) : Int)) ∧ ∀ (x : Nat × Nat × Nat) (z : Int), m (nodeV x) = some z → ∃ i : Nat, N[i]? = some x ∧ z = ((i + 2 : Nat) : Int)
  dn : ∃ n m, FunM Tryz.prog 149 3 w md n m ∧ n ≤ D ∧ ∀ (x : Nat × Nat × Nat) (z : Int), m (nodeV x) = some z → x.1 < N.length + 2 ∧ x.2.1 < N.length + 2 ∧ x.2.2 < N.length + 2 ∧ ∃ p : Nat, z = (p : Int) ∧ p < N.length + 2 ∧ ∀ ρ, val3 ρ N p = if val3 ρ N x.1 then val3 ρ N x.2.1 else val3 ρ N x.2.2
  good : Good N
  vars : ∀ x ∈ N, VarOk rk x.1
  dist : B ≠ mp ∧ B ≠ md ∧ mp ≠ md ∧ b0 ≤ B ∧ b0 ≤ mp ∧ b0 ≤ md ∧ B < base ∧ mp < base ∧ md < base ∧ base ≤ w.heap.size
variable {rk : Nat → Nat}
theorem bld_cells {w : World} {b0 B mp md base : Nat} {v : Value} {N : List (Nat × Nat × Nat)} {D : Nat} (h : Bld rk w b0 B mp md base v N D) :
    w.cell? ⟨B, 0, none⟩ = some v ∧ w.cell? ⟨B, 1, none⟩ = some (.map (some mp)) ∧ w.cell? ⟨B, 2, none⟩ = some (.map (some md)) ∧ w.cell? ⟨B, 3, none⟩ = some (.bool false) ∧ w.frozen? ⟨B, 0, none⟩ = false := by
  have ho := h.obj
  refine ⟨?_, ?_, ?_, ?_, ?_⟩ <;> simp [World.cell?, World.frozen?, ho]
theorem obj_in {w w' : World} {c : Nat} {o : Obj} (hb : Below w.heap.size w w') (ho : w.heap[c]? = some o) : w'.heap[c]? = some o :=
  (hb.block c (Array.getElem?_eq_some_iff.1 ho).1).trans ho
/-- A builder lies in a world that has grown. -/
theorem Bld.bel {w w' : World} {b0 B mp md base : Nat} {v : Value} {N : List (Nat × Nat × Nat)} {D : Nat} (h : Bld rk w b0 B mp md base v N D) (hb : Below w.heap.size w w') : Bld rk w' b0 B mp md base v N D := by
  have hob : ∀ (c : Nat) (o : Obj), w.heap[c]? = some o → w'.heap[c]? = some o := fun c o ho => obj_in hb ho
  obtain ⟨d1, d2, d3, d4, d5, d6, d7, d8, d9, d10⟩ := h.dist
  obtain ⟨n1, m1, p1, p2, p3, p4⟩ := h.plc
  obtain ⟨n2, m2, q1, q2, q3⟩ := h.dn
  refine ⟨hob _ _ h.obj, ?_, ⟨n1, m1, p1.heap (hob _), p2, p3, p4⟩, ⟨n2, m2, q1.heap (hob _), q2, q3⟩, h.good, h.vars, ⟨d1, d2, d3, d4, d5, d6, d7, d8, d9, Nat.le_trans d10 hb.size⟩⟩
  rcases h.own with ⟨hxl, ⟨e1, e2⟩ | ⟨g, cap, cur, e1, hg, hh, hn, hc, hcs, hcur⟩⟩
  · exact ⟨hxl, .inl ⟨e1, e2⟩⟩
  · exact ⟨hxl, .inr ⟨g, cap, cur, e1, hg, hob _ _ hh, hn, hc, hcs, hcur⟩⟩
theorem bld_node {w : World} {b0 B mp md base : Nat} {v : Value} {N : List (Nat × Nat × Nat)} {D : Nat} (h : Bld rk w b0 B mp md base v N D) {p : Nat} (hp : p < N.length + 2) (h2 : 2 ≤ p) :
    ∃ g c, v = .slice (some ⟨g, 0, none⟩) N.length c ∧ w.cell? ⟨g, (p - 2) * 3, none⟩ = some (.int .i64 ((node3 N p).1 : Int)) ∧ w.cell? ⟨g, (p - 2) * 3 + 1, none⟩ = some (.int .i64 ((node3 N p).2.1 : Int)) ∧ w.cell? ⟨g, (p - 2) * 3 + 2, none⟩ = some (.int .i64 ((node3 N p).2.2 : Int)) := by
  obtain ⟨a, c, rfl, hc⟩ := ownD_val h.own
  obtain ⟨g, rfl, _, _, _, hcell⟩ := hc (by omega)
  obtain ⟨k0, k1, k2⟩ := cellsD_at N (p - 2) _ (node3_some hp h2)
  exact ⟨g, c, rfl, hcell _ _ k0, hcell _ _ k1, hcell _ _ k2⟩
set_option maxRecDepth 100000 in
theorem variable_any {w : World} {b0 B mp md base : Nat} {v : Value} {N : List (Nat × Nat × Nat)} {D : Nat} (h : Bld rk w b0 B mp md base v N D) (p : Nat) (hp : p < N.length + 2) (hl : N.length ≤ 1000000) :
    Calls Tryz.prog 97 #[.pointer (some ⟨B, 0, none⟩), .int .i64 (p : Int)] w (Ret (.int .i64 (var3 N p : Nat)) w) := by
  rcases Nat.lt_or_ge p 2 with h2 | h2
  · have f0 : decide ((p : Int) < 2) = true := decide_eq_true (by omega)
    have e : var3 N p = 4096 := by unfold var3; rw [if_pos h2]
    rw [e]
    clear h
    go_enter Tryz.func97, Tryz.ntmps97
    go_wp2
    go_ret
    exact Ret.mk (by rfl) (by (repeat' (first | (with_reducible exact Below.refl _ _) | (with_reducible exact Nat.le_refl _) | (with_reducible refine Below.bel ?_ ?_) | (with_reducible refine Below.alloc ?_ ?_ _) | (with_reducible refine Below.drew ?_) | (with_reducible refine Below.drawsN ?_ _) | (with_reducible refine Below.setCell ?_ ?_ _) | (with_reducible refine le_bel ?_) | (with_reducible refine le_alloc ?_) | (with_reducible refine le_setCell ?_) | (with_reducible refine le_drew ?_) | (with_reducible refine le_drawsN ?_) | (dsimp only; with_reducible refine le_bel ?_) | (dsimp only; with_reducible refine Nat.le_refl _) | (dsimp only; with_reducible refine le_bel_add ?_) | (with_reducible assumption) | omega | (dsimp only; omega))))
  · have f0 : decide ((p : Int) < 2) = false := decide_eq_false (by omega)
    obtain ⟨b1, _⟩ := bld_cells h
    obtain ⟨g, c, rfl, c0, c1, c2⟩ := bld_node h hp h2
    have e : var3 N p = (node3 N p).1 := by unfold var3 node3; rw [if_neg (by omega)]
    rw [e]
    obtain ⟨x, hx⟩ : ∃ x, node3 N p = x := ⟨_, rfl⟩
    rw [hx] at c0 ⊢
    obtain ⟨q, rfl⟩ : ∃ q, p = q + 2 := ⟨p - 2, by omega⟩
    rw [Nat.add_sub_cancel] at c0
    have hq : (((q + 2 : Nat) : Int) - 2) = (q : Int) := by omega
    have hib : (0 ≤ (q : Int) ∧ (q : Int) < (N.length : Int)) := ⟨by omega, by omega⟩
    clear h c1 c2 e hx
    go_enter Tryz.func97, Tryz.ntmps97
    go_wp2
    go_ret
    exact Ret.mk (by rfl) (by (repeat' (first | (with_reducible exact Below.refl _ _) | (with_reducible exact Nat.le_refl _) | (with_reducible refine Below.bel ?_ ?_) | (with_reducible refine Below.alloc ?_ ?_ _) | (with_reducible refine Below.drew ?_) | (with_reducible refine Below.drawsN ?_ _) | (with_reducible refine Below.setCell ?_ ?_ _) | (with_reducible refine le_bel ?_) | (with_reducible refine le_alloc ?_) | (with_reducible refine le_setCell ?_) | (with_reducible refine le_drew ?_) | (with_reducible refine le_drawsN ?_) | (dsimp only; with_reducible refine le_bel ?_) | (dsimp only; with_reducible refine Nat.le_refl _) | (dsimp only; with_reducible refine le_bel_add ?_) | (with_reducible assumption) | omega | (dsimp only; omega))))
theorem Bld.mono {w : World} {b0 B mp md base : Nat} {v : Value} {N : List (Nat × Nat × Nat)} {D E : Nat} (h : Bld rk w b0 B mp md base v N D) (hDE : D ≤ E) : Bld rk w b0 B mp md base v N E := by
  obtain ⟨n2, m2, q1, q2, q3⟩ := h.dn
  exact ⟨h.obj, h.own, h.plc, ⟨n2, m2, q1, Nat.le_trans q2 hDE, q3⟩, h.good, h.vars, h.dist⟩
/-- What the builder's functions return: a place that has the values of S; at most a new nodes, and c new entries. -/
def RetB (rk : Nat → Nat) (b0 B mp md base : Nat) (v : Value) (N : List (Nat × Nat × Nat)) (D : Nat) (w : World) (a c : Nat) (S : (Nat → Bool) → Bool) (u : Ending) (w' : World) : Prop :=
  ∃ (p : Nat) (v' : Value) (M : List (Nat × Nat × Nat)), u = .returned (.int .i64 (p : Int)) ∧ Bld rk w' b0 B mp md base v' (N ++ M) (D + c) ∧ Kb b0 B mp md v w v' w' ∧ M.length ≤ a ∧ p < (N ++ M).length + 2 ∧ ∀ ρ, val3 ρ (N ++ M) p = S ρ
theorem RetB.same {b0 B mp md base : Nat} {v : Value} {N : List (Nat × Nat × Nat)} {D : Nat} {w w' : World} {a c : Nat} {S : (Nat → Bool) → Bool} {p : Nat} (h : Bld rk w b0 B mp md base v N D) (hb : Below w.heap.size w w') (hp : p < N.length + 2) (hS : ∀ ρ, val3 ρ N p = S ρ) : RetB rk b0 B mp md base v N D w a c S (.returned (.int .i64 (p : Int))) w' :=
  ⟨p, v, [], rfl, by rw [List.append_nil]; exact (h.bel hb).mono (Nat.le_add_right _ _), (Kb.refl _ _ _ _ _ _).of_below hb (by obtain ⟨d1, d2, d3, d4, d5, d6, d7, d8, d9, d10⟩ := h.dist; omega), Nat.zero_le _, by rw [List.append_nil]; exact hp, by rw [List.append_nil]; exact hS⟩
end Go.Proofs.YtkdmhjlcgpnjpaaGreatDoor
