/- Slices of places, and builders beside blocks that turn. -/
import Derived.Test.YtkdmhjlcgpnjpaaGreatDoorX7
import Derived.Test.YtkdmhjlcgpnjpaaGreatDoorX6
import Derived.Deep.RegionHeld3
import Derived.Deep.AppendLies
namespace Go.Proofs.YtkdmhjlcgpnjpaaGreatDoor
set_option linter.unusedVariables false
set_option linter.unusedSimpArgs false
open Go.RowKit Go.Maps
attribute [local go_sem low] Bel.cell Bel.frozen alloc_cell alloc_frozen
attribute [local go_sem] calmOp chainOp yieldsC grows
variable {rk : Nat → Nat}

theorem keyedI : Keyed Tryz.prog 3 := int_keyed Tryz.underlying3
theorem key_i {z : Int} (h : (Lit.int .i64 z).wf = true) : keyOf Tryz.prog 3 (.int .i64 z) = some (.int .i64 z) := keyOf_int_mk Tryz.underlying3 h
/-- Places as values. -/
def natsV (l : List Nat) : List Value := l.map fun (p : Nat) => .int .i64 (p : Int)
theorem natsV_len (l : List Nat) : (natsV l).length = l.length := List.length_map ..
theorem natsV_at {l : List Nat} {j p : Nat} (h : l[j]? = some p) : (natsV l)[j]? = some (.int .i64 (p : Int)) := by unfold natsV; rw [List.getElem?_map, h]; rfl
theorem natsV_app (l m : List Nat) : natsV (l ++ m) = natsV l ++ natsV m := List.map_append
theorem Tryz.infoI : (Tryz.prog.info? 3).map (fun i => (i.zero, i.size, i.bytes)) = some (some (.int .i64 0), 1, 8) := by kernel_rfl
/-- A slice of the call's own that shows places. -/
def OwnN (w : World) (base : Nat) (v : Value) (l : List Nat) : Prop := w.ownsRow base 3 1 v l.length (natsV l)
theorem ownN_two {w : World} {base g : Nat} {a b : Nat} (h : w.heap[g]? = some (.cells #[.int .i64 (a : Int), .int .i64 (b : Int)] 3 (0, 0))) (hg : base ≤ g) : OwnN w base (.slice (some ⟨g, 0, none⟩) 2 2) [a, b] :=
  ⟨rfl, .inr ⟨g, 2, _, rfl, hg, h, Nat.le_refl _, by unfold maxLen; omega, rfl, rfl⟩⟩
theorem ownN_row {w w' : World} {base : Nat} {v : Value} {l : List Nat} (h : OwnN w base v l) (hk : ∀ (c : Nat) (o : Obj), w.heap[c]? = some o → v.ownBlock = some c → w'.heap[c]? = some o) : OwnN w' base v l := by
  rcases h with ⟨hxl, ⟨e1, e2⟩ | ⟨g, cap, cur, e1, hg, hh, hn, hc, hcs, hcur⟩⟩
  · exact ⟨hxl, .inl ⟨e1, e2⟩⟩
  · exact ⟨hxl, .inr ⟨g, cap, cur, e1, hg, hk g _ hh (by rw [e1]; rfl), hn, hc, hcs, hcur⟩⟩
theorem ownN_len {w : World} {base n : Nat} {v : Value} {l : List Nat} (hn : l.length = n) (h : OwnN w base v l) : w.ownsRow base 3 1 v n (natsV l) := by rw [← hn]; exact h
theorem ownN_val {w : World} {base : Nat} {v : Value} {l : List Nat} (h : OwnN w base v l) (h0 : 0 < l.length) : ∃ g c, v = .slice (some ⟨g, 0, none⟩) l.length c ∧ base ≤ g ∧ g < w.heap.size ∧ ∀ (j p : Nat), l[j]? = some p → w.cell? ⟨g, j, none⟩ = some (.int .i64 (p : Int)) := by
  rcases h with ⟨hxl, ⟨e1, e2⟩ | ⟨g, cap, cur, e1, hg, hh, hn, hc, hcs, hcur⟩⟩
  · omega
  · refine ⟨g, cap, e1, hg, (Array.getElem?_eq_some_iff.1 hh).1, fun j p hp => ?_⟩
    have hj := (List.getElem?_eq_some_iff.1 hp).1
    have e := natsV_at hp
    rw [← hcur, List.getElem?_take_of_lt (by omega)] at e
    simp [World.cell?, hh]
    simpa using e
/-- A builder, when a block beside its own has turned. -/
theorem Bld.row {w w' : World} {b0 B mp md base : Nat} {v : Value} {N : List (Nat × Nat × Nat)} {D g : Nat} (h : Bld rk w b0 B mp md base v N D) (hg : w.grownBy w' (some g)) (hb : base ≤ g) (hv : v.ownBlock ≠ some g) : Bld rk w' b0 B mp md base v N D := by
  obtain ⟨d1, d2, d3, d4, d5, d6, d7, d8, d9, d10⟩ := h.dist
  have hob : ∀ (c : Nat) (o : Obj), w.heap[c]? = some o → c ≠ g → w'.heap[c]? = some o := fun c o ho hc => (hg.block c (Array.getElem?_eq_some_iff.1 ho).1 (fun e => hc (by injection e))).trans ho
  obtain ⟨n1, m1, p1, p2, p3, p4⟩ := h.plc
  obtain ⟨n2, m2, q1, q2, q3⟩ := h.dn
  refine ⟨hob _ _ h.obj (by omega), ?_, ⟨n1, m1, p1.heap fun o ho => hob _ o ho (by omega), p2, p3, p4⟩, ⟨n2, m2, q1.heap fun o ho => hob _ o ho (by omega), q2, q3⟩, h.good, h.vars, ⟨d1, d2, d3, d4, d5, d6, d7, d8, d9, Nat.le_trans d10 hg.size⟩⟩
  rcases h.own with ⟨hxl, ⟨e1, e2⟩ | ⟨g', cap, cur, e1, hg', hh, hn, hc, hcs, hcur⟩⟩
  · exact ⟨hxl, .inl ⟨e1, e2⟩⟩
  · exact ⟨hxl, .inr ⟨g', cap, cur, e1, hg', hob _ _ hh (fun e => hv (by rw [e1, e]; rfl)), hn, hc, hcs, hcur⟩⟩
theorem Kb.row {b0 B mp md : Nat} {v v' : Value} {w w1 w2 : World} {g : Nat} (h : Kb b0 B mp md v w v' w1) (hg : w1.grownBy w2 (some g)) (hb : w.heap.size ≤ g) (hb0 : b0 ≤ w.heap.size) : Kb b0 B mp md v w v' w2 := by
  refine ⟨h.below.grown hg (Nat.le_trans hb0 h.below.size) (fun k hk => by injection hk with hk; omega), fun c o ho h1 h2 h3 h4 => ?_, h.own⟩
  have hl := (Array.getElem?_eq_some_iff.1 ho).1
  have := h.keep c o ho h1 h2 h3 h4
  exact (hg.block c (Array.getElem?_eq_some_iff.1 this).1 (fun e => by injection e; omega)).trans this
end Go.Proofs.YtkdmhjlcgpnjpaaGreatDoor
