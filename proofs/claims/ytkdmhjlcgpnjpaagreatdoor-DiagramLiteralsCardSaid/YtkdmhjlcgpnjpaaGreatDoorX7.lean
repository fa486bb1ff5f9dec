/- Diagrams in memory. -/
import Derived.Test.YtkdmhjlcgpnjpaaGreatDoorX5
import Derived.Test.YtkdmhjlcgpnjpaaGreatDoorXv
import Derived.Test.YtkdmhjlcgpnjpaaGreatDoorG5
namespace Go.Proofs.YtkdmhjlcgpnjpaaGreatDoor
set_option linter.unusedVariables false
set_option linter.unusedSimpArgs false
open Go.RowKit Go.Maps
attribute [local go_sem low] Bel.cell Bel.frozen alloc_cell alloc_frozen

/-- Nodes in blocks before n0. -/
def InD (n0 : Nat) (w : World) (ad : Option Addr) (L : List (Int × Int × Int)) : Prop :=
  0 < L.length → ∃ g off, ad = some ⟨g, off, none⟩ ∧ g < n0 ∧ ∀ (j : Nat) (x : Int × Int × Int), L[j]? = some x → w.cell? ⟨g, off + j * 3, none⟩ = some (.int .i64 x.1) ∧ w.cell? ⟨g, off + j * 3 + 1, none⟩ = some (.int .i64 x.2.1) ∧ w.cell? ⟨g, off + j * 3 + 2, none⟩ = some (.int .i64 x.2.2)
theorem InD.of {n0 : Nat} {w w' : World} {ad : Option Addr} {L : List (Int × Int × Int)} (h : InD n0 w ad L) (hb : Below n0 w w') : InD n0 w' ad L := fun hl => by
  obtain ⟨g, off, he, hg, hc⟩ := h hl
  refine ⟨g, off, he, hg, fun j x hx => ?_⟩
  have e : ∀ o : Nat, w'.cell? ⟨g, o, none⟩ = w.cell? ⟨g, o, none⟩ := fun o => hb.cell (p := ⟨g, o, none⟩) hg
  rw [e, e, e]
  exact hc j x hx
theorem InD.up {n0 n1 : Nat} {w : World} {ad : Option Addr} {L : List (Int × Int × Int)} (h : InD n0 w ad L) (hn : n0 ≤ n1) : InD n1 w ad L := fun hl => by
  obtain ⟨g, off, he, hg, hc⟩ := h hl
  exact ⟨g, off, he, by omega, hc⟩
theorem inD_nil (n0 : Nat) (w : World) (ad : Option Addr) : InD n0 w ad [] := fun h => absurd h (by decide)
theorem InD.lay {n0 : Nat} {w : World} {ad : Option Addr} {L : List (Int × Int × Int)} (h : InD n0 w ad L) : InD w.heap.size w ad L := fun hl => by
  obtain ⟨g, off, he, hg, hc⟩ := h hl
  obtain ⟨x, hx⟩ : ∃ x, L[0]? = some x := ⟨_, List.getElem?_eq_getElem hl⟩
  exact ⟨g, off, he, World.block_lt_of_cell? w _ (hc 0 x hx).1, hc⟩
theorem ownD_in {w : World} {base : Nat} {e : TypeId} {v : Value} {N : List (Nat × Nat × Nat)} (h : OwnD w base e v N) : ∃ a c, v = .slice a N.length c ∧ InD w.heap.size w a (N.map z3) := by
  obtain ⟨a, c, hv, hc⟩ := ownD_val h
  refine ⟨a, c, hv, fun hl => ?_⟩
  rw [List.length_map] at hl
  obtain ⟨g, ha, _, hg, _, hcell⟩ := hc hl
  refine ⟨g, 0, ha, hg, fun j x hx => ?_⟩
  rw [List.getElem?_map] at hx
  obtain ⟨y, hy, rfl⟩ := Option.map_eq_some_iff.1 hx
  obtain ⟨k0, k1, k2⟩ := cellsD_at N j y hy
  rw [Nat.zero_add]
  exact ⟨hcell _ _ k0, hcell _ _ k1, hcell _ _ k2⟩
/-- A diagram as a value. -/
def DgV (n0 : Nat) (w : World) (v : Value) (M : List (Nat × Nat × Nat)) (r : Nat) : Prop := ∃ ad c, v = .agg #[.slice ad M.length c, .int .i64 (r : Int)] ∧ InD n0 w ad (M.map z3)
end Go.Proofs.YtkdmhjlcgpnjpaaGreatDoor
