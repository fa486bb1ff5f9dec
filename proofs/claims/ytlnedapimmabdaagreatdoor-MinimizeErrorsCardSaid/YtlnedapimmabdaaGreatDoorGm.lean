/- Where gates lie in memory; slices of the call's own that show gates. -/
import Derived.Test.YtlnedapimmabdaaGreatDoorNA
import Derived.Test.YtlnedapimmabdaaGreatDoorCm
import Derived.Maps.AppendAt
import Derived.Laws.OwnMore
import Derived.Laws.AppendOwnNone
namespace Go.Proofs.YtlnedapimmabdaaGreatDoor
set_option linter.unusedVariables false
set_option linter.unusedSimpArgs false
open Go.RowKit

def InS (P : Nat → Prop) (w : World) (ad : Option Addr) (l : List Int) : Prop := 0 < l.length → ∃ b off, ad = some ⟨b, off, none⟩ ∧ P b ∧ ∀ (j : Nat) (x : Int), l[j]? = some x → w.cell? ⟨b, off + j, none⟩ = some (.int .i64 x)
def CellG (P : Nat → Prop) (w : World) (b off : Nat) (x : GZ) : Prop :=
  w.cell? ⟨b, off, none⟩ = some (.int .i64 x.1) ∧ w.cell? ⟨b, off + 1, none⟩ = some (.int .i64 x.2.1) ∧ ∃ ad cap, w.cell? ⟨b, off + 2, none⟩ = some (.slice ad x.2.2.length cap) ∧ InS P w ad x.2.2
def InGt (P : Nat → Prop) (w : World) (ad : Option Addr) (L : List GZ) : Prop := 0 < L.length → ∃ b off, ad = some ⟨b, off, none⟩ ∧ P b ∧ ∀ (j : Nat) (x : GZ), L[j]? = some x → CellG P w b (off + j * 3) x
theorem inS_nil (P : Nat → Prop) (w : World) (ad : Option Addr) : InS P w ad [] := fun h => absurd h (by simp)
theorem inGt_nil (P : Nat → Prop) (w : World) (ad : Option Addr) : InGt P w ad [] := fun h => absurd h (by simp)
theorem InS.move {P Q : Nat → Prop} {w w' : World} {ad : Option Addr} {l : List Int} (h : InS P w ad l) (hc : ∀ (b off : Nat) (u : Value), P b → w.cell? ⟨b, off, none⟩ = some u → w'.cell? ⟨b, off, none⟩ = some u) (hq : ∀ b, b < w.heap.size → P b → Q b) : InS Q w' ad l := fun h0 => by
  obtain ⟨b, off, e, hp, hcs⟩ := h h0
  have hlt : b < w.heap.size := World.block_lt_of_cell? w _ (hcs 0 _ (List.getElem?_eq_getElem h0))
  exact ⟨b, off, e, hq b hlt hp, fun j x hj => hc b _ _ hp (hcs j x hj)⟩
theorem CellG.move {P Q : Nat → Prop} {w w' : World} {b off : Nat} {x : GZ} (hp : P b) (h : CellG P w b off x) (hc : ∀ (b off : Nat) (u : Value), P b → w.cell? ⟨b, off, none⟩ = some u → w'.cell? ⟨b, off, none⟩ = some u) (hq : ∀ b, b < w.heap.size → P b → Q b) : CellG Q w' b off x := by
  obtain ⟨h1, h2, ad, cap, h3, h4⟩ := h
  exact ⟨hc _ _ _ hp h1, hc _ _ _ hp h2, ad, cap, hc _ _ _ hp h3, h4.move hc hq⟩
theorem InGt.move {P Q : Nat → Prop} {w w' : World} {ad : Option Addr} {L : List GZ} (h : InGt P w ad L) (hc : ∀ (b off : Nat) (u : Value), P b → w.cell? ⟨b, off, none⟩ = some u → w'.cell? ⟨b, off, none⟩ = some u) (hq : ∀ b, b < w.heap.size → P b → Q b) : InGt Q w' ad L := fun h0 => by
  obtain ⟨b, off, e, hp, hcs⟩ := h h0
  have hlt : b < w.heap.size := World.block_lt_of_cell? w _ (hcs 0 _ (List.getElem?_eq_getElem h0)).1
  exact ⟨b, off, e, hq b hlt hp, fun j x hj => (hcs j x hj).move hp hc hq⟩
theorem cell_below {w w' : World} (hb : Below w.heap.size w w') (b off : Nat) (u : Value) (h : w.cell? ⟨b, off, none⟩ = some u) : w'.cell? ⟨b, off, none⟩ = some u := by
  rw [hb.cell (World.block_lt_of_cell? w _ h), h]
theorem InS.of {P : Nat → Prop} {w w' : World} {ad : Option Addr} {l : List Int} (h : InS P w ad l) (hb : Below w.heap.size w w') : InS P w' ad l :=
  h.move (fun b off u _ hu => cell_below hb b off u hu) (fun _ _ hp => hp)
theorem InGt.of {P : Nat → Prop} {w w' : World} {ad : Option Addr} {L : List GZ} (h : InGt P w ad L) (hb : Below w.heap.size w w') : InGt P w' ad L :=
  h.move (fun b off u _ hu => cell_below hb b off u hu) (fun _ _ hp => hp)
theorem InS.imp {P Q : Nat → Prop} {w : World} {ad : Option Addr} {l : List Int} (h : InS P w ad l) (hq : ∀ b, b < w.heap.size → P b → Q b) : InS Q w ad l := h.move (fun _ _ _ _ hu => hu) hq
theorem InGt.imp {P Q : Nat → Prop} {w : World} {ad : Option Addr} {L : List GZ} (h : InGt P w ad L) (hq : ∀ b, b < w.heap.size → P b → Q b) : InGt Q w ad L := h.move (fun _ _ _ _ hu => hu) hq
theorem InGt.at {P : Nat → Prop} {w : World} {ad : Option Addr} {L : List GZ} (h : InGt P w ad L) {j : Nat} {x : GZ} (hj : L[j]? = some x) : ∃ b off, ad = some ⟨b, off, none⟩ ∧ b < w.heap.size ∧ ∃ a c, w.cell? ⟨b, off + j * 3, none⟩ = some (.int .i64 x.1) ∧ w.cell? ⟨b, off + j * 3 + 1, none⟩ = some (.int .i64 x.2.1) ∧ w.cell? ⟨b, off + j * 3 + 2, none⟩ = some (.slice a x.2.2.length c) ∧ InS P w a x.2.2 := by
  obtain ⟨b, off, e, _, hcs⟩ := h (by have := (List.getElem?_eq_some_iff.1 hj).1; omega)
  obtain ⟨h1, h2, a, c, h3, h4⟩ := hcs j x hj
  exact ⟨b, off, e, World.block_lt_of_cell? w _ h1, a, c, h1, h2, h3, h4⟩
theorem InS.at {P : Nat → Prop} {w : World} {ad : Option Addr} {l : List Int} (h : InS P w ad l) {j : Nat} {x : Int} (hj : l[j]? = some x) : ∃ b off, ad = some ⟨b, off, none⟩ ∧ b < w.heap.size ∧ w.cell? ⟨b, off + j, none⟩ = some (.int .i64 x) := by
  obtain ⟨b, off, e, _, hcs⟩ := h (by have := (List.getElem?_eq_some_iff.1 hj).1; omega)
  exact ⟨b, off, e, World.block_lt_of_cell? w _ (hcs j x hj), hcs j x hj⟩
def cellsZ : List (GZ × Option Addr × Nat) → List Value
  | [] => []
  | x :: r => .int .i64 x.1.1 :: .int .i64 x.1.2.1 :: .slice x.2.1 x.1.2.2.length x.2.2 :: cellsZ r
theorem cellsZ_app : ∀ l r, cellsZ (l ++ r) = cellsZ l ++ cellsZ r
  | [], r => rfl
  | x :: l, r => by rw [List.cons_append, cellsZ, cellsZ, cellsZ_app l r]; rfl
theorem cellsZ_at : ∀ (l : List (GZ × Option Addr × Nat)) (j : Nat) (x : GZ × Option Addr × Nat), l[j]? = some x → (cellsZ l)[j * 3]? = some (.int .i64 x.1.1) ∧ (cellsZ l)[j * 3 + 1]? = some (.int .i64 x.1.2.1) ∧ (cellsZ l)[j * 3 + 2]? = some (.slice x.2.1 x.1.2.2.length x.2.2)
  | [], j, x, h => by simp at h
  | y :: r, 0, x, h => by
    simp at h
    subst h
    exact ⟨rfl, rfl, rfl⟩
  | y :: r, j + 1, x, h => by
    have := cellsZ_at r j x (by simpa using h)
    rw [cellsZ, show (j + 1) * 3 = j * 3 + 1 + 1 + 1 by omega, show j * 3 + 1 + 1 + 1 + 1 = j * 3 + 1 + 1 + 1 + 1 from rfl]
    simp only [List.getElem?_cons_succ]
    exact ⟨this.1, this.2.1, this.2.2⟩
def OwnZ (Pc : Nat → Prop) (w : World) (base : Nat) (e : TypeId) (v : Value) (L : List GZ) : Prop :=
  ∃ us : List (GZ × Option Addr × Nat), us.map (·.1) = L ∧ w.ownsRow base e 3 v L.length (cellsZ us) ∧ ∀ (j : Nat) (x : GZ × Option Addr × Nat), us[j]? = some x → InS (fun b => Pc b ∧ v.ownBlock ≠ some b) w x.2.1 x.1.2.2
variable {Pc : Nat → Prop}
theorem ownZ_block {w : World} {base : Nat} {e : TypeId} {v : Value} {L : List GZ} (h : OwnZ Pc w base e v L) {b : Nat} (hb : v.ownBlock = some b) : base ≤ b ∧ b < w.heap.size := by
  obtain ⟨us, _, h2, _⟩ := h
  rcases h2.2 with ⟨rfl, _⟩ | ⟨g, cap, cur, rfl, hg, hh, _⟩
  · cases hb
  · cases hb
    exact ⟨hg, (Array.getElem?_eq_some_iff.1 hh).1⟩
theorem ownZ_bel {w w' : World} {base : Nat} {e : TypeId} {v : Value} {L : List GZ} (h : OwnZ Pc w base e v L) (hb : Below w.heap.size w w') : OwnZ Pc w' base e v L := by
  obtain ⟨us, h1, h2, h3⟩ := h
  refine ⟨us, h1, ?_, fun j x hj => (h3 j x hj).of hb⟩
  rcases h2 with ⟨hxl, ⟨e1, e2⟩ | ⟨g, cap, cur, e1, hg, hh, hn, hc, hcs, hcur⟩⟩
  · exact ⟨hxl, .inl ⟨e1, e2⟩⟩
  · exact ⟨hxl, .inr ⟨g, cap, cur, e1, hg, (hb.block g (Array.getElem?_eq_some_iff.1 hh).1).trans hh, hn, hc, hcs, hcur⟩⟩
theorem ownZ_mv {Pd : Nat → Prop} {w w' : World} {base : Nat} {e : TypeId} {v : Value} {L : List GZ} (h : OwnZ Pc w base e v L) (hv : ∀ b, v.ownBlock = some b → w'.heap[b]? = w.heap[b]?) (hc : ∀ b, b < w.heap.size → Pc b → Pd b ∧ w'.heap[b]? = w.heap[b]?) : OwnZ Pd w' base e v L := by
  obtain ⟨us, h1, h2, h3⟩ := h
  refine ⟨us, h1, ?_, fun j x hj => (h3 j x hj).move (fun b off u hp hu => ?_) (fun b hl hp => ⟨(hc b hl hp.1).1, hp.2⟩)⟩
  · rcases h2 with ⟨hxl, ⟨e1, e2⟩ | ⟨g, cap, cur, e1, hg, hh, hn, hc, hcs, hcur⟩⟩
    · exact ⟨hxl, .inl ⟨e1, e2⟩⟩
    · exact ⟨hxl, .inr ⟨g, cap, cur, e1, hg, (hv g (by rw [e1]; rfl)).trans hh, hn, hc, hcs, hcur⟩⟩
  · have hlt := World.block_lt_of_cell? w _ hu
    exact (World.cell?_of_block (a := ⟨b, off, none⟩) (hc b hlt hp.1).2).trans hu
theorem mapZ_get {us : List (GZ × Option Addr × Nat)} {L : List GZ} (h : us.map (·.1) = L) {j : Nat} {x : GZ} (hj : L[j]? = some x) : ∃ ad cap, us[j]? = some (x, ad, cap) := by
  rw [← h, List.getElem?_map] at hj
  cases hu : us[j]? with
  | none => rw [hu] at hj; cases hj
  | some y =>
    rw [hu] at hj
    obtain ⟨t, ad, cap⟩ := y
    cases hj
    exact ⟨ad, cap, rfl⟩
theorem ownZ_in {w : World} {base : Nat} {e : TypeId} {v : Value} {L : List GZ} (h : OwnZ Pc w base e v L) : ∃ ad cap, v = .slice ad L.length cap ∧ InGt (fun b => base ≤ b ∨ Pc b) w ad L := by
  obtain ⟨us, h1, h2, h3⟩ := h
  have hlen : us.length = L.length := by rw [← h1, List.length_map]
  rcases h2 with ⟨hxl, ⟨rfl, h0⟩ | ⟨g, cap, cur, rfl, hg, hh, hn, hc, hcs, hcur⟩⟩
  · exact ⟨none, 0, by rw [h0], by rw [List.length_eq_zero_iff.1 h0]; exact inGt_nil _ _ _⟩
  · refine ⟨_, _, rfl, fun _ => ⟨g, 0, rfl, .inl hg, fun j x hj => ?_⟩⟩
    obtain ⟨ad, cp, hu⟩ := mapZ_get h1 hj
    obtain ⟨k0, k1, k2⟩ := cellsZ_at us j _ hu
    have hjl : j < L.length := (List.getElem?_eq_some_iff.1 hj).1
    have hcell : ∀ (i : Nat) (y : Value), i < L.length * 3 → (cellsZ us)[i]? = some y → w.cell? ⟨g, i, none⟩ = some y := fun i y hi hx => by
      rw [← hcur, List.getElem?_take_of_lt hi] at hx
      simp [World.cell?, hh]
      simpa using hx
    refine ⟨?_, ?_, ad, cp, ?_, (h3 j _ hu).imp fun b _ hb => .inr hb.1⟩
    · rw [Nat.zero_add]; exact hcell _ _ (by omega) k0
    · rw [Nat.zero_add]; exact hcell _ _ (by omega) k1
    · rw [Nat.zero_add]; exact hcell _ _ (by omega) k2
end Go.Proofs.YtlnedapimmabdaaGreatDoor
