/- A formula as an argument. -/
import Derived.Deep.Slices
import Derived.Deep.Strs
import Derived.Test.YtkbellmhanpocaaGreatDoorWrap
import Derived.Test.YtkbellmhanpocaaGreatDoorG5
namespace Go.Proofs.YtkbellmhanpocaaGreatDoor
set_option linter.unusedVariables false
set_option linter.unusedSimpArgs false
open Go.ChangeShapes Go.WideShapes Go.ChangeAt Go.RowKit Go.Joins Go.Deep F

theorem cellsF3 : Tryz.prog.cellsOf 26 = 3 := by kernel_rfl
theorem cellsI1 : Tryz.prog.cellsOf 3 = 1 := by kernel_rfl
theorem cellsS1 : Tryz.prog.cellsOf 24 = 1 := by kernel_rfl
instance : Inhabited F := ⟨F.nd 0 0 []⟩
/-- A value that reads as a formula shows a tree. -/
def ShowsF (W : World) (cs : List Value) : Prop := ∃ t ad cap, cs = [.int .i64 (F.k t), .int .i64 (F.a t), .slice ad (F.l t).length cap] ∧ InsF (fun _ => True) W ad (F.l t)
set_option maxRecDepth 100000 in
theorem formula_open {H : Type} {enc : TypeId × Value → H} {W : World} {spare : Nat → Bool} : ∀ (fuel : Nat) (cs : List Value) (x : DataW H × List MemPlace),
    DataW.trod enc Tryz.prog W 0 spare true fuel 26 cs = some x → ShowsF W cs := by
  intro fuel
  induction fuel using Nat.strongRecOn with
  | _ fuel ih =>
    intro cs x h
    obtain ⟨xs, n, rfl, _, hl, hlen, hf⟩ := DataW.trod_struct Tryz.underlying26 h
    rw [cellsF3] at hl
    match cs, hl with
    | [c0, c1, c2], _ =>
      have hlen3 : xs.length = 3 := hlen
      match xs, hlen3 with
      | [y0, y1, y2], _ =>
        have h0 : DataW.trod enc Tryz.prog W 0 spare true n 3 (List.take (Tryz.prog.cellsOf 3) [c0, c1, c2]) = some y0 := hf 0 _ rfl
        have h1 : DataW.trod enc Tryz.prog W 0 spare true n 3 (List.take (Tryz.prog.cellsOf 3) [c1, c2]) = some y1 := hf 1 _ rfl
        have h2 : DataW.trod enc Tryz.prog W 0 spare true n 24 (List.take (Tryz.prog.cellsOf 24) [c2]) = some y2 := hf 2 _ rfl
        rw [cellsI1] at h0 h1
        rw [cellsS1] at h2
        obtain ⟨k, e0, _⟩ := DataW.trod_int Tryz.underlying3 h0
        obtain ⟨a, e1, _⟩ := DataW.trod_int Tryz.underlying3 h1
        have e0' : c0 = .int .i64 k := by simpa using e0
        have e1' : c1 = .int .i64 a := by simpa using e1
        subst e0' e1'
        rcases DataW.trod_slice Tryz.underlying24 h2 with ⟨e2, _⟩ | ⟨ad, len, cap, elems, rest, n', rfl, e2, _, _, _, _, hel, hcs, _⟩
        · have e2' : c2 = .slice none 0 0 := by simpa using e2
          subst e2'
          exact ⟨F.nd k a [], none, 0, rfl, insF_nil _ _ _⟩
        · have e2' : c2 = .slice (some ad) len cap := by simpa using e2
          subst e2'
          rw [cellsF3] at hcs
          rcases Nat.eq_zero_or_pos len with h00 | h00
          · subst h00
            exact ⟨F.nd k a [], some ad, cap, rfl, insF_nil _ _ _⟩
          · have hone : ∀ i, i < len → ∃ cs', W.cells? 0 (ad.add (i * 3)) 3 = some cs' ∧ ShowsF W cs' := fun i hi => by
              have hi' := hcs i hi
              rw [List.getElem?_eq_getElem (by omega)] at hi'
              obtain ⟨cs', q1, q2⟩ := Option.bind_eq_some_iff.1 hi'
              exact ⟨cs', q1, ih n' (by omega) cs' _ q2⟩
            obtain ⟨b, off, spot⟩ := ad
            have hspot : spot = none := by
              obtain ⟨cs', q1, t, ad', cap', q2, _⟩ := hone 0 h00
              have q3 := (World.cells?_some q1).2.2 0 (by decide)
              rw [q2] at q3
              simpa [Addr.add] using World.cell?_spot q3
            subst hspot
            obtain ⟨f, hf'⟩ := choose_lt (α := F) (p := fun i t => CellF (fun _ => True) W b (off + i * 3) t) (fun i hi => by
              obtain ⟨cs', q1, t, ad', cap', rfl, q2⟩ := hone i hi
              have q3 := (World.cells?_some q1).2.2
              rw [Go.WideShapes.add_plain] at q3
              refine ⟨t, cellF_mk (ad := ad') (cap := cap') ?_ ?_ ?_ q2⟩
              · simpa [Go.WideShapes.add_plain] using q3 0 (by decide)
              · simpa [Go.WideShapes.add_plain] using q3 1 (by decide)
              · simpa [Go.WideShapes.add_plain] using q3 2 (by decide))
            refine ⟨F.nd k a ((List.range len).map f), some ⟨b, off, none⟩, cap, by simp [F.k, F.a, F.l], insF_mk trivial fun j t hj => ?_⟩
            rw [show F.l (F.nd k a ((List.range len).map f)) = (List.range len).map f from rfl, List.getElem?_map] at hj
            obtain ⟨i, hi, rfl⟩ := Option.map_eq_some_iff.1 hj
            obtain ⟨hil, hij⟩ := List.getElem?_eq_some_iff.1 hi
            simp at hil hij
            subst hij
            exact hf' _ hil
end Go.Proofs.YtkbellmhanpocaaGreatDoor
