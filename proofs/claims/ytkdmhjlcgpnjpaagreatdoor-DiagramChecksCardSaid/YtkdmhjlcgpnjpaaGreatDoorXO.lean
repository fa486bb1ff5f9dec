/- A diagram as an argument. -/
import Derived.Deep.Slices
import Derived.Deep.Strs
import Derived.Test.YtkdmhjlcgpnjpaaGreatDoorWrap
import Derived.Test.YtkdmhjlcgpnjpaaGreatDoorXD
namespace Go.Proofs.YtkdmhjlcgpnjpaaGreatDoor
set_option linter.unusedVariables false
set_option linter.unusedSimpArgs false
open Go.ChangeShapes Go.WideShapes Go.ChangeAt Go.RowKit Go.Joins Go.Deep Go.Maps

theorem cellsNd : Tryz.prog.cellsOf 55 = 3 := by kernel_rfl
theorem cellsDg : Tryz.prog.cellsOf 30 = 2 := by kernel_rfl
theorem cellsIn : Tryz.prog.cellsOf 3 = 1 := by kernel_rfl
theorem cellsNs : Tryz.prog.cellsOf 28 = 1 := by kernel_rfl
theorem cell_lt {W : World} {g o : Nat} {v : Value} (h : W.cell? ⟨g, o, none⟩ = some v) : g < W.heap.size := by
  rcases Nat.lt_or_ge g W.heap.size with hg | hg
  · exact hg
  · unfold World.cell? at h
    simp [Array.getElem?_eq_none hg] at h
set_option maxRecDepth 100000 in
theorem node_open {H : Type} {enc : TypeId × Value → H} {W : World} {spare : Nat → Bool} (fuel : Nat) (cs : List Value) (x : DataW H × List MemPlace)
    (h : DataW.trod enc Tryz.prog W 0 spare true fuel 55 cs = some x) : ∃ a b c, cs = [.int .i64 a, .int .i64 b, .int .i64 c] ∧ inI a ∧ inI b ∧ inI c := by
  obtain ⟨xs, n, rfl, _, hl, hlen, hf⟩ := DataW.trod_struct Tryz.underlying55 h
  rw [cellsNd] at hl
  match cs, hl with
  | [c0, c1, c2], _ =>
    have hlen3 : xs.length = 3 := hlen
    match xs, hlen3 with
    | [y0, y1, y2], _ =>
      have h0 : DataW.trod enc Tryz.prog W 0 spare true n 3 (List.take (Tryz.prog.cellsOf 3) [c0, c1, c2]) = some y0 := hf 0 _ rfl
      have h1 : DataW.trod enc Tryz.prog W 0 spare true n 3 (List.take (Tryz.prog.cellsOf 3) [c1, c2]) = some y1 := hf 1 _ rfl
      have h2 : DataW.trod enc Tryz.prog W 0 spare true n 3 (List.take (Tryz.prog.cellsOf 3) [c2]) = some y2 := hf 2 _ rfl
      rw [cellsIn] at h0 h1 h2
      obtain ⟨a, e0, _, wa⟩ := DataW.trod_int Tryz.underlying3 h0
      obtain ⟨b, e1, _, wb⟩ := DataW.trod_int Tryz.underlying3 h1
      obtain ⟨c, e2, _, wc⟩ := DataW.trod_int Tryz.underlying3 h2
      have e0' : c0 = .int .i64 a := by simpa using e0
      have e1' : c1 = .int .i64 b := by simpa using e1
      have e2' : c2 = .int .i64 c := by simpa using e2
      have ba := bounds_i64 wa
      have bb := bounds_i64 wb
      have bc := bounds_i64 wc
      exact ⟨a, b, c, by rw [e0', e1', e2'], ⟨by omega, by omega⟩, ⟨by omega, by omega⟩, ⟨by omega, by omega⟩⟩
set_option maxRecDepth 100000 in
theorem diag_open {H : Type} {enc : TypeId × Value → H} {W : World} {spare : Nat → Bool} (fuel : Nat) (cs : List Value) (x : DataW H × List MemPlace)
    (h : DataW.trod enc Tryz.prog W 0 spare true fuel 30 cs = some x) :
    ∃ (n : Nat) (L : List (Int × Int × Int)) (r : Int) (ad : Option Addr) (cap : Nat), cs = [.slice ad n cap, .int .i64 r] ∧ L.length = n ∧ InD W.heap.size W ad L ∧ InI L ∧ inI r := by
  obtain ⟨xs, n, rfl, _, hl, hlen, hf⟩ := DataW.trod_struct Tryz.underlying30 h
  rw [cellsDg] at hl
  match cs, hl with
  | [c0, c1], _ =>
    have hlen2 : xs.length = 2 := hlen
    match xs, hlen2 with
    | [y0, y1], _ =>
      have h0 : DataW.trod enc Tryz.prog W 0 spare true n 28 (List.take (Tryz.prog.cellsOf 28) [c0, c1]) = some y0 := hf 0 _ rfl
      have h1 : DataW.trod enc Tryz.prog W 0 spare true n 3 (List.take (Tryz.prog.cellsOf 3) [c1]) = some y1 := hf 1 _ rfl
      rw [cellsNs] at h0
      rw [cellsIn] at h1
      obtain ⟨r, e1, _, wr⟩ := DataW.trod_int Tryz.underlying3 h1
      have e1' : c1 = .int .i64 r := by simpa using e1
      have br := bounds_i64 wr
      subst e1'
      rcases DataW.trod_slice Tryz.underlying28 h0 with ⟨e2, _⟩ | ⟨ad, len, cap, elems, rest, n', rfl, e2, _, _, _, _, hel, hcs, _⟩
      · have e2' : c0 = .slice none 0 0 := by simpa using e2
        subst e2'
        exact ⟨0, [], r, none, 0, rfl, rfl, fun hl => absurd hl (by simp), fun x hx => absurd hx (by simp), ⟨by omega, by omega⟩⟩
      · have e2' : c0 = .slice (some ad) len cap := by simpa using e2
        subst e2'
        rw [cellsNd] at hcs
        rcases Nat.eq_zero_or_pos len with h00 | h00
        · subst h00
          exact ⟨0, [], r, some ad, cap, rfl, rfl, fun hl => absurd hl (by simp), fun x hx => absurd hx (by simp), ⟨by omega, by omega⟩⟩
        · have hone : ∀ i, i < len → ∃ cs', W.cells? 0 (ad.add (i * 3)) 3 = some cs' ∧ ∃ a b c, cs' = [.int .i64 a, .int .i64 b, .int .i64 c] ∧ inI a ∧ inI b ∧ inI c := fun i hi => by
            have hi' := hcs i hi
            rw [List.getElem?_eq_getElem (by omega)] at hi'
            obtain ⟨cs', q1, q2⟩ := Option.bind_eq_some_iff.1 hi'
            exact ⟨cs', q1, node_open n' cs' _ q2⟩
          obtain ⟨b, off, spot⟩ := ad
          have hspot : spot = none := by
            obtain ⟨cs', q1, a, b', c, q2, _⟩ := hone 0 h00
            have q3 := (World.cells?_some q1).2.2 0 (by decide)
            rw [q2] at q3
            simpa [Addr.add] using World.cell?_spot q3
          subst hspot
          obtain ⟨f, hf'⟩ := choose_lt (α := Int × Int × Int) (p := fun i t => W.cell? ⟨b, off + i * 3, none⟩ = some (.int .i64 t.1) ∧ W.cell? ⟨b, off + i * 3 + 1, none⟩ = some (.int .i64 t.2.1) ∧ W.cell? ⟨b, off + i * 3 + 2, none⟩ = some (.int .i64 t.2.2) ∧ inI t.1 ∧ inI t.2.1 ∧ inI t.2.2) (fun i hi => by
            obtain ⟨cs', q1, a, b', c, rfl, ia, ib, ic⟩ := hone i hi
            have q3 := (World.cells?_some q1).2.2
            rw [Go.WideShapes.add_plain] at q3
            refine ⟨(a, b', c), ?_, ?_, ?_, ia, ib, ic⟩
            · simpa [Go.WideShapes.add_plain] using q3 0 (by decide)
            · simpa [Go.WideShapes.add_plain] using q3 1 (by decide)
            · simpa [Go.WideShapes.add_plain] using q3 2 (by decide))
          refine ⟨len, (List.range len).map f, r, some ⟨b, off, none⟩, cap, rfl, by simp, fun _ => ⟨b, off, rfl, cell_lt (hf' 0 h00).1, fun j t hj => ?_⟩, fun t ht => ?_, ⟨by omega, by omega⟩⟩
          · rw [List.getElem?_map] at hj
            obtain ⟨i, hi, rfl⟩ := Option.map_eq_some_iff.1 hj
            obtain ⟨hil, hij⟩ := List.getElem?_eq_some_iff.1 hi
            simp at hil hij
            subst hij
            have := hf' _ hil
            exact ⟨this.1, this.2.1, this.2.2.1⟩
          · obtain ⟨i, hi, rfl⟩ := List.mem_map.1 ht
            have := hf' i (List.mem_range.1 hi)
            exact this.2.2.2
end Go.Proofs.YtkdmhjlcgpnjpaaGreatDoor
