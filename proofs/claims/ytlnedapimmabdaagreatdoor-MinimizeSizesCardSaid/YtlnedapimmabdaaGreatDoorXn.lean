/- A network as an argument. -/
import Derived.Deep.Slices
import Derived.Deep.Strs
import Derived.Test.YtlnedapimmabdaaGreatDoorWrap
import Derived.Test.YtlnedapimmabdaaGreatDoorGm
namespace Go.Proofs.YtlnedapimmabdaaGreatDoor
set_option linter.unusedVariables false
set_option linter.unusedSimpArgs false
open Go.ChangeShapes Go.WideShapes Go.ChangeAt Go.RowKit Go.Joins Go.Deep Go.Maps

def inJ (k : Int) : Prop := -9223372036854775808 ≤ k ∧ k ≤ 9223372036854775807
theorem cellsGt : Tryz.prog.cellsOf 45 = 3 := by kernel_rfl
theorem cellsNw : Tryz.prog.cellsOf 25 = 2 := by kernel_rfl
theorem cellsI1 : Tryz.prog.cellsOf 3 = 1 := by kernel_rfl
theorem cellsIs : Tryz.prog.cellsOf 23 = 1 := by kernel_rfl
theorem cellsGs : Tryz.prog.cellsOf 22 = 1 := by kernel_rfl
theorem cell_ltN {W : World} {g o : Nat} {v : Value} (h : W.cell? ⟨g, o, none⟩ = some v) : g < W.heap.size := by
  rcases Nat.lt_or_ge g W.heap.size with hg | hg
  · exact hg
  · unfold World.cell? at h
    simp [Array.getElem?_eq_none hg] at h
theorem ints_open {H : Type} {enc : TypeId × Value → H} {W : World} {spare : Nat → Bool} (fuel : Nat) (c : Value) (x : DataW H × List MemPlace)
    (h : DataW.trod enc Tryz.prog W 0 spare true fuel 23 [c] = some x) : ∃ (ad : Option Addr) (l : List Int) (cap : Nat), c = .slice ad l.length cap ∧ l.length ≤ cap ∧ cap ≤ 9223372036854775807 ∧ InS (fun b => b < W.heap.size) W ad l ∧ ∀ k ∈ l, inJ k := by
  rcases open_ints Tryz.underlying23 Tryz.underlying3 cellsI1 h with ⟨hcs, hx⟩ | ⟨a, len, cap, zs, hcs, _, hl, hm, hz, hx, hcell, hwz⟩
  · obtain rfl : c = .slice none 0 0 := by simpa using hcs
    exact ⟨none, [], 0, rfl, Nat.le_refl _, by omega, inS_nil _ _ _, fun k hk => by cases hk⟩
  · obtain rfl : c = .slice (some a) len cap := by simpa using hcs
    have hzl : len ≤ zs.length := by rw [hz]; split <;> omega
    have hlen : (zs.take len).length = len := by rw [List.length_take]; omega
    refine ⟨some a, zs.take len, cap, by rw [hlen], by omega, by unfold maxLen at hm; omega, fun h0 => ?_, fun k hk => ?_⟩
    · rw [hlen] at h0
      obtain ⟨b, off, rfl, hc⟩ := ints_at hcell (by omega)
      refine ⟨b, off, rfl, cell_ltN (hc 0 (by omega)), fun j y hj => ?_⟩
      have hjl := (List.getElem?_eq_some_iff.1 hj).1
      rw [hlen] at hjl
      rw [hc j (by omega)]
      rw [List.getElem?_take, if_pos hjl] at hj
      rw [List.getD_eq_getElem?_getD, hj]
      rfl
    · have := bounds_i64 (hwz k (List.mem_of_mem_take hk))
      exact ⟨by omega, by omega⟩
set_option maxRecDepth 100000 in
theorem gate_open {H : Type} {enc : TypeId × Value → H} {W : World} {spare : Nat → Bool} (fuel : Nat) (cs : List Value) (x : DataW H × List MemPlace)
    (h : DataW.trod enc Tryz.prog W 0 spare true fuel 45 cs = some x) : ∃ (a b : Int) (ad : Option Addr) (l : List Int) (cap : Nat), cs = [.int .i64 a, .int .i64 b, .slice ad l.length cap] ∧ l.length ≤ 9223372036854775807 ∧ InS (fun b => b < W.heap.size) W ad l ∧ inJ a ∧ inJ b ∧ ∀ k ∈ l, inJ k := by
  obtain ⟨xs, n, rfl, _, hl, hlen, hf⟩ := DataW.trod_struct Tryz.underlying45 h
  rw [cellsGt] at hl
  match cs, hl with
  | [c0, c1, c2], _ =>
    have hlen3 : xs.length = 3 := hlen
    match xs, hlen3 with
    | [y0, y1, y2], _ =>
      have h0 : DataW.trod enc Tryz.prog W 0 spare true n 3 (List.take (Tryz.prog.cellsOf 3) [c0, c1, c2]) = some y0 := hf 0 _ rfl
      have h1 : DataW.trod enc Tryz.prog W 0 spare true n 3 (List.take (Tryz.prog.cellsOf 3) [c1, c2]) = some y1 := hf 1 _ rfl
      have h2 : DataW.trod enc Tryz.prog W 0 spare true n 23 (List.take (Tryz.prog.cellsOf 23) [c2]) = some y2 := hf 2 _ rfl
      rw [cellsI1] at h0 h1
      rw [cellsIs] at h2
      obtain ⟨a, e0, _, wa⟩ := DataW.trod_int Tryz.underlying3 h0
      obtain ⟨b, e1, _, wb⟩ := DataW.trod_int Tryz.underlying3 h1
      obtain ⟨ad, l, cap, rfl, hl1, hl2, hi, hk⟩ := ints_open n c2 y2 h2
      obtain rfl : c0 = .int .i64 a := by simpa using e0
      obtain rfl : c1 = .int .i64 b := by simpa using e1
      have ba := bounds_i64 wa
      have bb := bounds_i64 wb
      exact ⟨a, b, ad, l, cap, rfl, by omega, hi, ⟨by omega, by omega⟩, ⟨by omega, by omega⟩, hk⟩
def inGz (x : GZ) : Prop := inJ x.1 ∧ inJ x.2.1 ∧ (∀ k ∈ x.2.2, inJ k) ∧ x.2.2.length ≤ 9223372036854775807
set_option maxRecDepth 100000 in
theorem net_open {H : Type} {enc : TypeId × Value → H} {W : World} {spare : Nat → Bool} (fuel : Nat) (cs : List Value) (x : DataW H × List MemPlace)
    (h : DataW.trod enc Tryz.prog W 0 spare true fuel 25 cs = some x) :
    ∃ (ng no : Nat) (L : List GZ) (O : List Int) (ga oa : Option Addr) (gc oc : Nat), cs = [.slice ga ng gc, .slice oa no oc] ∧ L.length = ng ∧ O.length = no ∧ InGt (fun b => b < W.heap.size) W ga L ∧ InS (fun b => b < W.heap.size) W oa O ∧ (∀ x ∈ L, inGz x) ∧ (∀ k ∈ O, inJ k) ∧ L.length ≤ 9223372036854775807 ∧ O.length ≤ oc ∧ oc ≤ 9223372036854775807 := by
  obtain ⟨xs, n, rfl, _, hl, hlen, hf⟩ := DataW.trod_struct Tryz.underlying25 h
  rw [cellsNw] at hl
  match cs, hl with
  | [c0, c1], _ =>
    have hlen2 : xs.length = 2 := hlen
    match xs, hlen2 with
    | [y0, y1], _ =>
      have h0 : DataW.trod enc Tryz.prog W 0 spare true n 22 (List.take (Tryz.prog.cellsOf 22) [c0, c1]) = some y0 := hf 0 _ rfl
      have h1 : DataW.trod enc Tryz.prog W 0 spare true n 23 (List.take (Tryz.prog.cellsOf 23) [c1]) = some y1 := hf 1 _ rfl
      rw [cellsGs] at h0
      rw [cellsIs] at h1
      obtain ⟨oa, O, oc, rfl, ho1, ho2, hio, hko⟩ := ints_open n c1 y1 h1
      rcases DataW.trod_slice Tryz.underlying22 h0 with ⟨e2, _⟩ | ⟨ad, len, cap, elems, rest, n', rfl, e2, _, _, hlc, hcm, hel, hcs, _⟩
      · obtain rfl : c0 = .slice none 0 0 := by simpa using e2
        exact ⟨0, O.length, [], O, none, oa, 0, oc, rfl, rfl, rfl, inGt_nil _ _ _, hio, fun x hx => by (cases hx), hko, by simp, ho1, ho2⟩
      · obtain rfl : c0 = .slice (some ad) len cap := by simpa using e2
        rw [cellsGt] at hcs
        unfold maxLen at hcm
        rcases Nat.eq_zero_or_pos len with h00 | h00
        · subst h00
          exact ⟨0, O.length, [], O, some ad, oa, cap, oc, rfl, rfl, rfl, inGt_nil _ _ _, hio, fun x hx => by (cases hx), hko, by simp, ho1, ho2⟩
        · have hone : ∀ i, i < len → ∃ cs', W.cells? 0 (ad.add (i * 3)) 3 = some cs' ∧ ∃ (a b : Int) (ad : Option Addr) (l : List Int) (cap : Nat), cs' = [.int .i64 a, .int .i64 b, .slice ad l.length cap] ∧ l.length ≤ 9223372036854775807 ∧ InS (fun b => b < W.heap.size) W ad l ∧ inJ a ∧ inJ b ∧ ∀ k ∈ l, inJ k := fun i hi => by
            have hi' := hcs i hi
            rw [List.getElem?_eq_getElem (by omega)] at hi'
            obtain ⟨cs', q1, q2⟩ := Option.bind_eq_some_iff.1 hi'
            exact ⟨cs', q1, gate_open n' cs' _ q2⟩
          obtain ⟨b, off, spot⟩ := ad
          have hspot : spot = none := by
            obtain ⟨cs', q1, a, b', ad', l', cap', q2, _⟩ := hone 0 h00
            have q3 := (World.cells?_some q1).2.2 0 (by decide)
            rw [q2] at q3
            simpa [Addr.add] using World.cell?_spot q3
          subst hspot
          obtain ⟨f, hf'⟩ := choose_lt (α := GZ) (p := fun i t => CellG (fun b => b < W.heap.size) W b (off + i * 3) t ∧ inGz t) (fun i hi => by
            obtain ⟨cs', q1, a, b', ad', l', cap', rfl, il, is, ia, ib, ik⟩ := hone i hi
            have q3 := (World.cells?_some q1).2.2
            rw [Go.WideShapes.add_plain] at q3
            refine ⟨(a, b', l'), ⟨?_, ?_, ad', cap', ?_, is⟩, ia, ib, ik, il⟩
            · simpa [Go.WideShapes.add_plain] using q3 0 (by decide)
            · simpa [Go.WideShapes.add_plain] using q3 1 (by decide)
            · simpa [Go.WideShapes.add_plain] using q3 2 (by decide))
          refine ⟨len, O.length, (List.range len).map f, O, some ⟨b, off, none⟩, oa, cap, oc, rfl, by simp, rfl, fun _ => ⟨b, off, rfl, cell_ltN (hf' 0 h00).1.1, fun j t hj => ?_⟩, hio, fun t ht => ?_, hko, by simp; omega, ho1, ho2⟩
          · rw [List.getElem?_map] at hj
            obtain ⟨i, hi, rfl⟩ := Option.map_eq_some_iff.1 hj
            obtain ⟨hil, hij⟩ := List.getElem?_eq_some_iff.1 hi
            simp at hil hij
            subst hij
            exact (hf' _ hil).1
          · obtain ⟨i, hi, rfl⟩ := List.mem_map.1 ht
            exact (hf' i (List.mem_range.1 hi)).2
end Go.Proofs.YtlnedapimmabdaaGreatDoor
