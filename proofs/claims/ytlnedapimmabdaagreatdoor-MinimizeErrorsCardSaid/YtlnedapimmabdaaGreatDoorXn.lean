/- A network as an argument. -/
import Derived.Deep.Slices
import Derived.Deep.Strs
import Derived.Test.YtlnedapimmabdaaGreatDoorWrap
import Derived.Test.YtlnedapimmabdaaGreatDoorGm
namespace Go.Proofs.YtlnedapimmabdaaGreatDoor
set_option linter.unusedVariables false
set_option linter.unusedSimpArgs false
open Go.ChangeShapes Go.WideShapes Go.ChangeAt Go.RowKit Go.Joins Go.Deep Go.Maps

def inJ (k : Int) : Prop := -9223372036854775808 ≤ k ∧ k ≤ 9223372036854775807
theorem cellsGt : Tryz.prog.cellsOf 45 = 3 := by kernel_rfl
theorem cellsNw : Tryz.prog.cellsOf 25 = 2 := by kernel_rfl
theorem cellsI1 : Tryz.prog.cellsOf 3 = 1 := by kernel_rfl
theorem cellsIs : Tryz.prog.cellsOf 23 = 1 := by kernel_rfl
theorem cellsGs : Tryz.prog.cellsOf 22 = 1 := by kernel_rfl
theorem cell_ltN {W : World} {g o : Nat} {v : Value} (h : W.cell? ⟨g, o, none⟩ = some v) : g < W.heap.size := by
  rcases Nat.lt_or_ge g W.heap.size with hg | hg
  · exact hg
  · unfold World.cell? at h
    simp [Array.getElem?_eq_none hg] at h
theorem ints_open {H : Type} {enc : TypeId × Value → H} {W : World} {spare : Nat → Bool} (fuel : Nat) (c : Value) (x : DataW H × List MemPlace)
    (h : DataW.trod enc Tryz.prog W 0 spare true fuel 23 [c] = some x) : ∃ (ad : Option Addr) (l : List Int) (cap : Nat), c = .slice ad l.length cap ∧ l.length ≤ cap ∧ cap ≤ 9223372036854775807 ∧ InS (fun b => b < W.heap.size) W ad l ∧ ∀ k ∈ l, inJ k := by
  rcases open_ints Tryz.underlying23 Tryz.underlying3 cellsI1 h with ⟨hcs, hx⟩ | ⟨a, len, cap, zs, hcs, _, hl, hm, hz, hx, hcell, hwz⟩
  · obtain rfl : c = .slice none 0 0 := by simpa using hcs
    exact ⟨none, [], 0, rfl, Nat.le_refl _, by omega, inS_nil _ _ _, fun k hk => by cases hk⟩
  · obtain rfl : c = .slice (some a) len cap := by simpa using hcs
    have hzl : len ≤ zs.length := by rw [hz]; split <;> omega
    have hlen : (zs.take len).length = len := by rw [List.length_take]; omega
    refine ⟨some a, zs.take len, cap, by rw [hlen], by omega, by unfold maxLen at hm; omega, fun h0 => ?_, fun k hk => ?_⟩
    · rw [hlen] at h0
      obtain ⟨b, off, rfl, hc⟩ := ints_at hcell (by omega)
      refine ⟨b, off, rfl, cell_ltN (hc 0 (by omega)), fun j y hj => ?_⟩
      have hjl := (List.getElem?_eq_some_iff.1 hj).1
      rw [hlen] at hjl
      rw [hc j (by omega)]
      rw [List.getElem?_take, if_pos hjl] at hj
      rw [List.getD_eq_getElem?_getD, hj]
      rfl
    · have := bounds_i64 (hwz k (List.mem_of_mem_take hk))
      exact ⟨by omega, by omega⟩
set_option maxRecDepth 100000 in
theorem gate_open {H : Type} {enc : TypeId × Value → H} {W : World} {spare : Nat → Bool} (fuel : Nat) (cs : List Value) (x : DataW H × List MemPlace)
    (h : DataW.trod enc Tryz.prog W 0 spare true fuel 45 cs = some x) : ∃ (a b : Int) (ad : Option Addr) (l : List Int) (cap : Nat), cs = [.int .i64 a, .int .i64 b, .slice ad l.length cap] ∧ l.length ≤ 9223372036854775807 ∧ InS (fun b => b < W.heap.size) W ad l ∧ inJ a ∧ inJ b ∧ ∀ k ∈ l, inJ k := by
  obtain ⟨xs, n, rfl, _, hl, hlen, hf⟩ := DataW.trod_struct Tryz.underlying45 h
  rw [cellsGt] at hl
  match cs, hl with
  | [c0, c1, c2], _ =>
    have hlen3 : xs.length = 3 := hlen
    match xs, hlen3 with
    | [y0, y1, y2], _ =>
      have h0 : DataW.trod enc Tryz.prog W 0 spare true n 3 (List.take (Tryz.prog.cellsOf 3) [c0, c1, c2]) = some y0 := hf 0 _ rfl
      have h1 : DataW.trod enc Tryz.prog W 0 spare true n 3 (List.take (Tryz.prog.cellsOf 3) [c1, c2]) = some y1 := hf 1 _ rfl
      have h2 : DataW.trod enc Tryz.prog W 0 spare true n 23 (List.take (Tryz.prog.cellsOf 23) [c2]) = some y2 := hf 2 _ rfl
      rw [cellsI1] at h0 h1
      rw [cellsIs] at h2
      obtain ⟨a, e0, _, wa⟩ := DataW.trod_int Tryz.underlying3 h0
      obtain ⟨b, e1, _, wb⟩ := DataW.trod_int Tryz.underlying3 h1
      obtain ⟨ad, l, cap, rfl, hl1, hl2, hi, hk⟩ := ints_open n c2 y2 h2
      obtain rfl : c0 = .int .i64 a := by simpa using e0
      obtain rfl : c1 = .int .i64 b := by simpa using e1
      have ba := bounds_i64 wa
      have bb := bounds_i64 wb
      exact ⟨a, b, ad, l, cap, rfl, by omega, hi, ⟨by omega, by omega⟩, ⟨by omega, by omega⟩, hk⟩
def inGz (x : GZ) : Prop := inJ x.1 ∧ inJ x.2.1 ∧ (∀ k ∈ x.2.2, inJ k) ∧ x.2.2.length ≤ 9223372036854775807
set_option maxRecDepth 100000 in
theorem net_open {H : Type} {enc : TypeId × Value → H} {W : World} {spare : Nat → Bool} (fuel : Nat) (cs : List Value) (x : DataW H × List MemPlace)
    (h : DataW.trod enc Tryz.prog W 0 spare true fuel 25 cs = some x) :
    ∃ (ng no : Nat) (L : List GZ) (O : List Int) (ga oa : Option Addr) (gc oc : Nat), cs = [.slice ga ng gc, .slice oa no oc] ∧ L.length = ng ∧ O.length = no ∧ InGt (fun b => b < W.heap.size) W ga L ∧ InS (fun b => b < W.heap.size) W oa O ∧ (∀ x ∈ L, inGz x) ∧ (∀ k ∈ O, inJ k) ∧ L.length ≤ 9223372036854775807 ∧ O.length ≤ oc ∧ oc ≤ 9223372036854775807 := by
  obtain ⟨xs, n, rfl, _, hl, hlen, hf⟩ := DataW.trod_struct Tryz.underlying25 h
  rw [cellsNw] at hl
  match cs, hl with
  | [c0, c1], _ =>
    have hlen2 : xs.length = 2 := hlen
    match xs, hlen2 with
    | [y0, y1], _ =>
      have h0 : DataW.trod enc Tryz.prog W 0 spare true n 22 (List.take (Tryz.prog.cellsOf 22) [c0, c1]) = some y0 := hf 0 _ rfl
      have h1 : DataW.trod enc Tryz.prog W 0 spare true n 23 (List.take (Tryz.prog.cellsOf 23) [c1]) = some y1 := hf 1 _ rfl
      rw [cellsGs] at h0
      rw [cellsIs] at h1
      obtain ⟨oa, O, oc, rfl, ho1, ho2, hio, hko⟩ := ints_open n c1 y1 h1
      rcases DataW.trod_slice Tryz.underlying22 h0 with ⟨e2, _⟩ | ⟨ad, len, cap, elems, rest, n', rfl, e2, _, _, hlc, hcm, hel, hcs, _⟩
      · obtain rfl : c0 = .slice none 0 0 := by simpa using e2
        exact ⟨0, O.length, [], O, none, oa, 0, oc, rfl, rfl, rfl, inGt_nil _ _ _, hio, fun x hx => by (cases hx), hko, by simp, ho1, ho2⟩
      · obtain rfl : c0 = .slice (some ad) len cap := by simpa using e2
        rw [cellsGt] at hcs
        unfold maxLen at hcm
        rcases Nat.eq_zero_or_pos len with h00 | h00
        · subst h00
          exact ⟨0, O.length, [], O, some ad, oa, cap, oc, rfl, rfl, rfl, inGt_nil _ _ _, hio, fun x hx => by (cases hx), hko, by simp, ho1, ho2⟩
        · have hone : ∀ i, i < len → ∃ cs', W.cells? 0 (ad.add (i * 3)) 3 = some cs' ∧ ∃ (a b : Int) (ad : Option Addr) (l : List Int) (cap : Nat), cs' = [.int .i64 a, .int .i64 b, .slice ad l.length cap] ∧ l.length ≤ 9223372036854775807 ∧ InS (fun b => b < W.heap.size) W ad l ∧ inJ a ∧ inJ b ∧ ∀ k ∈ l, inJ k := fun i hi => by
            have hi' := hcs i hi
            rw [List.getElem?_eq_getElem (by omega)] at hi'
            obtain ⟨cs', q1, q2⟩ := Option.bind_eq_some_iff.1 hi'
            exact ⟨cs', q1, gate_open n' cs' _ q2⟩
          obtain ⟨b, off, spot⟩ := ad
          have hspot : spot = none := by
            obtain ⟨cs', q1, a, b', ad', l', cap', q2, _⟩ := hone 0 h00
            have q3 := (World.cells?_some q1).2.2 0 (by decide)
            rw [q2] at q3
            simpa [Addr.add] using World.cell?_spot q3
          subst hspot
          obtain ⟨f, hf'⟩ := choose_lt (α := GZ) (p := fun i t => CellG (fun b => b < W.heap.size) W b (off + i * 3) t ∧ inGz t) (fun i hi => by
            obtain ⟨cs', q1, a, b', ad', l', cap', rfl, il, is, ia, ib, ik⟩ := hone i hi
            have q3 := (World.cells?_some q1).2.2
            rw [Go.WideShapes.add_plain] at q3
            refine ⟨(a, b', l'), ⟨?_, ?_, ad', cap', ?_, is⟩, ia, ib, ik, il⟩
            · simpa [Go.WideShapes.add_plain] using q3 0 (by decide)
            · simpa [Go.WideShapes.add_plain] using q3 1 (by decide)
            · simpa [Go.WideShapes.add_plain] using q3 2 (by decide))
          refine ⟨len, O.length, (List.range len).map f, O, some ⟨b, off, none⟩, oa, cap, oc, rfl, by simp, rfl, fun _ => ⟨b, off, rfl, cell_ltN (hf' 0 h00).1.1, fun j t hj => ?_⟩, hio, fun t ht => ?_, hko, by simp; omega, ho1, ho2⟩
          · rw [List.getElem?_map] at hj
            obtain ⟨i, hi, rfl⟩ := Option.map_eq_some_iff.1 hj
            obtain ⟨hil, hij⟩ := List.getElem?_eq_some_iff.1 hi
            simp at hil hij
            subst hij
            exact (hf' _ hil).1
          · obtain ⟨i, hi, rfl⟩ := List.mem_map.1 ht
            exact (hf' i (List.mem_range.1 hi)).2
theorem weightsAll_mem {H : Type} {p : Program} {e : TypeId} : ∀ {l : List (DataW H)} {d : DataW H}, d ∈ l → ∀ n ∈ DataW.weights p e d, n ∈ DataW.weightsAll p e l
  | y :: r, d, h, n, hn => by
    rw [DataW.weightsAll]
    rcases List.mem_cons.1 h with rfl | h
    · exact List.mem_append.2 (.inl hn)
    · exact List.mem_append.2 (.inr (weightsAll_mem h n hn))
theorem bytesI1 : Tryz.prog.bytesOf 3 = 8 := by kernel_rfl
theorem typesGt : ∃ fs : Array Field, Tryz.prog.underlying 45 = some (.struct fs) ∧ fs.toList.map (·.type) = [3, 3, 23] := ⟨_, Tryz.underlying45, rfl⟩
theorem typesNw : ∃ fs : Array Field, Tryz.prog.underlying 25 = some (.struct fs) ∧ fs.toList.map (·.type) = [22, 23] := ⟨_, Tryz.underlying25, rfl⟩
section
variable {H : Type} {enc : TypeId × Value → H} {W : World} {spare : Nat → Bool}
theorem ints_pay (fuel : Nat) (ad : Option Addr) (len cap : Nat) (x : DataW H × List MemPlace) (h : DataW.trod enc Tryz.prog W 0 spare true fuel 23 [.slice ad len cap] = some x)
    (hp : ∀ n ∈ DataW.weights Tryz.prog 23 x.1, n ≤ reachBytes) : len ≤ 17592186044416 := by
  rcases open_ints Tryz.underlying23 Tryz.underlying3 cellsI1 h with ⟨hcs, hx⟩ | ⟨a, n, c, zs, hcs, _, hl, hm, hz, rfl, hcell, hwz⟩
  · injection hcs with h1 _
    injection h1 with _ h2 _
    omega
  · injection hcs with h1 _
    injection h1 with _ h2 _
    subst h2
    have hzl : len ≤ zs.length := by rw [hz]; split <;> omega
    have := hp ((len + (zs.length - len)) * 8) (by
      rw [DataW.weights, Tryz.underlying23]
      show _ ∈ _ * Tryz.prog.bytesOf 3 :: _
      rw [bytesI1]
      refine List.mem_cons.2 (.inl ?_)
      simp [lits]
      omega)
    unfold reachBytes at this
    omega
set_option maxRecDepth 100000 in
theorem gate_pay (fuel : Nat) (c0 c1 : Value) (ad : Option Addr) (len cap : Nat) (x : DataW H × List MemPlace) (h : DataW.trod enc Tryz.prog W 0 spare true fuel 45 [c0, c1, .slice ad len cap] = some x)
    (hp : ∀ n ∈ DataW.weights Tryz.prog 45 x.1, n ≤ reachBytes) : len ≤ 17592186044416 := by
  obtain ⟨xs, n, rfl, rfl, hl, hlen, hf⟩ := DataW.trod_struct Tryz.underlying45 h
  have hlen3 : xs.length = 3 := hlen
  match xs, hlen3 with
  | [y0, y1, y2], _ =>
    have h2 : DataW.trod enc Tryz.prog W 0 spare true n 23 (List.take (Tryz.prog.cellsOf 23) [.slice ad len cap]) = some y2 := hf 2 _ rfl
    rw [cellsIs] at h2
    refine ints_pay n ad len cap y2 h2 fun k hk => hp k ?_
    obtain ⟨fs, e1, e2⟩ := typesGt
    rw [DataW.weights, e1]
    show k ∈ DataW.weightsEach _ (fs.toList.map (·.type)) _
    rw [e2]
    simp only [List.map_cons, List.map_nil, DataW.weightsEach]
    exact List.mem_append.2 (.inr (List.mem_append.2 (.inr (List.mem_append.2 (.inl hk)))))
set_option maxRecDepth 100000 in
theorem net_pay (fuel : Nat) (ga : Option Addr) (ng gc : Nat) (c1 : Value) (x : DataW H × List MemPlace) (h : DataW.trod enc Tryz.prog W 0 spare true fuel 25 [.slice ga ng gc, c1] = some x)
    (hp : ∀ n ∈ DataW.weights Tryz.prog 25 x.1, n ≤ reachBytes) {P : Nat → Prop} {L : List GZ} (hL : L.length = ng) (hg : InGt P W ga L) : ∀ g ∈ L, g.2.2.length ≤ 17592186044416 := by
  obtain ⟨xs, n, rfl, rfl, hl, hlen, hf⟩ := DataW.trod_struct Tryz.underlying25 h
  have hlen2 : xs.length = 2 := hlen
  match xs, hlen2 with
  | [y0, y1], _ =>
    have h0 : DataW.trod enc Tryz.prog W 0 spare true n 22 (List.take (Tryz.prog.cellsOf 22) [.slice ga ng gc, c1]) = some y0 := hf 0 _ rfl
    rw [cellsGs] at h0
    have hp0 : ∀ k ∈ DataW.weights Tryz.prog 22 y0.1, k ≤ reachBytes := fun k hk => hp k (by
      obtain ⟨fs, e1, e2⟩ := typesNw
      rw [DataW.weights, e1]
      show k ∈ DataW.weightsEach _ (fs.toList.map (·.type)) _
      rw [e2]
      simp only [List.map_cons, List.map_nil, DataW.weightsEach]
      exact List.mem_append.2 (.inl hk))
    intro g hgm
    obtain ⟨j, hj⟩ := List.mem_iff_getElem?.1 hgm
    have hjl := (List.getElem?_eq_some_iff.1 hj).1
    rcases DataW.trod_slice Tryz.underlying22 h0 with ⟨e2, _⟩ | ⟨ad, len, cap, elems, rest, n', rfl, e2, rfl, _, hlc, hcm, hel, hcs, _⟩
    · injection e2 with e2 _
      injection e2 with _ e3 _
      omega
    · injection e2 with e2 _
      injection e2 with e1 e3 e4
      subst e1 e3 e4
      rw [cellsGt] at hcs
      have hi' := hcs j (by omega)
      rw [List.getElem?_eq_getElem (by omega)] at hi'
      obtain ⟨cs', q1, q2⟩ := Option.bind_eq_some_iff.1 hi'
      obtain ⟨a, b, ad', l, cap', rfl, _⟩ := gate_open n' cs' _ q2
      have q3 := (World.cells?_some q1).2.2 2 (by decide)
      obtain ⟨b3, o3, e5, _, hc⟩ := hg (by omega)
      injection e5 with e5
      subst e5
      obtain ⟨_, _, a4, c4, hc3, _⟩ := hc j g hj
      have e6 : W.cell? (((⟨b3, o3, none⟩ : Addr).add (j * 3)).add 2) = some (.slice ad' l.length cap') := by simpa using q3
      have e7 : W.cell? (((⟨b3, o3, none⟩ : Addr).add (j * 3)).add 2) = some (.slice a4 g.2.2.length c4) := by simpa [Go.WideShapes.add_plain] using hc3
      rw [e6] at e7
      injection e7 with e7
      injection e7 with _ e8 _
      rw [← e8]
      refine gate_pay n' _ _ ad' l.length cap' _ q2 fun k hk => hp0 k ?_
      rw [DataW.weights, Tryz.underlying22]
      refine List.mem_cons.2 (.inr (List.mem_append.2 (.inl (weightsAll_mem (List.mem_map.2 ⟨_, List.getElem_mem _, rfl⟩) k hk))))
end
end Go.Proofs.YtlnedapimmabdaaGreatDoor
