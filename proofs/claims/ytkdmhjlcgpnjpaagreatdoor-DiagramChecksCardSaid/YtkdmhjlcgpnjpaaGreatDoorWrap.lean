/- From a law's walk to its statement: what every law of this seat needs; rows of bytes and booleans in the caller's memory as lists. -/
import Derived.Test.YtkdmhjlcgpnjpaaGreatDoorCm
import Derived.ProofKit
import Derived.OpenShut
import Derived.Lib.SmallJoins
import Derived.Deep.DeepHandedRow
import Derived.Lib.LaidTab
import Derived.Stop.LaidErr
import Derived.Test.YtkdmhjlcgpnjpaaGreatDoorH3
import Derived.Test.YtkdmhjlcgpnjpaaGreatDoorRows
import Derived.Test.YtkdmhjlcgpnjpaaGreatDoorCards
import Derived.Test.YtkdmhjlcgpnjpaaGreatDoorTie
import Derived.SevenTiedAt
import Derived.Lib.TrailingZeros
import Derived.Deep.Grids
namespace Go.Proofs.YtkdmhjlcgpnjpaaGreatDoor
set_option linter.unusedVariables false
set_option linter.unusedSimpArgs false
open Go.ChangeShapes Go.WideShapes Go.ChangeAt Go.RowKit Go.Joins

theorem trodAll_below {H : Type} {enc : TypeId × Value → H} {P : Program} (hl : laidOutB P = true) {W W' : World} (hb : Below W.heap.size W W') :
    ∀ (ts : List TypeId) (vs : List Value) (ds : List (DataW H)) (ps : List MemPlace), (ts.all fun t => P.readableRec t && decide (t < P.types.size)) = true → (∀ x ∈ ps, x.block < W.heap.size) →
      DataW.TrodAll enc P W 0 (fun _ => true) true ts vs ds ps → DataW.TrodAll enc P W' 0 (fun b => decide (b < W.heap.size)) true ts vs ds ps
  | [], vs, ds, ps, _, _, h => by
    obtain ⟨rfl, rfl, rfl⟩ := trodAll_nil h
    exact trodAll_mk0
  | t :: ts, vs, ds, ps, ht, hlt, h => by
    obtain ⟨v, vs', d, ds', p, q, rfl, rfl, rfl, h0, h1⟩ := trodAll_cons h
    simp only [List.all_cons, Bool.and_eq_true, decide_eq_true_iff] at ht
    exact trodAll_cons_mk (Below.trod hl ht.1.1 ht.1.2 h0 hb (fun x hx => hlt x (List.mem_append_left _ hx)))
      (trodAll_below hl hb ts vs' ds' q ht.2 (fun x hx => hlt x (List.mem_append_right _ hx)) h1)

/-- The law's row: it returned true, and all that lay there lies as it lay. -/
theorem law_post {H : Type} {enc : TypeId × Value → H} {P : Program} {f : Func} {s : ChangeSpec} {apart fresh handsOn : Bool} {W W' : World} {args : Array Value} {ds gs : List (DataW H)} {before : List MemPlace} (tb : TypeId)
    (hl : laidOutB P = true) (htb : P.underlying tb = some .bool) (hres : f.resultTypes = #[tb]) (hts : (f.params.toList.all fun t => P.readableRec t && decide (t < P.types.size)) = true)
    (hvars : s.vars = []) (hfn : s.fn H (ds ++ gs) = { results := [.lit (.bool true)], args := ds })
    (hW : DataW.Whole enc P f.params.toList s.vars apart W args.toList ds gs before) (hb : Below W.heap.size W W') :
    s.post enc P f apart fresh handsOn false W args (.bool true) W' := by
  have hlt : ∀ p ∈ before, p.block < W.heap.size := fun p hp => hW.lt p hp
  have hW' := hW
  obtain ⟨p, q, hA, hV, rfl, hz, hn⟩ := hW
  rw [hvars] at hV
  obtain ⟨rfl, rfl⟩ := trodVars_none hV
  refine ⟨ds, [], _, [], p, [], hW', ?_, ?_, ?_, World.keptBut_mono (fun x hx => ⟨hx, .inr (.inl (by simpa using hx))⟩) (hb.frame (· ∈ p ++ [])), fun h => by cases h⟩
  · rw [hfn, hres]
    exact trodAll_mk1 (shut_bool htb _)
  · rw [hfn]
    exact trodAll_below hl hb _ _ _ _ hts (fun x hx => hlt x (by simpa using hx)) hA
  · rw [hfn, hvars]
    rfl

/-- A block's cells laid anew. -/
def layAt (h : Array Obj) (i : Nat) (cs : Array Value) : Array Obj := h.modify i fun
  | .cells _ t frozen => .cells cs t frozen
  | o => o
end Go.Proofs.YtkdmhjlcgpnjpaaGreatDoor

namespace Go.Proofs.YtkdmhjlcgpnjpaaGreatDoor
set_option linter.unusedVariables false
set_option linter.unusedSimpArgs false
open Go.ChangeShapes Go.WideShapes Go.ChangeAt Go.RowKit Go.Joins

theorem own : ownKnob Tryz.prog.godebug = none := by kernel_rfl
theorem laidOut : laidOutB Tryz.prog = true := by kernel_rfl
theorem gPowT : (Tryz.prog.globals[0]?).map (·.type) = some 211 := by kernel_rfl
theorem cellsU64 : Tryz.prog.cellsOf 36 = 1 := by kernel_rfl
theorem cellsU8 : Tryz.prog.cellsOf 5 = 1 := by kernel_rfl
theorem cellsA20 : Tryz.prog.cellsOf 211 = 20 := by kernel_rfl
abbrev laid5 : List (String × DataW Unit) := [("math/bits.deBruijn32tab", Rows.laid_math_bits_deBruijn32tab), ("math/bits.deBruijn64tab", Rows.laid_math_bits_deBruijn64tab), ("internal/strconv.uint64pow10", Rows.laid_internal_strconv_uint64pow10), ("strconv.ErrRange", Rows.laid_strconv_ErrRange), ("strconv.ErrSyntax", Rows.laid_strconv_ErrSyntax)]
/-- What the rows' lists give. -/
theorem lib_of {W : World} (h : laidMetH Tryz.prog laid5 W) : Tab W := by
  have h' : laidMet Tryz.prog laid5 W := h
  exact Lib.tabIs_of_head (rest := laid5.tail.tail.tail) gTab gPowT Tryz.underlying211 Tryz.underlying36 cellsU64 cellsA20 h'.tail.tail
/-- The heap of a world for the witness: the settled one, the tables and the errors laid as their initialisers lay them. -/
def laidHeap (h : Array Obj) : Array Obj :=
  ((layAt (layAt (layAt (layAt (layAt h 5 ((Lib.deBruijn64tab.map fun n : Nat => Value.int .u8 (n : Int)).toArray)) 4 ((Lib.deBruijn32tab.map fun n : Nat => Value.int .u8 (n : Int)).toArray)) 0 ((Lib.pow10Tab.map fun z => Value.int .u64 z).toArray))
    2 #[.iface 239 (.pointer (some ⟨h.size, 0, none⟩))]) 1 #[.iface 239 (.pointer (some ⟨h.size + 1, 0, none⟩))]).push (.cells #[.string ⟨#[118, 97, 108, 117, 101, 32, 111, 117, 116, 32, 111, 102, 32, 114, 97, 110, 103, 101]⟩] 241)).push (.cells #[.string ⟨#[105, 110, 118, 97, 108, 105, 100, 32, 115, 121, 110, 116, 97, 120]⟩] 241)
noncomputable def laidWorld (os : Os) : World := { World.holding Tryz.prog os ⟨#[], #[], []⟩ with heap := laidHeap (World.holding Tryz.prog os ⟨#[], #[], []⟩).heap }
end Go.Proofs.YtkdmhjlcgpnjpaaGreatDoor

namespace Go.Proofs.YtkdmhjlcgpnjpaaGreatDoor
set_option linter.unusedVariables false
set_option linter.unusedSimpArgs false
open Go.ChangeShapes Go.WideShapes Go.ChangeAt Go.RowKit Go.Joins

theorem code_of {H : Type} {enc : TypeId × Value → H} {W : World} {spare : Nat → Bool} {fuel : Nat} {a0 : Option Addr} {len cap : Nat} {x : DataW H × List MemPlace}
    (h : DataW.trod enc Tryz.prog W 0 spare true fuel 22 (Value.cells (.slice a0 len cap)).toList = some x) :
    ∃ code : List UInt8, code.length = len ∧ ShowsV W (.slice a0 len cap) (code.map fun c => .int .u8 (c.toNat : Int)) := by
  rcases open_ints Tryz.underlying22 Tryz.underlying5 cellsU8 h with ⟨hcs, hx⟩ | ⟨a, len', cap', zs, hcs, _, hl, hm, hz, hx, hcell, hwz⟩
  · simp [Value.cells] at hcs
    obtain ⟨rfl, rfl, rfl⟩ := hcs
    exact ⟨[], rfl, .inl ⟨rfl, none, 0, rfl⟩⟩
  · simp [Value.cells] at hcs
    obtain ⟨rfl, rfl, rfl⟩ := hcs
    have hzl : len ≤ zs.length := by rw [hz]; split <;> omega
    refine ⟨(zs.take len).map fun z => UInt8.ofNat z.toNat, by simp; omega, ?_⟩
    have hback : ∀ z ∈ zs, ((UInt8.ofNat z.toNat).toNat : Int) = z := fun z hzm => by
      have := bounds_u8 (hwz z hzm)
      rw [UInt8.toNat_ofNat']
      omega
    have hmap : ((zs.take len).map fun z => UInt8.ofNat z.toNat).map (fun c => Value.int .u8 (c.toNat : Int)) = (zs.take len).map fun z => Value.int .u8 z := by
      rw [List.map_map]
      refine List.map_congr_left fun z hzm => ?_
      simp only [Function.comp]
      rw [hback z (List.mem_of_mem_take hzm)]
    rw [hmap]
    by_cases h0 : 0 < len
    · obtain ⟨b, off, rfl, hc⟩ := ints_at hcell (by omega)
      have hlen : (zs.take len).length = len := by rw [List.length_take]; omega
      refine .inr ⟨b, off, cap, by simp [hlen, List.length_map]; omega, by simp; omega, fun j y hj => ?_⟩
      rw [List.getElem?_map] at hj
      obtain ⟨z, hz1, rfl⟩ := Option.map_eq_some_iff.1 hj
      have hjl := (List.getElem?_eq_some_iff.1 hz1).1
      rw [hlen] at hjl
      rw [hc j (by omega)]
      rw [List.getElem?_take, if_pos hjl] at hz1
      rw [List.getD_eq_getElem?_getD, hz1]
      rfl
    · obtain rfl : len = 0 := by omega
      exact .inl ⟨by simp, _, _, rfl⟩
end Go.Proofs.YtkdmhjlcgpnjpaaGreatDoor
