/- From a law's walk to its statement: what every law of this seat needs; rows of bytes and booleans in the caller's memory as lists. The walk of DiagramLiterals. The statement DiagramLiterals is proved: for any variable and any value, Literal returns a diagram of one node, or ErrRange, and Constant none. The row lists tables and errors of the library; the card ties them to the program's text. -/
import Derived.Test.YtkdmhjlcgpnjpaaGreatDoorCm
import Derived.ProofKit
import Derived.OpenShut
import Derived.Lib.SmallJoins
import Derived.Deep.DeepHandedRow
import Derived.Lib.LaidTab
import Derived.Stop.LaidErr
import Derived.Test.YtkdmhjlcgpnjpaaGreatDoorH3
import Derived.Test.YtkdmhjlcgpnjpaaGreatDoorRows
import Derived.Test.YtkdmhjlcgpnjpaaGreatDoorCards
import Derived.Test.YtkdmhjlcgpnjpaaGreatDoorTie
import Derived.SevenTiedAt
import Derived.Lib.TrailingZeros
import Derived.Deep.Grids
import Derived.Test.YtkdmhjlcgpnjpaaGreatDoorX28
namespace Go.Proofs.YtkdmhjlcgpnjpaaGreatDoor
set_option linter.unusedVariables false
set_option linter.unusedSimpArgs false
open Go.ChangeShapes Go.WideShapes Go.ChangeAt Go.RowKit Go.Joins

theorem trodAll_below {H : Type} {enc : TypeId × Value → H} {P : Program} (hl : laidOutB P = true) {W W' : World} (hb : Below W.heap.size W W') :
    ∀ (ts : List TypeId) (vs : List Value) (ds : List (DataW H)) (ps : List MemPlace), (ts.all fun t => P.readableRec t && decide (t < P.types.size)) = true → (∀ x ∈ ps, x.block < W.heap.size) →
      DataW.TrodAll enc P W 0 (fun _ => true) true ts vs ds ps → DataW.TrodAll enc P W' 0 (fun b => decide (b < W.heap.size)) true ts vs ds ps
  | [], vs, ds, ps, _, _, h => by
    obtain ⟨rfl, rfl, rfl⟩ := trodAll_nil h
    exact trodAll_mk0
  | t :: ts, vs, ds, ps, ht, hlt, h => by
    obtain ⟨v, vs', d, ds', p, q, rfl, rfl, rfl, h0, h1⟩ := trodAll_cons h
    simp only [List.all_cons, Bool.and_eq_true, decide_eq_true_iff] at ht
    exact trodAll_cons_mk (Below.trod hl ht.1.1 ht.1.2 h0 hb (fun x hx => hlt x (List.mem_append_left _ hx)))
      (trodAll_below hl hb ts vs' ds' q ht.2 (fun x hx => hlt x (List.mem_append_right _ hx)) h1)

/-- The law's row: it returned true, and all that lay there lies as it lay. -/
theorem law_post {H : Type} {enc : TypeId × Value → H} {P : Program} {f : Func} {s : ChangeSpec} {apart fresh handsOn : Bool} {W W' : World} {args : Array Value} {ds gs : List (DataW H)} {before : List MemPlace} (tb : TypeId)
    (hl : laidOutB P = true) (htb : P.underlying tb = some .bool) (hres : f.resultTypes = #[tb]) (hts : (f.params.toList.all fun t => P.readableRec t && decide (t < P.types.size)) = true)
    (hvars : s.vars = []) (hfn : s.fn H (ds ++ gs) = { results := [.lit (.bool true)], args := ds })
    (hW : DataW.Whole enc P f.params.toList s.vars apart W args.toList ds gs before) (hb : Below W.heap.size W W') :
    s.post enc P f apart fresh handsOn false W args (.bool true) W' := by
  have hlt : ∀ p ∈ before, p.block < W.heap.size := fun p hp => hW.lt p hp
  have hW' := hW
  obtain ⟨p, q, hA, hV, rfl, hz, hn⟩ := hW
  rw [hvars] at hV
  obtain ⟨rfl, rfl⟩ := trodVars_none hV
  refine ⟨ds, [], _, [], p, [], hW', ?_, ?_, ?_, World.keptBut_mono (fun x hx => ⟨hx, .inr (.inl (by simpa using hx))⟩) (hb.frame (· ∈ p ++ [])), fun h => by cases h⟩
  · rw [hfn, hres]
    exact trodAll_mk1 (shut_bool htb _)
  · rw [hfn]
    exact trodAll_below hl hb _ _ _ _ hts (fun x hx => hlt x (by simpa using hx)) hA
  · rw [hfn, hvars]
    rfl

/-- A block's cells laid anew. -/
def layAt (h : Array Obj) (i : Nat) (cs : Array Value) : Array Obj := h.modify i fun
  | .cells _ t frozen => .cells cs t frozen
  | o => o
end Go.Proofs.YtkdmhjlcgpnjpaaGreatDoor

namespace Go.Proofs.YtkdmhjlcgpnjpaaGreatDoor
set_option linter.unusedVariables false
set_option linter.unusedSimpArgs false
open Go.ChangeShapes Go.WideShapes Go.ChangeAt Go.RowKit Go.Joins

theorem own : ownKnob Tryz.prog.godebug = none := by kernel_rfl
theorem laidOut : laidOutB Tryz.prog = true := by kernel_rfl
theorem gPowT : (Tryz.prog.globals[0]?).map (·.type) = some 211 := by kernel_rfl
theorem cellsU64 : Tryz.prog.cellsOf 36 = 1 := by kernel_rfl
theorem cellsU8 : Tryz.prog.cellsOf 5 = 1 := by kernel_rfl
theorem cellsA20 : Tryz.prog.cellsOf 211 = 20 := by kernel_rfl
theorem cellsBool : Tryz.prog.cellsOf 4 = 1 := by kernel_rfl
abbrev laid5 : List (String × DataW Unit) := [("math/bits.deBruijn32tab", Rows.laid_math_bits_deBruijn32tab), ("math/bits.deBruijn64tab", Rows.laid_math_bits_deBruijn64tab), ("internal/strconv.uint64pow10", Rows.laid_internal_strconv_uint64pow10), ("strconv.ErrRange", Rows.laid_strconv_ErrRange), ("strconv.ErrSyntax", Rows.laid_strconv_ErrSyntax)]
/-- What the rows' lists give. -/
theorem lib_of {W : World} (h : laidMetH Tryz.prog laid5 W) : Tab W := by
  have h' : laidMet Tryz.prog laid5 W := h
  exact Lib.tabIs_of_head (rest := laid5.tail.tail.tail) gTab gPowT Tryz.underlying211 Tryz.underlying36 cellsU64 cellsA20 h'.tail.tail
/-- The heap of a world for the witness: the settled one, the tables and the errors laid as their initialisers lay them. -/
def laidHeap (h : Array Obj) : Array Obj :=
  ((layAt (layAt (layAt (layAt (layAt h 5 ((Lib.deBruijn64tab.map fun n : Nat => Value.int .u8 (n : Int)).toArray)) 4 ((Lib.deBruijn32tab.map fun n : Nat => Value.int .u8 (n : Int)).toArray)) 0 ((Lib.pow10Tab.map fun z => Value.int .u64 z).toArray))
    2 #[.iface 239 (.pointer (some ⟨h.size, 0, none⟩))]) 1 #[.iface 239 (.pointer (some ⟨h.size + 1, 0, none⟩))]).push (.cells #[.string ⟨#[118, 97, 108, 117, 101, 32, 111, 117, 116, 32, 111, 102, 32, 114, 97, 110, 103, 101]⟩] 241)).push (.cells #[.string ⟨#[105, 110, 118, 97, 108, 105, 100, 32, 115, 121, 110, 116, 97, 120]⟩] 241)
noncomputable def laidWorld (os : Os) : World := { World.holding Tryz.prog os ⟨#[], #[], []⟩ with heap := laidHeap (World.holding Tryz.prog os ⟨#[], #[], []⟩).heap }
end Go.Proofs.YtkdmhjlcgpnjpaaGreatDoor

namespace Go.Proofs.YtkdmhjlcgpnjpaaGreatDoor
set_option linter.unusedVariables false
set_option linter.unusedSimpArgs false
open Go.ChangeShapes Go.WideShapes Go.ChangeAt Go.RowKit Go.Joins

theorem code_of {H : Type} {enc : TypeId × Value → H} {W : World} {spare : Nat → Bool} {fuel : Nat} {a0 : Option Addr} {len cap : Nat} {x : DataW H × List MemPlace}
    (h : DataW.trod enc Tryz.prog W 0 spare true fuel 22 (Value.cells (.slice a0 len cap)).toList = some x) :
    ∃ code : List UInt8, code.length = len ∧ ShowsV W (.slice a0 len cap) (code.map fun c => .int .u8 (c.toNat : Int)) := by
  rcases open_ints Tryz.underlying22 Tryz.underlying5 cellsU8 h with ⟨hcs, hx⟩ | ⟨a, len', cap', zs, hcs, _, hl, hm, hz, hx, hcell, hwz⟩
  · simp [Value.cells] at hcs
    obtain ⟨rfl, rfl, rfl⟩ := hcs
    exact ⟨[], rfl, .inl ⟨rfl, none, 0, rfl⟩⟩
  · simp [Value.cells] at hcs
    obtain ⟨rfl, rfl, rfl⟩ := hcs
    have hzl : len ≤ zs.length := by rw [hz]; split <;> omega
    refine ⟨(zs.take len).map fun z => UInt8.ofNat z.toNat, by simp; omega, ?_⟩
    have hback : ∀ z ∈ zs, ((UInt8.ofNat z.toNat).toNat : Int) = z := fun z hzm => by
      have := bounds_u8 (hwz z hzm)
      rw [UInt8.toNat_ofNat']
      omega
    have hmap : ((zs.take len).map fun z => UInt8.ofNat z.toNat).map (fun c => Value.int .u8 (c.toNat : Int)) = (zs.take len).map fun z => Value.int .u8 z := by
      rw [List.map_map]
      refine List.map_congr_left fun z hzm => ?_
      simp only [Function.comp]
      rw [hback z (List.mem_of_mem_take hzm)]
    rw [hmap]
    by_cases h0 : 0 < len
    · obtain ⟨b, off, rfl, hc⟩ := ints_at hcell (by omega)
      have hlen : (zs.take len).length = len := by rw [List.length_take]; omega
      refine .inr ⟨b, off, cap, by simp [hlen, List.length_map]; omega, by simp; omega, fun j y hj => ?_⟩
      rw [List.getElem?_map] at hj
      obtain ⟨z, hz1, rfl⟩ := Option.map_eq_some_iff.1 hj
      have hjl := (List.getElem?_eq_some_iff.1 hz1).1
      rw [hlen] at hjl
      rw [hc j (by omega)]
      rw [List.getElem?_take, if_pos hjl] at hz1
      rw [List.getD_eq_getElem?_getD, hz1]
      rfl
    · obtain rfl : len = 0 := by omega
      exact .inl ⟨by simp, _, _, rfl⟩
theorem bools_of {H : Type} {enc : TypeId × Value → H} {W : World} {fuel : Nat} {a0 : Option Addr} {len cap : Nat} {x : DataW H × List MemPlace}
    (h : DataW.trod enc Tryz.prog W 0 (fun _ => true) true fuel 48 (Value.cells (.slice a0 len cap)).toList = some x) :
    ∃ bl : List Bool, bl.length = len ∧ ShowsV W (.slice a0 len cap) (bl.map Value.bool) := by
  rcases Go.Deep.open_bools Tryz.underlying48 Tryz.underlying4 cellsBool h with ⟨hcs, hx⟩ | ⟨a, len', cap', B, hcs, _, hl, hm, hx, hcell⟩
  · simp [Value.cells] at hcs
    obtain ⟨rfl, rfl, rfl⟩ := hcs
    exact ⟨[], rfl, .inl ⟨rfl, none, 0, rfl⟩⟩
  · simp [Value.cells] at hcs
    obtain ⟨rfl, rfl, rfl⟩ := hcs
    refine ⟨(List.range len).map B, by simp, ?_⟩
    by_cases h0 : 0 < len
    · obtain ⟨b, off, spot⟩ := a
      have hspot : spot = none := by simpa [Addr.add] using World.cell?_spot (hcell 0 (by omega))
      subst hspot
      refine .inr ⟨b, off, cap, by simp, by simp; omega, fun j y hj => ?_⟩
      rw [List.map_map, List.getElem?_map] at hj
      obtain ⟨i, hi, rfl⟩ := Option.map_eq_some_iff.1 hj
      obtain ⟨hil, hij⟩ := List.getElem?_eq_some_iff.1 hi
      simp at hil hij
      subst hij
      rw [← Go.WideShapes.add_plain]
      exact hcell j (by omega)
    · obtain rfl : len = 0 := by omega
      exact .inl ⟨by simp, _, _, rfl⟩
end Go.Proofs.YtkdmhjlcgpnjpaaGreatDoor

namespace Go.Proofs.YtkdmhjlcgpnjpaaGreatDoor
set_option linter.unusedVariables false
set_option linter.unusedSimpArgs false
open Go.RowKit Go.Maps
attribute [local go_sem low] Bel.cell Bel.frozen alloc_cell alloc_frozen
attribute [local go_sem] calmOp chainOp yieldsC grows

set_option maxRecDepth 100000 in
set_option maxHeartbeats 12800000 in
theorem lawLiterals_any (v : Int) (b : Bool) (w : World) (hT : Tab w) : Calls Tryz.prog 6 #[.int .i64 v, .bool b] w (Ret (.bool true) w) := by
  have HT := Lib.hid hT
  clear hT
  by_cases hr : v < 0 ∨ 4096 ≤ v
  · have HR := Lib.hid (fun w' => Literal_range v b hr w')
    have HCO := Lib.hid (fun w' => Constant_any b w')
    by_cases h1 : v < 0
    · have f1 : decide (v < 0) = true := decide_eq_true h1
      clear hr
      cases b
      all_goals
        go_enter Tryz.func6, Tryz.ntmps6
        go_wp2_with fail
        (with_reducible refine (known_any _ (HT.out.of (by (repeat' (first | (with_reducible exact Below.refl _ _) | (with_reducible exact Nat.le_refl _) | (with_reducible refine Below.bel ?_ ?_) | (with_reducible refine Below.alloc ?_ ?_ _) | (with_reducible refine Below.drew ?_) | (with_reducible refine Below.drawsN ?_ _) | (with_reducible refine Below.setCell ?_ ?_ _) | (with_reducible refine le_bel ?_) | (with_reducible refine le_alloc ?_) | (with_reducible refine le_setCell ?_) | (with_reducible refine le_drew ?_) | (with_reducible refine le_drawsN ?_) | (dsimp only; with_reducible refine le_bel ?_) | (dsimp only; with_reducible refine Nat.le_refl _) | (dsimp only; with_reducible refine le_bel_add ?_) | (with_reducible assumption) | omega | (dsimp only; omega)))))).mono ?_)
        rintro _ _ ⟨rfl, y1, rfl⟩
        dsimp only
        go_wp2_with fail
        refine (HR.out _).mono ?_
        rintro _ _ ⟨rfl, y2, rfl⟩
        have o2 := World.alloc_heap_new y2.w (.cells #[.slice none 0 0, .int .i64 0] 30)
        dsimp only
        go_wp2_with fail
        refine (HCO.out _).mono ?_
        rintro _ _ ⟨rfl, y3, rfl⟩
        have hs3 := y3.size_le
        simp at hs3
        have hq3 : y2.w.heap.size < y3.w.heap.size := by omega
        obtain ⟨c0, c1, -⟩ := cells2 (obj_bel y3 o2)
        dsimp only
        go_wp2_with fail
        refine (none_any _).mono ?_
        rintro _ _ ⟨rfl, y4, rfl⟩
        dsimp only
        go_wp2
        go_ret
        exact Ret.mk (by rfl) (by (repeat' (first | (with_reducible exact Below.refl _ _) | (with_reducible exact Nat.le_refl _) | (with_reducible refine Below.bel ?_ ?_) | (with_reducible refine Below.alloc ?_ ?_ _) | (with_reducible refine Below.drew ?_) | (with_reducible refine Below.drawsN ?_ _) | (with_reducible refine Below.setCell ?_ ?_ _) | (with_reducible refine le_bel ?_) | (with_reducible refine le_alloc ?_) | (with_reducible refine le_setCell ?_) | (with_reducible refine le_drew ?_) | (with_reducible refine le_drawsN ?_) | (dsimp only; with_reducible refine le_bel ?_) | (dsimp only; with_reducible refine Nat.le_refl _) | (dsimp only; with_reducible refine le_bel_add ?_) | (with_reducible assumption) | omega | (dsimp only; omega))))
    · have f1 : decide (v < 0) = false := decide_eq_false h1
      have f2 : decide (4096 ≤ v) = true := decide_eq_true (by omega)
      clear hr
      cases b
      all_goals
        go_enter Tryz.func6, Tryz.ntmps6
        go_wp2_with fail
        (with_reducible refine (known_any _ (HT.out.of (by (repeat' (first | (with_reducible exact Below.refl _ _) | (with_reducible exact Nat.le_refl _) | (with_reducible refine Below.bel ?_ ?_) | (with_reducible refine Below.alloc ?_ ?_ _) | (with_reducible refine Below.drew ?_) | (with_reducible refine Below.drawsN ?_ _) | (with_reducible refine Below.setCell ?_ ?_ _) | (with_reducible refine le_bel ?_) | (with_reducible refine le_alloc ?_) | (with_reducible refine le_setCell ?_) | (with_reducible refine le_drew ?_) | (with_reducible refine le_drawsN ?_) | (dsimp only; with_reducible refine le_bel ?_) | (dsimp only; with_reducible refine Nat.le_refl _) | (dsimp only; with_reducible refine le_bel_add ?_) | (with_reducible assumption) | omega | (dsimp only; omega)))))).mono ?_)
        rintro _ _ ⟨rfl, y1, rfl⟩
        dsimp only
        go_wp2_with fail
        refine (HR.out _).mono ?_
        rintro _ _ ⟨rfl, y2, rfl⟩
        have o2 := World.alloc_heap_new y2.w (.cells #[.slice none 0 0, .int .i64 0] 30)
        dsimp only
        go_wp2_with fail
        refine (HCO.out _).mono ?_
        rintro _ _ ⟨rfl, y3, rfl⟩
        have hs3 := y3.size_le
        simp at hs3
        have hq3 : y2.w.heap.size < y3.w.heap.size := by omega
        obtain ⟨c0, c1, -⟩ := cells2 (obj_bel y3 o2)
        dsimp only
        go_wp2_with fail
        refine (none_any _).mono ?_
        rintro _ _ ⟨rfl, y4, rfl⟩
        dsimp only
        go_wp2
        go_ret
        exact Ret.mk (by rfl) (by (repeat' (first | (with_reducible exact Below.refl _ _) | (with_reducible exact Nat.le_refl _) | (with_reducible refine Below.bel ?_ ?_) | (with_reducible refine Below.alloc ?_ ?_ _) | (with_reducible refine Below.drew ?_) | (with_reducible refine Below.drawsN ?_ _) | (with_reducible refine Below.setCell ?_ ?_ _) | (with_reducible refine le_bel ?_) | (with_reducible refine le_alloc ?_) | (with_reducible refine le_setCell ?_) | (with_reducible refine le_drew ?_) | (with_reducible refine le_drawsN ?_) | (dsimp only; with_reducible refine le_bel ?_) | (dsimp only; with_reducible refine Nat.le_refl _) | (dsimp only; with_reducible refine le_bel_add ?_) | (with_reducible assumption) | omega | (dsimp only; omega))))
  · obtain ⟨V, rfl⟩ := Int.eq_ofNat_of_zero_le (show 0 ≤ v by omega)
    have f1 : decide ((V : Int) < 0) = false := decide_eq_false (by omega)
    have f2 : decide ((4096 : Int) ≤ (V : Int)) = false := decide_eq_false (by omega)
    have HLI := Lib.hid (fun w' => Literal_ok V b (by omega) w')
    have HCO := Lib.hid (fun w' => Constant_any b w')
    clear hr
    cases b
    · have hcm := fun w => node_same (V : Int) 1 0 w
      rw [show litN V false = [(V, 1, 0)] from rfl] at HLI
      go_enter Tryz.func6, Tryz.ntmps6
      go_wp2_with fail
      (with_reducible refine (known_any _ (HT.out.of (by (repeat' (first | (with_reducible exact Below.refl _ _) | (with_reducible exact Nat.le_refl _) | (with_reducible refine Below.bel ?_ ?_) | (with_reducible refine Below.alloc ?_ ?_ _) | (with_reducible refine Below.drew ?_) | (with_reducible refine Below.drawsN ?_ _) | (with_reducible refine Below.setCell ?_ ?_ _) | (with_reducible refine le_bel ?_) | (with_reducible refine le_alloc ?_) | (with_reducible refine le_setCell ?_) | (with_reducible refine le_drew ?_) | (with_reducible refine le_drawsN ?_) | (dsimp only; with_reducible refine le_bel ?_) | (dsimp only; with_reducible refine Nat.le_refl _) | (dsimp only; with_reducible refine le_bel_add ?_) | (with_reducible assumption) | omega | (dsimp only; omega)))))).mono ?_)
      rintro _ _ ⟨rfl, y1, rfl⟩
      dsimp only
      go_wp2_with fail
      refine (HLI.out _).mono ?_
      rintro _ W2 ⟨ad2, cap2, rfl, hi2, -, hb2⟩
      obtain ⟨g, off, hadd, hg, hcs⟩ := hi2 (show 0 < 1 by decide)
      subst hadd
      obtain ⟨x0, x1, x2⟩ := hcs 0 _ rfl
      rw [show off + 0 * 3 = off from rfl] at x0 x1 x2
      dsimp only [z3] at x0 x1 x2
      have hw2 : Below w.heap.size w W2 := Below.trans (by (repeat' (first | (with_reducible exact Below.refl _ _) | (with_reducible exact Nat.le_refl _) | (with_reducible refine Below.bel ?_ ?_) | (with_reducible refine Below.alloc ?_ ?_ _) | (with_reducible refine Below.drew ?_) | (with_reducible refine Below.drawsN ?_ _) | (with_reducible refine Below.setCell ?_ ?_ _) | (with_reducible refine le_bel ?_) | (with_reducible refine le_alloc ?_) | (with_reducible refine le_setCell ?_) | (with_reducible refine le_drew ?_) | (with_reducible refine le_drawsN ?_) | (dsimp only; with_reducible refine le_bel ?_) | (dsimp only; with_reducible refine Nat.le_refl _) | (dsimp only; with_reducible refine le_bel_add ?_) | (with_reducible assumption) | omega | (dsimp only; omega)))) (hb2.mono (by have := y1.size_le; omega))
      have hs2 := hw2.size
      have o2 := World.alloc_heap_new W2 (.cells #[.slice (some ⟨g, off, none⟩) 1 cap2, .int .i64 2] 30)
      clear hb2 hi2 hcs
      dsimp only
      go_wp2_with fail
      refine (HCO.out _).mono ?_
      rintro _ _ ⟨rfl, y3, rfl⟩
      have hs3 := y3.size_le
      simp at hs3
      have hq3 : W2.heap.size < y3.w.heap.size := by omega
      obtain ⟨c0, c1, -⟩ := cells2 (obj_bel y3 o2)
      have hgd := guard_eq
      have hw3 : Below w.heap.size w y3.w := by (repeat' (first | (with_reducible exact Below.refl _ _) | (with_reducible exact Nat.le_refl _) | (with_reducible refine Below.bel ?_ ?_) | (with_reducible refine Below.alloc ?_ ?_ _) | (with_reducible refine Below.drew ?_) | (with_reducible refine Below.drawsN ?_ _) | (with_reducible refine Below.setCell ?_ ?_ _) | (with_reducible refine le_bel ?_) | (with_reducible refine le_alloc ?_) | (with_reducible refine le_setCell ?_) | (with_reducible refine le_drew ?_) | (with_reducible refine le_drawsN ?_) | (dsimp only; with_reducible refine le_bel ?_) | (dsimp only; with_reducible refine Nat.le_refl _) | (dsimp only; with_reducible refine le_bel_add ?_) | (with_reducible assumption) | omega | (dsimp only; omega)))
      dsimp only
      go_wp2_with fail
      refine wp_region_bel (by kernel_rfl) (by kernel_rfl) ?_
      repeat (go_big_quiet_step (fail))
      refine wpQuiet_nil ?_
      rintro _ ⟨z9, rfl⟩
      go_wp2
      go_ret
      exact Ret.mk rfl (by (repeat' (first | (with_reducible exact Below.refl _ _) | (with_reducible exact Nat.le_refl _) | (with_reducible refine Below.bel ?_ ?_) | (with_reducible refine Below.alloc ?_ ?_ _) | (with_reducible refine Below.drew ?_) | (with_reducible refine Below.drawsN ?_ _) | (with_reducible refine Below.setCell ?_ ?_ _) | (with_reducible refine le_bel ?_) | (with_reducible refine le_alloc ?_) | (with_reducible refine le_setCell ?_) | (with_reducible refine le_drew ?_) | (with_reducible refine le_drawsN ?_) | (dsimp only; with_reducible refine le_bel ?_) | (dsimp only; with_reducible refine Nat.le_refl _) | (dsimp only; with_reducible refine le_bel_add ?_) | (with_reducible assumption) | omega | (dsimp only; omega))))
    · have hcm := fun w => node_same (V : Int) 0 1 w
      rw [show litN V true = [(V, 0, 1)] from rfl] at HLI
      go_enter Tryz.func6, Tryz.ntmps6
      go_wp2_with fail
      (with_reducible refine (known_any _ (HT.out.of (by (repeat' (first | (with_reducible exact Below.refl _ _) | (with_reducible exact Nat.le_refl _) | (with_reducible refine Below.bel ?_ ?_) | (with_reducible refine Below.alloc ?_ ?_ _) | (with_reducible refine Below.drew ?_) | (with_reducible refine Below.drawsN ?_ _) | (with_reducible refine Below.setCell ?_ ?_ _) | (with_reducible refine le_bel ?_) | (with_reducible refine le_alloc ?_) | (with_reducible refine le_setCell ?_) | (with_reducible refine le_drew ?_) | (with_reducible refine le_drawsN ?_) | (dsimp only; with_reducible refine le_bel ?_) | (dsimp only; with_reducible refine Nat.le_refl _) | (dsimp only; with_reducible refine le_bel_add ?_) | (with_reducible assumption) | omega | (dsimp only; omega)))))).mono ?_)
      rintro _ _ ⟨rfl, y1, rfl⟩
      dsimp only
      go_wp2_with fail
      refine (HLI.out _).mono ?_
      rintro _ W2 ⟨ad2, cap2, rfl, hi2, -, hb2⟩
      obtain ⟨g, off, hadd, hg, hcs⟩ := hi2 (show 0 < 1 by decide)
      subst hadd
      obtain ⟨x0, x1, x2⟩ := hcs 0 _ rfl
      rw [show off + 0 * 3 = off from rfl] at x0 x1 x2
      dsimp only [z3] at x0 x1 x2
      have hw2 : Below w.heap.size w W2 := Below.trans (by (repeat' (first | (with_reducible exact Below.refl _ _) | (with_reducible exact Nat.le_refl _) | (with_reducible refine Below.bel ?_ ?_) | (with_reducible refine Below.alloc ?_ ?_ _) | (with_reducible refine Below.drew ?_) | (with_reducible refine Below.drawsN ?_ _) | (with_reducible refine Below.setCell ?_ ?_ _) | (with_reducible refine le_bel ?_) | (with_reducible refine le_alloc ?_) | (with_reducible refine le_setCell ?_) | (with_reducible refine le_drew ?_) | (with_reducible refine le_drawsN ?_) | (dsimp only; with_reducible refine le_bel ?_) | (dsimp only; with_reducible refine Nat.le_refl _) | (dsimp only; with_reducible refine le_bel_add ?_) | (with_reducible assumption) | omega | (dsimp only; omega)))) (hb2.mono (by have := y1.size_le; omega))
      have hs2 := hw2.size
      have o2 := World.alloc_heap_new W2 (.cells #[.slice (some ⟨g, off, none⟩) 1 cap2, .int .i64 2] 30)
      clear hb2 hi2 hcs
      dsimp only
      go_wp2_with fail
      refine (HCO.out _).mono ?_
      rintro _ _ ⟨rfl, y3, rfl⟩
      have hs3 := y3.size_le
      simp at hs3
      have hq3 : W2.heap.size < y3.w.heap.size := by omega
      obtain ⟨c0, c1, -⟩ := cells2 (obj_bel y3 o2)
      have hgd := guard_eq
      have hw3 : Below w.heap.size w y3.w := by (repeat' (first | (with_reducible exact Below.refl _ _) | (with_reducible exact Nat.le_refl _) | (with_reducible refine Below.bel ?_ ?_) | (with_reducible refine Below.alloc ?_ ?_ _) | (with_reducible refine Below.drew ?_) | (with_reducible refine Below.drawsN ?_ _) | (with_reducible refine Below.setCell ?_ ?_ _) | (with_reducible refine le_bel ?_) | (with_reducible refine le_alloc ?_) | (with_reducible refine le_setCell ?_) | (with_reducible refine le_drew ?_) | (with_reducible refine le_drawsN ?_) | (dsimp only; with_reducible refine le_bel ?_) | (dsimp only; with_reducible refine Nat.le_refl _) | (dsimp only; with_reducible refine le_bel_add ?_) | (with_reducible assumption) | omega | (dsimp only; omega)))
      dsimp only
      go_wp2_with fail
      refine wp_region_bel (by kernel_rfl) (by kernel_rfl) ?_
      repeat (go_big_quiet_step (fail))
      refine wpQuiet_nil ?_
      rintro _ ⟨z9, rfl⟩
      go_wp2
      go_ret
      exact Ret.mk rfl (by (repeat' (first | (with_reducible exact Below.refl _ _) | (with_reducible exact Nat.le_refl _) | (with_reducible refine Below.bel ?_ ?_) | (with_reducible refine Below.alloc ?_ ?_ _) | (with_reducible refine Below.drew ?_) | (with_reducible refine Below.drawsN ?_ _) | (with_reducible refine Below.setCell ?_ ?_ _) | (with_reducible refine le_bel ?_) | (with_reducible refine le_alloc ?_) | (with_reducible refine le_setCell ?_) | (with_reducible refine le_drew ?_) | (with_reducible refine le_drawsN ?_) | (dsimp only; with_reducible refine le_bel ?_) | (dsimp only; with_reducible refine Nat.le_refl _) | (dsimp only; with_reducible refine le_bel_add ?_) | (with_reducible assumption) | omega | (dsimp only; omega))))
end Go.Proofs.YtkdmhjlcgpnjpaaGreatDoor

namespace Go.Proofs.YtkdmhjlcgpnjpaaGreatDoor.diagramLiterals
set_option linter.unusedVariables false
set_option linter.unusedSimpArgs false
open Go.ChangeShapes Go.WideShapes Go.ChangeAt Go.RowKit Go.Joins

set_option maxRecDepth 100000 in
theorem contract (H : Type) (enc : TypeId × Value → H) (W : World) (base : Nat) (args : Array Value) (ds gs : List (DataW H)) (before : List MemPlace)
    (hval : ∀ (j : Nat) t v, Tryz.f6.params[j]? = some t → args[j]? = some v → Value.okWide Tryz.prog W .any base t v)
    (hW : DataW.Whole enc Tryz.prog Tryz.f6.params.toList Rows.diagramLiteralsSpec.vars false W args.toList ds gs before)
    (hT : Tab W) :
    Calls Tryz.prog 6 args W fun e W' => ∃ v, e = .returned v ∧ Rows.diagramLiteralsSpec.post enc Tryz.prog Tryz.f6 false true false false W args v W' := by
  have hW' := hW
  obtain ⟨p, q, hA0, hV, rfl, hfz, hnd⟩ := hW
  have hA : DataW.TrodAll enc Tryz.prog W 0 (fun _ => true) true Tryz.f6.params.toList args.toList ds p := hA0
  rw [Tryz.params6] at hA hval
  obtain ⟨v0, vs0, d0, ds0, p0, q0, hargs, rfl, rfl, h0, r0⟩ := trodAll_cons hA
  obtain ⟨v1, vs1, d1, ds1, p1, q1, rfl, rfl, rfl, h1, r1⟩ := trodAll_cons r0
  obtain ⟨rfl, rfl, rfl⟩ := trodAll_nil r1
  obtain rfl : args = #[v0, v1] := by cases args; simp_all
  obtain ⟨rfl, rfl⟩ := trodVars_none hV
  obtain ⟨x0, rfl, rfl, rfl, wx0⟩ := open_int Tryz.underlying3 (hval 0 3 v0 rfl rfl) h0
  have b0 := bounds_i64 wx0
  obtain ⟨x1, rfl, rfl, rfl⟩ := open_bool Tryz.underlying4 (hval 1 4 v1 rfl rfl) h1
  clear hA0
  have walk : Calls Tryz.prog 6 #[.int .i64 x0, .bool x1] W (Ret (.bool true) W) := lawLiterals_any x0 x1 W hT
  refine (walk).mono fun e W' ⟨he, y, hy⟩ => ?_
  subst he hy
  exact ⟨_, rfl, law_post 4 laidOut Tryz.underlying4 rfl (by kernel_rfl) rfl rfl hW' y.below⟩

theorem laid_met (os : Os) : laidMet Tryz.prog Rows.diagramLiteralsRow.laid ((laidWorld os).forCall (fun _ _ => 0) ⟨#[], #[.int .i64 0, .bool false], []⟩).memory :=
  laidMet_of_run' 70 (by kernel_rfl) (by kernel_rfl)
theorem reads (os : Os) {H : Type} (enc : TypeId × Value → H) : ∃ places, DataW.whole enc Tryz.prog ((laidWorld os).forCall (fun _ _ => 0) ⟨#[], #[.int .i64 0, .bool false], []⟩).memory Tryz.f6.params.toList Rows.diagramLiteralsSpec.vars false (#[.int .i64 0, .bool false] : Array Value).toList 8 = some ([.lit (.int .i64 0), .lit (.bool false)], [], places) :=
  ⟨[], by kernel_rfl⟩

set_option maxRecDepth 100000 in
theorem lifted (os : Os) (started : os.Started) (H : Type) (enc : TypeId × Value → H) (F : Stop.Interp) :
    ReturnsInHanded {} Tryz.checked os 6 .any ((OpenSpec.ofChange Rows.diagramLiteralsSpec).preRow enc Tryz.prog Tryz.f6 Rows.diagramLiteralsRow.domain false Rows.diagramLiteralsRow.laid) (((OpenSpec.ofChange Rows.diagramLiteralsSpec).at F).post enc Tryz.prog Tryz.f6 false true false false) := by
  obtain ⟨places, hx⟩ := reads os enc
  refine returnsInHanded_of_row (C := Tryz.checked) (s := OpenSpec.ofChange Rows.diagramLiteralsSpec) own started (by kernel_rfl) Tryz.func6
    (witness_row_at (enc := enc) (C := Tryz.checked) false (laidWorld os) #[.int .i64 0, .bool false] rfl (by kernel_rfl) (by kernel_rfl) (by kernel_rfl)
      (OpenSpec.preRow_of_cond 8 hx (by kernel_rfl) (fun k hk => by cases hk) (by kernel_rfl) (laid_met os))) ?_
  intro W base args ds gs before hval hW _ _ hsz hL _ _
  exact contract H enc W base args ds gs before hval hW (lib_of hL)

theorem said : Rows.DiagramLiteralsSaid :=
  OpenClaim.holds_of_cond 6 Tryz.f6 rfl rfl rfl rfl rfl rfl rfl ⟨rfl, rfl, rfl, rfl, rfl⟩ rfl rfl rfl rfl rfl (by kernel_rfl) Tryz.func6 (by kernel_rfl)
    (of_decide_eq_true (by kernel_rfl)) (by unfold Func.isWrapper; first | (rw [if_pos (by decide +kernel)]; kernel_rfl) | (rw [if_neg (by decide +kernel)]; exact ⟨rfl, rfl⟩))
    (fun os started H enc _ F => by rw [OpenClaim.pre_eq_preRow]; exact lifted os started H enc F)
theorem plain (f : FuncId) (fn : Func) (hf : Tryz.pinned.checked.prog.funcNamed Rows.diagramLiteralsRow.func = some f) (hfn : Tryz.pinned.checked.prog.funcs[f]? = some fn) :
    true = Tryz.pinned.checked.prog.looks [] ∧ ∀ (j : Nat) t, fn.params[j]? = some t → Tryz.pinned.checked.prog.wantsStandIn t = false := by
  obtain rfl : f = 6 := Option.some.inj ((show Tryz.prog.funcNamed Rows.diagramLiteralsRow.func = some 6 by kernel_rfl).symm.trans hf) |>.symm
  obtain rfl : fn = Tryz.f6 := (Option.some.inj (Tryz.func6.symm.trans hfn)).symm
  refine ⟨by kernel_rfl, fun j t ht => ?_⟩
  rw [Tryz.params6] at ht
  have hm : t ∈ [3, 4] := by simpa using Array.mem_of_getElem? ht
  have hall : ([3, 4].all fun u => !Tryz.prog.wantsStandIn u) = true := by kernel_rfl
  exact (show Tryz.prog.wantsStandIn t = false by simpa using List.all_eq_true.1 hall t hm)

theorem card : Rows.DiagramLiteralsCardSaid :=
  Claim7.holds_tied_plain_at .later [] _ _ _ _ said (fun _ h => by cases h) (by kernel_rfl) (fun _ h => by cases h) diagramLiterals_row_tie rfl ⟨rfl, rfl⟩ (by kernel_rfl) rfl plain (by kernel_rfl)
#print axioms card
end Go.Proofs.YtkdmhjlcgpnjpaaGreatDoor.diagramLiterals
