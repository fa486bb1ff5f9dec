/- From a law's walk to its statement: what every law of this seat needs; rows of bytes and booleans in the caller's memory as lists. -/
import Derived.Test.YtlnedapimmabdaaGreatDoorCm
import Derived.ProofKit
import Derived.OpenShut
import Derived.Lib.SmallJoins
import Derived.Deep.DeepHandedRow
import Derived.Lib.LaidTab
import Derived.Stop.LaidErr
import Derived.Test.YtlnedapimmabdaaGreatDoorW4
import Derived.Test.YtlnedapimmabdaaGreatDoorRows
import Derived.Test.YtlnedapimmabdaaGreatDoorCards
import Derived.Test.YtlnedapimmabdaaGreatDoorTie
import Derived.SevenTiedAt
import Derived.Lib.TrailingZeros
import Derived.Deep.Grids
namespace Go.Proofs.YtlnedapimmabdaaGreatDoor
set_option linter.unusedVariables false
set_option linter.unusedSimpArgs false
open Go.ChangeShapes Go.WideShapes Go.ChangeAt Go.RowKit Go.Joins

theorem trodAll_below {H : Type} {enc : TypeId × Value → H} {P : Program} (hl : laidOutB P = true) {W W' : World} (hb : Below W.heap.size W W') :
    ∀ (ts : List TypeId) (vs : List Value) (ds : List (DataW H)) (ps : List MemPlace), (ts.all fun t => P.readableRec t && decide (t < P.types.size)) = true → (∀ x ∈ ps, x.block < W.heap.size) →
      DataW.TrodAll enc P W 0 (fun _ => true) true ts vs ds ps → DataW.TrodAll enc P W' 0 (fun b => decide (b < W.heap.size)) true ts vs ds ps
  | [], vs, ds, ps, _, _, h => by
    obtain ⟨rfl, rfl, rfl⟩ := trodAll_nil h
    exact trodAll_mk0
  | t :: ts, vs, ds, ps, ht, hlt, h => by
    obtain ⟨v, vs', d, ds', p, q, rfl, rfl, rfl, h0, h1⟩ := trodAll_cons h
    simp only [List.all_cons, Bool.and_eq_true, decide_eq_true_iff] at ht
    exact trodAll_cons_mk (Below.trod hl ht.1.1 ht.1.2 h0 hb (fun x hx => hlt x (List.mem_append_left _ hx)))
      (trodAll_below hl hb ts vs' ds' q ht.2 (fun x hx => hlt x (List.mem_append_right _ hx)) h1)

theorem law_post {H : Type} {enc : TypeId × Value → H} {P : Program} {f : Func} {s : ChangeSpec} {apart fresh handsOn : Bool} {W W' : World} {args : Array Value} {ds gs : List (DataW H)} {before : List MemPlace} (tb : TypeId)
    (hl : laidOutB P = true) (htb : P.underlying tb = some .bool) (hres : f.resultTypes = #[tb]) (hts : (f.params.toList.all fun t => P.readableRec t && decide (t < P.types.size)) = true)
    (hvars : s.vars = []) (hfn : s.fn H (ds ++ gs) = { results := [.lit (.bool true)], args := ds })
    (hW : DataW.Whole enc P f.params.toList s.vars apart W args.toList ds gs before) (hb : Below W.heap.size W W') :
    s.post enc P f apart fresh handsOn false W args (.bool true) W' := by
  have hlt : ∀ p ∈ before, p.block < W.heap.size := fun p hp => hW.lt p hp
  have hW' := hW
  obtain ⟨p, q, hA, hV, rfl, hz, hn⟩ := hW
  rw [hvars] at hV
  obtain ⟨rfl, rfl⟩ := trodVars_none hV
  refine ⟨ds, [], _, [], p, [], hW', ?_, ?_, ?_, World.keptBut_mono (fun x hx => ⟨hx, .inr (.inl (by simpa using hx))⟩) (hb.frame (· ∈ p ++ [])), fun h => by cases h⟩
  · rw [hfn, hres]
    exact trodAll_mk1 (shut_bool htb _)
  · rw [hfn]
    exact trodAll_below hl hb _ _ _ _ hts (fun x hx => hlt x (by simpa using hx)) hA
  · rw [hfn, hvars]
    rfl

def layAt (h : Array Obj) (i : Nat) (cs : Array Value) : Array Obj := h.modify i fun
  | .cells _ t frozen => .cells cs t frozen
  | o => o
end Go.Proofs.YtlnedapimmabdaaGreatDoor

namespace Go.Proofs.YtlnedapimmabdaaGreatDoor
set_option linter.unusedVariables false
set_option linter.unusedSimpArgs false
open Go.ChangeShapes Go.WideShapes Go.ChangeAt Go.RowKit Go.Joins

theorem own : ownKnob Tryz.prog.godebug = none := by kernel_rfl
theorem laidOut : laidOutB Tryz.prog = true := by kernel_rfl
theorem gPowT : (Tryz.prog.globals[0]?).map (·.type) = some 186 := by kernel_rfl
theorem cellsU64 : Tryz.prog.cellsOf 42 = 1 := by kernel_rfl
theorem cellsA20 : Tryz.prog.cellsOf 186 = 20 := by kernel_rfl
abbrev laid3 : List (String × DataW Unit) := [("math/bits.deBruijn32tab", Rows.laid_math_bits_deBruijn32tab), ("math/bits.deBruijn64tab", Rows.laid_math_bits_deBruijn64tab), ("internal/strconv.uint64pow10", Rows.laid_internal_strconv_uint64pow10)]
theorem lib_of {W : World} (h : laidMetH Tryz.prog laid3 W) : Tab W := by
  have h' : laidMet Tryz.prog laid3 W := h
  exact Lib.tabIs_of_head (rest := []) gTab gPowT Tryz.underlying186 Tryz.underlying42 cellsU64 cellsA20 h'.tail.tail
def laidHeap (h : Array Obj) : Array Obj :=
  layAt (layAt (layAt h 2 ((Lib.deBruijn64tab.map fun n : Nat => Value.int .u8 (n : Int)).toArray)) 1 ((Lib.deBruijn32tab.map fun n : Nat => Value.int .u8 (n : Int)).toArray)) 0 ((Lib.pow10Tab.map fun z => Value.int .u64 z).toArray)
noncomputable def laidWorld (os : Os) : World := { World.holding Tryz.prog os ⟨#[], #[], []⟩ with heap := laidHeap (World.holding Tryz.prog os ⟨#[], #[], []⟩).heap }
end Go.Proofs.YtlnedapimmabdaaGreatDoor

namespace Go.Proofs.YtlnedapimmabdaaGreatDoor
set_option linter.unusedVariables false
set_option linter.unusedSimpArgs false
open Go.ChangeShapes Go.WideShapes Go.ChangeAt Go.RowKit Go.Joins

end Go.Proofs.YtlnedapimmabdaaGreatDoor
