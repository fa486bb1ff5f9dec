/- From a law's walk to its statement: what every law of this seat needs; rows of bytes and booleans in the caller's memory as lists. -/
import Derived.Test.YtehgeoipbgpocaaGreatDoorCm
import Derived.ProofKit
import Derived.OpenShut
import Derived.Lib.SmallJoins
import Derived.Deep.DeepHandedRow
import Derived.Lib.LaidTab
import Derived.Stop.LaidErr
import Derived.Test.YtehgeoipbgpocaaGreatDoorIn3
import Derived.Test.YtehgeoipbgpocaaGreatDoorKA
import Derived.Test.YtehgeoipbgpocaaGreatDoorRows
import Derived.Test.YtehgeoipbgpocaaGreatDoorCards
import Derived.Test.YtehgeoipbgpocaaGreatDoorTie
import Derived.SevenTiedAt
import Derived.Lib.TrailingZeros
namespace Go.Proofs.YtehgeoipbgpocaaGreatDoor
set_option linter.unusedVariables false
set_option linter.unusedSimpArgs false
open Go.ChangeShapes Go.WideShapes Go.ChangeAt Go.RowKit Go.Joins

theorem trodAll_below {H : Type} {enc : TypeId × Value → H} {P : Program} (hl : laidOutB P = true) {W W' : World} (hb : Below W.heap.size W W') :
    ∀ (ts : List TypeId) (vs : List Value) (ds : List (DataW H)) (ps : List MemPlace), (ts.all fun t => P.readableRec t && decide (t < P.types.size)) = true → (∀ x ∈ ps, x.block < W.heap.size) →
      DataW.TrodAll enc P W 0 (fun _ => true) true ts vs ds ps → DataW.TrodAll enc P W' 0 (fun b => decide (b < W.heap.size)) true ts vs ds ps
  | [], vs, ds, ps, _, _, h => by
    obtain ⟨rfl, rfl, rfl⟩ := trodAll_nil h
    exact trodAll_mk0
  | t :: ts, vs, ds, ps, ht, hlt, h => by
    obtain ⟨v, vs', d, ds', p, q, rfl, rfl, rfl, h0, h1⟩ := trodAll_cons h
    simp only [List.all_cons, Bool.and_eq_true, decide_eq_true_iff] at ht
    exact trodAll_cons_mk (Below.trod hl ht.1.1 ht.1.2 h0 hb (fun x hx => hlt x (List.mem_append_left _ hx)))
      (trodAll_below hl hb ts vs' ds' q ht.2 (fun x hx => hlt x (List.mem_append_right _ hx)) h1)

/-- The law's row: it returned true, and all that lay there lies as it lay. -/
theorem law_post {H : Type} {enc : TypeId × Value → H} {P : Program} {f : Func} {s : ChangeSpec} {apart fresh handsOn : Bool} {W W' : World} {args : Array Value} {ds gs : List (DataW H)} {before : List MemPlace} (tb : TypeId)
    (hl : laidOutB P = true) (htb : P.underlying tb = some .bool) (hres : f.resultTypes = #[tb]) (hts : (f.params.toList.all fun t => P.readableRec t && decide (t < P.types.size)) = true)
    (hvars : s.vars = []) (hfn : s.fn H (ds ++ gs) = { results := [.lit (.bool true)], args := ds })
    (hW : DataW.Whole enc P f.params.toList s.vars apart W args.toList ds gs before) (hb : Below W.heap.size W W') :
    s.post enc P f apart fresh handsOn false W args (.bool true) W' := by
  have hlt : ∀ p ∈ before, p.block < W.heap.size := fun p hp => hW.lt p hp
  have hW' := hW
  obtain ⟨p, q, hA, hV, rfl, hz, hn⟩ := hW
  rw [hvars] at hV
  obtain ⟨rfl, rfl⟩ := trodVars_none hV
  refine ⟨ds, [], _, [], p, [], hW', ?_, ?_, ?_, World.keptBut_mono (fun x hx => ⟨hx, .inr (.inl (by simpa using hx))⟩) (hb.frame (· ∈ p ++ [])), fun h => by cases h⟩
  · rw [hfn, hres]
    exact trodAll_mk1 (shut_bool htb _)
  · rw [hfn]
    exact trodAll_below hl hb _ _ _ _ hts (fun x hx => hlt x (by simpa using hx)) hA
  · rw [hfn, hvars]
    rfl

/-- A block's cells laid anew. -/
def layAt (h : Array Obj) (i : Nat) (cs : Array Value) : Array Obj := h.modify i fun
  | .cells _ t frozen => .cells cs t frozen
  | o => o
end Go.Proofs.YtehgeoipbgpocaaGreatDoor

namespace Go.Proofs.YtehgeoipbgpocaaGreatDoor
set_option linter.unusedVariables false
set_option linter.unusedSimpArgs false
open Go.ChangeShapes Go.WideShapes Go.ChangeAt Go.RowKit Go.Joins

theorem own : ownKnob Tryz.prog.godebug = none := by kernel_rfl
theorem laidOut : laidOutB Tryz.prog = true := by kernel_rfl
theorem gPowT : (Tryz.prog.globals[1]?).map (·.type) = some 429 := by kernel_rfl
theorem cellsU64 : Tryz.prog.cellsOf 76 = 1 := by kernel_rfl
theorem cellsU8 : Tryz.prog.cellsOf 5 = 1 := by kernel_rfl
theorem cellsA20 : Tryz.prog.cellsOf 429 = 20 := by kernel_rfl
theorem cellsBool : Tryz.prog.cellsOf 4 = 1 := by kernel_rfl
abbrev laid3 : List (String × DataW Unit) := [("math/bits.deBruijn32tab", Rows.laid_math_bits_deBruijn32tab), ("math/bits.deBruijn64tab", Rows.laid_math_bits_deBruijn64tab), ("internal/strconv.uint64pow10", Rows.laid_internal_strconv_uint64pow10)]
/-- What the rows' lists give. -/
theorem lib_of {W : World} (h : laidMetH Tryz.prog laid3 W) : I.Tab W := by
  have h' : laidMet Tryz.prog laid3 W := h
  exact Lib.tabIs_of_head (rest := []) I.gTab gPowT Tryz.underlying429 Tryz.underlying76 cellsU64 cellsA20 h'.tail.tail
/-- The heap of a world for the witness: the settled one, the tables and the errors laid as their initialisers lay them. -/
def laidHeap (h : Array Obj) : Array Obj :=
  layAt (layAt (layAt h 3 ((Lib.deBruijn64tab.map fun n : Nat => Value.int .u8 (n : Int)).toArray)) 2 ((Lib.deBruijn32tab.map fun n : Nat => Value.int .u8 (n : Int)).toArray)) 1 ((Lib.pow10Tab.map fun z => Value.int .u64 z).toArray)
noncomputable def laidWorld (os : Os) : World := { World.holding Tryz.prog os ⟨#[], #[], []⟩ with heap := laidHeap (World.holding Tryz.prog os ⟨#[], #[], []⟩).heap }
end Go.Proofs.YtehgeoipbgpocaaGreatDoor

namespace Go.Proofs.YtehgeoipbgpocaaGreatDoor
set_option linter.unusedVariables false
set_option linter.unusedSimpArgs false
open Go.ChangeShapes Go.WideShapes Go.ChangeAt Go.RowKit Go.Joins

/-- A plan of a circle as an argument. -/
theorem plan_kind {i : Nat} (hi : i < 26) : ([5] ++ List.replicate 24 22 ++ [5])[i % 26]? = some (if i = 0 ∨ i = 25 then 5 else 22) := by
  have h : ∀ j : Fin 26, ([5] ++ List.replicate 24 22 ++ [5])[j.val % 26]? = some (if j.val = 0 ∨ j.val = 25 then 5 else 22) := by decide +kernel
  exact h ⟨i, hi⟩
set_option maxRecDepth 100000 in
theorem plan_of {W : World} {base : Nat} {v : Value} (hval : Value.okWide Tryz.prog W .any base 26 v) : ∃ (a : Int) (p : Nat → Int × Int) (d : Int), v = .agg (planA a p d) ∧ PlanOk a p d := by
  simp only [Value.okWide, Tryz.underlying26] at hval
  obtain ⟨cs, rfl, hsz, ts, hts, _, hc⟩ := hval
  rw [show Tryz.prog.cellsOf 26 = 26 by kernel_rfl] at hsz
  have e : ts = [5] ++ List.replicate 24 22 ++ [5] := Option.some.inj (hts.symm.trans (show Tryz.prog.cellTypes Tryz.prog.depth 26 = some ([5] ++ List.replicate 24 22 ++ [5]) by kernel_rfl))
  have hb : ∀ i, i < 26 → ∃ n : Int, cs[i]? = some (.int (if i = 0 ∨ i = 25 then .u8 else .i8) n) ∧ (if i = 0 ∨ i = 25 then 0 ≤ n ∧ n < 256 else -128 ≤ n ∧ n ≤ 127) := fun i hi => by
    obtain ⟨v, hv⟩ : ∃ v, cs[i]? = some v := ⟨_, Array.getElem?_eq_getElem (by omega)⟩
    obtain ⟨u, hu, ho⟩ := hc i v hv
    have hu2 : u = if i = 0 ∨ i = 25 then 5 else 22 := by
      have h1 := plan_kind hi
      rw [Nat.mod_eq_of_lt hi] at h1
      rw [e] at hu
      first
        | exact Option.some.inj (hu.symm.trans h1)
        | (rw [Nat.mod_eq_of_lt (by exact hi)] at hu; exact Option.some.inj (hu.symm.trans h1))
    rw [hv]
    by_cases h0 : i = 0 ∨ i = 25
    · rw [if_pos h0] at hu2
      simp only [h0, if_true]
      subst hu2
      simp only [Cell.okWide, Tryz.underlying5] at ho
      cases v <;> first | (exfalso; simp [Cell.ok, Tryz.underlying5] at ho; done) | skip
      rename_i k n
      simp only [Cell.ok, Tryz.underlying5] at ho
      obtain ⟨rfl, hk⟩ := ho
      refine ⟨n, rfl, ?_⟩
      simp [IntKind.has, IntKind.min, IntKind.max, IntKind.signed, IntKind.bits] at hk
      omega
    · rw [if_neg h0] at hu2
      simp only [h0, if_false]
      subst hu2
      simp only [Cell.okWide, Tryz.underlying22] at ho
      cases v <;> first | (exfalso; simp [Cell.ok, Tryz.underlying22] at ho; done) | skip
      rename_i k n
      simp only [Cell.ok, Tryz.underlying22] at ho
      obtain ⟨rfl, hk⟩ := ho
      refine ⟨n, rfl, ?_⟩
      simp [IntKind.has, IntKind.min, IntKind.max, IntKind.signed, IntKind.bits] at hk
      omega
  obtain ⟨g, hg⟩ : ∃ g : Nat → Int, ∀ i, i < 26 → cs[i]? = some (.int (if i = 0 ∨ i = 25 then .u8 else .i8) (g i)) ∧ (if i = 0 ∨ i = 25 then 0 ≤ g i ∧ g i < 256 else -128 ≤ g i ∧ g i ≤ 127) :=
    ⟨fun i => if h : i < 26 then (hb i h).choose else 0, fun i hi => by
      simp only [hi, dif_pos]
      exact (hb i hi).choose_spec⟩
  refine ⟨g 0, fun k => (g (2 * k + 1), g (2 * k + 2)), g 25, ?_, ?_⟩
  · congr 1
    refine Array.ext (by rw [planA_size, hsz]) fun i h1 _ => ?_
    have h2 := (hg i (by omega)).1
    have h3 : (planA (g 0) (fun k => (g (2 * k + 1), g (2 * k + 2))) (g 25))[i]? = some (.int (if i = 0 ∨ i = 25 then .u8 else .i8) (g i)) := by
      rcases (show i = 0 ∨ i = 1 ∨ i = 2 ∨ i = 3 ∨ i = 4 ∨ i = 5 ∨ i = 6 ∨ i = 7 ∨ i = 8 ∨ i = 9 ∨ i = 10 ∨ i = 11 ∨ i = 12 ∨ i = 13 ∨ i = 14 ∨ i = 15 ∨ i = 16 ∨ i = 17 ∨ i = 18 ∨ i = 19 ∨ i = 20 ∨ i = 21 ∨ i = 22 ∨ i = 23 ∨ i = 24 ∨ i = 25 by omega) with rfl | rfl | rfl | rfl | rfl | rfl | rfl | rfl | rfl | rfl | rfl | rfl | rfl | rfl | rfl | rfl | rfl | rfl | rfl | rfl | rfl | rfl | rfl | rfl | rfl | rfl <;> rfl
    have h4 := h2.trans h3.symm
    rw [Array.getElem?_eq_getElem h1, Array.getElem?_eq_getElem (by rw [planA_size]; omega)] at h4
    exact Option.some.inj h4
  · have a0 := (hg 0 (by decide)).2
    have a1 := (hg 25 (by decide)).2
    rw [if_pos (by decide)] at a0 a1
    refine ⟨a0.1, a0.2, a1.1, a1.2, fun k hk => ?_⟩
    have b1 := (hg (2 * k + 1) (by omega)).2
    have b2 := (hg (2 * k + 2) (by omega)).2
    rw [if_neg (by omega)] at b1 b2
    exact ⟨b1.1, b1.2, b2.1, b2.2⟩
end Go.Proofs.YtehgeoipbgpocaaGreatDoor

/-! ### The row's facts of the program, each by itself: in one declaration they want more memory than there is -/
namespace Go.Proofs.YtehgeoipbgpocaaGreatDoor
set_option linter.unusedVariables false
set_option linter.unusedSimpArgs false
open Go.ChangeShapes Go.WideShapes Go.ChangeAt Go.RowKit Go.Joins
theorem factB1 : (Rows.topBeatsFollowSizesRow.inPlace == Tryz.pinned.checked.prog.inPlace 3) = true := by kernel_rfl
theorem factB2 : (Rows.topBeatsFollowSizesRow.unfollowed == Tryz.pinned.checked.prog.unfollowed 3) = true := by kernel_rfl
theorem factB3 : (Rows.topBeatsFollowSizesRow.recurses == Tryz.pinned.checked.prog.recurses 3) = true := by kernel_rfl
theorem factB4 : (Rows.topBeatsFollowSizesRow.named == Tryz.pinned.checked.prog.varsNamed 3) = true := by kernel_rfl
theorem factB : joinedFacts Tryz.pinned.checked.prog 3 Tryz.f3 (OpenSpec.ofChange Rows.topBeatsFollowSizesSpec).bare Rows.topBeatsFollowSizesRow = true := by
  unfold joinedFacts
  rw [factB1, factB2, factB3, factB4]
  kernel_rfl
end Go.Proofs.YtehgeoipbgpocaaGreatDoor
