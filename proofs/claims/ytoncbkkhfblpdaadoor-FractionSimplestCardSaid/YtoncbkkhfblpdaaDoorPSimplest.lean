/- The statement FractionSimplest is proved: for any two described fractions, Simplest returns the simplest number from the one to the other one, or ErrOrder; that from a number to itself is it. The row lists three tables of the library; the card ties them to the program's text. -/
import Derived.Test.YtoncbkkhfblpdaaDoorLSimplest
import Derived.Test.YtoncbkkhfblpdaaDoorWrap
import Derived.Test.YtoncbkkhfblpdaaDoorCards
import Derived.Test.YtoncbkkhfblpdaaDoorTie
import Derived.SevenTiedAt
namespace Go.Proofs.YtoncbkkhfblpdaaDoor.fractionSimplest
open Go.ChangeShapes Go.WideShapes Go.ChangeAt Go.RowKit Go.Joins

theorem contract (H : Type) (enc : TypeId × Value → H) (W : World) (base : Nat) (args : Array Value) (ds gs : List (DataW H)) (before : List MemPlace)
    (hval : ∀ (j : Nat) t v, Tryd.f9.params[j]? = some t → args[j]? = some v → Value.okWide Tryd.prog W .any base t v)
    (hW : DataW.Whole enc Tryd.prog Tryd.f9.params.toList Rows.fractionSimplestSpec.vars false W args.toList ds gs before)
    (hT : Tab W) :
    Calls Tryd.prog 9 args W fun e W' => ∃ v, e = .returned v ∧ Rows.fractionSimplestSpec.post enc Tryd.prog Tryd.f9 false true false false W args v W' := by
  have hW' := hW
  obtain ⟨p, q, hA0, hV, rfl, hfz, hnd⟩ := hW
  have hA : DataW.TrodAll enc Tryd.prog W 0 (fun _ => true) true Tryd.f9.params.toList args.toList ds p := hA0
  rw [Tryd.params9] at hA hval
  obtain ⟨v0, vs0, d0, ds0, p0, q0, hargs, rfl, rfl, h0, r0⟩ := trodAll_cons hA
  obtain ⟨v1, vs1, d1, ds1, p1, q1, rfl, rfl, rfl, h1, r1⟩ := trodAll_cons r0
  obtain ⟨rfl, rfl, rfl⟩ := trodAll_nil r1
  obtain rfl : args = #[v0, v1] := by cases args; simp_all
  obtain ⟨rfl, rfl⟩ := trodVars_none hV
  obtain ⟨a0, c0, ya0, yc0, m0, rfl, rfl, rfl, ha0, hc0⟩ := open_agg2 Tryd.underlying32 (by kernel_rfl) cells32 (hval 0 32 v0 rfl rfl) h0
  obtain ⟨n0, ea0, rfl, wn0⟩ := DataW.trod_int Tryd.underlying30 ha0
  obtain ⟨e0, ec0, rfl, we0⟩ := DataW.trod_int Tryd.underlying5 hc0
  simp at ea0 ec0
  subst ea0 ec0
  have bn0 := bounds_i16 wn0
  have be0 := bounds_u8 we0
  obtain ⟨a1, c1, ya1, yc1, m1, rfl, rfl, rfl, ha1, hc1⟩ := open_agg2 Tryd.underlying32 (by kernel_rfl) cells32 (hval 1 32 v1 rfl rfl) h1
  obtain ⟨n1, ea1, rfl, wn1⟩ := DataW.trod_int Tryd.underlying30 ha1
  obtain ⟨e1, ec1, rfl, we1⟩ := DataW.trod_int Tryd.underlying5 hc1
  simp at ea1 ec1
  subst ea1 ec1
  have bn1 := bounds_i16 wn1
  have be1 := bounds_u8 we1
  clear hA0
  refine (fractionSimplest_any _ _ _ _ _ hT bn0.1 bn0.2 be0.1 be0.2 bn1.1 bn1.2 be1.1 be1.2).mono fun e W' ⟨he, y, hy⟩ => ?_
  subst he hy
  exact ⟨_, rfl, law_post 4 laidOut Tryd.underlying4 rfl (by kernel_rfl) rfl rfl hW' y.below⟩

theorem laid_met (os : Os) : laidMet Tryd.prog Rows.fractionSimplestRow.laid ((laidWorld os).forCall (fun _ _ => 0) ⟨#[], #[.agg #[.int .i16 0, .int .u8 0], .agg #[.int .i16 0, .int .u8 0]], []⟩).memory :=
  laidMet_of_run' 70 (by kernel_rfl) (by kernel_rfl)
theorem reads (os : Os) {H : Type} (enc : TypeId × Value → H) : ∃ places, DataW.whole enc Tryd.prog ((laidWorld os).forCall (fun _ _ => 0) ⟨#[], #[.agg #[.int .i16 0, .int .u8 0], .agg #[.int .i16 0, .int .u8 0]], []⟩).memory Tryd.f9.params.toList Rows.fractionSimplestSpec.vars false (#[.agg #[.int .i16 0, .int .u8 0], .agg #[.int .i16 0, .int .u8 0]] : Array Value).toList 8 = some ([.agg [.lit (.int .i16 0), .lit (.int .u8 0)], .agg [.lit (.int .i16 0), .lit (.int .u8 0)]], [], places) :=
  ⟨[], by kernel_rfl⟩

set_option maxRecDepth 100000 in
theorem lifted (os : Os) (started : os.Started) (H : Type) (enc : TypeId × Value → H) (F : Stop.Interp) :
    ReturnsInHanded {} Tryd.checked os 9 .any ((OpenSpec.ofChange Rows.fractionSimplestSpec).preRow enc Tryd.prog Tryd.f9 Rows.fractionSimplestRow.domain false Rows.fractionSimplestRow.laid) (((OpenSpec.ofChange Rows.fractionSimplestSpec).at F).post enc Tryd.prog Tryd.f9 false true false false) := by
  obtain ⟨places, hx⟩ := reads os enc
  refine returnsInHanded_of_row (C := Tryd.checked) (s := OpenSpec.ofChange Rows.fractionSimplestSpec) own started (by kernel_rfl) Tryd.func9
    (witness_row_at (enc := enc) (C := Tryd.checked) false (laidWorld os) #[.agg #[.int .i16 0, .int .u8 0], .agg #[.int .i16 0, .int .u8 0]] rfl (by kernel_rfl) (by kernel_rfl) (by kernel_rfl)
      (OpenSpec.preRow_of_cond 8 hx (by kernel_rfl) (fun k hk => by cases hk) (by kernel_rfl) (laid_met os))) ?_
  intro W base args ds gs before hval hW _ _ hsz hL _ _
  exact contract H enc W base args ds gs before hval hW (tab_of hL)

theorem said : Rows.FractionSimplestSaid :=
  OpenClaim.holds_of_cond 9 Tryd.f9 rfl rfl rfl rfl rfl rfl rfl ⟨rfl, rfl, rfl, rfl, rfl⟩ rfl rfl rfl rfl rfl (by kernel_rfl) Tryd.func9 (by kernel_rfl)
    (of_decide_eq_true (by kernel_rfl)) (by unfold Func.isWrapper; first | (rw [if_pos (by decide +kernel)]; kernel_rfl) | (rw [if_neg (by decide +kernel)]; exact ⟨rfl, rfl⟩))
    (fun os started H enc _ F => by rw [OpenClaim.pre_eq_preRow]; exact lifted os started H enc F)
theorem plain (f : FuncId) (fn : Func) (hf : Tryd.pinned.checked.prog.funcNamed Rows.fractionSimplestRow.func = some f) (hfn : Tryd.pinned.checked.prog.funcs[f]? = some fn) :
    false = Tryd.pinned.checked.prog.looks [] ∧ ∀ (j : Nat) t, fn.params[j]? = some t → Tryd.pinned.checked.prog.wantsStandIn t = false := by
  obtain rfl : f = 9 := Option.some.inj ((show Tryd.prog.funcNamed Rows.fractionSimplestRow.func = some 9 by kernel_rfl).symm.trans hf) |>.symm
  obtain rfl : fn = Tryd.f9 := (Option.some.inj (Tryd.func9.symm.trans hfn)).symm
  refine ⟨by kernel_rfl, fun j t ht => ?_⟩
  rw [Tryd.params9] at ht
  have hm : t ∈ [32, 32] := by simpa using Array.mem_of_getElem? ht
  have hall : ([32, 32].all fun u => !Tryd.prog.wantsStandIn u) = true := by kernel_rfl
  exact (show Tryd.prog.wantsStandIn t = false by simpa using List.all_eq_true.1 hall t hm)

theorem card : Rows.FractionSimplestCardSaid :=
  Claim7.holds_tied_plain_at .later [] _ _ _ _ said (fun _ h => by cases h) (by kernel_rfl) (fun _ h => by cases h) fractionSimplest_row_tie rfl ⟨rfl, rfl⟩ (by kernel_rfl) rfl plain (by kernel_rfl)
#print axioms card
end Go.Proofs.YtoncbkkhfblpdaaDoor.fractionSimplest
