/- The statement FractionLaws is proved: for any three described fractions, sums and products do not depend on the order, Sub takes back Add, Div takes back Mul, and the floor is near; no number between two others has a lesser denominator than the simplest one. The row lists three tables of the library; the card ties them to the program's text. -/
import Derived.Test.YtoncbkkhfblpdaaDoorLLaws
import Derived.Test.YtoncbkkhfblpdaaDoorWrap
import Derived.Test.YtoncbkkhfblpdaaDoorCards
import Derived.Test.YtoncbkkhfblpdaaDoorTie
import Derived.SevenTiedAt
namespace Go.Proofs.YtoncbkkhfblpdaaDoor.fractionLaws
open Go.ChangeShapes Go.WideShapes Go.ChangeAt Go.RowKit Go.Joins

theorem contract (H : Type) (enc : TypeId × Value → H) (W : World) (base : Nat) (args : Array Value) (ds gs : List (DataW H)) (before : List MemPlace)
    (hval : ∀ (j : Nat) t v, Tryd.f12.params[j]? = some t → args[j]? = some v → Value.okWide Tryd.prog W .any base t v)
    (hW : DataW.Whole enc Tryd.prog Tryd.f12.params.toList Rows.fractionLawsSpec.vars false W args.toList ds gs before)
    (hT : Tab W) :
    Calls Tryd.prog 12 args W fun e W' => ∃ v, e = .returned v ∧ Rows.fractionLawsSpec.post enc Tryd.prog Tryd.f12 false true false false W args v W' := by
  have hW' := hW
  obtain ⟨p, q, hA0, hV, rfl, hfz, hnd⟩ := hW
  have hA : DataW.TrodAll enc Tryd.prog W 0 (fun _ => true) true Tryd.f12.params.toList args.toList ds p := hA0
  rw [Tryd.params12] at hA hval
  obtain ⟨v0, vs0, d0, ds0, p0, q0, hargs, rfl, rfl, h0, r0⟩ := trodAll_cons hA
  obtain ⟨v1, vs1, d1, ds1, p1, q1, rfl, rfl, rfl, h1, r1⟩ := trodAll_cons r0
  obtain ⟨v2, vs2, d2, ds2, p2, q2, rfl, rfl, rfl, h2, r2⟩ := trodAll_cons r1
  obtain ⟨rfl, rfl, rfl⟩ := trodAll_nil r2
  obtain rfl : args = #[v0, v1, v2] := by cases args; simp_all
  obtain ⟨rfl, rfl⟩ := trodVars_none hV
  obtain ⟨a0, c0, ya0, yc0, m0, rfl, rfl, rfl, ha0, hc0⟩ := open_agg2 Tryd.underlying32 (by kernel_rfl) cells32 (hval 0 32 v0 rfl rfl) h0
  obtain ⟨n0, ea0, rfl, wn0⟩ := DataW.trod_int Tryd.underlying30 ha0
  obtain ⟨e0, ec0, rfl, we0⟩ := DataW.trod_int Tryd.underlying5 hc0
  simp at ea0 ec0
  subst ea0 ec0
  have bn0 := bounds_i16 wn0
  have be0 := bounds_u8 we0
  obtain ⟨a1, c1, ya1, yc1, m1, rfl, rfl, rfl, ha1, hc1⟩ := open_agg2 Tryd.underlying32 (by kernel_rfl) cells32 (hval 1 32 v1 rfl rfl) h1
  obtain ⟨n1, ea1, rfl, wn1⟩ := DataW.trod_int Tryd.underlying30 ha1
  obtain ⟨e1, ec1, rfl, we1⟩ := DataW.trod_int Tryd.underlying5 hc1
  simp at ea1 ec1
  subst ea1 ec1
  have bn1 := bounds_i16 wn1
  have be1 := bounds_u8 we1
  obtain ⟨a2, c2, ya2, yc2, m2, rfl, rfl, rfl, ha2, hc2⟩ := open_agg2 Tryd.underlying32 (by kernel_rfl) cells32 (hval 2 32 v2 rfl rfl) h2
  obtain ⟨n2, ea2, rfl, wn2⟩ := DataW.trod_int Tryd.underlying30 ha2
  obtain ⟨e2, ec2, rfl, we2⟩ := DataW.trod_int Tryd.underlying5 hc2
  simp at ea2 ec2
  subst ea2 ec2
  have bn2 := bounds_i16 wn2
  have be2 := bounds_u8 we2
  clear hA0
  refine (fractionLaws_any _ _ _ _ _ _ _ hT bn0.1 bn0.2 be0.1 be0.2 bn1.1 bn1.2 be1.1 be1.2 bn2.1 bn2.2 be2.1 be2.2).mono fun e W' ⟨he, y, hy⟩ => ?_
  subst he hy
  exact ⟨_, rfl, law_post 4 laidOut Tryd.underlying4 rfl (by kernel_rfl) rfl rfl hW' y.below⟩

theorem laid_met (os : Os) : laidMet Tryd.prog Rows.fractionLawsRow.laid ((laidWorld os).forCall (fun _ _ => 0) ⟨#[], #[.agg #[.int .i16 0, .int .u8 0], .agg #[.int .i16 0, .int .u8 0], .agg #[.int .i16 0, .int .u8 0]], []⟩).memory :=
  laidMet_of_run' 70 (by kernel_rfl) (by kernel_rfl)
theorem reads (os : Os) {H : Type} (enc : TypeId × Value → H) : ∃ places, DataW.whole enc Tryd.prog ((laidWorld os).forCall (fun _ _ => 0) ⟨#[], #[.agg #[.int .i16 0, .int .u8 0], .agg #[.int .i16 0, .int .u8 0], .agg #[.int .i16 0, .int .u8 0]], []⟩).memory Tryd.f12.params.toList Rows.fractionLawsSpec.vars false (#[.agg #[.int .i16 0, .int .u8 0], .agg #[.int .i16 0, .int .u8 0], .agg #[.int .i16 0, .int .u8 0]] : Array Value).toList 8 = some ([.agg [.lit (.int .i16 0), .lit (.int .u8 0)], .agg [.lit (.int .i16 0), .lit (.int .u8 0)], .agg [.lit (.int .i16 0), .lit (.int .u8 0)]], [], places) :=
  ⟨[], by kernel_rfl⟩

set_option maxRecDepth 100000 in
theorem lifted (os : Os) (started : os.Started) (H : Type) (enc : TypeId × Value → H) (F : Stop.Interp) :
    ReturnsInHanded {} Tryd.checked os 12 .any ((OpenSpec.ofChange Rows.fractionLawsSpec).preRow enc Tryd.prog Tryd.f12 Rows.fractionLawsRow.domain false Rows.fractionLawsRow.laid) (((OpenSpec.ofChange Rows.fractionLawsSpec).at F).post enc Tryd.prog Tryd.f12 false true false false) := by
  obtain ⟨places, hx⟩ := reads os enc
  refine returnsInHanded_of_row (C := Tryd.checked) (s := OpenSpec.ofChange Rows.fractionLawsSpec) own started (by kernel_rfl) Tryd.func12
    (witness_row_at (enc := enc) (C := Tryd.checked) false (laidWorld os) #[.agg #[.int .i16 0, .int .u8 0], .agg #[.int .i16 0, .int .u8 0], .agg #[.int .i16 0, .int .u8 0]] rfl (by kernel_rfl) (by kernel_rfl) (by kernel_rfl)
      (OpenSpec.preRow_of_cond 8 hx (by kernel_rfl) (fun k hk => by cases hk) (by kernel_rfl) (laid_met os))) ?_
  intro W base args ds gs before hval hW _ _ hsz hL _ _
  exact contract H enc W base args ds gs before hval hW (tab_of hL)

theorem said : Rows.FractionLawsSaid :=
  OpenClaim.holds_of_cond 12 Tryd.f12 rfl rfl rfl rfl rfl rfl rfl ⟨rfl, rfl, rfl, rfl, rfl⟩ rfl rfl rfl rfl rfl (by kernel_rfl) Tryd.func12 (by kernel_rfl)
    (of_decide_eq_true (by kernel_rfl)) (by unfold Func.isWrapper; first | (rw [if_pos (by decide +kernel)]; kernel_rfl) | (rw [if_neg (by decide +kernel)]; exact ⟨rfl, rfl⟩))
    (fun os started H enc _ F => by rw [OpenClaim.pre_eq_preRow]; exact lifted os started H enc F)
theorem plain (f : FuncId) (fn : Func) (hf : Tryd.pinned.checked.prog.funcNamed Rows.fractionLawsRow.func = some f) (hfn : Tryd.pinned.checked.prog.funcs[f]? = some fn) :
    false = Tryd.pinned.checked.prog.looks [] ∧ ∀ (j : Nat) t, fn.params[j]? = some t → Tryd.pinned.checked.prog.wantsStandIn t = false := by
  obtain rfl : f = 12 := Option.some.inj ((show Tryd.prog.funcNamed Rows.fractionLawsRow.func = some 12 by kernel_rfl).symm.trans hf) |>.symm
  obtain rfl : fn = Tryd.f12 := (Option.some.inj (Tryd.func12.symm.trans hfn)).symm
  refine ⟨by kernel_rfl, fun j t ht => ?_⟩
  rw [Tryd.params12] at ht
  have hm : t ∈ [32, 32, 32] := by simpa using Array.mem_of_getElem? ht
  have hall : ([32, 32, 32].all fun u => !Tryd.prog.wantsStandIn u) = true := by kernel_rfl
  exact (show Tryd.prog.wantsStandIn t = false by simpa using List.all_eq_true.1 hall t hm)

theorem card : Rows.FractionLawsCardSaid :=
  Claim7.holds_tied_plain_at .later [] _ _ _ _ said (fun _ h => by cases h) (by kernel_rfl) (fun _ h => by cases h) fractionLaws_row_tie rfl ⟨rfl, rfl⟩ (by kernel_rfl) rfl plain (by kernel_rfl)
#print axioms card
end Go.Proofs.YtoncbkkhfblpdaaDoor.fractionLaws
