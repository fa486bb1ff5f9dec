/- The statement MinimizeErrors is proved: for any two networks of at most 16 gates and 8 outputs and any number of variables up to 4096, all functions return the error of relay.Check for the first one, and then for the second one, and ErrSize for different numbers of outputs. The row lists tables of the library; the card ties them to the program's text. -/
import Derived.Test.YtlnedapimmabdaaGreatDoorLErrors
import Derived.Test.YtlnedapimmabdaaGreatDoorXn
import Derived.Test.YtlnedapimmabdaaGreatDoorWrap
namespace Go.Proofs.YtlnedapimmabdaaGreatDoor.minimizeErrors
set_option linter.unusedVariables false
set_option linter.unusedSimpArgs false
open Go.ChangeShapes Go.WideShapes Go.ChangeAt Go.RowKit Go.Joins

set_option maxRecDepth 100000 in
theorem contract (H : Type) (enc : TypeId × Value → H) (W : World) (base : Nat) (args : Array Value) (ds gs : List (DataW H)) (before : List MemPlace)
    (hval : ∀ (j : Nat) t v, Tryz.f10.params[j]? = some t → args[j]? = some v → Value.okWide Tryz.prog W .any base t v)
    (hW : DataW.Whole enc Tryz.prog Tryz.f10.params.toList Rows.minimizeErrorsSpec.vars false W args.toList ds gs before)
    (hsz : (DataW.weightsEach Tryz.prog (Tryz.f10.params.toList ++ (OpenSpec.ofChange Rows.minimizeErrorsSpec).bare.plain.varTypes Tryz.prog) (ds ++ gs)).all (· ≤ reachBytes) = true)
    (hT : Tab W) :
    Calls Tryz.prog 10 args W fun e W' => ∃ v, e = .returned v ∧ Rows.minimizeErrorsSpec.post enc Tryz.prog Tryz.f10 false true false false W args v W' := by
  have hW' := hW
  obtain ⟨p, q, hA0, hV, rfl, hfz, hnd⟩ := hW
  have hA : DataW.TrodAll enc Tryz.prog W 0 (fun _ => true) true Tryz.f10.params.toList args.toList ds p := hA0
  rw [Tryz.params10] at hA hval
  obtain ⟨v0, vs0, d0, ds0, p0, q0, hargs, rfl, rfl, h0, r0⟩ := trodAll_cons hA
  obtain ⟨v1, vs1, d1, ds1, p1, q1, rfl, rfl, rfl, h1, r1⟩ := trodAll_cons r0
  obtain ⟨v2, vs2, d2, ds2, p2, q2, rfl, rfl, rfl, h2, r2⟩ := trodAll_cons r1
  obtain ⟨rfl, rfl, rfl⟩ := trodAll_nil r2
  obtain rfl : args = #[v0, v1, v2] := by cases args; simp_all
  obtain ⟨rfl, rfl⟩ := trodVars_none hV
  obtain ⟨fuel0, hf0⟩ := h0
  obtain ⟨ng0, no0, L0, O0, ga0, oa0, gc0, oc0, hc0, hng0, hno0, hgi0, hoi0, hLi0, hOi0, hl0, hk0, hm0⟩ := net_open fuel0 _ _ hf0
  obtain ⟨cs0, rfl, _⟩ := okWide_struct Tryz.underlying25 (hval 0 25 v0 rfl rfl)
  obtain rfl : cs0 = #[.slice ga0 ng0 gc0, .slice oa0 no0 oc0] := by
    have e : cs0.toList = _ := hc0
    rw [← Array.toArray_toList (xs := cs0), e]
  subst hng0 hno0
  obtain ⟨fuel1, hf1⟩ := h1
  obtain ⟨ng1, no1, L1, O1, ga1, oa1, gc1, oc1, hc1, hng1, hno1, hgi1, hoi1, hLi1, hOi1, hl1, hk1, hm1⟩ := net_open fuel1 _ _ hf1
  obtain ⟨cs1, rfl, _⟩ := okWide_struct Tryz.underlying25 (hval 1 25 v1 rfl rfl)
  obtain rfl : cs1 = #[.slice ga1 ng1 gc1, .slice oa1 no1 oc1] := by
    have e : cs1.toList = _ := hc1
    rw [← Array.toArray_toList (xs := cs1), e]
  subst hng1 hno1
  obtain ⟨x2, rfl, rfl, rfl, wx2⟩ := open_int Tryz.underlying3 (hval 2 3 v2 rfl rfl) h2
  have b2 := bounds_i64 wx2
  clear hA0
  have hpay := hsz
  rw [Tryz.params10] at hpay
  have hp := List.all_eq_true.1 hpay
  have hp0 : ∀ n ∈ DataW.weights Tryz.prog 25 d0, n ≤ reachBytes := fun n hn => of_decide_eq_true (hp n (List.mem_append.2 (.inl hn)))
  have hp1 : ∀ n ∈ DataW.weights Tryz.prog 25 d1, n ≤ reachBytes := fun n hn => of_decide_eq_true (hp n (List.mem_append.2 (.inr (List.mem_append.2 (.inl hn)))))
  have hl0' := net_pay fuel0 _ _ _ _ _ hf0 hp0 rfl hgi0
  have hl1' := net_pay fuel1 _ _ _ _ _ hf1 hp1 rfl hgi1
  have walk : Calls Tryz.prog 10 #[.agg #[.slice ga0 L0.length gc0, .slice oa0 O0.length oc0], .agg #[.slice ga1 L1.length gc1, .slice oa1 O1.length oc1], .int .i64 x2] W (Ret (.bool true) W) :=
    lawErrors_any L0 L1 O0 O1 x2 ga0 oa0 ga1 oa1 gc0 oc0 gc1 oc1 W hT hgi0 hoi0 hgi1 hoi1 hl0' hl1' hk0 hm0 hk1 hm1
  clear hsz hpay
  refine (walk).mono fun e W' ⟨he, y, hy⟩ => ?_
  subst he hy
  exact ⟨_, rfl, law_post 4 laidOut Tryz.underlying4 rfl (by kernel_rfl) rfl rfl hW' y.below⟩

theorem laid_met (os : Os) : laidMet Tryz.prog Rows.minimizeErrorsRow.laid ((laidWorld os).forCall (fun _ _ => 0) ⟨#[], #[.agg #[.slice none 0 0, .slice none 0 0], .agg #[.slice none 0 0, .slice none 0 0], .int .i64 0], []⟩).memory :=
  laidMet_of_run' 70 (by kernel_rfl) (by kernel_rfl)
theorem reads (os : Os) {H : Type} (enc : TypeId × Value → H) : ∃ places, DataW.whole enc Tryz.prog ((laidWorld os).forCall (fun _ _ => 0) ⟨#[], #[.agg #[.slice none 0 0, .slice none 0 0], .agg #[.slice none 0 0, .slice none 0 0], .int .i64 0], []⟩).memory Tryz.f10.params.toList Rows.minimizeErrorsSpec.vars false (#[.agg #[.slice none 0 0, .slice none 0 0], .agg #[.slice none 0 0, .slice none 0 0], .int .i64 0] : Array Value).toList 8 = some ([.agg [.nil, .nil], .agg [.nil, .nil], .lit (.int .i64 0)], [], places) :=
  ⟨[], by kernel_rfl⟩

set_option maxRecDepth 100000 in
theorem lifted (os : Os) (started : os.Started) (H : Type) (enc : TypeId × Value → H) (F : Stop.Interp) :
    ReturnsInHanded {} Tryz.checked os 10 .any ((OpenSpec.ofChange Rows.minimizeErrorsSpec).preRow enc Tryz.prog Tryz.f10 Rows.minimizeErrorsRow.domain false Rows.minimizeErrorsRow.laid) (((OpenSpec.ofChange Rows.minimizeErrorsSpec).at F).post enc Tryz.prog Tryz.f10 false true false false) := by
  obtain ⟨places, hx⟩ := reads os enc
  refine returnsInHanded_of_row (C := Tryz.checked) (s := OpenSpec.ofChange Rows.minimizeErrorsSpec) own started (by kernel_rfl) Tryz.func10
    (witness_row_at (enc := enc) (C := Tryz.checked) false (laidWorld os) #[.agg #[.slice none 0 0, .slice none 0 0], .agg #[.slice none 0 0, .slice none 0 0], .int .i64 0] rfl (by kernel_rfl) (by kernel_rfl) (by kernel_rfl)
      (OpenSpec.preRow_of_cond 8 hx (by kernel_rfl) (fun k hk => by cases hk) (by kernel_rfl) (laid_met os))) ?_
  intro W base args ds gs before hval hW _ _ hsz hL _ _
  exact contract H enc W base args ds gs before hval hW hsz (lib_of hL)

theorem said : Rows.MinimizeErrorsSaid :=
  OpenClaim.holds_of_cond 10 Tryz.f10 rfl rfl rfl rfl rfl rfl rfl ⟨rfl, rfl, rfl, rfl, rfl⟩ rfl rfl rfl rfl rfl (by kernel_rfl) Tryz.func10 (by kernel_rfl)
    (of_decide_eq_true (by kernel_rfl)) (by unfold Func.isWrapper; first | (rw [if_pos (by decide +kernel)]; kernel_rfl) | (rw [if_neg (by decide +kernel)]; exact ⟨rfl, rfl⟩))
    (fun os started H enc _ F => by rw [OpenClaim.pre_eq_preRow]; exact lifted os started H enc F)
theorem plain (f : FuncId) (fn : Func) (hf : Tryz.pinned.checked.prog.funcNamed Rows.minimizeErrorsRow.func = some f) (hfn : Tryz.pinned.checked.prog.funcs[f]? = some fn) :
    false = Tryz.pinned.checked.prog.looks [] ∧ ∀ (j : Nat) t, fn.params[j]? = some t → Tryz.pinned.checked.prog.wantsStandIn t = false := by
  obtain rfl : f = 10 := Option.some.inj ((show Tryz.prog.funcNamed Rows.minimizeErrorsRow.func = some 10 by kernel_rfl).symm.trans hf) |>.symm
  obtain rfl : fn = Tryz.f10 := (Option.some.inj (Tryz.func10.symm.trans hfn)).symm
  refine ⟨by kernel_rfl, fun j t ht => ?_⟩
  rw [Tryz.params10] at ht
  have hm : t ∈ [25, 25, 3] := by simpa using Array.mem_of_getElem? ht
  have hall : ([25, 25, 3].all fun u => !Tryz.prog.wantsStandIn u) = true := by kernel_rfl
  exact (show Tryz.prog.wantsStandIn t = false by simpa using List.all_eq_true.1 hall t hm)

theorem card : Rows.MinimizeErrorsCardSaid :=
  Claim7.holds_tied_plain_at .later [] _ _ _ _ said (fun _ h => by cases h) (by kernel_rfl) (fun _ h => by cases h) minimizeErrors_row_tie rfl ⟨rfl, rfl⟩ (by kernel_rfl) rfl plain (by kernel_rfl)
#print axioms card
end Go.Proofs.YtlnedapimmabdaaGreatDoor.minimizeErrors
