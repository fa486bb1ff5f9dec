/- The statement FormulaChecks is proved: for any two formulas of at most 40 nodes, Check returns OK or the first error, and so do the other functions; Equal compares them as trees, and Size returns their numbers. The row lists tables and errors of the library; the card ties them to the program's text. -/
import Derived.Test.YtkbellmhanpocaaGreatDoorLChecks
import Derived.Test.YtkbellmhanpocaaGreatDoorD0
import Derived.Test.YtkbellmhanpocaaGreatDoorWrap
namespace Go.Proofs.YtkbellmhanpocaaGreatDoor.formulaChecks
set_option linter.unusedVariables false
set_option linter.unusedSimpArgs false
open Go.ChangeShapes Go.WideShapes Go.ChangeAt Go.RowKit Go.Joins

set_option maxRecDepth 100000 in
theorem contract (H : Type) (enc : TypeId × Value → H) (W : World) (base : Nat) (args : Array Value) (ds gs : List (DataW H)) (before : List MemPlace)
    (hval : ∀ (j : Nat) t v, Tryz.f4.params[j]? = some t → args[j]? = some v → Value.okWide Tryz.prog W .any base t v)
    (hW : DataW.Whole enc Tryz.prog Tryz.f4.params.toList Rows.formulaChecksSpec.vars false W args.toList ds gs before)
    (hT : Tab W) :
    Calls Tryz.prog 4 args W fun e W' => ∃ v, e = .returned v ∧ Rows.formulaChecksSpec.post enc Tryz.prog Tryz.f4 false true false false W args v W' := by
  have hW' := hW
  obtain ⟨p, q, hA0, hV, rfl, hfz, hnd⟩ := hW
  have hA : DataW.TrodAll enc Tryz.prog W 0 (fun _ => true) true Tryz.f4.params.toList args.toList ds p := hA0
  rw [Tryz.params4] at hA hval
  obtain ⟨v0, vs0, d0, ds0, p0, q0, hargs, rfl, rfl, h0, r0⟩ := trodAll_cons hA
  obtain ⟨v1, vs1, d1, ds1, p1, q1, rfl, rfl, rfl, h1, r1⟩ := trodAll_cons r0
  obtain ⟨rfl, rfl, rfl⟩ := trodAll_nil r1
  obtain rfl : args = #[v0, v1] := by cases args; simp_all
  obtain ⟨rfl, rfl⟩ := trodVars_none hV
  obtain ⟨fuel0, hf0⟩ := h0
  obtain ⟨t0, ad0, cap0, hc0, hi0⟩ := formula_open fuel0 _ _ hf0
  obtain ⟨cs0, rfl, _⟩ := okWide_struct Tryz.underlying26 (hval 0 26 v0 rfl rfl)
  obtain rfl : cs0 = #[.int .i64 (F.k t0), .int .i64 (F.a t0), .slice ad0 (F.l t0).length cap0] := by
    have e : cs0.toList = _ := hc0
    rw [← Array.toArray_toList (xs := cs0), e]
  obtain ⟨fuel1, hf1⟩ := h1
  obtain ⟨t1, ad1, cap1, hc1, hi1⟩ := formula_open fuel1 _ _ hf1
  obtain ⟨cs1, rfl, _⟩ := okWide_struct Tryz.underlying26 (hval 1 26 v1 rfl rfl)
  obtain rfl : cs1 = #[.int .i64 (F.k t1), .int .i64 (F.a t1), .slice ad1 (F.l t1).length cap1] := by
    have e : cs1.toList = _ := hc1
    rw [← Array.toArray_toList (xs := cs1), e]
  clear hA0
  have walk : Calls Tryz.prog 4 #[.agg #[.int .i64 (F.k t0), .int .i64 (F.a t0), .slice ad0 (F.l t0).length cap0], .agg #[.int .i64 (F.k t1), .int .i64 (F.a t1), .slice ad1 (F.l t1).length cap1]] W (Ret (.bool true) W) := by
    by_cases h1 : nodes t0 ≤ 40
    · by_cases h2 : nodes t1 ≤ 40
      · by_cases hc : checkF t0 = 0
        · exact lawChecks_ok t0 t1 _ _ ad0 ad1 cap0 cap1 W hT hi0 hi1 h1 h2 hc
        · exact lawChecks_bad t0 t1 _ _ ad0 ad1 cap0 cap1 W hT hi0 hi1 h1 h2 hc
      · exact lawChecks_big2 t0 t1 _ _ ad0 ad1 cap0 cap1 W hT hi0 hi1 h1 h2
    · exact lawChecks_big1 t0 t1 _ _ ad0 ad1 cap0 cap1 W hT hi0 hi1 h1
  refine (walk).mono fun e W' ⟨he, y, hy⟩ => ?_
  subst he hy
  exact ⟨_, rfl, law_post 4 laidOut Tryz.underlying4 rfl (by kernel_rfl) rfl rfl hW' y.below⟩

theorem laid_met (os : Os) : laidMet Tryz.prog Rows.formulaChecksRow.laid ((laidWorld os).forCall (fun _ _ => 0) ⟨#[], #[.agg #[.int .i64 0, .int .i64 0, .slice none 0 0], .agg #[.int .i64 0, .int .i64 0, .slice none 0 0]], []⟩).memory :=
  laidMet_of_run' 70 (by kernel_rfl) (by kernel_rfl)
theorem reads (os : Os) {H : Type} (enc : TypeId × Value → H) : ∃ places, DataW.whole enc Tryz.prog ((laidWorld os).forCall (fun _ _ => 0) ⟨#[], #[.agg #[.int .i64 0, .int .i64 0, .slice none 0 0], .agg #[.int .i64 0, .int .i64 0, .slice none 0 0]], []⟩).memory Tryz.f4.params.toList Rows.formulaChecksSpec.vars false (#[.agg #[.int .i64 0, .int .i64 0, .slice none 0 0], .agg #[.int .i64 0, .int .i64 0, .slice none 0 0]] : Array Value).toList 8 = some ([.agg [.lit (.int .i64 0), .lit (.int .i64 0), .nil], .agg [.lit (.int .i64 0), .lit (.int .i64 0), .nil]], [], places) :=
  ⟨[], by kernel_rfl⟩

set_option maxRecDepth 100000 in
theorem lifted (os : Os) (started : os.Started) (H : Type) (enc : TypeId × Value → H) (F : Stop.Interp) :
    ReturnsInHanded {} Tryz.checked os 4 .any ((OpenSpec.ofChange Rows.formulaChecksSpec).preRow enc Tryz.prog Tryz.f4 Rows.formulaChecksRow.domain false Rows.formulaChecksRow.laid) (((OpenSpec.ofChange Rows.formulaChecksSpec).at F).post enc Tryz.prog Tryz.f4 false true false false) := by
  obtain ⟨places, hx⟩ := reads os enc
  refine returnsInHanded_of_row (C := Tryz.checked) (s := OpenSpec.ofChange Rows.formulaChecksSpec) own started (by kernel_rfl) Tryz.func4
    (witness_row_at (enc := enc) (C := Tryz.checked) false (laidWorld os) #[.agg #[.int .i64 0, .int .i64 0, .slice none 0 0], .agg #[.int .i64 0, .int .i64 0, .slice none 0 0]] rfl (by kernel_rfl) (by kernel_rfl) (by kernel_rfl)
      (OpenSpec.preRow_of_cond 8 hx (by kernel_rfl) (fun k hk => by cases hk) (by kernel_rfl) (laid_met os))) ?_
  intro W base args ds gs before hval hW _ _ hsz hL _ _
  exact contract H enc W base args ds gs before hval hW (lib_of hL)

theorem said : Rows.FormulaChecksSaid :=
  OpenClaim.holds_of_cond 4 Tryz.f4 rfl rfl rfl rfl rfl rfl rfl ⟨rfl, rfl, rfl, rfl, rfl⟩ rfl rfl rfl rfl rfl (by kernel_rfl) Tryz.func4 (by kernel_rfl)
    (of_decide_eq_true (by kernel_rfl)) (by unfold Func.isWrapper; first | (rw [if_pos (by decide +kernel)]; kernel_rfl) | (rw [if_neg (by decide +kernel)]; exact ⟨rfl, rfl⟩))
    (fun os started H enc _ F => by rw [OpenClaim.pre_eq_preRow]; exact lifted os started H enc F)
theorem plain (f : FuncId) (fn : Func) (hf : Tryz.pinned.checked.prog.funcNamed Rows.formulaChecksRow.func = some f) (hfn : Tryz.pinned.checked.prog.funcs[f]? = some fn) :
    true = Tryz.pinned.checked.prog.looks [] ∧ ∀ (j : Nat) t, fn.params[j]? = some t → Tryz.pinned.checked.prog.wantsStandIn t = false := by
  obtain rfl : f = 4 := Option.some.inj ((show Tryz.prog.funcNamed Rows.formulaChecksRow.func = some 4 by kernel_rfl).symm.trans hf) |>.symm
  obtain rfl : fn = Tryz.f4 := (Option.some.inj (Tryz.func4.symm.trans hfn)).symm
  refine ⟨by kernel_rfl, fun j t ht => ?_⟩
  rw [Tryz.params4] at ht
  have hm : t ∈ [26, 26] := by simpa using Array.mem_of_getElem? ht
  have hall : ([26, 26].all fun u => !Tryz.prog.wantsStandIn u) = true := by kernel_rfl
  exact (show Tryz.prog.wantsStandIn t = false by simpa using List.all_eq_true.1 hall t hm)

theorem card : Rows.FormulaChecksCardSaid :=
  Claim7.holds_tied_plain_at .later [] _ _ _ _ said (fun _ h => by cases h) (by kernel_rfl) (fun _ h => by cases h) formulaChecks_row_tie rfl ⟨rfl, rfl⟩ (by kernel_rfl) rfl plain (by kernel_rfl)
#print axioms card
end Go.Proofs.YtkbellmhanpocaaGreatDoor.formulaChecks
