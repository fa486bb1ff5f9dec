/- The statement FractionValues is proved: for any list of at most 42 ints, Value returns the value of the continued fraction, or the first error. The row lists three tables of the library; the card ties them to the program's text. -/
import Derived.Test.YtoncbkkhfblpdaaDoorJ
import Derived.Test.YtoncbkkhfblpdaaDoorWrap
import Derived.Test.YtoncbkkhfblpdaaDoorCards
import Derived.Test.YtoncbkkhfblpdaaDoorTie
import Derived.SevenTiedAt
namespace Go.Proofs.YtoncbkkhfblpdaaDoor.fractionValues
open Go.ChangeShapes Go.WideShapes Go.ChangeAt Go.RowKit Go.Joins

theorem contract (H : Type) (enc : TypeId × Value → H) (W : World) (base : Nat) (args : Array Value) (ds gs : List (DataW H)) (before : List MemPlace)
    (hval : ∀ (j : Nat) t v, Tryd.f5.params[j]? = some t → args[j]? = some v → Value.okWide Tryd.prog W .any base t v)
    (hW : DataW.Whole enc Tryd.prog Tryd.f5.params.toList Rows.fractionValuesSpec.vars false W args.toList ds gs before)
    (hT : Tab W) :
    Calls Tryd.prog 5 args W fun e W' => ∃ v, e = .returned v ∧ Rows.fractionValuesSpec.post enc Tryd.prog Tryd.f5 false true false false W args v W' := by
  have hW' := hW
  obtain ⟨p, q, hA0, hV, rfl, hfz, hnd⟩ := hW
  have hA : DataW.TrodAll enc Tryd.prog W 0 (fun _ => true) true Tryd.f5.params.toList args.toList ds p := hA0
  rw [Tryd.params5] at hA hval
  obtain ⟨v0, vs0, d0, ds0, p0, q0, hargs, rfl, rfl, h0, r0⟩ := trodAll_cons hA
  obtain ⟨rfl, rfl, rfl⟩ := trodAll_nil r0
  obtain rfl : args = #[v0] := by cases args; simp_all
  obtain ⟨rfl, rfl⟩ := trodVars_none hV
  obtain ⟨a0, len, cap, rfl⟩ := okWide_slice Tryd.underlying36 (hval 0 36 v0 rfl rfl)
  obtain ⟨fuel, hf⟩ := h0
  have walk : Calls Tryd.prog 5 #[.slice a0 len cap] W (Ret (.bool true) W) := by
    rcases open_ints Tryd.underlying36 Tryd.underlying3 cells3 hf with ⟨hcs, hx⟩ | ⟨a, len', cap', zs, hcs, _, hl, hm, hz, hx, hcell, hwz⟩
    · simp [Value.cells] at hcs
      obtain ⟨rfl, rfl, rfl⟩ := hcs
      exact fractionValues_eq _ 0 0 0 13 W hT (by omega) (.inl ⟨rfl, rfl⟩) (fun x => (value_empty x.w _ (.inl rfl)).1) (fun x => (value_empty x.w _ (.inl rfl)).2)
    · simp [Value.cells] at hcs
      obtain ⟨rfl, rfl, rfl⟩ := hcs
      simp at hz
      by_cases h42 : 42 < len
      · exact fractionValues_long a len cap W hT h42
      · by_cases h0 : 0 < len
        · obtain ⟨b, off, rfl, hc⟩ := ints_at hcell (by omega)
          have hlen : (zs.take len).length = len := by rw [List.length_take]; omega
          have := fractionValues_any W b off cap (zs.take len) hT (fun i z hi => by
            have hil := (List.getElem?_eq_some_iff.1 hi).1
            rw [hlen] at hil
            rw [hc i (by omega)]
            rw [List.getElem?_take, if_pos hil] at hi
            rw [List.getD_eq_getElem?_getD, hi]
            rfl) (by omega) (by omega)
          rw [hlen] at this
          exact this
        · obtain rfl : len = 0 := by omega
          exact fractionValues_eq _ 0 0 0 13 W hT (by omega) (.inr ⟨_, _, rfl⟩) (fun x => (value_empty x.w _ (.inr ⟨_, _, rfl⟩)).1) (fun x => (value_empty x.w _ (.inr ⟨_, _, rfl⟩)).2)
  clear hA0
  refine (walk).mono fun e W' ⟨he, y, hy⟩ => ?_
  subst he hy
  exact ⟨_, rfl, law_post 4 laidOut Tryd.underlying4 rfl (by kernel_rfl) rfl rfl hW' y.below⟩

theorem laid_met (os : Os) : laidMet Tryd.prog Rows.fractionValuesRow.laid ((laidWorld os).forCall (fun _ _ => 0) ⟨#[], #[.slice none 0 0], []⟩).memory :=
  laidMet_of_run' 70 (by kernel_rfl) (by kernel_rfl)
theorem reads (os : Os) {H : Type} (enc : TypeId × Value → H) : ∃ places, DataW.whole enc Tryd.prog ((laidWorld os).forCall (fun _ _ => 0) ⟨#[], #[.slice none 0 0], []⟩).memory Tryd.f5.params.toList Rows.fractionValuesSpec.vars false (#[.slice none 0 0] : Array Value).toList 8 = some ([.nil], [], places) :=
  ⟨[], by kernel_rfl⟩

set_option maxRecDepth 100000 in
theorem lifted (os : Os) (started : os.Started) (H : Type) (enc : TypeId × Value → H) (F : Stop.Interp) :
    ReturnsInHanded {} Tryd.checked os 5 .any ((OpenSpec.ofChange Rows.fractionValuesSpec).preRow enc Tryd.prog Tryd.f5 Rows.fractionValuesRow.domain false Rows.fractionValuesRow.laid) (((OpenSpec.ofChange Rows.fractionValuesSpec).at F).post enc Tryd.prog Tryd.f5 false true false false) := by
  obtain ⟨places, hx⟩ := reads os enc
  refine returnsInHanded_of_row (C := Tryd.checked) (s := OpenSpec.ofChange Rows.fractionValuesSpec) own started (by kernel_rfl) Tryd.func5
    (witness_row_at (enc := enc) (C := Tryd.checked) false (laidWorld os) #[.slice none 0 0] rfl (by kernel_rfl) (by kernel_rfl) (by kernel_rfl)
      (OpenSpec.preRow_of_cond 8 hx (by kernel_rfl) (fun k hk => by cases hk) (by kernel_rfl) (laid_met os))) ?_
  intro W base args ds gs before hval hW _ _ hsz hL _ _
  exact contract H enc W base args ds gs before hval hW (tab_of hL)

theorem said : Rows.FractionValuesSaid :=
  OpenClaim.holds_of_cond 5 Tryd.f5 rfl rfl rfl rfl rfl rfl rfl ⟨rfl, rfl, rfl, rfl, rfl⟩ rfl rfl rfl rfl rfl (by kernel_rfl) Tryd.func5 (by kernel_rfl)
    (of_decide_eq_true (by kernel_rfl)) (by unfold Func.isWrapper; first | (rw [if_pos (by decide +kernel)]; kernel_rfl) | (rw [if_neg (by decide +kernel)]; exact ⟨rfl, rfl⟩))
    (fun os started H enc _ F => by rw [OpenClaim.pre_eq_preRow]; exact lifted os started H enc F)
theorem plain (f : FuncId) (fn : Func) (hf : Tryd.pinned.checked.prog.funcNamed Rows.fractionValuesRow.func = some f) (hfn : Tryd.pinned.checked.prog.funcs[f]? = some fn) :
    false = Tryd.pinned.checked.prog.looks [] ∧ ∀ (j : Nat) t, fn.params[j]? = some t → Tryd.pinned.checked.prog.wantsStandIn t = false := by
  obtain rfl : f = 5 := Option.some.inj ((show Tryd.prog.funcNamed Rows.fractionValuesRow.func = some 5 by kernel_rfl).symm.trans hf) |>.symm
  obtain rfl : fn = Tryd.f5 := (Option.some.inj (Tryd.func5.symm.trans hfn)).symm
  refine ⟨by kernel_rfl, fun j t ht => ?_⟩
  rw [Tryd.params5] at ht
  have hm : t ∈ [36] := by simpa using Array.mem_of_getElem? ht
  have hall : ([36].all fun u => !Tryd.prog.wantsStandIn u) = true := by kernel_rfl
  exact (show Tryd.prog.wantsStandIn t = false by simpa using List.all_eq_true.1 hall t hm)

theorem card : Rows.FractionValuesCardSaid :=
  Claim7.holds_tied_plain_at .later [] _ _ _ _ said (fun _ h => by cases h) (by kernel_rfl) (fun _ h => by cases h) fractionValues_row_tie rfl ⟨rfl, rfl⟩ (by kernel_rfl) rfl plain (by kernel_rfl)
#print axioms card
end Go.Proofs.YtoncbkkhfblpdaaDoor.fractionValues
