/- The statement DiagramWitnesses is proved: for any table and any number of variables, Witness returns the first list of values for which it is true, false if there is none, or the first error. The row lists tables and errors of the library; the card ties them to the program's text. -/
import Derived.Test.YtkdmhjlcgpnjpaaGreatDoorLWitnesses
import Derived.Test.YtkdmhjlcgpnjpaaGreatDoorWrap
namespace Go.Proofs.YtkdmhjlcgpnjpaaGreatDoor.diagramWitnesses
set_option linter.unusedVariables false
set_option linter.unusedSimpArgs false
open Go.ChangeShapes Go.WideShapes Go.ChangeAt Go.RowKit Go.Joins

set_option maxRecDepth 100000 in
theorem contract (H : Type) (enc : TypeId × Value → H) (W : World) (base : Nat) (args : Array Value) (ds gs : List (DataW H)) (before : List MemPlace)
    (hval : ∀ (j : Nat) t v, Tryz.f5.params[j]? = some t → args[j]? = some v → Value.okWide Tryz.prog W .any base t v)
    (hW : DataW.Whole enc Tryz.prog Tryz.f5.params.toList Rows.diagramWitnessesSpec.vars false W args.toList ds gs before)
    (hT : Tab W) :
    Calls Tryz.prog 5 args W fun e W' => ∃ v, e = .returned v ∧ Rows.diagramWitnessesSpec.post enc Tryz.prog Tryz.f5 false true false false W args v W' := by
  have hW' := hW
  obtain ⟨p, q, hA0, hV, rfl, hfz, hnd⟩ := hW
  have hA : DataW.TrodAll enc Tryz.prog W 0 (fun _ => true) true Tryz.f5.params.toList args.toList ds p := hA0
  rw [Tryz.params5] at hA hval
  obtain ⟨v0, vs0, d0, ds0, p0, q0, hargs, rfl, rfl, h0, r0⟩ := trodAll_cons hA
  obtain ⟨v1, vs1, d1, ds1, p1, q1, rfl, rfl, rfl, h1, r1⟩ := trodAll_cons r0
  obtain ⟨rfl, rfl, rfl⟩ := trodAll_nil r1
  obtain rfl : args = #[v0, v1] := by cases args; simp_all
  obtain ⟨rfl, rfl⟩ := trodVars_none hV
  obtain ⟨x0, rfl, rfl, rfl, wx0⟩ := open_int Tryz.underlying36 (hval 0 36 v0 rfl rfl) h0
  have b0 := bounds_u64 wx0
  obtain ⟨x1, rfl, rfl, rfl, wx1⟩ := open_int Tryz.underlying3 (hval 1 3 v1 rfl rfl) h1
  have b1 := bounds_i64 wx1
  clear hA0
  obtain ⟨X0, rfl⟩ := Int.eq_ofNat_of_zero_le b0.1
  have ht0 : X0 < 2 ^ 64 := by omega
  have walk : Calls Tryz.prog 5 #[.int .u64 (X0 : Int), .int .i64 x1] W (Ret (.bool true) W) := by
    by_cases h1 : x1 < 0 ∨ 4096 < x1
    · exact lawWitnesses_range X0 ht0 x1 h1 W hT
    · by_cases h2 : 40 < x1
      · exact lawWitnesses_long X0 x1 h2 (by omega) W hT
      · obtain ⟨n, rfl⟩ := Int.eq_ofNat_of_zero_le (show 0 ≤ x1 by omega)
        rcases Nat.lt_or_ge n (leastT X0 6) with h | h
        · exact lawWitnesses_size X0 ht0 n (by omega) h W hT
        · by_cases h0 : X0 = 0
          · subst h0
            exact lawWitnesses_zero n (by omega) W hT
          · exact lawWitnesses_in X0 ht0 h0 n (by omega) h W hT
  refine (walk).mono fun e W' ⟨he, y, hy⟩ => ?_
  subst he hy
  exact ⟨_, rfl, law_post 4 laidOut Tryz.underlying4 rfl (by kernel_rfl) rfl rfl hW' y.below⟩

theorem laid_met (os : Os) : laidMet Tryz.prog Rows.diagramWitnessesRow.laid ((laidWorld os).forCall (fun _ _ => 0) ⟨#[], #[.int .u64 0, .int .i64 0], []⟩).memory :=
  laidMet_of_run' 70 (by kernel_rfl) (by kernel_rfl)
theorem reads (os : Os) {H : Type} (enc : TypeId × Value → H) : ∃ places, DataW.whole enc Tryz.prog ((laidWorld os).forCall (fun _ _ => 0) ⟨#[], #[.int .u64 0, .int .i64 0], []⟩).memory Tryz.f5.params.toList Rows.diagramWitnessesSpec.vars false (#[.int .u64 0, .int .i64 0] : Array Value).toList 8 = some ([.lit (.int .u64 0), .lit (.int .i64 0)], [], places) :=
  ⟨[], by kernel_rfl⟩

set_option maxRecDepth 100000 in
theorem lifted (os : Os) (started : os.Started) (H : Type) (enc : TypeId × Value → H) (F : Stop.Interp) :
    ReturnsInHanded {} Tryz.checked os 5 .any ((OpenSpec.ofChange Rows.diagramWitnessesSpec).preRow enc Tryz.prog Tryz.f5 Rows.diagramWitnessesRow.domain false Rows.diagramWitnessesRow.laid) (((OpenSpec.ofChange Rows.diagramWitnessesSpec).at F).post enc Tryz.prog Tryz.f5 false true false false) := by
  obtain ⟨places, hx⟩ := reads os enc
  refine returnsInHanded_of_row (C := Tryz.checked) (s := OpenSpec.ofChange Rows.diagramWitnessesSpec) own started (by kernel_rfl) Tryz.func5
    (witness_row_at (enc := enc) (C := Tryz.checked) false (laidWorld os) #[.int .u64 0, .int .i64 0] rfl (by kernel_rfl) (by kernel_rfl) (by kernel_rfl)
      (OpenSpec.preRow_of_cond 8 hx (by kernel_rfl) (fun k hk => by cases hk) (by kernel_rfl) (laid_met os))) ?_
  intro W base args ds gs before hval hW _ _ hsz hL _ _
  exact contract H enc W base args ds gs before hval hW (lib_of hL)

theorem said : Rows.DiagramWitnessesSaid :=
  OpenClaim.holds_of_cond 5 Tryz.f5 rfl rfl rfl rfl rfl rfl rfl ⟨rfl, rfl, rfl, rfl, rfl⟩ rfl rfl rfl rfl rfl (by kernel_rfl) Tryz.func5 (by kernel_rfl)
    (of_decide_eq_true (by kernel_rfl)) (by unfold Func.isWrapper; first | (rw [if_pos (by decide +kernel)]; kernel_rfl) | (rw [if_neg (by decide +kernel)]; exact ⟨rfl, rfl⟩))
    (fun os started H enc _ F => by rw [OpenClaim.pre_eq_preRow]; exact lifted os started H enc F)
theorem plain (f : FuncId) (fn : Func) (hf : Tryz.pinned.checked.prog.funcNamed Rows.diagramWitnessesRow.func = some f) (hfn : Tryz.pinned.checked.prog.funcs[f]? = some fn) :
    true = Tryz.pinned.checked.prog.looks [] ∧ ∀ (j : Nat) t, fn.params[j]? = some t → Tryz.pinned.checked.prog.wantsStandIn t = false := by
  obtain rfl : f = 5 := Option.some.inj ((show Tryz.prog.funcNamed Rows.diagramWitnessesRow.func = some 5 by kernel_rfl).symm.trans hf) |>.symm
  obtain rfl : fn = Tryz.f5 := (Option.some.inj (Tryz.func5.symm.trans hfn)).symm
  refine ⟨by kernel_rfl, fun j t ht => ?_⟩
  rw [Tryz.params5] at ht
  have hm : t ∈ [36, 3] := by simpa using Array.mem_of_getElem? ht
  have hall : ([36, 3].all fun u => !Tryz.prog.wantsStandIn u) = true := by kernel_rfl
  exact (show Tryz.prog.wantsStandIn t = false by simpa using List.all_eq_true.1 hall t hm)

theorem card : Rows.DiagramWitnessesCardSaid :=
  Claim7.holds_tied_plain_at .later [] _ _ _ _ said (fun _ h => by cases h) (by kernel_rfl) (fun _ h => by cases h) diagramWitnesses_row_tie rfl ⟨rfl, rfl⟩ (by kernel_rfl) rfl plain (by kernel_rfl)
#print axioms card
end Go.Proofs.YtkdmhjlcgpnjpaaGreatDoor.diagramWitnesses
