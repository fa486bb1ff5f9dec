/- The statement DiagramValues is proved: for any two tables and any at most 8 values, Value returns the value, or ErrSize, Support the variables on which the first table depends, and Implies whether it is within the second one. The row lists tables and errors of the library; the card ties them to the program's text. -/
import Derived.Test.YtkdmhjlcgpnjpaaGreatDoorLValues
import Derived.Test.YtkdmhjlcgpnjpaaGreatDoorWrap
namespace Go.Proofs.YtkdmhjlcgpnjpaaGreatDoor.diagramValues
set_option linter.unusedVariables false
set_option linter.unusedSimpArgs false
open Go.ChangeShapes Go.WideShapes Go.ChangeAt Go.RowKit Go.Joins

set_option maxRecDepth 100000 in
theorem contract (H : Type) (enc : TypeId × Value → H) (W : World) (base : Nat) (args : Array Value) (ds gs : List (DataW H)) (before : List MemPlace)
    (hval : ∀ (j : Nat) t v, Tryz.f11.params[j]? = some t → args[j]? = some v → Value.okWide Tryz.prog W .any base t v)
    (hW : DataW.Whole enc Tryz.prog Tryz.f11.params.toList Rows.diagramValuesSpec.vars false W args.toList ds gs before)
    (hT : Tab W) :
    Calls Tryz.prog 11 args W fun e W' => ∃ v, e = .returned v ∧ Rows.diagramValuesSpec.post enc Tryz.prog Tryz.f11 false true false false W args v W' := by
  have hW' := hW
  obtain ⟨p, q, hA0, hV, rfl, hfz, hnd⟩ := hW
  have hA : DataW.TrodAll enc Tryz.prog W 0 (fun _ => true) true Tryz.f11.params.toList args.toList ds p := hA0
  rw [Tryz.params11] at hA hval
  obtain ⟨v0, vs0, d0, ds0, p0, q0, hargs, rfl, rfl, h0, r0⟩ := trodAll_cons hA
  obtain ⟨v1, vs1, d1, ds1, p1, q1, rfl, rfl, rfl, h1, r1⟩ := trodAll_cons r0
  obtain ⟨v2, vs2, d2, ds2, p2, q2, rfl, rfl, rfl, h2, r2⟩ := trodAll_cons r1
  obtain ⟨rfl, rfl, rfl⟩ := trodAll_nil r2
  obtain rfl : args = #[v0, v1, v2] := by cases args; simp_all
  obtain ⟨rfl, rfl⟩ := trodVars_none hV
  obtain ⟨x0, rfl, rfl, rfl, wx0⟩ := open_int Tryz.underlying36 (hval 0 36 v0 rfl rfl) h0
  have b0 := bounds_u64 wx0
  obtain ⟨x1, rfl, rfl, rfl, wx1⟩ := open_int Tryz.underlying36 (hval 1 36 v1 rfl rfl) h1
  have b1 := bounds_u64 wx1
  obtain ⟨a2, len2, cap2, rfl⟩ := okWide_slice Tryz.underlying48 (hval 2 48 v2 rfl rfl)
  obtain ⟨fuel2, hf2⟩ := h2
  obtain ⟨bl2, hbl2, hbs2⟩ := bools_of hf2
  clear hA0
  obtain ⟨X0, rfl⟩ := Int.eq_ofNat_of_zero_le b0.1
  have ht0 : X0 < 2 ^ 64 := by omega
  obtain ⟨X1, rfl⟩ := Int.eq_ofNat_of_zero_le b1.1
  have ht1 : X1 < 2 ^ 64 := by omega
  have walk : Calls Tryz.prog 11 #[.int .u64 (X0 : Int), .int .u64 (X1 : Int), .slice a2 len2 cap2] W (Ret (.bool true) W) := by
    by_cases h8 : 8 < len2
    · exact lawValues_long (X0 : Int) (X1 : Int) a2 len2 cap2 h8 W hT
    · rw [← hbl2] at hbs2 ⊢
      by_cases he : leastT X0 6 ≤ bl2.length
      · exact lawValues_in X0 X1 ht0 ht1 bl2 a2 cap2 W hT hbs2 (by omega) he
      · exact lawValues_size X0 X1 ht0 ht1 bl2 a2 cap2 W hT hbs2 (by omega) he
  refine (walk).mono fun e W' ⟨he, y, hy⟩ => ?_
  subst he hy
  exact ⟨_, rfl, law_post 4 laidOut Tryz.underlying4 rfl (by kernel_rfl) rfl rfl hW' y.below⟩

theorem laid_met (os : Os) : laidMet Tryz.prog Rows.diagramValuesRow.laid ((laidWorld os).forCall (fun _ _ => 0) ⟨#[], #[.int .u64 0, .int .u64 0, .slice none 0 0], []⟩).memory :=
  laidMet_of_run' 70 (by kernel_rfl) (by kernel_rfl)
theorem reads (os : Os) {H : Type} (enc : TypeId × Value → H) : ∃ places, DataW.whole enc Tryz.prog ((laidWorld os).forCall (fun _ _ => 0) ⟨#[], #[.int .u64 0, .int .u64 0, .slice none 0 0], []⟩).memory Tryz.f11.params.toList Rows.diagramValuesSpec.vars false (#[.int .u64 0, .int .u64 0, .slice none 0 0] : Array Value).toList 8 = some ([.lit (.int .u64 0), .lit (.int .u64 0), .nil], [], places) :=
  ⟨[], by kernel_rfl⟩

set_option maxRecDepth 100000 in
theorem lifted (os : Os) (started : os.Started) (H : Type) (enc : TypeId × Value → H) (F : Stop.Interp) :
    ReturnsInHanded {} Tryz.checked os 11 .any ((OpenSpec.ofChange Rows.diagramValuesSpec).preRow enc Tryz.prog Tryz.f11 Rows.diagramValuesRow.domain false Rows.diagramValuesRow.laid) (((OpenSpec.ofChange Rows.diagramValuesSpec).at F).post enc Tryz.prog Tryz.f11 false true false false) := by
  obtain ⟨places, hx⟩ := reads os enc
  refine returnsInHanded_of_row (C := Tryz.checked) (s := OpenSpec.ofChange Rows.diagramValuesSpec) own started (by kernel_rfl) Tryz.func11
    (witness_row_at (enc := enc) (C := Tryz.checked) false (laidWorld os) #[.int .u64 0, .int .u64 0, .slice none 0 0] rfl (by kernel_rfl) (by kernel_rfl) (by kernel_rfl)
      (OpenSpec.preRow_of_cond 8 hx (by kernel_rfl) (fun k hk => by cases hk) (by kernel_rfl) (laid_met os))) ?_
  intro W base args ds gs before hval hW _ _ hsz hL _ _
  exact contract H enc W base args ds gs before hval hW (lib_of hL)

theorem said : Rows.DiagramValuesSaid :=
  OpenClaim.holds_of_cond 11 Tryz.f11 rfl rfl rfl rfl rfl rfl rfl ⟨rfl, rfl, rfl, rfl, rfl⟩ rfl rfl rfl rfl rfl (by kernel_rfl) Tryz.func11 (by kernel_rfl)
    (of_decide_eq_true (by kernel_rfl)) (by unfold Func.isWrapper; first | (rw [if_pos (by decide +kernel)]; kernel_rfl) | (rw [if_neg (by decide +kernel)]; exact ⟨rfl, rfl⟩))
    (fun os started H enc _ F => by rw [OpenClaim.pre_eq_preRow]; exact lifted os started H enc F)
theorem plain (f : FuncId) (fn : Func) (hf : Tryz.pinned.checked.prog.funcNamed Rows.diagramValuesRow.func = some f) (hfn : Tryz.pinned.checked.prog.funcs[f]? = some fn) :
    true = Tryz.pinned.checked.prog.looks [] ∧ ∀ (j : Nat) t, fn.params[j]? = some t → Tryz.pinned.checked.prog.wantsStandIn t = false := by
  obtain rfl : f = 11 := Option.some.inj ((show Tryz.prog.funcNamed Rows.diagramValuesRow.func = some 11 by kernel_rfl).symm.trans hf) |>.symm
  obtain rfl : fn = Tryz.f11 := (Option.some.inj (Tryz.func11.symm.trans hfn)).symm
  refine ⟨by kernel_rfl, fun j t ht => ?_⟩
  rw [Tryz.params11] at ht
  have hm : t ∈ [36, 36, 48] := by simpa using Array.mem_of_getElem? ht
  have hall : ([36, 36, 48].all fun u => !Tryz.prog.wantsStandIn u) = true := by kernel_rfl
  exact (show Tryz.prog.wantsStandIn t = false by simpa using List.all_eq_true.1 hall t hm)

theorem card : Rows.DiagramValuesCardSaid :=
  Claim7.holds_tied_plain_at .later [] _ _ _ _ said (fun _ h => by cases h) (by kernel_rfl) (fun _ h => by cases h) diagramValues_row_tie rfl ⟨rfl, rfl⟩ (by kernel_rfl) rfl plain (by kernel_rfl)
#print axioms card
end Go.Proofs.YtkdmhjlcgpnjpaaGreatDoor.diagramValues
