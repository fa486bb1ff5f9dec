/- The statement FractionLists is proved: for any list of at most 8 described fractions, Sum returns their sum, or ErrLimit if one on the way is too great. The row lists three tables of the library; the card ties them to the program's text. -/
import Derived.Test.YtoncbkkhfblpdaaDoorLLists
import Derived.Test.YtoncbkkhfblpdaaDoorOpen
import Derived.Test.YtoncbkkhfblpdaaDoorWrap
import Derived.Test.YtoncbkkhfblpdaaDoorCards
import Derived.Test.YtoncbkkhfblpdaaDoorTie
import Derived.SevenTiedAt
namespace Go.Proofs.YtoncbkkhfblpdaaDoor.fractionLists
open Go.ChangeShapes Go.WideShapes Go.ChangeAt Go.RowKit Go.Joins

theorem contract (H : Type) (enc : TypeId × Value → H) (W : World) (base : Nat) (args : Array Value) (ds gs : List (DataW H)) (before : List MemPlace)
    (hval : ∀ (j : Nat) t v, Tryd.f6.params[j]? = some t → args[j]? = some v → Value.okWide Tryd.prog W .any base t v)
    (hW : DataW.Whole enc Tryd.prog Tryd.f6.params.toList Rows.fractionListsSpec.vars false W args.toList ds gs before)
    (hT : Tab W) :
    Calls Tryd.prog 6 args W fun e W' => ∃ v, e = .returned v ∧ Rows.fractionListsSpec.post enc Tryd.prog Tryd.f6 false true false false W args v W' := by
  have hW' := hW
  obtain ⟨p, q, hA0, hV, rfl, hfz, hnd⟩ := hW
  have hA : DataW.TrodAll enc Tryd.prog W 0 (fun _ => true) true Tryd.f6.params.toList args.toList ds p := hA0
  rw [Tryd.params6] at hA hval
  obtain ⟨v0, vs0, d0, ds0, p0, q0, hargs, rfl, rfl, h0, r0⟩ := trodAll_cons hA
  obtain ⟨rfl, rfl, rfl⟩ := trodAll_nil r0
  obtain rfl : args = #[v0] := by cases args; simp_all
  obtain ⟨rfl, rfl⟩ := trodVars_none hV
  obtain ⟨a0, len, cap, rfl⟩ := okWide_slice Tryd.underlying39 (hval 0 39 v0 rfl rfl)
  obtain ⟨fuel, hf⟩ := h0
  have walk : Calls Tryd.prog 6 #[.slice a0 len cap] W (Ret (.bool true) W) := by
    rcases open_pairs Tryd.underlying39 Tryd.underlying32 rfl rfl Tryd.underlying30 Tryd.underlying5 (by kernel_rfl) cells32 hf with hcs | ⟨a, cap', l, hcs, hl, hp⟩
    · simp [Value.cells] at hcs
      obtain ⟨rfl, rfl, rfl⟩ := hcs
      exact fractionLists_nil W hT
    · simp [Value.cells] at hcs
      obtain ⟨rfl, rfl, rfl⟩ := hcs
      by_cases h8 : 8 < l.length
      · obtain ⟨p0, hp0⟩ : ∃ p, l[0]? = some p := ⟨_, List.getElem?_eq_getElem (by omega)⟩
        obtain ⟨b, off, rfl⟩ := plain_addr (by simpa using (hp 0 p0 hp0).1.1)
        exact fractionLists_long b off _ _ W hT h8
      · cases hl0 : l with
        | nil => exact fractionLists_zero a cap W hT
        | cons q r =>
          obtain ⟨p0, hp0⟩ : ∃ p, l[0]? = some p := ⟨_, List.getElem?_eq_getElem (by rw [hl0]; simp)⟩
          obtain ⟨b, off, rfl⟩ := plain_addr (by simpa using (hp 0 p0 hp0).1.1)
          rw [← hl0]
          refine fractionLists_some b off cap l W hT (by omega) (fun i n d hi => ?_) (fun p hpm => ?_)
          · have h := (hp i (n, d) hi).1
            rw [add_at, add_at] at h
            exact h
          · obtain ⟨i, hi⟩ := List.getElem?_of_mem hpm
            obtain ⟨_, w0, w1⟩ := hp i p hi
            have b0 := bounds_i16 w0
            have b1 := bounds_u8 w1
            exact ⟨b0.1, b0.2, b1.1, b1.2⟩
  clear hA0
  refine (walk).mono fun e W' ⟨he, y, hy⟩ => ?_
  subst he hy
  exact ⟨_, rfl, law_post 4 laidOut Tryd.underlying4 rfl (by kernel_rfl) rfl rfl hW' y.below⟩

theorem laid_met (os : Os) : laidMet Tryd.prog Rows.fractionListsRow.laid ((laidWorld os).forCall (fun _ _ => 0) ⟨#[], #[.slice none 0 0], []⟩).memory :=
  laidMet_of_run' 70 (by kernel_rfl) (by kernel_rfl)
theorem reads (os : Os) {H : Type} (enc : TypeId × Value → H) : ∃ places, DataW.whole enc Tryd.prog ((laidWorld os).forCall (fun _ _ => 0) ⟨#[], #[.slice none 0 0], []⟩).memory Tryd.f6.params.toList Rows.fractionListsSpec.vars false (#[.slice none 0 0] : Array Value).toList 8 = some ([.nil], [], places) :=
  ⟨[], by kernel_rfl⟩

set_option maxRecDepth 100000 in
theorem lifted (os : Os) (started : os.Started) (H : Type) (enc : TypeId × Value → H) (F : Stop.Interp) :
    ReturnsInHanded {} Tryd.checked os 6 .any ((OpenSpec.ofChange Rows.fractionListsSpec).preRow enc Tryd.prog Tryd.f6 Rows.fractionListsRow.domain false Rows.fractionListsRow.laid) (((OpenSpec.ofChange Rows.fractionListsSpec).at F).post enc Tryd.prog Tryd.f6 false true false false) := by
  obtain ⟨places, hx⟩ := reads os enc
  refine returnsInHanded_of_row (C := Tryd.checked) (s := OpenSpec.ofChange Rows.fractionListsSpec) own started (by kernel_rfl) Tryd.func6
    (witness_row_at (enc := enc) (C := Tryd.checked) false (laidWorld os) #[.slice none 0 0] rfl (by kernel_rfl) (by kernel_rfl) (by kernel_rfl)
      (OpenSpec.preRow_of_cond 8 hx (by kernel_rfl) (fun k hk => by cases hk) (by kernel_rfl) (laid_met os))) ?_
  intro W base args ds gs before hval hW _ _ hsz hL _ _
  exact contract H enc W base args ds gs before hval hW (tab_of hL)

theorem said : Rows.FractionListsSaid :=
  OpenClaim.holds_of_cond 6 Tryd.f6 rfl rfl rfl rfl rfl rfl rfl ⟨rfl, rfl, rfl, rfl, rfl⟩ rfl rfl rfl rfl rfl (by kernel_rfl) Tryd.func6 (by kernel_rfl)
    (of_decide_eq_true (by kernel_rfl)) (by unfold Func.isWrapper; first | (rw [if_pos (by decide +kernel)]; kernel_rfl) | (rw [if_neg (by decide +kernel)]; exact ⟨rfl, rfl⟩))
    (fun os started H enc _ F => by rw [OpenClaim.pre_eq_preRow]; exact lifted os started H enc F)
theorem plain (f : FuncId) (fn : Func) (hf : Tryd.pinned.checked.prog.funcNamed Rows.fractionListsRow.func = some f) (hfn : Tryd.pinned.checked.prog.funcs[f]? = some fn) :
    false = Tryd.pinned.checked.prog.looks [] ∧ ∀ (j : Nat) t, fn.params[j]? = some t → Tryd.pinned.checked.prog.wantsStandIn t = false := by
  obtain rfl : f = 6 := Option.some.inj ((show Tryd.prog.funcNamed Rows.fractionListsRow.func = some 6 by kernel_rfl).symm.trans hf) |>.symm
  obtain rfl : fn = Tryd.f6 := (Option.some.inj (Tryd.func6.symm.trans hfn)).symm
  refine ⟨by kernel_rfl, fun j t ht => ?_⟩
  rw [Tryd.params6] at ht
  have hm : t ∈ [39] := by simpa using Array.mem_of_getElem? ht
  have hall : ([39].all fun u => !Tryd.prog.wantsStandIn u) = true := by kernel_rfl
  exact (show Tryd.prog.wantsStandIn t = false by simpa using List.all_eq_true.1 hall t hm)

theorem card : Rows.FractionListsCardSaid :=
  Claim7.holds_tied_plain_at .later [] _ _ _ _ said (fun _ h => by cases h) (by kernel_rfl) (fun _ h => by cases h) fractionLists_row_tie rfl ⟨rfl, rfl⟩ (by kernel_rfl) rfl plain (by kernel_rfl)
#print axioms card
end Go.Proofs.YtoncbkkhfblpdaaDoor.fractionLists
