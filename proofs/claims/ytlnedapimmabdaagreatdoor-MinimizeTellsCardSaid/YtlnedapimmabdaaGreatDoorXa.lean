/- An array of six bools as an argument. -/
import Derived.Test.YtlnedapimmabdaaGreatDoorWrap
namespace Go.Proofs.YtlnedapimmabdaaGreatDoor
set_option linter.unusedVariables false
set_option linter.unusedSimpArgs false
open Go.ChangeShapes Go.WideShapes Go.ChangeAt Go.RowKit Go.Joins
set_option maxRecDepth 100000 in
theorem arr6_of {W : World} {base : Nat} {v : Value} (hval : Value.okWide Tryz.prog W .any base 52 v) : ∃ bl : List Bool, bl.length = 6 ∧ v = .agg (bl.map Value.bool).toArray := by
  simp only [Value.okWide, Tryz.underlying52] at hval
  obtain ⟨cs, rfl, hsz, ts, hts, _, hc⟩ := hval
  rw [show Tryz.prog.cellsOf 52 = 6 by kernel_rfl] at hsz
  have e : ts = [4, 4, 4, 4, 4, 4] := Option.some.inj (hts.symm.trans (show Tryz.prog.cellTypes Tryz.prog.depth 52 = some [4, 4, 4, 4, 4, 4] by kernel_rfl))
  have hb : ∀ (i : Nat) (v : Value), cs[i]? = some v → ∃ b : Bool, v = Value.bool b := fun i v hi => by
    obtain ⟨u, hu, ho⟩ := hc i v hi
    rw [e] at hu
    have hu4 : u = 4 := by
      have hm := List.mem_of_getElem? hu
      simpa using hm
    subst hu4
    simp only [Cell.okWide, Tryz.underlying4] at ho
    cases v <;> first | exact ⟨_, rfl⟩ | (exfalso; simp [Cell.ok, Tryz.underlying4] at ho)
  refine ⟨cs.toList.map fun v => match v with | .bool b => b | _ => false, by simp [hsz], ?_⟩
  have h2 : (cs.toList.map fun v => match v with | .bool b => b | _ => false).map Value.bool = cs.toList := by
    rw [List.map_map]
    refine (List.map_congr_left fun v hv => ?_).trans (List.map_id _)
    obtain ⟨i, hi⟩ := List.mem_iff_getElem?.1 hv
    obtain ⟨b, rfl⟩ := hb i v (by simpa using hi)
    rfl
  rw [h2]
end Go.Proofs.YtlnedapimmabdaaGreatDoor
