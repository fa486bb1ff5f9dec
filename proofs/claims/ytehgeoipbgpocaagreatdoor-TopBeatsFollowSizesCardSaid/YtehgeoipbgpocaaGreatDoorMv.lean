/- Maps that the call has made, with texts as keys and elements of whatever type. No program in sight. -/
import Derived.Maps.OwnSet
import Derived.Maps.OwnOps
import Derived.Test.YtehgeoipbgpocaaGreatDoorCm
namespace Go.Proofs.YtehgeoipbgpocaaGreatDoor
set_option linter.unusedVariables false
set_option linter.unusedSimpArgs false
open Go.RowKit Go.Maps

/-- An element as it stands. -/
def heldR (v : Value) : Option (DataW Value × List MemPlace) := some (.held v, [])
/-- The map at block b holds the values of m at the texts. -/
def FunV (P : Program) (kT : TypeId) (w : World) (b n : Nat) (m : List UInt8 → Option Value) : Prop :=
  ∃ D : DataW Value, w.ownsMap P kT heldR b n D ∧ ∀ (s : List UInt8), (∀ Z, D.atKey (.string s) (.held Z) = .held ((m s).getD Z)) ∧ Maps.has D (.string s) = (m s).isSome
theorem funV_made (w : World) (P : Program) (kT : TypeId) : FunV P kT (w.alloc (.map #[] 0)) w.heap.size 0 (fun _ => none) :=
  ⟨.map [], World.ownsMap_made w P kT _, fun s => by simp [DataW.atKey, Maps.has]⟩
theorem ownsMap_heapV {P : Program} {kT : TypeId} {R : Value → Option (DataW Value × List MemPlace)} {w w' : World} {b n : Nat} {D : DataW Value} (h : w.ownsMap P kT R b n D) (hb : ∀ o, w.heap[b]? = some o → w'.heap[b]? = some o) : w'.ownsMap P kT R b n D := by
  obtain ⟨es, clock, h1, h2⟩ := h
  exact ⟨es, clock, hb _ h1, h2⟩
theorem FunV.heap {P : Program} {kT : TypeId} {w w' : World} {b n : Nat} {m : List UInt8 → Option Value} (h : FunV P kT w b n m) (hb : ∀ o, w.heap[b]? = some o → w'.heap[b]? = some o) : FunV P kT w' b n m := by
  obtain ⟨D, h1, h2⟩ := h
  exact ⟨D, ownsMap_heapV h1 hb, h2⟩
theorem FunV.lt {P : Program} {kT : TypeId} {w : World} {b n : Nat} {m : List UInt8 → Option Value} (h : FunV P kT w b n m) : b < w.heap.size := by
  obtain ⟨_, h1, _⟩ := h
  exact h1.lt
section
variable {P : Program} {w : World}
/-- A look-up with the second result. -/
theorem funV_run_ok {t k e : TypeId} (hk : P.underlying k = some .string) (ht : P.underlying t = some (.map k e)) {z : Value} (hz : (zeroValue e).run P w = .ok z w) {b n : Nat} {m : List UInt8 → Option Value} (hown : FunV P k w b n m) {s : List UInt8} (hs : s.length ≤ maxLen) :
    (Instr.lookup t (.map (some b)) (.string ⟨s.toArray⟩) true).run P w = .ok (.tuple #[(m s).getD z, .bool (m s).isSome]) w := by
  obtain ⟨D, hD, hat⟩ := hown
  obtain ⟨v, ps, hrun, hv⟩ := hD.look_ok (string_keyed hk) ht hz (show heldR z = some (.held z, []) from rfl) (key_str hk hs)
  rw [(hat s).1] at hv
  rw [(hat s).2] at hrun
  injection hv with hv
  injection hv with hv _
  injection hv with hv
  rw [← hv]
  exact hrun
variable (w) {ops : Array Oper} {rest : List Oper} {o : Oper} {a : Act} {Q : Exit → Act → World → Prop}
theorem wpList_insert_funV (hg : o.guard = none) (mo x v : Operand) (t : TypeId) (hop : o.op = Op.insert t mo x v) (k e : TypeId) (hk : P.underlying k = some .string) (ht : P.underlying t = some (.map k e))
    (b n : Nat) (m : List UInt8 → Option Value) (hm : a.eval mo = .map (some b)) (hown : FunV P k w b n m) (hn : n < maxLen) (s : List UInt8) (hx : a.eval x = .string ⟨s.toArray⟩) (hs : s.length ≤ maxLen) (u : Value) (hv : a.eval v = u)
    (hK : ∀ w', FunV P k w' b (n + 1) (fun s' => if s' = s then some u else m s') → w.grownBy w' (some b) → wpList P ops Q rest (a.put o.dst undef) w') : wpList P ops Q (o :: rest) a w := by
  obtain ⟨D, hD, hat⟩ := hown
  refine wpList_plain hg fun K' hK' => ?_
  obtain ⟨w', hrun, h1, h2⟩ := hD.update (string_keyed hk) ht hn (key_str hk hs) (show heldR u = some (.held u, []) from rfl)
  unfold Oper.wp
  simp [execOp, hop, hm, hx, hv, hrun, Result.andThen]
  refine hK' _ _ (hK w' ⟨_, h1, fun s' => ?_⟩ h2)
  dsimp only
  by_cases h : s' = s
  · subst h
    rw [has_put_same hD.isMap ((string_keyed hk).key (key_str hk hs)), if_pos rfl]
    exact ⟨fun Z => atKey_put_same hD.isMap ((string_keyed hk).key (key_str hk hs)) _ _, rfl⟩
  · have hne : Lit.string s' ≠ .string s := fun e => h (by injection e)
    rw [has_put_other hne, if_neg h]
    exact ⟨fun Z => by rw [atKey_put_other hne]; exact (hat s').1 Z, (hat s').2⟩
end
end Go.Proofs.YtehgeoipbgpocaaGreatDoor
