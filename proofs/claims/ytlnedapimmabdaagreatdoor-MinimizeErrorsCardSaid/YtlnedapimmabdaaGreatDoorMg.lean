/- Maps that the call has made, with keys of any kind that is laid, and numbers or bools as elements. No program in sight. -/
import Derived.Maps.OwnSet
import Derived.Maps.OwnOps
import Derived.Test.YtlnedapimmabdaaGreatDoorCm
namespace Go.Proofs.YtlnedapimmabdaaGreatDoor
set_option linter.unusedVariables false
set_option linter.unusedSimpArgs false
open Go.RowKit Go.Maps

def FunM (P : Program) (kT eT : TypeId) (w : World) (b n : Nat) (m : Value → Option Int) : Prop :=
  ∃ D : DataW Unit, w.ownsMap P kT (plainElem P eT) b n D ∧ ∀ (key : Value) (kl : Lit), keyOf P kT key = some kl → D.atKey kl (.lit (.int .i64 0)) = .lit (.int .i64 ((m key).getD 0)) ∧ Maps.has D kl = (m key).isSome
def FunB (P : Program) (kT eT : TypeId) (w : World) (b n : Nat) (S : Value → Bool) : Prop :=
  ∃ D : DataW Unit, w.ownsMap P kT (plainElem P eT) b n D ∧ ∀ (key : Value) (kl : Lit), keyOf P kT key = some kl → D.atKey kl (.lit (.bool false)) = .lit (.bool (S key))
theorem funM_made (w : World) (P : Program) (kT eT : TypeId) : FunM P kT eT (w.alloc (.map #[] 0)) w.heap.size 0 (fun _ => none) :=
  ⟨.map [], World.ownsMap_made w P kT _, fun key kl _ => by simp [DataW.atKey, Maps.has]⟩
theorem funB_made (w : World) (P : Program) (kT eT : TypeId) : FunB P kT eT (w.alloc (.map #[] 0)) w.heap.size 0 (fun _ => false) :=
  ⟨.map [], World.ownsMap_made w P kT _, fun key kl _ => by simp [DataW.atKey]⟩
theorem FunM.heap {P : Program} {kT eT : TypeId} {w w' : World} {b n : Nat} {m : Value → Option Int} (h : FunM P kT eT w b n m) (hb : ∀ o, w.heap[b]? = some o → w'.heap[b]? = some o) : FunM P kT eT w' b n m := by
  obtain ⟨D, h1, h2⟩ := h
  exact ⟨D, ownsMap_heap h1 hb, h2⟩
theorem FunB.heap {P : Program} {kT eT : TypeId} {w w' : World} {b n : Nat} {S : Value → Bool} (h : FunB P kT eT w b n S) (hb : ∀ o, w.heap[b]? = some o → w'.heap[b]? = some o) : FunB P kT eT w' b n S := by
  obtain ⟨D, h1, h2⟩ := h
  exact ⟨D, ownsMap_heap h1 hb, h2⟩
theorem FunM.lt {P : Program} {kT eT : TypeId} {w : World} {b n : Nat} {m : Value → Option Int} (h : FunM P kT eT w b n m) : b < w.heap.size := by
  obtain ⟨_, h1, _⟩ := h
  exact h1.lt
theorem FunB.lt {P : Program} {kT eT : TypeId} {w : World} {b n : Nat} {S : Value → Bool} (h : FunB P kT eT w b n S) : b < w.heap.size := by
  obtain ⟨_, h1, _⟩ := h
  exact h1.lt
theorem FunM.obj {P : Program} {kT eT : TypeId} {w : World} {b n : Nat} {m : Value → Option Int} (h : FunM P kT eT w b n m) : ∃ es clock, w.heap[b]? = some (.map es clock) := by
  obtain ⟨_, ⟨es, clock, h1, _⟩, _⟩ := h
  exact ⟨es, clock, h1⟩
theorem FunB.obj {P : Program} {kT eT : TypeId} {w : World} {b n : Nat} {S : Value → Bool} (h : FunB P kT eT w b n S) : ∃ es clock, w.heap[b]? = some (.map es clock) := by
  obtain ⟨_, ⟨es, clock, h1, _⟩, _⟩ := h
  exact ⟨es, clock, h1⟩
section
variable {P : Program} {w : World}
theorem funM_run {t k e : TypeId} (K : Keyed P k) (ht : P.underlying t = some (.map k e)) (he : P.underlying e = some (.int .i64)) (hz : (zeroValue e).run P w = .ok (.int .i64 0) w) {b n : Nat} {m : Value → Option Int} (hown : FunM P k e w b n m) {key : Value} {kl : Lit} (hkey : keyOf P k key = some kl) :
    (Instr.lookup t (.map (some b)) key false).run P w = .ok (.int .i64 ((m key).getD 0)) w := by
  obtain ⟨D, hD, hat⟩ := hown
  obtain ⟨c, hrun, hc, _⟩ := hD.lookup_int K ht he hz hkey
  rw [(hat key kl hkey).1] at hc
  simp at hc
  rw [hc]
  exact hrun
theorem funB_run {t k e : TypeId} (K : Keyed P k) (ht : P.underlying t = some (.map k e)) (he : P.underlying e = some .bool) (hz : (zeroValue e).run P w = .ok (.bool false) w) {b n : Nat} {S : Value → Bool} (hown : FunB P k e w b n S) {key : Value} {kl : Lit} (hkey : keyOf P k key = some kl) :
    (Instr.lookup t (.map (some b)) key false).run P w = .ok (.bool (S key)) w := by
  obtain ⟨D, hD, hat⟩ := hown
  obtain ⟨v, ps, hrun, hv⟩ := hD.lookup K ht hz (plainElem_bool he false) hkey
  rw [hat key kl hkey] at hv
  have hv' := plainElem_bool_inv he hv
  subst hv'
  exact hrun
theorem funM_run_ok {t k e : TypeId} (K : Keyed P k) (ht : P.underlying t = some (.map k e)) (he : P.underlying e = some (.int .i64)) (hz : (zeroValue e).run P w = .ok (.int .i64 0) w) {b n : Nat} {m : Value → Option Int} (hown : FunM P k e w b n m) {key : Value} {kl : Lit} (hkey : keyOf P k key = some kl) :
    (Instr.lookup t (.map (some b)) key true).run P w = .ok (.tuple #[.int .i64 ((m key).getD 0), .bool (m key).isSome]) w := by
  obtain ⟨D, hD, hat⟩ := hown
  obtain ⟨v, ps, hrun, hv⟩ := hD.look_ok K ht hz (plainElem_int he (show (Lit.int .i64 0).wf = true by decide)) hkey
  obtain ⟨c, rfl, hc, _⟩ := plainElem_int_inv he hv
  rw [(hat key kl hkey).1] at hc
  rw [(hat key kl hkey).2] at hrun
  simp at hc
  rw [hc.1]
  exact hrun
variable (w) {ops : Array Oper} {rest : List Oper} {o : Oper} {a : Act} {Q : Exit → Act → World → Prop}
theorem wpList_update_funM (hg : o.guard = none) (mo x v : Operand) (t : TypeId) (hop : o.op = Op.mapUpdate t mo x v) (k e : TypeId) (K : Keyed P k) (ht : P.underlying t = some (.map k e)) (he : P.underlying e = some (.int .i64))
    (b n : Nat) (m : Value → Option Int) (hm : a.eval mo = .map (some b)) (hown : FunM P k e w b n m) (hn : n < maxLen) (key : Value) (kl : Lit) (hx : a.eval x = key) (hkey : keyOf P k key = some kl) (z : Int) (hv : a.eval v = .int .i64 z) (hwz : (Lit.int .i64 z).wf = true)
    (hK : ∀ w' m', FunM P k e w' b (n + 1) m' → m' key = some z → (∀ j, j ≠ key → m' j = m j) → w.grownBy w' (some b) → wpList P ops Q rest (a.put o.dst undef) w') : wpList P ops Q (o :: rest) a w := by
  obtain ⟨D, hD, hat⟩ := hown
  refine wpList_mapUpdate_own w hg mo x v t hop k e K ht _ b n D hm hD hn _ _ kl hx hv hkey (.lit (.int .i64 z)) [] (plainElem_int he hwz) fun w' h1 h2 => ?_
  classical
  refine hK w' (fun j => if j = key then some z else m j) ⟨_, h1, fun j jl hj => ?_⟩ (if_pos rfl) (fun j hj => if_neg hj) h2
  by_cases h : j = key
  · subst h
    rw [hkey] at hj
    cases hj
    rw [atKey_put_same hD.isMap (K.key hkey), has_put_same hD.isMap (K.key hkey)]
    dsimp only
    rw [if_pos rfl]
    exact ⟨rfl, rfl⟩
  · have hne : jl ≠ kl := fun e => h (K.inj (e ▸ hj) hkey)
    rw [atKey_put_other hne, has_put_other hne]
    dsimp only
    rw [if_neg h]
    exact hat j jl hj
theorem wpList_update_funB (hg : o.guard = none) (mo x v : Operand) (t : TypeId) (hop : o.op = Op.mapUpdate t mo x v) (k e : TypeId) (K : Keyed P k) (ht : P.underlying t = some (.map k e)) (he : P.underlying e = some .bool)
    (b n : Nat) (S : Value → Bool) (hm : a.eval mo = .map (some b)) (hown : FunB P k e w b n S) (hn : n < maxLen) (key : Value) (kl : Lit) (hx : a.eval x = key) (hkey : keyOf P k key = some kl) (hv : a.eval v = .bool true)
    (hK : ∀ w' S', FunB P k e w' b (n + 1) S' → S' key = true → (∀ j, j ≠ key → S' j = S j) → w.grownBy w' (some b) → wpList P ops Q rest (a.put o.dst undef) w') : wpList P ops Q (o :: rest) a w := by
  obtain ⟨D, hD, hat⟩ := hown
  refine wpList_mapUpdate_own w hg mo x v t hop k e K ht _ b n D hm hD hn _ _ kl hx hv hkey (.lit (.bool true)) [] (plainElem_bool he true) fun w' h1 h2 => ?_
  classical
  refine hK w' (fun j => if j = key then true else S j) ⟨_, h1, fun j jl hj => ?_⟩ (if_pos rfl) (fun j hj => if_neg hj) h2
  by_cases h : j = key
  · subst h
    rw [hkey] at hj
    cases hj
    rw [atKey_put_same hD.isMap (K.key hkey)]
    dsimp only
    rw [if_pos rfl]
  · have hne : jl ≠ kl := fun e => h (K.inj (e ▸ hj) hkey)
    rw [atKey_put_other hne]
    dsimp only
    rw [if_neg h]
    exact hat j jl hj
end
end Go.Proofs.YtlnedapimmabdaaGreatDoor
