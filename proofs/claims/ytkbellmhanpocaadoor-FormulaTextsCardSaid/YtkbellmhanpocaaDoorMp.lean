/- Sets of texts, and tables of numbers, in maps that the call has made. No program in sight. -/
import Derived.Maps.OwnSet
import Derived.Maps.OwnOps
import Derived.StringKeys
import Derived.Test.YtkbellmhanpocaaDoorBase
namespace Go.Proofs.YtkbellmhanpocaaDoor
set_option linter.unusedVariables false
set_option linter.unusedSimpArgs false
open Go.RowKit Go.Maps

/-- The map at block b holds true at the texts of S. -/
def SetM (P : Program) (kT eT : TypeId) (w : World) (b n : Nat) (S : List (List UInt8)) : Prop :=
  ∃ D : DataW Unit, w.ownsMap P kT (plainElem P eT) b n D ∧ ∀ s : List UInt8, D.atKey (.string s) (.lit (.bool false)) = .lit (.bool (decide (s ∈ S)))
/-- The map at block b holds the numbers of m. -/
def IntM (P : Program) (kT eT : TypeId) (w : World) (b n : Nat) (m : Int → Int) : Prop :=
  ∃ D : DataW Unit, w.ownsMap P kT (plainElem P eT) b n D ∧ ∀ x : Int, D.atKey (.int .i64 x) (.lit (.int .i64 0)) = .lit (.int .i64 (m x))
theorem setM_made (w : World) (P : Program) (kT eT : TypeId) : SetM P kT eT (w.alloc (.map #[] 0)) w.heap.size 0 [] :=
  ⟨.map [], World.ownsMap_made w P kT _, fun s => by simp [DataW.atKey]⟩
theorem intM_made (w : World) (P : Program) (kT eT : TypeId) : IntM P kT eT (w.alloc (.map #[] 0)) w.heap.size 0 (fun _ => 0) :=
  ⟨.map [], World.ownsMap_made w P kT _, fun s => by simp [DataW.atKey]⟩
theorem ownsMap_heap {P : Program} {kT : TypeId} {R : Value → Option (DataW Unit × List MemPlace)} {w w' : World} {b n : Nat} {D : DataW Unit} (h : w.ownsMap P kT R b n D) (hb : ∀ o, w.heap[b]? = some o → w'.heap[b]? = some o) : w'.ownsMap P kT R b n D := by
  obtain ⟨es, clock, h1, h2⟩ := h
  exact ⟨es, clock, hb _ h1, h2⟩
theorem SetM.heap {P : Program} {kT eT : TypeId} {w w' : World} {b n : Nat} {S : List (List UInt8)} (h : SetM P kT eT w b n S) (hb : ∀ o, w.heap[b]? = some o → w'.heap[b]? = some o) : SetM P kT eT w' b n S := by
  obtain ⟨D, h1, h2⟩ := h
  exact ⟨D, ownsMap_heap h1 hb, h2⟩
theorem IntM.heap {P : Program} {kT eT : TypeId} {w w' : World} {b n : Nat} {m : Int → Int} (h : IntM P kT eT w b n m) (hb : ∀ o, w.heap[b]? = some o → w'.heap[b]? = some o) : IntM P kT eT w' b n m := by
  obtain ⟨D, h1, h2⟩ := h
  exact ⟨D, ownsMap_heap h1 hb, h2⟩
theorem SetM.lt {P : Program} {kT eT : TypeId} {w : World} {b n : Nat} {S : List (List UInt8)} (h : SetM P kT eT w b n S) : b < w.heap.size := by
  obtain ⟨_, h1, _⟩ := h
  exact h1.lt
theorem IntM.lt {P : Program} {kT eT : TypeId} {w : World} {b n : Nat} {m : Int → Int} (h : IntM P kT eT w b n m) : b < w.heap.size := by
  obtain ⟨_, h1, _⟩ := h
  exact h1.lt
theorem plainElem_bool_inv {P : Program} {e : TypeId} (he : P.underlying e = some .bool) {v : Value} {x : Bool} {ps : List MemPlace} (h : plainElem (H := Unit) P e v = some (.lit (.bool x), ps)) : v = .bool x := by
  unfold plainElem at h
  rw [he] at h
  cases v <;> simp at h
  rw [h.1]
theorem key_str {P : Program} {k : TypeId} (hk : P.underlying k = some .string) {s : List UInt8} (hs : s.length ≤ maxLen) : keyOf P k (.string ⟨s.toArray⟩) = some (.string s) := by
  have h := Go.WideMaps.keyOf_string_mk (P := P) (k := k) hk (s := ⟨s.toArray⟩) (by simpa [ByteArray.size] using hs)
  simpa using h
section
variable {P : Program} (w : World) {ops : Array Oper} {rest : List Oper} {o : Oper} {a : Act} {Q : Exit → Act → World → Prop}
theorem wpList_lookup_set (hg : o.guard = none) (m x : Operand) (t : TypeId) (hop : o.op = Op.lookup t m x false) (k e : TypeId) (hk : P.underlying k = some .string) (ht : P.underlying t = some (.map k e)) (he : P.underlying e = some .bool)
    (hz : (zeroValue e).run P w = .ok (.bool false) w) (b n : Nat) (S : List (List UInt8)) (hm : a.eval m = .map (some b)) (hown : SetM P k e w b n S) (s : List UInt8) (hx : a.eval x = .string ⟨s.toArray⟩) (hs : s.length ≤ maxLen)
    (hK : wpList P ops Q rest (a.put o.dst (.bool (decide (s ∈ S)))) w) : wpList P ops Q (o :: rest) a w := by
  obtain ⟨D, hD, hat⟩ := hown
  refine wpList_plain hg fun K' hK' => ?_
  obtain ⟨v, ps, hrun, hv⟩ := hD.lookup (string_keyed hk) ht hz (plainElem_bool he false) (key_str hk hs)
  rw [hat s] at hv
  have hv' := plainElem_bool_inv he hv
  subst hv'
  unfold Oper.wp
  simp [execOp, hop, hm, hx, hrun, Result.andThen]
  exact hK' _ _ (by simpa using hK)
omit w in
theorem setM_run {w : World} {t k e : TypeId} (hk : P.underlying k = some .string) (ht : P.underlying t = some (.map k e)) (he : P.underlying e = some .bool) (hz : (zeroValue e).run P w = .ok (.bool false) w) {b n : Nat} {S : List (List UInt8)} (hown : SetM P k e w b n S) (s : List UInt8) (hs : s.length ≤ maxLen) :
    (Instr.lookup t (.map (some b)) (.string ⟨s.toArray⟩) false).run P w = .ok (.bool (decide (s ∈ S))) w := by
  obtain ⟨D, hD, hat⟩ := hown
  obtain ⟨v, ps, hrun, hv⟩ := hD.lookup (string_keyed hk) ht hz (plainElem_bool he false) (key_str hk hs)
  rw [hat s] at hv
  have hv' := plainElem_bool_inv he hv
  subst hv'
  exact hrun
omit w in
theorem intM_run {w : World} {t k e : TypeId} (hk : P.underlying k = some (.int .i64)) (ht : P.underlying t = some (.map k e)) (he : P.underlying e = some (.int .i64)) (hz : (zeroValue e).run P w = .ok (.int .i64 0) w) {b n : Nat} {f : Int → Int} (hown : IntM P k e w b n f) (i : Int) (hw : (Lit.int .i64 i).wf = true) :
    (Instr.lookup t (.map (some b)) (.int .i64 i) false).run P w = .ok (.int .i64 (f i)) w := by
  obtain ⟨D, hD, hat⟩ := hown
  obtain ⟨c, hrun, hc, _⟩ := hD.lookup_int (int_keyed hk) ht he hz (keyOf_int_mk hk hw)
  rw [hat i] at hc
  simp at hc
  rw [hc]
  exact hrun
theorem wpList_update_set (hg : o.guard = none) (m x v : Operand) (t : TypeId) (hop : o.op = Op.mapUpdate t m x v) (k e : TypeId) (hk : P.underlying k = some .string) (ht : P.underlying t = some (.map k e)) (he : P.underlying e = some .bool)
    (b n : Nat) (S : List (List UInt8)) (hm : a.eval m = .map (some b)) (hown : SetM P k e w b n S) (hn : n < maxLen) (s : List UInt8) (hx : a.eval x = .string ⟨s.toArray⟩) (hs : s.length ≤ maxLen) (hv : a.eval v = .bool true)
    (hK : ∀ w', SetM P k e w' b (n + 1) (s :: S) → w.grownBy w' (some b) → wpList P ops Q rest (a.put o.dst undef) w') : wpList P ops Q (o :: rest) a w := by
  obtain ⟨D, hD, hat⟩ := hown
  refine wpList_mapUpdate_own w hg m x v t hop k e (string_keyed hk) ht _ b n D hm hD hn _ _ (.string s) hx hv (key_str hk hs) (.lit (.bool true)) [] (plainElem_bool he true) fun w' h1 h2 => hK w' ⟨_, h1, fun s' => ?_⟩ h2
  by_cases h : s' = s
  · subst h
    rw [atKey_put_same hD.isMap ((string_keyed hk).key (key_str hk hs))]
    simp
  · rw [atKey_put_other (by simpa using h), hat s']
    simp [h]
theorem wpList_lookup_intM (hg : o.guard = none) (m x : Operand) (t : TypeId) (hop : o.op = Op.lookup t m x false) (k e : TypeId) (hk : P.underlying k = some (.int .i64)) (ht : P.underlying t = some (.map k e)) (he : P.underlying e = some (.int .i64))
    (hz : (zeroValue e).run P w = .ok (.int .i64 0) w) (b n : Nat) (f : Int → Int) (hm : a.eval m = .map (some b)) (hown : IntM P k e w b n f) (i : Int) (hx : a.eval x = .int .i64 i) (hw : (Lit.int .i64 i).wf = true)
    (hK : wpList P ops Q rest (a.put o.dst (.int .i64 (f i))) w) : wpList P ops Q (o :: rest) a w := by
  obtain ⟨D, hD, hat⟩ := hown
  refine wpList_lookup_own_int w hg m x t hop k e .i64 (int_keyed hk) ht he hz b n D hm hD _ _ hx (keyOf_int_mk hk hw) fun c hc _ => ?_
  rw [hat i] at hc
  simp at hc
  rw [← hc]
  exact hK
theorem wpList_update_intM (hg : o.guard = none) (m x v : Operand) (t : TypeId) (hop : o.op = Op.mapUpdate t m x v) (k e : TypeId) (hk : P.underlying k = some (.int .i64)) (ht : P.underlying t = some (.map k e)) (he : P.underlying e = some (.int .i64))
    (b n : Nat) (f : Int → Int) (hm : a.eval m = .map (some b)) (hown : IntM P k e w b n f) (hn : n < maxLen) (i : Int) (hx : a.eval x = .int .i64 i) (hw : (Lit.int .i64 i).wf = true) (z : Int) (hv : a.eval v = .int .i64 z) (hwz : (Lit.int .i64 z).wf = true)
    (hK : ∀ w', IntM P k e w' b (n + 1) (fun j => if j = i then z else f j) → w.grownBy w' (some b) → wpList P ops Q rest (a.put o.dst undef) w') : wpList P ops Q (o :: rest) a w := by
  obtain ⟨D, hD, hat⟩ := hown
  refine wpList_mapUpdate_own w hg m x v t hop k e (int_keyed hk) ht _ b n D hm hD hn _ _ (.int .i64 i) hx hv (keyOf_int_mk hk hw) (.lit (.int .i64 z)) [] (plainElem_int he hwz) fun w' h1 h2 => hK w' ⟨_, h1, fun j => ?_⟩ h2
  by_cases h : j = i
  · subst h
    rw [atKey_put_same hD.isMap ((int_keyed hk).key (keyOf_int_mk hk hw))]
    simp
  · rw [atKey_put_other (by simpa using h), hat j]
    simp [h]
end
end Go.Proofs.YtkbellmhanpocaaDoor
