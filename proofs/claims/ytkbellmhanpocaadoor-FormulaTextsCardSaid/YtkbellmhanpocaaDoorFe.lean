/- Where a tree lies in memory. -/
import Derived.Test.YtkbellmhanpocaaDoorFd
import Derived.Test.YtkbellmhanpocaaDoorOwnL
namespace Go.Proofs.YtkbellmhanpocaaDoor
set_option linter.unusedVariables false
set_option linter.unusedSimpArgs false
open Go.RowKit F

mutual
def CellF (P : Nat → Prop) (w : World) (b : Nat) : Nat → F → Prop
  | off, nd k a l => w.cell? ⟨b, off, none⟩ = some (.int .i64 k) ∧ w.cell? ⟨b, off + 1, none⟩ = some (.int .i64 a) ∧ ∃ ad cap, w.cell? ⟨b, off + 2, none⟩ = some (.slice ad l.length cap) ∧ InsF P w ad l
def CellsF (P : Nat → Prop) (w : World) (b : Nat) : Nat → List F → Prop
  | _, [] => True
  | off, t :: r => CellF P w b off t ∧ CellsF P w b (off + 3) r
def InsF (P : Nat → Prop) (w : World) : Option Addr → List F → Prop
  | _, [] => True
  | ad, t :: r => ∃ b off, ad = some ⟨b, off, none⟩ ∧ P b ∧ CellF P w b off t ∧ CellsF P w b (off + 3) r
end
/-- The value shows a tree; the blocks that it leads to satisfy P. -/
def FV (P : Nat → Prop) (w : World) (v : Value) (t : F) : Prop := ∃ ad cap, v = .agg #[.int .i64 t.k, .int .i64 t.a, .slice ad t.l.length cap] ∧ InsF P w ad t.l
def AnyB : Nat → Prop := fun _ => True
theorem cellF_open {P : Nat → Prop} {w : World} {b off : Nat} {t : F} (h : CellF P w b off t) :
    w.cell? ⟨b, off, none⟩ = some (.int .i64 t.k) ∧ w.cell? ⟨b, off + 1, none⟩ = some (.int .i64 t.a) ∧ ∃ ad cap, w.cell? ⟨b, off + 2, none⟩ = some (.slice ad t.l.length cap) ∧ InsF P w ad t.l := by
  cases t with
  | nd k a l => rw [CellF] at h; exact h
theorem cellF_mk {P : Nat → Prop} {w : World} {b off : Nat} {t : F} {ad : Option Addr} {cap : Nat} (h1 : w.cell? ⟨b, off, none⟩ = some (.int .i64 t.k)) (h2 : w.cell? ⟨b, off + 1, none⟩ = some (.int .i64 t.a)) (h3 : w.cell? ⟨b, off + 2, none⟩ = some (.slice ad t.l.length cap)) (h4 : InsF P w ad t.l) : CellF P w b off t := by
  cases t with
  | nd k a l => rw [CellF]; exact ⟨h1, h2, ad, cap, h3, h4⟩
theorem cellsF_at {P : Nat → Prop} {w : World} {b : Nat} : ∀ {l : List F} {off j : Nat} {t : F}, CellsF P w b off l → l[j]? = some t → CellF P w b (off + j * 3) t
  | [], _, _, _, _, h => by simp at h
  | u :: r, off, 0, t, h, hj => by
    simp at hj
    subst hj
    rw [CellsF] at h
    simpa using h.1
  | u :: r, off, j + 1, t, h, hj => by
    rw [CellsF] at h
    have := cellsF_at (j := j) h.2 (by simpa using hj)
    rw [show off + (j + 1) * 3 = off + 3 + j * 3 by omega]
    exact this
theorem cellsF_mk {P : Nat → Prop} {w : World} {b : Nat} : ∀ {l : List F} {off : Nat}, (∀ j t, l[j]? = some t → CellF P w b (off + j * 3) t) → CellsF P w b off l
  | [], _, _ => by rw [CellsF]; trivial
  | u :: r, off, h => by
    rw [CellsF]
    refine ⟨by simpa using h 0 u rfl, cellsF_mk fun j t hj => ?_⟩
    have := h (j + 1) t (by simpa using hj)
    rw [show off + 3 + j * 3 = off + (j + 1) * 3 by omega]
    exact this
theorem insF_at {P : Nat → Prop} {w : World} {ad : Option Addr} {l : List F} (h : InsF P w ad l) (h0 : 0 < l.length) : ∃ b off, ad = some ⟨b, off, none⟩ ∧ P b ∧ ∀ j t, l[j]? = some t → CellF P w b (off + j * 3) t := by
  cases l with
  | nil => simp at h0
  | cons u r =>
    rw [InsF] at h
    obtain ⟨b, off, ha, hp, h1, h2⟩ := h
    exact ⟨b, off, ha, hp, fun j t hj => cellsF_at (l := u :: r) (by rw [CellsF]; exact ⟨h1, h2⟩) hj⟩
theorem insF_mk {P : Nat → Prop} {w : World} {l : List F} {b off : Nat} (hp : P b) (h : ∀ j t, l[j]? = some t → CellF P w b (off + j * 3) t) : InsF P w (some ⟨b, off, none⟩) l := by
  cases l with
  | nil => rw [InsF]; trivial
  | cons u r =>
    have h2 := cellsF_mk (l := u :: r) h
    rw [CellsF] at h2
    rw [InsF]
    exact ⟨b, off, rfl, hp, h2⟩
theorem insF_nil (P : Nat → Prop) (w : World) (ad : Option Addr) : InsF P w ad [] := by rw [InsF]; trivial
theorem insF_drop {P : Nat → Prop} {w : World} {b off : Nat} {l : List F} (h : InsF P w (some ⟨b, off, none⟩) l) (k : Nat) : InsF P w (some ⟨b, off + k * 3, none⟩) (l.drop k) := by
  by_cases h0 : 0 < (l.drop k).length
  · have hl : 0 < l.length := by rw [List.length_drop] at h0; omega
    obtain ⟨b', off', ha, hp, hc⟩ := insF_at h hl
    injection ha with ha
    injection ha with e1 e2
    subst e1 e2
    refine insF_mk hp fun j t hj => ?_
    rw [List.getElem?_drop] at hj
    have := hc _ t hj
    rw [show off + k * 3 + j * 3 = off + (k + j) * 3 by omega]
    exact this
  · rw [show l.drop k = [] from List.length_eq_zero_iff.1 (by omega)]
    exact insF_nil _ _ _
theorem insF_take {P : Nat → Prop} {w : World} {ad : Option Addr} {l : List F} (h : InsF P w ad l) (k : Nat) : InsF P w ad (l.take k) := by
  by_cases h0 : 0 < (l.take k).length
  · have hl : 0 < l.length := by rw [List.length_take] at h0; omega
    obtain ⟨b', off', ha, hp, hc⟩ := insF_at h hl
    subst ha
    refine insF_mk hp fun j t hj => hc j t ?_
    by_cases hjk : j < k
    · rwa [List.getElem?_take_of_lt hjk] at hj
    · rw [List.getElem?_take_eq_none (by omega)] at hj; cases hj
  · rw [show l.take k = [] from List.length_eq_zero_iff.1 (by omega)]
    exact insF_nil _ _ _
/-- A tree is carried to another world, and to another claim on its blocks. -/
theorem move_cell {P Q : Nat → Prop} {w w' : World} (hc : ∀ (b off : Nat) (u : Value), P b → w.cell? ⟨b, off, none⟩ = some u → w'.cell? ⟨b, off, none⟩ = some u) (hq : ∀ b, b < w.heap.size → P b → Q b) :
    ∀ n : Nat, (∀ (t : F) (b off : Nat), nodes t ≤ n → P b → CellF P w b off t → CellF Q w' b off t) ∧ (∀ (l : List F) (ad : Option Addr), nodesL l ≤ n → InsF P w ad l → InsF Q w' ad l)
  | 0 => ⟨fun t b off h => by have := nodes_pos t; omega, fun l ad h _ => by
      cases l with
      | nil => exact insF_nil _ _ _
      | cons t r => have := nodes_pos t; rw [nodesL] at h; omega⟩
  | n + 1 => by
    obtain ⟨i1, i2⟩ := move_cell hc hq n
    have h1 : ∀ (t : F) (b off : Nat), nodes t ≤ n + 1 → P b → CellF P w b off t → CellF Q w' b off t := fun t b off hn hp h => by
      obtain ⟨c1, c2, ad, cap, c3, c4⟩ := cellF_open h
      exact cellF_mk (hc _ _ _ hp c1) (hc _ _ _ hp c2) (hc _ _ _ hp c3) (i2 t.l ad (by cases t; rw [nodes] at hn; simp only [F.l]; omega) c4)
    refine ⟨h1, fun l ad hn h => ?_⟩
    by_cases h0 : 0 < l.length
    · obtain ⟨b, off, rfl, hp, hcs⟩ := insF_at h h0
      have hlt : b < w.heap.size := by
        obtain ⟨t, ht⟩ : ∃ t, l[0]? = some t := ⟨_, List.getElem?_eq_getElem h0⟩
        exact World.block_lt_of_cell? w _ (cellF_open (hcs 0 t ht)).1
      refine insF_mk (hq b hlt hp) fun j t hj => h1 t b _ ?_ hp (hcs j t hj)
      exact Nat.le_trans (nodesL_mem (List.mem_of_getElem? hj)) hn
    · rw [show l = [] from List.length_eq_zero_iff.1 (by omega)]
      exact insF_nil _ _ _
theorem InsF.move {P Q : Nat → Prop} {w w' : World} {ad : Option Addr} {l : List F} (h : InsF P w ad l) (hc : ∀ (b off : Nat) (u : Value), P b → w.cell? ⟨b, off, none⟩ = some u → w'.cell? ⟨b, off, none⟩ = some u) (hq : ∀ b, b < w.heap.size → P b → Q b) : InsF Q w' ad l :=
  (move_cell hc hq (nodesL l)).2 l ad (Nat.le_refl _) h
theorem below_cell {w w' : World} (hb : Below w.heap.size w w') (b off : Nat) (u : Value) (h : w.cell? ⟨b, off, none⟩ = some u) : w'.cell? ⟨b, off, none⟩ = some u := by
  rw [hb.cell (World.block_lt_of_cell? w _ h), h]
theorem InsF.of {P : Nat → Prop} {w w' : World} {ad : Option Addr} {l : List F} (h : InsF P w ad l) (hb : Below w.heap.size w w') : InsF P w' ad l :=
  h.move (fun b off u _ hu => below_cell hb b off u hu) (fun _ _ hp => hp)
theorem InsF.imp {P Q : Nat → Prop} {w : World} {ad : Option Addr} {l : List F} (h : InsF P w ad l) (hq : ∀ b, b < w.heap.size → P b → Q b) : InsF Q w ad l :=
  h.move (fun _ _ _ _ hu => hu) hq
theorem FV.of {P : Nat → Prop} {w w' : World} {v : Value} {t : F} (h : FV P w v t) (hb : Below w.heap.size w w') : FV P w' v t := by
  obtain ⟨ad, cap, hv, hi⟩ := h
  exact ⟨ad, cap, hv, hi.of hb⟩
theorem FV.imp {P Q : Nat → Prop} {w : World} {v : Value} {t : F} (h : FV P w v t) (hq : ∀ b, b < w.heap.size → P b → Q b) : FV Q w v t := by
  obtain ⟨ad, cap, hv, hi⟩ := h
  exact ⟨ad, cap, hv, hi.imp hq⟩
theorem FV.any {P : Nat → Prop} {w : World} {v : Value} {t : F} (h : FV P w v t) : FV AnyB w v t := h.imp fun _ _ _ => trivial
theorem FV.mk {P : Nat → Prop} {w : World} {t : F} {ad : Option Addr} {cap : Nat} (h : InsF P w ad t.l) : FV P w (.agg #[.int .i64 t.k, .int .i64 t.a, .slice ad t.l.length cap]) t := ⟨ad, cap, rfl, h⟩
/-- The call returns a tree that lies in new memory; all that lay lies as it lay. -/
def RetF (t : F) (w : World) (e : Ending) (w' : World) : Prop := ∃ v, e = .returned v ∧ ∃ y : Bel w, w' = y.w ∧ FV (fun b => w.heap.size ≤ b) y.w v t
/-- The cells of inputs. -/
def cells3 : List (F × Option Addr × Nat) → List Value
  | [] => []
  | (t, ad, cap) :: r => .int .i64 t.k :: .int .i64 t.a :: .slice ad t.l.length cap :: cells3 r
theorem cells3_len : ∀ l, (cells3 l).length = l.length * 3
  | [] => rfl
  | (t, ad, cap) :: r => by rw [cells3, List.length_cons, List.length_cons, List.length_cons, cells3_len r, List.length_cons]; omega
theorem cells3_app : ∀ l r, cells3 (l ++ r) = cells3 l ++ cells3 r
  | [], r => rfl
  | (t, ad, cap) :: l, r => by rw [List.cons_append, cells3, cells3, cells3_app l r]; rfl
theorem cells3_at : ∀ (l : List (F × Option Addr × Nat)) (j : Nat) (t : F) (ad : Option Addr) (cap : Nat), l[j]? = some (t, ad, cap) → (cells3 l)[j * 3]? = some (.int .i64 t.k) ∧ (cells3 l)[j * 3 + 1]? = some (.int .i64 t.a) ∧ (cells3 l)[j * 3 + 2]? = some (.slice ad t.l.length cap)
  | [], j, t, ad, cap, h => by simp at h
  | (t', ad', cap') :: r, 0, t, ad, cap, h => by
    simp at h
    obtain ⟨rfl, rfl, rfl⟩ := h
    exact ⟨rfl, rfl, rfl⟩
  | (t', ad', cap') :: r, j + 1, t, ad, cap, h => by
    have := cells3_at r j t ad cap (by simpa using h)
    rw [cells3, show (j + 1) * 3 = j * 3 + 1 + 1 + 1 by omega, show j * 3 + 1 + 1 + 1 + 1 = j * 3 + 1 + 1 + 1 + 1 from rfl]
    simp only [List.getElem?_cons_succ]
    refine ⟨this.1, ?_, ?_⟩
    · exact this.2.1
    · exact this.2.2
/-- A slice of the call's own that shows trees whose inputs lie elsewhere. -/
def OwnF (w : World) (base : Nat) (e : TypeId) (v : Value) (l : List F) : Prop :=
  ∃ us : List (F × Option Addr × Nat), us.map (·.1) = l ∧ w.ownsRow base e 3 v l.length (cells3 us) ∧ ∀ (j : Nat) t ad cap, us[j]? = some (t, ad, cap) → InsF (fun b => base ≤ b ∧ v.ownBlock ≠ some b) w ad t.l
theorem ownF_nil (w : World) (base : Nat) (e : TypeId) : OwnF w base e (.slice none 0 0) [] := ⟨[], rfl, World.ownsRow_nil _ _ _ _, fun j t ad cap h => by simp at h⟩
theorem ownF_bel {w : World} {base : Nat} {e : TypeId} {v : Value} {l : List F} (h : OwnF w base e v l) (x : Bel w) : OwnF x.w base e v l := by
  obtain ⟨us, h1, h2, h3⟩ := h
  exact ⟨us, h1, World.ownsRow.kept h2 (bel_grown x) (by cases hv : v.ownBlock <;> simp), fun j t ad cap hj => (h3 j t ad cap hj).of x.below⟩
end Go.Proofs.YtkbellmhanpocaaDoor
