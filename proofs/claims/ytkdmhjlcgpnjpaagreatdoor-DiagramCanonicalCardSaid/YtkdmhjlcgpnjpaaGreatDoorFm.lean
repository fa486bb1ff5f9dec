/- Where a tree lies in memory. Appending a tree to a slice of the call's own. Slices of the call's own that show trees: appending many, cutting off. -/
import Derived.Test.YtkdmhjlcgpnjpaaGreatDoorFt
import Derived.Test.YtkdmhjlcgpnjpaaGreatDoorCm
import Derived.Maps.AppendAt
import Derived.Laws.OwnMore
import Derived.Laws.AppendOwnNone
namespace Go.Proofs.YtkdmhjlcgpnjpaaGreatDoor
set_option linter.unusedVariables false
set_option linter.unusedSimpArgs false
open Go.RowKit F

mutual
def CellF (P : Nat → Prop) (w : World) (b : Nat) : Nat → F → Prop
  | off, nd k a l => w.cell? ⟨b, off, none⟩ = some (.int .i64 k) ∧ w.cell? ⟨b, off + 1, none⟩ = some (.int .i64 a) ∧ ∃ ad cap, w.cell? ⟨b, off + 2, none⟩ = some (.slice ad l.length cap) ∧ InsF P w ad l
def CellsF (P : Nat → Prop) (w : World) (b : Nat) : Nat → List F → Prop
  | _, [] => True
  | off, t :: r => CellF P w b off t ∧ CellsF P w b (off + 3) r
def InsF (P : Nat → Prop) (w : World) : Option Addr → List F → Prop
  | _, [] => True
  | ad, t :: r => ∃ b off, ad = some ⟨b, off, none⟩ ∧ P b ∧ CellF P w b off t ∧ CellsF P w b (off + 3) r
end
/-- The value shows a tree; the blocks that it leads to satisfy P. -/
def FV (P : Nat → Prop) (w : World) (v : Value) (t : F) : Prop := ∃ ad cap, v = .agg #[.int .i64 t.k, .int .i64 t.a, .slice ad t.l.length cap] ∧ InsF P w ad t.l
def AnyB : Nat → Prop := fun _ => True
theorem cellF_open {P : Nat → Prop} {w : World} {b off : Nat} {t : F} (h : CellF P w b off t) :
    w.cell? ⟨b, off, none⟩ = some (.int .i64 t.k) ∧ w.cell? ⟨b, off + 1, none⟩ = some (.int .i64 t.a) ∧ ∃ ad cap, w.cell? ⟨b, off + 2, none⟩ = some (.slice ad t.l.length cap) ∧ InsF P w ad t.l := by
  cases t with
  | nd k a l => rw [CellF] at h; exact h
theorem cellF_mk {P : Nat → Prop} {w : World} {b off : Nat} {t : F} {ad : Option Addr} {cap : Nat} (h1 : w.cell? ⟨b, off, none⟩ = some (.int .i64 t.k)) (h2 : w.cell? ⟨b, off + 1, none⟩ = some (.int .i64 t.a)) (h3 : w.cell? ⟨b, off + 2, none⟩ = some (.slice ad t.l.length cap)) (h4 : InsF P w ad t.l) : CellF P w b off t := by
  cases t with
  | nd k a l => rw [CellF]; exact ⟨h1, h2, ad, cap, h3, h4⟩
theorem cellsF_at {P : Nat → Prop} {w : World} {b : Nat} : ∀ {l : List F} {off j : Nat} {t : F}, CellsF P w b off l → l[j]? = some t → CellF P w b (off + j * 3) t
  | [], _, _, _, _, h => by simp at h
  | u :: r, off, 0, t, h, hj => by
    simp at hj
    subst hj
    rw [CellsF] at h
    simpa using h.1
  | u :: r, off, j + 1, t, h, hj => by
    rw [CellsF] at h
    have := cellsF_at (j := j) h.2 (by simpa using hj)
    rw [show off + (j + 1) * 3 = off + 3 + j * 3 by omega]
    exact this
theorem cellsF_mk {P : Nat → Prop} {w : World} {b : Nat} : ∀ {l : List F} {off : Nat}, (∀ j t, l[j]? = some t → CellF P w b (off + j * 3) t) → CellsF P w b off l
  | [], _, _ => by rw [CellsF]; trivial
  | u :: r, off, h => by
    rw [CellsF]
    refine ⟨by simpa using h 0 u rfl, cellsF_mk fun j t hj => ?_⟩
    have := h (j + 1) t (by simpa using hj)
    rw [show off + 3 + j * 3 = off + (j + 1) * 3 by omega]
    exact this
theorem insF_at {P : Nat → Prop} {w : World} {ad : Option Addr} {l : List F} (h : InsF P w ad l) (h0 : 0 < l.length) : ∃ b off, ad = some ⟨b, off, none⟩ ∧ P b ∧ ∀ j t, l[j]? = some t → CellF P w b (off + j * 3) t := by
  cases l with
  | nil => simp at h0
  | cons u r =>
    rw [InsF] at h
    obtain ⟨b, off, ha, hp, h1, h2⟩ := h
    exact ⟨b, off, ha, hp, fun j t hj => cellsF_at (l := u :: r) (by rw [CellsF]; exact ⟨h1, h2⟩) hj⟩
theorem insF_mk {P : Nat → Prop} {w : World} {l : List F} {b off : Nat} (hp : P b) (h : ∀ j t, l[j]? = some t → CellF P w b (off + j * 3) t) : InsF P w (some ⟨b, off, none⟩) l := by
  cases l with
  | nil => rw [InsF]; trivial
  | cons u r =>
    have h2 := cellsF_mk (l := u :: r) h
    rw [CellsF] at h2
    rw [InsF]
    exact ⟨b, off, rfl, hp, h2⟩
theorem insF_nil (P : Nat → Prop) (w : World) (ad : Option Addr) : InsF P w ad [] := by rw [InsF]; trivial
/-- A tree is carried to another world, and to another claim on its blocks. -/
theorem move_cell {P Q : Nat → Prop} {w w' : World} (hc : ∀ (b off : Nat) (u : Value), P b → w.cell? ⟨b, off, none⟩ = some u → w'.cell? ⟨b, off, none⟩ = some u) (hq : ∀ b, b < w.heap.size → P b → Q b) :
    ∀ n : Nat, (∀ (t : F) (b off : Nat), nodes t ≤ n → P b → CellF P w b off t → CellF Q w' b off t) ∧ (∀ (l : List F) (ad : Option Addr), nodesL l ≤ n → InsF P w ad l → InsF Q w' ad l)
  | 0 => ⟨fun t b off h => by have := nodes_pos t; omega, fun l ad h _ => by
      cases l with
      | nil => exact insF_nil _ _ _
      | cons t r => have := nodes_pos t; rw [nodesL] at h; omega⟩
  | n + 1 => by
    obtain ⟨i1, i2⟩ := move_cell hc hq n
    have h1 : ∀ (t : F) (b off : Nat), nodes t ≤ n + 1 → P b → CellF P w b off t → CellF Q w' b off t := fun t b off hn hp h => by
      obtain ⟨c1, c2, ad, cap, c3, c4⟩ := cellF_open h
      exact cellF_mk (hc _ _ _ hp c1) (hc _ _ _ hp c2) (hc _ _ _ hp c3) (i2 t.l ad (by cases t; rw [nodes] at hn; simp only [F.l]; omega) c4)
    refine ⟨h1, fun l ad hn h => ?_⟩
    by_cases h0 : 0 < l.length
    · obtain ⟨b, off, rfl, hp, hcs⟩ := insF_at h h0
      have hlt : b < w.heap.size := by
        obtain ⟨t, ht⟩ : ∃ t, l[0]? = some t := ⟨_, List.getElem?_eq_getElem h0⟩
        exact World.block_lt_of_cell? w _ (cellF_open (hcs 0 t ht)).1
      refine insF_mk (hq b hlt hp) fun j t hj => h1 t b _ ?_ hp (hcs j t hj)
      exact Nat.le_trans (nodesL_mem (List.mem_of_getElem? hj)) hn
    · rw [show l = [] from List.length_eq_zero_iff.1 (by omega)]
      exact insF_nil _ _ _
theorem InsF.move {P Q : Nat → Prop} {w w' : World} {ad : Option Addr} {l : List F} (h : InsF P w ad l) (hc : ∀ (b off : Nat) (u : Value), P b → w.cell? ⟨b, off, none⟩ = some u → w'.cell? ⟨b, off, none⟩ = some u) (hq : ∀ b, b < w.heap.size → P b → Q b) : InsF Q w' ad l :=
  (move_cell hc hq (nodesL l)).2 l ad (Nat.le_refl _) h
theorem below_cell {w w' : World} (hb : Below w.heap.size w w') (b off : Nat) (u : Value) (h : w.cell? ⟨b, off, none⟩ = some u) : w'.cell? ⟨b, off, none⟩ = some u := by
  rw [hb.cell (World.block_lt_of_cell? w _ h), h]
theorem InsF.of {P : Nat → Prop} {w w' : World} {ad : Option Addr} {l : List F} (h : InsF P w ad l) (hb : Below w.heap.size w w') : InsF P w' ad l :=
  h.move (fun b off u _ hu => below_cell hb b off u hu) (fun _ _ hp => hp)
theorem InsF.imp {P Q : Nat → Prop} {w : World} {ad : Option Addr} {l : List F} (h : InsF P w ad l) (hq : ∀ b, b < w.heap.size → P b → Q b) : InsF Q w ad l :=
  h.move (fun _ _ _ _ hu => hu) hq
theorem FV.of {P : Nat → Prop} {w w' : World} {v : Value} {t : F} (h : FV P w v t) (hb : Below w.heap.size w w') : FV P w' v t := by
  obtain ⟨ad, cap, hv, hi⟩ := h
  exact ⟨ad, cap, hv, hi.of hb⟩
theorem FV.imp {P Q : Nat → Prop} {w : World} {v : Value} {t : F} (h : FV P w v t) (hq : ∀ b, b < w.heap.size → P b → Q b) : FV Q w v t := by
  obtain ⟨ad, cap, hv, hi⟩ := h
  exact ⟨ad, cap, hv, hi.imp hq⟩
theorem FV.any {P : Nat → Prop} {w : World} {v : Value} {t : F} (h : FV P w v t) : FV AnyB w v t := h.imp fun _ _ _ => trivial
theorem FV.mk {P : Nat → Prop} {w : World} {t : F} {ad : Option Addr} {cap : Nat} (h : InsF P w ad t.l) : FV P w (.agg #[.int .i64 t.k, .int .i64 t.a, .slice ad t.l.length cap]) t := ⟨ad, cap, rfl, h⟩
/-- The call returns a tree that lies in new memory; all that lay lies as it lay. -/
def RetF (t : F) (w : World) (e : Ending) (w' : World) : Prop := ∃ v, e = .returned v ∧ ∃ y : Bel w, w' = y.w ∧ FV (fun b => w.heap.size ≤ b) y.w v t
/-- The cells of inputs. -/
def cells3 : List (F × Option Addr × Nat) → List Value
  | [] => []
  | (t, ad, cap) :: r => .int .i64 t.k :: .int .i64 t.a :: .slice ad t.l.length cap :: cells3 r
theorem cells3_len : ∀ l, (cells3 l).length = l.length * 3
  | [] => rfl
  | (t, ad, cap) :: r => by rw [cells3, List.length_cons, List.length_cons, List.length_cons, cells3_len r, List.length_cons]; omega
theorem cells3_app : ∀ l r, cells3 (l ++ r) = cells3 l ++ cells3 r
  | [], r => rfl
  | (t, ad, cap) :: l, r => by rw [List.cons_append, cells3, cells3, cells3_app l r]; rfl
theorem cells3_at : ∀ (l : List (F × Option Addr × Nat)) (j : Nat) (t : F) (ad : Option Addr) (cap : Nat), l[j]? = some (t, ad, cap) → (cells3 l)[j * 3]? = some (.int .i64 t.k) ∧ (cells3 l)[j * 3 + 1]? = some (.int .i64 t.a) ∧ (cells3 l)[j * 3 + 2]? = some (.slice ad t.l.length cap)
  | [], j, t, ad, cap, h => by simp at h
  | (t', ad', cap') :: r, 0, t, ad, cap, h => by
    simp at h
    obtain ⟨rfl, rfl, rfl⟩ := h
    exact ⟨rfl, rfl, rfl⟩
  | (t', ad', cap') :: r, j + 1, t, ad, cap, h => by
    have := cells3_at r j t ad cap (by simpa using h)
    rw [cells3, show (j + 1) * 3 = j * 3 + 1 + 1 + 1 by omega, show j * 3 + 1 + 1 + 1 + 1 = j * 3 + 1 + 1 + 1 + 1 from rfl]
    simp only [List.getElem?_cons_succ]
    refine ⟨this.1, ?_, ?_⟩
    · exact this.2.1
    · exact this.2.2
/-- A slice of the call's own that shows trees whose inputs lie elsewhere. -/
def OwnF (w : World) (base : Nat) (e : TypeId) (v : Value) (l : List F) : Prop :=
  ∃ us : List (F × Option Addr × Nat), us.map (·.1) = l ∧ w.ownsRow base e 3 v l.length (cells3 us) ∧ ∀ (j : Nat) t ad cap, us[j]? = some (t, ad, cap) → InsF (fun b => base ≤ b ∧ v.ownBlock ≠ some b) w ad t.l
theorem ownF_nil (w : World) (base : Nat) (e : TypeId) : OwnF w base e (.slice none 0 0) [] := ⟨[], rfl, World.ownsRow_nil _ _ _ _, fun j t ad cap h => by simp at h⟩
theorem ownF_bel {w : World} {base : Nat} {e : TypeId} {v : Value} {l : List F} (h : OwnF w base e v l) (x : Bel w) : OwnF x.w base e v l := by
  obtain ⟨us, h1, h2, h3⟩ := h
  exact ⟨us, h1, World.ownsRow.kept h2 (bel_grown x) (by cases hv : v.ownBlock <;> simp), fun j t ad cap hj => (h3 j t ad cap hj).of x.below⟩
end Go.Proofs.YtkdmhjlcgpnjpaaGreatDoor

namespace Go.Proofs.YtkdmhjlcgpnjpaaGreatDoor
set_option linter.unusedVariables false
set_option linter.unusedSimpArgs false
open Go.RowKit F

theorem ownF_block {w : World} {base : Nat} {e : TypeId} {v : Value} {l : List F} (h : OwnF w base e v l) {b : Nat} (hb : v.ownBlock = some b) : base ≤ b ∧ b < w.heap.size := by
  obtain ⟨us, _, h2, _⟩ := h
  rcases h2.2 with ⟨rfl, _⟩ | ⟨g, cap, cur, rfl, hg, hh, _⟩
  · cases hb
  · cases hb
    exact ⟨hg, (Array.getElem?_eq_some_iff.1 hh).1⟩
theorem ownF_avoid {w : World} {base : Nat} {e : TypeId} {v : Value} {l : List F} (h : OwnF w base e v l) {b : Nat} (hb : w.heap.size ≤ b) : v.ownBlock ≠ some b := fun hk => by
  have := ownF_block h hk
  omega
theorem ownF_val {w : World} {base : Nat} {e : TypeId} {v : Value} {l : List F} (h : OwnF w base e v l) : ∃ a cap, v = .slice a l.length cap := by
  obtain ⟨us, _, h2, _⟩ := h
  rcases h2.2 with ⟨rfl, h0⟩ | ⟨g, cap, cur, rfl, _⟩
  · exact ⟨none, 0, by rw [h0]⟩
  · exact ⟨_, _, rfl⟩
theorem map_fst_get {us : List (F × Option Addr × Nat)} {l : List F} (h : us.map (·.1) = l) {j : Nat} {t : F} (hj : l[j]? = some t) : ∃ ad cap, us[j]? = some (t, ad, cap) := by
  rw [← h, List.getElem?_map] at hj
  cases hu : us[j]? with
  | none => rw [hu] at hj; cases hj
  | some x =>
    rw [hu] at hj
    obtain ⟨t', ad, cap⟩ := x
    cases hj
    exact ⟨ad, cap, rfl⟩
/-- The slice, as the inputs of a tree. -/
theorem ownF_ins {w : World} {base : Nat} {e : TypeId} {v : Value} {l : List F} (h : OwnF w base e v l) : ∃ ad cap, v = .slice ad l.length cap ∧ InsF (fun b => base ≤ b) w ad l := by
  obtain ⟨us, h1, h2, h3⟩ := h
  have hlen : us.length = l.length := by rw [← h1, List.length_map]
  rcases h2 with ⟨hxl, ⟨rfl, h0⟩ | ⟨g, cap, cur, rfl, hg, hh, hn, hc, hcs, hcur⟩⟩
  · exact ⟨none, 0, by rw [h0], by rw [List.length_eq_zero_iff.1 h0]; exact insF_nil _ _ _⟩
  · refine ⟨_, _, rfl, insF_mk hg fun j t hj => ?_⟩
    obtain ⟨ad, cp, hu⟩ := map_fst_get h1 hj
    obtain ⟨k0, k1, k2⟩ := cells3_at us j t ad cp hu
    have hjl : j < l.length := (List.getElem?_eq_some_iff.1 hj).1
    have hcell : ∀ (i : Nat) (x : Value), i < l.length * 3 → (cells3 us)[i]? = some x → w.cell? ⟨g, i, none⟩ = some x := fun i x hi hx => by
      rw [← hcur, List.getElem?_take_of_lt hi] at hx
      simp [World.cell?, hh]
      simpa using hx
    refine cellF_mk (ad := ad) (cap := cp) ?_ ?_ ?_ ((h3 j t ad cp hu).imp fun b _ hb => hb.1)
    · rw [Nat.zero_add]; exact hcell _ _ (by omega) k0
    · rw [Nat.zero_add]; exact hcell _ _ (by omega) k1
    · rw [Nat.zero_add]; exact hcell _ _ (by omega) k2
theorem ownF_app {y w1 : World} {base : Nat} {e : TypeId} {v v' : Value} {us : List (F × Option Addr × Nat)} {u : F} {ad : Option Addr} {cap : Nat} (hus : y.ownsRow base e 3 v us.length (cells3 us)) (hch : ∀ (j : Nat) t ad cap, us[j]? = some (t, ad, cap) → InsF (fun b => base ≤ b ∧ v.ownBlock ≠ some b) y ad t.l)
    (hc : InsF (fun b => base ≤ b ∧ v.ownBlock ≠ some b) y ad u.l) (hrow : w1.ownsRow base e 3 v' (us.length + 1) (cells3 us ++ [.int .i64 u.k, .int .i64 u.a, .slice ad u.l.length cap])) (hg : y.grownBy w1 v.ownBlock) (h5 : v'.ownBlock = v.ownBlock ∨ v'.ownBlock = some y.heap.size) :
    OwnF w1 base e v' (us.map (·.1) ++ [u]) := by
  have hmv : ∀ (ad : Option Addr) (l : List F), InsF (fun b => base ≤ b ∧ v.ownBlock ≠ some b) y ad l → InsF (fun b => base ≤ b ∧ v'.ownBlock ≠ some b) w1 ad l := fun ad l h => by
    refine h.move (fun b off x hb hx => ?_) (fun b hb hp => ⟨hp.1, ?_⟩)
    · have hlt := World.block_lt_of_cell? y _ hx
      rw [World.cell?_of_block (hg.block b hlt (fun hk => hb.2 hk.symm))]
      exact hx
    · rcases h5 with h5 | h5
      · rw [h5]; exact hp.2
      · rw [h5]
        intro hk
        injection hk with hk
        omega
  refine ⟨us ++ [(u, ad, cap)], by rw [List.map_append]; rfl, ?_, fun j t ad' cap' hj => ?_⟩
  · rw [cells3_app, List.length_append, List.length_map]
    exact hrow
  · by_cases hlt : j < us.length
    · rw [List.getElem?_append_left hlt] at hj
      exact hmv _ _ (hch j t ad' cap' hj)
    · rw [List.getElem?_append_right (by omega)] at hj
      have : j - us.length = 0 := by
        rcases Nat.eq_zero_or_pos (j - us.length) with h | h
        · exact h
        · rw [List.getElem?_eq_none (by simp; omega)] at hj; cases hj
      rw [this] at hj
      simp at hj
      obtain ⟨rfl, rfl, rfl⟩ := hj
      exact hmv _ _ hc
theorem wpList_appF {P : Program} {ops : Array Oper} {rest : List Oper} {o : Oper} {a : Act} {Q : Exit → Act → World → Prop} (hgd : o.guard = none) (s x : Operand) (T E : TypeId)
    (ho : o.op = .call { callee := .builtin .append, args := #[s, x], argTypes := #[T, T] }) (i : TypeInfo) (ht : P.underlying T = some (.slice E)) (hi : P.info? E = some i)
    (hz : i.zero = some (.agg #[.int .i64 0, .int .i64 0, .slice none 0 0])) (hsize : i.size = 3) (hby : i.bytes = 40) (W : World) (base : Nat) (v : Value) (l : List F) (u : F) (ad : Option Addr) (cap g0 : Nat)
    (hs : a.eval s = v) (hown : OwnF W base E v l) (hch : InsF (fun b => base ≤ b ∧ v.ownBlock ≠ some b) W ad u.l) (hx : a.eval x = .slice (some ⟨g0, 0, none⟩) 1 1) (hsrc : W.heap[g0]? = some (.cells #[.int .i64 u.k, .int .i64 u.a, .slice ad u.l.length cap] E (0, 0))) (hn : l.length ≤ 100000000) (hbase : base ≤ W.heap.size)
    (h : ∀ g c w1, OwnF w1 base E (.slice (some ⟨g, 0, none⟩) (l.length + 1) c) (l ++ [u]) → Below base W w1 → wpList P ops Q rest (a.put o.dst (.slice (some ⟨g, 0, none⟩) (l.length + 1) c)) w1) :
    wpList P ops Q (o :: rest) a W := by
  have hob := fun b => ownF_block (b := b) hown
  obtain ⟨us, h1, h2, h3⟩ := hown
  have hlen : us.length = l.length := by rw [← h1, List.length_map]
  rw [← hlen] at h2
  refine wpList_append_own_at _ hgd s x T ho base E i _ 3 40 ht hi hz hsize hby rfl (by decide) v us.length (cells3 us) hs h2 ⟨g0, 0, none⟩ 1 1 [.int .i64 u.k, .int .i64 u.a, .slice ad u.l.length cap] hx rfl ?_ ?_ (by unfold maxLen; omega) (by omega) hbase ?_
  · intro j z hj
    match j, hj with
    | 0, hj => simp at hj; subst hj; simp [Addr.add, World.cell?, hsrc]
    | 1, hj => simp at hj; subst hj; simp [Addr.add, World.cell?, hsrc]
    | 2, hj => simp at hj; subst hj; simp [Addr.add, World.cell?, hsrc]
  · intro z hz
    simp at hz
    rcases hz with rfl | rfl | rfl <;> rfl
  · intro v' w1 hrow hg hnil h5
    have hof := ownF_app h2 h3 hch hrow hg h5
    rw [h1] at hof
    obtain ⟨g, c, rfl⟩ : ∃ g c, v' = .slice (some ⟨g, 0, none⟩) (l.length + 1) c := by
      rcases hrow.2 with ⟨_, h0⟩ | ⟨g, cp, cur, hv, _⟩
      · omega
      · exact ⟨g, cp, by rw [hv, hlen]⟩
    refine h g c w1 hof ?_
    exact (Below.refl _ W).grown hg hbase (fun k hk => (hob k hk).1)
end Go.Proofs.YtkdmhjlcgpnjpaaGreatDoor

namespace Go.Proofs.YtkdmhjlcgpnjpaaGreatDoor
set_option linter.unusedVariables false
set_option linter.unusedSimpArgs false
open Go.RowKit F

theorem cellsF_us {P : Nat → Prop} {w : World} {b : Nat} : ∀ {l : List F} {off : Nat}, CellsF P w b off l → ∃ us : List (F × Option Addr × Nat), us.map (·.1) = l ∧ (∀ i x, (cells3 us)[i]? = some x → w.cell? ⟨b, off + i, none⟩ = some x) ∧ ∀ (j : Nat) t ad cap, us[j]? = some (t, ad, cap) → InsF P w ad t.l
  | [], off, _ => ⟨[], rfl, fun i x h => by simp [cells3] at h, fun j t ad cap h => by simp at h⟩
  | t :: r, off, h => by
    rw [CellsF] at h
    obtain ⟨us, e, h1, h2⟩ := cellsF_us h.2
    obtain ⟨c0, c1, ad, cap, c2, hi⟩ := cellF_open h.1
    refine ⟨(t, ad, cap) :: us, by rw [List.map_cons, e], fun i x hx => ?_, fun j u ad' cap' hj => ?_⟩
    · rw [cells3] at hx
      match i, hx with
      | 0, hx => simp at hx; subst hx; simpa using c0
      | 1, hx => simp at hx; subst hx; exact c1
      | 2, hx => simp at hx; subst hx; exact c2
      | i + 3, hx =>
        simp only [List.getElem?_cons_succ] at hx
        have := h1 i x hx
        rw [show off + (i + 3) = off + 3 + i by omega]
        exact this
    · cases j with
      | zero => simp at hj; obtain ⟨rfl, rfl, rfl⟩ := hj; exact hi
      | succ j => exact h2 j u ad' cap' (by simpa using hj)
/-- A slice of the call's own that shows trees whose inputs lie where Q says. -/
def OwnG (w : World) (base : Nat) (Q : Nat → Prop) (e : TypeId) (v : Value) (l : List F) : Prop :=
  ∃ us : List (F × Option Addr × Nat), us.map (·.1) = l ∧ w.ownsRow base e 3 v l.length (cells3 us) ∧ ∀ (j : Nat) t ad cap, us[j]? = some (t, ad, cap) → InsF (fun b => Q b ∧ v.ownBlock ≠ some b) w ad t.l
theorem OwnF.g {w : World} {base : Nat} {e : TypeId} {v : Value} {l : List F} (h : OwnF w base e v l) : OwnG w base (fun b => base ≤ b) e v l := h
theorem OwnG.f {w : World} {base : Nat} {e : TypeId} {v : Value} {l : List F} (h : OwnG w base (fun b => base ≤ b) e v l) : OwnF w base e v l := h
theorem ownG_nil (w : World) (base : Nat) (Q : Nat → Prop) (e : TypeId) : OwnG w base Q e (.slice none 0 0) [] := ⟨[], rfl, World.ownsRow_nil _ _ _ _, fun j t ad cap h => by simp at h⟩
theorem ownG_bel {w : World} {base : Nat} {Q : Nat → Prop} {e : TypeId} {v : Value} {l : List F} (h : OwnG w base Q e v l) (x : Bel w) : OwnG x.w base Q e v l := by
  obtain ⟨us, h1, h2, h3⟩ := h
  exact ⟨us, h1, World.ownsRow.kept h2 (bel_grown x) (by cases hv : v.ownBlock <;> simp), fun j t ad cap hj => (h3 j t ad cap hj).of x.below⟩
theorem ownG_block {w : World} {base : Nat} {Q : Nat → Prop} {e : TypeId} {v : Value} {l : List F} (h : OwnG w base Q e v l) {b : Nat} (hb : v.ownBlock = some b) : base ≤ b ∧ b < w.heap.size := by
  obtain ⟨us, _, h2, _⟩ := h
  rcases h2.2 with ⟨rfl, _⟩ | ⟨g, cap, cur, rfl, hg, hh, _⟩
  · cases hb
  · cases hb
    exact ⟨hg, (Array.getElem?_eq_some_iff.1 hh).1⟩
theorem ownG_avoid {w : World} {base : Nat} {Q : Nat → Prop} {e : TypeId} {v : Value} {l : List F} (h : OwnG w base Q e v l) {b : Nat} (hb : w.heap.size ≤ b ∨ b < base) : v.ownBlock ≠ some b := fun hk => by
  have := ownG_block h hk
  omega
theorem ownG_val {w : World} {base : Nat} {Q : Nat → Prop} {e : TypeId} {v : Value} {l : List F} (h : OwnG w base Q e v l) : ∃ a cap, v = .slice a l.length cap := by
  obtain ⟨us, _, h2, _⟩ := h
  rcases h2.2 with ⟨rfl, h0⟩ | ⟨g, cap, cur, rfl, _⟩
  · exact ⟨none, 0, by rw [h0]⟩
  · exact ⟨_, _, rfl⟩
theorem ownG_ins {w : World} {base : Nat} {Q : Nat → Prop} {e : TypeId} {v : Value} {l : List F} (h : OwnG w base Q e v l) : ∃ ad cap, v = .slice ad l.length cap ∧ InsF (fun b => base ≤ b ∨ Q b) w ad l := by
  obtain ⟨us, h1, h2, h3⟩ := h
  have hlen : us.length = l.length := by rw [← h1, List.length_map]
  rcases h2 with ⟨hxl, ⟨rfl, h0⟩ | ⟨g, cap, cur, rfl, hg, hh, hn, hc, hcs, hcur⟩⟩
  · exact ⟨none, 0, by rw [h0], by rw [List.length_eq_zero_iff.1 h0]; exact insF_nil _ _ _⟩
  · refine ⟨_, _, rfl, insF_mk (.inl hg) fun j t hj => ?_⟩
    obtain ⟨ad, cp, hu⟩ := map_fst_get h1 hj
    obtain ⟨k0, k1, k2⟩ := cells3_at us j t ad cp hu
    have hjl : j < l.length := (List.getElem?_eq_some_iff.1 hj).1
    have hcell : ∀ (i : Nat) (x : Value), i < l.length * 3 → (cells3 us)[i]? = some x → w.cell? ⟨g, i, none⟩ = some x := fun i x hi hx => by
      rw [← hcur, List.getElem?_take_of_lt hi] at hx
      simp [World.cell?, hh]
      simpa using hx
    refine cellF_mk (ad := ad) (cap := cp) ?_ ?_ ?_ ((h3 j t ad cp hu).imp fun b _ hb => .inr hb.1)
    · rw [Nat.zero_add]; exact hcell _ _ (by omega) k0
    · rw [Nat.zero_add]; exact hcell _ _ (by omega) k1
    · rw [Nat.zero_add]; exact hcell _ _ (by omega) k2
theorem ownG_appL {y w1 : World} {base : Nat} {QQ : Nat → Prop} {e : TypeId} {v v' : Value} {us ms : List (F × Option Addr × Nat)} (hch : ∀ (j : Nat) t ad cap, us[j]? = some (t, ad, cap) → InsF (fun b => QQ b ∧ v.ownBlock ≠ some b) y ad t.l)
    (hc : ∀ (j : Nat) t ad cap, ms[j]? = some (t, ad, cap) → InsF (fun b => QQ b ∧ v.ownBlock ≠ some b) y ad t.l) (hrow : w1.ownsRow base e 3 v' (us.length + ms.length) (cells3 us ++ cells3 ms)) (hg : y.grownBy w1 v.ownBlock) (h5 : v'.ownBlock = v.ownBlock ∨ v'.ownBlock = some y.heap.size) :
    OwnG w1 base QQ e v' (us.map (·.1) ++ ms.map (·.1)) := by
  have hmv : ∀ (ad : Option Addr) (l : List F), InsF (fun b => QQ b ∧ v.ownBlock ≠ some b) y ad l → InsF (fun b => QQ b ∧ v'.ownBlock ≠ some b) w1 ad l := fun ad l h => by
    refine h.move (fun b off x hb hx => ?_) (fun b hb hp => ⟨hp.1, ?_⟩)
    · have hlt := World.block_lt_of_cell? y _ hx
      rw [World.cell?_of_block (hg.block b hlt (fun hk => hb.2 hk.symm))]
      exact hx
    · rcases h5 with h5 | h5
      · rw [h5]; exact hp.2
      · rw [h5]
        intro hk
        injection hk with hk
        omega
  refine ⟨us ++ ms, by rw [List.map_append], ?_, fun j t ad' cap' hj => ?_⟩
  · rw [cells3_app, List.length_append, List.length_map, List.length_map]
    exact hrow
  · by_cases hlt : j < us.length
    · rw [List.getElem?_append_left hlt] at hj
      exact hmv _ _ (hch j t ad' cap' hj)
    · rw [List.getElem?_append_right (by omega)] at hj
      exact hmv _ _ (hc _ t ad' cap' hj)
theorem cells3_one (us : List (F × Option Addr × Nat)) : ∀ z ∈ cells3 us, z.oneCell' = true := by
  induction us with
  | nil => intro z h; cases h
  | cons x r ih =>
    obtain ⟨t, ad, cap⟩ := x
    intro z h
    rw [cells3] at h
    simp only [List.mem_cons] at h
    rcases h with rfl | rfl | rfl | h
    · rfl
    · rfl
    · rfl
    · exact ih z h
theorem run_append_none' {P : Program} {w : World} (base : Nat) (t ty e : TypeId) (i : TypeInfo) (size : Nat) (ht : P.underlying t = some (.slice e)) (hi : P.info? e = some i)
    (v : Value) (n : Nat) (xs : List Value) (hown : w.ownsRow base e size v n xs) (cap : Nat) : (Builtin.append_ #[t, t] ty #[v, .slice none 0 cap]).run P w = .ok v w := by
  rcases hown.2 with ⟨rfl, rfl⟩ | ⟨g, cap, cur, rfl, _, _, hnc, _⟩
  · simp [Builtin.append_, run_underlying ht, sizeOf, typeInfo, hi, Builtin.lenOf, Builtin.firstCells]
  · simp [Builtin.append_, run_underlying ht, sizeOf, typeInfo, hi, Builtin.lenOf, Builtin.firstCells, hnc, storeCells]
/-- The cells of a list of trees, wherever its row lies. -/
def InsC (P : Nat → Prop) (w : World) (ad : Option Addr) (m : List F) : Prop := m = [] ∨ ∃ b off, ad = some ⟨b, off, none⟩ ∧ CellsF P w b off m
theorem InsF.c {P : Nat → Prop} {w : World} {ad : Option Addr} {m : List F} (h : InsF P w ad m) : InsC P w ad m := by
  cases m with
  | nil => exact .inl rfl
  | cons u r =>
    rw [InsF] at h
    obtain ⟨b', off', e0', _, hm1, hm2⟩ := h
    exact .inr ⟨b', off', e0', by rw [CellsF]; exact ⟨hm1, hm2⟩⟩
theorem insC_one {P : Nat → Prop} {w : World} {u : F} {ad : Option Addr} {cap g0 : Nat} {E : TypeId} (hsrc : w.heap[g0]? = some (.cells #[.int .i64 u.k, .int .i64 u.a, .slice ad u.l.length cap] E (0, 0))) (hi : InsF P w ad u.l) : InsC P w (some ⟨g0, 0, none⟩) [u] := by
  refine .inr ⟨g0, 0, rfl, ?_⟩
  rw [CellsF, CellsF]
  refine ⟨cellF_mk (ad := ad) (cap := cap) ?_ ?_ ?_ hi, trivial⟩ <;> simp [World.cell?, hsrc]
theorem wpList_appG {P : Program} {ops : Array Oper} {rest : List Oper} {o : Oper} {a : Act} {Q : Exit → Act → World → Prop} (hgd : o.guard = none) (s x : Operand) (T E : TypeId)
    (ho : o.op = .call { callee := .builtin .append, args := #[s, x], argTypes := #[T, T] }) (i : TypeInfo) (ht : P.underlying T = some (.slice E)) (hi : P.info? E = some i)
    (hz : i.zero = some (.agg #[.int .i64 0, .int .i64 0, .slice none 0 0])) (hsize : i.size = 3) (hby : i.bytes = 40) (W : World) (base : Nat) (QQ : Nat → Prop) (v : Value) (l m : List F) (ad : Option Addr) (cap : Nat)
    (hs : a.eval s = v) (hown : OwnG W base QQ E v l) (hm : InsC (fun b => QQ b ∧ v.ownBlock ≠ some b) W ad m) (hx : a.eval x = .slice ad m.length cap) (hn : l.length + m.length ≤ 100000000) (hbase : base ≤ W.heap.size)
    (h : ∀ va vc w1, OwnG w1 base QQ E (.slice va (l.length + m.length) vc) (l ++ m) → Below base W w1 → wpList P ops Q rest (a.put o.dst (.slice va (l.length + m.length) vc)) w1) :
    wpList P ops Q (o :: rest) a W := by
  have hob := fun b => ownG_block (b := b) hown
  have hown0 := hown
  obtain ⟨us, h1, h2, h3⟩ := hown
  have hlen : us.length = l.length := by rw [← h1, List.length_map]
  rw [← hlen] at h2
  have nonil : ∀ (ad0 : Addr) (us' : List (F × Option Addr × Nat)), ad = some ad0 → us'.map (·.1) = m → (∀ i x, (cells3 us')[i]? = some x → W.cell? (ad0.add i) = some x) → (∀ (j : Nat) t ad cap, us'[j]? = some (t, ad, cap) → InsF (fun b => QQ b ∧ v.ownBlock ≠ some b) W ad t.l) →
      wpList P ops Q (o :: rest) a W := fun ad0 us' e0 e1 e2 e3 => by
    subst e0
    have hlen' : us'.length = m.length := by rw [← e1, List.length_map]
    refine wpList_append_own_at _ hgd s x T ho base E i _ 3 40 ht hi hz hsize hby rfl (by decide) v us.length (cells3 us) hs h2 ad0 m.length cap (cells3 us') hx (by rw [cells3_len, hlen']) ?_ (cells3_one us') (by unfold maxLen; omega) (by omega) hbase ?_
    · intro j z hj
      exact e2 j z hj
    · intro v' w1 hrow hg hnil h5
      rw [← hlen'] at hrow
      have hof := ownG_appL h3 e3 hrow hg h5
      rw [h1, e1] at hof
      obtain ⟨va, vc, hv⟩ := ownG_val hof
      subst hv
      rw [List.length_append] at hof ⊢
      exact h va vc w1 hof ((Below.refl _ W).grown hg hbase (fun k hk => (hob k hk).1))
  cases m with
  | nil =>
    cases ad with
    | none =>
      obtain ⟨va, vc, rfl⟩ := ownG_val hown0
      refine wpList_plain hgd fun K hK => ?_
      have hrun := run_append_none' (P := P) (w := W) base T o.type E i 3 ht hi _ _ _ h2 cap
      unfold Oper.wp
      simp only [List.length_nil] at hx
      simp [execOp, ho, resolve, invoke, builtin, hs, hx, hrun, Result.andThen]
      have := h va vc W (by simpa using hown0) (Below.refl _ _)
      exact hK _ _ (by simpa using this)
    | some ad0 => exact nonil ad0 [] rfl rfl (fun i x h => by simp [cells3] at h) (fun j t ad cap h => by simp at h)
  | cons u r =>
    obtain ⟨b', off', e0', hm1⟩ := hm.resolve_left (fun h => by cases h)
    obtain ⟨us', e1, e2, e3⟩ := cellsF_us hm1
    exact nonil ⟨b', off', none⟩ us' e0' e1 (fun i x hx => by
      have := e2 i x hx
      cases i with
      | zero => simpa [Addr.add] using this
      | succ i => simpa [Addr.add] using this) e3
theorem cells3_take (us : List (F × Option Addr × Nat)) (k : Nat) : (cells3 us).take (k * 3) = cells3 (us.take k) := by
  induction us generalizing k with
  | nil => simp [cells3]
  | cons x r ih =>
    obtain ⟨t, ad, cap⟩ := x
    cases k with
    | zero => simp [cells3]
    | succ k =>
      rw [cells3, List.take_succ_cons, cells3, show (k + 1) * 3 = k * 3 + 1 + 1 + 1 by omega]
      simp only [List.take_succ_cons]
      rw [ih k]
/-- The head of such a slice. -/
theorem ownG_take {w : World} {base : Nat} {QQ : Nat → Prop} {e : TypeId} {a : Option Addr} {n c : Nat} {l : List F} (h : OwnG w base QQ e (.slice a n c) l) (k : Nat) (hk : k ≤ l.length) : OwnG w base QQ e (.slice a k c) (l.take k) := by
  obtain ⟨us, h1, h2, h3⟩ := h
  have hlen : us.length = l.length := by rw [← h1, List.length_map]
  have hkl : (l.take k).length = k := by rw [List.length_take]; omega
  refine ⟨us.take k, by rw [List.map_take, h1], ?_, fun j t ad cap hj => ?_⟩
  · rw [hkl]
    rcases h2 with ⟨hxl, ⟨hv, h0⟩ | ⟨g, cap, cur, hv, hg, hh, hn, hc, hcs, hcur⟩⟩
    · have : k = 0 := by omega
      subst this
      injection hv with e1 e2 e3
      subst e1 e2 e3
      exact World.ownsRow_nil _ _ _ _
    · injection hv with e1 e2 e3
      subst e1 e3
      refine ⟨by rw [cells3_len, List.length_take]; congr 1; omega, .inr ⟨g, c, cur, rfl, hg, hh, by omega, hc, hcs, ?_⟩⟩
      rw [← cells3_take, ← hcur, List.take_take]
      congr 1
      have : k * 3 ≤ l.length * 3 := by omega
      omega
  · have hjk : j < k := by
      have := (List.getElem?_eq_some_iff.1 hj).1
      rw [List.length_take] at this
      omega
    rw [List.getElem?_take_of_lt hjk] at hj
    have := h3 j t ad cap hj
    cases a <;> exact this
theorem insF_one {P : Nat → Prop} {w : World} {u : F} {ad : Option Addr} {cap g0 : Nat} {E : TypeId} (hsrc : w.heap[g0]? = some (.cells #[.int .i64 u.k, .int .i64 u.a, .slice ad u.l.length cap] E (0, 0))) (hp : P g0) (hi : InsF P w ad u.l) : InsF P w (some ⟨g0, 0, none⟩) [u] := by
  refine insF_mk hp fun j t hj => ?_
  cases j with
  | succ j => simp at hj
  | zero =>
    simp at hj
    subst hj
    refine cellF_mk (ad := ad) (cap := cap) ?_ ?_ ?_ hi <;> simp [World.cell?, hsrc]
end Go.Proofs.YtkdmhjlcgpnjpaaGreatDoor
