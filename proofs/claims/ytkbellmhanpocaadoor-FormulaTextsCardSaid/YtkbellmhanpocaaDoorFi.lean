/- Slices of the call's own that show trees: appending many, cutting off. -/
import Derived.Laws.OwnMore
import Derived.Laws.AppendOwnNone
import Derived.Test.YtkbellmhanpocaaDoorFf
namespace Go.Proofs.YtkbellmhanpocaaDoor
set_option linter.unusedVariables false
set_option linter.unusedSimpArgs false
open Go.RowKit F

theorem cellsF_us {P : Nat → Prop} {w : World} {b : Nat} : ∀ {l : List F} {off : Nat}, CellsF P w b off l → ∃ us : List (F × Option Addr × Nat), us.map (·.1) = l ∧ (∀ i x, (cells3 us)[i]? = some x → w.cell? ⟨b, off + i, none⟩ = some x) ∧ ∀ (j : Nat) t ad cap, us[j]? = some (t, ad, cap) → InsF P w ad t.l
  | [], off, _ => ⟨[], rfl, fun i x h => by simp [cells3] at h, fun j t ad cap h => by simp at h⟩
  | t :: r, off, h => by
    rw [CellsF] at h
    obtain ⟨us, e, h1, h2⟩ := cellsF_us h.2
    obtain ⟨c0, c1, ad, cap, c2, hi⟩ := cellF_open h.1
    refine ⟨(t, ad, cap) :: us, by rw [List.map_cons, e], fun i x hx => ?_, fun j u ad' cap' hj => ?_⟩
    · rw [cells3] at hx
      match i, hx with
      | 0, hx => simp at hx; subst hx; simpa using c0
      | 1, hx => simp at hx; subst hx; exact c1
      | 2, hx => simp at hx; subst hx; exact c2
      | i + 3, hx =>
        simp only [List.getElem?_cons_succ] at hx
        have := h1 i x hx
        rw [show off + (i + 3) = off + 3 + i by omega]
        exact this
    · cases j with
      | zero => simp at hj; obtain ⟨rfl, rfl, rfl⟩ := hj; exact hi
      | succ j => exact h2 j u ad' cap' (by simpa using hj)
/-- A slice of the call's own that shows trees whose inputs lie where Q says. -/
def OwnG (w : World) (base : Nat) (Q : Nat → Prop) (e : TypeId) (v : Value) (l : List F) : Prop :=
  ∃ us : List (F × Option Addr × Nat), us.map (·.1) = l ∧ w.ownsRow base e 3 v l.length (cells3 us) ∧ ∀ (j : Nat) t ad cap, us[j]? = some (t, ad, cap) → InsF (fun b => Q b ∧ v.ownBlock ≠ some b) w ad t.l
theorem OwnF.g {w : World} {base : Nat} {e : TypeId} {v : Value} {l : List F} (h : OwnF w base e v l) : OwnG w base (fun b => base ≤ b) e v l := h
theorem OwnG.f {w : World} {base : Nat} {e : TypeId} {v : Value} {l : List F} (h : OwnG w base (fun b => base ≤ b) e v l) : OwnF w base e v l := h
theorem ownG_nil (w : World) (base : Nat) (Q : Nat → Prop) (e : TypeId) : OwnG w base Q e (.slice none 0 0) [] := ⟨[], rfl, World.ownsRow_nil _ _ _ _, fun j t ad cap h => by simp at h⟩
theorem ownG_bel {w : World} {base : Nat} {Q : Nat → Prop} {e : TypeId} {v : Value} {l : List F} (h : OwnG w base Q e v l) (x : Bel w) : OwnG x.w base Q e v l := by
  obtain ⟨us, h1, h2, h3⟩ := h
  exact ⟨us, h1, World.ownsRow.kept h2 (bel_grown x) (by cases hv : v.ownBlock <;> simp), fun j t ad cap hj => (h3 j t ad cap hj).of x.below⟩
theorem ownG_block {w : World} {base : Nat} {Q : Nat → Prop} {e : TypeId} {v : Value} {l : List F} (h : OwnG w base Q e v l) {b : Nat} (hb : v.ownBlock = some b) : base ≤ b ∧ b < w.heap.size := by
  obtain ⟨us, _, h2, _⟩ := h
  rcases h2.2 with ⟨rfl, _⟩ | ⟨g, cap, cur, rfl, hg, hh, _⟩
  · cases hb
  · cases hb
    exact ⟨hg, (Array.getElem?_eq_some_iff.1 hh).1⟩
theorem ownG_avoid {w : World} {base : Nat} {Q : Nat → Prop} {e : TypeId} {v : Value} {l : List F} (h : OwnG w base Q e v l) {b : Nat} (hb : w.heap.size ≤ b ∨ b < base) : v.ownBlock ≠ some b := fun hk => by
  have := ownG_block h hk
  omega
theorem ownG_val {w : World} {base : Nat} {Q : Nat → Prop} {e : TypeId} {v : Value} {l : List F} (h : OwnG w base Q e v l) : ∃ a cap, v = .slice a l.length cap := by
  obtain ⟨us, _, h2, _⟩ := h
  rcases h2.2 with ⟨rfl, h0⟩ | ⟨g, cap, cur, rfl, _⟩
  · exact ⟨none, 0, by rw [h0]⟩
  · exact ⟨_, _, rfl⟩
theorem ownG_ins {w : World} {base : Nat} {Q : Nat → Prop} {e : TypeId} {v : Value} {l : List F} (h : OwnG w base Q e v l) : ∃ ad cap, v = .slice ad l.length cap ∧ InsF (fun b => base ≤ b ∨ Q b) w ad l := by
  obtain ⟨us, h1, h2, h3⟩ := h
  have hlen : us.length = l.length := by rw [← h1, List.length_map]
  rcases h2 with ⟨hxl, ⟨rfl, h0⟩ | ⟨g, cap, cur, rfl, hg, hh, hn, hc, hcs, hcur⟩⟩
  · exact ⟨none, 0, by rw [h0], by rw [List.length_eq_zero_iff.1 h0]; exact insF_nil _ _ _⟩
  · refine ⟨_, _, rfl, insF_mk (.inl hg) fun j t hj => ?_⟩
    obtain ⟨ad, cp, hu⟩ := map_fst_get h1 hj
    obtain ⟨k0, k1, k2⟩ := cells3_at us j t ad cp hu
    have hjl : j < l.length := (List.getElem?_eq_some_iff.1 hj).1
    have hcell : ∀ (i : Nat) (x : Value), i < l.length * 3 → (cells3 us)[i]? = some x → w.cell? ⟨g, i, none⟩ = some x := fun i x hi hx => by
      rw [← hcur, List.getElem?_take_of_lt hi] at hx
      simp [World.cell?, hh]
      simpa using hx
    refine cellF_mk (ad := ad) (cap := cp) ?_ ?_ ?_ ((h3 j t ad cp hu).imp fun b _ hb => .inr hb.1)
    · rw [Nat.zero_add]; exact hcell _ _ (by omega) k0
    · rw [Nat.zero_add]; exact hcell _ _ (by omega) k1
    · rw [Nat.zero_add]; exact hcell _ _ (by omega) k2
/-- It is carried where its row and the inputs lie as they lay. -/
theorem ownG_move {w w' : World} {base : Nat} {Q : Nat → Prop} {e : TypeId} {v : Value} {l : List F} (h : OwnG w base Q e v l) (hh : ∀ b o, w.heap[b]? = some o → (v.ownBlock = some b ∨ Q b) → w'.heap[b]? = some o) : OwnG w' base Q e v l := by
  have hob := fun b => ownG_block (b := b) h
  obtain ⟨us, h1, h2, h3⟩ := h
  refine ⟨us, h1, ?_, fun j t ad cap hj => (h3 j t ad cap hj).move (fun b off x hb hx => ?_) (fun b _ hb => hb)⟩
  · obtain ⟨hxl, ⟨hv, h0⟩ | ⟨g, cap, cur, hv, hg, hk, r⟩⟩ := h2
    · exact ⟨hxl, .inl ⟨hv, h0⟩⟩
    · exact ⟨hxl, .inr ⟨g, cap, cur, hv, hg, hh g _ hk (.inl (by rw [hv]; rfl)), r⟩⟩
  · have hlt := World.block_lt_of_cell? w _ hx
    obtain ⟨o, ho⟩ : ∃ o, w.heap[b]? = some o := ⟨_, Array.getElem?_eq_getElem hlt⟩
    rw [World.cell?_of_block ((hh b o ho (.inr hb.1)).trans ho.symm)]
    exact hx
theorem ownG_appL {y w1 : World} {base : Nat} {QQ : Nat → Prop} {e : TypeId} {v v' : Value} {us ms : List (F × Option Addr × Nat)} (hch : ∀ (j : Nat) t ad cap, us[j]? = some (t, ad, cap) → InsF (fun b => QQ b ∧ v.ownBlock ≠ some b) y ad t.l)
    (hc : ∀ (j : Nat) t ad cap, ms[j]? = some (t, ad, cap) → InsF (fun b => QQ b ∧ v.ownBlock ≠ some b) y ad t.l) (hrow : w1.ownsRow base e 3 v' (us.length + ms.length) (cells3 us ++ cells3 ms)) (hg : y.grownBy w1 v.ownBlock) (h5 : v'.ownBlock = v.ownBlock ∨ v'.ownBlock = some y.heap.size) :
    OwnG w1 base QQ e v' (us.map (·.1) ++ ms.map (·.1)) := by
  have hmv : ∀ (ad : Option Addr) (l : List F), InsF (fun b => QQ b ∧ v.ownBlock ≠ some b) y ad l → InsF (fun b => QQ b ∧ v'.ownBlock ≠ some b) w1 ad l := fun ad l h => by
    refine h.move (fun b off x hb hx => ?_) (fun b hb hp => ⟨hp.1, ?_⟩)
    · have hlt := World.block_lt_of_cell? y _ hx
      rw [World.cell?_of_block (hg.block b hlt (fun hk => hb.2 hk.symm))]
      exact hx
    · rcases h5 with h5 | h5
      · rw [h5]; exact hp.2
      · rw [h5]
        intro hk
        injection hk with hk
        omega
  refine ⟨us ++ ms, by rw [List.map_append], ?_, fun j t ad' cap' hj => ?_⟩
  · rw [cells3_app, List.length_append, List.length_map, List.length_map]
    exact hrow
  · by_cases hlt : j < us.length
    · rw [List.getElem?_append_left hlt] at hj
      exact hmv _ _ (hch j t ad' cap' hj)
    · rw [List.getElem?_append_right (by omega)] at hj
      exact hmv _ _ (hc _ t ad' cap' hj)
theorem cells3_one (us : List (F × Option Addr × Nat)) : ∀ z ∈ cells3 us, z.oneCell' = true := by
  induction us with
  | nil => intro z h; cases h
  | cons x r ih =>
    obtain ⟨t, ad, cap⟩ := x
    intro z h
    rw [cells3] at h
    simp only [List.mem_cons] at h
    rcases h with rfl | rfl | rfl | h
    · rfl
    · rfl
    · rfl
    · exact ih z h
theorem run_append_none' {P : Program} {w : World} (base : Nat) (t ty e : TypeId) (i : TypeInfo) (size : Nat) (ht : P.underlying t = some (.slice e)) (hi : P.info? e = some i)
    (v : Value) (n : Nat) (xs : List Value) (hown : w.ownsRow base e size v n xs) (cap : Nat) : (Builtin.append_ #[t, t] ty #[v, .slice none 0 cap]).run P w = .ok v w := by
  rcases hown.2 with ⟨rfl, rfl⟩ | ⟨g, cap, cur, rfl, _, _, hnc, _⟩
  · simp [Builtin.append_, run_underlying ht, sizeOf, typeInfo, hi, Builtin.lenOf, Builtin.firstCells]
  · simp [Builtin.append_, run_underlying ht, sizeOf, typeInfo, hi, Builtin.lenOf, Builtin.firstCells, hnc, storeCells]
/-- The cells of a list of trees, wherever its row lies. -/
def InsC (P : Nat → Prop) (w : World) (ad : Option Addr) (m : List F) : Prop := m = [] ∨ ∃ b off, ad = some ⟨b, off, none⟩ ∧ CellsF P w b off m
theorem InsF.c {P : Nat → Prop} {w : World} {ad : Option Addr} {m : List F} (h : InsF P w ad m) : InsC P w ad m := by
  cases m with
  | nil => exact .inl rfl
  | cons u r =>
    rw [InsF] at h
    obtain ⟨b', off', e0', _, hm1, hm2⟩ := h
    exact .inr ⟨b', off', e0', by rw [CellsF]; exact ⟨hm1, hm2⟩⟩
theorem insC_one {P : Nat → Prop} {w : World} {u : F} {ad : Option Addr} {cap g0 : Nat} {E : TypeId} (hsrc : w.heap[g0]? = some (.cells #[.int .i64 u.k, .int .i64 u.a, .slice ad u.l.length cap] E (0, 0))) (hi : InsF P w ad u.l) : InsC P w (some ⟨g0, 0, none⟩) [u] := by
  refine .inr ⟨g0, 0, rfl, ?_⟩
  rw [CellsF, CellsF]
  refine ⟨cellF_mk (ad := ad) (cap := cap) ?_ ?_ ?_ hi, trivial⟩ <;> simp [World.cell?, hsrc]
theorem wpList_appG {P : Program} {ops : Array Oper} {rest : List Oper} {o : Oper} {a : Act} {Q : Exit → Act → World → Prop} (hgd : o.guard = none) (s x : Operand) (T E : TypeId)
    (ho : o.op = .call { callee := .builtin .append, args := #[s, x], argTypes := #[T, T] }) (i : TypeInfo) (ht : P.underlying T = some (.slice E)) (hi : P.info? E = some i)
    (hz : i.zero = some (.agg #[.int .i64 0, .int .i64 0, .slice none 0 0])) (hsize : i.size = 3) (hby : i.bytes = 40) (W : World) (base : Nat) (QQ : Nat → Prop) (v : Value) (l m : List F) (ad : Option Addr) (cap : Nat)
    (hs : a.eval s = v) (hown : OwnG W base QQ E v l) (hm : InsC (fun b => QQ b ∧ v.ownBlock ≠ some b) W ad m) (hx : a.eval x = .slice ad m.length cap) (hn : l.length + m.length ≤ 100000000) (hbase : base ≤ W.heap.size)
    (h : ∀ va vc w1, OwnG w1 base QQ E (.slice va (l.length + m.length) vc) (l ++ m) → Below base W w1 → wpList P ops Q rest (a.put o.dst (.slice va (l.length + m.length) vc)) w1) :
    wpList P ops Q (o :: rest) a W := by
  have hob := fun b => ownG_block (b := b) hown
  have hown0 := hown
  obtain ⟨us, h1, h2, h3⟩ := hown
  have hlen : us.length = l.length := by rw [← h1, List.length_map]
  rw [← hlen] at h2
  have nonil : ∀ (ad0 : Addr) (us' : List (F × Option Addr × Nat)), ad = some ad0 → us'.map (·.1) = m → (∀ i x, (cells3 us')[i]? = some x → W.cell? (ad0.add i) = some x) → (∀ (j : Nat) t ad cap, us'[j]? = some (t, ad, cap) → InsF (fun b => QQ b ∧ v.ownBlock ≠ some b) W ad t.l) →
      wpList P ops Q (o :: rest) a W := fun ad0 us' e0 e1 e2 e3 => by
    subst e0
    have hlen' : us'.length = m.length := by rw [← e1, List.length_map]
    refine wpList_append_own_at _ hgd s x T ho base E i _ 3 40 ht hi hz hsize hby rfl (by decide) v us.length (cells3 us) hs h2 ad0 m.length cap (cells3 us') hx (by rw [cells3_len, hlen']) ?_ (cells3_one us') (by unfold maxLen; omega) (by omega) hbase ?_
    · intro j z hj
      exact e2 j z hj
    · intro v' w1 hrow hg hnil h5
      rw [← hlen'] at hrow
      have hof := ownG_appL h3 e3 hrow hg h5
      rw [h1, e1] at hof
      obtain ⟨va, vc, hv⟩ := ownG_val hof
      subst hv
      rw [List.length_append] at hof ⊢
      exact h va vc w1 hof ((Below.refl _ W).grown hg hbase (fun k hk => (hob k hk).1))
  cases m with
  | nil =>
    cases ad with
    | none =>
      obtain ⟨va, vc, rfl⟩ := ownG_val hown0
      refine wpList_plain hgd fun K hK => ?_
      have hrun := run_append_none' (P := P) (w := W) base T o.type E i 3 ht hi _ _ _ h2 cap
      unfold Oper.wp
      simp only [List.length_nil] at hx
      simp [execOp, ho, resolve, invoke, builtin, hs, hx, hrun, Result.andThen]
      have := h va vc W (by simpa using hown0) (Below.refl _ _)
      exact hK _ _ (by simpa using this)
    | some ad0 => exact nonil ad0 [] rfl rfl (fun i x h => by simp [cells3] at h) (fun j t ad cap h => by simp at h)
  | cons u r =>
    obtain ⟨b', off', e0', hm1⟩ := hm.resolve_left (fun h => by cases h)
    obtain ⟨us', e1, e2, e3⟩ := cellsF_us hm1
    exact nonil ⟨b', off', none⟩ us' e0' e1 (fun i x hx => by
      have := e2 i x hx
      cases i with
      | zero => simpa [Addr.add] using this
      | succ i => simpa [Addr.add] using this) e3
theorem cells3_take (us : List (F × Option Addr × Nat)) (k : Nat) : (cells3 us).take (k * 3) = cells3 (us.take k) := by
  induction us generalizing k with
  | nil => simp [cells3]
  | cons x r ih =>
    obtain ⟨t, ad, cap⟩ := x
    cases k with
    | zero => simp [cells3]
    | succ k =>
      rw [cells3, List.take_succ_cons, cells3, show (k + 1) * 3 = k * 3 + 1 + 1 + 1 by omega]
      simp only [List.take_succ_cons]
      rw [ih k]
/-- The head of such a slice. -/
theorem ownG_take {w : World} {base : Nat} {QQ : Nat → Prop} {e : TypeId} {a : Option Addr} {n c : Nat} {l : List F} (h : OwnG w base QQ e (.slice a n c) l) (k : Nat) (hk : k ≤ l.length) : OwnG w base QQ e (.slice a k c) (l.take k) := by
  obtain ⟨us, h1, h2, h3⟩ := h
  have hlen : us.length = l.length := by rw [← h1, List.length_map]
  have hkl : (l.take k).length = k := by rw [List.length_take]; omega
  refine ⟨us.take k, by rw [List.map_take, h1], ?_, fun j t ad cap hj => ?_⟩
  · rw [hkl]
    rcases h2 with ⟨hxl, ⟨hv, h0⟩ | ⟨g, cap, cur, hv, hg, hh, hn, hc, hcs, hcur⟩⟩
    · have : k = 0 := by omega
      subst this
      injection hv with e1 e2 e3
      subst e1 e2 e3
      exact World.ownsRow_nil _ _ _ _
    · injection hv with e1 e2 e3
      subst e1 e3
      refine ⟨by rw [cells3_len, List.length_take]; congr 1; omega, .inr ⟨g, c, cur, rfl, hg, hh, by omega, hc, hcs, ?_⟩⟩
      rw [← cells3_take, ← hcur, List.take_take]
      congr 1
      have : k * 3 ≤ l.length * 3 := by omega
      omega
  · have hjk : j < k := by
      have := (List.getElem?_eq_some_iff.1 hj).1
      rw [List.length_take] at this
      omega
    rw [List.getElem?_take_of_lt hjk] at hj
    have := h3 j t ad cap hj
    cases a <;> exact this
theorem insF_one {P : Nat → Prop} {w : World} {u : F} {ad : Option Addr} {cap g0 : Nat} {E : TypeId} (hsrc : w.heap[g0]? = some (.cells #[.int .i64 u.k, .int .i64 u.a, .slice ad u.l.length cap] E (0, 0))) (hp : P g0) (hi : InsF P w ad u.l) : InsF P w (some ⟨g0, 0, none⟩) [u] := by
  refine insF_mk hp fun j t hj => ?_
  cases j with
  | succ j => simp at hj
  | zero =>
    simp at hj
    subst hj
    refine cellF_mk (ad := ad) (cap := cap) ?_ ?_ ?_ hi <;> simp [World.cell?, hsrc]
end Go.Proofs.YtkbellmhanpocaaDoor
