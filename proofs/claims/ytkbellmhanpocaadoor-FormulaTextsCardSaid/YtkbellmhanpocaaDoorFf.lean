/- Appending a tree to a slice of the call's own. -/
import Derived.Test.YtkbellmhanpocaaDoorFe
import Derived.Maps.AppendAt
namespace Go.Proofs.YtkbellmhanpocaaDoor
set_option linter.unusedVariables false
set_option linter.unusedSimpArgs false
open Go.RowKit F

theorem ownF_block {w : World} {base : Nat} {e : TypeId} {v : Value} {l : List F} (h : OwnF w base e v l) {b : Nat} (hb : v.ownBlock = some b) : base ≤ b ∧ b < w.heap.size := by
  obtain ⟨us, _, h2, _⟩ := h
  rcases h2.2 with ⟨rfl, _⟩ | ⟨g, cap, cur, rfl, hg, hh, _⟩
  · cases hb
  · cases hb
    exact ⟨hg, (Array.getElem?_eq_some_iff.1 hh).1⟩
theorem ownF_avoid {w : World} {base : Nat} {e : TypeId} {v : Value} {l : List F} (h : OwnF w base e v l) {b : Nat} (hb : w.heap.size ≤ b) : v.ownBlock ≠ some b := fun hk => by
  have := ownF_block h hk
  omega
theorem ownF_val {w : World} {base : Nat} {e : TypeId} {v : Value} {l : List F} (h : OwnF w base e v l) : ∃ a cap, v = .slice a l.length cap := by
  obtain ⟨us, _, h2, _⟩ := h
  rcases h2.2 with ⟨rfl, h0⟩ | ⟨g, cap, cur, rfl, _⟩
  · exact ⟨none, 0, by rw [h0]⟩
  · exact ⟨_, _, rfl⟩
theorem map_fst_get {us : List (F × Option Addr × Nat)} {l : List F} (h : us.map (·.1) = l) {j : Nat} {t : F} (hj : l[j]? = some t) : ∃ ad cap, us[j]? = some (t, ad, cap) := by
  rw [← h, List.getElem?_map] at hj
  cases hu : us[j]? with
  | none => rw [hu] at hj; cases hj
  | some x =>
    rw [hu] at hj
    obtain ⟨t', ad, cap⟩ := x
    cases hj
    exact ⟨ad, cap, rfl⟩
/-- The slice, as the inputs of a tree. -/
theorem ownF_ins {w : World} {base : Nat} {e : TypeId} {v : Value} {l : List F} (h : OwnF w base e v l) : ∃ ad cap, v = .slice ad l.length cap ∧ InsF (fun b => base ≤ b) w ad l := by
  obtain ⟨us, h1, h2, h3⟩ := h
  have hlen : us.length = l.length := by rw [← h1, List.length_map]
  rcases h2 with ⟨hxl, ⟨rfl, h0⟩ | ⟨g, cap, cur, rfl, hg, hh, hn, hc, hcs, hcur⟩⟩
  · exact ⟨none, 0, by rw [h0], by rw [List.length_eq_zero_iff.1 h0]; exact insF_nil _ _ _⟩
  · refine ⟨_, _, rfl, insF_mk hg fun j t hj => ?_⟩
    obtain ⟨ad, cp, hu⟩ := map_fst_get h1 hj
    obtain ⟨k0, k1, k2⟩ := cells3_at us j t ad cp hu
    have hjl : j < l.length := (List.getElem?_eq_some_iff.1 hj).1
    have hcell : ∀ (i : Nat) (x : Value), i < l.length * 3 → (cells3 us)[i]? = some x → w.cell? ⟨g, i, none⟩ = some x := fun i x hi hx => by
      rw [← hcur, List.getElem?_take_of_lt hi] at hx
      simp [World.cell?, hh]
      simpa using hx
    refine cellF_mk (ad := ad) (cap := cp) ?_ ?_ ?_ ((h3 j t ad cp hu).imp fun b _ hb => hb.1)
    · rw [Nat.zero_add]; exact hcell _ _ (by omega) k0
    · rw [Nat.zero_add]; exact hcell _ _ (by omega) k1
    · rw [Nat.zero_add]; exact hcell _ _ (by omega) k2
theorem ownF_app {y w1 : World} {base : Nat} {e : TypeId} {v v' : Value} {us : List (F × Option Addr × Nat)} {u : F} {ad : Option Addr} {cap : Nat} (hus : y.ownsRow base e 3 v us.length (cells3 us)) (hch : ∀ (j : Nat) t ad cap, us[j]? = some (t, ad, cap) → InsF (fun b => base ≤ b ∧ v.ownBlock ≠ some b) y ad t.l)
    (hc : InsF (fun b => base ≤ b ∧ v.ownBlock ≠ some b) y ad u.l) (hrow : w1.ownsRow base e 3 v' (us.length + 1) (cells3 us ++ [.int .i64 u.k, .int .i64 u.a, .slice ad u.l.length cap])) (hg : y.grownBy w1 v.ownBlock) (h5 : v'.ownBlock = v.ownBlock ∨ v'.ownBlock = some y.heap.size) :
    OwnF w1 base e v' (us.map (·.1) ++ [u]) := by
  have hmv : ∀ (ad : Option Addr) (l : List F), InsF (fun b => base ≤ b ∧ v.ownBlock ≠ some b) y ad l → InsF (fun b => base ≤ b ∧ v'.ownBlock ≠ some b) w1 ad l := fun ad l h => by
    refine h.move (fun b off x hb hx => ?_) (fun b hb hp => ⟨hp.1, ?_⟩)
    · have hlt := World.block_lt_of_cell? y _ hx
      rw [World.cell?_of_block (hg.block b hlt (fun hk => hb.2 hk.symm))]
      exact hx
    · rcases h5 with h5 | h5
      · rw [h5]; exact hp.2
      · rw [h5]
        intro hk
        injection hk with hk
        omega
  refine ⟨us ++ [(u, ad, cap)], by rw [List.map_append]; rfl, ?_, fun j t ad' cap' hj => ?_⟩
  · rw [cells3_app, List.length_append, List.length_map]
    exact hrow
  · by_cases hlt : j < us.length
    · rw [List.getElem?_append_left hlt] at hj
      exact hmv _ _ (hch j t ad' cap' hj)
    · rw [List.getElem?_append_right (by omega)] at hj
      have : j - us.length = 0 := by
        rcases Nat.eq_zero_or_pos (j - us.length) with h | h
        · exact h
        · rw [List.getElem?_eq_none (by simp; omega)] at hj; cases hj
      rw [this] at hj
      simp at hj
      obtain ⟨rfl, rfl, rfl⟩ := hj
      exact hmv _ _ hc
theorem wpList_appF {P : Program} {ops : Array Oper} {rest : List Oper} {o : Oper} {a : Act} {Q : Exit → Act → World → Prop} (hgd : o.guard = none) (s x : Operand) (T E : TypeId)
    (ho : o.op = .call { callee := .builtin .append, args := #[s, x], argTypes := #[T, T] }) (i : TypeInfo) (ht : P.underlying T = some (.slice E)) (hi : P.info? E = some i)
    (hz : i.zero = some (.agg #[.int .i64 0, .int .i64 0, .slice none 0 0])) (hsize : i.size = 3) (hby : i.bytes = 40) (W : World) (base : Nat) (v : Value) (l : List F) (u : F) (ad : Option Addr) (cap g0 : Nat)
    (hs : a.eval s = v) (hown : OwnF W base E v l) (hch : InsF (fun b => base ≤ b ∧ v.ownBlock ≠ some b) W ad u.l) (hx : a.eval x = .slice (some ⟨g0, 0, none⟩) 1 1) (hsrc : W.heap[g0]? = some (.cells #[.int .i64 u.k, .int .i64 u.a, .slice ad u.l.length cap] E (0, 0))) (hn : l.length ≤ 100000000) (hbase : base ≤ W.heap.size)
    (h : ∀ g c w1, OwnF w1 base E (.slice (some ⟨g, 0, none⟩) (l.length + 1) c) (l ++ [u]) → Below base W w1 → wpList P ops Q rest (a.put o.dst (.slice (some ⟨g, 0, none⟩) (l.length + 1) c)) w1) :
    wpList P ops Q (o :: rest) a W := by
  have hob := fun b => ownF_block (b := b) hown
  obtain ⟨us, h1, h2, h3⟩ := hown
  have hlen : us.length = l.length := by rw [← h1, List.length_map]
  rw [← hlen] at h2
  refine wpList_append_own_at _ hgd s x T ho base E i _ 3 40 ht hi hz hsize hby rfl (by decide) v us.length (cells3 us) hs h2 ⟨g0, 0, none⟩ 1 1 [.int .i64 u.k, .int .i64 u.a, .slice ad u.l.length cap] hx rfl ?_ ?_ (by unfold maxLen; omega) (by omega) hbase ?_
  · intro j z hj
    match j, hj with
    | 0, hj => simp at hj; subst hj; simp [Addr.add, World.cell?, hsrc]
    | 1, hj => simp at hj; subst hj; simp [Addr.add, World.cell?, hsrc]
    | 2, hj => simp at hj; subst hj; simp [Addr.add, World.cell?, hsrc]
  · intro z hz
    simp at hz
    rcases hz with rfl | rfl | rfl <;> rfl
  · intro v' w1 hrow hg hnil h5
    have hof := ownF_app h2 h3 hch hrow hg h5
    rw [h1] at hof
    obtain ⟨g, c, rfl⟩ : ∃ g c, v' = .slice (some ⟨g, 0, none⟩) (l.length + 1) c := by
      rcases hrow.2 with ⟨_, h0⟩ | ⟨g, cp, cur, hv, _⟩
      · omega
      · exact ⟨g, cp, by rw [hv, hlen]⟩
    refine h g c w1 hof ?_
    exact (Below.refl _ W).grown hg hbase (fun k hk => (hob k hk).1)
end Go.Proofs.YtkbellmhanpocaaDoor
