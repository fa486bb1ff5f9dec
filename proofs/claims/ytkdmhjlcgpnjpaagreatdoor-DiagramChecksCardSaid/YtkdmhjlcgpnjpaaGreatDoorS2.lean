/- The variables of formulas: sorting and compacting what was collected. The variables of a formula, or of two. -/
import Derived.Sort.OwnSortedInts
import Derived.Test.YtkdmhjlcgpnjpaaGreatDoorG8
import Derived.Test.YtkdmhjlcgpnjpaaGreatDoorFt
import Derived.Test.YtkdmhjlcgpnjpaaGreatDoorShelf
namespace Go.Proofs.YtkdmhjlcgpnjpaaGreatDoor
set_option linter.unusedVariables false
set_option linter.unusedSimpArgs false
open Go.RowKit F
attribute [local go_sem low] Bel.cell Bel.frozen alloc_cell alloc_frozen

def intsV (l : List Int) : List Value := l.map (Value.int .i64)
theorem ownV_cut {w : World} {base : Nat} {e : TypeId} {a : Option Addr} {n c : Nat} {l : List Value} (h : OwnV w base e (.slice a n c) l) (k : Nat) (hk : k ≤ l.length) : OwnV w base e (.slice a k c) (l.take k) := by
  have hkl : (l.take k).length = k := by rw [List.length_take]; omega
  unfold OwnV at h ⊢
  rw [hkl]
  obtain ⟨hxl, ⟨hv, h0⟩ | ⟨g, cap, cur, hv, hg, hh, hn, hc, hcs, hcur⟩⟩ := h
  · have : k = 0 := by omega
    subst this
    injection hv with e1 e2 e3
    subst e1 e2 e3
    exact World.ownsRow_nil _ _ _ _
  · injection hv with e1 e2 e3
    subst e1 e3
    refine ⟨by rw [hkl]; omega, .inr ⟨g, c, cur, rfl, hg, hh, by omega, hc, hcs, ?_⟩⟩
    rw [← hcur, List.take_take]
    congr 1
    omega
theorem sort_own (w : World) (base : Nat) (v : Value) (zs : List Int) (h : OwnV w base 3 v (intsV zs)) (hl : zs.length ≤ 100000000) :
    Calls Tryz.prog 102 #[v] w fun e w' => e = .returned (.tuple #[]) ∧ OwnV w' base 3 v (intsV (zs.mergeSort fun x y => decide (x ≤ y))) ∧ w.grownBy w' v.ownBlock := by
  have hz : (intsV zs).length = zs.length := by simp [intsV]
  by_cases h0 : zs = []
  · subst h0
    have h' := h
    obtain ⟨_, hh⟩ := h
    have hv : ∃ p c, v = .slice p 0 c := by
      rcases hh with ⟨rfl, _⟩ | ⟨g, cap, cur, hv, _⟩
      · exact ⟨_, _, rfl⟩
      · exact ⟨_, _, hv⟩
    obtain ⟨p, c, rfl⟩ := hv
    refine (Tryz.slices_Sort_int_none p c w).mono ?_
    rintro _ _ ⟨rfl, rfl⟩
    refine ⟨rfl, by simpa using h', ⟨rfl, rfl, rfl, Nat.le_refl _, fun _ _ _ => rfl⟩⟩
  · obtain ⟨_, ⟨_, hn⟩ | ⟨g, cap, cur, rfl, hg, hh, hn, hc, hcs, hcur⟩⟩ := h
    · rw [hz] at hn; exact absurd (List.length_eq_zero_iff.1 hn) h0
    · rw [hz] at hn hcur ⊢
      have hH := holds_of_blockI (ss := zs) hh (by simpa [intsV] using hcur)
      refine (Tryz.slices_Sort_int g 0 cap zs w hH (Array.getElem?_eq_some_iff.1 hh).1 (by omega)).mono ?_
      rintro _ _ ⟨rfl, n, os, rfl⟩
      have hlen : (zs.mergeSort fun x y => decide (x ≤ y)).length = zs.length := List.length_mergeSort _
      refine ⟨rfl, ?_, grownBy_sortedI _⟩
      have := ownsRow_sortedI (w := w) (n := n) (os := os) (e := 3) hlen hg hh hn hc hcs
      unfold OwnV intsV
      rw [List.length_map, hlen]
      exact this
theorem compact_own (w : World) (base : Nat) (v : Value) (zs : List Int) (h : OwnV w base 3 v (intsV zs)) (hl : zs.length ≤ 100000000) :
    Calls Tryz.prog 103 #[v] w fun e w' => ∃ v', e = .returned v' ∧ OwnV w' base 3 v' (intsV (Lib.compact zs)) ∧ w.grownBy w' v.ownBlock ∧ v'.ownBlock = v.ownBlock := by
  have hz : (intsV zs).length = zs.length := by simp [intsV]
  by_cases h0 : zs = []
  · subst h0
    have h' := h
    obtain ⟨_, hh⟩ := h
    have hv : ∃ p c, v = .slice p 0 c := by
      rcases hh with ⟨rfl, _⟩ | ⟨g, cap, cur, hv, _⟩
      · exact ⟨_, _, rfl⟩
      · exact ⟨_, _, hv⟩
    obtain ⟨p, c, rfl⟩ := hv
    refine (Tryz.slices_Compact_int_empty p c w).mono ?_
    rintro _ _ ⟨rfl, rfl⟩
    exact ⟨_, rfl, by simpa [Lib.compact, Lib.compactUpTo] using h', ⟨rfl, rfl, rfl, Nat.le_refl _, fun _ _ _ => rfl⟩, rfl⟩
  · obtain ⟨_, ⟨_, hn⟩ | ⟨g, cap, cur, rfl, hg, hh, hn, hc, hcs, hcur⟩⟩ := h
    · rw [hz] at hn; exact absurd (List.length_eq_zero_iff.1 hn) h0
    · rw [hz] at hn hcur ⊢
      have hH := holds_of_blockI (ss := zs) hh (by simpa [intsV] using hcur)
      refine (Tryz.slices_Compact_int g 0 cap zs w hH (by omega) hn).mono ?_
      rintro _ _ ⟨rfl, n, rfl⟩
      have hcl : (Lib.compact zs).length ≤ zs.length := by
        unfold Lib.compact Lib.compactUpTo
        rw [List.length_map]
        exact Nat.le_trans (List.length_filter_le _ _) (by simp)
      have hlen : (Lib.compact zs ++ List.replicate (zs.length - (Lib.compact zs).length) 0).length = zs.length := by simp; omega
      have h1 := ownsRow_sortedI (w := w) (n := n) (os := #[]) (e := 3) hlen hg hh hn hc hcs
      have h2 := grownBy_sortedI (w := w) (g := g) (n := n) (os := #[]) (Lib.compact zs ++ List.replicate (zs.length - (Lib.compact zs).length) 0).toArray
      rw [Sort.grow_empty] at h1 h2
      refine ⟨_, rfl, ?_, h2, rfl⟩
      have h3 : OwnV (Sort.putRow (Value.int .i64) (Sort.ahead w n) g 0 (Lib.compact zs ++ List.replicate (zs.length - (Lib.compact zs).length) 0).toArray) base 3 (.slice (some ⟨g, 0, none⟩) zs.length cap) (intsV (Lib.compact zs ++ List.replicate (zs.length - (Lib.compact zs).length) 0)) := by
        unfold OwnV intsV
        rw [List.length_map, hlen]
        exact h1
      have h4 := ownV_cut h3 (Lib.compact zs).length (by unfold intsV; rw [List.length_map, hlen]; exact hcl)
      have e : (intsV (Lib.compact zs ++ List.replicate (zs.length - (Lib.compact zs).length) 0)).take (Lib.compact zs).length = intsV (Lib.compact zs) := by
        unfold intsV
        rw [← List.map_take, List.take_left]
      rw [e] at h4
      exact h4
end Go.Proofs.YtkdmhjlcgpnjpaaGreatDoor

namespace Go.Proofs.YtkdmhjlcgpnjpaaGreatDoor
set_option linter.unusedVariables false
set_option linter.unusedSimpArgs false
open Go.RowKit F
attribute [local go_sem low] Bel.cell Bel.frozen alloc_cell alloc_frozen
attribute [local go_sem] Oper.semAt_some

theorem Tryz.infoFi : (Tryz.prog.info? 3).map (fun i => (i.zero, i.size, i.bytes)) = some (some (.int .i64 0), 1, 8) := by kernel_rfl
/-- What support returns. -/
def SupRet (xs : List Int) (w : World) (e : Ending) (w' : World) : Prop := ∃ v, e = .returned v ∧ ∃ y : Bel w, w' = y.w ∧ OwnV y.w w.heap.size 3 v (intsV xs)
theorem ownsRow_ne {W : World} {base : Nat} {e : TypeId} {size : Nat} {v : Value} {k : Nat} {xs : List Value} (h : W.ownsRow base e size v k xs) {j : Nat} {o : Obj} (hj : W.heap[j]? = some o) (hno : ∀ cur, o ≠ .cells cur e (0, 0)) : v.ownBlock ≠ some j := by
  rcases h.2 with ⟨rfl, _⟩ | ⟨g, cap, cur, rfl, _, hgb, _⟩
  · intro h; cases h
  · intro e'
    have : g = j := by simpa [Value.ownBlock] using e'
    subst this; rw [hgb] at hj; cases hj; exact hno cur rfl
/-- What has been collected: the box at b shows it. -/
def ColSt (w : World) (b : Nat) (xs : List Int) (W : World) : Prop := ∃ v, W.heap[b]? = some (.cells #[v] 71 (0, 0)) ∧ OwnV W (b + 1) 3 v (intsV xs) ∧ Below b w W
theorem ColSt.lt {w W : World} {b : Nat} {xs : List Int} (h : ColSt w b xs W) : b < W.heap.size := by
  obtain ⟨v, h1, _⟩ := h
  exact (Array.getElem?_eq_some_iff.1 h1).1
theorem ColSt.own {w : World} {b B : Nat} {xs : List Nd → List Int} (hb : b ≤ B) : OwnFrom B (fun (p : List Nd) W => ColSt w b (xs p) W) := fun s W W' row hs hg hr => by
  have hlt := hs.lt
  obtain ⟨v, h1, h2, h3⟩ := hs
  refine ⟨v, obj_own _ _ _ rfl () W W' row h1 hg hr, World.ownsRow.kept h2 hg ?_, h3.grown hg (by omega) (fun k hk => by have := (hr k hk).1; omega)⟩
  cases row with
  | none => cases hv : v.ownBlock <;> simp
  | some k =>
    obtain ⟨_, o, ho, hc⟩ := hr k rfl
    exact .inr (ownsRow_ne h2 ho (fun cur e => by rw [e] at hc; cases hc))
theorem own_cells {W : World} {base : Nat} {e : TypeId} {v : Value} {l : List Value} (h : OwnV W base e v l) : ∀ k, v.ownBlock = some k → base ≤ k ∧ ∃ cur, W.heap[k]? = some (.cells cur e (0, 0)) := fun k hk => by
  rcases h.2 with ⟨rfl, _⟩ | ⟨g, cap, cur, rfl, hg, hgb, _⟩
  · cases hk
  · cases hk
    exact ⟨hg, cur, hgb⟩
theorem varsP_snoc (l : List F) (t : F) : varsP (l ++ [t]) = varsP l ++ (if t.k = 1 then [t.a] else []) := by
  rw [varsP_app, varsP, varsP]
end Go.Proofs.YtkdmhjlcgpnjpaaGreatDoor
