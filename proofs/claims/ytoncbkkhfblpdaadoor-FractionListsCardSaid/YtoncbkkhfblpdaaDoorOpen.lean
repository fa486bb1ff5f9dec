/- Arguments opened: a slice of structs of two integers. -/
import Derived.Test.YtoncbkkhfblpdaaDoorWrap
import Derived.Deep.Slices
import Derived.Deep.Fields
import Derived.ChangeSame
namespace Go.Proofs.YtoncbkkhfblpdaaDoor
open Go.ChangeShapes Go.WideShapes Go.Deep Go.RowKit

theorem list_of_all {α : Type} {p : Nat → α → Prop} : ∀ n : Nat, (∀ i, i < n → ∃ a, p i a) → ∃ l : List α, l.length = n ∧ ∀ i a, l[i]? = some a → p i a
  | 0, _ => ⟨[], rfl, by simp⟩
  | n + 1, h => by
    obtain ⟨l, hl, hp⟩ := list_of_all n (fun i hi => h i (by omega))
    obtain ⟨a, ha⟩ := h n (by omega)
    refine ⟨l ++ [a], by simp [hl], fun i b hb => ?_⟩
    by_cases hi : i < n
    · rw [List.getElem?_append_left (by omega)] at hb
      exact hp i b hb
    · have hlt := (List.getElem?_eq_some_iff.1 hb).1
      simp [hl] at hlt
      obtain rfl : i = n := by omega
      rw [List.getElem?_append_right (by omega), hl, Nat.sub_self] at hb
      simp at hb
      subst hb
      exact ha

section
variable {H : Type} {enc : TypeId × Value → H} {P : Program} {w : World} {base : Nat} {spare : Nat → Bool} {held : Bool}
theorem open_pairs {t e t0 t1 : TypeId} {f0 f1 : Field} {k0 k1 : IntKind} {fuel : Nat} {cs : List Value} {x : DataW H × List MemPlace} (ht : P.underlying t = some (.slice e)) (he : P.underlying e = some (.struct #[f0, f1])) (e0 : f0.type = t0) (e1 : f1.type = t1)
    (h0 : P.underlying t0 = some (.int k0)) (h1 : P.underlying t1 = some (.int k1)) (hone : oneCellFields P #[f0, f1] = true) (hC : P.cellsOf e = 2) (h : DataW.trod enc P w base spare held fuel t cs = some x) :
    cs = [.slice none 0 0] ∨
    ∃ (a : Addr) (cap : Nat) (l : List (Int × Int)), cs = [.slice (some a) l.length cap] ∧ l.length ≤ maxLen ∧
      (∀ i p, l[i]? = some p → (w.cell? (a.add (i * 2)) = some (.int k0 p.1) ∧ w.cell? (a.add (i * 2 + 1)) = some (.int k1 p.2)) ∧ (Lit.int k0 p.1).wf = true ∧ (Lit.int k1 p.2).wf = true) := by
  rcases open_slice ht h with h0' | ⟨a, len, cap, m, n, D, Pl, hcs, hb, hl, hm, hmm, hx, hi⟩
  · exact .inl h0'.1
  · have hlm : len ≤ m := by rw [hmm]; split <;> omega
    obtain ⟨l, hll, hlp⟩ := list_of_all (p := fun (i : Nat) (p : Int × Int) => (w.cell? (a.add (i * 2)) = some (.int k0 p.1) ∧ w.cell? (a.add (i * 2 + 1)) = some (.int k1 p.2)) ∧ (Lit.int k0 p.1).wf = true ∧ (Lit.int k1 p.2).wf = true) len (fun i hil => by
      obtain ⟨cs', hc, ht'⟩ := hi i (by omega)
      rw [hC] at hc
      obtain ⟨ys, n', hn', hy, hlen, hyl, hf⟩ := DataW.trod_struct he ht'
      obtain ⟨_, hcl, hat⟩ := World.cells?_some hc
      match cs', hcl with
      | [u0, u1], _ =>
        obtain ⟨o0, q0⟩ := hone_of hone 0 f0 rfl
        obtain ⟨o1, q1⟩ := hone_of hone 1 f1 rfl
        have g0 := hf 0 f0 rfl
        have g1 := hf 1 f1 rfl
        rw [o0, q0, e0] at g0
        rw [o1, q1, e1] at g1
        match ys, hyl with
        | [y0, y1], _ =>
          have g0' : DataW.trod enc P w base spare held n' t0 [u0] = some y0 := by simpa using g0
          have g1' : DataW.trod enc P w base spare held n' t1 [u1] = some y1 := by simpa using g1
          obtain ⟨x0, hx0, _, w0⟩ := DataW.trod_int h0 g0'
          obtain ⟨x1, hx1, _, w1⟩ := DataW.trod_int h1 g1'
          simp at hx0 hx1
          subst hx0 hx1
          have d0 := hat (i := 0) (by decide)
          have d1 := hat (i := 1) (by decide)
          rw [Go.Deep.add_add] at d0 d1
          exact ⟨(x0, x1), ⟨by simpa using d0, by simpa using d1⟩, w0, w1⟩)
    subst hll
    exact .inr ⟨a, cap, l, hcs, by omega, hlp⟩
/-- Where there is an element, the address is a plain one. -/
theorem plain_addr {a : Addr} {v : Value} (h : w.cell? (a.add 0) = some v) : ∃ b off, a = ⟨b, off, none⟩ := by
  obtain ⟨b, off, spot⟩ := a
  have hspot : spot = none := by simpa [Addr.add] using World.cell?_spot h
  subst hspot
  exact ⟨b, off, rfl⟩
theorem add_at (b off n : Nat) : (⟨b, off, none⟩ : Addr).add n = ⟨b, off + n, none⟩ := (Go.WideShapes.add_plain ..)
end
end Go.Proofs.YtoncbkkhfblpdaaDoor
