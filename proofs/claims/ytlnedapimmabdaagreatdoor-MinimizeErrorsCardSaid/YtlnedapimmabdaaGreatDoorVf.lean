/- Rows of diagrams; what is asked of diagrams. -/
import Derived.Test.YtlnedapimmabdaaGreatDoorVe
namespace Go.Proofs.YtlnedapimmabdaaGreatDoor
set_option linter.unusedVariables false
set_option linter.unusedSimpArgs false
open Go.RowKit Go.Maps
attribute [local go_sem low] Bel.cell Bel.frozen alloc_cell alloc_frozen

abbrev Fn3 := (Nat → Bool) → Bool
abbrev Dg3 := List (Nat × Nat × Nat) × Nat
def RetF (R : Fn3 → Dg3 → Prop) (f : Fn3) (w : World) (e : Ending) (w' : World) : Prop := ∃ d : Dg3, R f d ∧ RetDg d.1 d.2 w e w'
structure DgNet (R : Fn3 → Dg3 → Prop) (G : List Gt) (on : Nat → Bool) : Prop where
  len : ∀ f d, R f d → d.1.length ≤ 1000000
  con : ∀ b, R (fun _ => b) ([], if b then 1 else 0)
  lit : ∀ i g, G[i]? = some g → on i = true → g.1 = 1 → ∀ w, Calls Tryz.prog 63 #[.int .i64 (g.2.1 : Int), .bool true] w (RetF R (fun ρ => vl ρ G i) w)
  neg : ∀ i g k, G[i]? = some g → on i = true → g.1 = 2 → g.2.2 = [k] → ∀ (d : Dg3) (ad : Option Addr) (cap : Nat) (w : World), R (fun ρ => vl ρ G k) d → InD w.heap.size w ad (d.1.map z3) → Calls Tryz.prog 43 #[dnV (ad, cap, d)] w (RetF R (fun ρ => vl ρ G i) w)
  conj : ∀ i g, G[i]? = some g → on i = true → g.1 = 3 → ∀ (j k : Nat), g.2.2[j]? = some k → ∀ (d d' : Dg3) (ad ad' : Option Addr) (cap cap' : Nat) (w : World), R (fun ρ => (g.2.2.take j).all (vl ρ G)) d → R (fun ρ => vl ρ G k) d' → InD w.heap.size w ad (d.1.map z3) → InD w.heap.size w ad' (d'.1.map z3) → Calls Tryz.prog 64 #[dnV (ad, cap, d), dnV (ad', cap', d')] w (RetF R (fun ρ => (g.2.2.take (j + 1)).all (vl ρ G)) w)
  disj : ∀ i g, G[i]? = some g → on i = true → g.1 = 4 → ∀ (j k : Nat), g.2.2[j]? = some k → ∀ (d d' : Dg3) (ad ad' : Option Addr) (cap cap' : Nat) (w : World), R (fun ρ => (g.2.2.take j).any (vl ρ G)) d → R (fun ρ => vl ρ G k) d' → InD w.heap.size w ad (d.1.map z3) → InD w.heap.size w ad' (d'.1.map z3) → Calls Tryz.prog 65 #[dnV (ad, cap, d), dnV (ad', cap', d')] w (RetF R (fun ρ => (g.2.2.take (j + 1)).any (vl ρ G)) w)
def cellsDg : List DN → List Value
  | [] => []
  | x :: r => .slice x.1 x.2.2.1.length x.2.1 :: .int .i64 (x.2.2.2 : Int) :: cellsDg r
theorem cellsDg_at : ∀ (l : List DN) (j : Nat) (x : DN), l[j]? = some x → (cellsDg l)[j * 2]? = some (.slice x.1 x.2.2.1.length x.2.1) ∧ (cellsDg l)[j * 2 + 1]? = some (.int .i64 (x.2.2.2 : Int))
  | [], j, x, h => by simp at h
  | y :: r, 0, x, h => by
    simp at h
    subst h
    exact ⟨rfl, rfl⟩
  | y :: r, j + 1, x, h => by
    have := cellsDg_at r j x (by simpa using h)
    rw [cellsDg, show (j + 1) * 2 = j * 2 + 1 + 1 by omega]
    simp only [List.getElem?_cons_succ]
    exact this
theorem cellsDg_set : ∀ (l : List DN) (j : Nat) (x : DN), ((cellsDg l).set (j * 2) (.slice x.1 x.2.2.1.length x.2.1)).set (j * 2 + 1) (.int .i64 (x.2.2.2 : Int)) = cellsDg (l.set j x)
  | [], j, x => by simp [cellsDg]
  | y :: r, 0, x => by simp [cellsDg]
  | y :: r, j + 1, x => by
    rw [cellsDg, show (j + 1) * 2 = j * 2 + 1 + 1 by omega, List.set_cons_succ, List.set_cons_succ, List.set_cons_succ, List.set_cons_succ, cellsDg_set r j x, List.set_cons_succ, cellsDg]
structure DsS (W : World) (lo T n : Nat) (ds : List DN) : Prop where
  row : W.ownsRow lo 63 2 (.slice (some ⟨T, 0, none⟩) n n) n (cellsDg ds)
  len : ds.length = n
  ind : ∀ x ∈ ds, InD W.heap.size W x.1 (x.2.2.1.map z3) ∧ ∀ g off k, x.1 = some ⟨g, off, k⟩ → T < g
theorem DsS.lt {W : World} {lo T n : Nat} {ds : List DN} (h : DsS W lo T n ds) : lo ≤ T ∧ T < W.heap.size := World.ownsRow.lt h.row T rfl
theorem DsS.at {W : World} {lo T n : Nat} {ds : List DN} (h : DsS W lo T n ds) {j : Nat} {x : DN} (hj : ds[j]? = some x) : W.cell? ⟨T, j * 2, none⟩ = some (.slice x.1 x.2.2.1.length x.2.1) ∧ W.cell? ⟨T, j * 2 + 1, none⟩ = some (.int .i64 (x.2.2.2 : Int)) ∧ W.frozen? ⟨T, j * 2, none⟩ = false ∧ W.frozen? ⟨T, j * 2 + 1, none⟩ = false := by
  obtain ⟨h1, h2⟩ := cellsDg_at ds j x hj
  have hjl := (List.getElem?_eq_some_iff.1 hj).1
  have hl := h.len
  rcases h.row with ⟨hxl, ⟨e1, e2⟩ | ⟨g', cap', cur, e1, hg, hh, hn, hc, hcs, hcur⟩⟩
  · cases e1
  · injection e1 with e1 _ _
    injection e1 with e1
    injection e1 with e1 _ _
    subst e1
    rw [← hcur, List.getElem?_take_of_lt (by omega)] at h1 h2
    refine ⟨?_, ?_, ?_, ?_⟩
    · simp [World.cell?, hh]
      simpa using h1
    · simp [World.cell?, hh]
      simpa using h2
    · simp [World.frozen?, hh]
    · simp [World.frozen?, hh]
theorem DsS.of {W W' : World} {lo T n : Nat} {ds : List DN} (h : DsS W lo T n ds) (hb : Below W.heap.size W W') : DsS W' lo T n ds :=
  ⟨ownsRow_heap h.row fun g hg => hb.block g (World.ownsRow.lt h.row g hg).2, h.len, fun x hx => ⟨((h.ind x hx).1.of hb).up hb.size, (h.ind x hx).2⟩⟩
theorem inD_keep {W W' : World} {ad : Option Addr} {L : List (Int × Int × Int)} {B : Nat} (h : InD W.heap.size W ad L) (hs : W.heap.size ≤ W'.heap.size) (hk : ∀ b, b < W.heap.size → b ≠ B → W'.heap[b]? = W.heap[b]?) (hne : ∀ g off k, ad = some ⟨g, off, k⟩ → g ≠ B) : InD W'.heap.size W' ad L := fun h0 => by
  obtain ⟨g, off, e, hg, hcs⟩ := h h0
  refine ⟨g, off, e, by omega, fun j x hj => ?_⟩
  have hb : W'.heap[g]? = W.heap[g]? := hk g hg (hne g off none e)
  obtain ⟨h1, h2, h3⟩ := hcs j x hj
  exact ⟨(World.cell?_of_block (a := ⟨g, _, none⟩) hb).trans h1, (World.cell?_of_block (a := ⟨g, _, none⟩) hb).trans h2, (World.cell?_of_block (a := ⟨g, _, none⟩) hb).trans h3⟩
theorem DsS.set {W : World} {lo T n : Nat} {ds : List DN} (h : DsS W lo T n ds) (i : Nat) (x : DN) (hx : InD W.heap.size W x.1 (x.2.2.1.map z3)) (hxT : ∀ g off k, x.1 = some ⟨g, off, k⟩ → T < g) :
    DsS ((W.setCell ⟨T, i * 2, none⟩ (.slice x.1 x.2.2.1.length x.2.1)).setCell ⟨T, i * 2 + 1, none⟩ (.int .i64 (x.2.2.2 : Int))) lo T n (ds.set i x) := by
  have h1 := (World.ownsRow.stored h.row (i * 2) (.slice x.1 x.2.2.1.length x.2.1)).1
  have h2 := (World.ownsRow.stored h1 (i * 2 + 1) (.int .i64 (x.2.2.2 : Int))).1
  rw [cellsDg_set] at h2
  refine ⟨h2, by rw [List.length_set]; exact h.len, fun y hy => ?_⟩
  have hk : ∀ b, b < W.heap.size → b ≠ T → ((W.setCell ⟨T, i * 2, none⟩ (.slice x.1 x.2.2.1.length x.2.1)).setCell ⟨T, i * 2 + 1, none⟩ (.int .i64 (x.2.2.2 : Int))).heap[b]? = W.heap[b]? := fun b _ hb => (set_heap_ne _ hb).trans (set_heap_ne _ hb)
  rcases List.mem_or_eq_of_mem_set hy with hy | rfl
  · obtain ⟨k1, k2⟩ := h.ind y hy
    exact ⟨inD_keep k1 (by simp) hk (fun g off k e => by have := k2 g off k e; omega), k2⟩
  · exact ⟨inD_keep hx (by simp) hk (fun g off k e => by have := hxT g off k e; omega), hxT⟩
end Go.Proofs.YtlnedapimmabdaaGreatDoor
