/- Networks that a function has written down. Which networks the laws speak about. -/
import Derived.Test.YtlnedapimmabdaaGreatDoorV5
namespace Go.Proofs.YtlnedapimmabdaaGreatDoor
set_option linter.unusedVariables false
set_option linter.unusedSimpArgs false
open Go.RowKit Go.Maps
attribute [local go_sem low] Bel.cell Bel.frozen alloc_cell alloc_frozen

theorem inS_mem {W : World} {b : Nat} (l : List Int) (h : W.heap[b]? = some (.cells (intsV l).toArray 3 (0, 0))) : InS (fun b => b < W.heap.size) W (some ⟨b, 0, none⟩) l := fun h0 => by
  refine ⟨b, 0, rfl, (Array.getElem?_eq_some_iff.1 h).1, fun j x hj => ?_⟩
  simp [World.cell?, h, intsV, hj]
theorem inS_none {P : Nat → Prop} {W : World} {a : Option Addr} : InS P W a [] := inS_nil _ _ _
theorem nws_mem {v : Nat} {W : World} {G : List Gt} {O : List Nat} {gb ob gc oc : Nat} (us : List UG) (hus : us.map (·.1) = G.map gz) (hg : W.heap[gb]? = some (.cells (cellsZ us).toArray 45 (0, 0))) (ho : W.heap[ob]? = some (.cells (intsV (intsN O)).toArray 3 (0, 0))) (hch : ∀ u ∈ us, InS (fun b => b < W.heap.size) W u.2.1 u.1.2.2) (hok : okN v (G, O)) (l1 : G.length ≤ 50000) (l2 : O.length ≤ 1000000) (l3 : ∀ g ∈ G, g.2.2.length ≤ 1000000) (h1 : O.length ≤ oc) (h2 : oc ≤ 9223372036854775807) :
    NWs v W ((G, O), some ⟨gb, 0, none⟩, gc, some ⟨ob, 0, none⟩, oc) := by
  refine ⟨⟨hok, fun _ => ⟨gb, 0, rfl, (Array.getElem?_eq_some_iff.1 hg).1, fun j x hj => ?_⟩, inS_mem _ ho, by show G.length ≤ _; omega, by show O.length ≤ _; omega, h1, h2, fun g h => by have := l3 g h; omega⟩, l1, l2, l3⟩
  obtain ⟨ad, cap, hu⟩ := mapZ_get hus hj
  obtain ⟨k0, k1, k2⟩ := cellsZ_at us j _ hu
  refine ⟨?_, ?_, ad, cap, ?_, hch _ (List.mem_of_getElem? hu)⟩
  · simpa [World.cell?, hg] using k0
  · simpa [World.cell?, hg] using k1
  · simpa [World.cell?, hg] using k2
theorem okN_err {v : Nat} {N : Nt} (h : nErr (N.1.map gz) (intsN N.2) (v : Int) = 0) : okN v N := by
  obtain ⟨M, h1, h2, h3, _, _⟩ := nErr_ok h
  rw [Int.toNat_natCast] at h3
  rw [net_eq.1 ⟨h1, h2⟩]
  exact h3
theorem wt6_val {v : Nat} {G H : List Gt} (hG : okL 6 G) (hH : okL 6 H) {i j : Nat} (hi : i < G.length) (hj : j < H.length) {l : List Bool} (h : Wt6 v (fun ρ => vl ρ G i) (fun ρ => vl ρ H j) l) : l = wantL (tabI G i ^^^ tabI H j) 0 (min v 6) ++ List.replicate (v - 6) false := by
  obtain ⟨X, hX, h0, hf, rfl⟩ := h
  have : X = tabI G i ^^^ tabI H j := table_eq hX (Nat.xor_lt_two_pow (tabI_lt G i) (tabI_lt H j)) fun u hu => by
    have := congrFun hf fun x => u.testBit x
    rw [idx6_row u hu] at this
    rw [this, Nat.testBit_xor]
    show (vl (fun x => u.testBit x) G i != vl (fun x => u.testBit x) H j) = _
    rw [vl_tab hG _ hi, vl_tab hH _ hj, idx6_row u hu]
  rw [this]
def kG1 : Nt := ([(1, 0, []), (1, 1, []), (1, 0, []), (3, 0, [0, 1]), (3, 0, [1, 2]), (4, 0, [3, 4])], [5])
def kG2 : Nt := ([(1, 0, []), (1, 1, []), (3, 0, [0, 1]), (4, 0, [0, 2])], [3])
def kG3 : Nt := ([(1, 1, [])], [0])
def kG4 : Nt := ([(1, 0, []), (1, 1, []), (3, 0, [0, 1])], [2])
theorem kG1_ok : okN 2 kG1 := okN_err (by decide +kernel)
theorem kG2_ok : okN 2 kG2 := okN_err (by decide +kernel)
theorem kG3_ok : okN 2 kG3 := okN_err (by decide +kernel)
theorem kG4_ok : okN 2 kG4 := okN_err (by decide +kernel)
theorem kC1 : cleanG kG1 = kG4 := by decide +kernel
theorem kC2 : cleanG kG2 = kG2 := by decide +kernel
theorem kR2 : (reduceG tabsG kG2).1.length = 1 := by decide +kernel
theorem kT : tabI kG2.1 3 ≠ tabI kG3.1 0 := by decide +kernel
theorem kW : wantL (tabI kG2.1 3 ^^^ tabI kG3.1 0) 0 2 = [false, true] := by decide +kernel
theorem ownB_two2 {w : World} {base g cap : Nat} {a b : Bool} (h : OwnB w base g cap [a, b]) : ∃ cur, w.heap[g]? = some (.cells cur 4 (0, 0)) ∧ cur[0]? = some (.bool a) ∧ cur[1]? = some (.bool b) := by
  obtain ⟨hxl, ⟨e1, e2⟩ | ⟨g', cap', cur, e1, hg, hh, hn, hc, hcs, hcur⟩⟩ := h
  · cases e1
  · injection e1 with e1 _ _
    injection e1 with e1
    injection e1 with e1 _ _
    subst e1
    have h0 : (boolsD [a, b])[0]? = some (.bool a) := rfl
    have h1 : (boolsD [a, b])[1]? = some (.bool b) := rfl
    rw [← hcur, List.getElem?_take_of_lt (by simp)] at h0 h1
    exact ⟨cur, hh, by simpa using h0, by simpa using h1⟩
theorem obj_drew {w : World} {b : Nat} {o : Obj} (h : w.heap[b]? = some o) : w.drew.heap[b]? = some o := h
theorem obSet2 {W : World} {b : Nat} {x y : Value} {t : TypeId} (x' y' : Value) (h : W.heap[b]? = some (.cells #[x, y] t (0, 0))) :
    ((W.setCell ⟨b, 0, none⟩ x').setCell ⟨b, 1, none⟩ y').heap[b]? = some (.cells #[x', y'] t (0, 0)) := obj_setD y' (obj_setD x' h)
theorem known_cmp {W : World} {x y : NW} (hx : NWs 2 W x) (hy : NWs 2 W y) (ex : x.1 = kG2) (ey : y.1 = kG3) : Calls Tryz.prog 19 #[nwV x, nwV y, .int .i64 2] W fun e W5 => ∃ g cap cur, e = .returned (.tuple #[.agg #[.int .i64 0, .slice (some ⟨g, 0, none⟩) 2 cap], .bool true, .int .i64 0]) ∧ (W5.heap[g]? = some (.cells cur 4 (0, 0)) ∧ cur[0]? = some (.bool false) ∧ cur[1]? = some (.bool true)) ∧ W.heap.size ≤ g ∧ Below W.heap.size W W5 := by
  refine (Compare_nw (v := 2) (by decide) x y W hx hy (by rw [ex, ey]; rfl)).mono ?_
  rw [ex, ey]
  have h2 : okL 6 kG2.1 := okL_mono kG2_ok.1 (by decide)
  have h3 : okL 6 kG3.1 := okL_mono kG3_ok.1 (by decide)
  rintro e W5 (⟨hfg, _⟩ | ⟨k, f, g, l, b, cap, hf, hg, _, _, hW, rfl, ho, hb⟩)
  · exfalso
    have hf : (fun ρ => vl ρ kG2.1 3) = fun ρ => vl ρ kG3.1 0 := by
      have := congrArg (fun l : List Fn3 => l.getD 0 fun _ => false) hfg
      exact this
    exact kT ((tabI_eq h2 h3 (by decide) (by decide)).2 fun ρ => congrFun hf ρ)
  · match k, hf, hg with
    | 0, hf, hg =>
      injection hf with hf
      injection hg with hg
      subst hf hg
      have hl := wt6_val (v := 2) h2 h3 (i := 3) (j := 0) (by decide) (by decide) hW
      rw [show min 2 6 = 2 from rfl, kW] at hl
      subst hl
      obtain ⟨cur, h1, h2, h3⟩ := ownB_two2 ho
      exact ⟨b, cap, cur, rfl, ⟨h1, h2, h3⟩, (World.ownsRow.lt ho b rfl).1, hb⟩
    | k + 1, hf, hg => simp [outF, kG2] at hf
end Go.Proofs.YtlnedapimmabdaaGreatDoor

namespace Go.Proofs.YtlnedapimmabdaaGreatDoor
set_option linter.unusedVariables false
set_option linter.unusedSimpArgs false
open Go.RowKit Go.Maps
attribute [local go_sem low] Bel.cell Bel.frozen alloc_cell alloc_frozen
attribute [local go_sem] calmOp chainOp yieldsC grows

end Go.Proofs.YtlnedapimmabdaaGreatDoor
