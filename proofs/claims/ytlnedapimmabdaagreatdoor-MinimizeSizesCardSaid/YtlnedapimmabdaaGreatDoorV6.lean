/- Networks that a function has written down. Which networks the laws speak about. -/
import Derived.Test.YtlnedapimmabdaaGreatDoorV5
namespace Go.Proofs.YtlnedapimmabdaaGreatDoor
set_option linter.unusedVariables false
set_option linter.unusedSimpArgs false
open Go.RowKit Go.Maps
attribute [local go_sem low] Bel.cell Bel.frozen alloc_cell alloc_frozen

theorem inS_mem {W : World} {b : Nat} (l : List Int) (h : W.heap[b]? = some (.cells (intsV l).toArray 3 (0, 0))) : InS (fun b => b < W.heap.size) W (some ⟨b, 0, none⟩) l := fun h0 => by
  refine ⟨b, 0, rfl, (Array.getElem?_eq_some_iff.1 h).1, fun j x hj => ?_⟩
  simp [World.cell?, h, intsV, hj]
theorem inS_none {P : Nat → Prop} {W : World} {a : Option Addr} : InS P W a [] := inS_nil _ _ _
theorem nws_mem {v : Nat} {W : World} {G : List Gt} {O : List Nat} {gb ob gc oc : Nat} (us : List UG) (hus : us.map (·.1) = G.map gz) (hg : W.heap[gb]? = some (.cells (cellsZ us).toArray 45 (0, 0))) (ho : W.heap[ob]? = some (.cells (intsV (intsN O)).toArray 3 (0, 0))) (hch : ∀ u ∈ us, InS (fun b => b < W.heap.size) W u.2.1 u.1.2.2) (hok : okN v (G, O)) (l1 : G.length ≤ 50000) (l2 : O.length ≤ 1000000) (l3 : ∀ g ∈ G, g.2.2.length ≤ 1000000) (h1 : O.length ≤ oc) (h2 : oc ≤ 9223372036854775807) :
    NWs v W ((G, O), some ⟨gb, 0, none⟩, gc, some ⟨ob, 0, none⟩, oc) := by
  refine ⟨⟨hok, fun _ => ⟨gb, 0, rfl, (Array.getElem?_eq_some_iff.1 hg).1, fun j x hj => ?_⟩, inS_mem _ ho, by show G.length ≤ _; omega, by show O.length ≤ _; omega, h1, h2, fun g h => by have := l3 g h; omega⟩, l1, l2, l3⟩
  obtain ⟨ad, cap, hu⟩ := mapZ_get hus hj
  obtain ⟨k0, k1, k2⟩ := cellsZ_at us j _ hu
  refine ⟨?_, ?_, ad, cap, ?_, hch _ (List.mem_of_getElem? hu)⟩
  · simpa [World.cell?, hg] using k0
  · simpa [World.cell?, hg] using k1
  · simpa [World.cell?, hg] using k2
theorem okN_err {v : Nat} {N : Nt} (h : nErr (N.1.map gz) (intsN N.2) (v : Int) = 0) : okN v N := by
  obtain ⟨M, h1, h2, h3, _, _⟩ := nErr_ok h
  rw [Int.toNat_natCast] at h3
  rw [net_eq.1 ⟨h1, h2⟩]
  exact h3
theorem wt6_val {v : Nat} {G H : List Gt} (hG : okL 6 G) (hH : okL 6 H) {i j : Nat} (hi : i < G.length) (hj : j < H.length) {l : List Bool} (h : Wt6 v (fun ρ => vl ρ G i) (fun ρ => vl ρ H j) l) : l = wantL (tabI G i ^^^ tabI H j) 0 (min v 6) ++ List.replicate (v - 6) false := by
  obtain ⟨X, hX, h0, hf, rfl⟩ := h
  have : X = tabI G i ^^^ tabI H j := table_eq hX (Nat.xor_lt_two_pow (tabI_lt G i) (tabI_lt H j)) fun u hu => by
    have := congrFun hf fun x => u.testBit x
    rw [idx6_row u hu] at this
    rw [this, Nat.testBit_xor]
    show (vl (fun x => u.testBit x) G i != vl (fun x => u.testBit x) H j) = _
    rw [vl_tab hG _ hi, vl_tab hH _ hj, idx6_row u hu]
  rw [this]
def kG1 : Nt := ([(1, 0, []), (1, 1, []), (1, 0, []), (3, 0, [0, 1]), (3, 0, [1, 2]), (4, 0, [3, 4])], [5])
def kG2 : Nt := ([(1, 0, []), (1, 1, []), (3, 0, [0, 1]), (4, 0, [0, 2])], [3])
def kG3 : Nt := ([(1, 1, [])], [0])
def kG4 : Nt := ([(1, 0, []), (1, 1, []), (3, 0, [0, 1])], [2])
theorem kG1_ok : okN 2 kG1 := okN_err (by decide +kernel)
theorem kG2_ok : okN 2 kG2 := okN_err (by decide +kernel)
theorem kG3_ok : okN 2 kG3 := okN_err (by decide +kernel)
theorem kG4_ok : okN 2 kG4 := okN_err (by decide +kernel)
theorem kC1 : cleanG kG1 = kG4 := by decide +kernel
theorem kC2 : cleanG kG2 = kG2 := by decide +kernel
theorem kR2 : (reduceG tabsG kG2).1.length = 1 := by decide +kernel
theorem kT : tabI kG2.1 3 ≠ tabI kG3.1 0 := by decide +kernel
theorem kW : wantL (tabI kG2.1 3 ^^^ tabI kG3.1 0) 0 2 = [false, true] := by decide +kernel
theorem ownB_two2 {w : World} {base g cap : Nat} {a b : Bool} (h : OwnB w base g cap [a, b]) : ∃ cur, w.heap[g]? = some (.cells cur 4 (0, 0)) ∧ cur[0]? = some (.bool a) ∧ cur[1]? = some (.bool b) := by
  obtain ⟨hxl, ⟨e1, e2⟩ | ⟨g', cap', cur, e1, hg, hh, hn, hc, hcs, hcur⟩⟩ := h
  · cases e1
  · injection e1 with e1 _ _
    injection e1 with e1
    injection e1 with e1 _ _
    subst e1
    have h0 : (boolsD [a, b])[0]? = some (.bool a) := rfl
    have h1 : (boolsD [a, b])[1]? = some (.bool b) := rfl
    rw [← hcur, List.getElem?_take_of_lt (by simp)] at h0 h1
    exact ⟨cur, hh, by simpa using h0, by simpa using h1⟩
theorem obj_drew {w : World} {b : Nat} {o : Obj} (h : w.heap[b]? = some o) : w.drew.heap[b]? = some o := h
theorem obSet2 {W : World} {b : Nat} {x y : Value} {t : TypeId} (x' y' : Value) (h : W.heap[b]? = some (.cells #[x, y] t (0, 0))) :
    ((W.setCell ⟨b, 0, none⟩ x').setCell ⟨b, 1, none⟩ y').heap[b]? = some (.cells #[x', y'] t (0, 0)) := obj_setD y' (obj_setD x' h)
theorem known_cmp {W : World} {x y : NW} (hx : NWs 2 W x) (hy : NWs 2 W y) (ex : x.1 = kG2) (ey : y.1 = kG3) : Calls Tryz.prog 19 #[nwV x, nwV y, .int .i64 2] W fun e W5 => ∃ g cap cur, e = .returned (.tuple #[.agg #[.int .i64 0, .slice (some ⟨g, 0, none⟩) 2 cap], .bool true, .int .i64 0]) ∧ (W5.heap[g]? = some (.cells cur 4 (0, 0)) ∧ cur[0]? = some (.bool false) ∧ cur[1]? = some (.bool true)) ∧ W.heap.size ≤ g ∧ Below W.heap.size W W5 := by
  refine (Compare_nw (v := 2) (by decide) x y W hx hy (by rw [ex, ey]; rfl)).mono ?_
  rw [ex, ey]
  have h2 : okL 6 kG2.1 := okL_mono kG2_ok.1 (by decide)
  have h3 : okL 6 kG3.1 := okL_mono kG3_ok.1 (by decide)
  rintro e W5 (⟨hfg, _⟩ | ⟨k, f, g, l, b, cap, hf, hg, _, _, hW, rfl, ho, hb⟩)
  · exfalso
    have hf : (fun ρ => vl ρ kG2.1 3) = fun ρ => vl ρ kG3.1 0 := by
      have := congrArg (fun l : List Fn3 => l.getD 0 fun _ => false) hfg
      exact this
    exact kT ((tabI_eq h2 h3 (by decide) (by decide)).2 fun ρ => congrFun hf ρ)
  · match k, hf, hg with
    | 0, hf, hg =>
      injection hf with hf
      injection hg with hg
      subst hf hg
      have hl := wt6_val (v := 2) h2 h3 (i := 3) (j := 0) (by decide) (by decide) hW
      rw [show min 2 6 = 2 from rfl, kW] at hl
      subst hl
      obtain ⟨cur, h1, h2, h3⟩ := ownB_two2 ho
      exact ⟨b, cap, cur, rfl, ⟨h1, h2, h3⟩, (World.ownsRow.lt ho b rfl).1, hb⟩
    | k + 1, hf, hg => simp [outF, kG2] at hf
end Go.Proofs.YtlnedapimmabdaaGreatDoor

namespace Go.Proofs.YtlnedapimmabdaaGreatDoor
set_option linter.unusedVariables false
set_option linter.unusedSimpArgs false
open Go.RowKit Go.Maps
attribute [local go_sem low] Bel.cell Bel.frozen alloc_cell alloc_frozen
attribute [local go_sem] calmOp chainOp yieldsC grows

theorem small_long (n m : Nat) (ga oa : Option Addr) (gc oc : Nat) (w : World) (h : 16 < n ∨ 8 < m) : Calls Tryz.prog 12 #[.agg #[.slice ga n gc, .slice oa m oc]] w (Ret (.bool false) w) := by
  by_cases h1 : 16 < n
  · have f1 : decide ((16 : Int) < (n : Int)) = true := decide_eq_true (by omega)
    clear h h1
    go_enter Tryz.func12, Tryz.ntmps12
    go_wp2
    go_ret
    exact Ret.mk (by rfl) (by (repeat' (first | (with_reducible first | apply Zl1 | apply Zl2 | apply Zl3 | apply Zl4 | apply Zl5 | apply Zl6 | apply Zl7 | apply Zl8 | apply Zl9 | apply Zla | apply Zlb | apply Zlc) | (dsimp only; with_reducible first | apply Zl8 | apply Zl2 | apply Zld) | with_reducible assumption | omega | (dsimp only; omega))))
  · have f1 : decide ((16 : Int) < (n : Int)) = false := decide_eq_false (by omega)
    have f2 : decide ((8 : Int) < (m : Int)) = true := decide_eq_true (by omega)
    clear h h1
    go_enter Tryz.func12, Tryz.ntmps12
    go_wp2
    go_ret
    exact Ret.mk (by rfl) (by (repeat' (first | (with_reducible first | apply Zl1 | apply Zl2 | apply Zl3 | apply Zl4 | apply Zl5 | apply Zl6 | apply Zl7 | apply Zl8 | apply Zl9 | apply Zla | apply Zlb | apply Zlc) | (dsimp only; with_reducible first | apply Zl8 | apply Zl2 | apply Zld) | with_reducible assumption | omega | (dsimp only; omega))))
theorem small_arg {W : World} {L : List GZ} {O : List Int} {ga oa : Option Addr} {gc oc : Nat} (hg : InGt (fun b => b < W.heap.size) W ga L) (ho : InS (fun b => b < W.heap.size) W oa O) (h1 : O.length ≤ oc) (h2 : oc ≤ 9223372036854775807) (hs : smallB L O = true) : ∃ x : NW, NWs 6 W x ∧ x.1.1.length ≤ 16 ∧ x.1.2.length ≤ 8 ∧ (∀ g ∈ x.1.1, g.2.2.length ≤ 8) ∧ nwV x = .agg #[.slice ga L.length gc, .slice oa O.length oc] := by
  unfold smallB at hs
  simp only [Bool.and_eq_true, decide_eq_true_eq, List.all_eq_true] at hs
  obtain ⟨⟨⟨a1, a2⟩, a3⟩, a4⟩ := hs
  obtain ⟨N, e1, e2, e3, _, _⟩ := nErr_ok a3
  subst e1 e2
  have hl : (N.1.map gz).length = N.1.length := List.length_map ..
  have hl2 : (N.2.map fun k : Nat => (k : Int)).length = N.2.length := List.length_map ..
  rw [hl] at a1
  rw [hl2] at a2 h1
  have hi : ∀ g ∈ N.1, g.2.2.length ≤ 8 := fun g hg => by
    have := a4 (gz g) (List.mem_map_of_mem hg)
    simpa [gz] using this
  exact ⟨(N, ga, gc, oa, oc), ⟨⟨e3, hg, ho, by show N.1.length ≤ _; omega, by show N.2.length ≤ _; omega, h1, h2, fun g hg => by have := hi g hg; omega⟩, by show N.1.length ≤ _; omega, by show N.2.length ≤ _; omega, fun g hg => by have := hi g hg; omega⟩, a1, a2, hi, by unfold nwV nV; rw [hl, hl2]⟩
theorem small_nw (x : NW) (w : World) (h : NWs 6 w x) (h1 : x.1.1.length ≤ 16) (h2 : x.1.2.length ≤ 8) (h3 : ∀ g ∈ x.1.1, g.2.2.length ≤ 8) : Calls Tryz.prog 12 #[nwV x] w (Ret (.bool true) w) := by
  have hz : nErr (x.1.1.map gz) (intsN x.1.2) 6 = 0 := nErr_of h.ok.ok h.l1
  have hh := small_any (x.1.1.map gz) (intsN x.1.2) _ x.2.1 x.2.2.2.1 x.2.2.1 x.2.2.2.2 w h.ok.hg h.ok.ho (by rw [List.length_map]; omega) (gz_ins h.l3) (by unfold intsN; rw [List.length_map]; omega)
  have hs : smallB (x.1.1.map gz) (intsN x.1.2) = true := by
    unfold smallB
    rw [hz, List.length_map, show (intsN x.1.2).length = x.1.2.length from List.length_map ..]
    simp only [Bool.and_eq_true, decide_eq_true_eq, List.all_eq_true]
    refine ⟨⟨⟨h1, h2⟩, trivial⟩, fun y hy => ?_⟩
    obtain ⟨g, hg, rfl⟩ := List.mem_map.1 hy
    simpa [gz] using h3 g hg
  rw [hs, List.length_map, show (intsN x.1.2).length = x.1.2.length from List.length_map ..] at hh
  exact hh
theorem small_not {W : World} {L : List GZ} {O : List Int} {ga oa : Option Addr} {gc oc : Nat} (hg : InGt (fun b => b < W.heap.size) W ga L) (ho : InS (fun b => b < W.heap.size) W oa O) (hi : ∀ x ∈ L, x.2.2.length ≤ 9223372036854775807) (hs : smallB L O = false) (w' : World) (hb : Below W.heap.size W w') : Calls Tryz.prog 12 #[.agg #[.slice ga L.length gc, .slice oa O.length oc]] w' (Ret (.bool false) w') := by
  by_cases hl : 16 < L.length ∨ 8 < O.length
  · exact small_long L.length O.length ga oa gc oc w' hl
  · have := small_any L O _ ga oa gc oc w' (hg.of hb) (ho.of hb) (by omega) hi (by omega)
    rw [hs] at this
    exact this
theorem outF_get {N : Nt} {k o : Nat} (h : N.2[k]? = some o) : (outF N.1 N.2)[k]? = some fun ρ => vl ρ N.1 o := by
  unfold outF
  rw [List.getElem?_map, h]
  rfl
theorem outF_tab {M N : Nt} (hM : okN 6 M) (hN : okN 6 N) (he : outF M.1 M.2 = outF N.1 N.2) {k o p : Nat} (ho : M.2[k]? = some o) (hp : N.2[k]? = some p) : tabI M.1 o = tabI N.1 p := by
  have h1 := outF_get ho
  rw [he, outF_get hp] at h1
  injection h1 with h1
  exact (tabI_eq hM.1 hN.1 (hM.2 o (List.mem_of_getElem? ho)) (hN.2 p (List.mem_of_getElem? hp))).2 fun ρ => (congrFun h1 ρ).symm
theorem Compare_same {v : Nat} (hv : v ≤ 6) (x y : NW) (w : World) (h : NWs v w x) (h' : NWs v w y) (hl : x.1.2.length = y.1.2.length) (he : outF x.1.1 x.1.2 = outF y.1.1 y.1.2) : Calls Tryz.prog 19 #[nwV x, nwV y, .int .i64 (v : Int)] w (Ret (.tuple #[.agg #[.int .i64 0, .slice none 0 0], .bool false, .int .i64 0]) w) := by
  refine (Compare_nw hv x y w h h' hl).mono ?_
  rintro e w' (⟨_, rfl, hb⟩ | ⟨k, f, g, l, b, cap, hf, hg, hne, _⟩)
  · exact ⟨rfl, ⟨w', hb⟩, rfl⟩
  · rw [he, hg] at hf
    injection hf with hf
    exact absurd hf.symm hne
theorem Compare_diff (x y : NW) (w : World) (h : NWs 6 w x) (h' : NWs 6 w y) (hl : x.1.2.length = y.1.2.length) {k o p : Nat} (ho : x.1.2[k]? = some o) (hp : y.1.2[k]? = some p) (hne : tabI x.1.1 o ≠ tabI y.1.1 p) (hlt : ∀ j o p, j < k → x.1.2[j]? = some o → y.1.2[j]? = some p → tabI x.1.1 o = tabI y.1.1 p) :
    Calls Tryz.prog 19 #[nwV x, nwV y, .int .i64 6] w fun e w' => ∃ b cap, e = .returned (.tuple #[.agg #[.int .i64 (k : Int), .slice (some ⟨b, 0, none⟩) 6 cap], .bool true, .int .i64 0]) ∧ OwnB w' w.heap.size b cap (wantL (tabI x.1.1 o ^^^ tabI y.1.1 p) 0 6) ∧ Below w.heap.size w w' := by
  have hio := h.ok.ok.2 o (List.mem_of_getElem? ho)
  have hip := h'.ok.ok.2 p (List.mem_of_getElem? hp)
  have hte : ∀ {i o' p' : Nat}, x.1.2[i]? = some o' → y.1.2[i]? = some p' → (tabI x.1.1 o' = tabI y.1.1 p' ↔ (fun ρ => vl ρ x.1.1 o') = fun ρ => vl ρ y.1.1 p') := fun {i o' p'} h1 h2 =>
    (tabI_eq h.ok.ok.1 h'.ok.ok.1 (h.ok.ok.2 o' (List.mem_of_getElem? h1)) (h'.ok.ok.2 p' (List.mem_of_getElem? h2))).trans ⟨fun e => funext e, fun e ρ => congrFun e ρ⟩
  refine (Compare_nw (v := 6) (by decide) x y w h h' hl).mono ?_
  rintro e w' (⟨he, _⟩ | ⟨k', f, g, l, b, cap, hf, hg, hfg, htk, hW, rfl, how, hb⟩)
  · exact absurd (outF_tab h.ok.ok h'.ok.ok he ho hp) hne
  · have hkk : k' = k := by
      rcases Nat.lt_trichotomy k' k with hk | hk | hk
      · exfalso
        unfold outF at hf hg
        rw [List.getElem?_map] at hf hg
        obtain ⟨o', ho', rfl⟩ := Option.map_eq_some_iff.1 hf
        obtain ⟨p', hp', rfl⟩ := Option.map_eq_some_iff.1 hg
        exact hfg ((hte ho' hp').1 (hlt k' o' p' hk ho' hp'))
      · exact hk
      · exfalso
        have h1 := congrArg (fun l : List Fn3 => l[k]?) htk
        simp only [List.getElem?_take, hk, if_true] at h1
        rw [outF_get ho, outF_get hp] at h1
        injection h1 with h1
        exact hne ((hte ho hp).2 h1)
    subst hkk
    rw [outF_get ho] at hf
    rw [outF_get hp] at hg
    injection hf with hf
    injection hg with hg
    subst hf hg
    have hlw := wt6_val h.ok.ok.1 h'.ok.ok.1 hio hip hW
    rw [show min 6 6 = 6 from rfl, show List.replicate (6 - 6) false = [] from rfl, List.append_nil] at hlw
    subst hlw
    refine ⟨b, cap, ?_, how, hb⟩
    rw [wantL_len]
theorem ownB_get {w : World} {base g cap : Nat} {l : List Bool} (h : OwnB w base g cap l) {j : Nat} {b : Bool} (hj : l[j]? = some b) : w.cell? ⟨g, j, none⟩ = some (.bool b) := ownB_is h hj
end Go.Proofs.YtlnedapimmabdaaGreatDoor
