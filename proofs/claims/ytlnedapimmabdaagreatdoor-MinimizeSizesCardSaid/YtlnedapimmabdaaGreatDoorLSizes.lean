/- The walk of MinimizeSizes. -/
import Derived.Test.YtlnedapimmabdaaGreatDoorV6
import Derived.Test.YtlnedapimmabdaaGreatDoorVw
import Derived.Test.YtlnedapimmabdaaGreatDoorUb
import Derived.Laws.StructEq
import Derived.Deep.CutRange
import Derived.Deep.RegionHeld3
namespace Go.Proofs.YtlnedapimmabdaaGreatDoor
set_option linter.unusedVariables false
set_option linter.unusedSimpArgs false
open Go.RowKit Go.Maps
attribute [local go_sem low] Bel.cell Bel.frozen alloc_cell alloc_frozen
attribute [local go_sem] calmOp chainOp yieldsC grows

theorem Size_nw (x : NW) (W : World) (hx : NWs 6 W x) : Calls Tryz.prog 25 #[nwV x, .int .i64 6] W (Ret (.tuple #[.agg (cntV x.1.1 x.1.1.length), .int .i64 0]) W) :=
  Size_ok x.1.1 x.1.2 6 _ _ x.2.1 x.2.2.2.1 x.2.2.1 x.2.2.2.2 W hx.ok.ok hx.ok.hg hx.ok.ho hx.l1 (by have := hx.l2; omega) hx.l3
/-- What Support returns, in range or not. -/
def SupS (x : NW) (out : Int) (sa : Option Addr) (sl : Nat) (se : Int) (W : World) : Prop :=
  (∃ (i o : Nat), out = (i : Int) ∧ x.1.2[i]? = some o ∧ se = 0 ∧ sl = (supG x.1.1 [o]).length ∧ InS (fun _ => True) W sa (supG x.1.1 [o])) ∨ ((out < 0 ∨ (x.1.2.length : Int) ≤ out) ∧ se = 3 ∧ sl = 0)
theorem SupS.of {x : NW} {out : Int} {sa : Option Addr} {sl : Nat} {se : Int} {W W' : World} (h : SupS x out sa sl se W) (hb : Below W.heap.size W W') : SupS x out sa sl se W' := by
  rcases h with ⟨i, o, h1, h2, h3, h4, h5⟩ | h
  · exact .inl ⟨i, o, h1, h2, h3, h4, h5.of hb⟩
  · exact .inr h
theorem inS_own {W : World} {base : Nat} {v : Value} {l : List Int} (h : OwnV W base 3 v (intsV l)) : ∃ a c, v = .slice a l.length c ∧ InS (fun _ => True) W a l := by
  have hl : (intsV l).length = l.length := by simp [intsV]
  obtain ⟨hxl, ⟨e1, e2⟩ | ⟨g, cap, cur, e1, hg, hh, hn, hc, hcs, hcur⟩⟩ := h
  · rw [hl] at e2
    exact ⟨none, 0, by rw [e1, e2], fun h => by omega⟩
  · rw [hl] at e1
    refine ⟨_, _, e1, fun _ => ⟨g, 0, rfl, trivial, fun j x hj => ?_⟩⟩
    have hjl := (List.getElem?_eq_some_iff.1 hj).1
    have hb : (intsV l)[j]? = some (.int .i64 x) := by unfold intsV; rw [List.getElem?_map, hj]; rfl
    rw [← hcur, List.getElem?_take_of_lt (by omega)] at hb
    rw [Nat.zero_add]
    simp [World.cell?, hh]
    simpa using hb
theorem Support_any (x : NW) (out : Int) (W : World) (hx : NWs 6 W x) : Calls Tryz.prog 23 #[nwV x, .int .i64 6, .int .i64 out] W fun e W' => ∃ sa sl sc se, e = .returned (.tuple #[.slice sa sl sc, .int .i64 se]) ∧ SupS x out sa sl se W' ∧ Below W.heap.size W W' := by
  by_cases h : out < 0 ∨ (x.1.2.length : Int) ≤ out
  · have hh := Support_range (x.1.1.map gz) (intsN x.1.2) 6 out _ x.2.1 x.2.2.2.1 x.2.2.1 x.2.2.2.2 W hx.ok.hg hx.ok.ho (by rw [List.length_map]; have := hx.l1; omega) (gz_ins hx.l3) (by unfold intsN; rw [List.length_map]; have := hx.l2; omega) (nErr_of hx.ok.ok hx.l1) (by rw [show (intsN x.1.2).length = x.1.2.length from List.length_map ..]; exact h)
    rw [List.length_map, show (intsN x.1.2).length = x.1.2.length from List.length_map ..] at hh
    refine hh.mono ?_
    rintro _ _ ⟨rfl, y, rfl⟩
    exact ⟨_, _, _, _, rfl, .inr ⟨h, rfl, rfl⟩, y.below⟩
  · obtain ⟨i, rfl⟩ : ∃ i : Nat, out = (i : Int) := ⟨out.toNat, by omega⟩
    obtain ⟨o, ho⟩ := some_at (show i < x.1.2.length by omega)
    refine (Support_nw (v := 6) x W hx ho).mono ?_
    rintro _ W' ⟨v, rfl, how, hb⟩
    obtain ⟨a, c, rfl, hin⟩ := inS_own how
    exact ⟨_, _, _, _, rfl, .inl ⟨i, o, rfl, ho, rfl, rfl, hin⟩, hb⟩
theorem SupS.len {x : NW} {out : Int} {sa : Option Addr} {sl : Nat} {se : Int} {W : World} (h : SupS x out sa sl se W) (hx : okL 6 x.1.1) : sl ≤ 6 := by
  rcases h with ⟨i, o, _, _, _, h4, _⟩ | ⟨_, _, h⟩
  · rw [h4]; exact supG_len hx _
  · omega
theorem count_stood : Tryz.prog.stoodInHeld 57 = false := by kernel_rfl
theorem count_under : Tryz.prog.underlying 57 = some (.struct (Tryz.prog.fieldsOf 57)) := by kernel_rfl
theorem guard_count (x y : Operand) (xs ys : Array Value) (w : World) : (eqGuard .neq 57 x y (.agg xs) (.agg ys)).run Tryz.prog w = .ok () w := run_eqGuard_agg w _ _ _ _ _ _ (by kernel_rfl)
theorem count_same (a0 a1 a2 a3 a4 a5 a6 : Int) (w : World) : (binOp .neq 57 (.agg #[.int .i64 a0, .int .i64 a1, .int .i64 a2, .int .i64 a3, .int .i64 a4, .int .i64 a5, .int .i64 a6]) (.agg #[.int .i64 a0, .int .i64 a1, .int .i64 a2, .int .i64 a3, .int .i64 a4, .int .i64 a5, .int .i64 a6])).run Tryz.prog w = .ok (.bool false) w := by
  have e : ∀ (a b : Int) (w : World), (Op.equalIn 9999 3 (.int .i64 a) (.int .i64 b)).run Tryz.prog w = .ok (a == b) w := fun a b w => run_equalIn_int w 9998 3 .i64 .i64 a b Tryz.underlying3
  rw [run_neq_struct, run_equalIn_agg w 9999 57 _ _ count_under count_stood]
  simp [Program.fieldsOf, Tryz.underlying57, Op.eqFields, part, e]
theorem out_at (x : NW) {W : World} (hn : NWs 6 W x) {i o : Nat} (ho : x.1.2[i]? = some o) : o < x.1.1.length ∧ ∃ b off, x.2.2.2.1 = some ⟨b, off, none⟩ ∧ W.cell? ⟨b, off + i, none⟩ = some (.int .i64 (o : Int)) := by
  have hi := (List.getElem?_eq_some_iff.1 ho).1
  have h0 : 0 < (intsN x.1.2).length := by rw [show (intsN x.1.2).length = x.1.2.length from List.length_map ..]; omega
  obtain ⟨b, off, e, _, hc⟩ := hn.ok.ho h0
  exact ⟨hn.ok.ok.2 _ (List.mem_of_getElem? ho), b, off, e, hc i _ (by unfold intsN; rw [List.getElem?_map, ho]; rfl)⟩
theorem R6_tab {G : List Gt} (hG : okL 6 G) {o : Nat} (ho : o < G.length) {d : Dg3} (h : R6 (fun ρ => vl ρ G o) d) : d = (bldN (tabI G o), bldR (tabI G o)) :=
  (R6_eq h ⟨tabI G o, tabI_lt G o, funext fun ρ => vl_tab hG ρ ho, rfl⟩).2 rfl
theorem callsAt {p : Program} {f n : Nat} {a : Array Value} {v w : World} {P : World → Ending → World → Prop} {Q : Ending → World → Prop} (h : ∀ W, Below n v W → Calls p f a W (P W)) (hb : Below n v w) (hm : ∀ e w', P w e w' → Q e w') : Calls p f a w Q := (h w hb).mono hm
/-- How many of a sorted list are below a number. -/
def CutAt (l : List Int) (v : Int) (k : Nat) : Prop := k ≤ l.length ∧ ∀ (j : Nat) z, l[j]? = some z → (z < v ↔ j < k)
theorem cut_in {l : List Int} (hs : l.Pairwise (· < ·)) {v : Int} {k : Nat} (h : CutAt l v k) (hv : v ∈ l) : l[k]? = some v ∧ CutAt l (v + 1) (k + 1) := by
  obtain ⟨j, hj⟩ := List.mem_iff_getElem?.1 hv
  have hjk : ¬ j < k := fun h1 => by have := (h.2 j v hj).2 h1; omega
  have hjl := (List.getElem?_eq_some_iff.1 hj).1
  have hord : ∀ (a b : Nat) x y, l[a]? = some x → l[b]? = some y → a < b → x < y := fun a b x y ha hb hab => by
    obtain ⟨ha1, ha2⟩ := List.getElem?_eq_some_iff.1 ha
    obtain ⟨hb1, hb2⟩ := List.getElem?_eq_some_iff.1 hb
    have := List.pairwise_iff_getElem.1 hs a b ha1 hb1 hab
    rw [ha2, hb2] at this
    exact this
  have hjk2 : j = k := by
    rcases Nat.lt_or_ge k j with h1 | h1
    · obtain ⟨z, hz⟩ := some_at (show k < l.length by omega)
      have h2 := hord k j z v hz hj h1
      have h3 := (h.2 k z hz).1 h2
      omega
    · omega
  subst hjk2
  refine ⟨hj, by omega, fun i z hz => ?_⟩
  rcases Nat.lt_trichotomy i j with h1 | h1 | h1
  · have := (h.2 i z hz).2 h1
    omega
  · subst h1
    rw [hj] at hz
    injection hz with hz
    omega
  · have := hord j i v z hj hz h1
    omega
theorem cut_out {l : List Int} {v : Int} {k : Nat} (h : CutAt l v k) (hv : ¬ v ∈ l) : CutAt l (v + 1) k :=
  ⟨h.1, fun j z hz => by
    have h1 := h.2 j z hz
    have h2 : z ≠ v := fun e => hv (e ▸ List.mem_of_getElem? hz)
    omega⟩
theorem cut_end {l : List Int} {v : Int} {k : Nat} (h : CutAt l v k) (hv : ∀ z ∈ l, z < v) : k = l.length := by
  rcases Nat.lt_or_ge k l.length with h1 | h1
  · obtain ⟨z, hz⟩ := some_at h1
    have := (h.2 k z hz).1 (hv z (List.mem_of_getElem? hz))
    omega
  · have := h.1
    omega
theorem cut_zero {l : List Int} (h : ∀ z ∈ l, 0 ≤ z) : CutAt l 0 0 := ⟨Nat.zero_le _, fun j z hz => by have := h z (List.mem_of_getElem? hz); omega⟩
/-- Whether a variable is among the first gates that are marked. -/
def isT (G : List Gt) (on : Nat → Bool) (v i : Nat) : Bool := (List.range i).any fun j => on j && decide ((gtAt G j).1 = 1) && decide ((gtAt G j).2.1 = v)
theorem isT_succ (G : List Gt) (on : Nat → Bool) (v i : Nat) : isT G on v (i + 1) = (isT G on v i || (on i && decide ((gtAt G i).1 = 1) && decide ((gtAt G i).2.1 = v))) := by
  unfold isT
  rw [List.range_succ, List.any_append]
  simp
theorem isT_sup (G : List Gt) (o v : Nat) : isT G (reachG G [o]) v G.length = true ↔ (v : Int) ∈ supG G [o] := by
  rw [(supG_spec G [o]).2, isT, List.any_eq_true]
  constructor
  · rintro ⟨j, hj, h⟩
    simp only [Bool.and_eq_true, decide_eq_true_eq] at h
    exact ⟨j, List.mem_range.1 hj, h.1.1, h.1.2, by rw [h.2]⟩
  · rintro ⟨j, hj, h1, h2, h3⟩
    refine ⟨j, List.mem_range.2 hj, ?_⟩
    simp only [Bool.and_eq_true, decide_eq_true_eq]
    exact ⟨⟨h1, h2⟩, by omega⟩
set_option maxRecDepth 100000 in
set_option maxHeartbeats 12800000 in
theorem lawSizes_not (n m : Nat) (ga oa : Option Addr) (gc oc : Nat) (out : Int) (w : World) (hT : Tab w) (hs : ∀ w', Below w.heap.size w w' → Calls Tryz.prog 12 #[.agg #[.slice ga n gc, .slice oa m oc]] w' (Ret (.bool false) w')) : Calls Tryz.prog 9 #[.agg #[.slice ga n gc, .slice oa m oc], .int .i64 out] w (Ret (.bool true) w) := by
  have HT := Lib.hid hT
  have HS := Lib.hid hs
  have hx := World.alloc_heap_new w (.cells #[.slice ga n gc, .slice oa m oc] 25 (0, 0))
  have HX := Lib.hid hx
  clear hT hs hx
  go_enter Tryz.func9, Tryz.ntmps9
  go_wp2_with fail
  (with_reducible refine (known_any _ (HT.out.of (by (repeat' (first | (with_reducible first | apply Zl1 | apply Zl2 | apply Zl3 | apply Zl4 | apply Zl5 | apply Zl6 | apply Zl7 | apply Zl8 | apply Zl9 | apply Zla | apply Zlb | apply Zlc) | (dsimp only; with_reducible first | apply Zl8 | apply Zl2 | apply Zld) | with_reducible assumption | omega | (dsimp only; omega)))))).mono ?_)
  rintro _ _ ⟨rfl, y1, rfl⟩
  obtain ⟨n1, n2, -⟩ := box2 (obj_in y1.below HX.out)
  dsimp only
  go_wp2_with fail
  (with_reducible refine (HS.out _ (by (repeat' (first | (with_reducible first | apply Zl1 | apply Zl2 | apply Zl3 | apply Zl4 | apply Zl5 | apply Zl6 | apply Zl7 | apply Zl8 | apply Zl9 | apply Zla | apply Zlb | apply Zlc) | (dsimp only; with_reducible first | apply Zl8 | apply Zl2 | apply Zld) | with_reducible assumption | omega | (dsimp only; omega))))).mono ?_)
  rintro _ _ ⟨rfl, y2, rfl⟩
  dsimp only
  go_wp2_with fail
  (with_reducible refine (known_any _ (HT.out.of (by (repeat' (first | (with_reducible first | apply Zl1 | apply Zl2 | apply Zl3 | apply Zl4 | apply Zl5 | apply Zl6 | apply Zl7 | apply Zl8 | apply Zl9 | apply Zla | apply Zlb | apply Zlc) | (dsimp only; with_reducible first | apply Zl8 | apply Zl2 | apply Zld) | with_reducible assumption | omega | (dsimp only; omega)))))).mono ?_)
  rintro _ _ ⟨rfl, y3, rfl⟩
  dsimp only
  go_wp2
  go_ret
  exact Ret.mk (by rfl) (by (repeat' (first | (with_reducible first | apply Zl1 | apply Zl2 | apply Zl3 | apply Zl4 | apply Zl5 | apply Zl6 | apply Zl7 | apply Zl8 | apply Zl9 | apply Zla | apply Zlb | apply Zlc) | (dsimp only; with_reducible first | apply Zl8 | apply Zl2 | apply Zld) | with_reducible assumption | omega | (dsimp only; omega))))
set_option maxRecDepth 100000 in
set_option maxHeartbeats 12800000 in
theorem lawSizes_small (x : NW) (out : Int) (w : World) (hT : Tab w) (h : NWs 6 w x) (l1 : x.1.1.length ≤ 16) (l2 : x.1.2.length ≤ 8) (l3 : ∀ g ∈ x.1.1, g.2.2.length ≤ 8) : Calls Tryz.prog 9 #[nwV x, .int .i64 out] w (Ret (.bool true) w) := by
  have HOK := Lib.hid h.ok.ok
  have HX := Lib.hid h
  clear h
  obtain ⟨i0, hi0, hz0, hz1, hz2⟩ := info_parts Tryz.infoI
  unfold nwV nV
  have HT := Lib.hid hT
  clear hT
  go_enter Tryz.func9, Tryz.ntmps9
  go_wp2_with fail
  have hB : Below w.heap.size w (w.alloc (.cells #[.slice x.2.1 x.1.1.length x.2.2.1, .slice x.2.2.2.1 x.1.2.length x.2.2.2.2] 25 (0, 0))) := ((Below.refl w.heap.size w).alloc (Nat.le_refl _) _)
  have xb := World.alloc_heap_new w (.cells #[.slice x.2.1 x.1.1.length x.2.2.1, .slice x.2.2.2.1 x.1.2.length x.2.2.2.2] 25 (0, 0))
  have HX := Lib.hid (HX.out.of hB)
  obtain ⟨V1, hV⟩ : ∃ V1, (w.alloc (.cells #[.slice x.2.1 x.1.1.length x.2.2.1, .slice x.2.2.2.1 x.1.2.length x.2.2.2.2] 25 (0, 0))) = V1 := ⟨_, rfl⟩
  rw [hV] at hB xb HX ⊢
  clear hV
  refine (known_any _ (HT.out.of hB)).mono ?_
  rintro _ _ ⟨rfl, r1, rfl⟩
  have hbk := r1.below
  replace xb := obj_in hbk xb
  replace HX := Lib.hid (HX.out.of hbk)
  replace hB := hB.trans (hbk.mono hB.size)
  clear hbk
  obtain ⟨V2, hV⟩ : ∃ V2, r1.w = V2 := ⟨_, rfl⟩
  rw [hV] at hB xb HX ⊢
  clear hV
  obtain ⟨n0, m0, -⟩ := box2 xb
  dsimp only
  go_wp2_with fail
  clear n0 m0
  refine (small_nw x _ HX.out l1 l2 l3).mono ?_
  rintro _ _ ⟨rfl, r2, rfl⟩
  have hbk := r2.below
  replace xb := obj_in hbk xb
  replace HX := Lib.hid (HX.out.of hbk)
  replace hB := hB.trans (hbk.mono hB.size)
  clear hbk
  obtain ⟨V3, hV⟩ : ∃ V3, r2.w = V3 := ⟨_, rfl⟩
  rw [hV] at hB xb HX ⊢
  clear hV
  obtain ⟨n0, m0, -⟩ := box2 xb
  dsimp only
  go_wp2_with fail
  clear n0 m0
  have hsz := Size_nw x V3 HX.out
  unfold cntV at hsz
  obtain ⟨c0, hc0⟩ : ∃ c, cntK x.1.1 0 x.1.1.length = c := ⟨_, rfl⟩
  obtain ⟨c1, hc1⟩ : ∃ c, cntK x.1.1 1 x.1.1.length = c := ⟨_, rfl⟩
  obtain ⟨c2, hc2⟩ : ∃ c, cntK x.1.1 2 x.1.1.length = c := ⟨_, rfl⟩
  obtain ⟨c3, hc3⟩ : ∃ c, cntK x.1.1 3 x.1.1.length = c := ⟨_, rfl⟩
  obtain ⟨c4, hc4⟩ : ∃ c, cntK x.1.1 4 x.1.1.length = c := ⟨_, rfl⟩
  obtain ⟨c5, hc5⟩ : ∃ c, inpK x.1.1 x.1.1.length = c := ⟨_, rfl⟩
  obtain ⟨c6, hc6⟩ : ∃ c, topK x.1.1 x.1.1.length = c := ⟨_, rfl⟩
  rw [hc0, hc1, hc2, hc3, hc4, hc5, hc6] at hsz
  have HCT := Lib.hid (show cntV x.1.1 x.1.1.length = #[.int .i64 (c0 : Int), .int .i64 (c1 : Int), .int .i64 (c2 : Int), .int .i64 (c3 : Int), .int .i64 (c4 : Int), .int .i64 (c5 : Int), .int .i64 (c6 : Int)] by unfold cntV; rw [hc0, hc1, hc2, hc3, hc4, hc5, hc6])
  clear hc0 hc1 hc2 hc3 hc4 hc5 hc6
  refine hsz.mono ?_
  rintro _ _ ⟨rfl, ys, rfl⟩
  have hbk := ys.below
  replace xb := obj_in hbk xb
  replace HX := Lib.hid (HX.out.of hbk)
  replace hB := hB.trans (hbk.mono hB.size)
  clear hbk hsz
  obtain ⟨n0, m0, -⟩ := box2 xb
  dsimp only
  go_wp2_with fail
  clear n0 m0
  have hbk : Below ys.w.heap.size ys.w (ys.w.alloc (.cells #[.int .i64 (c0 : Int), .int .i64 (c1 : Int), .int .i64 (c2 : Int), .int .i64 (c3 : Int), .int .i64 (c4 : Int), .int .i64 (c5 : Int), .int .i64 (c6 : Int)] 57 (0, 0))) := (Below.refl _ _).alloc (Nat.le_refl _) _
  replace xb := obj_in hbk xb
  replace HX := Lib.hid (HX.out.of hbk)
  replace hB := hB.trans (hbk.mono hB.size)
  clear hbk
  have sb := World.alloc_heap_new ys.w (.cells #[.int .i64 (c0 : Int), .int .i64 (c1 : Int), .int .i64 (c2 : Int), .int .i64 (c3 : Int), .int .i64 (c4 : Int), .int .i64 (c5 : Int), .int .i64 (c6 : Int)] 57 (0, 0))
  obtain ⟨SB, hSB⟩ : ∃ b, ys.w.heap.size = b := ⟨_, rfl⟩
  rw [hSB] at sb ⊢
  clear hSB
  obtain ⟨V4, hV⟩ : ∃ V4, (ys.w.alloc (.cells #[.int .i64 (c0 : Int), .int .i64 (c1 : Int), .int .i64 (c2 : Int), .int .i64 (c3 : Int), .int .i64 (c4 : Int), .int .i64 (c5 : Int), .int .i64 (c6 : Int)] 57 (0, 0))) = V4 := ⟨_, rfl⟩
  rw [hV] at hB xb sb HX ⊢
  clear hV
  refine (Support_any x out V4 HX.out).mono ?_
  rintro _ WS ⟨sa, sl, sc, se, rfl, hss, hbk⟩
  replace xb := obj_in hbk xb
  replace sb := obj_in hbk sb
  replace HX := Lib.hid (HX.out.of hbk)
  replace hB := hB.trans (hbk.mono hB.size)
  have HS := Lib.hid hss
  clear hbk hss
  obtain ⟨V5, hV⟩ : ∃ V5, WS = V5 := ⟨_, rfl⟩
  rw [hV] at hB xb sb HX HS ⊢
  clear hV
  obtain ⟨n0, m0, -⟩ := box2 xb
  dsimp only
  go_wp2_with fail
  clear n0 m0
  refine (Diagrams_nw (v := 6) (by decide) x V5 HX.out).mono ?_
  rintro _ WD ⟨dv, dl, rfl, hds, hdl, hdr, hbk⟩
  replace xb := obj_in hbk xb
  replace sb := obj_in hbk sb
  replace HX := Lib.hid (HX.out.of hbk)
  replace HS := Lib.hid (HS.out.of hbk)
  replace hB := hB.trans (hbk.mono hB.size)
  obtain ⟨da, dc, rfl⟩ := hds.val
  have hdl2 : dl.length = x.1.2.length := by rw [hdl]; unfold outF; rw [List.length_map]
  rw [hdl2]
  have HDL := Lib.hid hdl2
  have HDR := Lib.hid hdr
  have HDS := Lib.hid hds
  clear hbk hdl hdl2 hdr hds
  obtain ⟨V6, hV⟩ : ∃ V6, WD = V6 := ⟨_, rfl⟩
  rw [hV] at hB xb sb HX HS HDS ⊢
  clear hV
  obtain ⟨n0, m0, -⟩ := box2 xb
  dsimp only
  obtain ⟨n, hn⟩ : ∃ n, x.1.1.length = n := ⟨_, rfl⟩
  have HN := Lib.hid hn
  have hln : n ≤ 16 := by omega
  rw [hn] at xb n0 ⊢
  clear hn
  go_wp2_with (at_make; refine wpList_make_full _ rfl _ _ 23 rfl (V6.heap.size + 1) 3 i0 (.int .i64 0) 1 Tryz.underlying23 hi0 hz0 hz1 _ _ _ _ (n) rfl rfl (by first | rfl | omega | (simp <;> omega)) (by first | rfl | omega | (simp <;> omega)) (by rw [hz2] <;> omega) (by unfold maxLen; omega) (by first | omega | (simp <;> omega)) ?_; intro wM hownM hgrowM; have HOM := Lib.hid hownM; have HGM := Lib.hid hgrowM; have hnm := (HGM.out.block w.heap.size (by simp; have := (Array.getElem?_eq_some_iff.1 xb).1; omega) (by simp)).trans (obj_alloc (.cells #[.int .i64 0, .int .i64 0, .int .i64 0, .int .i64 0, .int .i64 0, .int .i64 0, .int .i64 0] 57 (0, 0)) xb); obtain ⟨m0, m1, -⟩ := box2 hnm; clear n0 hownM hgrowM hnm)
  have hsm := (Array.getElem?_eq_some_iff.1 xb).1
  obtain ⟨V, hV⟩ : ∃ V, V6 = V := ⟨_, rfl⟩
  have hst : SzS V6 (V6.heap.size + 1) n (cntV x.1.1 0) (lvK x.1.1 0) wM := by
    have hB1 : Below V6.heap.size V6 wM := (show Below V6.heap.size V6 _ from (Below.refl _ _).alloc (Nat.le_refl _) (.cells #[.int .i64 0, .int .i64 0, .int .i64 0, .int .i64 0, .int .i64 0, .int .i64 0, .int .i64 0] 57 (0, 0))).grown HGM.out (by simp) (fun k e => by cases e)
    refine ⟨(HGM.out.block V6.heap.size (by simp) (by simp)).trans (World.alloc_heap_new V6 _), ⟨?_, Nat.zero_le _⟩, hB1, Nat.lt_succ_self _⟩
    refine ownN_le (b := V6.heap.size + 1) ?_ (by omega)
    have := HOM.out
    rw [Nat.mul_one, show (Value.int .i64 0).cells = #[Value.int .i64 0] from rfl, toList_madeCells_one] at this
    unfold OwnN natsV
    simpa [lvK] using this
  have HST := Lib.hid hst
  have Oxb := Lib.hid xb
  have Osb := Lib.hid sb
  have HB0 := Lib.hid (fun c k => cntK_le x.1.1 c k)
  have HB1 := Lib.hid (fun k (h : k ≤ n) => inpK_le (G := x.1.1) (b := 8) l3 k (by rw [HN.out]; exact h))
  have HB2 := Lib.hid (fun k (h : k ≤ n) => topK_le HOK.out.1 k (by rw [HN.out]; exact h))
  have HB3 := Lib.hid (fun k (h : k ≤ n) => lvK_le HOK.out.1 k (by rw [HN.out]; exact h))
  have hBw : w.heap.size ≤ V6.heap.size := hB.size
  have HB := Lib.hid hB
  have hsbl := (Array.getElem?_eq_some_iff.1 sb).1
  clear hst HOM HGM m0 m1 hV xb sb hB
  go_loopw [13] (fun iv wr => ∃ k : Nat, iv = .int .i64 (k : Int) ∧ k ≤ n ∧ SzS V6 (V6.heap.size + 1) n (cntV x.1.1 k) (lvK x.1.1 k) wr) (fun iv _ => n - (intOf iv).toNat)
  case atStart => exact ⟨0, rfl, Nat.zero_le _, HST.out⟩
  case round =>
    rename World => wo
    obtain ⟨k, rfl, hk, hS⟩ := hrel
    have hbw := HB.out.trans (hS.bel.mono hBw)
    have HBW := Lib.hid hbw
    have hVs := hS.bel.size
    obtain ⟨m0, m1, -⟩ := box2 (obj_in hS.bel Oxb.out)
    rcases Nat.lt_or_ge k n with hkl | hkl
    · obtain ⟨gg, hgg⟩ : ∃ gg, x.1.1[k]? = some gg := ⟨_, List.getElem?_eq_getElem (by rw [HN.out]; exact hkl)⟩
      obtain ⟨b2, o2, hadd, hb2, ax, cx, y0, y1, y2, hiy⟩ := HX.out.ok.hg.at (show (x.1.1.map gz)[k]? = some (gz gg) by rw [List.getElem?_map, hgg]; rfl)
      obtain ⟨xa, hxa⟩ : ∃ a, x.2.1 = a := ⟨_, rfl⟩
      rw [hxa] at m0
      rw [hxa] at hadd
      subst hadd
      dsimp only [gz] at y0 y1 y2 hiy
      rw [List.length_map] at y2
      replace y0 := below_cell hS.bel _ _ _ y0
      replace y1 := below_cell hS.bel _ _ _ y1
      replace y2 := below_cell hS.bel _ _ _ y2
      have HOG := Lib.hid (HOK.out.1 k gg hgg)
      have hgl := l3 gg (List.mem_of_getElem? hgg)
      have hins := okG_ins HOG.out
      have HGG := Lib.hid hgg
      have f1 : decide ((k : Int) < (n : Int)) = true := decide_eq_true (by omega)
      have hib : (0 ≤ (k : Int) ∧ (k : Int) < (n : Int)) := ⟨by omega, by omega⟩
      have hll := lvK_len x.1.1 k (by rw [HN.out]; exact hk)
      have hsz : SzS V6 (V6.heap.size + 1) n (cntV x.1.1 k) (lvK x.1.1 k ++ [0]) (wo.alloc (.cells #[.int .i64 (gg.1 : Int), .int .i64 (gg.2.1 : Int), .slice ax gg.2.2.length cx] 45 (0, 0))) := SzS.of (W := wo) ⟨hS.cnt, hS.lev.skip (by rw [hll]; exact hkl), hS.bel, hS.ne⟩ ((Below.refl _ _).alloc (Nat.le_refl _) _)
      have hg2 := World.alloc_heap_new wo (.cells #[.int .i64 (gg.1 : Int), .int .i64 (gg.2.1 : Int), .slice ax gg.2.2.length cx] 45 (0, 0))
      have hz2 : Below V6.heap.size V6 (wo.alloc (.cells #[.int .i64 (gg.1 : Int), .int .i64 (gg.2.1 : Int), .slice ax gg.2.2.length cx] 45 (0, 0))) := hS.bel.alloc (by omega) _
      have HI2 := Lib.hid hiy
      have HLL := Lib.hid hll
      have hTlt : V6.heap.size + 1 < wo.heap.size := hS.lev.lt.2
      clear hgg hiy hS hbw hll hxa
      go_wp2_with fail
      obtain ⟨Z, hZ⟩ : ∃ Z, wo.alloc (.cells #[.int .i64 (gg.1 : Int), .int .i64 (gg.2.1 : Int), .slice ax gg.2.2.length cx] 45 (0, 0)) = Z := ⟨_, rfl⟩
      rw [hZ] at hsz hg2 hz2 ⊢
      obtain ⟨GB, hGB⟩ : ∃ b, wo.heap.size = b := ⟨_, rfl⟩
      rw [hGB] at hg2 hTlt ⊢
      have hgb1 : V6.heap.size + 1 < GB := hTlt
      have HSZ := Lib.hid hsz
      have HG2 := Lib.hid hg2
      have HZ2 := Lib.hid hz2
      clear hZ hsz hg2 hz2 hGB y0 y1 y2 m0 m1
      go_loopw [15] (fun iv wi => ∃ j : Nat, iv = .int .i64 (j : Int) ∧ j ≤ gg.2.2.length ∧ SzS V6 (V6.heap.size + 1) n (cntV x.1.1 k) (lvK x.1.1 k ++ [mxL (lvK x.1.1 k) (gg.2.2.take j)]) wi ∧ wi.heap[GB]? = some (.cells #[.int .i64 (gg.1 : Int), .int .i64 (gg.2.1 : Int), .slice ax gg.2.2.length cx] 45 (0, 0))) (fun iv _ => gg.2.2.length - (intOf iv).toNat)
      case atStart => exact ⟨0, rfl, Nat.zero_le _, HSZ.out, HG2.out⟩
      case round =>
        rename World => wi
        obtain ⟨j, rfl, hj, hsi, hgi⟩ := hrel
        have HSI := Lib.hid hsi
        have HGI := Lib.hid hgi
        obtain ⟨p0, p1, p2⟩ := box3 hgi
        have hlv := hsi.lev.at hkl
        rw [show (lvK x.1.1 k ++ [mxL (lvK x.1.1 k) (gg.2.2.take j)]).getD k 0 = mxL (lvK x.1.1 k) (gg.2.2.take j) by rw [List.getD_eq_getElem?_getD, List.getElem?_append_right (by rw [HLL.out]; exact Nat.le_refl _), HLL.out, Nat.sub_self]; rfl] at hlv
        have hmb : mxL (lvK x.1.1 k) (gg.2.2.take j) ≤ k + 1 := mxL_le fun i hi => by
          have h1 := hins i (List.mem_of_mem_take hi)
          have h2 := HB3.out k (by omega) i
          omega
        obtain ⟨l0, l1'⟩ := hlv
        obtain ⟨mm, hmm⟩ : ∃ m, mxL (lvK x.1.1 k) (gg.2.2.take j) = m := ⟨_, rfl⟩
        rw [hmm] at l0 hmb
        rcases Nat.lt_or_ge j gg.2.2.length with hjl | hjl
        · obtain ⟨y, hy⟩ := some_at hjl
          have hyk := hins y (List.mem_of_getElem? hy)
          obtain ⟨b3, o3, hadd, hb3, z0⟩ := (HI2.out.of hsi.bel).at (show (gg.2.2.map fun k : Nat => (k : Int))[j]? = some (y : Int) by rw [List.getElem?_map, hy]; rfl)
          first | subst hadd | (injection hadd with hadd; injection hadd with e1 e2 _; subst e1 e2)
          have hly := (hsi.lev.at (show y < n by omega)).1
          rw [show (lvK x.1.1 k ++ [mxL (lvK x.1.1 k) (gg.2.2.take j)]).getD y 0 = (lvK x.1.1 k).getD y 0 by rw [List.getD_eq_getElem?_getD, List.getD_eq_getElem?_getD, List.getElem?_append_left (by rw [HLL.out]; exact hyk)]] at hly
          have hlb := HB3.out k (by omega) y
          obtain ⟨ly, hll2⟩ : ∃ m, (lvK x.1.1 k).getD y 0 = m := ⟨_, rfl⟩
          rw [hll2] at hly hlb
          have HM := Lib.hid (show mxL (lvK x.1.1 k) (gg.2.2.take (j + 1)) = max mm (ly + 1) by rw [takeS hy, mxL_snoc, hmm, hll2])
          obtain ⟨nm, hnm⟩ : ∃ m, max mm (ly + 1) = m := ⟨_, rfl⟩
          rw [hnm] at HM
          have hmx : max (mm : Int) ((ly : Int) + 1) = (nm : Int) := by omega
          have f7 : decide ((j : Int) < (gg.2.2.length : Int)) = true := decide_eq_true (by omega)
          have hia : (0 ≤ (j : Int) ∧ (j : Int) < (gg.2.2.length : Int)) := ⟨by omega, by omega⟩
          have hic : (0 ≤ (y : Int) ∧ (y : Int) < (n : Int)) := ⟨by omega, by omega⟩
          clear hy hmm hll2 hnm hsi hgi
          go_wp2_with fail
          go_region
          go_wp2
          go_roundw
          case measure => simp [intOf]; omega
          case rel =>
            refine ⟨j + 1, by go_num, by omega, ?_, ?_⟩
            · rw [HM.out]
              have h := HSI.out.level nm
              rw [HLL.out] at h
              first | exact h | exact h.of (Below.drew (Below.refl _ _))
            · have h := obj_neD (c := V6.heap.size + 1) (i := k) (.int .i64 (nm : Int)) (show GB ≠ V6.heap.size + 1 by omega) HGI.out
              first | exact h | exact obj_drew h
        · have hke : j = gg.2.2.length := by omega
          subst hke
          have f7 : decide ((gg.2.2.length : Int) < (gg.2.2.length : Int)) = false := decide_eq_false (by omega)
          rw [List.take_length] at hmm
          have HM := Lib.hid hmm
          have k0 := HB0.out 0 k
          have k1 := HB0.out 1 k
          have k2 := HB0.out 2 k
          have k3 := HB0.out 3 k
          have k4 := HB0.out 4 k
          have k5 := HB1.out k (by omega)
          have k6 := HB2.out k (by omega)
          rw [List.take_length, hmm] at hsi
          unfold cntV at hsi
          obtain ⟨c0', e0⟩ : ∃ c, cntK x.1.1 0 k = c := ⟨_, rfl⟩
          obtain ⟨c1', e1⟩ : ∃ c, cntK x.1.1 1 k = c := ⟨_, rfl⟩
          obtain ⟨c2', e2⟩ : ∃ c, cntK x.1.1 2 k = c := ⟨_, rfl⟩
          obtain ⟨c3', e3⟩ : ∃ c, cntK x.1.1 3 k = c := ⟨_, rfl⟩
          obtain ⟨c4', e4⟩ : ∃ c, cntK x.1.1 4 k = c := ⟨_, rfl⟩
          obtain ⟨ip, e5⟩ : ∃ c, inpK x.1.1 k = c := ⟨_, rfl⟩
          obtain ⟨tp, e6⟩ : ∃ c, topK x.1.1 k = c := ⟨_, rfl⟩
          rw [e0, e1, e2, e3, e4, e5, e6] at hsi
          rw [e0] at k0
          rw [e1] at k1
          rw [e2] at k2
          rw [e3] at k3
          rw [e4] at k4
          rw [e5] at k5
          rw [e6] at k6
          have HCC := Lib.hid (show cntK x.1.1 0 k = c0' ∧ cntK x.1.1 1 k = c1' ∧ cntK x.1.1 2 k = c2' ∧ cntK x.1.1 3 k = c3' ∧ cntK x.1.1 4 k = c4' from ⟨e0, e1, e2, e3, e4⟩)
          obtain ⟨ip2, hip⟩ : ∃ d : Nat, (d : Int) = (ip : Int) + (gg.2.2.length : Int) := ⟨ip + gg.2.2.length, by omega⟩
          obtain ⟨tp2, htp⟩ : ∃ m, max tp mm = m := ⟨_, rfl⟩
          have HTP := Lib.hid (show topK x.1.1 (k + 1) = tp2 ∧ inpK x.1.1 (k + 1) = ip2 from ⟨by rw [topK_succ HGG.out, e6, hmm, htp], by rw [inpK_succ HGG.out, e5]; omega⟩)
          have hmx : max (tp : Int) (mm : Int) = (tp2 : Int) := by omega
          have hs3 := hsi.count 5 (.int .i64 (ip2 : Int))
          simp only [List.setIfInBounds_toArray, List.set_cons_zero, List.set_cons_succ] at hs3
          have hg3 := obj_neD (c := V6.heap.size) (i := 5) (.int .i64 (ip2 : Int)) (show GB ≠ V6.heap.size by omega) hgi
          obtain ⟨⟨q0, q1, q2, q3, q4, q5, q6⟩, r0, r1, r2, r3, r4, r5, r6⟩ := cell7 hsi.cnt
          have HS3 := Lib.hid hs3
          have HG3 := Lib.hid hg3
          clear hmm htp hsi hgi hs3 hg3 e0 e1 e2 e3 e4 e5 e6
          go_wp2_with fail
          rw [← hip]
          obtain ⟨Y, hY⟩ : ∃ Y, wi.setCell ⟨V6.heap.size, 5, none⟩ (.int .i64 (ip2 : Int)) = Y := ⟨_, rfl⟩
          rw [hY] at HS3 HG3 ⊢
          clear hY hip q0 q1 q2 q3 q4 q5 q6 r0 r1 r2 r3 r4 r5 r6 p0 p1 p2 l0 l1'
          obtain ⟨l0, l1'⟩ := HS3.out.lev.at hkl
          rw [show (lvK x.1.1 k ++ [mm]).getD k 0 = mm by rw [List.getD_eq_getElem?_getD, List.getElem?_append_right (by rw [HLL.out]; exact Nat.le_refl _), HLL.out, Nat.sub_self]; rfl] at l0
          obtain ⟨⟨q0, q1, q2, q3, q4, q5, q6⟩, r0, r1, r2, r3, r4, r5, r6⟩ := cell7 HS3.out.cnt
          obtain ⟨p0, p1, p2⟩ := box3 HG3.out
          have HK0 := Lib.hid (show clsG gg = if gg.1 = 1 then 0 else if gg.1 = 2 then 1 else if gg.1 = 3 then 2 else if gg.1 = 4 then 3 else 4 from rfl)
          by_cases h1 : gg.1 = 1
          · have f2 : ((gg.1 : Int) == 1) = true := by simp [h1]
            have HK := Lib.hid h1
            clear h1
            have HC0 := Lib.hid (show clsG gg = 0 by rw [HK0.out, HK.out]; rfl)
            go_region
            go_wp2
            refine ⟨⟨k + 1, by go_num, by omega, ?_⟩, by simp [intOf]; omega⟩
            have hcl := HC0.out
            have hcc := HCC.out
            have HC : (cntK x.1.1 0 (k + 1) : Int) = (c0' : Int) + 1 ∧ (cntK x.1.1 1 (k + 1) : Int) = (c1' : Int) ∧ (cntK x.1.1 2 (k + 1) : Int) = (c2' : Int) ∧ (cntK x.1.1 3 (k + 1) : Int) = (c3' : Int) ∧ (cntK x.1.1 4 (k + 1) : Int) = (c4' : Int) := ⟨by rw [cntK_hit HGG.out hcl]; omega, by rw [cntK_miss HGG.out (by rw [hcl]; decide)]; omega, by rw [cntK_miss HGG.out (by rw [hcl]; decide)]; omega, by rw [cntK_miss HGG.out (by rw [hcl]; decide)]; omega, by rw [cntK_miss HGG.out (by rw [hcl]; decide)]; omega⟩
            have h := (HS3.out.count 6 (.int .i64 (tp2 : Int))).count 0 (.int .i64 ((c0' : Int) + 1))
            simp only [List.setIfInBounds_toArray, List.set_cons_zero, List.set_cons_succ] at h
            unfold cntV
            rw [lvK_succ HGG.out, HM.out, HC.1, HC.2.1, HC.2.2.1, HC.2.2.2.1, HC.2.2.2.2, HTP.out.1, HTP.out.2]
            exact h.of (Below.drew (Below.refl _ _))
          have f21 : ((gg.1 : Int) == 1) = false := by simp; omega
          by_cases h2 : gg.1 = 2
          · have f2 : ((gg.1 : Int) == 2) = true := by simp [h2]
            have HK := Lib.hid h2
            clear h2
            have HC0 := Lib.hid (show clsG gg = 1 by rw [HK0.out, HK.out]; rfl)
            go_region
            go_wp2
            refine ⟨⟨k + 1, by go_num, by omega, ?_⟩, by simp [intOf]; omega⟩
            have hcl := HC0.out
            have hcc := HCC.out
            have HC : (cntK x.1.1 0 (k + 1) : Int) = (c0' : Int) ∧ (cntK x.1.1 1 (k + 1) : Int) = (c1' : Int) + 1 ∧ (cntK x.1.1 2 (k + 1) : Int) = (c2' : Int) ∧ (cntK x.1.1 3 (k + 1) : Int) = (c3' : Int) ∧ (cntK x.1.1 4 (k + 1) : Int) = (c4' : Int) := ⟨by rw [cntK_miss HGG.out (by rw [hcl]; decide)]; omega, by rw [cntK_hit HGG.out hcl]; omega, by rw [cntK_miss HGG.out (by rw [hcl]; decide)]; omega, by rw [cntK_miss HGG.out (by rw [hcl]; decide)]; omega, by rw [cntK_miss HGG.out (by rw [hcl]; decide)]; omega⟩
            have h := (HS3.out.count 6 (.int .i64 (tp2 : Int))).count 1 (.int .i64 ((c1' : Int) + 1))
            simp only [List.setIfInBounds_toArray, List.set_cons_zero, List.set_cons_succ] at h
            unfold cntV
            rw [lvK_succ HGG.out, HM.out, HC.1, HC.2.1, HC.2.2.1, HC.2.2.2.1, HC.2.2.2.2, HTP.out.1, HTP.out.2]
            exact h.of (Below.drew (Below.refl _ _))
          have f22 : ((gg.1 : Int) == 2) = false := by simp; omega
          by_cases h3 : gg.1 = 3
          · have f2 : ((gg.1 : Int) == 3) = true := by simp [h3]
            have HK := Lib.hid h3
            clear h3
            have HC0 := Lib.hid (show clsG gg = 2 by rw [HK0.out, HK.out]; rfl)
            go_region
            go_wp2
            refine ⟨⟨k + 1, by go_num, by omega, ?_⟩, by simp [intOf]; omega⟩
            have hcl := HC0.out
            have hcc := HCC.out
            have HC : (cntK x.1.1 0 (k + 1) : Int) = (c0' : Int) ∧ (cntK x.1.1 1 (k + 1) : Int) = (c1' : Int) ∧ (cntK x.1.1 2 (k + 1) : Int) = (c2' : Int) + 1 ∧ (cntK x.1.1 3 (k + 1) : Int) = (c3' : Int) ∧ (cntK x.1.1 4 (k + 1) : Int) = (c4' : Int) := ⟨by rw [cntK_miss HGG.out (by rw [hcl]; decide)]; omega, by rw [cntK_miss HGG.out (by rw [hcl]; decide)]; omega, by rw [cntK_hit HGG.out hcl]; omega, by rw [cntK_miss HGG.out (by rw [hcl]; decide)]; omega, by rw [cntK_miss HGG.out (by rw [hcl]; decide)]; omega⟩
            have h := (HS3.out.count 6 (.int .i64 (tp2 : Int))).count 2 (.int .i64 ((c2' : Int) + 1))
            simp only [List.setIfInBounds_toArray, List.set_cons_zero, List.set_cons_succ] at h
            unfold cntV
            rw [lvK_succ HGG.out, HM.out, HC.1, HC.2.1, HC.2.2.1, HC.2.2.2.1, HC.2.2.2.2, HTP.out.1, HTP.out.2]
            exact h.of (Below.drew (Below.refl _ _))
          have f23 : ((gg.1 : Int) == 3) = false := by simp; omega
          by_cases h4 : gg.1 = 4
          · have f2 : ((gg.1 : Int) == 4) = true := by simp [h4]
            have HK := Lib.hid h4
            clear h4
            have HC0 := Lib.hid (show clsG gg = 3 by rw [HK0.out, HK.out]; rfl)
            go_region
            go_wp2
            refine ⟨⟨k + 1, by go_num, by omega, ?_⟩, by simp [intOf]; omega⟩
            have hcl := HC0.out
            have hcc := HCC.out
            have HC : (cntK x.1.1 0 (k + 1) : Int) = (c0' : Int) ∧ (cntK x.1.1 1 (k + 1) : Int) = (c1' : Int) ∧ (cntK x.1.1 2 (k + 1) : Int) = (c2' : Int) ∧ (cntK x.1.1 3 (k + 1) : Int) = (c3' : Int) + 1 ∧ (cntK x.1.1 4 (k + 1) : Int) = (c4' : Int) := ⟨by rw [cntK_miss HGG.out (by rw [hcl]; decide)]; omega, by rw [cntK_miss HGG.out (by rw [hcl]; decide)]; omega, by rw [cntK_miss HGG.out (by rw [hcl]; decide)]; omega, by rw [cntK_hit HGG.out hcl]; omega, by rw [cntK_miss HGG.out (by rw [hcl]; decide)]; omega⟩
            have h := (HS3.out.count 6 (.int .i64 (tp2 : Int))).count 3 (.int .i64 ((c3' : Int) + 1))
            simp only [List.setIfInBounds_toArray, List.set_cons_zero, List.set_cons_succ] at h
            unfold cntV
            rw [lvK_succ HGG.out, HM.out, HC.1, HC.2.1, HC.2.2.1, HC.2.2.2.1, HC.2.2.2.2, HTP.out.1, HTP.out.2]
            exact h.of (Below.drew (Below.refl _ _))
          have f24 : ((gg.1 : Int) == 4) = false := by simp; omega
          have HK := Lib.hid (And.intro h1 (And.intro h2 (And.intro h3 h4)))
          clear h1 h2 h3 h4
          have HC0 := Lib.hid (show clsG gg = 4 by rw [HK0.out, if_neg HK.out.1, if_neg HK.out.2.1, if_neg HK.out.2.2.1, if_neg HK.out.2.2.2])
          go_region
          go_wp2
          refine ⟨⟨k + 1, by go_num, by omega, ?_⟩, by simp [intOf]; omega⟩
          have hcl := HC0.out
          have hcc := HCC.out
          have HC : (cntK x.1.1 0 (k + 1) : Int) = (c0' : Int) ∧ (cntK x.1.1 1 (k + 1) : Int) = (c1' : Int) ∧ (cntK x.1.1 2 (k + 1) : Int) = (c2' : Int) ∧ (cntK x.1.1 3 (k + 1) : Int) = (c3' : Int) ∧ (cntK x.1.1 4 (k + 1) : Int) = (c4' : Int) + 1 := ⟨by rw [cntK_miss HGG.out (by rw [hcl]; decide)]; omega, by rw [cntK_miss HGG.out (by rw [hcl]; decide)]; omega, by rw [cntK_miss HGG.out (by rw [hcl]; decide)]; omega, by rw [cntK_miss HGG.out (by rw [hcl]; decide)]; omega, by rw [cntK_hit HGG.out hcl]; omega⟩
          have h := (HS3.out.count 6 (.int .i64 (tp2 : Int))).count 4 (.int .i64 ((c4' : Int) + 1))
          simp only [List.setIfInBounds_toArray, List.set_cons_zero, List.set_cons_succ] at h
          unfold cntV
          rw [lvK_succ HGG.out, HM.out, HC.1, HC.2.1, HC.2.2.1, HC.2.2.2.1, HC.2.2.2.2, HTP.out.1, HTP.out.2]
          exact h.of (Below.drew (Below.refl _ _))
    · have hke : k = n := by omega
      subst hke
      have f1 : decide ((k : Int) < (k : Int)) = false := decide_eq_false (by omega)
      have hcb := hS.cnt
      rw [show cntV x.1.1 k = #[.int .i64 (c0 : Int), .int .i64 (c1 : Int), .int .i64 (c2 : Int), .int .i64 (c3 : Int), .int .i64 (c4 : Int), .int .i64 (c5 : Int), .int .i64 (c6 : Int)] from by rw [← HN.out]; exact HCT.out] at hcb
      have sb := obj_in hS.bel Osb.out
      have xb := obj_in hS.bel Oxb.out
      replace HX := Lib.hid (HX.out.of hS.bel)
      replace HS := Lib.hid (HS.out.of hS.bel)
      replace HDS := Lib.hid (HDS.out.of hS.bel)
      have HCB := Lib.hid hcb
      have HSB := Lib.hid sb
      have HXB := Lib.hid xb
      clear HST HB0 HB1 HB2 HB3 hS hbw hcb sb xb Osb Oxb HB
      go_wp2_with fail
      have htb := tables_any x.1.1 _ x.2.1 x.2.2.2.1 x.2.2.1 x.1.2.length x.2.2.2.2 wo HOK.out.1 HX.out.ok.hg (by omega) (fun g hg => by have := l3 g hg; omega)
      unfold nV at htb
      rw [HN.out] at htb
      refine htb.mono ?_
      rintro e WT hR
      unfold RetU at hR
      obtain ⟨tv, rfl, htu, hbT⟩ := hR
      obtain ⟨ta, tc, rfl, hct⟩ := ownU_sl htu
      simp only [tabs_len] at hct ⊢
      rw [HN.out] at hct ⊢
      have hcb := obj_in hbT HCB.out
      have sb := obj_in hbT HSB.out
      have xb := obj_in hbT HXB.out
      replace HX := Lib.hid (HX.out.of hbT)
      replace HS := Lib.hid (HS.out.of hbT)
      replace HDS := Lib.hid (HDS.out.of hbT)
      have HB := Lib.hid (HBW.out.trans (hbT.mono HBW.out.size))
      have HCTt := Lib.hid hct
      clear HCB HSB HXB HBW htb htu hct hbT m0 m1
      obtain ⟨⟨q0, q1, q2, q3, q4, q5, q6⟩, -⟩ := cell7 hcb
      obtain ⟨⟨s0, s1, s2, s3, s4, s5, s6⟩, -⟩ := cell7 sb
      obtain ⟨n0, n1, -⟩ := box2 xb
      have hcm := fun w => count_same (c0 : Int) c1 c2 c3 c4 c5 c6 w
      have hgd := guard_count
      have HXB := Lib.hid xb
      clear xb sb hcb
      go_wp2_with fail
      clear q0 q1 q2 q3 q4 q5 q6 s0 s1 s2 s3 s4 s5 s6 hcm hgd n0 n1
      go_loopw [17] (fun iv wr => ∃ i : Nat, iv = .int .i64 (i : Int) ∧ i ≤ x.1.2.length ∧ ∃ q : Bel WT, wr = q.w) (fun iv _ => x.1.2.length - (intOf iv).toNat)
      case atStart => exact ⟨0, rfl, Nat.zero_le _, ⟨WT, Below.refl _ _⟩, rfl⟩
      case round =>
        obtain ⟨i, rfl, hi, q, rfl⟩ := hrel
        rcases Nat.lt_or_ge i x.1.2.length with hi1 | hi1
        · obtain ⟨o, ho⟩ := some_at hi1
          obtain ⟨xd, hxd⟩ := some_at (show i < dl.length by have := HDL.out; omega)
          obtain ⟨ho1, ob, off, hoa, hcx⟩ := out_at x (HX.out.of q.below) ho
          obtain ⟨dg, c', hdv, hdg, t0, t1⟩ := (HDS.out.of q.below).at hxd
          injection hdv with hdv hd2 hd3
          subst hdv hd3
          clear hd2
          have hxr := R6_tab HOK.out.1 ho1 (HDR.out i xd _ hxd (outF_get (N := x.1) ho))
          have hin := ((HDS.out.of q.below).2 xd (List.mem_of_getElem? hxd)).1
          obtain ⟨tg, hta, -, htg, htc⟩ := HCTt.out (by have := HN.out; omega)
          subst hta
          have htt := q.below.cell (p := ⟨tg, o, none⟩) htg |>.trans (htc o _ (tabs_get ho1))
          have hTl := tabI_lt x.1.1 o
          obtain ⟨T, hT⟩ : ∃ T, tabI x.1.1 o = T := ⟨_, rfl⟩
          rw [hT] at hxr htt hTl
          obtain ⟨xa, xc, xl⟩ := xd
          dsimp only at hxr t0 t1 hin
          subst hxr
          have hML := bld_len hTl
          have HMK := Lib.hid (fun W (_ : Below q.w.heap.size q.w W) => lawMake_any T hTl W)
          unfold RetBd at HMK
          dsimp only at t0 t1 hin
          obtain ⟨M, hM⟩ : ∃ M, bldN T = M := ⟨_, rfl⟩
          obtain ⟨r, hr⟩ : ∃ r, bldR T = r := ⟨_, rfl⟩
          rw [hM] at t0 hin hML HMK
          rw [hr] at t1 HMK
          have HEQ := Lib.hid (fun W (ad : Option Addr) (c : Nat) (hb : Below q.w.heap.size q.w W) (hi : InD W.heap.size W ad (M.map z3)) => (show Calls Tryz.prog 26 #[.agg #[.slice xa M.length xc, .int .i64 (r : Int)], .agg #[.slice ad M.length c, .int .i64 (r : Int)]] W (Ret (.bool true) W) from by
            have h := dEqual_any (xa, xc, M.map z3, (r : Int)) (ad, c, M.map z3, (r : Int)) W ((hin.of hb).up hb.size) hi (by simp; omega) (by simp; omega)
            simp only [List.length_map, and_self, decide_true] at h
            exact h))
          obtain ⟨n0, n1, -⟩ := box2 (obj_in q.below HXB.out)
          rw [hoa] at n1
          clear hoa
          have g1 : decide ((i : Int) < (x.1.2.length : Int)) = true := decide_eq_true (by omega)
          have g2 : (0 ≤ (i : Int) ∧ (i : Int) < (x.1.2.length : Int)) := ⟨by omega, by omega⟩
          have hkk := HN.out
          have g3 : (0 ≤ (o : Int) ∧ (o : Int) < (k : Int)) := ⟨by omega, by omega⟩
          have SK := Lib.hid (show ∀ V : World, Below q.w.heap.size q.w V → V.cell? ⟨dg, i * 2, none⟩ = some (.slice xa M.length xc) ∧ V.cell? ⟨dg, i * 2 + 1, none⟩ = some (.int .i64 (r : Int)) ∧ V.cell? ⟨w.heap.size, 1, none⟩ = some (.slice (some ⟨ob, off, none⟩) x.1.2.length x.2.2.2.2) ∧ V.cell? ⟨ob, off + i, none⟩ = some (.int .i64 (o : Int)) ∧ V.cell? ⟨tg, o, none⟩ = some (.int .u64 (T : Int)) ∧ Below q.w.heap.size q.w V from fun V h => ⟨below_cell h _ _ _ t0, below_cell h _ _ _ t1, below_cell h _ _ _ n1, below_cell h _ _ _ hcx, below_cell h _ _ _ htt, h⟩)
          have hRf : Below q.w.heap.size q.w q.w := Below.refl _ _
          have HQB := Lib.hid q.below
          clear hT hM hr ho hxd hin htc hdg n0 hkk
          go_wp2_with fail
          go_region_held3 (fun V => V.cell? ⟨dg, i * 2, none⟩ = some (.slice xa M.length xc) ∧ V.cell? ⟨dg, i * 2 + 1, none⟩ = some (.int .i64 (r : Int)) ∧ V.cell? ⟨w.heap.size, 1, none⟩ = some (.slice (some ⟨ob, off, none⟩) x.1.2.length x.2.2.2.2) ∧ V.cell? ⟨ob, off + i, none⟩ = some (.int .i64 (o : Int)) ∧ V.cell? ⟨tg, o, none⟩ = some (.int .u64 (T : Int)) ∧ Below q.w.heap.size q.w V) (exact SK.out _ (by (repeat' (first | (with_reducible first | apply Zl1 | apply Zl2 | apply Zl3 | apply Zl4 | apply Zl5 | apply Zl6 | apply Zl7 | apply Zl8 | apply Zl9 | apply Zla | apply Zlb | apply Zlc) | (dsimp only; with_reducible first | apply Zl8 | apply Zl2 | apply Zld) | with_reducible assumption | omega | (dsimp only; omega))))) (first | (go_at_call 27; with_reducible apply callsAt HMK.out; ((repeat' (first | (with_reducible first | apply Zl1 | apply Zl2 | apply Zl3 | apply Zl4 | apply Zl5 | apply Zl6 | apply Zl7 | apply Zl8 | apply Zl9 | apply Zla | apply Zlb | apply Zlc) | (dsimp only; with_reducible first | apply Zl8 | apply Zl2 | apply Zld) | with_reducible assumption | omega | (dsimp only; omega)))); intro e6 W6 hR6; obtain ⟨ad6, c6', hQ6, hi6, hb6⟩ := hR6; subst hQ6; obtain ⟨q6, rfl⟩ : ∃ q : Bel _, W6 = q.w := ⟨⟨W6, hb6⟩, rfl⟩; have HI6 := Lib.hid hi6; have hq6 := q6.size_le; try simp only [World.size_alloc, drew_size] at hq6; clear hi6 hb6; dsimp only) | (go_at_call 26; refine (HEQ.out _ _ _ (by (repeat' (first | (with_reducible first | apply Zl1 | apply Zl2 | apply Zl3 | apply Zl4 | apply Zl5 | apply Zl6 | apply Zl7 | apply Zl8 | apply Zl9 | apply Zla | apply Zlb | apply Zlc) | (dsimp only; with_reducible first | apply Zl8 | apply Zl2 | apply Zld) | with_reducible assumption | omega | (dsimp only; omega)))) HI6.out).mono ?_; rintro _ _ ⟨rfl, y7, rfl⟩; have hy7 := y7.size_le; dsimp only))
          all_goals (rename_i hHeld; go_wp2; go_roundw; (case rel => first | exact ⟨i + 1, by go_num, by omega, ⟨_, HQB.out.trans (hHeld.2.2.2.2.2.mono HQB.out.size)⟩, rfl⟩ | ((repeat apply Exists.intro); exact ⟨⟨i + 1, by go_num, by omega, ⟨_, HQB.out.trans (hHeld.2.2.2.2.2.mono HQB.out.size)⟩, rfl⟩, rfl⟩)); (case measure => simp [intOf]; omega))
        · have hke : i = x.1.2.length := by omega
          subst hke
          have g1 : decide ((x.1.2.length : Int) < (x.1.2.length : Int)) = false := decide_eq_false (by omega)
          obtain ⟨n0, n1, -⟩ := box2 (obj_in q.below HXB.out)
          have HSQ := Lib.hid (HS.out.of q.below)
          have HBQ := Lib.hid (HB.out.trans (q.below.mono HB.out.size))
          have hBQs := HBQ.out.size
          rcases HSQ.out with ⟨i0, o, rfl, ho, rfl, rfl, hin⟩ | ⟨hr, rfl, rfl⟩
          · have hi0l := (List.getElem?_eq_some_iff.1 ho).1
            have g2 : decide ((i0 : Int) < 0) = false := decide_eq_false (by omega)
            have g3 : decide ((x.1.2.length : Int) ≤ (i0 : Int)) = false := decide_eq_false (by omega)
            have g4 : decide (x.1.2.length ≤ i0) = false := decide_eq_false (by omega)
            have HO := Lib.hid ho
            have HIN := Lib.hid hin
            clear ho hin
            go_wp2_with fail
            have hre := lawReached_any x.1.1 x.1.2 6 (i0 : Int) _ _ x.2.1 x.2.2.2.1 x.2.2.1 x.2.2.2.2 q.w HOK.out.1 (HX.out.of q.below).ok.hg (HX.out.of q.below).ok.ho HOK.out.2 (by omega) (by omega) (fun g hg => by have := l3 g hg; omega)
            rw [mkL_one x.1.2 i0 o HO.out] at hre
            unfold nV at hre
            rw [HN.out] at hre
            refine hre.mono ?_
            rintro e WR hR
            unfold RetBs at hR
            obtain ⟨rg, rc, rfl, hro, hbR⟩ := hR
            rw [bsOf_len]
            have HRO := Lib.hid hro
            have HXR := Lib.hid ((HX.out.of q.below).of hbR)
            have HXC := Lib.hid (obj_in hbR (obj_in q.below HXB.out))
            have HIR := Lib.hid (HIN.out.of hbR)
            have HBR := Lib.hid (HBQ.out.trans (hbR.mono hBQs))
            have HTS := Lib.hid (fun v => isT_sup x.1.1 o v)
            have hon : backG x.1.1 k (fun j => decide (j ∈ [o])) = reachG x.1.1 [o] := by unfold reachG; rw [HN.out]
            rw [hon] at HRO
            rw [HN.out] at HTS
            have HSP := Lib.hid (supG_spec x.1.1 [o])
            obtain ⟨on, hon2⟩ : ∃ on, reachG x.1.1 [o] = on := ⟨_, rfl⟩
            obtain ⟨sp, hsp⟩ : ∃ sp, supG x.1.1 [o] = sp := ⟨_, rfl⟩
            have HPOS := Lib.hid (show (∀ z ∈ sp, 0 ≤ z) ∧ (∀ z ∈ sp, z < 6) from by
              rw [← hsp]
              refine ⟨fun z hz => ?_, fun z hz => ?_⟩
              · obtain ⟨j, _, _, _, rfl⟩ := (HSP.out.2 z).1 hz
                omega
              · obtain ⟨j, hj, _, h1, rfl⟩ := (HSP.out.2 z).1 hz
                have h2 := HOK.out.1 j _ (gtAt_get hj)
                rcases h2 with ⟨_, h, _⟩ | ⟨h, _⟩ | ⟨h, _⟩ | ⟨h, _⟩ <;> omega)
            have hspl := HS.out.len HOK.out.1
            rw [hsp] at hspl
            rw [hon2, hsp] at HTS
            rw [hon2] at HRO
            rw [hsp] at HIR HSP ⊢
            have HSR := Lib.hid HSP.out.1
            clear hbR hro hre hon hon2 hsp HSP HIN n0 n1 g1 g2 g3 g4
            dsimp only
            obtain ⟨n0, n1, -⟩ := box2 HXC.out
            go_wp2_with fail
            clear n0 n1
            go_loopw [19, 20] (fun kv vv wr => ∃ v kk : Nat, vv = .int .i64 (v : Int) ∧ kv = .int .i64 (kk : Int) ∧ v ≤ 6 ∧ CutAt sp (v : Int) kk ∧ ∃ r : Bel WR, wr = r.w) (fun _ vv _ => 6 - (intOf vv).toNat)
            case atStart => exact ⟨0, 0, rfl, rfl, by omega, cut_zero HPOS.out.1, ⟨WR, Below.refl _ _⟩, rfl⟩
            case round =>
              obtain ⟨v, kk, rfl, rfl, hv, hcut, r, rfl⟩ := hrel
              have HCU := Lib.hid hcut
              have hkl := hcut.1
              have hrs := HBR.out.size
              rcases Nat.lt_or_ge v 6 with hv6 | hv6
              · have g5 : decide ((v : Int) < 6) = true := decide_eq_true (by omega)
                clear hcut
                go_wp2_with fail
                go_loopw [21, 22] (fun tv iv wi => ∃ i : Nat, iv = .int .i64 (i : Int) ∧ i ≤ k ∧ tv = .bool (isT x.1.1 on v i) ∧ ∃ r2 : Bel WR, wi = r2.w) (fun _ iv _ => k - (intOf iv).toNat)
                case atStart => exact ⟨0, rfl, Nat.zero_le _, rfl, r, rfl⟩
                case round =>
                  obtain ⟨i, rfl, hi, rfl, r2, rfl⟩ := hrel
                  obtain ⟨n0, n1, -⟩ := box2 (obj_in r2.below HXC.out)
                  rcases Nat.lt_or_ge i k with hik | hik
                  · have hix : i < x.1.1.length := by have := HN.out; omega
                    have g6 : decide ((i : Int) < (k : Int)) = true := decide_eq_true (by omega)
                    have g7 : (0 ≤ (i : Int) ∧ (i : Int) < (k : Int)) := ⟨by omega, by omega⟩
                    have HST := Lib.hid (isT_succ x.1.1 on v i)
                    obtain ⟨bt, hbt⟩ : ∃ b, isT x.1.1 on v i = b := ⟨_, rfl⟩
                    rw [hbt] at HST ⊢
                    have hro := ownB_is (ownB_bel HRO.out r2.below) (bsOf_at (m := on) hik)
                    obtain ⟨gg, hgg⟩ : ∃ gg, x.1.1[i]? = some gg := ⟨_, List.getElem?_eq_getElem hix⟩
                    obtain ⟨b2, o2, hadd, hb2, ax, cx, y0, y1, y2, hiy⟩ := (HXR.out.of r2.below).ok.hg.at (show (x.1.1.map gz)[i]? = some (gz gg) by rw [List.getElem?_map, hgg]; rfl)
                    rw [gtAt_some hgg] at HST
                    rw [hadd] at n0
                    dsimp only [gz] at y0 y1
                    clear hbt hadd hgg hiy y2 n1 hix
                    cases bt with
                    | true =>
                      go_wp2
                      go_roundw
                      case rel => exact ⟨i + 1, by go_num, by omega, by rw [HST.out, Bool.true_or] <;> rfl, r2, rfl⟩
                      case measure => simp [intOf]; omega
                    | false =>
                      obtain ⟨bo, hbo⟩ : ∃ b, on i = b := ⟨_, rfl⟩
                      rw [hbo] at HST hro
                      clear hbo
                      cases bo with
                      | false =>
                        go_wp2
                        go_roundw
                        case rel => exact ⟨i + 1, by go_num, by omega, by rw [HST.out, Bool.false_and] <;> rfl, r2, rfl⟩
                        case measure => simp [intOf]; omega
                      | true =>
                        by_cases hk1 : gg.1 = 1
                        · have g8 : ((gg.1 : Int) == 1) = true := by simp [hk1]
                          have HK1 := Lib.hid (decide_eq_true hk1)
                          clear hk1
                          by_cases ha1 : gg.2.1 = v
                          · have g9 : ((gg.2.1 : Int) == (v : Int)) = true := by simp [ha1]
                            have HA1 := Lib.hid (decide_eq_true ha1)
                            clear ha1
                            go_wp2
                            go_roundw
                            case rel => exact ⟨i + 1, by go_num, by omega, by rw [HST.out, HK1.out,HA1.out] <;> rfl, r2, rfl⟩
                            case measure => simp [intOf]; omega
                          · have g9 : ((gg.2.1 : Int) == (v : Int)) = false := by simp; omega
                            have HA1 := Lib.hid (decide_eq_false ha1)
                            clear ha1
                            go_wp2
                            go_roundw
                            case rel => exact ⟨i + 1, by go_num, by omega, by rw [HST.out, HK1.out,HA1.out] <;> rfl, r2, rfl⟩
                            case measure => simp [intOf]; omega
                        · have g8 : ((gg.1 : Int) == 1) = false := by simp; omega
                          have HK1 := Lib.hid (decide_eq_false hk1)
                          clear hk1
                          go_wp2
                          go_roundw
                          case rel => exact ⟨i + 1, by go_num, by omega, by rw [HST.out, HK1.out] <;> rfl, r2, rfl⟩
                          case measure => simp [intOf]; omega
                  · have hke : i = k := by omega
                    subst hke
                    have g6 : decide ((i : Int) < (i : Int)) = false := decide_eq_false (by omega)
                    have hts := HTS.out v
                    obtain ⟨bt, hbt⟩ : ∃ b, isT x.1.1 on v i = b := ⟨_, rfl⟩
                    rw [hbt] at hts ⊢
                    clear hbt
                    cases bt with
                    | true =>
                      obtain ⟨hsk, hcu2⟩ := cut_in HSR.out HCU.out (hts.1 rfl)
                      have hskl := (List.getElem?_eq_some_iff.1 hsk).1
                      have HC2 := Lib.hid hcu2
                      obtain ⟨sb3, so3, hsa, -, hsc⟩ := (HIR.out.of r2.below).at hsk
                      subst hsa
                      have g7 : decide ((sp.length : Int) ≤ (kk : Int)) = false := decide_eq_false (by omega)
                      have g8 : decide (sp.length ≤ kk) = false := decide_eq_false (by omega)
                      have g9 : (0 ≤ (kk : Int) ∧ (kk : Int) < (sp.length : Int)) := ⟨by omega, by omega⟩
                      clear hts hsk hcu2
                      go_wp2
                      exact ⟨⟨v + 1, kk + 1, by go_num, by go_num, by omega, HC2.out, r2, rfl⟩, by simp [intOf]; omega⟩
                    | false =>
                      have hcu2 := cut_out HCU.out (fun h => by have := hts.2 h; cases this)
                      have HC2 := Lib.hid hcu2
                      clear hts hcu2
                      go_wp2
                      exact ⟨⟨v + 1, kk, by go_num, rfl, by omega, HC2.out, r2, rfl⟩, by simp [intOf]; omega⟩
              · have hke : v = 6 := by omega
                subst hke
                have g5 : decide (((6 : Nat) : Int) < 6) = false := by decide
                have hkk := cut_end hcut HPOS.out.2
                subst hkk
                clear hcut
                go_wp2
                go_ret
                exact Ret.mk rfl (HBR.out.trans (r.below.mono hrs))
          · rcases hr with hr | hr
            · have g2 : decide (out < 0) = true := decide_eq_true hr
              go_wp2
              go_ret
              exact Ret.mk rfl HBQ.out
            · have g2 : decide (out < 0) = false := decide_eq_false (by omega)
              have g3 : decide ((x.1.2.length : Int) ≤ out) = true := decide_eq_true hr
              go_wp2
              go_ret
              exact Ret.mk rfl HBQ.out
end Go.Proofs.YtlnedapimmabdaaGreatDoor
