/- Sorting and compacting ints of the call's own (as for formulas). minimize.support. minimize.bounded. -/
import Derived.Sort.OwnSortedInts
import Derived.Test.YtlnedapimmabdaaGreatDoorW2
import Derived.Test.YtlnedapimmabdaaGreatDoorShelf
namespace Go.Proofs.YtlnedapimmabdaaGreatDoor
set_option linter.unusedVariables false
set_option linter.unusedSimpArgs false
open Go.RowKit
attribute [local go_sem low] Bel.cell Bel.frozen alloc_cell alloc_frozen

def intsV (l : List Int) : List Value := l.map (Value.int .i64)
theorem ownV_cut {w : World} {base : Nat} {e : TypeId} {a : Option Addr} {n c : Nat} {l : List Value} (h : OwnV w base e (.slice a n c) l) (k : Nat) (hk : k ≤ l.length) : OwnV w base e (.slice a k c) (l.take k) := by
  have hkl : (l.take k).length = k := by rw [List.length_take]; omega
  unfold OwnV at h ⊢
  rw [hkl]
  obtain ⟨hxl, ⟨hv, h0⟩ | ⟨g, cap, cur, hv, hg, hh, hn, hc, hcs, hcur⟩⟩ := h
  · have : k = 0 := by omega
    subst this
    injection hv with e1 e2 e3
    subst e1 e2 e3
    exact World.ownsRow_nil _ _ _ _
  · injection hv with e1 e2 e3
    subst e1 e3
    refine ⟨by rw [hkl]; omega, .inr ⟨g, c, cur, rfl, hg, hh, by omega, hc, hcs, ?_⟩⟩
    rw [← hcur, List.take_take]
    congr 1
    omega
theorem sort_own (w : World) (base : Nat) (v : Value) (zs : List Int) (h : OwnV w base 3 v (intsV zs)) (hl : zs.length ≤ 17592186044416) :
    Calls Tryz.prog 73 #[v] w fun e w' => e = .returned (.tuple #[]) ∧ OwnV w' base 3 v (intsV (zs.mergeSort fun x y => decide (x ≤ y))) ∧ w.grownBy w' v.ownBlock := by
  have hz : (intsV zs).length = zs.length := by simp [intsV]
  by_cases h0 : zs = []
  · subst h0
    have h' := h
    obtain ⟨_, hh⟩ := h
    have hv : ∃ p c, v = .slice p 0 c := by
      rcases hh with ⟨rfl, _⟩ | ⟨g, cap, cur, hv, _⟩
      · exact ⟨_, _, rfl⟩
      · exact ⟨_, _, hv⟩
    obtain ⟨p, c, rfl⟩ := hv
    refine (Tryz.slices_Sort_int_none p c w).mono ?_
    rintro _ _ ⟨rfl, rfl⟩
    refine ⟨rfl, by simpa using h', ⟨rfl, rfl, rfl, Nat.le_refl _, fun _ _ _ => rfl⟩⟩
  · obtain ⟨_, ⟨_, hn⟩ | ⟨g, cap, cur, rfl, hg, hh, hn, hc, hcs, hcur⟩⟩ := h
    · rw [hz] at hn; exact absurd (List.length_eq_zero_iff.1 hn) h0
    · rw [hz] at hn hcur ⊢
      have hH := holds_of_blockI (ss := zs) hh (by simpa [intsV] using hcur)
      refine (Tryz.slices_Sort_int g 0 cap zs w hH (Array.getElem?_eq_some_iff.1 hh).1 (by omega)).mono ?_
      rintro _ _ ⟨rfl, n, os, rfl⟩
      have hlen : (zs.mergeSort fun x y => decide (x ≤ y)).length = zs.length := List.length_mergeSort _
      refine ⟨rfl, ?_, grownBy_sortedI _⟩
      have := ownsRow_sortedI (w := w) (n := n) (os := os) (e := 3) hlen hg hh hn hc hcs
      unfold OwnV intsV
      rw [List.length_map, hlen]
      exact this
theorem compact_own (w : World) (base : Nat) (v : Value) (zs : List Int) (h : OwnV w base 3 v (intsV zs)) (hl : zs.length ≤ 17592186044416) :
    Calls Tryz.prog 74 #[v] w fun e w' => ∃ v', e = .returned v' ∧ OwnV w' base 3 v' (intsV (Lib.compact zs)) ∧ w.grownBy w' v.ownBlock ∧ v'.ownBlock = v.ownBlock := by
  have hz : (intsV zs).length = zs.length := by simp [intsV]
  by_cases h0 : zs = []
  · subst h0
    have h' := h
    obtain ⟨_, hh⟩ := h
    have hv : ∃ p c, v = .slice p 0 c := by
      rcases hh with ⟨rfl, _⟩ | ⟨g, cap, cur, hv, _⟩
      · exact ⟨_, _, rfl⟩
      · exact ⟨_, _, hv⟩
    obtain ⟨p, c, rfl⟩ := hv
    refine (Tryz.slices_Compact_int_empty p c w).mono ?_
    rintro _ _ ⟨rfl, rfl⟩
    exact ⟨_, rfl, by simpa [Lib.compact, Lib.compactUpTo] using h', ⟨rfl, rfl, rfl, Nat.le_refl _, fun _ _ _ => rfl⟩, rfl⟩
  · obtain ⟨_, ⟨_, hn⟩ | ⟨g, cap, cur, rfl, hg, hh, hn, hc, hcs, hcur⟩⟩ := h
    · rw [hz] at hn; exact absurd (List.length_eq_zero_iff.1 hn) h0
    · rw [hz] at hn hcur ⊢
      have hH := holds_of_blockI (ss := zs) hh (by simpa [intsV] using hcur)
      refine (Tryz.slices_Compact_int g 0 cap zs w hH (by omega) hn).mono ?_
      rintro _ _ ⟨rfl, n, rfl⟩
      have hcl : (Lib.compact zs).length ≤ zs.length := by
        unfold Lib.compact Lib.compactUpTo
        rw [List.length_map]
        exact Nat.le_trans (List.length_filter_le _ _) (by simp)
      have hlen : (Lib.compact zs ++ List.replicate (zs.length - (Lib.compact zs).length) 0).length = zs.length := by simp; omega
      have h1 := ownsRow_sortedI (w := w) (n := n) (os := #[]) (e := 3) hlen hg hh hn hc hcs
      have h2 := grownBy_sortedI (w := w) (g := g) (n := n) (os := #[]) (Lib.compact zs ++ List.replicate (zs.length - (Lib.compact zs).length) 0).toArray
      rw [Sort.grow_empty] at h1 h2
      refine ⟨_, rfl, ?_, h2, rfl⟩
      have h3 : OwnV (Sort.putRow (Value.int .i64) (Sort.ahead w n) g 0 (Lib.compact zs ++ List.replicate (zs.length - (Lib.compact zs).length) 0).toArray) base 3 (.slice (some ⟨g, 0, none⟩) zs.length cap) (intsV (Lib.compact zs ++ List.replicate (zs.length - (Lib.compact zs).length) 0)) := by
        unfold OwnV intsV
        rw [List.length_map, hlen]
        exact h1
      have h4 := ownV_cut h3 (Lib.compact zs).length (by unfold intsV; rw [List.length_map, hlen]; exact hcl)
      have e : (intsV (Lib.compact zs ++ List.replicate (zs.length - (Lib.compact zs).length) 0)).take (Lib.compact zs).length = intsV (Lib.compact zs) := by
        unfold intsV
        rw [← List.map_take, List.take_left]
      rw [e] at h4
      exact h4
end Go.Proofs.YtlnedapimmabdaaGreatDoor

namespace Go.Proofs.YtlnedapimmabdaaGreatDoor
set_option linter.unusedVariables false
set_option linter.unusedSimpArgs false
open Go.RowKit
attribute [local go_sem low] Bel.cell Bel.frozen alloc_cell alloc_frozen

def supL (G : List Gt) (on : Nat → Bool) (k : Nat) : List Int := ((List.range k).filter fun j => on j && decide ((gtAt G j).1 = 1)).map fun j => ((gtAt G j).2.1 : Int)
theorem supL_succ (G : List Gt) (on : Nat → Bool) (k : Nat) : supL G on (k + 1) = supL G on k ++ (if on k && decide ((gtAt G k).1 = 1) then [((gtAt G k).2.1 : Int)] else []) := by
  unfold supL
  rw [List.range_succ, List.filter_append, List.map_append]
  congr 1
  cases h : on k && decide ((gtAt G k).1 = 1) <;> simp [h]
theorem supL_len (G : List Gt) (on : Nat → Bool) (k : Nat) : (supL G on k).length ≤ k := by
  unfold supL
  rw [List.length_map]
  exact Nat.le_trans (List.length_filter_le _ _) (by simp)
def supG (G : List Gt) (outs : List Nat) : List Int := Lib.compact ((supL G (reachG G outs) G.length).mergeSort fun x y => decide (x ≤ y))
def RetSup (l : List Int) (w : World) (e : Ending) (w' : World) : Prop := ∃ v, e = .returned v ∧ OwnV w' w.heap.size 3 v (intsV l) ∧ Below w.heap.size w w'
set_option maxRecDepth 100000 in
set_option maxHeartbeats 6400000 in
theorem support_any (G : List Gt) (O : List Nat) (v : Nat) (P Q : Nat → Prop) (ga oa : Option Addr) (gc oc : Nat) (i o : Nat) (w : World) (hio : O[i]? = some o) (hok : okL v G) (hg : InGt P w ga (G.map gz)) (ho : InS Q w oa (intsN O)) (hO : ∀ o ∈ O, o < G.length) (hl : G.length ≤ 1000000) (hol : O.length ≤ 100000000) (hoc : O.length ≤ oc) (hoc2 : oc ≤ 9223372036854775807) (hil : ∀ g ∈ G, g.2.2.length ≤ 17592186044416) :
    Calls Tryz.prog 48 #[nV ga G.length gc oa O.length oc, .int .i64 (i : Int)] w (RetSup (supG G [o]) w) := by
  obtain ⟨i0, hi0, hz0, hz1, hz2⟩ := info_parts Tryz.infoI
  have hiO : i < O.length := (List.getElem?_eq_some_iff.1 hio).1
  obtain ⟨bo, oo, hadd, hbo, hpo, hco⟩ : ∃ bo oo, oa = some ⟨bo, oo, none⟩ ∧ bo < w.heap.size ∧ Q bo ∧ ∀ (j : Nat) (x : Int), (intsN O)[j]? = some x → w.cell? ⟨bo, oo + j, none⟩ = some (.int .i64 x) := by
    obtain ⟨b, off, e, hp, hcs⟩ := ho (by unfold intsN; rw [List.length_map]; omega)
    exact ⟨b, off, e, World.block_lt_of_cell? w _ (hcs i (o : Int) (by unfold intsN; rw [List.getElem?_map, hio]; rfl)), hp, hcs⟩
  subst hadd
  have hone : InS Q w (some ⟨bo, oo + i, none⟩) (intsN [o]) := fun _ => ⟨bo, oo + i, rfl, hpo, fun j x hj => by
    cases j with
    | zero =>
      have : x = (o : Int) := by simpa [intsN] using hj.symm
      subst this
      exact hco i _ (by unfold intsN; rw [List.getElem?_map, hio]; rfl)
    | succ j => simp [intsN] at hj⟩
  have HRE := Lib.hid (fun w' (hb : Below w.heap.size w w') => reached_any G [o] v P Q ga (some ⟨bo, oo + i, none⟩) (some ⟨bo, oo, none⟩) gc (oc - i) O.length oc w' hok (hg.of hb) (hone.of hb) (fun x hx => by rw [List.mem_singleton.1 hx]; exact hO o (List.mem_of_getElem? hio)) hl (by simp) hil)
  have HG := Lib.hid hg
  obtain ⟨n, hn⟩ : ∃ n, G.length = n := ⟨_, rfl⟩
  have HN := Lib.hid hn
  rw [hn] at HRE hl ⊢
  unfold supG
  rw [hn]
  obtain ⟨on, hon⟩ : ∃ on, reachG G [o] = on := ⟨_, rfl⟩
  rw [hon] at HRE ⊢
  clear hok hg ho hO hil hn hio hpo hco hone hon
  unfold nV at HRE ⊢
  go_enter Tryz.func48, Tryz.ntmps48
  go_wp2_with fail
  obtain ⟨Y, hY⟩ : ∃ Y, w.alloc (.cells #[.slice ga n gc, .slice (some ⟨bo, oo, none⟩) O.length oc] 25 (0, 0)) = Y := ⟨_, rfl⟩
  have hYs : Y.heap.size = w.heap.size + 1 := by rw [← hY]; exact World.size_alloc ..
  have hYb : Below w.heap.size w Y := by rw [← hY]; exact (Below.refl _ w).alloc (Nat.le_refl _) _
  have hYo : Y.heap[w.heap.size]? = some (.cells #[.slice ga n gc, .slice (some ⟨bo, oo, none⟩) O.length oc] 25 (0, 0)) := by rw [← hY]; exact World.alloc_heap_new ..
  obtain ⟨y0, y1, -⟩ := box2 hYo
  have HYO := Lib.hid hYo
  have t1 : IntKind.i64.wrap ((i : Int) + 1) = (i : Int) + 1 := IntWalk.i64_in _ (by omega)
  have hsl : ∀ V, (Instr.sliceAt 23 (.slice (some ⟨bo, oo, none⟩) O.length oc) (some (.int .i64 (i : Int))) (some (.int .i64 ((i : Int) + 1))) none).run Tryz.prog V = .ok (.slice (some ⟨bo, oo + i, none⟩) 1 (oc - i)) V := fun V => by
    rw [run_sliceAt_slice (P := Tryz.prog) V 23 _ _ _ _ (by kernel_rfl), run_slice_lh (P := Tryz.prog) V 23 _ _ _ (by kernel_rfl) .i64 .i64 (i : Int) ((i : Int) + 1) (by omega) (by omega) (by omega)]
    have e1 : ((i : Int) + 1).toNat = i + 1 := by omega
    have e2 : ¬ oc = i := by omega
    go_simp
  have SK := Lib.hid (show ∀ V : World, Below Y.heap.size Y V → V.cell? ⟨w.heap.size, 0, none⟩ = some (.slice ga n gc) ∧ V.cell? ⟨w.heap.size, 1, none⟩ = some (.slice (some ⟨bo, oo, none⟩) O.length oc) from
    fun V h => ⟨below_cell h _ _ _ y0, below_cell h _ _ _ y1⟩)
  have hRf : Below Y.heap.size Y Y := Below.refl _ _
  have HYB := Lib.hid hYb
  rw [hY]
  clear hY hYo
  go_region_held3 (fun V => V.cell? ⟨w.heap.size, 0, none⟩ = some (.slice ga n gc) ∧ V.cell? ⟨w.heap.size, 1, none⟩ = some (.slice (some ⟨bo, oo, none⟩) O.length oc)) (first | exact SK3.out _ (Below.refl _ _) | exact SK.out _ (by (repeat' (first | (with_reducible first | apply Zl1 | apply Zl2 | apply Zl3 | apply Zl4 | apply Zl5 | apply Zl6 | apply Zl7 | apply Zl8 | apply Zl9 | apply Zla | apply Zlb | apply Zlc) | (dsimp only; with_reducible first | apply Zl8 | apply Zl2 | apply Zld) | with_reducible assumption | omega | (dsimp only; omega))))) ((go_at_call 61; refine (HRE.out _ (HYB.out.trans (Below.mono (show Below Y.heap.size Y _ by (repeat' (first | (with_reducible first | apply Zl1 | apply Zl2 | apply Zl3 | apply Zl4 | apply Zl5 | apply Zl6 | apply Zl7 | apply Zl8 | apply Zl9 | apply Zla | apply Zlb | apply Zlc) | (dsimp only; with_reducible first | apply Zl8 | apply Zl2 | apply Zld) | with_reducible assumption | omega | (dsimp only; omega)))) HYB.out.size))).mono ?_; rintro _ W3 ⟨g, cap, rfl, how, hb3⟩; have hy3 := (show Below Y.heap.size Y _ by (repeat' (first | (with_reducible first | apply Zl1 | apply Zl2 | apply Zl3 | apply Zl4 | apply Zl5 | apply Zl6 | apply Zl7 | apply Zl8 | apply Zl9 | apply Zla | apply Zlb | apply Zlc) | (dsimp only; with_reducible first | apply Zl8 | apply Zl2 | apply Zld) | with_reducible assumption | omega | (dsimp only; omega)))).trans (hb3.mono (show Below Y.heap.size Y _ by (repeat' (first | (with_reducible first | apply Zl1 | apply Zl2 | apply Zl3 | apply Zl4 | apply Zl5 | apply Zl6 | apply Zl7 | apply Zl8 | apply Zl9 | apply Zla | apply Zlb | apply Zlc) | (dsimp only; with_reducible first | apply Zl8 | apply Zl2 | apply Zld) | with_reducible assumption | omega | (dsimp only; omega)))).size); have SK3 := Lib.hid (fun (V : World) (h : Below W3.heap.size W3 V) => SK.out V (hy3.trans (h.mono hy3.size))); have HOW := Lib.hid how; have HY3 := Lib.hid hy3; have HB3 := Lib.hid hb3; clear how hb3 hy3))
  all_goals
    rw [bsOf_len]
    have HYS := Lib.hid hYs
    clear SK3 hRf y0 y1
    go_wp2_with fail
    go_loopw [5, 17] (fun ov iv wr => ∃ k : Nat, iv = .int .i64 (k : Int) ∧ k ≤ n ∧ OwnV wr W3.heap.size 3 ov (intsV (supL G on k)) ∧ Below W3.heap.size W3 wr) (fun _ iv _ => n - (intOf iv).toNat)
    case atStart => exact ⟨0, rfl, by omega, World.ownsRow_nil _ _ _ _, Below.refl _ _⟩
    case round =>
      obtain ⟨k, rfl, hk, how, hbe⟩ := hrel
      have HOV := Lib.hid how
      have HBE := Lib.hid hbe
      have hll := supL_len G on k
      obtain ⟨L, hL⟩ : ∃ L, (supL G on k).length = L := ⟨_, rfl⟩
      rw [hL] at hll
      have HON := Lib.hid (show wr.ownsRow W3.heap.size 3 1 u5 L (intsV (supL G on k)) from by have h := how; unfold OwnV at h; rw [show (intsV (supL G on k)).length = L by unfold intsV; rw [List.length_map, hL]] at h; exact h)
      have hwY := HY3.out.trans (hbe.mono HY3.out.size)
      have hwW : Below w.heap.size w wr := HYB.out.trans (hwY.mono HYB.out.size)
      obtain ⟨y0, y1, -⟩ := box2 (obj_below hwY (by have := HYS.out; omega) HYO.out)
      have hws := hbe.size
      have HL := Lib.hid hL
      clear how hL
      rcases Nat.lt_or_ge k n with hkl | hkl
      · obtain ⟨gg, hgg⟩ : ∃ gg, G[k]? = some gg := ⟨_, List.getElem?_eq_getElem (by rw [HN.out]; exact hkl)⟩
        obtain ⟨b1, o1, hadd, hb1, ax, cx, x0, x1, -, -⟩ := (HG.out.of hwW).at (show (G.map gz)[k]? = some (gz gg) by rw [List.getElem?_map, hgg]; rfl)
        subst hadd
        have e0 := below_cell hbe _ _ _ (ownB_is HOW.out (bsOf_at hkl))
        have hga : gtAt G k = gg := by rw [gtAt, List.getD_eq_getElem?_getD, hgg]; rfl
        have hsu := supL_succ G on k
        rw [hga] at hsu
        obtain ⟨q, hq⟩ : ∃ q, on k = q := ⟨_, rfl⟩
        rw [hq] at e0 hsu
        have HSU := Lib.hid hsu
        have f1 : decide ((k : Int) < (n : Int)) = true := decide_eq_true (by omega)
        have hib : (0 ≤ (k : Int) ∧ (k : Int) < (n : Int)) := ⟨by omega, by omega⟩
        dsimp only [gz] at x0 x1
        clear hgg hga hsu hq hbe hwY hwW
        cases q
        · go_wp2
          go_roundw
          case rel => exact ⟨k + 1, by go_num, by omega, by rw [HSU.out]; simpa using HOV.out, HBE.out⟩
          case measure => simp [intOf]; omega
        · by_cases hk1 : gg.1 = 1
          · have f2 : ((gg.1 : Int) == 1) = true := by simp [hk1]
            have HK1 := Lib.hid hk1
            clear hk1
            go_wp2_with (at_builtin; refine wpList_append_own _ rfl _ _ 23 rfl W3.heap.size 3 i0 (.int .i64 0) 1 8 Tryz.underlying23 hi0 hz0 hz1 hz2 rfl (by decide) _ L (intsV (supL G on k)) rfl (World.ownsRow.alloc (HON.out) _) ⟨wr.heap.size, 0, none⟩ 1 1 [.int .i64 (gg.2.1 : Int)] rfl rfl (cell_one_new _ _ _) (by simp [Value.oneCell']) (by unfold maxLen; omega) (by omega) (by simp; omega) ?_; intro v1 w1 hown1 hgrow1 _; have HOW1 := Lib.hid hown1; have HGR1 := Lib.hid hgrow1; clear hown1 hgrow1)
            have hs1 := HGR1.out.size
            simp only [World.size_alloc] at hs1
            go_roundw
            case rel =>
              refine ⟨k + 1, by go_num, by omega, ?_, ?_⟩
              · rw [HSU.out, if_pos (by simp [HK1.out])]
                show w1.ownsRow W3.heap.size 3 1 v1 _ _
                have e : intsV (supL G on k ++ [(gg.2.1 : Int)]) = intsV (supL G on k) ++ [.int .i64 (gg.2.1 : Int)] := by simp [intsV]
                rw [e, List.length_append, show (intsV (supL G on k)).length = L by unfold intsV; rw [List.length_map, HL.out]]
                exact HOW1.out
              · exact (HBE.out.alloc (by omega) _).grown HGR1.out (by simp; omega) (fun g hg => by have := (World.ownsRow.lt HON.out g hg).1; omega)
            case measure => simp [intOf]; omega
          · have f2 : ((gg.1 : Int) == 1) = false := by simp; omega
            have HK1 := Lib.hid hk1
            clear hk1
            go_wp2
            go_roundw
            case rel => exact ⟨k + 1, by go_num, by omega, by rw [HSU.out]; simpa [HK1.out] using HOV.out, HBE.out⟩
            case measure => simp [intOf]; omega
      · have hke : k = n := by omega
        subst hke
        have f1 : decide ((k : Int) < (k : Int)) = false := decide_eq_false (by omega)
        have hvl : (supL G on k).length ≤ 17592186044416 := by have := supL_len G on k; omega
        have HS := Lib.hid (sort_own wr W3.heap.size u5 (supL G on k) HOV.out hvl)
        have hlo : ∀ g, u5.ownBlock = some g → W3.heap.size ≤ g := fun g hg => (World.ownsRow.lt HON.out g hg).1
        have HLO := Lib.hid hlo
        have HCO := Lib.hid (fun w' (h : OwnV w' W3.heap.size 3 u5 (intsV ((supL G on k).mergeSort fun x y => decide (x ≤ y)))) => compact_own w' W3.heap.size u5 _ h (by rw [List.length_mergeSort]; exact hvl))
        have HWW := Lib.hid hwW
        have HY4 := Lib.hid (HYB.out.trans (HY3.out.mono HYB.out.size))
        clear hlo hvl hbe hwY hwW
        go_wp2_with fail
        refine HS.out.mono ?_
        rintro _ W1 ⟨rfl, how1, hg1⟩
        have HOW1 := Lib.hid how1
        have HG1 := Lib.hid hg1
        clear how1 hg1
        dsimp only
        go_wp2_with fail
        refine (HCO.out _ HOW1.out).mono ?_
        rintro _ W2 ⟨v2, rfl, how2, hg2, hv2⟩
        have HOW2 := Lib.hid how2
        have HG2 := Lib.hid hg2
        clear how2 hg2 hv2
        dsimp only
        go_wp2
        have hz : w.heap.size ≤ W3.heap.size := HY4.out.size
        refine bodyPost_ret (v := v2) (by simp [results, Tryz.results48, go_sem]) rfl ⟨v2, rfl, ownV_mono HOW2.out hz, ?_⟩
        have b1 := HWW.out.grown HG1.out HWW.out.size (fun g hg => by have := HLO.out g hg; omega)
        exact b1.grown HG2.out (by have := HG1.out.size; have := HWW.out.size; omega) (fun g hg => by have := HLO.out g hg; omega)
end Go.Proofs.YtlnedapimmabdaaGreatDoor

namespace Go.Proofs.YtlnedapimmabdaaGreatDoor
set_option linter.unusedVariables false
set_option linter.unusedSimpArgs false
open Go.RowKit
attribute [local go_sem low] Bel.cell Bel.frozen alloc_cell alloc_frozen

abbrev NW := Nt × Option Addr × Nat × Option Addr × Nat
def nwV (x : NW) : Value := nV x.2.1 x.1.1.length x.2.2.1 x.2.2.2.1 x.1.2.length x.2.2.2.2
structure NWok (v : Nat) (w : World) (x : NW) : Prop where
  ok : okN v x.1
  hg : InGt (fun b => b < w.heap.size) w x.2.1 (x.1.1.map gz)
  ho : InS (fun b => b < w.heap.size) w x.2.2.2.1 (intsN x.1.2)
  hl : x.1.1.length ≤ 1000000
  hol : x.1.2.length ≤ 100000000
  hoc : x.1.2.length ≤ x.2.2.2.2
  hoc2 : x.2.2.2.2 ≤ 9223372036854775807
  hil : ∀ g ∈ x.1.1, g.2.2.length ≤ 17592186044416
theorem NWok.of {v : Nat} {w w' : World} {x : NW} (h : NWok v w x) (hb : Below w.heap.size w w') : NWok v w' x :=
  ⟨h.ok, (h.hg.of hb).imp fun b hb' _ => hb', (h.ho.of hb).imp fun b hb' _ => hb', h.hl, h.hol, h.hoc, h.hoc2, h.hil⟩
theorem supp_any (v : Nat) (x : NW) (i o : Nat) (w : World) (h : NWok v w x) (hio : x.1.2[i]? = some o) : Calls Tryz.prog 48 #[nwV x, .int .i64 (i : Int)] w (RetSup (supG x.1.1 [o]) w) :=
  support_any x.1.1 x.1.2 v _ _ x.2.1 x.2.2.2.1 x.2.2.1 x.2.2.2.2 i o w hio h.ok.1 h.hg h.ho h.ok.2 h.hl h.hol h.hoc h.hoc2 h.hil
theorem ownV_shape {w : World} {base : Nat} {e : TypeId} {v : Value} {l : List Value} (h : OwnV w base e v l) : ∃ a c, v = .slice a l.length c := by
  rcases h.2 with ⟨rfl, h0⟩ | ⟨g, cap, cur, rfl, _⟩
  · exact ⟨none, 0, by rw [h0]⟩
  · exact ⟨_, _, rfl⟩
def bigO (x : Nt) (o : Nat) : Bool := decide (20 < (supG x.1 [o]).length)
def bErr (vs : Int) (ns : List NW) : Nat := if 4096 < vs then 4 else if ns.any (fun x => x.1.2.any (bigO x.1)) then 4 else 0
def InNs (w : World) (a : Option Addr) (ns : List NW) : Prop := 0 < ns.length → ∃ b off, a = some ⟨b, off, none⟩ ∧ ∀ (j : Nat) (x : NW), ns[j]? = some x → w.cell? ⟨b, off + j * 2, none⟩ = some (.slice x.2.1 x.1.1.length x.2.2.1) ∧ w.cell? ⟨b, off + j * 2 + 1, none⟩ = some (.slice x.2.2.2.1 x.1.2.length x.2.2.2.2)
set_option maxRecDepth 100000 in
set_option maxHeartbeats 6400000 in
theorem bounded_any (v : Nat) (ns : List NW) (a : Option Addr) (cap : Nat) (vs : Int) (w : World) (hns : ∀ x ∈ ns, NWok v w x) (hrow : InNs w a ns) (hl : ns.length ≤ 1000) :
    Calls Tryz.prog 38 #[.int .i64 vs, .slice a ns.length cap] w (Ret (.int .i64 (bErr vs ns : Int)) w) := by
  unfold bErr
  by_cases hv : 4096 < vs
  · rw [if_pos hv]
    have f0 : decide (4096 < vs) = true := decide_eq_true hv
    clear hns hrow
    go_enter Tryz.func38, Tryz.ntmps38
    go_wp2
    go_ret
    exact Ret.mk (by rfl) (by (repeat' (first | (with_reducible first | apply Zl1 | apply Zl2 | apply Zl3 | apply Zl4 | apply Zl5 | apply Zl6 | apply Zl7 | apply Zl8 | apply Zl9 | apply Zla | apply Zlb | apply Zlc) | (dsimp only; with_reducible first | apply Zl8 | apply Zl2 | apply Zld) | with_reducible assumption | omega | (dsimp only; omega))))
  have f0 : decide (4096 < vs) = false := decide_eq_false hv
  rw [if_neg hv]
  have HNS := Lib.hid hns
  have HRO := Lib.hid hrow
  obtain ⟨r, hr⟩ : ∃ r : Nat, (if ns.any (fun x => x.1.2.any (bigO x.1)) then 4 else 0) = r := ⟨_, rfl⟩
  rw [hr]
  have HR := Lib.hid hr
  clear hns hrow hr
  go_enter Tryz.func38, Tryz.ntmps38
  go_wp2
  go_loopw [12] (fun iv wr => ∃ k : Nat, iv = .int .i64 (k : Int) ∧ k ≤ ns.length ∧ (ns.take k).any (fun x => x.1.2.any (bigO x.1)) = false ∧ Below w.heap.size w wr) (fun iv _ => ns.length - (intOf iv).toNat)
  case atStart => exact ⟨0, rfl, by omega, rfl, Below.refl _ _⟩
  case round =>
    obtain ⟨k, rfl, hk, hA, hb⟩ := hrel
    have HA := Lib.hid hA
    have HB := Lib.hid hb
    have hws := hb.size
    clear hA
    rcases Nat.lt_or_ge k ns.length with hkl | hkl
    · obtain ⟨x, hx⟩ := some_at hkl
      obtain ⟨b0, off, hadd, hcs⟩ := HRO.out (by omega)
      subst hadd
      obtain ⟨x0, x1⟩ := hcs k x hx
      have y0 := below_cell hb _ _ _ x0
      have y1 := below_cell hb _ _ _ x1
      have hok := HNS.out x (List.mem_of_getElem? hx)
      have f1 : decide ((k : Int) < (ns.length : Int)) = true := decide_eq_true (by omega)
      have hib : (0 ≤ (k : Int) ∧ (k : Int) < (ns.length : Int)) := ⟨by omega, by omega⟩
      have HX := Lib.hid hx
      have HOK := Lib.hid hok
      have hol := hok.hol
      rename World => WO
      clear hcs x0 x1 hx hok hb
      go_wp2
      have HX1 := Lib.hid (show (WO.alloc (.cells #[.slice x.2.1 x.1.1.length x.2.2.1, .slice x.2.2.2.1 x.1.2.length x.2.2.2.2] 25 (0, 0))).heap[WO.heap.size]? = some (.cells #[.slice x.2.1 x.1.1.length x.2.2.1, .slice x.2.2.2.1 x.1.2.length x.2.2.2.2] 25 (0, 0)) from World.alloc_heap_new ..)
      go_loopw [19] (fun iv wr => ∃ j : Nat, iv = .int .i64 (j : Int) ∧ j ≤ x.1.2.length ∧ (x.1.2.take j).any (bigO x.1) = false ∧ Below (WO.heap.size + 1) (WO.alloc (.cells #[.slice x.2.1 x.1.1.length x.2.2.1, .slice x.2.2.2.1 x.1.2.length x.2.2.2.2] 25 (0, 0))) wr) (fun iv _ => x.1.2.length - (intOf iv).toNat)
      case atStart => exact ⟨0, rfl, by omega, rfl, Below.refl _ _⟩
      case round =>
        obtain ⟨j, rfl, hj, hA2, hb2⟩ := hrel
        have HA2 := Lib.hid hA2
        have hWW : Below WO.heap.size WO wr := ((Below.refl _ WO).alloc (Nat.le_refl _) _).trans (hb2.mono (by omega))
        have hbw : Below w.heap.size w wr := HB.out.trans (hWW.mono hws)
        obtain ⟨z0, z1, -⟩ := box2 (obj_below hb2 (by omega) HX1.out)
        have HWW := Lib.hid hWW
        have HBW := Lib.hid hbw
        have HB2 := Lib.hid hb2
        have hs2 := hWW.size
        clear hA2 hb2 hWW hbw
        rcases Nat.lt_or_ge j x.1.2.length with hjl | hjl
        · obtain ⟨o, ho⟩ := some_at hjl
          have f2 : decide ((j : Int) < (x.1.2.length : Int)) = true := decide_eq_true (by omega)
          have HSU := Lib.hid (supp_any v x j o wr (HOK.out.of HBW.out) ho)
          have HO := Lib.hid ho
          clear ho
          go_wp2_with fail
          refine HSU.out.mono ?_
          rintro _ W2 ⟨v2, rfl, how, hb3⟩
          obtain ⟨sa, sc, rfl⟩ := ownV_shape how
          rw [show (intsV (supG x.1.1 [o])).length = (supG x.1.1 [o]).length by unfold intsV; rw [List.length_map]]
          have HB3 := Lib.hid hb3
          obtain ⟨q, hq⟩ : ∃ q, bigO x.1 o = q := ⟨_, rfl⟩
          have f3 : decide (20 < ((supG x.1.1 [o]).length : Int)) = q := by
            rw [← hq, bigO]
            exact decide_eq_decide.2 ⟨fun h => by omega, fun h => by omega⟩
          have HQ := Lib.hid hq
          clear how hb3 hq
          dsimp only
          cases q
          · go_wp2
            go_roundw
            case rel =>
              refine ⟨j + 1, by go_num, by omega, ?_, HB2.out.trans (HB3.out.mono (by have := HB2.out.size; simp at this; omega))⟩
              rw [List.take_add_one, HO.out, List.any_append, HA2.out]
              simp [HQ.out]
            case measure => simp [intOf]; omega
          · have hr4 : r = 4 := by
              rw [← HR.out, if_pos]
              rw [List.any_eq_true]
              refine ⟨x, List.mem_of_getElem? HX.out, ?_⟩
              rw [List.any_eq_true]
              exact ⟨o, List.mem_of_getElem? HO.out, HQ.out⟩
            subst hr4
            have hwf := HBW.out.trans (HB3.out.mono HBW.out.size)
            go_wp2
            go_ret
            exact Ret.mk (by rfl) (by (repeat' (first | (with_reducible first | apply Zl1 | apply Zl2 | apply Zl3 | apply Zl4 | apply Zl5 | apply Zl6 | apply Zl7 | apply Zl8 | apply Zl9 | apply Zla | apply Zlb | apply Zlc) | (dsimp only; with_reducible first | apply Zl8 | apply Zl2 | apply Zld) | with_reducible assumption | omega | (dsimp only; omega))))
        · have hje : j = x.1.2.length := by omega
          subst hje
          have f2 : decide ((x.1.2.length : Int) < (x.1.2.length : Int)) = false := decide_eq_false (by omega)
          have hfin := HA2.out
          rw [List.take_length] at hfin
          have HF := Lib.hid hfin
          clear hfin
          go_wp2
          go_roundw
          case rel =>
            refine ⟨k + 1, by go_num, by omega, ?_, HBW.out⟩
            rw [List.take_add_one, HX.out, List.any_append, HA.out]
            simp [HF.out]
          case measure => simp [intOf]; omega
    · have hke : k = ns.length := by omega
      subst hke
      have f1 : decide ((ns.length : Int) < (ns.length : Int)) = false := decide_eq_false (by omega)
      have h := HA.out
      rw [List.take_length] at h
      have hr0 : r = 0 := by rw [← HR.out, h]; rfl
      subst hr0
      clear h
      go_wp2
      go_ret
      exact Ret.mk (by rfl) (by (repeat' (first | (with_reducible first | apply Zl1 | apply Zl2 | apply Zl3 | apply Zl4 | apply Zl5 | apply Zl6 | apply Zl7 | apply Zl8 | apply Zl9 | apply Zla | apply Zlb | apply Zlc) | (dsimp only; with_reducible first | apply Zl8 | apply Zl2 | apply Zld) | with_reducible assumption | omega | (dsimp only; omega))))
end Go.Proofs.YtlnedapimmabdaaGreatDoor
