/- slices.Sorted(slices.Values(l)) at ints. slices.DeleteFunc at ints of the call's own. The cleaner's join. -/
import Derived.Test.YtlnedapimmabdaaGreatDoorW7
import Derived.Lib.SliceRun
namespace Go.Proofs.YtlnedapimmabdaaGreatDoor
set_option linter.unusedVariables false
set_option linter.unusedSimpArgs false
open Go.RowKit Go.Shelf
attribute [local go_sem low] Bel.cell Bel.frozen alloc_cell alloc_frozen
attribute [local go_sem] Oper.semAt_some

def encZ1 (x : Int) : Array Value := #[.int .i64 x]
set_option maxRecDepth 100000 in
set_option maxHeartbeats 4000000 in
theorem vals_in (n : Nat) (hn : 1 ≤ n) (l Bn n₀ : Nat) (a : Option Addr) (cap : Nat) (zs : List Int) (hBn0 : Bn < n₀) (hLl : zs.length ≤ 17592186044416) (J Jx : List Int → World → Prop)
    (hY : ∀ pre x W, J pre W → pre.length < zs.length → YieldAt Fence.wide (n - 1) Tryz.prog l (encZ1 x) W fun e W' =>
      (e = .returned (.bool true) ∧ J (pre ++ [x]) W' ∧ Below n₀ W W') ∨ (e = .returned (.bool false) ∧ Jx (pre ++ [x]) W'))
    (W : World) (hc0 : W.cell? ⟨Bn, 0, none⟩ = some (.slice a zs.length cap)) (hL : InS (fun b => b < n₀) W a zs) (h0 : J [] W) :
    CallsIn Fence.wide n Tryz.prog 103 #[.func (.yield l) #[] #[], .pointer (some ⟨Bn, 0, none⟩)] W fun e W' => (∃ v, e = .returned v) ∧
      ((∃ ys : List Int, ys = zs ∧ J ys W') ∨ (∃ pre : List Int, True ∧ Jx pre W')) := by
  refine callsIn_wide.2 ?_
  go_enter Tryz.func103, Tryz.ntmps103
  go_wp2
  refine (wpIn_wide (n := n)).1 ?_
  gi_loopw [7] (fun p wr => ∃ (k : Nat), p = .int .i64 (k : Int) ∧ k ≤ zs.length ∧ J (zs.take k) wr ∧ wr.cell? ⟨Bn, 0, none⟩ = some (.slice a zs.length cap) ∧ InS (fun b => b < n₀) wr a zs) (fun p _ => zs.length - (intOf p).toNat)
  case atStart => exact ⟨0, rfl, Nat.zero_le _, by simpa using h0, hc0, hL⟩
  case round =>
    obtain ⟨k, rfl, hk, hJs, hc, hl⟩ := hrel
    rcases Nat.lt_or_ge k zs.length with hkl | hkl
    · obtain ⟨x, hx⟩ := some_at hkl
      obtain ⟨b, off, hadd, hb, x0⟩ := hl.at hx
      obtain ⟨b', off', hadd', hbn, hcc⟩ := hl (by omega)
      rw [hadd] at hadd'
      injection hadd' with hadd'
      injection hadd' with e1 e2 _
      subst e1 e2
      obtain ⟨fn, tmps, assign, body, hy, hR⟩ := hY (zs.take k) x wr hJs (by rw [List.length_take]; omega)
      dsimp only [encZ1] at hy
      have HX := Lib.hid hx
      have HL := Lib.hid hl
      subst hadd
      have f1 : decide ((k : Int) < (zs.length : Int)) = true := decide_eq_true (by omega)
      have hib : (0 ≤ (k : Int) ∧ (k : Int) < (zs.length : Int)) := ⟨by omega, by omega⟩
      clear hx hl hcc
      gi_wp2
      refine hR.mono ?_
      rintro e W3 (⟨rfl, hJ3, hk3⟩ | ⟨rfl, hJx3⟩)
      · have hc3 := (hk3.cell (p := ⟨Bn, 0, none⟩) hBn0).trans hc
        gi_wp2
        go_roundw
        case rel => exact ⟨k + 1, by go_num, by omega, by rw [take_snoc HX.out]; exact hJ3, hc3, HL.out.move (fun b off u hb hu => (hk3.cell (p := ⟨b, off, none⟩) hb).trans hu) (fun _ _ h => h)⟩
        case measure => simp [intOf] <;> omega
      · gi_wp2
        refine bodyPost_ret (results_none rfl _ _ _) rfl ?_
        exact ⟨⟨_, rfl⟩, .inr ⟨_, trivial, hJx3⟩⟩
    · have hke : k = zs.length := by omega
      subst hke
      have f1 : decide ((zs.length : Int) < (zs.length : Int)) = false := decide_eq_false (by omega)
      rw [List.take_length] at hJs
      gi_wp2
      go_end0
      exact ⟨⟨_, rfl⟩, .inl ⟨zs, rfl, hJs⟩⟩
theorem vals_stops (n : Nat) (hn : 1 ≤ n) (Bn n₀ : Nat) (a : Option Addr) (cap : Nat) (zs : List Int) (w : World) (hLl : zs.length ≤ 17592186044416) (hBn0 : Bn < n₀) (hn0 : n₀ ≤ w.heap.size)
    (hc0 : w.cell? ⟨Bn, 0, none⟩ = some (.slice a zs.length cap)) (hL : InS (fun b => b < n₀) w a zs) :
    SeqStopsK Fence.wide n Tryz.prog 103 #[.pointer (some ⟨Bn, 0, none⟩)] encZ1 (Below n₀) (fun ys : List Int => ys = zs) (fun _ => True) zs.length w := fun l J Jx W hW hJ _ hY h0 =>
  vals_in n hn l Bn n₀ a cap zs hBn0 hLl J Jx hY W ((hW.cell (p := ⟨Bn, 0, none⟩) (by omega : Bn < w.heap.size)).trans hc0) (hL.move (fun b off u hb hu => (hW.cell (p := ⟨b, off, none⟩) (by omega : b < w.heap.size)).trans hu) (fun _ _ h => h)) h0
set_option maxRecDepth 100000 in
set_option maxHeartbeats 4000000 in
theorem appendSeqV_any (Bn : Nat) (a : Option Addr) (cap : Nat) (zs : List Int) (w : World) (hLl : zs.length ≤ 17592186044416) (hBn : Bn < w.heap.size) (hc0 : w.cell? ⟨Bn, 0, none⟩ = some (.slice a zs.length cap)) (hL : InS (fun b => b < w.heap.size) w a zs) :
    Calls Tryz.prog 121 #[.slice none 0 0, .func (.func 103) #[] #[.pointer (some ⟨Bn, 0, none⟩)]] w fun e w' => ∃ v, e = .returned v ∧ ∃ y : Bel w, w' = y.w ∧ OwnV y.w w.heap.size 3 v (intsV zs) := by
  obtain ⟨i0, hi0, hz0, hz1, hz2⟩ := info_parts Tryz.infoI
  have HL := Lib.hid hL
  clear hL
  refine (callsIn_wide (n := 3)).1 ?_
  refine callsIn_of_wp_marks Tryz.func121 rfl trivial ?_ rfl
  simp only [Tryz.ntmps121, List.size_toArray, List.length_cons, List.length_nil, Nat.reduceAdd, Nat.reduceSub, Array.replicate_succ, Array.replicate_zero, List.push_toArray, List.append_toArray, List.nil_append, List.cons_append]
  gi_wp2
  have bO := Boxed.new w 23 (.slice none 0 0)
  have hB0 : Below w.heap.size w (w.alloc (.cells #[.slice none 0 0] 23)) := by (repeat' (first | (with_reducible first | apply Zl1 | apply Zl2 | apply Zl3 | apply Zl4 | apply Zl5 | apply Zl6 | apply Zl7 | apply Zl8 | apply Zl9 | apply Zla | apply Zlb | apply Zlc) | (dsimp only; with_reducible first | apply Zl8 | apply Zl2 | apply Zld) | with_reducible assumption | omega | (dsimp only; omega)))
  have d0 : (w.alloc (.cells #[.slice none 0 0] 23)).cell? ⟨Bn, 0, none⟩ = some (.slice a zs.length cap) := by rw [hB0.cell (p := ⟨Bn, 0, none⟩) hBn]; exact hc0
  have hIA : InS (fun b => b < w.heap.size) (w.alloc (.cells #[.slice none 0 0] 23)) a zs := (HL.out.of hB0)
  refine wpIn_rangeFunc_ownG rfl (by omega : 1 ≤ 3) (gf := 103) (lb := #[.pointer (some ⟨Bn, 0, none⟩)]) rfl trivial (enters_of Tryz.func103 (by kernel_rfl) rfl)
    (vals_stops (3 - 1) (by omega) Bn w.heap.size a cap zs _ hLl hBn (by simp) d0 hIA) belowK_t (belowK_b (by simp)) (Below.refl _ _) (fun _ => rfl)
    (fun (pre : List Int) W => (∃ v, Boxed W w.heap.size 23 v ∧ W.ownsRow w.heap.size 3 1 v pre.length (intsV pre) ∧ True) ∧ Below w.heap.size w W)
    (fun _ _ _ => False)
    (OwnFrom.and (Own.from (holdsRow_own w.heap.size w.heap.size 23 3 1 (fun pre : List Int => pre.length) (fun pre : List Int => intsV pre) (fun _ _ => True)) _) (ownFrom_below (Nat.le_refl _) (by simp)))
    (fun _ _ _ _ _ hs _ _ => hs)
    ⟨⟨_, bO, World.ownsRow_nil _ _ _ _, trivial⟩, hB0⟩
    (fun x => { tmps := #[.slice none 0 0, .func (.func 103) #[] #[.pointer (some ⟨Bn, 0, none⟩)], .pointer (some ⟨w.heap.size, 0, none⟩), undef, .slice none 0 0, .int .i64 x, .func (.func 103) #[] #[.pointer (some ⟨Bn, 0, none⟩)], .int .i64 x, undef, undef, undef, undef, undef], defers := [] }) ?assign ?body ?done ?stop
  case assign =>
    intro l x W K hK
    dsimp only [encZ1]
    gi_wp2
    exact hK
  case body =>
    rintro l pre x W ⟨⟨v, hv, hrow, _⟩, hB⟩ hlt
    have hc := hv.cell
    have hBs := hB.size
    gi_wp2_with (gi_at_builtin; refine wpListIn_append_own _ rfl _ _ 23 rfl w.heap.size 3 i0 (.int .i64 0) 1 8 Tryz.underlying23 hi0 hz0 hz1 hz2 rfl (by decide) _ _ _ rfl (hrow.alloc _) ⟨W.heap.size, 0, none⟩ 1 1 [.int .i64 x] rfl rfl (cell_one_new _ _ _) (by simp [Value.oneCell']) (by unfold maxLen; omega) (by omega) (by simp; omega) ?_; intro v' w1 hown' hgrow _; obtain ⟨g', cap', rfl⟩ := ownsRow_succ hown'; obtain ⟨hv1, hv2, hr2, hk2, hb2⟩ := hv.appended (by decide) hrow hB.size (by omega) hown' hgrow; have hc1 := hv1.cell; have hf1 := hv1.frozen)
    exact ⟨hk2.from _, hb2, ⟨_, hv2, by simpa [intsV] using hr2, trivial⟩, hB.trans hb2⟩
  case done =>
    rintro D' ys W hD rfl ⟨⟨v, hv, hrow, _⟩, hB⟩ hK
    have hc := hv.cell
    gi_wp2
    refine ⟨by simp, .inl ⟨_, _, rfl, run_takeDeferred hK, ?_⟩⟩
    have hb2 := hB.trans (belowK_b (w := w) (Nat.le_refl _) W D' _ (.deferred none) (by simp at hD; omega) hK rfl rfl)
    refine ⟨_, results_tmp rfl _ _ _, v, rfl, ⟨_, hb2⟩, rfl, ?_⟩
    have := ownsRow_putObj hrow (.deferred none) hK rfl
    unfold OwnV
    rw [show (intsV ys).length = ys.length by unfold intsV; rw [List.length_map]]
    exact this
  case stop =>
    rintro D' c pre W _ _ h _
    exact h.elim
theorem collectV_any (Bn : Nat) (a : Option Addr) (cap : Nat) (zs : List Int) (w : World) (hLl : zs.length ≤ 17592186044416) (hBn : Bn < w.heap.size) (hc0 : w.cell? ⟨Bn, 0, none⟩ = some (.slice a zs.length cap)) (hL : InS (fun b => b < w.heap.size) w a zs) :
    Calls Tryz.prog 102 #[.func (.func 103) #[] #[.pointer (some ⟨Bn, 0, none⟩)]] w fun e w' => ∃ v, e = .returned v ∧ ∃ y : Bel w, w' = y.w ∧ OwnV y.w w.heap.size 3 v (intsV zs) := by
  have H := Lib.hid (appendSeqV_any Bn a cap zs w hLl hBn hc0 hL)
  clear hc0 hL
  go_enter Tryz.func102, Tryz.ntmps102
  go_wp2_with fail
  (with_reducible refine H.out.mono ?_)
  rintro _ _ ⟨v, rfl, y, rfl, hv⟩
  go_wp2
  go_ret
  exact ⟨v, rfl, y, rfl, hv⟩
theorem sortedV_any (Bn : Nat) (a : Option Addr) (cap : Nat) (zs : List Int) (w : World) (hLl : zs.length ≤ 17592186044416) (hBn : Bn < w.heap.size) (hc0 : w.cell? ⟨Bn, 0, none⟩ = some (.slice a zs.length cap)) (hL : InS (fun b => b < w.heap.size) w a zs) :
    Calls Tryz.prog 78 #[.func (.func 103) #[] #[.pointer (some ⟨Bn, 0, none⟩)]] w fun e w' => ∃ v, e = .returned v ∧ OwnV w' w.heap.size 3 v (intsV (zs.mergeSort fun x y => decide (x ≤ y))) ∧ Below w.heap.size w w' := by
  have H := Lib.hid (collectV_any Bn a cap zs w hLl hBn hc0 hL)
  clear hc0 hL
  go_enter Tryz.func78, Tryz.ntmps78
  go_wp2_with fail
  (with_reducible refine H.out.mono ?_)
  rintro _ _ ⟨v, rfl, y, rfl, hv⟩
  have HS := Lib.hid (sort_own y.w w.heap.size v zs hv (by omega))
  have HLO := Lib.hid (show ∀ g, v.ownBlock = some g → w.heap.size ≤ g from fun g hg => (ownV_lt hv hg).1)
  obtain ⟨Y, hY⟩ : ∃ Y, y.w = Y := ⟨_, rfl⟩
  have hby := y.below
  rw [hY] at HS hby ⊢
  have HBY := Lib.hid hby
  clear hv hby
  dsimp only
  go_wp2_with fail
  refine HS.out.mono ?_
  rintro _ W1 ⟨rfl, how, hg⟩
  have HOW := Lib.hid how
  have HG := Lib.hid hg
  clear how hg
  dsimp only
  go_wp2
  go_ret
  exact ⟨v, rfl, HOW.out, HBY.out.grown HG.out HBY.out.size HLO.out⟩
theorem valuesF_any (v : Value) (hv : ∃ a n c, v = .slice a n c) (w : World) : Calls Tryz.prog 79 #[v] w fun e w' => e = .returned (.func (.func 103) #[] #[.pointer (some ⟨w.heap.size, 0, none⟩)]) ∧ w' = w.alloc (.cells #[v] 23) := by
  obtain ⟨a, n, c, rfl⟩ := hv
  go_enter Tryz.func79, Tryz.ntmps79
  go_wp2
  go_ret
  exact ⟨rfl, rfl⟩
end Go.Proofs.YtlnedapimmabdaaGreatDoor

namespace Go.Proofs.YtlnedapimmabdaaGreatDoor
set_option linter.unusedVariables false
set_option linter.unusedSimpArgs false
open Go.RowKit
attribute [local go_sem low] Bel.cell Bel.frozen alloc_cell alloc_frozen

def IdxF (p : Int → Bool) (l : List Int) (w : World) (e : Ending) (w' : World) : Prop := (∃ y : Bel w, w' = y.w) ∧ ((∃ k : Nat, e = .returned (.int .i64 (k : Int)) ∧ k < l.length ∧ (l.take k).any p = false ∧ ∃ x, l[k]? = some x ∧ p x = true) ∨ (e = .returned (.int .i64 (-1)) ∧ l.any p = false))
set_option maxRecDepth 100000 in
set_option maxHeartbeats 6400000 in
theorem indexF_any (g : Nat) (lb : Array Value) (eg : ∀ args w, (callFunc g args).run Tryz.prog w = .ok (.enter g args) w) (p : Int → Bool) (l : List Int) (P : Nat → Prop) (ad : Option Addr) (cap : Nat) (w : World)
    (hi : InS P w ad l) (hl : l.length ≤ 9223372036854775807) (ht : TestI g lb p l w) : Calls Tryz.prog 75 #[.slice ad l.length cap, .func (.func g) #[] lb] w (IdxF p l w) := by
  have HI := Lib.hid hi
  have HT := Lib.hid ht
  clear hi ht
  go_enter Tryz.func75, Tryz.ntmps75
  go_wp2
  go_loopw [8] (fun i wr => ∃ k : Nat, i = .int .i64 (k : Int) ∧ k ≤ l.length ∧ Below w.heap.size w wr ∧ (l.take k).any p = false) (fun i _ => l.length - (intOf i).toNat)
  case atStart => exact ⟨0, rfl, Nat.zero_le _, Below.refl _ w, rfl⟩
  case round =>
    obtain ⟨k, rfl, hk, hb, hA⟩ := hrel
    have HA := Lib.hid hA
    clear hA
    rcases Nat.lt_or_ge k l.length with hkl | hkl
    · obtain ⟨u, hu⟩ := some_at hkl
      obtain ⟨bb, off, hadd, hp, hcs⟩ := (HI.out.of hb).at hu
      cases hadd
      have f0 : decide ((k : Int) < (l.length : Int)) = true := decide_eq_true (by omega)
      have hib : (0 ≤ (k : Int) ∧ (k : Int) < (l.length : Int)) := ⟨by omega, by omega⟩
      have hcall := HT.out u (List.mem_of_getElem? hu) wr hb
      have HU := Lib.hid hu
      clear hu
      cases hq : p u with
      | true =>
        rw [hq] at hcall
        have HQ := Lib.hid hq
        clear hq
        go_wp2_with (go_at_fn g; refine hcall.mono ?_; rintro _ _ ⟨rfl, y, rfl⟩)
        go_ret
        exact ⟨⟨⟨y.w, hb.trans (y.below.mono hb.size)⟩, rfl⟩, .inl ⟨k, rfl, hkl, HA.out, u, HU.out, HQ.out⟩⟩
      | false =>
        rw [hq] at hcall
        have HQ := Lib.hid hq
        clear hq
        go_wp2_with (go_at_fn g; refine hcall.mono ?_; rintro _ _ ⟨rfl, y, rfl⟩)
        go_roundw
        case measure => simp [intOf]; omega
        case rel =>
          refine ⟨k + 1, by go_num, by omega, hb.trans (y.below.mono hb.size), ?_⟩
          rw [List.take_add_one, HU.out, List.any_append, HA.out]
          simp [HQ.out]
    · have hke : k = l.length := by omega
      subst hke
      have f0 : decide ((l.length : Int) < (l.length : Int)) = false := decide_eq_false (by omega)
      go_wp2
      go_ret
      have h := HA.out
      rw [List.take_length] at h
      exact ⟨⟨⟨_, hb⟩, rfl⟩, .inr ⟨rfl, h⟩⟩
theorem take_set_succ {α : Type} : ∀ {A : List α} {i : Nat} (x : α), i < A.length → (A.set i x).take (i + 1) = A.take i ++ [x]
  | a :: r, 0, x, _ => by simp
  | a :: r, i + 1, x, h => by
    rw [List.set_cons_succ, List.take_succ_cons, List.take_succ_cons, take_set_succ x (by simpa using h), List.cons_append]
theorem ownV_setCells {e : TypeId} {base g cap : Nat} {l : List Value} (z : Value) : ∀ (n o : Nat) (w : World), OwnV w base e (.slice (some ⟨g, 0, none⟩) l.length cap) l → l.length ≤ o → OwnV (w.setCells g o (List.replicate n z)) base e (.slice (some ⟨g, 0, none⟩) l.length cap) l
  | 0, _, _, h, _ => h
  | n + 1, o, w, h, ho => by
    rw [List.replicate_succ, World.setCells]
    refine ownV_setCells z n (o + 1) _ ?_ (by omega)
    have := (World.ownsRow.stored h o z).1
    rw [List.set_eq_of_length_le ho] at this
    exact this
theorem grownBy_setCell (w : World) (g o : Nat) (v : Value) : w.grownBy (w.setCell ⟨g, o, none⟩ v) (some g) := ⟨rfl, rfl, rfl, by simp, fun i _ hne => set_heap_ne _ (fun e => hne (by rw [e]))⟩
theorem grownBy_setCells (g : Nat) : ∀ (vs : List Value) (o : Nat) (w : World), w.grownBy (w.setCells g o vs) (some g)
  | [], _, w => World.grownBy.refl _ _
  | v :: r, o, w => (grownBy_setCell w g o v).trans (grownBy_setCells g r (o + 1) _)
theorem ownN_fz {w : World} {base : Nat} {g n cap i : Nat} {e : TypeId} {l : List Value} (h : OwnV w base e (.slice (some ⟨g, 0, none⟩) n cap) l) : w.frozen? ⟨g, i, none⟩ = false := by
  rcases h with ⟨hxl, ⟨e1, e2⟩ | ⟨g', cap', cur, e1, hg, hh, hn, hc, hcs, hcur⟩⟩
  · cases e1
  · injection e1 with e1 _ _
    injection e1 with e1
    injection e1 with e1 _ _
    subst e1
    simp [World.frozen?, hh]
set_option maxRecDepth 100000 in
set_option maxHeartbeats 6400000 in
theorem deleteF_own (w : World) (base : Nat) (v : Value) (zs : List Int) (h : OwnV w base 3 v (intsV zs)) (hl : zs.length ≤ 17592186044416) (g : Nat) (lb : Array Value) (eg : ∀ args w, (callFunc g args).run Tryz.prog w = .ok (.enter g args) w) (p : Int → Bool)
    (ht : ∀ W, w.grownBy W v.ownBlock → ∀ x ∈ zs, Calls Tryz.prog g (#[.int .i64 x] ++ lb) W (Ret (.bool (p x)) W)) :
    Calls Tryz.prog 81 #[v, .func (.func g) #[] lb] w fun e w' => ∃ v', e = .returned v' ∧ OwnV w' base 3 v' (intsV (zs.filter fun x => !p x)) ∧ w.grownBy w' v.ownBlock ∧ (∀ b, v'.ownBlock = some b → v.ownBlock = some b) := by
  have hzl : (intsV zs).length = zs.length := by simp [intsV]
  obtain ⟨a, cap, hv⟩ := ownV_shape h
  rw [hzl] at hv
  subst hv
  have hIS : InS (fun _ => True) w a zs := by
    exact (inS_of_ownV h).imp fun _ _ _ => trivial
  have HIX := Lib.hid (indexF_any g lb eg p zs _ a cap w hIS (by omega) (fun x hx W hb => ht W ((bel_grown ⟨W, hb⟩).but _) x hx))
  have HO := Lib.hid h
  have HT := Lib.hid ht
  clear h hIS ht
  go_enter Tryz.func81, Tryz.ntmps81
  go_wp2_with fail
  refine HIX.out.mono ?_
  rintro e W1 ⟨⟨y, rfl⟩, ⟨k0, rfl, hk0, hany, x0, hx0, hp0⟩ | ⟨rfl, hany⟩⟩
  · rcases HO.out.2 with ⟨e1, e2⟩ | ⟨gb, cap', cur, e1, hg, hh, hcapn, -⟩
    · rw [hzl] at e2; omega
    injection e1 with e1 e3 e4
    subst e1 e4
    rw [hzl] at hcapn
    have hk0z : (zs.take (k0 + 1)).filter (fun x => !p x) = zs.take k0 := by
      rw [take_snoc hx0, List.filter_append, show ([x0] : List Int).filter (fun x => !p x) = [] by simp [hp0], List.append_nil, List.filter_eq_self]
      intro x hx
      have := List.any_eq_false.1 hany x hx
      simpa using this
    have HK0 := Lib.hid hk0z
    have hstart : OwnV y.w base 3 (.slice (some ⟨gb, 0, none⟩) zs.length cap) (intsV zs) := ownV_heap HO.out fun g hg => y.below.block g (ownV_lt HO.out hg).2
    have hgst : w.grownBy y.w (some gb) := (bel_grown y).but _
    obtain ⟨Y, hY⟩ : ∃ Y, y.w = Y := ⟨_, rfl⟩
    rw [hY] at hstart hgst ⊢
    have HST := Lib.hid hstart
    have HGS := Lib.hid hgst
    have f0 : ((k0 : Int) == -1) = false := by simp
    clear hany hx0 hp0 hk0z hstart hgst hY hg hh e3 hzl
    dsimp only
    go_wp2_with fail
    go_loopw [5, 6] (fun iv jv wr => ∃ (i j : Nat) (A : List Int), iv = .int .i64 (i : Int) ∧ jv = .int .i64 (j : Int) ∧ j ≤ zs.length ∧ i < j ∧ A.length = zs.length ∧ A.take i = (zs.take j).filter (fun x => !p x) ∧ A.drop j = zs.drop j ∧ OwnV wr base 3 (.slice (some ⟨gb, 0, none⟩) zs.length cap) (intsV A) ∧ w.grownBy wr (some gb)) (fun _ jv _ => zs.length - (intOf jv).toNat)
    case atStart => exact ⟨k0, k0 + 1, zs, rfl, by go_num, by omega, by omega, rfl, HK0.out.symm, rfl, HST.out, HGS.out⟩
    case round =>
      rename World => wo
      obtain ⟨i, j, A, rfl, rfl, hj, hij, hA, hAt, hAd, how, hgr⟩ := hrel
      have HA := Lib.hid (And.intro hA (And.intro hAt hAd))
      have HOW := Lib.hid how
      have HGR := Lib.hid hgr
      have hAl := hA
      have hin := inS_of_ownV (show OwnV wo base 3 (.slice (some ⟨gb, 0, none⟩) A.length cap) (intsV A) by rw [hA]; exact how)
      rcases Nat.lt_or_ge j zs.length with hjl | hjl
      · obtain ⟨x, hx⟩ := some_at hjl
        have hAx : A[j]? = some x := by
          have h1 : (A.drop j)[0]? = (zs.drop j)[0]? := by rw [hAd]
          rw [List.getElem?_drop, List.getElem?_drop, Nat.add_zero] at h1
          rw [h1, hx]
        obtain ⟨b1, o1, hadd, hb1, z0⟩ := hin.at hAx
        injection hadd with hadd
        injection hadd with e1 e2 _
        subst e1 e2
        rw [Nat.zero_add] at z0
        have hcall := HT.out wo hgr x (List.mem_of_getElem? hx)
        have HX := Lib.hid hx
        obtain ⟨yi, hyi⟩ : ∃ yi, A[i]? = some yi := ⟨_, List.getElem?_eq_getElem (by omega)⟩
        obtain ⟨b2, o2, hadd2, hb2, z1⟩ := hin.at hyi
        injection hadd2 with hadd2
        injection hadd2 with e1 e2 _
        subst e1 e2
        rw [Nat.zero_add] at z1
        have hfz : wo.frozen? ⟨gb, i, none⟩ = false := (ownN_fz HOW.out)
        have f1 : decide ((j : Int) < (zs.length : Int)) = true := decide_eq_true (by omega)
        have hib : (0 ≤ (j : Int) ∧ (j : Int) < (zs.length : Int)) := ⟨by omega, by omega⟩
        have hib2 : (0 ≤ (i : Int) ∧ (i : Int) < (zs.length : Int)) := ⟨by omega, by omega⟩
        clear hx hA hAt hAd how hgr hAl hin hAx hyi
        cases hq : p x with
        | true =>
          rw [hq] at hcall
          have HQ := Lib.hid hq
          clear hq
          go_wp2_with (go_at_fn g; refine hcall.mono ?_; rintro _ _ ⟨rfl, y, rfl⟩)
          go_roundw
          case rel =>
            refine ⟨i, j + 1, A, rfl, by go_num, by omega, by omega, HA.out.1, ?_, ?_, ownV_heap HOW.out fun g hg => y.below.block g (ownV_lt HOW.out hg).2, HGR.out.trans ((bel_grown y).but _)⟩
            · rw [HA.out.2.1, take_snoc HX.out, List.filter_append]
              simp [HQ.out]
            · rw [← List.drop_drop, HA.out.2.2, List.drop_drop]
          case measure => simp [intOf]; omega
        | false =>
          rw [hq] at hcall
          have HQ := Lib.hid hq
          clear hq
          have hFZ := Lib.hid hfz
          have HZ1 := Lib.hid z1
          go_wp2_with (go_at_fn g; refine hcall.mono ?_; rintro _ _ ⟨rfl, y, rfl⟩; have z1y := below_cell y.below _ _ _ HZ1.out; have hfy : y.w.frozen? ⟨gb, i, none⟩ = false := (frozen_in y.below HZ1.out).trans hFZ.out)
          go_roundw
          case rel =>
            have hrw : y.w.ownsRow base 3 1 (.slice (some ⟨gb, 0, none⟩) zs.length cap) zs.length (intsV A) := by
              have h := ownV_heap HOW.out (w' := y.w) fun g hg => y.below.block g (ownV_lt HOW.out hg).2
              unfold OwnV at h
              rwa [show (intsV A).length = zs.length by unfold intsV; rw [List.length_map]; exact HA.out.1] at h
            have hs := (World.ownsRow.stored hrw i (.int .i64 x)).1
            refine ⟨i + 1, j + 1, A.set i x, by go_num, by go_num, by omega, by omega, by rw [List.length_set]; exact HA.out.1, ?_, ?_, ?_, (HGR.out.trans ((bel_grown y).but _)).trans (grownBy_setCell _ _ _ _)⟩
            · rw [take_set_succ x (by have := HA.out.1; omega), HA.out.2.1, take_snoc HX.out, List.filter_append]
              simp [HQ.out]
            · rw [List.drop_set_of_lt (by omega), ← List.drop_drop, HA.out.2.2, List.drop_drop]
            · unfold OwnV
              rw [show (intsV (A.set i x)) = (intsV A).set i (.int .i64 x) by unfold intsV; rw [List.map_set], List.length_set, show (intsV A).length = zs.length by unfold intsV; rw [List.length_map]; exact HA.out.1]
              exact hs
          case measure => simp [intOf]; omega
      · have hke : j = zs.length := by omega
        subst hke
        have f1 : decide ((zs.length : Int) < (zs.length : Int)) = false := decide_eq_false (by omega)
        have hcl : ∀ ty, (Builtin.clear_ #[23] ty #[.slice (some ⟨gb, i, none⟩) (zs.length - i) (cap - i)]).run Tryz.prog wo = .ok (.tuple #[]) (wo.setCells gb i (List.replicate (zs.length - i) (.int .i64 0))) := fun ty =>
          Lib.run_clear_slice wo _ _ ty (.int .i64 0) Tryz.underlying23 (fun w => by rfl) rfl rfl gb i _ _ (by omega) (fun t ht => by
            obtain ⟨z, hz⟩ : ∃ z, A[i + t]? = some z := ⟨_, List.getElem?_eq_getElem (by omega)⟩
            obtain ⟨b1, o1, hadd, hb1, z0⟩ := hin.at hz
            injection hadd with hadd
            injection hadd with e1 e2 _
            subst e1 e2
            rw [Nat.zero_add] at z0
            rw [z0]
            rfl) (fun t ht => ownN_fz HOW.out)
        have hci : (cap = i) = False := by
          apply eq_false
          omega
        have hci2 : ¬ cap = i := by omega
        have hib3 : (0 ≤ (i : Int) ∧ (i : Int) ≤ (zs.length : Int)) := ⟨by omega, by omega⟩
        clear hA hAt hAd how hgr hAl hin
        go_wp2
        have hfi : (zs.filter fun x => !p x) = A.take i := by rw [HA.out.2.1, List.take_length]
        have hcut := ownV_cut HOW.out i (by unfold intsV; rw [List.length_map]; have := HA.out.1; omega)
        have htl : ((intsV A).take i).length = i := by rw [List.length_take]; unfold intsV; rw [List.length_map]; have := HA.out.1; omega
        rw [show (intsV A).take i = intsV (A.take i) by unfold intsV; rw [List.map_take]] at hcut htl
        refine bodyPost_ret (v := .slice (some ⟨gb, 0, none⟩) i cap) (by simp [results, Tryz.results81, go_sem]) rfl ⟨_, rfl, ?_, HGR.out.trans (grownBy_setCells _ _ _ _), fun b h => h⟩
        rw [hfi]
        have hx := ownV_setCells (l := intsV (A.take i)) (.int .i64 0) (zs.length - i) i wo (cap := cap) (g := gb) (by rw [htl]; exact hcut) (by omega)
        rwa [htl] at hx
  · have hf : zs.filter (fun x => !p x) = zs := by
      rw [List.filter_eq_self]
      intro x hx
      have := List.any_eq_false.1 hany x hx
      simpa using this
    have HF := Lib.hid hf
    clear hf hany
    dsimp only
    go_wp2
    go_ret
    refine ⟨_, rfl, ?_, (bel_grown y).but _, fun b h => h⟩
    rw [HF.out]
    exact ownV_heap HO.out fun g hg => y.below.block g (ownV_lt HO.out hg).2
end Go.Proofs.YtlnedapimmabdaaGreatDoor

namespace Go.Proofs.YtlnedapimmabdaaGreatDoor
set_option linter.unusedVariables false
set_option linter.unusedSimpArgs false
open Go.RowKit Go.Maps
attribute [local go_sem low] Bel.cell Bel.frozen alloc_cell alloc_frozen
variable {b0 C mb base : Nat} {gv gv1 gv2 : Value} {us : List UG} {L : List Gt} {W W1 W2 : World}

theorem compactUp_sorted (d : Array Int) (h : ∀ i j, i ≤ j → j < d.size → d[i]! ≤ d[j]!) : ∀ m, m ≤ d.size →
    (Go.Lib.compactUpTo d m).Pairwise (· < ·) ∧ (∀ x, x ∈ Go.Lib.compactUpTo d m ↔ ∃ j, j < m ∧ d[j]! = x)
  | 0, _ => by simp [Go.Lib.compactUpTo]
  | m + 1, hm => by
    obtain ⟨h1, h2⟩ := compactUp_sorted d h m (by omega)
    rw [Go.Lib.compactUpTo_succ]
    by_cases hk : m = 0 ∨ d[m]! ≠ d[m - 1]!
    · have e : Go.Lib.keeps d m = true := by simp [Go.Lib.keeps, hk]
      rw [e, if_pos rfl]
      constructor
      · rw [List.pairwise_append]
        refine ⟨h1, List.pairwise_singleton _ _, fun a ha b hb => ?_⟩
        rw [List.mem_singleton] at hb
        subst hb
        obtain ⟨j, hj, rfl⟩ := (h2 a).1 ha
        have l1 := h j (m - 1) (by omega) (by omega)
        have l2 := h (m - 1) m (by omega) (by omega)
        rcases hk with hk | hk
        · omega
        · omega
      · intro x
        rw [List.mem_append, h2 x, List.mem_singleton]
        constructor
        · rintro (⟨j, hj, e⟩ | rfl)
          · exact ⟨j, by omega, e⟩
          · exact ⟨m, by omega, rfl⟩
        · rintro ⟨j, hj, he⟩
          by_cases hjm : j = m
          · subst hjm; exact .inr he.symm
          · exact .inl ⟨j, by omega, he⟩
    · have e : Go.Lib.keeps d m = false := by simp [Go.Lib.keeps, hk]
      rw [e, if_neg (by decide), List.append_nil]
      refine ⟨h1, fun x => ?_⟩
      rw [h2 x]
      constructor
      · rintro ⟨j, hj, e⟩; exact ⟨j, by omega, e⟩
      · rintro ⟨j, hj, he⟩
        by_cases hjm : j = m
        · subst hjm
          exact ⟨j - 1, by omega, by rw [← he]; have := Classical.not_not.1 (fun h => hk (.inr h)); exact this.symm⟩
        · exact ⟨j, by omega, he⟩
theorem compact_sorted (zs : List Int) (h : zs.Pairwise (· ≤ ·)) : (Go.Lib.compact zs).Pairwise (· < ·) ∧ ∀ x, x ∈ Go.Lib.compact zs ↔ x ∈ zs := by
  have hs : ∀ i j, i ≤ j → j < zs.toArray.size → zs.toArray[i]! ≤ zs.toArray[j]! := fun i j hij hj => by
    have hj' : j < zs.length := by simpa using hj
    rw [getElem!_pos zs.toArray i (by simp; omega), getElem!_pos zs.toArray j (by simpa using hj')]
    rw [List.getElem_toArray, List.getElem_toArray]
    rcases Nat.lt_or_ge i j with hlt | hge
    · exact List.pairwise_iff_getElem.1 h i j (by omega) hj' hlt
    · have : i = j := by omega
      subst this
      exact Int.le_refl _
  obtain ⟨h1, h2⟩ := compactUp_sorted zs.toArray hs zs.length (by simp)
  refine ⟨h1, fun x => (h2 x).trans ?_⟩
  rw [List.mem_iff_getElem]
  constructor
  · rintro ⟨j, hj, e⟩
    exact ⟨j, hj, by rw [← e, getElem!_pos zs.toArray j (by simpa using hj), List.getElem_toArray]⟩
  · rintro ⟨j, hj, e⟩
    exact ⟨j, hj, by rw [← e, getElem!_pos zs.toArray j (by simpa using hj), List.getElem_toArray]⟩
theorem srt_compact {L : List Gt} {ins : List Nat} (h : ∀ i ∈ ins, i < L.length) : Lib.compact ((intsN ins).mergeSort fun x y => decide (x ≤ y)) = intsN (srtG L ins) := by
  have hs : ((intsN ins).mergeSort fun x y => decide (x ≤ y)).Pairwise (· ≤ ·) := by
    have := List.pairwise_mergeSort (le := fun x y : Int => decide (x ≤ y)) (fun a b c h1 h2 => by simp at *; omega) (fun a b => by simp; omega) (intsN ins)
    exact this.imp fun h => by simpa using h
  obtain ⟨h1, h2⟩ := compact_sorted _ hs
  obtain ⟨S, hS⟩ : ∃ S, Lib.compact ((intsN ins).mergeSort fun x y => decide (x ≤ y)) = S := ⟨_, rfl⟩
  rw [hS] at h1 h2 ⊢
  have h3 : ∀ x, x ∈ S ↔ x ∈ intsN ins := fun x => (h2 x).trans List.mem_mergeSort
  have hpos : ∀ x ∈ S, 0 ≤ x := fun x hx => by
    obtain ⟨y, _, rfl⟩ := List.mem_map.1 ((h3 x).1 hx)
    exact Int.natCast_nonneg y
  have hSn : S = intsN (S.map Int.toNat) := (natInts hpos).symm
  rw [hSn]
  congr 1
  refine sorted_ext ?_ (srt_sorted L ins) fun x => ?_
  · rw [List.pairwise_map]
    exact h1.imp_of_mem fun ha hb hab => by have := hpos _ ha; have := hpos _ hb; omega
  · rw [mem_srt, List.mem_map]
    constructor
    · rintro ⟨y, hy, rfl⟩
      obtain ⟨z, hz, rfl⟩ := List.mem_map.1 ((h3 y).1 hy)
      rw [Int.toNat_natCast]
      exact ⟨h z hz, hz⟩
    · rintro ⟨_, hx⟩
      exact ⟨(x : Int), (h3 _).2 (List.mem_map.2 ⟨x, hx, rfl⟩), Int.toNat_natCast x⟩
set_option maxRecDepth 100000 in
set_option maxHeartbeats 6400000 in
theorem joinT_any (h : Cl b0 C mb base gv us L W) (BX BW NK i : Nat) (hx : W.cell? ⟨BX, 0, none⟩ = some (.pointer (some ⟨C, 0, none⟩))) (hw : W.cell? ⟨BW, 0, none⟩ = some (.int .i64 (NK : Int))) (hi : i < L.length) :
    Calls Tryz.prog 82 #[.int .i64 (i : Int), .pointer (some ⟨BX, 0, none⟩), .pointer (some ⟨BW, 0, none⟩)] W (Ret (.bool (decide (kd L i = NK))) W) := by
  obtain ⟨gva, gvc, hgv, hing⟩ := h.val
  obtain ⟨gg, hgg⟩ : ∃ gg, L[i]? = some gg := ⟨_, List.getElem?_eq_getElem hi⟩
  obtain ⟨b6, o6, hadd6, hb6, ax, cx, y0, y1, y2, hi6⟩ := hing.at (show (L.map gz)[i]? = some (gz gg) by rw [List.getElem?_map, hgg]; rfl)
  subst hgv
  subst hadd6
  dsimp only [gz] at y0 y1 y2 hi6
  have hkd : kd L i = gg.1 := by rw [kd, gtAt_some hgg]
  rw [hkd]
  obtain ⟨c0, c1, c2, c3⟩ := box2 h.obj
  have hib : (0 ≤ (i : Int) ∧ (i : Int) < (L.length : Int)) := ⟨by omega, by omega⟩
  obtain ⟨q, hq⟩ : ∃ q, ((gg.1 : Int) == (NK : Int)) = q := ⟨_, rfl⟩
  have hq2 : decide (gg.1 = NK) = q := by
    rw [← hq, Bool.eq_iff_iff]
    simp
    omega
  rw [hq2]
  clear h hgg hing hi6 hkd hq2 y1 y2
  go_enter Tryz.func82, Tryz.ntmps82
  go_wp2_with fail
  refine wp_region_bel (by kernel_rfl) (by kernel_rfl) ?_
  repeat (go_big_quiet_step (fail))
  refine wpQuiet_nil ?_
  rintro _ ⟨z, rfl⟩
  go_wp2
  go_ret
  exact Ret.mk (by rfl) (by (repeat' (first | (with_reducible first | apply Zl1 | apply Zl2 | apply Zl3 | apply Zl4 | apply Zl5 | apply Zl6 | apply Zl7 | apply Zl8 | apply Zl9 | apply Zla | apply Zlb | apply Zlc) | (dsimp only; with_reducible first | apply Zl8 | apply Zl2 | apply Zld) | with_reducible assumption | omega | (dsimp only; omega))))
end Go.Proofs.YtlnedapimmabdaaGreatDoor
