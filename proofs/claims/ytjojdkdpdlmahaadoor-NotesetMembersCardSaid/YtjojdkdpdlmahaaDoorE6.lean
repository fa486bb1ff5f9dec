/- Members, Least, Greatest. -/
import Derived.Test.YtjojdkdpdlmahaaDoorE2
import Derived.Test.YtjojdkdpdlmahaaDoorE5
namespace Go.Proofs.YtjojdkdpdlmahaaDoor
open Go.RowKit Go.Shelf
attribute [local go_sem low] Bel.cell Bel.frozen alloc_cell alloc_frozen
attribute [local go_sem] Oper.semAt_some

def finV (x : Fin 128) : Value := .int .i64 (x.val : Int)
theorem finVs (lo hi : Nat) : (memF lo hi).map finV = natVs (mems lo hi) := by
  rw [← memF_val]; unfold natVs; rw [List.map_map]; rfl
theorem memF_len (lo hi : Nat) : (memF lo hi).length ≤ 128 := by
  unfold memF; rw [List.length_map, mems_len]
  have := popc_le lo
  have := popc_le hi
  omega
set_option maxRecDepth 100000 in
set_option maxHeartbeats 4000000 in
theorem appendSeq_any (lo hi Bn : Nat) (w : World) (h1 : lo < 18446744073709551616) (h2 : hi < 18446744073709551616) (hBn : Bn < w.heap.size)
    (hc0 : w.cell? ⟨Bn, 0, none⟩ = some (.int .u64 lo)) (hc1 : w.cell? ⟨Bn, 1, none⟩ = some (.int .u64 hi)) (hTz : Tz w) :
    Calls Tryd.prog 66 #[.slice none 0 0, .func (.func 64) #[] #[.pointer (some ⟨Bn, 0, none⟩)]] w fun e w' => ∃ v, e = .returned v ∧ ∃ y : Bel w, w' = y.w ∧ OwnV y.w w.heap.size 3 v (natVs (mems lo hi)) := by
  obtain ⟨i0, hi0, hz0, hz1, hz2⟩ := info_parts Tryd.infoInt
  have hw0 := hTz.lt
  have hlen := memF_len lo hi
  rw [← finVs]
  refine (callsIn_wide (n := 3)).1 ?_
  refine callsIn_of_wp_marks Tryd.func66 rfl trivial ?_ rfl
  simp only [Tryd.ntmps66, List.size_toArray, List.length_cons, List.length_nil, Nat.reduceAdd, Nat.reduceSub, Array.replicate_succ, Array.replicate_zero, List.push_toArray, List.append_toArray, List.nil_append, List.cons_append]
  gi_wp2
  have bO := Boxed.new w 31 (.slice none 0 0)
  have hB0 : Below w.heap.size w (w.alloc (.cells #[.slice none 0 0] 31)) := by (repeat' (first | (with_reducible exact Below.refl _ _) | (with_reducible exact Nat.le_refl _) | (with_reducible refine Below.bel ?_ ?_) | (with_reducible refine Below.alloc ?_ ?_ _) | (with_reducible refine Below.drew ?_) | (with_reducible refine Below.drawsN ?_ _) | (with_reducible refine Below.setCell ?_ ?_ _) | (with_reducible refine le_bel ?_) | (with_reducible refine le_alloc ?_) | (with_reducible refine le_setCell ?_) | (with_reducible refine le_drew ?_) | (with_reducible refine le_drawsN ?_) | (dsimp only; with_reducible refine le_bel ?_) | (dsimp only; with_reducible refine Nat.le_refl _) | (dsimp only; with_reducible refine le_bel_add ?_) | (with_reducible assumption) | omega | (dsimp only; omega)))
  have hT' : Tz (w.alloc (.cells #[.slice none 0 0] 31)) := hTz.of hw0 hB0
  have d0 : (w.alloc (.cells #[.slice none 0 0] 31)).cell? ⟨Bn, 0, none⟩ = some (.int .u64 lo) := by rw [hB0.cell (p := ⟨Bn, 0, none⟩) hBn]; exact hc0
  have d1 : (w.alloc (.cells #[.slice none 0 0] 31)).cell? ⟨Bn, 1, none⟩ = some (.int .u64 hi) := by rw [hB0.cell (p := ⟨Bn, 1, none⟩) hBn]; exact hc1
  refine wpIn_rangeFunc_ownG rfl (by omega : 1 ≤ 3) (gf := 64) (lb := #[.pointer (some ⟨Bn, 0, none⟩)]) rfl trivial (enters_of Tryd.func64 (by kernel_rfl) rfl)
    (all_stops (3 - 1) (by omega) Bn w.heap.size lo hi _ h1 h2 (by simp; omega) d0 d1 hw0 hT') belowK_t (belowK_b (by simp)) (Below.refl _ _) (fun _ => rfl)
    (fun (pre : List (Fin 128)) W => (∃ v, Boxed W w.heap.size 31 v ∧ W.ownsRow w.heap.size 3 1 v pre.length (pre.map finV) ∧ True) ∧ Below w.heap.size w W)
    (fun _ _ _ => False)
    (OwnFrom.and (Own.from (holdsRow_own w.heap.size w.heap.size 31 3 1 (fun pre : List (Fin 128) => pre.length) (fun pre : List (Fin 128) => pre.map finV) (fun _ _ => True)) _) (ownFrom_below (Nat.le_refl _) (by simp)))
    (fun _ _ _ _ _ hs _ _ => hs)
    ⟨⟨_, bO, World.ownsRow_nil _ _ _ _, trivial⟩, hB0⟩
    (fun x => { tmps := #[.slice none 0 0, .func (.func 64) #[] #[.pointer (some ⟨Bn, 0, none⟩)], .pointer (some ⟨w.heap.size, 0, none⟩), undef, .slice none 0 0, .int .i64 (x.val : Int), .func (.func 64) #[] #[.pointer (some ⟨Bn, 0, none⟩)], .int .i64 (x.val : Int), undef, undef, undef, undef, undef], defers := [] }) ?assign ?body ?done ?stop
  case assign =>
    intro l x W K hK
    gi_wp2
    exact hK
  case body =>
    rintro l pre x W ⟨⟨v, hv, hrow, _⟩, hB⟩ hlt
    have hc := hv.cell
    have hBs := hB.size
    gi_wp2_with (gi_at_builtin; refine wpListIn_append_own _ rfl _ _ 31 rfl w.heap.size 3 i0 (.int .i64 0) 1 8 Tryd.underlying31 hi0 hz0 hz1 hz2 rfl (by decide) _ _ _ rfl (hrow.alloc _) ⟨W.heap.size, 0, none⟩ 1 1 [finV x] rfl rfl (cell_one_new _ _ _) (by simp [Value.oneCell', finV]) (by unfold maxLen; omega) (by omega) (by simp; omega) ?_; intro v' w1 hown' hgrow _; obtain ⟨g', cap', rfl⟩ := ownsRow_succ hown'; obtain ⟨hv1, hv2, hr2, hk2, hb2⟩ := hv.appended (by decide) hrow hB.size (by omega) hown' hgrow; have hc1 := hv1.cell; have hf1 := hv1.frozen)
    exact ⟨hk2.from _, hb2, ⟨_, hv2, by simpa using hr2, trivial⟩, hB.trans hb2⟩
  case done =>
    rintro D' ys W hD rfl ⟨⟨v, hv, hrow, _⟩, hB⟩ hK
    have hc := hv.cell
    gi_wp2
    refine ⟨by simp, .inl ⟨_, _, rfl, run_takeDeferred hK, ?_⟩⟩
    have hb2 := hB.trans (belowK_b (w := w) (Nat.le_refl _) W D' _ (.deferred none) (by simp at hD; omega) hK rfl rfl)
    refine ⟨_, results_tmp rfl _ _ _, v, rfl, ⟨_, hb2⟩, rfl, ?_⟩
    have := ownsRow_putObj hrow (.deferred none) hK rfl
    unfold OwnV
    rw [List.length_map]
    exact this
  case stop =>
    rintro D' c pre W _ _ h _
    exact h.elim

theorem collect_any (lo hi Bn : Nat) (w : World) (h1 : lo < 18446744073709551616) (h2 : hi < 18446744073709551616) (hBn : Bn < w.heap.size)
    (hc0 : w.cell? ⟨Bn, 0, none⟩ = some (.int .u64 lo)) (hc1 : w.cell? ⟨Bn, 1, none⟩ = some (.int .u64 hi)) (hTz : Tz w) :
    Calls Tryd.prog 53 #[.func (.func 64) #[] #[.pointer (some ⟨Bn, 0, none⟩)]] w fun e w' => ∃ v, e = .returned v ∧ ∃ y : Bel w, w' = y.w ∧ OwnV y.w w.heap.size 3 v (natVs (mems lo hi)) := by
  have H := Lib.hid (appendSeq_any lo hi Bn w h1 h2 hBn hc0 hc1 hTz)
  go_enter Tryd.func53, Tryd.ntmps53
  go_wp2_with fail
  (with_reducible refine H.out.mono ?_)
  rintro _ _ ⟨v, rfl, y, rfl, hv⟩
  go_wp2
  go_ret
  exact ⟨v, rfl, y, rfl, hv⟩
theorem members_any (lo hi : Nat) (w : World) (h1 : lo < 18446744073709551616) (h2 : hi < 18446744073709551616) (hTz : Tz w) :
    Calls Tryd.prog 33 #[.agg #[.int .u64 (lo : Int), .int .u64 (hi : Int)]] w fun e w' => ∃ v, e = .returned v ∧ ∃ y : Bel w, w' = y.w ∧ OwnV y.w w.heap.size 3 v (natVs (mems lo hi)) := by
  have hw0 := hTz.lt
  have HT := Lib.hid hTz
  clear hTz
  go_enter Tryd.func33, Tryd.ntmps33
  go_wp2_with fail
  refine (allF_any _ _ _).mono ?_
  rintro _ _ ⟨rfl, rfl⟩
  go_wp2_with fail
  refine (collect_any lo hi (w.heap.size + 1) _ h1 h2 (by simp) (by simp [go_sem]) (by simp [go_sem]) (HT.out.of hw0 (by (repeat' (first | (with_reducible exact Below.refl _ _) | (with_reducible exact Nat.le_refl _) | (with_reducible refine Below.bel ?_ ?_) | (with_reducible refine Below.alloc ?_ ?_ _) | (with_reducible refine Below.drew ?_) | (with_reducible refine Below.drawsN ?_ _) | (with_reducible refine Below.setCell ?_ ?_ _) | (with_reducible refine le_bel ?_) | (with_reducible refine le_alloc ?_) | (with_reducible refine le_setCell ?_) | (with_reducible refine le_drew ?_) | (with_reducible refine le_drawsN ?_) | (dsimp only; with_reducible refine le_bel ?_) | (dsimp only; with_reducible refine Nat.le_refl _) | (dsimp only; with_reducible refine le_bel_add ?_) | (with_reducible assumption) | omega | (dsimp only; omega)))))).mono ?_
  rintro _ _ ⟨v, rfl, y, rfl, hv⟩
  have hys := y.size_le
  go_wp2
  go_ret
  exact ⟨v, rfl, ⟨y.w, by (repeat' (first | (with_reducible exact Below.refl _ _) | (with_reducible exact Nat.le_refl _) | (with_reducible refine Below.bel ?_ ?_) | (with_reducible refine Below.alloc ?_ ?_ _) | (with_reducible refine Below.drew ?_) | (with_reducible refine Below.drawsN ?_ _) | (with_reducible refine Below.setCell ?_ ?_ _) | (with_reducible refine le_bel ?_) | (with_reducible refine le_alloc ?_) | (with_reducible refine le_setCell ?_) | (with_reducible refine le_drew ?_) | (with_reducible refine le_drawsN ?_) | (dsimp only; with_reducible refine le_bel ?_) | (dsimp only; with_reducible refine Nat.le_refl _) | (dsimp only; with_reducible refine le_bel_add ?_) | (with_reducible assumption) | omega | (dsimp only; omega)))⟩, rfl, ownV_mono hv (by simp; omega)⟩

/-- What Least returns. -/
def leastV (lo hi : Nat) : Value := match mems lo hi with
  | [] => .tuple #[.int .i64 0, .bool false]
  | n :: _ => .tuple #[.int .i64 (n : Int), .bool true]
theorem leastV_none {lo hi : Nat} (h : memF lo hi = []) : Value.tuple #[.int .i64 0, .bool false] = leastV lo hi := by
  have : mems lo hi = [] := by rw [← memF_val, h]; rfl
  unfold leastV; rw [this]
theorem leastV_some {lo hi : Nat} {x : Fin 128} {pre : List (Fin 128)} (h : pre <+: memF lo hi) (hl : pre.length = 1) (hx : pre.headD 0 = x) : Value.tuple #[.int .i64 (x.val : Int), .bool true] = leastV lo hi := by
  match pre, hl with
  | [y], _ =>
    obtain ⟨r, hr⟩ := h
    have : mems lo hi = y.val :: r.map (·.val) := by rw [← memF_val, ← hr]; rfl
    unfold leastV; rw [this, ← hx]; rfl
set_option maxRecDepth 100000 in
set_option maxHeartbeats 4000000 in
theorem least_any (lo hi : Nat) (w : World) (h1 : lo < 18446744073709551616) (h2 : hi < 18446744073709551616) (hTz : Tz w) :
    Calls Tryd.prog 35 #[.agg #[.int .u64 (lo : Int), .int .u64 (hi : Int)]] w (Ret (leastV lo hi) w) := by
  have hw0 := hTz.lt
  refine (callsIn_wide (n := 3)).1 ?_
  refine callsIn_of_wp_marks Tryd.func35 rfl trivial ?_ rfl
  simp only [Tryd.ntmps35, List.size_toArray, List.length_cons, List.length_nil, Nat.reduceAdd, Nat.reduceSub, Array.replicate_succ, Array.replicate_zero, List.push_toArray, List.append_toArray, List.nil_append, List.cons_append]
  gi_wp2_with (refine ⟨trivial, ?_⟩; gi_at_call 52; refine (callsIn_wide.2 (allF_any _ _ _)).mono ?_; rintro _ _ ⟨rfl, rfl⟩)
  have hT' : Tz ((((w.alloc (.cells #[.int .u64 (lo : Int), .int .u64 (hi : Int)] 34)).alloc (.cells #[.int .i64 0] 3)).alloc (.cells #[.bool false] 4)).alloc (.cells #[.int .u64 (lo : Int), .int .u64 (hi : Int)] 34)) := hTz.of hw0 (by (repeat' (first | (with_reducible exact Below.refl _ _) | (with_reducible exact Nat.le_refl _) | (with_reducible refine Below.bel ?_ ?_) | (with_reducible refine Below.alloc ?_ ?_ _) | (with_reducible refine Below.drew ?_) | (with_reducible refine Below.drawsN ?_ _) | (with_reducible refine Below.setCell ?_ ?_ _) | (with_reducible refine le_bel ?_) | (with_reducible refine le_alloc ?_) | (with_reducible refine le_setCell ?_) | (with_reducible refine le_drew ?_) | (with_reducible refine le_drawsN ?_) | (dsimp only; with_reducible refine le_bel ?_) | (dsimp only; with_reducible refine Nat.le_refl _) | (dsimp only; with_reducible refine le_bel_add ?_) | (with_reducible assumption) | omega | (dsimp only; omega))))
  refine wpIn_rangeFunc_ownG rfl (by omega : 1 ≤ 3) (gf := 64) (lb := #[.pointer (some ⟨w.heap.size + 1 + 1 + 1, 0, none⟩)]) rfl trivial (enters_of Tryd.func64 (by kernel_rfl) rfl)
    (all_stops (3 - 1) (by omega) (w.heap.size + 1 + 1 + 1) w.heap.size lo hi _ h1 h2 (by simp) (by simp [go_sem]) (by simp [go_sem]) hw0 hT') belowK_t (belowK_b (by simp; omega)) (Below.refl _ _) (fun _ => rfl)
    (fun (pre : List (Fin 128)) W => pre = [] ∧ (W.cell? ⟨w.heap.size + 1, 0, none⟩ = some (.int .i64 0) ∧ W.frozen? ⟨w.heap.size + 1, 0, none⟩ = false ∧ W.cell? ⟨w.heap.size + 1 + 1, 0, none⟩ = some (.bool false) ∧ W.frozen? ⟨w.heap.size + 1 + 1, 0, none⟩ = false) ∧ Below w.heap.size w W)
    (fun c (pre : List (Fin 128)) W => (c = .ret ∧ pre.length = 1) ∧ (W.cell? ⟨w.heap.size + 1, 0, none⟩ = some (.int .i64 ((pre.headD 0).val : Int)) ∧ W.cell? ⟨w.heap.size + 1 + 1, 0, none⟩ = some (.bool true)) ∧ Below w.heap.size w W)
    (OwnFrom.and (ownFrom_pure _ _) (OwnFrom.and (Own.from (fun s A B row hs hg hr => ⟨cell_kept hs.1 hg hr, (frozen_kept hs.1 hg hr).trans hs.2.1, cell_kept hs.2.2.1 hg hr, (frozen_kept hs.2.2.1 hg hr).trans hs.2.2.2⟩) _) (ownFrom_below (Nat.le_refl _) (by simp; omega))))
    (fun c => OwnFrom.and (ownFrom_pure _ _) (OwnFrom.and (Own.from (fun s A B row hs hg hr => ⟨cell_kept hs.1 hg hr, cell_kept hs.2 hg hr⟩) _) (ownFrom_below (Nat.le_refl _) (by simp; omega))))
    ⟨rfl, ⟨by simp [go_sem], by simp [go_sem], by simp [go_sem], by simp [go_sem]⟩, by (repeat' (first | (with_reducible exact Below.refl _ _) | (with_reducible exact Nat.le_refl _) | (with_reducible refine Below.bel ?_ ?_) | (with_reducible refine Below.alloc ?_ ?_ _) | (with_reducible refine Below.drew ?_) | (with_reducible refine Below.drawsN ?_ _) | (with_reducible refine Below.setCell ?_ ?_ _) | (with_reducible refine le_bel ?_) | (with_reducible refine le_alloc ?_) | (with_reducible refine le_setCell ?_) | (with_reducible refine le_drew ?_) | (with_reducible refine le_drawsN ?_) | (dsimp only; with_reducible refine le_bel ?_) | (dsimp only; with_reducible refine Nat.le_refl _) | (dsimp only; with_reducible refine le_bel_add ?_) | (with_reducible assumption) | omega | (dsimp only; omega)))⟩
    (fun x => { tmps := #[.agg #[.int .u64 (lo : Int), .int .u64 (hi : Int)], .pointer (some ⟨w.heap.size, 0, none⟩), .pointer (some ⟨w.heap.size + 1, 0, none⟩), .pointer (some ⟨w.heap.size + 1 + 1, 0, none⟩), .int .i64 (x.val : Int), .agg #[.int .u64 (lo : Int), .int .u64 (hi : Int)], .func (.func 64) #[] #[.pointer (some ⟨w.heap.size + 1 + 1 + 1, 0, none⟩)], .int .i64 (x.val : Int), undef], defers := [] }) ?assign ?body ?done ?stop
  case assign =>
    intro l x W K hK
    gi_wp2
    exact hK
  case body =>
    rintro l pre x W ⟨rfl, ⟨c1, c2, c3, c4⟩, hB⟩ hlt
    have hBs := hB.size
    gi_wp2
    refine ⟨((KeepsOthers.setCell _ _ _).trans (KeepsOthers.setCell _ _ _)).from _, ⟨rfl, rfl⟩, ⟨?_, ?_⟩, by (repeat' (first | (with_reducible exact Below.refl _ _) | (with_reducible exact Nat.le_refl _) | (with_reducible refine Below.bel ?_ ?_) | (with_reducible refine Below.alloc ?_ ?_ _) | (with_reducible refine Below.drew ?_) | (with_reducible refine Below.drawsN ?_ _) | (with_reducible refine Below.setCell ?_ ?_ _) | (with_reducible refine le_bel ?_) | (with_reducible refine le_alloc ?_) | (with_reducible refine le_setCell ?_) | (with_reducible refine le_drew ?_) | (with_reducible refine le_drawsN ?_) | (dsimp only; with_reducible refine le_bel ?_) | (dsimp only; with_reducible refine Nat.le_refl _) | (dsimp only; with_reducible refine le_bel_add ?_) | (with_reducible assumption) | omega | (dsimp only; omega)))⟩
    · simp [go_sem, c1, c3]
    · simp [go_sem, c1, c3]
  case done =>
    rintro D' ys W hD rfl ⟨hy, ⟨c1, c2, c3, c4⟩, hB⟩ hK
    have HV := Lib.hid (leastV_none hy)
    clear hy
    gi_wp2
    have hK' := ((KeepsOthers.setCell W ⟨w.heap.size + 1, 0, none⟩ (.int .i64 0)).trans (KeepsOthers.setCell _ ⟨w.heap.size + 1 + 1, 0, none⟩ (.bool false))).same D' _ hK rfl
    refine ⟨by simp, .inl ⟨_, _, rfl, run_takeDeferred hK', ?_⟩⟩
    have k1 : ((W.setCell ⟨w.heap.size + 1, 0, none⟩ (.int .i64 0)).setCell ⟨w.heap.size + 1 + 1, 0, none⟩ (.bool false)).cell? ⟨w.heap.size + 1, 0, none⟩ = some (.int .i64 0) := by simp [go_sem, c1, c3]
    have k2 : ((W.setCell ⟨w.heap.size + 1, 0, none⟩ (.int .i64 0)).setCell ⟨w.heap.size + 1 + 1, 0, none⟩ (.bool false)).cell? ⟨w.heap.size + 1 + 1, 0, none⟩ = some (.bool false) := by simp [go_sem, c1, c3]
    have m1 := cell_kept k1 (grownBy_putObj' _ D' (.deferred none)) (fun r e => by cases e; exact ⟨_, hK', rfl⟩)
    have m2 := cell_kept k2 (grownBy_putObj' _ D' (.deferred none)) (fun r e => by cases e; exact ⟨_, hK', rfl⟩)
    refine ⟨.tuple #[.int .i64 0, .bool false], ?_, Ret.mk HV.out ?_⟩
    · simp [results, Tryd.results35, go_sem, m1, m2]
    · have hS : Below w.heap.size w ((W.setCell ⟨w.heap.size + 1, 0, none⟩ (.int .i64 0)).setCell ⟨w.heap.size + 1 + 1, 0, none⟩ (.bool false)) := by (repeat' (first | (with_reducible exact Below.refl _ _) | (with_reducible exact Nat.le_refl _) | (with_reducible refine Below.bel ?_ ?_) | (with_reducible refine Below.alloc ?_ ?_ _) | (with_reducible refine Below.drew ?_) | (with_reducible refine Below.drawsN ?_ _) | (with_reducible refine Below.setCell ?_ ?_ _) | (with_reducible refine le_bel ?_) | (with_reducible refine le_alloc ?_) | (with_reducible refine le_setCell ?_) | (with_reducible refine le_drew ?_) | (with_reducible refine le_drawsN ?_) | (dsimp only; with_reducible refine le_bel ?_) | (dsimp only; with_reducible refine Nat.le_refl _) | (dsimp only; with_reducible refine le_bel_add ?_) | (with_reducible assumption) | omega | (dsimp only; omega)))
      exact hS.trans (belowK_b (w := w) (Nat.le_refl _) _ D' _ _ (by simp at hD; omega) hK' rfl rfl)
  case stop =>
    rintro D' c pre W hD hp ⟨⟨rfl, hl⟩, ⟨k1, k2⟩, hB⟩ hK
    have HV := Lib.hid (leastV_some hp hl rfl)
    clear hp
    gi_wp2
    refine ⟨by simp, .inl ⟨_, _, rfl, run_takeDeferred hK, ?_⟩⟩
    have m1 := cell_kept k1 (grownBy_putObj' _ D' (.deferred none)) (fun r e => by cases e; exact ⟨_, hK, rfl⟩)
    have m2 := cell_kept k2 (grownBy_putObj' _ D' (.deferred none)) (fun r e => by cases e; exact ⟨_, hK, rfl⟩)
    refine ⟨.tuple #[.int .i64 ((pre.headD 0).val : Int), .bool true], ?_, Ret.mk HV.out ?_⟩
    · generalize pre.headD 0 = x at *
      simp [results, Tryd.results35, go_sem, m1, m2]
    · exact hB.trans (belowK_b (w := w) (Nat.le_refl _) _ D' _ _ (by simp at hD; omega) hK rfl rfl)

/-- What Greatest returns. -/
def greatV (lo hi : Nat) : Value := match (mems lo hi).getLast? with
  | none => .tuple #[.int .i64 0, .bool false]
  | some n => .tuple #[.int .i64 (n : Int), .bool true]
theorem greatV_of {lo hi n : Nat} {z : Int} (h : (mems lo hi).getLast? = some n) (hz : z = n) : Value.tuple #[.int .i64 z, .bool true] = greatV lo hi := by unfold greatV; rw [h, hz]
theorem greatV_none : Value.tuple #[.int .i64 0, .bool false] = greatV 0 0 := by unfold greatV; rw [mems_none]; rfl
theorem lz_any (x : Nat) (w : World) (h : x < 18446744073709551616) : Calls Tryd.prog 54 #[.int .u64 (x : Int)] w fun e w' => e = .returned (.int .i64 (64 - (Lib.bitLen x : Int))) ∧ w = w' := by
  refine (Tryd.bits_LeadingZeros64 (x : Int) w (by omega) (by omega)).mono fun e w' ⟨he, hw⟩ => ⟨?_, hw.symm⟩
  rw [he, Int.toNat_natCast]
theorem great_any (lo hi : Nat) (w : World) (h1 : lo < 18446744073709551616) (h2 : hi < 18446744073709551616) :
    Calls Tryd.prog 36 #[.agg #[.int .u64 (lo : Int), .int .u64 (hi : Int)]] w (Ret (greatV lo hi) w) := by
  by_cases h0 : hi = 0
  · subst h0
    by_cases h0' : lo = 0
    · subst h0'
      have H := Lib.hid greatV_none
      go_enter Tryd.func36, Tryd.ntmps36
      go_wp2
      go_ret2
      exact Ret.mk H.out (by (repeat' (first | (with_reducible exact Below.refl _ _) | (with_reducible exact Nat.le_refl _) | (with_reducible refine Below.bel ?_ ?_) | (with_reducible refine Below.alloc ?_ ?_ _) | (with_reducible refine Below.drew ?_) | (with_reducible refine Below.drawsN ?_ _) | (with_reducible refine Below.setCell ?_ ?_ _) | (with_reducible refine le_bel ?_) | (with_reducible refine le_alloc ?_) | (with_reducible refine le_setCell ?_) | (with_reducible refine le_drew ?_) | (with_reducible refine le_drawsN ?_) | (dsimp only; with_reducible refine le_bel ?_) | (dsimp only; with_reducible refine Nat.le_refl _) | (dsimp only; with_reducible refine le_bel_add ?_) | (with_reducible assumption) | omega | (dsimp only; omega))))
    · have hl := last_low h0' h1
      obtain ⟨b1, b2, _, _⟩ := bitLen_spec h0' h1
      have e1 : ((lo : Int) != 0) = true := by simp; omega
      have HZ := fun w' => lz_any lo w' h1
      have H := Lib.hid (greatV_of (z := 63 - (64 - (Lib.bitLen lo : Int))) hl (by omega))
      clear hl
      generalize Lib.bitLen lo = n at *
      go_enter Tryd.func36, Tryd.ntmps36
      go_wp2_with fail
      (with_reducible refine (HZ _).mono ?_)
      rintro _ _ ⟨rfl, rfl⟩
      go_wp2
      go_ret2
      exact Ret.mk H.out (by (repeat' (first | (with_reducible exact Below.refl _ _) | (with_reducible exact Nat.le_refl _) | (with_reducible refine Below.bel ?_ ?_) | (with_reducible refine Below.alloc ?_ ?_ _) | (with_reducible refine Below.drew ?_) | (with_reducible refine Below.drawsN ?_ _) | (with_reducible refine Below.setCell ?_ ?_ _) | (with_reducible refine le_bel ?_) | (with_reducible refine le_alloc ?_) | (with_reducible refine le_setCell ?_) | (with_reducible refine le_drew ?_) | (with_reducible refine le_drawsN ?_) | (dsimp only; with_reducible refine le_bel ?_) | (dsimp only; with_reducible refine Nat.le_refl _) | (dsimp only; with_reducible refine le_bel_add ?_) | (with_reducible assumption) | omega | (dsimp only; omega))))
  · have hl := last_high (lo := lo) h0 h2
    obtain ⟨b1, b2, _, _⟩ := bitLen_spec h0 h2
    have e1 : ((hi : Int) != 0) = true := by simp; omega
    have HZ := fun w' => lz_any hi w' h2
    have H := Lib.hid (greatV_of (z := 127 - (64 - (Lib.bitLen hi : Int))) hl (by omega))
    clear hl
    generalize Lib.bitLen hi = n at *
    go_enter Tryd.func36, Tryd.ntmps36
    go_wp2_with fail
    (with_reducible refine (HZ _).mono ?_)
    rintro _ _ ⟨rfl, rfl⟩
    go_wp2
    go_ret2
    exact Ret.mk H.out (by (repeat' (first | (with_reducible exact Below.refl _ _) | (with_reducible exact Nat.le_refl _) | (with_reducible refine Below.bel ?_ ?_) | (with_reducible refine Below.alloc ?_ ?_ _) | (with_reducible refine Below.drew ?_) | (with_reducible refine Below.drawsN ?_ _) | (with_reducible refine Below.setCell ?_ ?_ _) | (with_reducible refine le_bel ?_) | (with_reducible refine le_alloc ?_) | (with_reducible refine le_setCell ?_) | (with_reducible refine le_drew ?_) | (with_reducible refine le_drawsN ?_) | (dsimp only; with_reducible refine le_bel ?_) | (dsimp only; with_reducible refine Nat.le_refl _) | (dsimp only; with_reducible refine le_bel_add ?_) | (with_reducible assumption) | omega | (dsimp only; omega))))
end Go.Proofs.YtjojdkdpdlmahaaDoor
