/- Shift. -/
import Derived.Test.YtjojdkdpdlmahaaDoorE2
import Derived.Test.YtjojdkdpdlmahaaDoorE4
namespace Go.Proofs.YtjojdkdpdlmahaaDoor
open Go.RowKit Go.Shelf
attribute [local go_sem low] Bel.cell Bel.frozen alloc_cell alloc_frozen
attribute [local go_sem] Oper.semAt_some

theorem own2_kept {A B : World} {k : Nat} {a b : Value} {row : Option Nat} (h : Own2 A k a b) (hg : A.grownBy B row) (hr : ∀ r, row = some r → ∃ o : Obj, A.heap[r]? = some o ∧ o.isCells = false) : Own2 B k a b :=
  ⟨cell_kept h.1 hg hr, cell_kept h.2.1 hg hr, (frozen_kept h.1 hg hr).trans h.2.2.1, (frozen_kept h.2.1 hg hr).trans h.2.2.2⟩
theorem own2_bel {W : World} {k : Nat} {a b : Value} (h : Own2 W k a b) (y : Bel W) : Own2 y.w k a b :=
  ⟨cell_carry y.below h.1, cell_carry y.below h.2.1, (y.below.frozen (World.block_lt_of_cell? W _ h.1)).trans h.2.2.1, (y.below.frozen (World.block_lt_of_cell? W _ h.2.1)).trans h.2.2.2⟩
theorem shF_in {c : Int} {pre : List (Fin 128)} {x : Fin 128} {n : Nat} (ho : okS c x.val = true) (hn : (x.val : Int) + c = n) : shN c 0 0 ((pre ++ [x]).map (·.val)) = (withLo (shN c 0 0 (pre.map (·.val))).1 n, withHi (shN c 0 0 (pre.map (·.val))).2 n) := by
  rw [List.map_append, List.map_cons, List.map_nil, shN_snoc, if_pos ho, hn]; rfl
theorem shF_out {c : Int} {pre : List (Fin 128)} {x : Fin 128} (ho : okS c x.val = false) : shN c 0 0 ((pre ++ [x]).map (·.val)) = shN c 0 0 (pre.map (·.val)) := by
  rw [List.map_append, List.map_cons, List.map_nil, shN_snoc, if_neg (by rw [ho]; decide)]
set_option maxRecDepth 100000 in
set_option maxHeartbeats 4000000 in
theorem shift_any (lo hi : Nat) (z : Int) (w : World) (h1 : lo < 18446744073709551616) (h2 : hi < 18446744073709551616) (hz1 : -9223372036854775808 ≤ z) (hz2 : z ≤ 9223372036854775807) (hTz : Tz w) :
    Calls Tryd.prog 27 #[.agg #[.int .u64 (lo : Int), .int .u64 (hi : Int)], .int .i64 z] w (Ret (.agg #[.int .u64 ((shS z lo hi).1 : Nat), .int .u64 ((shS z lo hi).2 : Nat)]) w) := by
  have hw0 := hTz.lt
  obtain ⟨c, hc⟩ : ∃ c, clampS z = c := ⟨_, rfl⟩
  have hc1 : -128 ≤ c := by unfold clampS at hc; omega
  have hc2 : c ≤ 128 := by unfold clampS at hc; omega
  unfold shS
  rw [← memF_val, hc]
  unfold clampS at hc
  refine (callsIn_wide (n := 3)).1 ?_
  refine callsIn_of_wp_marks Tryd.func27 rfl trivial ?_ rfl
  simp only [Tryd.ntmps27, List.size_toArray, List.length_cons, List.length_nil, Nat.reduceAdd, Nat.reduceSub, Array.replicate_succ, Array.replicate_zero, List.push_toArray, List.append_toArray, List.nil_append, List.cons_append]
  gi_wp2_with (refine ⟨trivial, ?_⟩; gi_at_call 52; refine (callsIn_wide.2 (allF_any _ _ _)).mono ?_; rintro _ _ ⟨rfl, rfl⟩)
  have hT' : Tz (((((w.alloc (.cells #[.int .u64 (lo : Int), .int .u64 (hi : Int)] 34)).alloc (.cells #[.int .i64 c] 3)).alloc (.cells #[.int .u64 0, .int .u64 0] 34)).alloc (.cells #[.int .u64 0, .int .u64 0] 34)).alloc (.cells #[.int .u64 (lo : Int), .int .u64 (hi : Int)] 34)) := hTz.of hw0 (by (repeat' (first | (with_reducible exact Below.refl _ _) | (with_reducible exact Nat.le_refl _) | (with_reducible refine Below.bel ?_ ?_) | (with_reducible refine Below.alloc ?_ ?_ _) | (with_reducible refine Below.drew ?_) | (with_reducible refine Below.drawsN ?_ _) | (with_reducible refine Below.setCell ?_ ?_ _) | (with_reducible refine le_bel ?_) | (with_reducible refine le_alloc ?_) | (with_reducible refine le_setCell ?_) | (with_reducible refine le_drew ?_) | (with_reducible refine le_drawsN ?_) | (dsimp only; with_reducible refine le_bel ?_) | (dsimp only; with_reducible refine Nat.le_refl _) | (dsimp only; with_reducible refine le_bel_add ?_) | (with_reducible assumption) | omega | (dsimp only; omega))))
  refine wpIn_rangeFunc_ownG rfl (by omega : 1 ≤ 3) (gf := 64) (lb := #[.pointer (some ⟨w.heap.size + 1 + 1 + 1 + 1, 0, none⟩)]) rfl trivial (enters_of Tryd.func64 (by kernel_rfl) rfl)
    (all_stops (3 - 1) (by omega) (w.heap.size + 1 + 1 + 1 + 1) w.heap.size lo hi _ h1 h2 (by simp) (by simp [go_sem]) (by simp [go_sem]) hw0 hT') belowK_t (belowK_b (by simp; omega)) (Below.refl _ _) (fun _ => rfl)
    (fun (pre : List (Fin 128)) W => (W.cell? ⟨w.heap.size + 1, 0, none⟩ = some (.int .i64 c) ∧ Own2 W (w.heap.size + 1 + 1) (.int .u64 0) (.int .u64 0) ∧ Own2 W (w.heap.size + 1 + 1 + 1) (.int .u64 ((shN c 0 0 (pre.map (·.val))).1 : Nat)) (.int .u64 ((shN c 0 0 (pre.map (·.val))).2 : Nat))) ∧ Below w.heap.size w W)
    (fun _ _ _ => False)
    (OwnFrom.and (Own.from (fun s A B row hs hg hr => ⟨cell_kept hs.1 hg hr, own2_kept hs.2.1 hg hr, own2_kept hs.2.2 hg hr⟩) _) (ownFrom_below (Nat.le_refl _) (by simp; omega)))
    (fun _ _ _ _ _ hs _ _ => hs)
    ⟨⟨by simp [go_sem], by unfold Own2; simp [go_sem], by unfold Own2; simp [go_sem, shN]⟩, by (repeat' (first | (with_reducible exact Below.refl _ _) | (with_reducible exact Nat.le_refl _) | (with_reducible refine Below.bel ?_ ?_) | (with_reducible refine Below.alloc ?_ ?_ _) | (with_reducible refine Below.drew ?_) | (with_reducible refine Below.drawsN ?_ _) | (with_reducible refine Below.setCell ?_ ?_ _) | (with_reducible refine le_bel ?_) | (with_reducible refine le_alloc ?_) | (with_reducible refine le_setCell ?_) | (with_reducible refine le_drew ?_) | (with_reducible refine le_drawsN ?_) | (dsimp only; with_reducible refine le_bel ?_) | (dsimp only; with_reducible refine Nat.le_refl _) | (dsimp only; with_reducible refine le_bel_add ?_) | (with_reducible assumption) | omega | (dsimp only; omega)))⟩
    (fun x => { tmps := #[.agg #[.int .u64 (lo : Int), .int .u64 (hi : Int)], .int .i64 z, .pointer (some ⟨w.heap.size, 0, none⟩), .pointer (some ⟨w.heap.size + 1, 0, none⟩), .pointer (some ⟨w.heap.size + 1 + 1, 0, none⟩), .pointer (some ⟨w.heap.size + 1 + 1 + 1, 0, none⟩), .int .i64 (x.val : Int), .int .i64 z, .int .i64 (min 128 z), .int .i64 c, .agg #[.int .u64 (lo : Int), .int .u64 (hi : Int)], .func (.func 64) #[] #[.pointer (some ⟨w.heap.size + 1 + 1 + 1 + 1, 0, none⟩)], .int .i64 (x.val : Int), undef, undef, undef, undef, undef, undef, undef, undef, undef, undef], defers := [] }) ?assign ?body ?done ?stop
  case assign =>
    intro l x W K hK
    gi_wp2
    exact hK
  case body =>
    rintro l pre x W ⟨⟨hcc, ho, hs⟩, hB⟩ hlt
    have hBs := hB.size
    have hx127 : x.val ≤ 127 := by omega
    obtain ⟨q1, q2⟩ := shN_lt c (pre.map (·.val)) 0 0 (by decide) (by decide)
    have s1 := hs.1
    have s2 := hs.2.1
    have s3 := hs.2.2.1
    have s4 := hs.2.2.2
    cases hok : okS c x.val
    · have HS := Lib.hid (shF_out (pre := pre) hok)
      have e1 : decide (0 ≤ (x.val : Int) + c ∧ (x.val : Int) + c ≤ 127) = false := hok
      clear hok
      gi_wp2_with (refine ⟨trivial, ?_⟩; gi_at_call 43; refine (CallsIn.inRound l (callsIn_wide.2 (isNote_any _ _))).mono ?_; rintro _ _ ⟨rfl, rfl⟩; rw [e1])
      exact ⟨(KeepsOthers.refl _).from _, Below.refl _ _, ⟨hcc, ho, by rw [HS.out]; exact hs⟩, hB⟩
    · obtain ⟨n, hn⟩ := Int.eq_ofNat_of_zero_le (show 0 ≤ (x.val : Int) + c by unfold okS at hok; simp at hok; omega)
      have hn127 : n ≤ 127 := by have := (okS_le hok).1; omega
      have HS := Lib.hid (shF_in (pre := pre) hok hn)
      have e1 : decide (0 ≤ (n : Int) ∧ (n : Int) ≤ 127) = true := by simp; omega
      have w1 := withLo_lt n q1
      have w2 := withHi_lt n q2 hn127
      clear hok
      generalize (shN c 0 0 (pre.map (·.val))).1 = a at *
      generalize (shN c 0 0 (pre.map (·.val))).2 = b at *
      gi_wp2_with (first | (refine ⟨trivial, ?_⟩; gi_at_call 43; refine (CallsIn.inRound l (callsIn_wide.2 (isNote_any _ _))).mono ?_; rintro _ _ ⟨rfl, rfl⟩; rw [e1]) | (refine ⟨trivial, ?_⟩; gi_at_call 50; refine (CallsIn.inRound l (callsIn_wide.2 (with_any _ _ _ _ q1 q2 hn127))).mono ?_; rintro _ _ ⟨rfl, y, rfl⟩; have hys := y.size_le))
      refine ⟨((bel_keeps y).trans ((KeepsOthers.setCell _ _ _).trans (KeepsOthers.setCell _ _ _))).from _, by (repeat' (first | (with_reducible exact Below.refl _ _) | (with_reducible exact Nat.le_refl _) | (with_reducible refine Below.bel ?_ ?_) | (with_reducible refine Below.alloc ?_ ?_ _) | (with_reducible refine Below.drew ?_) | (with_reducible refine Below.drawsN ?_ _) | (with_reducible refine Below.setCell ?_ ?_ _) | (with_reducible refine le_bel ?_) | (with_reducible refine le_alloc ?_) | (with_reducible refine le_setCell ?_) | (with_reducible refine le_drew ?_) | (with_reducible refine le_drawsN ?_) | (dsimp only; with_reducible refine le_bel ?_) | (dsimp only; with_reducible refine Nat.le_refl _) | (dsimp only; with_reducible refine le_bel_add ?_) | (with_reducible assumption) | omega | (dsimp only; omega))), ⟨?_, ?_, ?_⟩, by (repeat' (first | (with_reducible exact Below.refl _ _) | (with_reducible exact Nat.le_refl _) | (with_reducible refine Below.bel ?_ ?_) | (with_reducible refine Below.alloc ?_ ?_ _) | (with_reducible refine Below.drew ?_) | (with_reducible refine Below.drawsN ?_ _) | (with_reducible refine Below.setCell ?_ ?_ _) | (with_reducible refine le_bel ?_) | (with_reducible refine le_alloc ?_) | (with_reducible refine le_setCell ?_) | (with_reducible refine le_drew ?_) | (with_reducible refine le_drawsN ?_) | (dsimp only; with_reducible refine le_bel ?_) | (dsimp only; with_reducible refine Nat.le_refl _) | (dsimp only; with_reducible refine le_bel_add ?_) | (with_reducible assumption) | omega | (dsimp only; omega)))⟩
      · simp [go_sem, hcc]
      · unfold Own2; simp [go_sem, ho.1, ho.2.1, ho.2.2.1, ho.2.2.2]
      · rw [HS.out]; unfold Own2; simp [go_sem, s1, s2, s3, s4]
  case done =>
    rintro D' ys W hD rfl ⟨⟨hcc, ho, hs⟩, hB⟩ hK
    have s1 := hs.1
    have s2 := hs.2.1
    have o1 := ho.1
    have o2 := ho.2.1
    have o3 := ho.2.2.1
    have o4 := ho.2.2.2
    gi_wp2
    have hK' := ((KeepsOthers.setCell W ⟨w.heap.size + 1 + 1, 0, none⟩ (.int .u64 ((shN c 0 0 ((memF lo hi).map (·.val))).1 : Nat))).trans (KeepsOthers.setCell _ ⟨w.heap.size + 1 + 1, 1, none⟩ (.int .u64 ((shN c 0 0 ((memF lo hi).map (·.val))).2 : Nat)))).same D' _ hK rfl
    refine ⟨by simp, .inl ⟨_, _, rfl, run_takeDeferred hK', ?_⟩⟩
    generalize (shN c 0 0 ((memF lo hi).map (·.val))).1 = a at *
    generalize (shN c 0 0 ((memF lo hi).map (·.val))).2 = b at *
    have k1 : ((W.setCell ⟨w.heap.size + 1 + 1, 0, none⟩ (.int .u64 (a : Int))).setCell ⟨w.heap.size + 1 + 1, 1, none⟩ (.int .u64 (b : Int))).cell? ⟨w.heap.size + 1 + 1, 0, none⟩ = some (.int .u64 (a : Int)) := by simp [go_sem, o1, o2]
    have k2 : ((W.setCell ⟨w.heap.size + 1 + 1, 0, none⟩ (.int .u64 (a : Int))).setCell ⟨w.heap.size + 1 + 1, 1, none⟩ (.int .u64 (b : Int))).cell? ⟨w.heap.size + 1 + 1, 1, none⟩ = some (.int .u64 (b : Int)) := by simp [go_sem, o1, o2]
    have m1 := cell_kept k1 (grownBy_putObj' _ D' (.deferred none)) (fun r e => by cases e; exact ⟨_, hK', rfl⟩)
    have m2 := cell_kept k2 (grownBy_putObj' _ D' (.deferred none)) (fun r e => by cases e; exact ⟨_, hK', rfl⟩)
    refine ⟨.agg #[.int .u64 (a : Int), .int .u64 (b : Int)], ?_, Ret.mk rfl ?_⟩
    · simp [results, Tryd.results27, go_sem, m1, m2]
    · have hS : Below w.heap.size w ((W.setCell ⟨w.heap.size + 1 + 1, 0, none⟩ (.int .u64 (a : Int))).setCell ⟨w.heap.size + 1 + 1, 1, none⟩ (.int .u64 (b : Int))) := by (repeat' (first | (with_reducible exact Below.refl _ _) | (with_reducible exact Nat.le_refl _) | (with_reducible refine Below.bel ?_ ?_) | (with_reducible refine Below.alloc ?_ ?_ _) | (with_reducible refine Below.drew ?_) | (with_reducible refine Below.drawsN ?_ _) | (with_reducible refine Below.setCell ?_ ?_ _) | (with_reducible refine le_bel ?_) | (with_reducible refine le_alloc ?_) | (with_reducible refine le_setCell ?_) | (with_reducible refine le_drew ?_) | (with_reducible refine le_drawsN ?_) | (dsimp only; with_reducible refine le_bel ?_) | (dsimp only; with_reducible refine Nat.le_refl _) | (dsimp only; with_reducible refine le_bel_add ?_) | (with_reducible assumption) | omega | (dsimp only; omega)))
      exact hS.trans (belowK_b (w := w) (Nat.le_refl _) _ D' _ _ (by simp at hD; omega) hK' rfl rfl)
  case stop =>
    rintro D' c pre W _ _ h _
    exact h.elim
end Go.Proofs.YtjojdkdpdlmahaaDoor
