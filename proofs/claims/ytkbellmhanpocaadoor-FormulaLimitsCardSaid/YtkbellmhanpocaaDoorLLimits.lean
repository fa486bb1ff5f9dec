/- The walk of FormulaLimits. -/
import Derived.Test.YtkbellmhanpocaaDoorK1
namespace Go.Proofs.YtkbellmhanpocaaDoor
open Go.RowKit F
attribute [local go_sem low] Bel.cell Bel.frozen alloc_cell alloc_frozen

def deepF : Nat → F | 0 => nd 6 0 [] | m + 1 => nd 2 0 [deepF m]
def wideF (x : Int) (m : Nat) : F := nd 3 0 (List.replicate m (nd 1 x []))
theorem deepF_size : ∀ m, nodes (deepF m) = m + 1 ∧ levels (deepF m) = m + 1
  | 0 => ⟨rfl, rfl⟩
  | m + 1 => by
    have := deepF_size m
    rw [deepF, nodes, levels, nodesL, nodesL, levelsL, levelsL]
    omega
theorem deepF_ok : ∀ m, okT (deepF m)
  | 0 => ⟨rfl, trivial⟩
  | m + 1 => ⟨single_not _, deepF_ok m, trivial⟩
theorem deepF_check (m : Nat) (hm : m ≤ 1000) : checkF (deepF m) = if m + 1 ≤ 100 then 0 else 4 := by
  have h := deepF_size m
  unfold checkF fitsF
  split
  · rename_i hf
    rw [decide_eq_true_eq] at hf
    rw [if_pos (by omega)]
    exact (okT_iff _).1 (deepF_ok m)
  · rename_i hf
    rw [decide_eq_true_eq] at hf
    rw [if_neg (by omega)]
theorem repl_size (t : F) (h1 : nodes t = 1) (h2 : levels t = 1) : ∀ m, nodesL (List.replicate m t) = m ∧ levelsL (List.replicate m t) ≤ 1
  | 0 => ⟨rfl, by simp [levelsL]⟩
  | m + 1 => by
    have := repl_size t h1 h2 m
    rw [List.replicate_succ, nodesL, levelsL]
    omega
theorem wideF_check (x : Int) (h0 : 0 ≤ x) (h1 : x < 4096) (m : Nat) : checkF (wideF x m) = if m + 1 ≤ 10000 then 0 else 4 := by
  have h := repl_size (nd 1 x []) rfl rfl m
  have hs : nodes (wideF x m) = m + 1 ∧ levels (wideF x m) ≤ 2 := by
    rw [wideF, nodes, levels]
    omega
  unfold checkF fitsF
  split
  · rename_i hf
    rw [decide_eq_true_eq] at hf
    rw [if_pos (by omega)]
    refine (okT_iff _).1 ⟨single_join (.inl rfl) (by rw [List.length_replicate]; omega), okL_of fun t ht => ?_⟩
    rw [List.eq_of_mem_replicate ht]
    exact ⟨single_var h0 h1, trivial⟩
  · rename_i hf
    rw [decide_eq_true_eq] at hf
    rw [if_neg (by omega)]
set_option maxRecDepth 100000 in
set_option maxHeartbeats 12800000 in
theorem lawLimits_any (X : Nat) (w : World) (hT : Tab w) (hX : X < 256) : Calls Tryd.prog 3 #[.int .u8 (X : Int)] w (Ret (.bool true) w) := by
  obtain ⟨i0, hi0, hz0, hz1, hz2⟩ := info_parts Tryd.infoF
  have HT := Lib.hid hT
  clear hT
  obtain ⟨R, hR⟩ : ∃ R : Nat, X % 5 = R := ⟨_, rfl⟩
  have hR5 : R < 5 := by omega
  have hmod : (X : Int) % 5 = (R : Int) := by omega
  go_enter Tryd.func3, Tryd.ntmps3
  go_wp2_with fail
  (with_reducible refine (known_any _ (HT.out.of (by (repeat' (first | (with_reducible exact Below.refl _ _) | (with_reducible exact Nat.le_refl _) | (with_reducible refine Below.bel ?_ ?_) | (with_reducible refine Below.alloc ?_ ?_ _) | (with_reducible refine Below.drew ?_) | (with_reducible refine Below.drawsN ?_ _) | (with_reducible refine Below.setCell ?_ ?_ _) | (with_reducible refine le_bel ?_) | (with_reducible refine le_alloc ?_) | (with_reducible refine le_setCell ?_) | (with_reducible refine le_drew ?_) | (with_reducible refine le_drawsN ?_) | (dsimp only; with_reducible refine le_bel ?_) | (dsimp only; with_reducible refine Nat.le_refl _) | (dsimp only; with_reducible refine le_bel_add ?_) | (with_reducible assumption) | omega | (dsimp only; omega)))))).mono ?_)
  rintro _ _ ⟨rfl, y1, rfl⟩
  go_wp2
  obtain ⟨B0, hB0⟩ : ∃ B0, y1.w.heap.size = B0 := ⟨_, rfl⟩
  have hy1 := y1.size_le
  rw [hB0] at hy1 ⊢
  have HY1 := Lib.hid hB0
  clear hB0
  go_loopw [5] (fun i wr => ∃ (m : Nat) (ad : Option Addr) (cap : Nat), i = .int .i64 ((m + 1 : Nat) : Int) ∧ m + 1 ≤ 98 + R ∧ wr.heap[B0]? = some (.cells #[.int .i64 (deepF m).k, .int .i64 (deepF m).a, .slice ad (deepF m).l.length cap] 25 (0, 0)) ∧ InsF (fun b => B0 + 1 ≤ b) wr ad (deepF m).l ∧ Below w.heap.size w wr ∧ B0 + 1 ≤ wr.heap.size) (fun i _ => 200 - (intOf i).toNat)
  case atStart => exact ⟨0, none, 0, rfl, by omega, by rw [← HY1.out]; exact World.alloc_heap_new _ _, insF_nil _ _ _, by (repeat' (first | (with_reducible exact Below.refl _ _) | (with_reducible exact Nat.le_refl _) | (with_reducible refine Below.bel ?_ ?_) | (with_reducible refine Below.alloc ?_ ?_ _) | (with_reducible refine Below.drew ?_) | (with_reducible refine Below.drawsN ?_ _) | (with_reducible refine Below.setCell ?_ ?_ _) | (with_reducible refine le_bel ?_) | (with_reducible refine le_alloc ?_) | (with_reducible refine le_setCell ?_) | (with_reducible refine le_drew ?_) | (with_reducible refine le_drawsN ?_) | (dsimp only; with_reducible refine le_bel ?_) | (dsimp only; with_reducible refine Nat.le_refl _) | (dsimp only; with_reducible refine le_bel_add ?_) | (with_reducible assumption) | omega | (dsimp only; omega))), by simp [HY1.out]⟩
  case round =>
    obtain ⟨m, ad, cap, rfl, hm, hbx, hin, hb, hsz⟩ := hrel
    obtain ⟨c0, c1, c2⟩ := box3 hbx
    obtain ⟨g0, g1, g2⟩ := box3f hbx
    rcases Nat.lt_or_ge (m + 1) (98 + R) with hlt | hge
    · have f0 : decide (((m + 1 : Nat) : Int) < 98 + (R : Int)) = true := decide_eq_true (by omega)
      have HN := Lib.hid (show deepF (m + 1) = nd 2 0 [deepF m] from rfl)
      obtain ⟨t, ht⟩ : ∃ t, deepF m = t := ⟨_, rfl⟩
      rw [ht] at hin hbx c0 c1 c2 HN
      have HBX := Lib.hid hbx
      have HI := Lib.hid hin
      have HB := Lib.hid hb
      have hb1 : Below wr.heap.size wr (wr.alloc (.cells #[.int .i64 t.k, .int .i64 t.a, .slice ad t.l.length cap] 25)) := by (repeat' (first | (with_reducible exact Below.refl _ _) | (with_reducible exact Nat.le_refl _) | (with_reducible refine Below.bel ?_ ?_) | (with_reducible refine Below.alloc ?_ ?_ _) | (with_reducible refine Below.drew ?_) | (with_reducible refine Below.drawsN ?_ _) | (with_reducible refine Below.setCell ?_ ?_ _) | (with_reducible refine le_bel ?_) | (with_reducible refine le_alloc ?_) | (with_reducible refine le_setCell ?_) | (with_reducible refine le_drew ?_) | (with_reducible refine le_drawsN ?_) | (dsimp only; with_reducible refine le_bel ?_) | (dsimp only; with_reducible refine Nat.le_refl _) | (dsimp only; with_reducible refine le_bel_add ?_) | (with_reducible assumption) | omega | (dsimp only; omega)))
      have hbx1 := obj_bel ⟨_, hb1⟩ hbx
      obtain ⟨q0, q1, q2⟩ := box3f hbx1
      have HB1 := Lib.hid hb1
      clear hin hbx hb ht
      go_wp2
      have hR := obj_set3 (.int .i64 2) (.int .i64 0) (.slice (some ⟨wr.heap.size, 0, none⟩) 1 1) hbx1
      go_roundw
      case rel =>
        refine ⟨m + 1, some ⟨wr.heap.size, 0, none⟩, 1, by go_num, by omega, by rw [HN.out]; exact hR, by rw [HN.out]; exact insF_set3 (by omega) (Nat.le_refl _) (insF_one (E := 25) (ad := ad) (cap := cap) (World.alloc_heap_new _ _) (by omega) (HI.out.of HB1.out)), ?_, by simp; omega⟩
        exact ((((HB.out.trans (HB1.out.mono HB.out.size)).setCell (p := ⟨B0, 0, none⟩) hy1 _).setCell (p := ⟨B0, 1, none⟩) hy1 _).setCell (p := ⟨B0, 2, none⟩) hy1 _)
      case measure => simp [intOf]; omega
    · have f0 : decide (((m + 1 : Nat) : Int) < 98 + (R : Int)) = false := decide_eq_false (by omega)
      have hme : m + 1 = 98 + R := by omega
      have HD := Lib.hid (deepF_check m (by omega))
      have hds := (deepF_size m).1
      obtain ⟨t, ht⟩ : ∃ t, deepF m = t := ⟨_, rfl⟩
      rw [ht] at hin hbx c0 c1 c2 HD hds
      have HBX := Lib.hid hbx
      have HI := Lib.hid hin
      have HB := Lib.hid hb
      obtain ⟨w2, hw2⟩ : ∃ w2, w2 = wr := ⟨_, rfl⟩
      subst hw2
      clear hin hbx hb ht
      go_wp2
      go_loopw [8] (fun i wr => ∃ (m : Nat) (v : Value), i = .int .i64 ((m + 1 : Nat) : Int) ∧ m + 1 ≤ 9998 + R ∧ wr.heap[w2.heap.size]? = some (.cells #[.int .i64 3, .int .i64 0, v] 25 (0, 0)) ∧ OwnG wr (w2.heap.size + 1) (fun b => w2.heap.size + 1 ≤ b) 25 v (List.replicate m (nd 1 X [])) ∧ Below w2.heap.size w2 wr ∧ w2.heap.size + 1 ≤ wr.heap.size) (fun i _ => 20000 - (intOf i).toNat)
      case atStart => exact ⟨0, .slice none 0 0, rfl, by omega, World.alloc_heap_new _ _, ownG_nil _ _ _ _, by (repeat' (first | (with_reducible exact Below.refl _ _) | (with_reducible exact Nat.le_refl _) | (with_reducible refine Below.bel ?_ ?_) | (with_reducible refine Below.alloc ?_ ?_ _) | (with_reducible refine Below.drew ?_) | (with_reducible refine Below.drawsN ?_ _) | (with_reducible refine Below.setCell ?_ ?_ _) | (with_reducible refine le_bel ?_) | (with_reducible refine le_alloc ?_) | (with_reducible refine le_setCell ?_) | (with_reducible refine le_drew ?_) | (with_reducible refine le_drawsN ?_) | (dsimp only; with_reducible refine le_bel ?_) | (dsimp only; with_reducible refine Nat.le_refl _) | (dsimp only; with_reducible refine le_bel_add ?_) | (with_reducible assumption) | omega | (dsimp only; omega))), by simp⟩
      case round =>
        obtain ⟨k, v, rfl, hk, hbx, hown, hb, hsz2⟩ := hrel
        obtain ⟨va, vc, rfl⟩ := ownG_val hown
        rw [List.length_replicate] at hown hbx
        obtain ⟨d0, d1, d2⟩ := box3 hbx
        obtain ⟨_, _, e2⟩ := box3f hbx
        have HBX2 := Lib.hid hbx
        have HO := Lib.hid hown
        have HB2 := Lib.hid hb
        rcases Nat.lt_or_ge (k + 1) (9998 + R) with hlt | hge2
        · have f1 : decide (((k + 1 : Nat) : Int) < 9998 + (R : Int)) = true := decide_eq_true (by omega)
          have hbz : Below wr.heap.size wr (wr.alloc (.cells #[.int .i64 1, .int .i64 X, .slice none 0 0] 25)) := by (repeat' (first | (with_reducible exact Below.refl _ _) | (with_reducible exact Nat.le_refl _) | (with_reducible refine Below.bel ?_ ?_) | (with_reducible refine Below.alloc ?_ ?_ _) | (with_reducible refine Below.drew ?_) | (with_reducible refine Below.drawsN ?_ _) | (with_reducible refine Below.setCell ?_ ?_ _) | (with_reducible refine le_bel ?_) | (with_reducible refine le_alloc ?_) | (with_reducible refine le_setCell ?_) | (with_reducible refine le_drew ?_) | (with_reducible refine le_drawsN ?_) | (dsimp only; with_reducible refine le_bel ?_) | (dsimp only; with_reducible refine Nat.le_refl _) | (dsimp only; with_reducible refine le_bel_add ?_) | (with_reducible assumption) | omega | (dsimp only; omega)))
          have HOZ := Lib.hid (show OwnG (wr.alloc (.cells #[.int .i64 1, .int .i64 X, .slice none 0 0] 25)) (w2.heap.size + 1) (fun b => w2.heap.size + 1 ≤ b) 25 (.slice va k vc) (List.replicate k (nd 1 X [])) from ownG_bel hown ⟨_, hbz⟩)
          have HCZ := Lib.hid (show InsC (fun b => w2.heap.size + 1 ≤ b ∧ (Value.slice va k vc).ownBlock ≠ some b) (wr.alloc (.cells #[.int .i64 1, .int .i64 X, .slice none 0 0] 25)) (some ⟨wr.heap.size, 0, none⟩) [nd 1 X []] from
            insC_one (u := nd 1 X []) (E := 25) (ad := none) (cap := 0) (World.alloc_heap_new _ _) (insF_nil _ _ _))
          have HBZ := Lib.hid (obj_bel ⟨_, hbz⟩ hbx)
          have hln : (List.replicate k (nd 1 (X : Int) [])).length = k := List.length_replicate
          have HRP := Lib.hid (show List.replicate k (nd 1 (X : Int) []) ++ [nd 1 X []] = List.replicate (k + 1) (nd 1 X []) from by rw [List.replicate_succ']; )
          clear hbx hown hb
          go_wp2_with (at_builtin; refine wpList_appG rfl _ _ 23 25 rfl i0 Tryd.underlying23 hi0 hz0 hz1 hz2 _ (w2.heap.size + 1) (fun b => w2.heap.size + 1 ≤ b) _ (List.replicate k (nd 1 X [])) [nd 1 X []] (some ⟨wr.heap.size, 0, none⟩) 1 rfl HOZ.out HCZ.out rfl (by rw [hln]; simp; omega) (by simp; omega) ?_; intro va2 vc2 w4 hof hbw; rw [hln, List.length_singleton] at hof; rw [hln]; have HBW := Lib.hid hbw; have HOF := Lib.hid hof; have HB4 := Lib.hid (obj_below hbw (by omega) HBZ.out); obtain ⟨j0, j1, j2⟩ := box3 HB4.out; obtain ⟨_, _, j3⟩ := box3f HB4.out; have hbws := hbw.size; simp at hbws; clear hof hbw)
          go_roundw
          case rel =>
            refine ⟨k + 1, by go_num, by omega, .slice va2 (k + 1) vc2, obj_set _ HB4.out, by rw [← HRP.out]; exact ownG_move HOF.out (fun b o ho hq => obj_ne _ (by
              rcases hq with hq | hq
              · have := ownG_block HOF.out hq
                omega
              · omega) ho), ?_, by omega⟩
            exact (HB2.out.trans ((hbz.mono (by omega)).trans (HBW.out.mono (by omega)))).setCell (p := ⟨w2.heap.size, 2, none⟩) (Nat.le_refl _) _
          case measure => simp [intOf]; omega
        · have f1 : decide (((k + 1 : Nat) : Int) < 9998 + (R : Int)) = false := decide_eq_false (by omega)
          have hke : k + 1 = 9998 + R := by omega
          have HW := Lib.hid (wideF_check X (by omega) (by omega) k)
          have HD1 := Lib.hid (obj_below hb (by omega) HBX.out)
          obtain ⟨a0, a1, a2⟩ := box3 HD1.out
          obtain ⟨oa, oc, hov, hoi⟩ := ownG_ins hown
          injection hov with h1 h2 h3
          subst h1 h3
          have HOI := Lib.hid hoi
          have hwn : nodes (wideF X k) = k + 1 := by
            have h := repl_size (nd 1 X []) rfl rfl k
            rw [wideF, nodes]
            omega
          have HC1 := Lib.hid (fun W h => check_any (fun b => B0 + 1 ≤ b) t ad cap W h (by omega))
          have HC2 := Lib.hid (fun W h => show Calls Tryd.prog 12 #[.agg #[.int .i64 3, .int .i64 0, .slice va k vc]] _ _ from by
            have := check_any (fun b => w2.heap.size + 1 ≤ b ∨ w2.heap.size + 1 ≤ b) (wideF X k) va vc W h (by omega)
            simpa [wideF, F.k, F.a, F.l] using this)
          rw [HD.out, hme] at HC1
          unfold wideF at HW
          rw [HW.out, hke] at HC2
          have hb2w := HB2.out
          have hbw := HB.out.trans (hb2w.mono HB.out.size)
          clear hbx hown h2 hoi HD HW
          by_cases hr : R ≤ 2
          · rw [if_pos (by omega)] at HC1
            rw [if_pos (by omega)] at HC2
            have f2 : decide (98 + (R : Int) ≤ 100) = true := decide_eq_true (by omega)
            have f3 : decide (9998 + (R : Int) ≤ 10000) = true := decide_eq_true (by omega)
            go_wp2_with fail
            refine wp_region_bel (by kernel_rfl) (by kernel_rfl) ?_
            repeat (go_big_quiet_step ((go_at_call 12; first | (with_reducible exact bel_of (HC1.out _ (HI.out.of (by (repeat' (first | (with_reducible exact Below.refl _ _) | (with_reducible exact Nat.le_refl _) | (with_reducible refine Below.bel ?_ ?_) | (with_reducible refine Below.alloc ?_ ?_ _) | (with_reducible refine Below.drew ?_) | (with_reducible refine Below.drawsN ?_ _) | (with_reducible refine Below.setCell ?_ ?_ _) | (with_reducible refine le_bel ?_) | (with_reducible refine le_alloc ?_) | (with_reducible refine le_setCell ?_) | (with_reducible refine le_drew ?_) | (with_reducible refine le_drawsN ?_) | (dsimp only; with_reducible refine le_bel ?_) | (dsimp only; with_reducible refine Nat.le_refl _) | (dsimp only; with_reducible refine le_bel_add ?_) | (with_reducible assumption) | omega | (dsimp only; omega))))))) | (with_reducible exact bel_of (HC2.out _ (HOI.out.of (by (repeat' (first | (with_reducible exact Below.refl _ _) | (with_reducible exact Nat.le_refl _) | (with_reducible refine Below.bel ?_ ?_) | (with_reducible refine Below.alloc ?_ ?_ _) | (with_reducible refine Below.drew ?_) | (with_reducible refine Below.drawsN ?_ _) | (with_reducible refine Below.setCell ?_ ?_ _) | (with_reducible refine le_bel ?_) | (with_reducible refine le_alloc ?_) | (with_reducible refine le_setCell ?_) | (with_reducible refine le_drew ?_) | (with_reducible refine le_drawsN ?_) | (dsimp only; with_reducible refine le_bel ?_) | (dsimp only; with_reducible refine Nat.le_refl _) | (dsimp only; with_reducible refine le_bel_add ?_) | (with_reducible assumption) | omega | (dsimp only; omega))))))))))
            refine wpQuiet_nil ?_
            rintro _ ⟨z, rfl⟩
            go_wp2
            go_ret
            exact Ret.mk (by rfl) (by (repeat' (first | (with_reducible exact Below.refl _ _) | (with_reducible exact Nat.le_refl _) | (with_reducible refine Below.bel ?_ ?_) | (with_reducible refine Below.alloc ?_ ?_ _) | (with_reducible refine Below.drew ?_) | (with_reducible refine Below.drawsN ?_ _) | (with_reducible refine Below.setCell ?_ ?_ _) | (with_reducible refine le_bel ?_) | (with_reducible refine le_alloc ?_) | (with_reducible refine le_setCell ?_) | (with_reducible refine le_drew ?_) | (with_reducible refine le_drawsN ?_) | (dsimp only; with_reducible refine le_bel ?_) | (dsimp only; with_reducible refine Nat.le_refl _) | (dsimp only; with_reducible refine le_bel_add ?_) | (with_reducible assumption) | omega | (dsimp only; omega))))
          · rw [if_neg (by omega)] at HC1
            rw [if_neg (by omega)] at HC2
            have f2 : decide (98 + (R : Int) ≤ 100) = false := decide_eq_false (by omega)
            have f3 : decide (9998 + (R : Int) ≤ 10000) = false := decide_eq_false (by omega)
            go_wp2_with fail
            refine wp_region_bel (by kernel_rfl) (by kernel_rfl) ?_
            repeat (go_big_quiet_step ((go_at_call 12; first | (with_reducible exact bel_of (HC1.out _ (HI.out.of (by (repeat' (first | (with_reducible exact Below.refl _ _) | (with_reducible exact Nat.le_refl _) | (with_reducible refine Below.bel ?_ ?_) | (with_reducible refine Below.alloc ?_ ?_ _) | (with_reducible refine Below.drew ?_) | (with_reducible refine Below.drawsN ?_ _) | (with_reducible refine Below.setCell ?_ ?_ _) | (with_reducible refine le_bel ?_) | (with_reducible refine le_alloc ?_) | (with_reducible refine le_setCell ?_) | (with_reducible refine le_drew ?_) | (with_reducible refine le_drawsN ?_) | (dsimp only; with_reducible refine le_bel ?_) | (dsimp only; with_reducible refine Nat.le_refl _) | (dsimp only; with_reducible refine le_bel_add ?_) | (with_reducible assumption) | omega | (dsimp only; omega))))))) | (with_reducible exact bel_of (HC2.out _ (HOI.out.of (by (repeat' (first | (with_reducible exact Below.refl _ _) | (with_reducible exact Nat.le_refl _) | (with_reducible refine Below.bel ?_ ?_) | (with_reducible refine Below.alloc ?_ ?_ _) | (with_reducible refine Below.drew ?_) | (with_reducible refine Below.drawsN ?_ _) | (with_reducible refine Below.setCell ?_ ?_ _) | (with_reducible refine le_bel ?_) | (with_reducible refine le_alloc ?_) | (with_reducible refine le_setCell ?_) | (with_reducible refine le_drew ?_) | (with_reducible refine le_drawsN ?_) | (dsimp only; with_reducible refine le_bel ?_) | (dsimp only; with_reducible refine Nat.le_refl _) | (dsimp only; with_reducible refine le_bel_add ?_) | (with_reducible assumption) | omega | (dsimp only; omega))))))))))
            refine wpQuiet_nil ?_
            rintro _ ⟨z, rfl⟩
            go_wp2
            go_ret
            exact Ret.mk (by rfl) (by (repeat' (first | (with_reducible exact Below.refl _ _) | (with_reducible exact Nat.le_refl _) | (with_reducible refine Below.bel ?_ ?_) | (with_reducible refine Below.alloc ?_ ?_ _) | (with_reducible refine Below.drew ?_) | (with_reducible refine Below.drawsN ?_ _) | (with_reducible refine Below.setCell ?_ ?_ _) | (with_reducible refine le_bel ?_) | (with_reducible refine le_alloc ?_) | (with_reducible refine le_setCell ?_) | (with_reducible refine le_drew ?_) | (with_reducible refine le_drawsN ?_) | (dsimp only; with_reducible refine le_bel ?_) | (dsimp only; with_reducible refine Nat.le_refl _) | (dsimp only; with_reducible refine le_bel_add ?_) | (with_reducible assumption) | omega | (dsimp only; omega))))
end Go.Proofs.YtkbellmhanpocaaDoor
