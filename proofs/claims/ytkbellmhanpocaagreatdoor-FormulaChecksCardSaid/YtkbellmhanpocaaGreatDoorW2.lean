/- simplify, Simplify. -/
import Derived.Test.YtkbellmhanpocaaGreatDoorW1
namespace Go.Proofs.YtkbellmhanpocaaGreatDoor
set_option linter.unusedVariables false
set_option linter.unusedSimpArgs false
open Go.RowKit F
attribute [local go_sem low] Bel.cell Bel.frozen alloc_cell alloc_frozen

/-- A tree in new memory, carried over a struct that is stored whole in an older block. -/
theorem insF_set3 {n m c : Nat} {w : World} {ad : Option Addr} {l : List F} {x y z : Value} (hc : c < m) (hn : n ≤ m) (h : InsF (fun b => m ≤ b) w ad l) : InsF (fun b => n ≤ b) (((w.setCell ⟨c, 0, none⟩ x).setCell ⟨c, 1, none⟩ y).setCell ⟨c, 2, none⟩ z) ad l := by
  refine (h.move (fun k o u hk hu => ?_) (fun b _ h => h)).imp (fun b _ h => by omega)
  have hne : k ≠ c := by omega
  rw [World.cell?_of_block (Below.heap_setCell _ _ _ k hne), World.cell?_of_block (Below.heap_setCell _ _ _ k hne), World.cell?_of_block (Below.heap_setCell _ _ _ k hne)]
  exact hu
set_option maxRecDepth 100000 in
set_option maxHeartbeats 6400000 in
theorem simplify_any : ∀ (N : Nat) (t : F), nodes t ≤ N → okT t → nodes t ≤ 10000 → ∀ (P : Nat → Prop) (ad : Option Addr) (cap : Nat) (w : World), InsF P w ad t.l → Tab w →
    Calls Tryz.prog 46 #[.agg #[.int .i64 t.k, .int .i64 t.a, .slice ad t.l.length cap]] w (RetF (smp t) w) := by
  intro N
  induction N with
  | zero => intro t h; have := nodes_pos t; omega
  | succ N ih =>
    intro t hN hok hn P ad cap w hi hT
    have HNL := Lib.hid (show nodesL t.l ≤ N by rw [nodes_l] at hN; omega)
    have HNN := Lib.hid (show nodesL t.l ≤ 10000 by rw [nodes_l] at hn; omega)
    have hlt : InsF (fun c => c < w.heap.size) w ad t.l := hi.imp fun b hb _ => hb
    have HOKL := Lib.hid (okT_l hok)
    have HT := Lib.hid hT
    have HS : ∀ u ∈ t.l, ∀ (P : Nat → Prop) ad cap W, Below w.heap.size w W → InsF P W ad u.l → Calls Tryz.prog 46 #[.agg #[.int .i64 u.k, .int .i64 u.a, .slice ad u.l.length cap]] W (RetF (smp u) W) := fun u hu P' ad' cap' W hW hiu =>
      ih u (Nat.le_trans (nodesL_mem hu) HNL.out) (okL_mem HOKL.out hu) (Nat.le_trans (nodesL_mem hu) HNN.out) _ ad' cap' W hiu (HT.out.of hW)
    clear hi hN hn hT
    obtain ⟨tk, ta, tl⟩ := t
    simp only [F.k, F.a, F.l] at HNL HNN hlt HOKL HS ⊢
    rcases single_cases hok.1 with ⟨rfl, h1, h2, rfl⟩ | ⟨rfl, rfl, t, rfl⟩ | ⟨hk, rfl, hl⟩ | ⟨hk, rfl, rfl⟩
    · simp only [List.length_nil] at hlt ⊢
      rw [show smp (nd 1 ta []) = nd 1 ta [] from rfl]
      go_enter Tryz.func46, Tryz.ntmps46
      go_wp2
      have hR := obj_set3 (.int .i64 1) (.int .i64 ta) (.slice none 0 0) (heap2_1 w (.cells #[.int .i64 1, .int .i64 ta, .slice ad 0 cap] 26) (.cells #[.int .i64 0, .int .i64 0, .slice none 0 0] 26))
      obtain ⟨s0, s1, s2⟩ := box3 hR
      refine bodyPost_ret (v := .agg #[.int .i64 1, .int .i64 ta, .slice none 0 0]) (by simp [results, Tryz.results46, go_sem, s0, s1, s2]) rfl (RetF.mk none 0 rfl (by (repeat' (first | (with_reducible exact Below.refl _ _) | (with_reducible exact Nat.le_refl _) | (with_reducible refine Below.bel ?_ ?_) | (with_reducible refine Below.alloc ?_ ?_ _) | (with_reducible refine Below.drew ?_) | (with_reducible refine Below.drawsN ?_ _) | (with_reducible refine Below.setCell ?_ ?_ _) | (with_reducible refine le_bel ?_) | (with_reducible refine le_alloc ?_) | (with_reducible refine le_setCell ?_) | (with_reducible refine le_drew ?_) | (with_reducible refine le_drawsN ?_) | (dsimp only; with_reducible refine le_bel ?_) | (dsimp only; with_reducible refine Nat.le_refl _) | (dsimp only; with_reducible refine le_bel_add ?_) | (with_reducible assumption) | omega | (dsimp only; omega)))) (insF_nil _ _ _))
    · -- a negation
      have hn2 : nodes t ≤ 10000 := Nat.le_trans (nodesL_mem (List.mem_singleton_self t)) HNN.out
      have hok2 := okL_mem HOKL.out (List.mem_singleton_self t)
      have hsk := smp_ok t hok2 hn2
      rw [show smp (nd 2 0 [t]) = negF (smp t) from by rw [smp, if_pos rfl, smpH]]
      obtain ⟨bb, off, hadd, hp, hcs⟩ := insF_at hlt (by simp)
      subst hadd
      obtain ⟨c0, c1, ad', cap', c2, hit⟩ := cellF_open (hcs 0 t rfl)
      rw [Nat.zero_mul, Nat.add_zero] at c0 c1 c2
      have HC := Lib.hid (fun (P : Nat → Prop) W (hW : Below w.heap.size w W) hi => HS t (List.mem_singleton_self t) P ad' cap' W hW hi)
      have HI := Lib.hid hit
      obtain ⟨R, hR⟩ : ∃ R, smp t = R := ⟨_, rfl⟩
      rw [hR] at HC hsk ⊢
      have HSK := Lib.hid hsk
      clear HS hcs hit hlt hp hR hsk
      simp only [List.length_singleton]
      have hib : (0 : Int) < ((1 : Nat) : Int) := by decide
      by_cases h2 : R.k = 2
      · have f2 : (R.k == 2) = true := beq_iff_eq.2 h2
        obtain ⟨h, hgl⟩ : ∃ h, R.l = [h] := by
          have hs := okT_s HSK.out
          rw [F_eta R] at hs
          rcases single_cases hs with ⟨e, _⟩ | ⟨_, _, h, e⟩ | ⟨e, _⟩ | ⟨e, _⟩
          · omega
          · exact ⟨h, e⟩
          · omega
          · omega
        rw [show negF R = h from by rw [negF, if_pos h2, hgl]; rfl]
        have HGL := Lib.hid hgl
        have hib2 : (0 : Int) < (R.l.length : Int) := by rw [hgl]; simp
        clear h2 hgl
        go_enter Tryz.func46, Tryz.ntmps46
        go_wp2_with fail
        refine (HC.out _ _ (by (repeat' (first | (with_reducible exact Below.refl _ _) | (with_reducible exact Nat.le_refl _) | (with_reducible refine Below.bel ?_ ?_) | (with_reducible refine Below.alloc ?_ ?_ _) | (with_reducible refine Below.drew ?_) | (with_reducible refine Below.drawsN ?_ _) | (with_reducible refine Below.setCell ?_ ?_ _) | (with_reducible refine le_bel ?_) | (with_reducible refine le_alloc ?_) | (with_reducible refine le_setCell ?_) | (with_reducible refine le_drew ?_) | (with_reducible refine le_drawsN ?_) | (dsimp only; with_reducible refine le_bel ?_) | (dsimp only; with_reducible refine Nat.le_refl _) | (dsimp only; with_reducible refine le_bel_add ?_) | (with_reducible assumption) | omega | (dsimp only; omega)))) (HI.out.of (by (repeat' (first | (with_reducible exact Below.refl _ _) | (with_reducible exact Nat.le_refl _) | (with_reducible refine Below.bel ?_ ?_) | (with_reducible refine Below.alloc ?_ ?_ _) | (with_reducible refine Below.drew ?_) | (with_reducible refine Below.drawsN ?_ _) | (with_reducible refine Below.setCell ?_ ?_ _) | (with_reducible refine le_bel ?_) | (with_reducible refine le_alloc ?_) | (with_reducible refine le_setCell ?_) | (with_reducible refine le_drew ?_) | (with_reducible refine le_drawsN ?_) | (dsimp only; with_reducible refine le_bel ?_) | (dsimp only; with_reducible refine Nat.le_refl _) | (dsimp only; with_reducible refine le_bel_add ?_) | (with_reducible assumption) | omega | (dsimp only; omega)))))).mono ?_
        rintro _ _ ⟨_, rfl, y, rfl, ad5, cap5, rfl, hi5⟩
        have hys := y.size_le
        simp at hys
        have hrs : y.w.heap[w.heap.size + 1]? = some (.cells #[.int .i64 0, .int .i64 0, .slice none 0 0] 26 (0, 0)) := obj_bel y (heap2_1 w _ _)
        have HI5 := Lib.hid hi5
        have HY := Lib.hid (show Below w.heap.size w y.w by (repeat' (first | (with_reducible exact Below.refl _ _) | (with_reducible exact Nat.le_refl _) | (with_reducible refine Below.bel ?_ ?_) | (with_reducible refine Below.alloc ?_ ?_ _) | (with_reducible refine Below.drew ?_) | (with_reducible refine Below.drawsN ?_ _) | (with_reducible refine Below.setCell ?_ ?_ _) | (with_reducible refine le_bel ?_) | (with_reducible refine le_alloc ?_) | (with_reducible refine le_setCell ?_) | (with_reducible refine le_drew ?_) | (with_reducible refine le_drawsN ?_) | (dsimp only; with_reducible refine le_bel ?_) | (dsimp only; with_reducible refine Nat.le_refl _) | (dsimp only; with_reducible refine le_bel_add ?_) | (with_reducible assumption) | omega | (dsimp only; omega))))
        clear hi5
        dsimp only
        obtain ⟨bb2, off2, hadd, hp2, hcs2⟩ := insF_at HI5.out (by rw [HGL.out]; simp)
        subst hadd
        obtain ⟨d0, d1, ad2, cap2, d2, hih⟩ := cellF_open (hcs2 0 h (by rw [HGL.out]; rfl))
        rw [Nat.zero_mul, Nat.add_zero] at d0 d1 d2
        have HIH := Lib.hid hih
        clear hcs2 hih hp2
        have hrs2 := obj_bel ⟨_, (by (repeat' (first | (with_reducible exact Below.refl _ _) | (with_reducible exact Nat.le_refl _) | (with_reducible refine Below.bel ?_ ?_) | (with_reducible refine Below.alloc ?_ ?_ _) | (with_reducible refine Below.drew ?_) | (with_reducible refine Below.drawsN ?_ _) | (with_reducible refine Below.setCell ?_ ?_ _) | (with_reducible refine le_bel ?_) | (with_reducible refine le_alloc ?_) | (with_reducible refine le_setCell ?_) | (with_reducible refine le_drew ?_) | (with_reducible refine le_drawsN ?_) | (dsimp only; with_reducible refine le_bel ?_) | (dsimp only; with_reducible refine Nat.le_refl _) | (dsimp only; with_reducible refine le_bel_add ?_) | (with_reducible assumption) | omega | (dsimp only; omega))) : Below y.w.heap.size y.w (y.w.alloc (.cells #[.int .i64 R.k, .int .i64 R.a, .slice (some ⟨bb2, off2, none⟩) R.l.length cap5] 26)))⟩ hrs
        obtain ⟨q0, q1, q2⟩ := box3f hrs2
        go_wp2
        have hR := obj_set3 (.int .i64 h.k) (.int .i64 h.a) (.slice ad2 h.l.length cap2) hrs2
        obtain ⟨s0, s1, s2⟩ := box3 hR
        exact bodyPost_ret (v := .agg #[.int .i64 h.k, .int .i64 h.a, .slice ad2 h.l.length cap2]) (by simp [results, Tryz.results46, go_sem, s0, s1, s2]) rfl (RetF.mk ad2 cap2 rfl ((((HY.out.alloc (by omega) _).setCell (p := ⟨w.heap.size + 1, 0, none⟩) (by simp) _).setCell (p := ⟨w.heap.size + 1, 1, none⟩) (by simp) _).setCell (p := ⟨w.heap.size + 1, 2, none⟩) (by simp) _) (insF_set3 (m := w.heap.size + 2) (by omega) (by omega) ((HIH.out.of (by (repeat' (first | (with_reducible exact Below.refl _ _) | (with_reducible exact Nat.le_refl _) | (with_reducible refine Below.bel ?_ ?_) | (with_reducible refine Below.alloc ?_ ?_ _) | (with_reducible refine Below.drew ?_) | (with_reducible refine Below.drawsN ?_ _) | (with_reducible refine Below.setCell ?_ ?_ _) | (with_reducible refine le_bel ?_) | (with_reducible refine le_alloc ?_) | (with_reducible refine le_setCell ?_) | (with_reducible refine le_drew ?_) | (with_reducible refine le_drawsN ?_) | (dsimp only; with_reducible refine le_bel ?_) | (dsimp only; with_reducible refine Nat.le_refl _) | (dsimp only; with_reducible refine le_bel_add ?_) | (with_reducible assumption) | omega | (dsimp only; omega))))).imp fun b _ h => by simp at h; omega)))
      · have f2 : (R.k == 2) = false := beq_eq_false_iff_ne.2 h2
        by_cases h5 : R.k = 5 ∨ R.k = 6
        · rw [show negF R = cst (decide (R.k = 5)) from by rw [negF, if_neg h2, if_pos h5]]
          rcases h5 with h5 | h5
          · have f5 : (R.k == 5) = true := beq_iff_eq.2 h5
            rw [decide_eq_true h5]
            clear h2 h5
            go_enter Tryz.func46, Tryz.ntmps46
            go_wp2_with fail
            refine (HC.out _ _ (by (repeat' (first | (with_reducible exact Below.refl _ _) | (with_reducible exact Nat.le_refl _) | (with_reducible refine Below.bel ?_ ?_) | (with_reducible refine Below.alloc ?_ ?_ _) | (with_reducible refine Below.drew ?_) | (with_reducible refine Below.drawsN ?_ _) | (with_reducible refine Below.setCell ?_ ?_ _) | (with_reducible refine le_bel ?_) | (with_reducible refine le_alloc ?_) | (with_reducible refine le_setCell ?_) | (with_reducible refine le_drew ?_) | (with_reducible refine le_drawsN ?_) | (dsimp only; with_reducible refine le_bel ?_) | (dsimp only; with_reducible refine Nat.le_refl _) | (dsimp only; with_reducible refine le_bel_add ?_) | (with_reducible assumption) | omega | (dsimp only; omega)))) (HI.out.of (by (repeat' (first | (with_reducible exact Below.refl _ _) | (with_reducible exact Nat.le_refl _) | (with_reducible refine Below.bel ?_ ?_) | (with_reducible refine Below.alloc ?_ ?_ _) | (with_reducible refine Below.drew ?_) | (with_reducible refine Below.drawsN ?_ _) | (with_reducible refine Below.setCell ?_ ?_ _) | (with_reducible refine le_bel ?_) | (with_reducible refine le_alloc ?_) | (with_reducible refine le_setCell ?_) | (with_reducible refine le_drew ?_) | (with_reducible refine le_drawsN ?_) | (dsimp only; with_reducible refine le_bel ?_) | (dsimp only; with_reducible refine Nat.le_refl _) | (dsimp only; with_reducible refine le_bel_add ?_) | (with_reducible assumption) | omega | (dsimp only; omega)))))).mono ?_
            rintro _ _ ⟨_, rfl, y, rfl, ad5, cap5, rfl, hi5⟩
            have hys := y.size_le
            simp at hys
            have hrs : y.w.heap[w.heap.size + 1]? = some (.cells #[.int .i64 0, .int .i64 0, .slice none 0 0] 26 (0, 0)) := obj_bel y (heap2_1 w _ _)
            have HI5 := Lib.hid hi5
            have HY := Lib.hid (show Below w.heap.size w y.w by (repeat' (first | (with_reducible exact Below.refl _ _) | (with_reducible exact Nat.le_refl _) | (with_reducible refine Below.bel ?_ ?_) | (with_reducible refine Below.alloc ?_ ?_ _) | (with_reducible refine Below.drew ?_) | (with_reducible refine Below.drawsN ?_ _) | (with_reducible refine Below.setCell ?_ ?_ _) | (with_reducible refine le_bel ?_) | (with_reducible refine le_alloc ?_) | (with_reducible refine le_setCell ?_) | (with_reducible refine le_drew ?_) | (with_reducible refine le_drawsN ?_) | (dsimp only; with_reducible refine le_bel ?_) | (dsimp only; with_reducible refine Nat.le_refl _) | (dsimp only; with_reducible refine le_bel_add ?_) | (with_reducible assumption) | omega | (dsimp only; omega))))
            clear hi5
            dsimp only
            have hb1 : Below y.w.heap.size y.w (y.w.alloc (.cells #[.int .i64 R.k, .int .i64 R.a, .slice ad5 R.l.length cap5] 26)) := by (repeat' (first | (with_reducible exact Below.refl _ _) | (with_reducible exact Nat.le_refl _) | (with_reducible refine Below.bel ?_ ?_) | (with_reducible refine Below.alloc ?_ ?_ _) | (with_reducible refine Below.drew ?_) | (with_reducible refine Below.drawsN ?_ _) | (with_reducible refine Below.setCell ?_ ?_ _) | (with_reducible refine le_bel ?_) | (with_reducible refine le_alloc ?_) | (with_reducible refine le_setCell ?_) | (with_reducible refine le_drew ?_) | (with_reducible refine le_drawsN ?_) | (dsimp only; with_reducible refine le_bel ?_) | (dsimp only; with_reducible refine Nat.le_refl _) | (dsimp only; with_reducible refine le_bel_add ?_) | (with_reducible assumption) | omega | (dsimp only; omega)))
            have hrs2 := obj_bel ⟨_, hb1⟩ hrs
            have HB1 := Lib.hid hb1
            go_wp2_with fail
            refine (constant_any true _).mono ?_
            rintro _ _ ⟨_, rfl, y2, rfl, ad6, cap6, rfl, hi6⟩
            have hys2 := y2.size_le
            simp at hys2
            have hrs3 := obj_bel y2 hrs2
            obtain ⟨q0, q1, q2⟩ := box3f hrs3
            have HI6 := Lib.hid hi6
            have HB2 := Lib.hid (show Below w.heap.size w y2.w from (HY.out.trans (hb1.mono (by omega))).trans (y2.below.mono (by simp; omega)))
            clear hi6
            dsimp only
            go_wp2
            have hR := obj_set3 (.int .i64 (cst true).k) (.int .i64 (cst true).a) (.slice ad6 (cst true).l.length cap6) hrs3
            obtain ⟨s0, s1, s2⟩ := box3 hR
            exact bodyPost_ret (v := .agg #[.int .i64 (cst true).k, .int .i64 (cst true).a, .slice ad6 (cst true).l.length cap6]) (by simp [results, Tryz.results46, go_sem, s0, s1, s2]) rfl (RetF.mk ad6 cap6 rfl (((HB2.out.setCell (p := ⟨w.heap.size + 1, 0, none⟩) (by simp) _).setCell (p := ⟨w.heap.size + 1, 1, none⟩) (by simp) _).setCell (p := ⟨w.heap.size + 1, 2, none⟩) (by simp) _) (insF_set3 (m := w.heap.size + 2) (by omega) (by omega) (HI6.out.imp fun b _ h => by simp at h; omega)))
          · have f5 : (R.k == 5) = false := beq_eq_false_iff_ne.2 (by omega)
            have f6 : (R.k == 6) = true := beq_iff_eq.2 h5
            rw [decide_eq_false (by omega)]
            clear h2 h5
            go_enter Tryz.func46, Tryz.ntmps46
            go_wp2_with fail
            refine (HC.out _ _ (by (repeat' (first | (with_reducible exact Below.refl _ _) | (with_reducible exact Nat.le_refl _) | (with_reducible refine Below.bel ?_ ?_) | (with_reducible refine Below.alloc ?_ ?_ _) | (with_reducible refine Below.drew ?_) | (with_reducible refine Below.drawsN ?_ _) | (with_reducible refine Below.setCell ?_ ?_ _) | (with_reducible refine le_bel ?_) | (with_reducible refine le_alloc ?_) | (with_reducible refine le_setCell ?_) | (with_reducible refine le_drew ?_) | (with_reducible refine le_drawsN ?_) | (dsimp only; with_reducible refine le_bel ?_) | (dsimp only; with_reducible refine Nat.le_refl _) | (dsimp only; with_reducible refine le_bel_add ?_) | (with_reducible assumption) | omega | (dsimp only; omega)))) (HI.out.of (by (repeat' (first | (with_reducible exact Below.refl _ _) | (with_reducible exact Nat.le_refl _) | (with_reducible refine Below.bel ?_ ?_) | (with_reducible refine Below.alloc ?_ ?_ _) | (with_reducible refine Below.drew ?_) | (with_reducible refine Below.drawsN ?_ _) | (with_reducible refine Below.setCell ?_ ?_ _) | (with_reducible refine le_bel ?_) | (with_reducible refine le_alloc ?_) | (with_reducible refine le_setCell ?_) | (with_reducible refine le_drew ?_) | (with_reducible refine le_drawsN ?_) | (dsimp only; with_reducible refine le_bel ?_) | (dsimp only; with_reducible refine Nat.le_refl _) | (dsimp only; with_reducible refine le_bel_add ?_) | (with_reducible assumption) | omega | (dsimp only; omega)))))).mono ?_
            rintro _ _ ⟨_, rfl, y, rfl, ad5, cap5, rfl, hi5⟩
            have hys := y.size_le
            simp at hys
            have hrs : y.w.heap[w.heap.size + 1]? = some (.cells #[.int .i64 0, .int .i64 0, .slice none 0 0] 26 (0, 0)) := obj_bel y (heap2_1 w _ _)
            have HI5 := Lib.hid hi5
            have HY := Lib.hid (show Below w.heap.size w y.w by (repeat' (first | (with_reducible exact Below.refl _ _) | (with_reducible exact Nat.le_refl _) | (with_reducible refine Below.bel ?_ ?_) | (with_reducible refine Below.alloc ?_ ?_ _) | (with_reducible refine Below.drew ?_) | (with_reducible refine Below.drawsN ?_ _) | (with_reducible refine Below.setCell ?_ ?_ _) | (with_reducible refine le_bel ?_) | (with_reducible refine le_alloc ?_) | (with_reducible refine le_setCell ?_) | (with_reducible refine le_drew ?_) | (with_reducible refine le_drawsN ?_) | (dsimp only; with_reducible refine le_bel ?_) | (dsimp only; with_reducible refine Nat.le_refl _) | (dsimp only; with_reducible refine le_bel_add ?_) | (with_reducible assumption) | omega | (dsimp only; omega))))
            clear hi5
            dsimp only
            have hb1 : Below y.w.heap.size y.w (y.w.alloc (.cells #[.int .i64 R.k, .int .i64 R.a, .slice ad5 R.l.length cap5] 26)) := by (repeat' (first | (with_reducible exact Below.refl _ _) | (with_reducible exact Nat.le_refl _) | (with_reducible refine Below.bel ?_ ?_) | (with_reducible refine Below.alloc ?_ ?_ _) | (with_reducible refine Below.drew ?_) | (with_reducible refine Below.drawsN ?_ _) | (with_reducible refine Below.setCell ?_ ?_ _) | (with_reducible refine le_bel ?_) | (with_reducible refine le_alloc ?_) | (with_reducible refine le_setCell ?_) | (with_reducible refine le_drew ?_) | (with_reducible refine le_drawsN ?_) | (dsimp only; with_reducible refine le_bel ?_) | (dsimp only; with_reducible refine Nat.le_refl _) | (dsimp only; with_reducible refine le_bel_add ?_) | (with_reducible assumption) | omega | (dsimp only; omega)))
            have hrs2 := obj_bel ⟨_, hb1⟩ hrs
            have HB1 := Lib.hid hb1
            go_wp2_with fail
            refine (constant_any false _).mono ?_
            rintro _ _ ⟨_, rfl, y2, rfl, ad6, cap6, rfl, hi6⟩
            have hys2 := y2.size_le
            simp at hys2
            have hrs3 := obj_bel y2 hrs2
            obtain ⟨q0, q1, q2⟩ := box3f hrs3
            have HI6 := Lib.hid hi6
            have HB2 := Lib.hid (show Below w.heap.size w y2.w from (HY.out.trans (hb1.mono (by omega))).trans (y2.below.mono (by simp; omega)))
            clear hi6
            dsimp only
            go_wp2
            have hR := obj_set3 (.int .i64 (cst false).k) (.int .i64 (cst false).a) (.slice ad6 (cst false).l.length cap6) hrs3
            obtain ⟨s0, s1, s2⟩ := box3 hR
            exact bodyPost_ret (v := .agg #[.int .i64 (cst false).k, .int .i64 (cst false).a, .slice ad6 (cst false).l.length cap6]) (by simp [results, Tryz.results46, go_sem, s0, s1, s2]) rfl (RetF.mk ad6 cap6 rfl (((HB2.out.setCell (p := ⟨w.heap.size + 1, 0, none⟩) (by simp) _).setCell (p := ⟨w.heap.size + 1, 1, none⟩) (by simp) _).setCell (p := ⟨w.heap.size + 1, 2, none⟩) (by simp) _) (insF_set3 (m := w.heap.size + 2) (by omega) (by omega) (HI6.out.imp fun b _ h => by simp at h; omega)))
        · have f5 : (R.k == 5) = false := beq_eq_false_iff_ne.2 (fun e => h5 (.inl e))
          have f6 : (R.k == 6) = false := beq_eq_false_iff_ne.2 (fun e => h5 (.inr e))
          rw [show negF R = nd 2 0 [R] from by rw [negF, if_neg h2, if_neg h5]]
          clear h2 h5
          go_enter Tryz.func46, Tryz.ntmps46
          go_wp2_with fail
          refine (HC.out _ _ (by (repeat' (first | (with_reducible exact Below.refl _ _) | (with_reducible exact Nat.le_refl _) | (with_reducible refine Below.bel ?_ ?_) | (with_reducible refine Below.alloc ?_ ?_ _) | (with_reducible refine Below.drew ?_) | (with_reducible refine Below.drawsN ?_ _) | (with_reducible refine Below.setCell ?_ ?_ _) | (with_reducible refine le_bel ?_) | (with_reducible refine le_alloc ?_) | (with_reducible refine le_setCell ?_) | (with_reducible refine le_drew ?_) | (with_reducible refine le_drawsN ?_) | (dsimp only; with_reducible refine le_bel ?_) | (dsimp only; with_reducible refine Nat.le_refl _) | (dsimp only; with_reducible refine le_bel_add ?_) | (with_reducible assumption) | omega | (dsimp only; omega)))) (HI.out.of (by (repeat' (first | (with_reducible exact Below.refl _ _) | (with_reducible exact Nat.le_refl _) | (with_reducible refine Below.bel ?_ ?_) | (with_reducible refine Below.alloc ?_ ?_ _) | (with_reducible refine Below.drew ?_) | (with_reducible refine Below.drawsN ?_ _) | (with_reducible refine Below.setCell ?_ ?_ _) | (with_reducible refine le_bel ?_) | (with_reducible refine le_alloc ?_) | (with_reducible refine le_setCell ?_) | (with_reducible refine le_drew ?_) | (with_reducible refine le_drawsN ?_) | (dsimp only; with_reducible refine le_bel ?_) | (dsimp only; with_reducible refine Nat.le_refl _) | (dsimp only; with_reducible refine le_bel_add ?_) | (with_reducible assumption) | omega | (dsimp only; omega)))))).mono ?_
          rintro _ _ ⟨_, rfl, y, rfl, ad5, cap5, rfl, hi5⟩
          have hys := y.size_le
          simp at hys
          have hrs : y.w.heap[w.heap.size + 1]? = some (.cells #[.int .i64 0, .int .i64 0, .slice none 0 0] 26 (0, 0)) := obj_bel y (heap2_1 w _ _)
          have HI5 := Lib.hid hi5
          have HY := Lib.hid (show Below w.heap.size w y.w by (repeat' (first | (with_reducible exact Below.refl _ _) | (with_reducible exact Nat.le_refl _) | (with_reducible refine Below.bel ?_ ?_) | (with_reducible refine Below.alloc ?_ ?_ _) | (with_reducible refine Below.drew ?_) | (with_reducible refine Below.drawsN ?_ _) | (with_reducible refine Below.setCell ?_ ?_ _) | (with_reducible refine le_bel ?_) | (with_reducible refine le_alloc ?_) | (with_reducible refine le_setCell ?_) | (with_reducible refine le_drew ?_) | (with_reducible refine le_drawsN ?_) | (dsimp only; with_reducible refine le_bel ?_) | (dsimp only; with_reducible refine Nat.le_refl _) | (dsimp only; with_reducible refine le_bel_add ?_) | (with_reducible assumption) | omega | (dsimp only; omega))))
          clear hi5
          dsimp only
          have hb1 : Below y.w.heap.size y.w ((y.w.alloc (.cells #[.int .i64 R.k, .int .i64 R.a, .slice ad5 R.l.length cap5] 26)).alloc (.cells #[.int .i64 R.k, .int .i64 R.a, .slice ad5 R.l.length cap5] 26)) := by (repeat' (first | (with_reducible exact Below.refl _ _) | (with_reducible exact Nat.le_refl _) | (with_reducible refine Below.bel ?_ ?_) | (with_reducible refine Below.alloc ?_ ?_ _) | (with_reducible refine Below.drew ?_) | (with_reducible refine Below.drawsN ?_ _) | (with_reducible refine Below.setCell ?_ ?_ _) | (with_reducible refine le_bel ?_) | (with_reducible refine le_alloc ?_) | (with_reducible refine le_setCell ?_) | (with_reducible refine le_drew ?_) | (with_reducible refine le_drawsN ?_) | (dsimp only; with_reducible refine le_bel ?_) | (dsimp only; with_reducible refine Nat.le_refl _) | (dsimp only; with_reducible refine le_bel_add ?_) | (with_reducible assumption) | omega | (dsimp only; omega)))
          have hrs2 := obj_bel ⟨_, hb1⟩ hrs
          obtain ⟨q0, q1, q2⟩ := box3f hrs2
          have HB1 := Lib.hid hb1
          go_wp2
          have hR := obj_set3 (.int .i64 2) (.int .i64 0) (.slice (some ⟨y.w.heap.size + 1, 0, none⟩) 1 1) hrs2
          obtain ⟨s0, s1, s2⟩ := box3 hR
          refine bodyPost_ret (v := .agg #[.int .i64 2, .int .i64 0, .slice (some ⟨y.w.heap.size + 1, 0, none⟩) 1 1]) (by simp [results, Tryz.results46, go_sem, s0, s1, s2]) rfl (RetF.mk (t := nd 2 0 [R]) (some ⟨y.w.heap.size + 1, 0, none⟩) 1 rfl ((((HY.out.trans (HB1.out.mono (by omega))).setCell (p := ⟨w.heap.size + 1, 0, none⟩) (by simp) _).setCell (p := ⟨w.heap.size + 1, 1, none⟩) (by simp) _).setCell (p := ⟨w.heap.size + 1, 2, none⟩) (by simp) _) (insF_set3 (m := w.heap.size + 2) (by omega) (by omega) (insF_one (E := 26) (ad := ad5) (cap := cap5) (heap2_1 _ _ _) (by omega) ((HI5.out.of HB1.out).imp fun b _ h => by simp at h; omega))))
    · have hok' := fun u (hu : u ∈ tl) => okL_mem HOKL.out hu
      rcases hk with rfl | rfl
      · obtain ⟨w2, hw2⟩ : ∃ w2, (w.alloc (.cells #[.int .i64 3, .int .i64 0, .slice ad tl.length cap] 26)).alloc (.cells #[.int .i64 0, .int .i64 0, .slice none 0 0] 26) = w2 := ⟨_, rfl⟩
        have hb2 : Below w.heap.size w w2 := by rw [← hw2]; (repeat' (first | (with_reducible exact Below.refl _ _) | (with_reducible exact Nat.le_refl _) | (with_reducible refine Below.bel ?_ ?_) | (with_reducible refine Below.alloc ?_ ?_ _) | (with_reducible refine Below.drew ?_) | (with_reducible refine Below.drawsN ?_ _) | (with_reducible refine Below.setCell ?_ ?_ _) | (with_reducible refine le_bel ?_) | (with_reducible refine le_alloc ?_) | (with_reducible refine le_setCell ?_) | (with_reducible refine le_drew ?_) | (with_reducible refine le_drawsN ?_) | (dsimp only; with_reducible refine le_bel ?_) | (dsimp only; with_reducible refine Nat.le_refl _) | (dsimp only; with_reducible refine le_bel_add ?_) | (with_reducible assumption) | omega | (dsimp only; omega)))
        have hs2 : w2.heap.size = w.heap.size + 2 := by rw [← hw2]; simp
        have hres := heap2_1 w (.cells #[.int .i64 3, .int .i64 0, .slice ad tl.length cap] 26) (.cells #[.int .i64 0, .int .i64 0, .slice none 0 0] 26)
        rw [hw2] at hres
        have HJ := Lib.hid (joined_and tl ad cap w2 ((hlt.of hb2).imp fun b hb _ => hb) hok' HNN.out (HT.out.of hb2) fun u hu ad' cap' W hW hiu => HS u hu _ ad' cap' W (hb2.trans (hW.mono (by omega))) hiu)
        have HB2 := Lib.hid hb2
        have HRS := Lib.hid hres
        clear hres hb2 HS hok' hlt
        rw [show smp (nd 3 0 tl) = joinF 3 (smpL 3 tl) from by rw [smp, if_neg (by decide), if_pos (by decide)]]
        obtain ⟨R, hR⟩ : ∃ R, joinF 3 (smpL 3 tl) = R := ⟨_, rfl⟩
        rw [hR] at HJ ⊢
        rw [← hw2] at HJ
        have HW2 := Lib.hid hw2
        clear hR hw2
        go_enter Tryz.func46, Tryz.ntmps46
        go_wp2_with fail
        refine HJ.out.mono ?_
        rintro _ _ ⟨_, rfl, y, rfl, ad5, cap5, rfl, hi5⟩
        have hys := y.size_le
        simp at hys
        have hrs : y.w.heap[w.heap.size + 1]? = some (.cells #[.int .i64 0, .int .i64 0, .slice none 0 0] 26 (0, 0)) := obj_bel y (by rw [HW2.out]; exact HRS.out)
        obtain ⟨r0, r1, r2⟩ := box3 hrs
        obtain ⟨q0, q1, q2⟩ := box3f hrs
        have HI5 := Lib.hid hi5
        have HY := Lib.hid (show Below w.heap.size w y.w by (repeat' (first | (with_reducible exact Below.refl _ _) | (with_reducible exact Nat.le_refl _) | (with_reducible refine Below.bel ?_ ?_) | (with_reducible refine Below.alloc ?_ ?_ _) | (with_reducible refine Below.drew ?_) | (with_reducible refine Below.drawsN ?_ _) | (with_reducible refine Below.setCell ?_ ?_ _) | (with_reducible refine le_bel ?_) | (with_reducible refine le_alloc ?_) | (with_reducible refine le_setCell ?_) | (with_reducible refine le_drew ?_) | (with_reducible refine le_drawsN ?_) | (dsimp only; with_reducible refine le_bel ?_) | (dsimp only; with_reducible refine Nat.le_refl _) | (dsimp only; with_reducible refine le_bel_add ?_) | (with_reducible assumption) | omega | (dsimp only; omega))))
        clear hi5 HRS HW2
        dsimp only
        go_wp2
        have hR := obj_set3 (.int .i64 R.k) (.int .i64 R.a) (.slice ad5 R.l.length cap5) hrs
        obtain ⟨s0, s1, s2⟩ := box3 hR
        refine bodyPost_ret (v := .agg #[.int .i64 R.k, .int .i64 R.a, .slice ad5 R.l.length cap5]) (by simp [results, Tryz.results46, go_sem, s0, s1, s2]) rfl (RetF.mk ad5 cap5 rfl (((HY.out.setCell (p := ⟨w.heap.size + 1, 0, none⟩) (by simp) _).setCell (p := ⟨w.heap.size + 1, 1, none⟩) (by simp) _).setCell (p := ⟨w.heap.size + 1, 2, none⟩) (by simp) _) (insF_set3 (by simp) (by simp; omega) HI5.out))
      · obtain ⟨w2, hw2⟩ : ∃ w2, (w.alloc (.cells #[.int .i64 4, .int .i64 0, .slice ad tl.length cap] 26)).alloc (.cells #[.int .i64 0, .int .i64 0, .slice none 0 0] 26) = w2 := ⟨_, rfl⟩
        have hb2 : Below w.heap.size w w2 := by rw [← hw2]; (repeat' (first | (with_reducible exact Below.refl _ _) | (with_reducible exact Nat.le_refl _) | (with_reducible refine Below.bel ?_ ?_) | (with_reducible refine Below.alloc ?_ ?_ _) | (with_reducible refine Below.drew ?_) | (with_reducible refine Below.drawsN ?_ _) | (with_reducible refine Below.setCell ?_ ?_ _) | (with_reducible refine le_bel ?_) | (with_reducible refine le_alloc ?_) | (with_reducible refine le_setCell ?_) | (with_reducible refine le_drew ?_) | (with_reducible refine le_drawsN ?_) | (dsimp only; with_reducible refine le_bel ?_) | (dsimp only; with_reducible refine Nat.le_refl _) | (dsimp only; with_reducible refine le_bel_add ?_) | (with_reducible assumption) | omega | (dsimp only; omega)))
        have hs2 : w2.heap.size = w.heap.size + 2 := by rw [← hw2]; simp
        have hres := heap2_1 w (.cells #[.int .i64 4, .int .i64 0, .slice ad tl.length cap] 26) (.cells #[.int .i64 0, .int .i64 0, .slice none 0 0] 26)
        rw [hw2] at hres
        have HJ := Lib.hid (joined_or tl ad cap w2 ((hlt.of hb2).imp fun b hb _ => hb) hok' HNN.out (HT.out.of hb2) fun u hu ad' cap' W hW hiu => HS u hu _ ad' cap' W (hb2.trans (hW.mono (by omega))) hiu)
        have HB2 := Lib.hid hb2
        have HRS := Lib.hid hres
        clear hres hb2 HS hok' hlt
        rw [show smp (nd 4 0 tl) = joinF 4 (smpL 4 tl) from by rw [smp, if_neg (by decide), if_pos (by decide)]]
        obtain ⟨R, hR⟩ : ∃ R, joinF 4 (smpL 4 tl) = R := ⟨_, rfl⟩
        rw [hR] at HJ ⊢
        rw [← hw2] at HJ
        have HW2 := Lib.hid hw2
        clear hR hw2
        go_enter Tryz.func46, Tryz.ntmps46
        go_wp2_with fail
        refine HJ.out.mono ?_
        rintro _ _ ⟨_, rfl, y, rfl, ad5, cap5, rfl, hi5⟩
        have hys := y.size_le
        simp at hys
        have hrs : y.w.heap[w.heap.size + 1]? = some (.cells #[.int .i64 0, .int .i64 0, .slice none 0 0] 26 (0, 0)) := obj_bel y (by rw [HW2.out]; exact HRS.out)
        obtain ⟨r0, r1, r2⟩ := box3 hrs
        obtain ⟨q0, q1, q2⟩ := box3f hrs
        have HI5 := Lib.hid hi5
        have HY := Lib.hid (show Below w.heap.size w y.w by (repeat' (first | (with_reducible exact Below.refl _ _) | (with_reducible exact Nat.le_refl _) | (with_reducible refine Below.bel ?_ ?_) | (with_reducible refine Below.alloc ?_ ?_ _) | (with_reducible refine Below.drew ?_) | (with_reducible refine Below.drawsN ?_ _) | (with_reducible refine Below.setCell ?_ ?_ _) | (with_reducible refine le_bel ?_) | (with_reducible refine le_alloc ?_) | (with_reducible refine le_setCell ?_) | (with_reducible refine le_drew ?_) | (with_reducible refine le_drawsN ?_) | (dsimp only; with_reducible refine le_bel ?_) | (dsimp only; with_reducible refine Nat.le_refl _) | (dsimp only; with_reducible refine le_bel_add ?_) | (with_reducible assumption) | omega | (dsimp only; omega))))
        clear hi5 HRS HW2
        dsimp only
        go_wp2
        have hR := obj_set3 (.int .i64 R.k) (.int .i64 R.a) (.slice ad5 R.l.length cap5) hrs
        obtain ⟨s0, s1, s2⟩ := box3 hR
        refine bodyPost_ret (v := .agg #[.int .i64 R.k, .int .i64 R.a, .slice ad5 R.l.length cap5]) (by simp [results, Tryz.results46, go_sem, s0, s1, s2]) rfl (RetF.mk ad5 cap5 rfl (((HY.out.setCell (p := ⟨w.heap.size + 1, 0, none⟩) (by simp) _).setCell (p := ⟨w.heap.size + 1, 1, none⟩) (by simp) _).setCell (p := ⟨w.heap.size + 1, 2, none⟩) (by simp) _) (insF_set3 (by simp) (by simp; omega) HI5.out))
    · simp only [List.length_nil] at hlt ⊢
      rcases hk with rfl | rfl
      · rw [show smp (nd 5 0 []) = nd 5 0 [] from rfl]
        go_enter Tryz.func46, Tryz.ntmps46
        go_wp2
        have hR := obj_set3 (.int .i64 5) (.int .i64 0) (.slice none 0 0) (heap2_1 w (.cells #[.int .i64 5, .int .i64 0, .slice ad 0 cap] 26) (.cells #[.int .i64 0, .int .i64 0, .slice none 0 0] 26))
        obtain ⟨s0, s1, s2⟩ := box3 hR
        refine bodyPost_ret (v := .agg #[.int .i64 5, .int .i64 0, .slice none 0 0]) (by simp [results, Tryz.results46, go_sem, s0, s1, s2]) rfl (RetF.mk none 0 rfl (by (repeat' (first | (with_reducible exact Below.refl _ _) | (with_reducible exact Nat.le_refl _) | (with_reducible refine Below.bel ?_ ?_) | (with_reducible refine Below.alloc ?_ ?_ _) | (with_reducible refine Below.drew ?_) | (with_reducible refine Below.drawsN ?_ _) | (with_reducible refine Below.setCell ?_ ?_ _) | (with_reducible refine le_bel ?_) | (with_reducible refine le_alloc ?_) | (with_reducible refine le_setCell ?_) | (with_reducible refine le_drew ?_) | (with_reducible refine le_drawsN ?_) | (dsimp only; with_reducible refine le_bel ?_) | (dsimp only; with_reducible refine Nat.le_refl _) | (dsimp only; with_reducible refine le_bel_add ?_) | (with_reducible assumption) | omega | (dsimp only; omega)))) (insF_nil _ _ _))
      · rw [show smp (nd 6 0 []) = nd 6 0 [] from rfl]
        go_enter Tryz.func46, Tryz.ntmps46
        go_wp2
        have hR := obj_set3 (.int .i64 6) (.int .i64 0) (.slice none 0 0) (heap2_1 w (.cells #[.int .i64 6, .int .i64 0, .slice ad 0 cap] 26) (.cells #[.int .i64 0, .int .i64 0, .slice none 0 0] 26))
        obtain ⟨s0, s1, s2⟩ := box3 hR
        refine bodyPost_ret (v := .agg #[.int .i64 6, .int .i64 0, .slice none 0 0]) (by simp [results, Tryz.results46, go_sem, s0, s1, s2]) rfl (RetF.mk none 0 rfl (by (repeat' (first | (with_reducible exact Below.refl _ _) | (with_reducible exact Nat.le_refl _) | (with_reducible refine Below.bel ?_ ?_) | (with_reducible refine Below.alloc ?_ ?_ _) | (with_reducible refine Below.drew ?_) | (with_reducible refine Below.drawsN ?_ _) | (with_reducible refine Below.setCell ?_ ?_ _) | (with_reducible refine le_bel ?_) | (with_reducible refine le_alloc ?_) | (with_reducible refine le_setCell ?_) | (with_reducible refine le_drew ?_) | (with_reducible refine le_drawsN ?_) | (dsimp only; with_reducible refine le_bel ?_) | (dsimp only; with_reducible refine Nat.le_refl _) | (dsimp only; with_reducible refine le_bel_add ?_) | (with_reducible assumption) | omega | (dsimp only; omega)))) (insF_nil _ _ _))
set_option maxRecDepth 100000 in
set_option maxHeartbeats 6400000 in
theorem Simplify_ok (P : Nat → Prop) (t : F) (ad : Option Addr) (cap : Nat) (w : World) (hi : InsF P w ad t.l) (hok : okT t) (hn : nodes t ≤ 10000) (hl : levels t ≤ 100) (hT : Tab w) :
    Calls Tryz.prog 26 #[.agg #[.int .i64 t.k, .int .i64 t.a, .slice ad t.l.length cap]] w (RetFE (smp t) w) := by
  have hc0 : checkF t = 0 := checkF_ok.2 ⟨decide_eq_true (by omega), hok⟩
  have hsz := smp_size t hok
  have hfit : fitsF (smp t) = true := decide_eq_true (by omega)
  have hlt : InsF (fun c => c < w.heap.size) w ad t.l := hi.imp fun b hb _ => hb
  have HI := Lib.hid hlt
  have HT := Lib.hid hT
  have HC := Lib.hid (fun w' (h : InsF (fun c => c < w.heap.size) w' ad t.l) => check_any (fun c => c < w.heap.size) t ad cap w' h (by omega))
  rw [hc0] at HC
  have HN := Lib.hid (fun w' (h : InsF (fun c => c < w.heap.size) w' ad t.l) hT => simplify_any (nodes t) t (Nat.le_refl _) hok hn (fun c => c < w.heap.size) ad cap w' h hT)
  obtain ⟨R, hR⟩ : ∃ R, smp t = R := ⟨_, rfl⟩
  rw [hR] at HN hfit hsz ⊢
  have HCL := Lib.hid (fun ad' cap' w' (P' : Nat → Prop) (h : InsF P' w' ad' R.l) => clone_any (nodes R) R (Nat.le_refl _) P' ad' cap' w' h (by omega))
  have HRS := Lib.hid (fun ad' cap' w' (P' : Nat → Prop) (h : InsF P' w' ad' R.l) => result_any P' R ad' cap' w' h (by omega))
  rw [hfit] at HRS
  clear hi hlt hc0 hR hok hsz hfit hT
  go_enter Tryz.func26, Tryz.ntmps26
  go_wp2_with fail
  refine (HC.out _ (HI.out.of (by (repeat' (first | (with_reducible exact Below.refl _ _) | (with_reducible exact Nat.le_refl _) | (with_reducible refine Below.bel ?_ ?_) | (with_reducible refine Below.alloc ?_ ?_ _) | (with_reducible refine Below.drew ?_) | (with_reducible refine Below.drawsN ?_ _) | (with_reducible refine Below.setCell ?_ ?_ _) | (with_reducible refine le_bel ?_) | (with_reducible refine le_alloc ?_) | (with_reducible refine le_setCell ?_) | (with_reducible refine le_drew ?_) | (with_reducible refine le_drawsN ?_) | (dsimp only; with_reducible refine le_bel ?_) | (dsimp only; with_reducible refine Nat.le_refl _) | (dsimp only; with_reducible refine le_bel_add ?_) | (with_reducible assumption) | omega | (dsimp only; omega)))))).mono ?_
  rintro _ _ ⟨rfl, y1, rfl⟩
  have hs1 := y1.size_le
  simp at hs1
  have hO1 := obj_bel y1 (heap2_1 w (.cells #[.int .i64 t.k, .int .i64 t.a, .slice ad t.l.length cap] 26) (.cells #[.int .i64 0, .int .i64 0, .slice none 0 0] 26))
  dsimp only
  go_wp2_with fail
  refine (HN.out _ (HI.out.of (by (repeat' (first | (with_reducible exact Below.refl _ _) | (with_reducible exact Nat.le_refl _) | (with_reducible refine Below.bel ?_ ?_) | (with_reducible refine Below.alloc ?_ ?_ _) | (with_reducible refine Below.drew ?_) | (with_reducible refine Below.drawsN ?_ _) | (with_reducible refine Below.setCell ?_ ?_ _) | (with_reducible refine le_bel ?_) | (with_reducible refine le_alloc ?_) | (with_reducible refine le_setCell ?_) | (with_reducible refine le_drew ?_) | (with_reducible refine le_drawsN ?_) | (dsimp only; with_reducible refine le_bel ?_) | (dsimp only; with_reducible refine Nat.le_refl _) | (dsimp only; with_reducible refine le_bel_add ?_) | (with_reducible assumption) | omega | (dsimp only; omega))))) (HT.out.of (by (repeat' (first | (with_reducible exact Below.refl _ _) | (with_reducible exact Nat.le_refl _) | (with_reducible refine Below.bel ?_ ?_) | (with_reducible refine Below.alloc ?_ ?_ _) | (with_reducible refine Below.drew ?_) | (with_reducible refine Below.drawsN ?_ _) | (with_reducible refine Below.setCell ?_ ?_ _) | (with_reducible refine le_bel ?_) | (with_reducible refine le_alloc ?_) | (with_reducible refine le_setCell ?_) | (with_reducible refine le_drew ?_) | (with_reducible refine le_drawsN ?_) | (dsimp only; with_reducible refine le_bel ?_) | (dsimp only; with_reducible refine Nat.le_refl _) | (dsimp only; with_reducible refine le_bel_add ?_) | (with_reducible assumption) | omega | (dsimp only; omega)))))).mono ?_
  rintro _ _ ⟨_, rfl, y2, rfl, ad5, cap5, rfl, hi5⟩
  have HI5 := Lib.hid hi5
  have hs2 := y2.size_le
  have hO2 := obj_bel y2 hO1
  clear hi5
  dsimp only
  go_wp2_with fail
  refine (HCL.out _ _ _ _ HI5.out).mono ?_
  rintro _ _ ⟨_, rfl, y3, rfl, ad6, cap6, rfl, hi6⟩
  have HI6 := Lib.hid hi6
  have hs3 := y3.size_le
  have hO3 := obj_bel y3 hO2
  clear hi6
  dsimp only
  go_wp2_with fail
  refine (HRS.out _ _ _ _ HI6.out).mono ?_
  rintro _ _ ⟨rfl, y4, rfl⟩
  have hO4 := obj_bel y4 hO3
  obtain ⟨r0, r1, r2⟩ := box3 hO4
  obtain ⟨g0, g1, g2⟩ := box3f hO4
  simp only [if_true]
  have HBF := Lib.hid (show Below w.heap.size w y4.w by (repeat' (first | (with_reducible exact Below.refl _ _) | (with_reducible exact Nat.le_refl _) | (with_reducible refine Below.bel ?_ ?_) | (with_reducible refine Below.alloc ?_ ?_ _) | (with_reducible refine Below.drew ?_) | (with_reducible refine Below.drawsN ?_ _) | (with_reducible refine Below.setCell ?_ ?_ _) | (with_reducible refine le_bel ?_) | (with_reducible refine le_alloc ?_) | (with_reducible refine le_setCell ?_) | (with_reducible refine le_drew ?_) | (with_reducible refine le_drawsN ?_) | (dsimp only; with_reducible refine le_bel ?_) | (dsimp only; with_reducible refine Nat.le_refl _) | (dsimp only; with_reducible refine le_bel_add ?_) | (with_reducible assumption) | omega | (dsimp only; omega))))
  have HI7 := Lib.hid (HI6.out.of y4.below)
  clear hO1 hO2 hO3
  go_wp2
  have hR := obj_set3 (.int .i64 R.k) (.int .i64 R.a) (.slice ad6 R.l.length cap6) hO4
  obtain ⟨q0, q1, q2⟩ := box3 hR
  exact bodyPost_ret (v := .tuple #[.agg #[.int .i64 R.k, .int .i64 R.a, .slice ad6 R.l.length cap6], .int .i64 0]) (by simp [results, Tryz.results26, go_sem, q0, q1, q2]) rfl (RetFE.mk ad6 cap6 rfl (((HBF.out.setCell (p := ⟨w.heap.size + 1, 0, none⟩) (by simp) _).setCell (p := ⟨w.heap.size + 1, 1, none⟩) (by simp) _).setCell (p := ⟨w.heap.size + 1, 2, none⟩) (by simp) _) (insF_set3 (m := w.heap.size + 2) (by omega) (by omega) (HI7.out.imp fun b _ h => by omega)))
end Go.Proofs.YtkbellmhanpocaaGreatDoor
