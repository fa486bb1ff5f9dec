/- The reference's Check, Nodes and Levels. -/
import Derived.Test.YtkbellmhanpocaaGreatDoorG8
namespace Go.Proofs.YtkbellmhanpocaaGreatDoor
set_option linter.unusedVariables false
set_option linter.unusedSimpArgs false
open Go.RowKit F
attribute [local go_sem low] Bel.cell Bel.frozen alloc_cell alloc_frozen

theorem firstE_pre (k a : Int) (l : List F) : firstE (pre (nd k a l)) = if single (nd k a l) = 0 then firstE (preL l) else single (nd k a l) := by rw [pre, firstE]
theorem firstE_take {l : List F} {k : Nat} {u : F} (h : l[k]? = some u) (hA : firstE (preL (l.take k)) = 0) : firstE (preL (l.take (k + 1))) = firstE (pre u) := by
  rw [List.take_add_one, h, preL_app, firstE_app, if_pos hA]
  show firstE (preL [u]) = _
  rw [preL, preL, List.append_nil]
theorem firstE_split (l : List F) (k : Nat) (h : firstE (preL (l.take k)) ≠ 0) : firstE (preL l) = firstE (preL (l.take k)) := by
  have e := List.take_append_drop k l
  rw [← e, preL_app, firstE_app, e, if_neg h]
set_option maxRecDepth 100000 in
set_option maxHeartbeats 12800000 in
theorem refCheck_any : ∀ (N : Nat) (t : F), nodes t ≤ N → ∀ (P : Nat → Prop) (ad : Option Addr) (cap : Nat) (w : World), InsF P w ad t.l → nodes t ≤ 10000 →
    Calls Tryz.prog 15 #[.agg #[.int .i64 t.k, .int .i64 t.a, .slice ad t.l.length cap], .int .i64 4096] w (Ret (.int .i64 (firstE (pre t))) w) := by
  intro N
  induction N with
  | zero => intro t h; have := nodes_pos t; omega
  | succ N ih =>
    intro t hN P ad cap w hi hbig
    have HNL := Lib.hid (show nodesL t.l ≤ N by rw [nodes_l] at hN; omega)
    have HBIG := Lib.hid (show nodesL t.l ≤ 10000 by rw [nodes_l] at hbig; omega)
    have hlen : t.l.length ≤ 10000 := Nat.le_trans (length_nodesL t.l) HBIG.out
    have hlt : InsF (fun c => c < w.heap.size) w ad t.l := hi.imp fun b hb _ => hb
    have HC := Lib.hid (fun u (hu : u ∈ t.l) ad' cap' w' (hiu : InsF (fun c => c < w.heap.size) w' ad' u.l) => ih u (Nat.le_trans (nodesL_mem hu) HNL.out) _ ad' cap' w' hiu (Nat.le_trans (nodesL_mem hu) HBIG.out))
    clear hi hN hbig ih
    obtain ⟨tk, ta, tl⟩ := t
    simp only [F.k, F.a, F.l] at HC HNL HBIG hlen hlt ⊢
    have hfp := firstE_pre tk ta tl
    have hsg : single (nd tk ta tl) = single (nd tk ta tl) := rfl
    rw (occs := .pos [2]) [single] at hsg
    by_cases hlo : tk < 1
    · have f0 : decide (tk < 1) = true := decide_eq_true hlo
      have HE := Lib.hid (show firstE (pre (nd tk ta tl)) = 12 by rw [hfp, hsg]; repeat rw [if_neg (by omega)])
      clear hfp hsg hlo
      go_enter Tryz.func15, Tryz.ntmps15
      go_wp2
      go_ret
      exact Ret.mk (by (rw [HE.out]; rfl)) (by (repeat' (first | (with_reducible exact Below.refl _ _) | (with_reducible exact Nat.le_refl _) | (with_reducible refine Below.bel ?_ ?_) | (with_reducible refine Below.alloc ?_ ?_ _) | (with_reducible refine Below.drew ?_) | (with_reducible refine Below.drawsN ?_ _) | (with_reducible refine Below.setCell ?_ ?_ _) | (with_reducible refine le_bel ?_) | (with_reducible refine le_alloc ?_) | (with_reducible refine le_setCell ?_) | (with_reducible refine le_drew ?_) | (with_reducible refine le_drawsN ?_) | (dsimp only; with_reducible refine le_bel ?_) | (dsimp only; with_reducible refine Nat.le_refl _) | (dsimp only; with_reducible refine le_bel_add ?_) | (with_reducible assumption) | omega | (dsimp only; omega))))
    · by_cases hhi : 6 < tk
      · have f0 : decide (tk < 1) = false := decide_eq_false hlo
        have f1 : decide (6 < tk) = true := decide_eq_true hhi
        have HE := Lib.hid (show firstE (pre (nd tk ta tl)) = 12 by rw [hfp, hsg]; repeat rw [if_neg (by omega)])
        clear hfp hsg hlo hhi
        go_enter Tryz.func15, Tryz.ntmps15
        go_wp2
        go_ret
        exact Ret.mk (by (rw [HE.out]; rfl)) (by (repeat' (first | (with_reducible exact Below.refl _ _) | (with_reducible exact Nat.le_refl _) | (with_reducible refine Below.bel ?_ ?_) | (with_reducible refine Below.alloc ?_ ?_ _) | (with_reducible refine Below.drew ?_) | (with_reducible refine Below.drawsN ?_ _) | (with_reducible refine Below.setCell ?_ ?_ _) | (with_reducible refine le_bel ?_) | (with_reducible refine le_alloc ?_) | (with_reducible refine le_setCell ?_) | (with_reducible refine le_drew ?_) | (with_reducible refine le_drawsN ?_) | (dsimp only; with_reducible refine le_bel ?_) | (dsimp only; with_reducible refine Nat.le_refl _) | (dsimp only; with_reducible refine le_bel_add ?_) | (with_reducible assumption) | omega | (dsimp only; omega))))
      · have f0 : decide (tk < 1) = false := decide_eq_false hlo
        have f1 : decide (6 < tk) = false := decide_eq_false hhi
        have hkk : tk = 1 ∨ tk = 2 ∨ tk = 3 ∨ tk = 4 ∨ tk = 5 ∨ tk = 6 := by omega
        clear hsg hlo hhi f0 f1
        rcases hkk with rfl | rfl | rfl | rfl | rfl | rfl
        · by_cases ha : ta < 0
          · have f2 : decide (ta < 0) = true := decide_eq_true ha
            have hs0 : single (nd 1 ta tl) = 3 := by
              rw [single]
              repeat' split
              all_goals first | rfl | omega
            have HE := Lib.hid (show firstE (pre (nd 1 ta tl)) = 3 by rw [hfp, hs0]; rfl)
            clear hfp hs0 HC HNL HBIG hlt ha
            go_enter Tryz.func15, Tryz.ntmps15
            go_wp2
            go_ret
            exact Ret.mk (by (rw [HE.out]; rfl)) (by (repeat' (first | (with_reducible exact Below.refl _ _) | (with_reducible exact Nat.le_refl _) | (with_reducible refine Below.bel ?_ ?_) | (with_reducible refine Below.alloc ?_ ?_ _) | (with_reducible refine Below.drew ?_) | (with_reducible refine Below.drawsN ?_ _) | (with_reducible refine Below.setCell ?_ ?_ _) | (with_reducible refine le_bel ?_) | (with_reducible refine le_alloc ?_) | (with_reducible refine le_setCell ?_) | (with_reducible refine le_drew ?_) | (with_reducible refine le_drawsN ?_) | (dsimp only; with_reducible refine le_bel ?_) | (dsimp only; with_reducible refine Nat.le_refl _) | (dsimp only; with_reducible refine le_bel_add ?_) | (with_reducible assumption) | omega | (dsimp only; omega))))
          · have f2 : decide (ta < 0) = false := decide_eq_false ha
            by_cases hb : 4096 ≤ ta
            · have f3 : decide (4096 ≤ ta) = true := decide_eq_true hb
              have hs0 : single (nd 1 ta tl) = 3 := by
                rw [single]
                repeat' split
                all_goals first | rfl | omega
              have HE := Lib.hid (show firstE (pre (nd 1 ta tl)) = 3 by rw [hfp, hs0]; rfl)
              clear hfp hs0 HC HNL HBIG hlt ha hb
              go_enter Tryz.func15, Tryz.ntmps15
              go_wp2
              go_ret
              exact Ret.mk (by (rw [HE.out]; rfl)) (by (repeat' (first | (with_reducible exact Below.refl _ _) | (with_reducible exact Nat.le_refl _) | (with_reducible refine Below.bel ?_ ?_) | (with_reducible refine Below.alloc ?_ ?_ _) | (with_reducible refine Below.drew ?_) | (with_reducible refine Below.drawsN ?_ _) | (with_reducible refine Below.setCell ?_ ?_ _) | (with_reducible refine le_bel ?_) | (with_reducible refine le_alloc ?_) | (with_reducible refine le_setCell ?_) | (with_reducible refine le_drew ?_) | (with_reducible refine le_drawsN ?_) | (dsimp only; with_reducible refine le_bel ?_) | (dsimp only; with_reducible refine Nat.le_refl _) | (dsimp only; with_reducible refine le_bel_add ?_) | (with_reducible assumption) | omega | (dsimp only; omega))))
            · have f3 : decide (4096 ≤ ta) = false := decide_eq_false hb
              by_cases hl : tl.length = 0
              · have f4 : ((tl.length : Int) == 0) = true := beq_iff_eq.2 (by omega)
                have hs0 : single (nd 1 ta tl) = 0 := by
                  rw [single]
                  repeat' split
                  all_goals first | rfl | omega
                have HS := Lib.hid (show firstE (pre (nd 1 ta tl)) = firstE (preL tl) by rw [hfp, if_pos hs0])
                clear hfp hs0 ha hb hl
                go_enter Tryz.func15, Tryz.ntmps15
                go_wp2
                go_loopw [6] (fun i wr => ∃ k : Nat, i = .int .i64 (k : Int) ∧ k ≤ tl.length ∧ firstE (preL (tl.take k)) = 0 ∧ wr.heap[w.heap.size]? = some (.cells #[.int .i64 1, .int .i64 ta, .slice ad tl.length cap] 35 (0, 0)) ∧ Below w.heap.size w wr) (fun i _ => tl.length - (intOf i).toNat)
                case atStart => exact ⟨0, rfl, by omega, rfl, World.alloc_heap_new _ _, by (repeat' (first | (with_reducible exact Below.refl _ _) | (with_reducible exact Nat.le_refl _) | (with_reducible refine Below.bel ?_ ?_) | (with_reducible refine Below.alloc ?_ ?_ _) | (with_reducible refine Below.drew ?_) | (with_reducible refine Below.drawsN ?_ _) | (with_reducible refine Below.setCell ?_ ?_ _) | (with_reducible refine le_bel ?_) | (with_reducible refine le_alloc ?_) | (with_reducible refine le_setCell ?_) | (with_reducible refine le_drew ?_) | (with_reducible refine le_drawsN ?_) | (dsimp only; with_reducible refine le_bel ?_) | (dsimp only; with_reducible refine Nat.le_refl _) | (dsimp only; with_reducible refine le_bel_add ?_) | (with_reducible assumption) | omega | (dsimp only; omega)))⟩
                case round =>
                  obtain ⟨k, rfl, hk, hA, hfb, hb⟩ := hrel
                  have hiW := below_move hlt (fun _ h => h) hb
                  obtain ⟨fb0, fb1, fb2⟩ := box3 hfb
                  have HA := Lib.hid hA
                  have hbs := hb.size
                  clear hA
                  rcases Nat.lt_or_ge k tl.length with hkl | hkl
                  · obtain ⟨u, hu⟩ := some_at hkl
                    obtain ⟨bb, off, hadd, hp, hcs⟩ := insF_at hiW (by omega)
                    cases hadd
                    obtain ⟨c0, c1, ad', cap', c2, hiu⟩ := cellF_open (hcs k u hu)
                    have f0 : decide ((k : Int) < (tl.length : Int)) = true := decide_eq_true (by omega)
                    have hib : (0 ≤ (k : Int) ∧ (k : Int) < (tl.length : Int)) := ⟨by omega, by omega⟩
                    have HCC := HC.out u (List.mem_of_getElem? hu) ad' cap'
                    have HTK := Lib.hid (firstE_take hu HA.out)
                    have HSP := Lib.hid (firstE_split tl (k + 1))
                    obtain ⟨q, hq⟩ : ∃ q, firstE (pre u) = q := ⟨_, rfl⟩
                    rw [hq] at HCC HTK
                    have HCC2 := Lib.hid HCC
                    have HI := Lib.hid hiu
                    clear hcs hiW hiu hp hu hq HCC
                    by_cases h0 : q = 0
                    · subst h0
                      go_wp2_with fail
                      refine (HCC2.out _ (HI.out.of (by (repeat' (first | (with_reducible exact Below.refl _ _) | (with_reducible exact Nat.le_refl _) | (with_reducible refine Below.bel ?_ ?_) | (with_reducible refine Below.alloc ?_ ?_ _) | (with_reducible refine Below.drew ?_) | (with_reducible refine Below.drawsN ?_ _) | (with_reducible refine Below.setCell ?_ ?_ _) | (with_reducible refine le_bel ?_) | (with_reducible refine le_alloc ?_) | (with_reducible refine le_setCell ?_) | (with_reducible refine le_drew ?_) | (with_reducible refine le_drawsN ?_) | (dsimp only; with_reducible refine le_bel ?_) | (dsimp only; with_reducible refine Nat.le_refl _) | (dsimp only; with_reducible refine le_bel_add ?_) | (with_reducible assumption) | omega | (dsimp only; omega)))))).mono ?_
                      rintro _ _ ⟨rfl, y, rfl⟩
                      have hfb2 := obj_bel y hfb
                      dsimp only
                      go_wp2
                      go_roundw
                      case rel => exact ⟨k + 1, by go_num, by omega, HTK.out, hfb2, by (repeat' (first | (with_reducible exact Below.refl _ _) | (with_reducible exact Nat.le_refl _) | (with_reducible refine Below.bel ?_ ?_) | (with_reducible refine Below.alloc ?_ ?_ _) | (with_reducible refine Below.drew ?_) | (with_reducible refine Below.drawsN ?_ _) | (with_reducible refine Below.setCell ?_ ?_ _) | (with_reducible refine le_bel ?_) | (with_reducible refine le_alloc ?_) | (with_reducible refine le_setCell ?_) | (with_reducible refine le_drew ?_) | (with_reducible refine le_drawsN ?_) | (dsimp only; with_reducible refine le_bel ?_) | (dsimp only; with_reducible refine Nat.le_refl _) | (dsimp only; with_reducible refine le_bel_add ?_) | (with_reducible assumption) | omega | (dsimp only; omega)))⟩
                      case measure => simp [intOf]; omega
                    · have f1 : (q != 0) = true := bne_iff_ne.2 h0
                      have HE := Lib.hid (show firstE (preL tl) = q from (HSP.out (by rw [HTK.out]; exact h0)).trans HTK.out)
                      clear h0
                      go_wp2_with fail
                      refine (HCC2.out _ (HI.out.of (by (repeat' (first | (with_reducible exact Below.refl _ _) | (with_reducible exact Nat.le_refl _) | (with_reducible refine Below.bel ?_ ?_) | (with_reducible refine Below.alloc ?_ ?_ _) | (with_reducible refine Below.drew ?_) | (with_reducible refine Below.drawsN ?_ _) | (with_reducible refine Below.setCell ?_ ?_ _) | (with_reducible refine le_bel ?_) | (with_reducible refine le_alloc ?_) | (with_reducible refine le_setCell ?_) | (with_reducible refine le_drew ?_) | (with_reducible refine le_drawsN ?_) | (dsimp only; with_reducible refine le_bel ?_) | (dsimp only; with_reducible refine Nat.le_refl _) | (dsimp only; with_reducible refine le_bel_add ?_) | (with_reducible assumption) | omega | (dsimp only; omega)))))).mono ?_
                      rintro _ _ ⟨rfl, y, rfl⟩
                      dsimp only
                      go_wp2
                      go_ret
                      exact Ret.mk (by (rw [HS.out, HE.out]; rfl)) (by (repeat' (first | (with_reducible exact Below.refl _ _) | (with_reducible exact Nat.le_refl _) | (with_reducible refine Below.bel ?_ ?_) | (with_reducible refine Below.alloc ?_ ?_ _) | (with_reducible refine Below.drew ?_) | (with_reducible refine Below.drawsN ?_ _) | (with_reducible refine Below.setCell ?_ ?_ _) | (with_reducible refine le_bel ?_) | (with_reducible refine le_alloc ?_) | (with_reducible refine le_setCell ?_) | (with_reducible refine le_drew ?_) | (with_reducible refine le_drawsN ?_) | (dsimp only; with_reducible refine le_bel ?_) | (dsimp only; with_reducible refine Nat.le_refl _) | (dsimp only; with_reducible refine le_bel_add ?_) | (with_reducible assumption) | omega | (dsimp only; omega))))
                  · have hke : k = tl.length := by omega
                    subst hke
                    have f0 : decide ((tl.length : Int) < (tl.length : Int)) = false := decide_eq_false (by omega)
                    rw [List.take_length] at HA
                    clear hiW
                    go_wp2
                    go_ret
                    exact Ret.mk (by (rw [HS.out, HA.out]; rfl)) (by (repeat' (first | (with_reducible exact Below.refl _ _) | (with_reducible exact Nat.le_refl _) | (with_reducible refine Below.bel ?_ ?_) | (with_reducible refine Below.alloc ?_ ?_ _) | (with_reducible refine Below.drew ?_) | (with_reducible refine Below.drawsN ?_ _) | (with_reducible refine Below.setCell ?_ ?_ _) | (with_reducible refine le_bel ?_) | (with_reducible refine le_alloc ?_) | (with_reducible refine le_setCell ?_) | (with_reducible refine le_drew ?_) | (with_reducible refine le_drawsN ?_) | (dsimp only; with_reducible refine le_bel ?_) | (dsimp only; with_reducible refine Nat.le_refl _) | (dsimp only; with_reducible refine le_bel_add ?_) | (with_reducible assumption) | omega | (dsimp only; omega))))
              · have f4 : ((tl.length : Int) == 0) = false := beq_eq_false_iff_ne.2 (by omega)
                have hs0 : single (nd 1 ta tl) = 7 := by
                  rw [single]
                  repeat' split
                  all_goals first | rfl | omega
                have HE := Lib.hid (show firstE (pre (nd 1 ta tl)) = 7 by rw [hfp, hs0]; rfl)
                clear hfp hs0 HC HNL HBIG hlt ha hb hl
                go_enter Tryz.func15, Tryz.ntmps15
                go_wp2
                go_ret
                exact Ret.mk (by (rw [HE.out]; rfl)) (by (repeat' (first | (with_reducible exact Below.refl _ _) | (with_reducible exact Nat.le_refl _) | (with_reducible refine Below.bel ?_ ?_) | (with_reducible refine Below.alloc ?_ ?_ _) | (with_reducible refine Below.drew ?_) | (with_reducible refine Below.drawsN ?_ _) | (with_reducible refine Below.setCell ?_ ?_ _) | (with_reducible refine le_bel ?_) | (with_reducible refine le_alloc ?_) | (with_reducible refine le_setCell ?_) | (with_reducible refine le_drew ?_) | (with_reducible refine le_drawsN ?_) | (dsimp only; with_reducible refine le_bel ?_) | (dsimp only; with_reducible refine Nat.le_refl _) | (dsimp only; with_reducible refine le_bel_add ?_) | (with_reducible assumption) | omega | (dsimp only; omega))))
        · by_cases hl : tl.length = 1
          · have f4 : ((tl.length : Int) == 1) = true := beq_iff_eq.2 (by omega)
            by_cases ha : ta = 0
            · have f5 : (ta != 0) = false := by rw [ha]; rfl
              have hs0 : single (nd 2 ta tl) = 0 := by
                rw [single]
                repeat' split
                all_goals first | rfl | omega
              have HS := Lib.hid (show firstE (pre (nd 2 ta tl)) = firstE (preL tl) by rw [hfp, if_pos hs0])
              clear hfp hs0 hl ha
              go_enter Tryz.func15, Tryz.ntmps15
              go_wp2
              go_loopw [6] (fun i wr => ∃ k : Nat, i = .int .i64 (k : Int) ∧ k ≤ tl.length ∧ firstE (preL (tl.take k)) = 0 ∧ wr.heap[w.heap.size]? = some (.cells #[.int .i64 2, .int .i64 ta, .slice ad tl.length cap] 35 (0, 0)) ∧ Below w.heap.size w wr) (fun i _ => tl.length - (intOf i).toNat)
              case atStart => exact ⟨0, rfl, by omega, rfl, World.alloc_heap_new _ _, by (repeat' (first | (with_reducible exact Below.refl _ _) | (with_reducible exact Nat.le_refl _) | (with_reducible refine Below.bel ?_ ?_) | (with_reducible refine Below.alloc ?_ ?_ _) | (with_reducible refine Below.drew ?_) | (with_reducible refine Below.drawsN ?_ _) | (with_reducible refine Below.setCell ?_ ?_ _) | (with_reducible refine le_bel ?_) | (with_reducible refine le_alloc ?_) | (with_reducible refine le_setCell ?_) | (with_reducible refine le_drew ?_) | (with_reducible refine le_drawsN ?_) | (dsimp only; with_reducible refine le_bel ?_) | (dsimp only; with_reducible refine Nat.le_refl _) | (dsimp only; with_reducible refine le_bel_add ?_) | (with_reducible assumption) | omega | (dsimp only; omega)))⟩
              case round =>
                obtain ⟨k, rfl, hk, hA, hfb, hb⟩ := hrel
                have hiW := below_move hlt (fun _ h => h) hb
                obtain ⟨fb0, fb1, fb2⟩ := box3 hfb
                have HA := Lib.hid hA
                have hbs := hb.size
                clear hA
                rcases Nat.lt_or_ge k tl.length with hkl | hkl
                · obtain ⟨u, hu⟩ := some_at hkl
                  obtain ⟨bb, off, hadd, hp, hcs⟩ := insF_at hiW (by omega)
                  cases hadd
                  obtain ⟨c0, c1, ad', cap', c2, hiu⟩ := cellF_open (hcs k u hu)
                  have f0 : decide ((k : Int) < (tl.length : Int)) = true := decide_eq_true (by omega)
                  have hib : (0 ≤ (k : Int) ∧ (k : Int) < (tl.length : Int)) := ⟨by omega, by omega⟩
                  have HCC := HC.out u (List.mem_of_getElem? hu) ad' cap'
                  have HTK := Lib.hid (firstE_take hu HA.out)
                  have HSP := Lib.hid (firstE_split tl (k + 1))
                  obtain ⟨q, hq⟩ : ∃ q, firstE (pre u) = q := ⟨_, rfl⟩
                  rw [hq] at HCC HTK
                  have HCC2 := Lib.hid HCC
                  have HI := Lib.hid hiu
                  clear hcs hiW hiu hp hu hq HCC
                  by_cases h0 : q = 0
                  · subst h0
                    go_wp2_with fail
                    refine (HCC2.out _ (HI.out.of (by (repeat' (first | (with_reducible exact Below.refl _ _) | (with_reducible exact Nat.le_refl _) | (with_reducible refine Below.bel ?_ ?_) | (with_reducible refine Below.alloc ?_ ?_ _) | (with_reducible refine Below.drew ?_) | (with_reducible refine Below.drawsN ?_ _) | (with_reducible refine Below.setCell ?_ ?_ _) | (with_reducible refine le_bel ?_) | (with_reducible refine le_alloc ?_) | (with_reducible refine le_setCell ?_) | (with_reducible refine le_drew ?_) | (with_reducible refine le_drawsN ?_) | (dsimp only; with_reducible refine le_bel ?_) | (dsimp only; with_reducible refine Nat.le_refl _) | (dsimp only; with_reducible refine le_bel_add ?_) | (with_reducible assumption) | omega | (dsimp only; omega)))))).mono ?_
                    rintro _ _ ⟨rfl, y, rfl⟩
                    have hfb2 := obj_bel y hfb
                    dsimp only
                    go_wp2
                    go_roundw
                    case rel => exact ⟨k + 1, by go_num, by omega, HTK.out, hfb2, by (repeat' (first | (with_reducible exact Below.refl _ _) | (with_reducible exact Nat.le_refl _) | (with_reducible refine Below.bel ?_ ?_) | (with_reducible refine Below.alloc ?_ ?_ _) | (with_reducible refine Below.drew ?_) | (with_reducible refine Below.drawsN ?_ _) | (with_reducible refine Below.setCell ?_ ?_ _) | (with_reducible refine le_bel ?_) | (with_reducible refine le_alloc ?_) | (with_reducible refine le_setCell ?_) | (with_reducible refine le_drew ?_) | (with_reducible refine le_drawsN ?_) | (dsimp only; with_reducible refine le_bel ?_) | (dsimp only; with_reducible refine Nat.le_refl _) | (dsimp only; with_reducible refine le_bel_add ?_) | (with_reducible assumption) | omega | (dsimp only; omega)))⟩
                    case measure => simp [intOf]; omega
                  · have f1 : (q != 0) = true := bne_iff_ne.2 h0
                    have HE := Lib.hid (show firstE (preL tl) = q from (HSP.out (by rw [HTK.out]; exact h0)).trans HTK.out)
                    clear h0
                    go_wp2_with fail
                    refine (HCC2.out _ (HI.out.of (by (repeat' (first | (with_reducible exact Below.refl _ _) | (with_reducible exact Nat.le_refl _) | (with_reducible refine Below.bel ?_ ?_) | (with_reducible refine Below.alloc ?_ ?_ _) | (with_reducible refine Below.drew ?_) | (with_reducible refine Below.drawsN ?_ _) | (with_reducible refine Below.setCell ?_ ?_ _) | (with_reducible refine le_bel ?_) | (with_reducible refine le_alloc ?_) | (with_reducible refine le_setCell ?_) | (with_reducible refine le_drew ?_) | (with_reducible refine le_drawsN ?_) | (dsimp only; with_reducible refine le_bel ?_) | (dsimp only; with_reducible refine Nat.le_refl _) | (dsimp only; with_reducible refine le_bel_add ?_) | (with_reducible assumption) | omega | (dsimp only; omega)))))).mono ?_
                    rintro _ _ ⟨rfl, y, rfl⟩
                    dsimp only
                    go_wp2
                    go_ret
                    exact Ret.mk (by (rw [HS.out, HE.out]; rfl)) (by (repeat' (first | (with_reducible exact Below.refl _ _) | (with_reducible exact Nat.le_refl _) | (with_reducible refine Below.bel ?_ ?_) | (with_reducible refine Below.alloc ?_ ?_ _) | (with_reducible refine Below.drew ?_) | (with_reducible refine Below.drawsN ?_ _) | (with_reducible refine Below.setCell ?_ ?_ _) | (with_reducible refine le_bel ?_) | (with_reducible refine le_alloc ?_) | (with_reducible refine le_setCell ?_) | (with_reducible refine le_drew ?_) | (with_reducible refine le_drawsN ?_) | (dsimp only; with_reducible refine le_bel ?_) | (dsimp only; with_reducible refine Nat.le_refl _) | (dsimp only; with_reducible refine le_bel_add ?_) | (with_reducible assumption) | omega | (dsimp only; omega))))
                · have hke : k = tl.length := by omega
                  subst hke
                  have f0 : decide ((tl.length : Int) < (tl.length : Int)) = false := decide_eq_false (by omega)
                  rw [List.take_length] at HA
                  clear hiW
                  go_wp2
                  go_ret
                  exact Ret.mk (by (rw [HS.out, HA.out]; rfl)) (by (repeat' (first | (with_reducible exact Below.refl _ _) | (with_reducible exact Nat.le_refl _) | (with_reducible refine Below.bel ?_ ?_) | (with_reducible refine Below.alloc ?_ ?_ _) | (with_reducible refine Below.drew ?_) | (with_reducible refine Below.drawsN ?_ _) | (with_reducible refine Below.setCell ?_ ?_ _) | (with_reducible refine le_bel ?_) | (with_reducible refine le_alloc ?_) | (with_reducible refine le_setCell ?_) | (with_reducible refine le_drew ?_) | (with_reducible refine le_drawsN ?_) | (dsimp only; with_reducible refine le_bel ?_) | (dsimp only; with_reducible refine Nat.le_refl _) | (dsimp only; with_reducible refine le_bel_add ?_) | (with_reducible assumption) | omega | (dsimp only; omega))))
            · have f5 : (ta != 0) = true := bne_iff_ne.2 ha
              have hs0 : single (nd 2 ta tl) = 7 := by
                rw [single]
                repeat' split
                all_goals first | rfl | omega
              have HE := Lib.hid (show firstE (pre (nd 2 ta tl)) = 7 by rw [hfp, hs0]; rfl)
              clear hfp hs0 HC HNL HBIG hlt hl ha
              go_enter Tryz.func15, Tryz.ntmps15
              go_wp2
              go_ret
              exact Ret.mk (by (rw [HE.out]; rfl)) (by (repeat' (first | (with_reducible exact Below.refl _ _) | (with_reducible exact Nat.le_refl _) | (with_reducible refine Below.bel ?_ ?_) | (with_reducible refine Below.alloc ?_ ?_ _) | (with_reducible refine Below.drew ?_) | (with_reducible refine Below.drawsN ?_ _) | (with_reducible refine Below.setCell ?_ ?_ _) | (with_reducible refine le_bel ?_) | (with_reducible refine le_alloc ?_) | (with_reducible refine le_setCell ?_) | (with_reducible refine le_drew ?_) | (with_reducible refine le_drawsN ?_) | (dsimp only; with_reducible refine le_bel ?_) | (dsimp only; with_reducible refine Nat.le_refl _) | (dsimp only; with_reducible refine le_bel_add ?_) | (with_reducible assumption) | omega | (dsimp only; omega))))
          · have f4 : ((tl.length : Int) == 1) = false := beq_eq_false_iff_ne.2 (by omega)
            by_cases ha : ta = 0
            · have f5 : (ta != 0) = false := by rw [ha]; rfl
              have hs0 : single (nd 2 ta tl) = 7 := by
                rw [single]
                repeat' split
                all_goals first | rfl | omega
              have HE := Lib.hid (show firstE (pre (nd 2 ta tl)) = 7 by rw [hfp, hs0]; rfl)
              clear hfp hs0 HC HNL HBIG hlt hl ha
              go_enter Tryz.func15, Tryz.ntmps15
              go_wp2
              go_ret
              exact Ret.mk (by (rw [HE.out]; rfl)) (by (repeat' (first | (with_reducible exact Below.refl _ _) | (with_reducible exact Nat.le_refl _) | (with_reducible refine Below.bel ?_ ?_) | (with_reducible refine Below.alloc ?_ ?_ _) | (with_reducible refine Below.drew ?_) | (with_reducible refine Below.drawsN ?_ _) | (with_reducible refine Below.setCell ?_ ?_ _) | (with_reducible refine le_bel ?_) | (with_reducible refine le_alloc ?_) | (with_reducible refine le_setCell ?_) | (with_reducible refine le_drew ?_) | (with_reducible refine le_drawsN ?_) | (dsimp only; with_reducible refine le_bel ?_) | (dsimp only; with_reducible refine Nat.le_refl _) | (dsimp only; with_reducible refine le_bel_add ?_) | (with_reducible assumption) | omega | (dsimp only; omega))))
            · have f5 : (ta != 0) = true := bne_iff_ne.2 ha
              have hs0 : single (nd 2 ta tl) = 7 := by
                rw [single]
                repeat' split
                all_goals first | rfl | omega
              have HE := Lib.hid (show firstE (pre (nd 2 ta tl)) = 7 by rw [hfp, hs0]; rfl)
              clear hfp hs0 HC HNL HBIG hlt hl ha
              go_enter Tryz.func15, Tryz.ntmps15
              go_wp2
              go_ret
              exact Ret.mk (by (rw [HE.out]; rfl)) (by (repeat' (first | (with_reducible exact Below.refl _ _) | (with_reducible exact Nat.le_refl _) | (with_reducible refine Below.bel ?_ ?_) | (with_reducible refine Below.alloc ?_ ?_ _) | (with_reducible refine Below.drew ?_) | (with_reducible refine Below.drawsN ?_ _) | (with_reducible refine Below.setCell ?_ ?_ _) | (with_reducible refine le_bel ?_) | (with_reducible refine le_alloc ?_) | (with_reducible refine le_setCell ?_) | (with_reducible refine le_drew ?_) | (with_reducible refine le_drawsN ?_) | (dsimp only; with_reducible refine le_bel ?_) | (dsimp only; with_reducible refine Nat.le_refl _) | (dsimp only; with_reducible refine le_bel_add ?_) | (with_reducible assumption) | omega | (dsimp only; omega))))
        · skip
          by_cases ha : ta = 0
          · have f5 : (ta != 0) = false := by rw [ha]; rfl
            have hs0 : single (nd 3 ta tl) = 0 := by
              rw [single]
              repeat' split
              all_goals first | rfl | omega
            have HS := Lib.hid (show firstE (pre (nd 3 ta tl)) = firstE (preL tl) by rw [hfp, if_pos hs0])
            clear hfp hs0 ha
            go_enter Tryz.func15, Tryz.ntmps15
            go_wp2
            go_loopw [6] (fun i wr => ∃ k : Nat, i = .int .i64 (k : Int) ∧ k ≤ tl.length ∧ firstE (preL (tl.take k)) = 0 ∧ wr.heap[w.heap.size]? = some (.cells #[.int .i64 3, .int .i64 ta, .slice ad tl.length cap] 35 (0, 0)) ∧ Below w.heap.size w wr) (fun i _ => tl.length - (intOf i).toNat)
            case atStart => exact ⟨0, rfl, by omega, rfl, World.alloc_heap_new _ _, by (repeat' (first | (with_reducible exact Below.refl _ _) | (with_reducible exact Nat.le_refl _) | (with_reducible refine Below.bel ?_ ?_) | (with_reducible refine Below.alloc ?_ ?_ _) | (with_reducible refine Below.drew ?_) | (with_reducible refine Below.drawsN ?_ _) | (with_reducible refine Below.setCell ?_ ?_ _) | (with_reducible refine le_bel ?_) | (with_reducible refine le_alloc ?_) | (with_reducible refine le_setCell ?_) | (with_reducible refine le_drew ?_) | (with_reducible refine le_drawsN ?_) | (dsimp only; with_reducible refine le_bel ?_) | (dsimp only; with_reducible refine Nat.le_refl _) | (dsimp only; with_reducible refine le_bel_add ?_) | (with_reducible assumption) | omega | (dsimp only; omega)))⟩
            case round =>
              obtain ⟨k, rfl, hk, hA, hfb, hb⟩ := hrel
              have hiW := below_move hlt (fun _ h => h) hb
              obtain ⟨fb0, fb1, fb2⟩ := box3 hfb
              have HA := Lib.hid hA
              have hbs := hb.size
              clear hA
              rcases Nat.lt_or_ge k tl.length with hkl | hkl
              · obtain ⟨u, hu⟩ := some_at hkl
                obtain ⟨bb, off, hadd, hp, hcs⟩ := insF_at hiW (by omega)
                cases hadd
                obtain ⟨c0, c1, ad', cap', c2, hiu⟩ := cellF_open (hcs k u hu)
                have f0 : decide ((k : Int) < (tl.length : Int)) = true := decide_eq_true (by omega)
                have hib : (0 ≤ (k : Int) ∧ (k : Int) < (tl.length : Int)) := ⟨by omega, by omega⟩
                have HCC := HC.out u (List.mem_of_getElem? hu) ad' cap'
                have HTK := Lib.hid (firstE_take hu HA.out)
                have HSP := Lib.hid (firstE_split tl (k + 1))
                obtain ⟨q, hq⟩ : ∃ q, firstE (pre u) = q := ⟨_, rfl⟩
                rw [hq] at HCC HTK
                have HCC2 := Lib.hid HCC
                have HI := Lib.hid hiu
                clear hcs hiW hiu hp hu hq HCC
                by_cases h0 : q = 0
                · subst h0
                  go_wp2_with fail
                  refine (HCC2.out _ (HI.out.of (by (repeat' (first | (with_reducible exact Below.refl _ _) | (with_reducible exact Nat.le_refl _) | (with_reducible refine Below.bel ?_ ?_) | (with_reducible refine Below.alloc ?_ ?_ _) | (with_reducible refine Below.drew ?_) | (with_reducible refine Below.drawsN ?_ _) | (with_reducible refine Below.setCell ?_ ?_ _) | (with_reducible refine le_bel ?_) | (with_reducible refine le_alloc ?_) | (with_reducible refine le_setCell ?_) | (with_reducible refine le_drew ?_) | (with_reducible refine le_drawsN ?_) | (dsimp only; with_reducible refine le_bel ?_) | (dsimp only; with_reducible refine Nat.le_refl _) | (dsimp only; with_reducible refine le_bel_add ?_) | (with_reducible assumption) | omega | (dsimp only; omega)))))).mono ?_
                  rintro _ _ ⟨rfl, y, rfl⟩
                  have hfb2 := obj_bel y hfb
                  dsimp only
                  go_wp2
                  go_roundw
                  case rel => exact ⟨k + 1, by go_num, by omega, HTK.out, hfb2, by (repeat' (first | (with_reducible exact Below.refl _ _) | (with_reducible exact Nat.le_refl _) | (with_reducible refine Below.bel ?_ ?_) | (with_reducible refine Below.alloc ?_ ?_ _) | (with_reducible refine Below.drew ?_) | (with_reducible refine Below.drawsN ?_ _) | (with_reducible refine Below.setCell ?_ ?_ _) | (with_reducible refine le_bel ?_) | (with_reducible refine le_alloc ?_) | (with_reducible refine le_setCell ?_) | (with_reducible refine le_drew ?_) | (with_reducible refine le_drawsN ?_) | (dsimp only; with_reducible refine le_bel ?_) | (dsimp only; with_reducible refine Nat.le_refl _) | (dsimp only; with_reducible refine le_bel_add ?_) | (with_reducible assumption) | omega | (dsimp only; omega)))⟩
                  case measure => simp [intOf]; omega
                · have f1 : (q != 0) = true := bne_iff_ne.2 h0
                  have HE := Lib.hid (show firstE (preL tl) = q from (HSP.out (by rw [HTK.out]; exact h0)).trans HTK.out)
                  clear h0
                  go_wp2_with fail
                  refine (HCC2.out _ (HI.out.of (by (repeat' (first | (with_reducible exact Below.refl _ _) | (with_reducible exact Nat.le_refl _) | (with_reducible refine Below.bel ?_ ?_) | (with_reducible refine Below.alloc ?_ ?_ _) | (with_reducible refine Below.drew ?_) | (with_reducible refine Below.drawsN ?_ _) | (with_reducible refine Below.setCell ?_ ?_ _) | (with_reducible refine le_bel ?_) | (with_reducible refine le_alloc ?_) | (with_reducible refine le_setCell ?_) | (with_reducible refine le_drew ?_) | (with_reducible refine le_drawsN ?_) | (dsimp only; with_reducible refine le_bel ?_) | (dsimp only; with_reducible refine Nat.le_refl _) | (dsimp only; with_reducible refine le_bel_add ?_) | (with_reducible assumption) | omega | (dsimp only; omega)))))).mono ?_
                  rintro _ _ ⟨rfl, y, rfl⟩
                  dsimp only
                  go_wp2
                  go_ret
                  exact Ret.mk (by (rw [HS.out, HE.out]; rfl)) (by (repeat' (first | (with_reducible exact Below.refl _ _) | (with_reducible exact Nat.le_refl _) | (with_reducible refine Below.bel ?_ ?_) | (with_reducible refine Below.alloc ?_ ?_ _) | (with_reducible refine Below.drew ?_) | (with_reducible refine Below.drawsN ?_ _) | (with_reducible refine Below.setCell ?_ ?_ _) | (with_reducible refine le_bel ?_) | (with_reducible refine le_alloc ?_) | (with_reducible refine le_setCell ?_) | (with_reducible refine le_drew ?_) | (with_reducible refine le_drawsN ?_) | (dsimp only; with_reducible refine le_bel ?_) | (dsimp only; with_reducible refine Nat.le_refl _) | (dsimp only; with_reducible refine le_bel_add ?_) | (with_reducible assumption) | omega | (dsimp only; omega))))
              · have hke : k = tl.length := by omega
                subst hke
                have f0 : decide ((tl.length : Int) < (tl.length : Int)) = false := decide_eq_false (by omega)
                rw [List.take_length] at HA
                clear hiW
                go_wp2
                go_ret
                exact Ret.mk (by (rw [HS.out, HA.out]; rfl)) (by (repeat' (first | (with_reducible exact Below.refl _ _) | (with_reducible exact Nat.le_refl _) | (with_reducible refine Below.bel ?_ ?_) | (with_reducible refine Below.alloc ?_ ?_ _) | (with_reducible refine Below.drew ?_) | (with_reducible refine Below.drawsN ?_ _) | (with_reducible refine Below.setCell ?_ ?_ _) | (with_reducible refine le_bel ?_) | (with_reducible refine le_alloc ?_) | (with_reducible refine le_setCell ?_) | (with_reducible refine le_drew ?_) | (with_reducible refine le_drawsN ?_) | (dsimp only; with_reducible refine le_bel ?_) | (dsimp only; with_reducible refine Nat.le_refl _) | (dsimp only; with_reducible refine le_bel_add ?_) | (with_reducible assumption) | omega | (dsimp only; omega))))
          · have f5 : (ta != 0) = true := bne_iff_ne.2 ha
            have hs0 : single (nd 3 ta tl) = 7 := by
              rw [single]
              repeat' split
              all_goals first | rfl | omega
            have HE := Lib.hid (show firstE (pre (nd 3 ta tl)) = 7 by rw [hfp, hs0]; rfl)
            clear hfp hs0 HC HNL HBIG hlt ha
            go_enter Tryz.func15, Tryz.ntmps15
            go_wp2
            go_ret
            exact Ret.mk (by (rw [HE.out]; rfl)) (by (repeat' (first | (with_reducible exact Below.refl _ _) | (with_reducible exact Nat.le_refl _) | (with_reducible refine Below.bel ?_ ?_) | (with_reducible refine Below.alloc ?_ ?_ _) | (with_reducible refine Below.drew ?_) | (with_reducible refine Below.drawsN ?_ _) | (with_reducible refine Below.setCell ?_ ?_ _) | (with_reducible refine le_bel ?_) | (with_reducible refine le_alloc ?_) | (with_reducible refine le_setCell ?_) | (with_reducible refine le_drew ?_) | (with_reducible refine le_drawsN ?_) | (dsimp only; with_reducible refine le_bel ?_) | (dsimp only; with_reducible refine Nat.le_refl _) | (dsimp only; with_reducible refine le_bel_add ?_) | (with_reducible assumption) | omega | (dsimp only; omega))))
        · skip
          by_cases ha : ta = 0
          · have f5 : (ta != 0) = false := by rw [ha]; rfl
            have hs0 : single (nd 4 ta tl) = 0 := by
              rw [single]
              repeat' split
              all_goals first | rfl | omega
            have HS := Lib.hid (show firstE (pre (nd 4 ta tl)) = firstE (preL tl) by rw [hfp, if_pos hs0])
            clear hfp hs0 ha
            go_enter Tryz.func15, Tryz.ntmps15
            go_wp2
            go_loopw [6] (fun i wr => ∃ k : Nat, i = .int .i64 (k : Int) ∧ k ≤ tl.length ∧ firstE (preL (tl.take k)) = 0 ∧ wr.heap[w.heap.size]? = some (.cells #[.int .i64 4, .int .i64 ta, .slice ad tl.length cap] 35 (0, 0)) ∧ Below w.heap.size w wr) (fun i _ => tl.length - (intOf i).toNat)
            case atStart => exact ⟨0, rfl, by omega, rfl, World.alloc_heap_new _ _, by (repeat' (first | (with_reducible exact Below.refl _ _) | (with_reducible exact Nat.le_refl _) | (with_reducible refine Below.bel ?_ ?_) | (with_reducible refine Below.alloc ?_ ?_ _) | (with_reducible refine Below.drew ?_) | (with_reducible refine Below.drawsN ?_ _) | (with_reducible refine Below.setCell ?_ ?_ _) | (with_reducible refine le_bel ?_) | (with_reducible refine le_alloc ?_) | (with_reducible refine le_setCell ?_) | (with_reducible refine le_drew ?_) | (with_reducible refine le_drawsN ?_) | (dsimp only; with_reducible refine le_bel ?_) | (dsimp only; with_reducible refine Nat.le_refl _) | (dsimp only; with_reducible refine le_bel_add ?_) | (with_reducible assumption) | omega | (dsimp only; omega)))⟩
            case round =>
              obtain ⟨k, rfl, hk, hA, hfb, hb⟩ := hrel
              have hiW := below_move hlt (fun _ h => h) hb
              obtain ⟨fb0, fb1, fb2⟩ := box3 hfb
              have HA := Lib.hid hA
              have hbs := hb.size
              clear hA
              rcases Nat.lt_or_ge k tl.length with hkl | hkl
              · obtain ⟨u, hu⟩ := some_at hkl
                obtain ⟨bb, off, hadd, hp, hcs⟩ := insF_at hiW (by omega)
                cases hadd
                obtain ⟨c0, c1, ad', cap', c2, hiu⟩ := cellF_open (hcs k u hu)
                have f0 : decide ((k : Int) < (tl.length : Int)) = true := decide_eq_true (by omega)
                have hib : (0 ≤ (k : Int) ∧ (k : Int) < (tl.length : Int)) := ⟨by omega, by omega⟩
                have HCC := HC.out u (List.mem_of_getElem? hu) ad' cap'
                have HTK := Lib.hid (firstE_take hu HA.out)
                have HSP := Lib.hid (firstE_split tl (k + 1))
                obtain ⟨q, hq⟩ : ∃ q, firstE (pre u) = q := ⟨_, rfl⟩
                rw [hq] at HCC HTK
                have HCC2 := Lib.hid HCC
                have HI := Lib.hid hiu
                clear hcs hiW hiu hp hu hq HCC
                by_cases h0 : q = 0
                · subst h0
                  go_wp2_with fail
                  refine (HCC2.out _ (HI.out.of (by (repeat' (first | (with_reducible exact Below.refl _ _) | (with_reducible exact Nat.le_refl _) | (with_reducible refine Below.bel ?_ ?_) | (with_reducible refine Below.alloc ?_ ?_ _) | (with_reducible refine Below.drew ?_) | (with_reducible refine Below.drawsN ?_ _) | (with_reducible refine Below.setCell ?_ ?_ _) | (with_reducible refine le_bel ?_) | (with_reducible refine le_alloc ?_) | (with_reducible refine le_setCell ?_) | (with_reducible refine le_drew ?_) | (with_reducible refine le_drawsN ?_) | (dsimp only; with_reducible refine le_bel ?_) | (dsimp only; with_reducible refine Nat.le_refl _) | (dsimp only; with_reducible refine le_bel_add ?_) | (with_reducible assumption) | omega | (dsimp only; omega)))))).mono ?_
                  rintro _ _ ⟨rfl, y, rfl⟩
                  have hfb2 := obj_bel y hfb
                  dsimp only
                  go_wp2
                  go_roundw
                  case rel => exact ⟨k + 1, by go_num, by omega, HTK.out, hfb2, by (repeat' (first | (with_reducible exact Below.refl _ _) | (with_reducible exact Nat.le_refl _) | (with_reducible refine Below.bel ?_ ?_) | (with_reducible refine Below.alloc ?_ ?_ _) | (with_reducible refine Below.drew ?_) | (with_reducible refine Below.drawsN ?_ _) | (with_reducible refine Below.setCell ?_ ?_ _) | (with_reducible refine le_bel ?_) | (with_reducible refine le_alloc ?_) | (with_reducible refine le_setCell ?_) | (with_reducible refine le_drew ?_) | (with_reducible refine le_drawsN ?_) | (dsimp only; with_reducible refine le_bel ?_) | (dsimp only; with_reducible refine Nat.le_refl _) | (dsimp only; with_reducible refine le_bel_add ?_) | (with_reducible assumption) | omega | (dsimp only; omega)))⟩
                  case measure => simp [intOf]; omega
                · have f1 : (q != 0) = true := bne_iff_ne.2 h0
                  have HE := Lib.hid (show firstE (preL tl) = q from (HSP.out (by rw [HTK.out]; exact h0)).trans HTK.out)
                  clear h0
                  go_wp2_with fail
                  refine (HCC2.out _ (HI.out.of (by (repeat' (first | (with_reducible exact Below.refl _ _) | (with_reducible exact Nat.le_refl _) | (with_reducible refine Below.bel ?_ ?_) | (with_reducible refine Below.alloc ?_ ?_ _) | (with_reducible refine Below.drew ?_) | (with_reducible refine Below.drawsN ?_ _) | (with_reducible refine Below.setCell ?_ ?_ _) | (with_reducible refine le_bel ?_) | (with_reducible refine le_alloc ?_) | (with_reducible refine le_setCell ?_) | (with_reducible refine le_drew ?_) | (with_reducible refine le_drawsN ?_) | (dsimp only; with_reducible refine le_bel ?_) | (dsimp only; with_reducible refine Nat.le_refl _) | (dsimp only; with_reducible refine le_bel_add ?_) | (with_reducible assumption) | omega | (dsimp only; omega)))))).mono ?_
                  rintro _ _ ⟨rfl, y, rfl⟩
                  dsimp only
                  go_wp2
                  go_ret
                  exact Ret.mk (by (rw [HS.out, HE.out]; rfl)) (by (repeat' (first | (with_reducible exact Below.refl _ _) | (with_reducible exact Nat.le_refl _) | (with_reducible refine Below.bel ?_ ?_) | (with_reducible refine Below.alloc ?_ ?_ _) | (with_reducible refine Below.drew ?_) | (with_reducible refine Below.drawsN ?_ _) | (with_reducible refine Below.setCell ?_ ?_ _) | (with_reducible refine le_bel ?_) | (with_reducible refine le_alloc ?_) | (with_reducible refine le_setCell ?_) | (with_reducible refine le_drew ?_) | (with_reducible refine le_drawsN ?_) | (dsimp only; with_reducible refine le_bel ?_) | (dsimp only; with_reducible refine Nat.le_refl _) | (dsimp only; with_reducible refine le_bel_add ?_) | (with_reducible assumption) | omega | (dsimp only; omega))))
              · have hke : k = tl.length := by omega
                subst hke
                have f0 : decide ((tl.length : Int) < (tl.length : Int)) = false := decide_eq_false (by omega)
                rw [List.take_length] at HA
                clear hiW
                go_wp2
                go_ret
                exact Ret.mk (by (rw [HS.out, HA.out]; rfl)) (by (repeat' (first | (with_reducible exact Below.refl _ _) | (with_reducible exact Nat.le_refl _) | (with_reducible refine Below.bel ?_ ?_) | (with_reducible refine Below.alloc ?_ ?_ _) | (with_reducible refine Below.drew ?_) | (with_reducible refine Below.drawsN ?_ _) | (with_reducible refine Below.setCell ?_ ?_ _) | (with_reducible refine le_bel ?_) | (with_reducible refine le_alloc ?_) | (with_reducible refine le_setCell ?_) | (with_reducible refine le_drew ?_) | (with_reducible refine le_drawsN ?_) | (dsimp only; with_reducible refine le_bel ?_) | (dsimp only; with_reducible refine Nat.le_refl _) | (dsimp only; with_reducible refine le_bel_add ?_) | (with_reducible assumption) | omega | (dsimp only; omega))))
          · have f5 : (ta != 0) = true := bne_iff_ne.2 ha
            have hs0 : single (nd 4 ta tl) = 7 := by
              rw [single]
              repeat' split
              all_goals first | rfl | omega
            have HE := Lib.hid (show firstE (pre (nd 4 ta tl)) = 7 by rw [hfp, hs0]; rfl)
            clear hfp hs0 HC HNL HBIG hlt ha
            go_enter Tryz.func15, Tryz.ntmps15
            go_wp2
            go_ret
            exact Ret.mk (by (rw [HE.out]; rfl)) (by (repeat' (first | (with_reducible exact Below.refl _ _) | (with_reducible exact Nat.le_refl _) | (with_reducible refine Below.bel ?_ ?_) | (with_reducible refine Below.alloc ?_ ?_ _) | (with_reducible refine Below.drew ?_) | (with_reducible refine Below.drawsN ?_ _) | (with_reducible refine Below.setCell ?_ ?_ _) | (with_reducible refine le_bel ?_) | (with_reducible refine le_alloc ?_) | (with_reducible refine le_setCell ?_) | (with_reducible refine le_drew ?_) | (with_reducible refine le_drawsN ?_) | (dsimp only; with_reducible refine le_bel ?_) | (dsimp only; with_reducible refine Nat.le_refl _) | (dsimp only; with_reducible refine le_bel_add ?_) | (with_reducible assumption) | omega | (dsimp only; omega))))
        · by_cases hl : tl.length = 0
          · have f4 : ((tl.length : Int) == 0) = true := beq_iff_eq.2 (by omega)
            by_cases ha : ta = 0
            · have f5 : (ta != 0) = false := by rw [ha]; rfl
              have hs0 : single (nd 5 ta tl) = 0 := by
                rw [single]
                repeat' split
                all_goals first | rfl | omega
              have HS := Lib.hid (show firstE (pre (nd 5 ta tl)) = firstE (preL tl) by rw [hfp, if_pos hs0])
              clear hfp hs0 hl ha
              go_enter Tryz.func15, Tryz.ntmps15
              go_wp2
              go_loopw [6] (fun i wr => ∃ k : Nat, i = .int .i64 (k : Int) ∧ k ≤ tl.length ∧ firstE (preL (tl.take k)) = 0 ∧ wr.heap[w.heap.size]? = some (.cells #[.int .i64 5, .int .i64 ta, .slice ad tl.length cap] 35 (0, 0)) ∧ Below w.heap.size w wr) (fun i _ => tl.length - (intOf i).toNat)
              case atStart => exact ⟨0, rfl, by omega, rfl, World.alloc_heap_new _ _, by (repeat' (first | (with_reducible exact Below.refl _ _) | (with_reducible exact Nat.le_refl _) | (with_reducible refine Below.bel ?_ ?_) | (with_reducible refine Below.alloc ?_ ?_ _) | (with_reducible refine Below.drew ?_) | (with_reducible refine Below.drawsN ?_ _) | (with_reducible refine Below.setCell ?_ ?_ _) | (with_reducible refine le_bel ?_) | (with_reducible refine le_alloc ?_) | (with_reducible refine le_setCell ?_) | (with_reducible refine le_drew ?_) | (with_reducible refine le_drawsN ?_) | (dsimp only; with_reducible refine le_bel ?_) | (dsimp only; with_reducible refine Nat.le_refl _) | (dsimp only; with_reducible refine le_bel_add ?_) | (with_reducible assumption) | omega | (dsimp only; omega)))⟩
              case round =>
                obtain ⟨k, rfl, hk, hA, hfb, hb⟩ := hrel
                have hiW := below_move hlt (fun _ h => h) hb
                obtain ⟨fb0, fb1, fb2⟩ := box3 hfb
                have HA := Lib.hid hA
                have hbs := hb.size
                clear hA
                rcases Nat.lt_or_ge k tl.length with hkl | hkl
                · obtain ⟨u, hu⟩ := some_at hkl
                  obtain ⟨bb, off, hadd, hp, hcs⟩ := insF_at hiW (by omega)
                  cases hadd
                  obtain ⟨c0, c1, ad', cap', c2, hiu⟩ := cellF_open (hcs k u hu)
                  have f0 : decide ((k : Int) < (tl.length : Int)) = true := decide_eq_true (by omega)
                  have hib : (0 ≤ (k : Int) ∧ (k : Int) < (tl.length : Int)) := ⟨by omega, by omega⟩
                  have HCC := HC.out u (List.mem_of_getElem? hu) ad' cap'
                  have HTK := Lib.hid (firstE_take hu HA.out)
                  have HSP := Lib.hid (firstE_split tl (k + 1))
                  obtain ⟨q, hq⟩ : ∃ q, firstE (pre u) = q := ⟨_, rfl⟩
                  rw [hq] at HCC HTK
                  have HCC2 := Lib.hid HCC
                  have HI := Lib.hid hiu
                  clear hcs hiW hiu hp hu hq HCC
                  by_cases h0 : q = 0
                  · subst h0
                    go_wp2_with fail
                    refine (HCC2.out _ (HI.out.of (by (repeat' (first | (with_reducible exact Below.refl _ _) | (with_reducible exact Nat.le_refl _) | (with_reducible refine Below.bel ?_ ?_) | (with_reducible refine Below.alloc ?_ ?_ _) | (with_reducible refine Below.drew ?_) | (with_reducible refine Below.drawsN ?_ _) | (with_reducible refine Below.setCell ?_ ?_ _) | (with_reducible refine le_bel ?_) | (with_reducible refine le_alloc ?_) | (with_reducible refine le_setCell ?_) | (with_reducible refine le_drew ?_) | (with_reducible refine le_drawsN ?_) | (dsimp only; with_reducible refine le_bel ?_) | (dsimp only; with_reducible refine Nat.le_refl _) | (dsimp only; with_reducible refine le_bel_add ?_) | (with_reducible assumption) | omega | (dsimp only; omega)))))).mono ?_
                    rintro _ _ ⟨rfl, y, rfl⟩
                    have hfb2 := obj_bel y hfb
                    dsimp only
                    go_wp2
                    go_roundw
                    case rel => exact ⟨k + 1, by go_num, by omega, HTK.out, hfb2, by (repeat' (first | (with_reducible exact Below.refl _ _) | (with_reducible exact Nat.le_refl _) | (with_reducible refine Below.bel ?_ ?_) | (with_reducible refine Below.alloc ?_ ?_ _) | (with_reducible refine Below.drew ?_) | (with_reducible refine Below.drawsN ?_ _) | (with_reducible refine Below.setCell ?_ ?_ _) | (with_reducible refine le_bel ?_) | (with_reducible refine le_alloc ?_) | (with_reducible refine le_setCell ?_) | (with_reducible refine le_drew ?_) | (with_reducible refine le_drawsN ?_) | (dsimp only; with_reducible refine le_bel ?_) | (dsimp only; with_reducible refine Nat.le_refl _) | (dsimp only; with_reducible refine le_bel_add ?_) | (with_reducible assumption) | omega | (dsimp only; omega)))⟩
                    case measure => simp [intOf]; omega
                  · have f1 : (q != 0) = true := bne_iff_ne.2 h0
                    have HE := Lib.hid (show firstE (preL tl) = q from (HSP.out (by rw [HTK.out]; exact h0)).trans HTK.out)
                    clear h0
                    go_wp2_with fail
                    refine (HCC2.out _ (HI.out.of (by (repeat' (first | (with_reducible exact Below.refl _ _) | (with_reducible exact Nat.le_refl _) | (with_reducible refine Below.bel ?_ ?_) | (with_reducible refine Below.alloc ?_ ?_ _) | (with_reducible refine Below.drew ?_) | (with_reducible refine Below.drawsN ?_ _) | (with_reducible refine Below.setCell ?_ ?_ _) | (with_reducible refine le_bel ?_) | (with_reducible refine le_alloc ?_) | (with_reducible refine le_setCell ?_) | (with_reducible refine le_drew ?_) | (with_reducible refine le_drawsN ?_) | (dsimp only; with_reducible refine le_bel ?_) | (dsimp only; with_reducible refine Nat.le_refl _) | (dsimp only; with_reducible refine le_bel_add ?_) | (with_reducible assumption) | omega | (dsimp only; omega)))))).mono ?_
                    rintro _ _ ⟨rfl, y, rfl⟩
                    dsimp only
                    go_wp2
                    go_ret
                    exact Ret.mk (by (rw [HS.out, HE.out]; rfl)) (by (repeat' (first | (with_reducible exact Below.refl _ _) | (with_reducible exact Nat.le_refl _) | (with_reducible refine Below.bel ?_ ?_) | (with_reducible refine Below.alloc ?_ ?_ _) | (with_reducible refine Below.drew ?_) | (with_reducible refine Below.drawsN ?_ _) | (with_reducible refine Below.setCell ?_ ?_ _) | (with_reducible refine le_bel ?_) | (with_reducible refine le_alloc ?_) | (with_reducible refine le_setCell ?_) | (with_reducible refine le_drew ?_) | (with_reducible refine le_drawsN ?_) | (dsimp only; with_reducible refine le_bel ?_) | (dsimp only; with_reducible refine Nat.le_refl _) | (dsimp only; with_reducible refine le_bel_add ?_) | (with_reducible assumption) | omega | (dsimp only; omega))))
                · have hke : k = tl.length := by omega
                  subst hke
                  have f0 : decide ((tl.length : Int) < (tl.length : Int)) = false := decide_eq_false (by omega)
                  rw [List.take_length] at HA
                  clear hiW
                  go_wp2
                  go_ret
                  exact Ret.mk (by (rw [HS.out, HA.out]; rfl)) (by (repeat' (first | (with_reducible exact Below.refl _ _) | (with_reducible exact Nat.le_refl _) | (with_reducible refine Below.bel ?_ ?_) | (with_reducible refine Below.alloc ?_ ?_ _) | (with_reducible refine Below.drew ?_) | (with_reducible refine Below.drawsN ?_ _) | (with_reducible refine Below.setCell ?_ ?_ _) | (with_reducible refine le_bel ?_) | (with_reducible refine le_alloc ?_) | (with_reducible refine le_setCell ?_) | (with_reducible refine le_drew ?_) | (with_reducible refine le_drawsN ?_) | (dsimp only; with_reducible refine le_bel ?_) | (dsimp only; with_reducible refine Nat.le_refl _) | (dsimp only; with_reducible refine le_bel_add ?_) | (with_reducible assumption) | omega | (dsimp only; omega))))
            · have f5 : (ta != 0) = true := bne_iff_ne.2 ha
              have hs0 : single (nd 5 ta tl) = 7 := by
                rw [single]
                repeat' split
                all_goals first | rfl | omega
              have HE := Lib.hid (show firstE (pre (nd 5 ta tl)) = 7 by rw [hfp, hs0]; rfl)
              clear hfp hs0 HC HNL HBIG hlt hl ha
              go_enter Tryz.func15, Tryz.ntmps15
              go_wp2
              go_ret
              exact Ret.mk (by (rw [HE.out]; rfl)) (by (repeat' (first | (with_reducible exact Below.refl _ _) | (with_reducible exact Nat.le_refl _) | (with_reducible refine Below.bel ?_ ?_) | (with_reducible refine Below.alloc ?_ ?_ _) | (with_reducible refine Below.drew ?_) | (with_reducible refine Below.drawsN ?_ _) | (with_reducible refine Below.setCell ?_ ?_ _) | (with_reducible refine le_bel ?_) | (with_reducible refine le_alloc ?_) | (with_reducible refine le_setCell ?_) | (with_reducible refine le_drew ?_) | (with_reducible refine le_drawsN ?_) | (dsimp only; with_reducible refine le_bel ?_) | (dsimp only; with_reducible refine Nat.le_refl _) | (dsimp only; with_reducible refine le_bel_add ?_) | (with_reducible assumption) | omega | (dsimp only; omega))))
          · have f4 : ((tl.length : Int) == 0) = false := beq_eq_false_iff_ne.2 (by omega)
            by_cases ha : ta = 0
            · have f5 : (ta != 0) = false := by rw [ha]; rfl
              have hs0 : single (nd 5 ta tl) = 7 := by
                rw [single]
                repeat' split
                all_goals first | rfl | omega
              have HE := Lib.hid (show firstE (pre (nd 5 ta tl)) = 7 by rw [hfp, hs0]; rfl)
              clear hfp hs0 HC HNL HBIG hlt hl ha
              go_enter Tryz.func15, Tryz.ntmps15
              go_wp2
              go_ret
              exact Ret.mk (by (rw [HE.out]; rfl)) (by (repeat' (first | (with_reducible exact Below.refl _ _) | (with_reducible exact Nat.le_refl _) | (with_reducible refine Below.bel ?_ ?_) | (with_reducible refine Below.alloc ?_ ?_ _) | (with_reducible refine Below.drew ?_) | (with_reducible refine Below.drawsN ?_ _) | (with_reducible refine Below.setCell ?_ ?_ _) | (with_reducible refine le_bel ?_) | (with_reducible refine le_alloc ?_) | (with_reducible refine le_setCell ?_) | (with_reducible refine le_drew ?_) | (with_reducible refine le_drawsN ?_) | (dsimp only; with_reducible refine le_bel ?_) | (dsimp only; with_reducible refine Nat.le_refl _) | (dsimp only; with_reducible refine le_bel_add ?_) | (with_reducible assumption) | omega | (dsimp only; omega))))
            · have f5 : (ta != 0) = true := bne_iff_ne.2 ha
              have hs0 : single (nd 5 ta tl) = 7 := by
                rw [single]
                repeat' split
                all_goals first | rfl | omega
              have HE := Lib.hid (show firstE (pre (nd 5 ta tl)) = 7 by rw [hfp, hs0]; rfl)
              clear hfp hs0 HC HNL HBIG hlt hl ha
              go_enter Tryz.func15, Tryz.ntmps15
              go_wp2
              go_ret
              exact Ret.mk (by (rw [HE.out]; rfl)) (by (repeat' (first | (with_reducible exact Below.refl _ _) | (with_reducible exact Nat.le_refl _) | (with_reducible refine Below.bel ?_ ?_) | (with_reducible refine Below.alloc ?_ ?_ _) | (with_reducible refine Below.drew ?_) | (with_reducible refine Below.drawsN ?_ _) | (with_reducible refine Below.setCell ?_ ?_ _) | (with_reducible refine le_bel ?_) | (with_reducible refine le_alloc ?_) | (with_reducible refine le_setCell ?_) | (with_reducible refine le_drew ?_) | (with_reducible refine le_drawsN ?_) | (dsimp only; with_reducible refine le_bel ?_) | (dsimp only; with_reducible refine Nat.le_refl _) | (dsimp only; with_reducible refine le_bel_add ?_) | (with_reducible assumption) | omega | (dsimp only; omega))))
        · by_cases hl : tl.length = 0
          · have f4 : ((tl.length : Int) == 0) = true := beq_iff_eq.2 (by omega)
            by_cases ha : ta = 0
            · have f5 : (ta != 0) = false := by rw [ha]; rfl
              have hs0 : single (nd 6 ta tl) = 0 := by
                rw [single]
                repeat' split
                all_goals first | rfl | omega
              have HS := Lib.hid (show firstE (pre (nd 6 ta tl)) = firstE (preL tl) by rw [hfp, if_pos hs0])
              clear hfp hs0 hl ha
              go_enter Tryz.func15, Tryz.ntmps15
              go_wp2
              go_loopw [6] (fun i wr => ∃ k : Nat, i = .int .i64 (k : Int) ∧ k ≤ tl.length ∧ firstE (preL (tl.take k)) = 0 ∧ wr.heap[w.heap.size]? = some (.cells #[.int .i64 6, .int .i64 ta, .slice ad tl.length cap] 35 (0, 0)) ∧ Below w.heap.size w wr) (fun i _ => tl.length - (intOf i).toNat)
              case atStart => exact ⟨0, rfl, by omega, rfl, World.alloc_heap_new _ _, by (repeat' (first | (with_reducible exact Below.refl _ _) | (with_reducible exact Nat.le_refl _) | (with_reducible refine Below.bel ?_ ?_) | (with_reducible refine Below.alloc ?_ ?_ _) | (with_reducible refine Below.drew ?_) | (with_reducible refine Below.drawsN ?_ _) | (with_reducible refine Below.setCell ?_ ?_ _) | (with_reducible refine le_bel ?_) | (with_reducible refine le_alloc ?_) | (with_reducible refine le_setCell ?_) | (with_reducible refine le_drew ?_) | (with_reducible refine le_drawsN ?_) | (dsimp only; with_reducible refine le_bel ?_) | (dsimp only; with_reducible refine Nat.le_refl _) | (dsimp only; with_reducible refine le_bel_add ?_) | (with_reducible assumption) | omega | (dsimp only; omega)))⟩
              case round =>
                obtain ⟨k, rfl, hk, hA, hfb, hb⟩ := hrel
                have hiW := below_move hlt (fun _ h => h) hb
                obtain ⟨fb0, fb1, fb2⟩ := box3 hfb
                have HA := Lib.hid hA
                have hbs := hb.size
                clear hA
                rcases Nat.lt_or_ge k tl.length with hkl | hkl
                · obtain ⟨u, hu⟩ := some_at hkl
                  obtain ⟨bb, off, hadd, hp, hcs⟩ := insF_at hiW (by omega)
                  cases hadd
                  obtain ⟨c0, c1, ad', cap', c2, hiu⟩ := cellF_open (hcs k u hu)
                  have f0 : decide ((k : Int) < (tl.length : Int)) = true := decide_eq_true (by omega)
                  have hib : (0 ≤ (k : Int) ∧ (k : Int) < (tl.length : Int)) := ⟨by omega, by omega⟩
                  have HCC := HC.out u (List.mem_of_getElem? hu) ad' cap'
                  have HTK := Lib.hid (firstE_take hu HA.out)
                  have HSP := Lib.hid (firstE_split tl (k + 1))
                  obtain ⟨q, hq⟩ : ∃ q, firstE (pre u) = q := ⟨_, rfl⟩
                  rw [hq] at HCC HTK
                  have HCC2 := Lib.hid HCC
                  have HI := Lib.hid hiu
                  clear hcs hiW hiu hp hu hq HCC
                  by_cases h0 : q = 0
                  · subst h0
                    go_wp2_with fail
                    refine (HCC2.out _ (HI.out.of (by (repeat' (first | (with_reducible exact Below.refl _ _) | (with_reducible exact Nat.le_refl _) | (with_reducible refine Below.bel ?_ ?_) | (with_reducible refine Below.alloc ?_ ?_ _) | (with_reducible refine Below.drew ?_) | (with_reducible refine Below.drawsN ?_ _) | (with_reducible refine Below.setCell ?_ ?_ _) | (with_reducible refine le_bel ?_) | (with_reducible refine le_alloc ?_) | (with_reducible refine le_setCell ?_) | (with_reducible refine le_drew ?_) | (with_reducible refine le_drawsN ?_) | (dsimp only; with_reducible refine le_bel ?_) | (dsimp only; with_reducible refine Nat.le_refl _) | (dsimp only; with_reducible refine le_bel_add ?_) | (with_reducible assumption) | omega | (dsimp only; omega)))))).mono ?_
                    rintro _ _ ⟨rfl, y, rfl⟩
                    have hfb2 := obj_bel y hfb
                    dsimp only
                    go_wp2
                    go_roundw
                    case rel => exact ⟨k + 1, by go_num, by omega, HTK.out, hfb2, by (repeat' (first | (with_reducible exact Below.refl _ _) | (with_reducible exact Nat.le_refl _) | (with_reducible refine Below.bel ?_ ?_) | (with_reducible refine Below.alloc ?_ ?_ _) | (with_reducible refine Below.drew ?_) | (with_reducible refine Below.drawsN ?_ _) | (with_reducible refine Below.setCell ?_ ?_ _) | (with_reducible refine le_bel ?_) | (with_reducible refine le_alloc ?_) | (with_reducible refine le_setCell ?_) | (with_reducible refine le_drew ?_) | (with_reducible refine le_drawsN ?_) | (dsimp only; with_reducible refine le_bel ?_) | (dsimp only; with_reducible refine Nat.le_refl _) | (dsimp only; with_reducible refine le_bel_add ?_) | (with_reducible assumption) | omega | (dsimp only; omega)))⟩
                    case measure => simp [intOf]; omega
                  · have f1 : (q != 0) = true := bne_iff_ne.2 h0
                    have HE := Lib.hid (show firstE (preL tl) = q from (HSP.out (by rw [HTK.out]; exact h0)).trans HTK.out)
                    clear h0
                    go_wp2_with fail
                    refine (HCC2.out _ (HI.out.of (by (repeat' (first | (with_reducible exact Below.refl _ _) | (with_reducible exact Nat.le_refl _) | (with_reducible refine Below.bel ?_ ?_) | (with_reducible refine Below.alloc ?_ ?_ _) | (with_reducible refine Below.drew ?_) | (with_reducible refine Below.drawsN ?_ _) | (with_reducible refine Below.setCell ?_ ?_ _) | (with_reducible refine le_bel ?_) | (with_reducible refine le_alloc ?_) | (with_reducible refine le_setCell ?_) | (with_reducible refine le_drew ?_) | (with_reducible refine le_drawsN ?_) | (dsimp only; with_reducible refine le_bel ?_) | (dsimp only; with_reducible refine Nat.le_refl _) | (dsimp only; with_reducible refine le_bel_add ?_) | (with_reducible assumption) | omega | (dsimp only; omega)))))).mono ?_
                    rintro _ _ ⟨rfl, y, rfl⟩
                    dsimp only
                    go_wp2
                    go_ret
                    exact Ret.mk (by (rw [HS.out, HE.out]; rfl)) (by (repeat' (first | (with_reducible exact Below.refl _ _) | (with_reducible exact Nat.le_refl _) | (with_reducible refine Below.bel ?_ ?_) | (with_reducible refine Below.alloc ?_ ?_ _) | (with_reducible refine Below.drew ?_) | (with_reducible refine Below.drawsN ?_ _) | (with_reducible refine Below.setCell ?_ ?_ _) | (with_reducible refine le_bel ?_) | (with_reducible refine le_alloc ?_) | (with_reducible refine le_setCell ?_) | (with_reducible refine le_drew ?_) | (with_reducible refine le_drawsN ?_) | (dsimp only; with_reducible refine le_bel ?_) | (dsimp only; with_reducible refine Nat.le_refl _) | (dsimp only; with_reducible refine le_bel_add ?_) | (with_reducible assumption) | omega | (dsimp only; omega))))
                · have hke : k = tl.length := by omega
                  subst hke
                  have f0 : decide ((tl.length : Int) < (tl.length : Int)) = false := decide_eq_false (by omega)
                  rw [List.take_length] at HA
                  clear hiW
                  go_wp2
                  go_ret
                  exact Ret.mk (by (rw [HS.out, HA.out]; rfl)) (by (repeat' (first | (with_reducible exact Below.refl _ _) | (with_reducible exact Nat.le_refl _) | (with_reducible refine Below.bel ?_ ?_) | (with_reducible refine Below.alloc ?_ ?_ _) | (with_reducible refine Below.drew ?_) | (with_reducible refine Below.drawsN ?_ _) | (with_reducible refine Below.setCell ?_ ?_ _) | (with_reducible refine le_bel ?_) | (with_reducible refine le_alloc ?_) | (with_reducible refine le_setCell ?_) | (with_reducible refine le_drew ?_) | (with_reducible refine le_drawsN ?_) | (dsimp only; with_reducible refine le_bel ?_) | (dsimp only; with_reducible refine Nat.le_refl _) | (dsimp only; with_reducible refine le_bel_add ?_) | (with_reducible assumption) | omega | (dsimp only; omega))))
            · have f5 : (ta != 0) = true := bne_iff_ne.2 ha
              have hs0 : single (nd 6 ta tl) = 7 := by
                rw [single]
                repeat' split
                all_goals first | rfl | omega
              have HE := Lib.hid (show firstE (pre (nd 6 ta tl)) = 7 by rw [hfp, hs0]; rfl)
              clear hfp hs0 HC HNL HBIG hlt hl ha
              go_enter Tryz.func15, Tryz.ntmps15
              go_wp2
              go_ret
              exact Ret.mk (by (rw [HE.out]; rfl)) (by (repeat' (first | (with_reducible exact Below.refl _ _) | (with_reducible exact Nat.le_refl _) | (with_reducible refine Below.bel ?_ ?_) | (with_reducible refine Below.alloc ?_ ?_ _) | (with_reducible refine Below.drew ?_) | (with_reducible refine Below.drawsN ?_ _) | (with_reducible refine Below.setCell ?_ ?_ _) | (with_reducible refine le_bel ?_) | (with_reducible refine le_alloc ?_) | (with_reducible refine le_setCell ?_) | (with_reducible refine le_drew ?_) | (with_reducible refine le_drawsN ?_) | (dsimp only; with_reducible refine le_bel ?_) | (dsimp only; with_reducible refine Nat.le_refl _) | (dsimp only; with_reducible refine le_bel_add ?_) | (with_reducible assumption) | omega | (dsimp only; omega))))
          · have f4 : ((tl.length : Int) == 0) = false := beq_eq_false_iff_ne.2 (by omega)
            by_cases ha : ta = 0
            · have f5 : (ta != 0) = false := by rw [ha]; rfl
              have hs0 : single (nd 6 ta tl) = 7 := by
                rw [single]
                repeat' split
                all_goals first | rfl | omega
              have HE := Lib.hid (show firstE (pre (nd 6 ta tl)) = 7 by rw [hfp, hs0]; rfl)
              clear hfp hs0 HC HNL HBIG hlt hl ha
              go_enter Tryz.func15, Tryz.ntmps15
              go_wp2
              go_ret
              exact Ret.mk (by (rw [HE.out]; rfl)) (by (repeat' (first | (with_reducible exact Below.refl _ _) | (with_reducible exact Nat.le_refl _) | (with_reducible refine Below.bel ?_ ?_) | (with_reducible refine Below.alloc ?_ ?_ _) | (with_reducible refine Below.drew ?_) | (with_reducible refine Below.drawsN ?_ _) | (with_reducible refine Below.setCell ?_ ?_ _) | (with_reducible refine le_bel ?_) | (with_reducible refine le_alloc ?_) | (with_reducible refine le_setCell ?_) | (with_reducible refine le_drew ?_) | (with_reducible refine le_drawsN ?_) | (dsimp only; with_reducible refine le_bel ?_) | (dsimp only; with_reducible refine Nat.le_refl _) | (dsimp only; with_reducible refine le_bel_add ?_) | (with_reducible assumption) | omega | (dsimp only; omega))))
            · have f5 : (ta != 0) = true := bne_iff_ne.2 ha
              have hs0 : single (nd 6 ta tl) = 7 := by
                rw [single]
                repeat' split
                all_goals first | rfl | omega
              have HE := Lib.hid (show firstE (pre (nd 6 ta tl)) = 7 by rw [hfp, hs0]; rfl)
              clear hfp hs0 HC HNL HBIG hlt hl ha
              go_enter Tryz.func15, Tryz.ntmps15
              go_wp2
              go_ret
              exact Ret.mk (by (rw [HE.out]; rfl)) (by (repeat' (first | (with_reducible exact Below.refl _ _) | (with_reducible exact Nat.le_refl _) | (with_reducible refine Below.bel ?_ ?_) | (with_reducible refine Below.alloc ?_ ?_ _) | (with_reducible refine Below.drew ?_) | (with_reducible refine Below.drawsN ?_ _) | (with_reducible refine Below.setCell ?_ ?_ _) | (with_reducible refine le_bel ?_) | (with_reducible refine le_alloc ?_) | (with_reducible refine le_setCell ?_) | (with_reducible refine le_drew ?_) | (with_reducible refine le_drawsN ?_) | (dsimp only; with_reducible refine le_bel ?_) | (dsimp only; with_reducible refine Nat.le_refl _) | (dsimp only; with_reducible refine le_bel_add ?_) | (with_reducible assumption) | omega | (dsimp only; omega))))
end Go.Proofs.YtkbellmhanpocaaGreatDoor
