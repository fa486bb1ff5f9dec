/- Same, is, same. The reference's Constant, Inverse, Normal. -/
import Derived.Test.YtkbellmhanpocaaGreatDoorG8
namespace Go.Proofs.YtkbellmhanpocaaGreatDoor
set_option linter.unusedVariables false
set_option linter.unusedSimpArgs false
open Go.RowKit F
attribute [local go_sem low] Bel.cell Bel.frozen alloc_cell alloc_frozen
attribute [local go_sem] calmOp chainOp yieldsC grows

theorem eqF_parts (k a k' a' : Int) (l l' : List F) : eqF (nd k a l) (nd k' a' l') = (decide (k = k') && decide (a = a') && eqL l l') := by rw [eqF]
theorem eqL_len : ∀ {l m : List F}, l.length ≠ m.length → eqL l m = false
  | [], [], h => absurd rfl h
  | [], _ :: _, _ => by rw [eqL]
  | _ :: _, [], _ => by rw [eqL]
  | t :: r, u :: s, h => by rw [eqL, eqL_len (l := r) (m := s) (fun e => h (by simp [e])), Bool.and_false]
set_option maxRecDepth 100000 in
set_option maxHeartbeats 12800000 in
theorem Same_any : ∀ (N : Nat) (t : F), nodes t ≤ N → ∀ (t' : F) (P P' : Nat → Prop) (ad ad' : Option Addr) (cap cap' : Nat) (w : World), InsF P w ad t.l → InsF P' w ad' t'.l → nodes t ≤ 1000000000000 → nodes t' ≤ 1000000000000 →
    Calls Tryz.prog 34 #[.agg #[.int .i64 t.k, .int .i64 t.a, .slice ad t.l.length cap], .agg #[.int .i64 t'.k, .int .i64 t'.a, .slice ad' t'.l.length cap']] w (Ret (.bool (eqF t t')) w) := by
  intro N
  induction N with
  | zero => intro t h; have := nodes_pos t; omega
  | succ N ih =>
    intro t hN t' P P' ad ad' cap cap' w hi hi' hbig hbig'
    have HNL := Lib.hid (show nodesL t.l ≤ N by rw [nodes_l] at hN; omega)
    have HB := Lib.hid (show nodesL t.l ≤ 1000000000000 by rw [nodes_l] at hbig; omega)
    have HB' := Lib.hid (show nodesL t'.l ≤ 1000000000000 by rw [nodes_l] at hbig'; omega)
    have hlen : t.l.length ≤ 1000000000000 := Nat.le_trans (length_nodesL t.l) HB.out
    have hlen' : t'.l.length ≤ 1000000000000 := Nat.le_trans (length_nodesL t'.l) HB'.out
    have hlt : InsF (fun c => c < w.heap.size) w ad t.l := hi.imp fun b hb _ => hb
    have hlt' : InsF (fun c => c < w.heap.size) w ad' t'.l := hi'.imp fun b hb _ => hb
    clear hi hi' hN hbig hbig'
    obtain ⟨tk, ta, tl⟩ := t
    obtain ⟨uk, ua, ul⟩ := t'
    simp only [F.k, F.a, F.l] at HNL HB HB' hlen hlen' hlt hlt' ⊢
    rw [eqF_parts]
    by_cases h1 : tk = uk
    · subst h1
      rw [decide_eq_true rfl, Bool.true_and]
      by_cases h2 : ta = ua
      · subst h2
        rw [decide_eq_true rfl, Bool.true_and]
        by_cases h3 : tl.length = ul.length
        · rw [← h3]
          have H3 := Lib.hid h3
          clear h3
          obtain ⟨R, hR⟩ : ∃ R, eqL tl ul = R := ⟨_, rfl⟩
          rw [hR]
          have HR := Lib.hid hR
          clear hR
          go_enter Tryz.func34, Tryz.ntmps34
          go_wp2
          go_loopw [5] (fun i wr => ∃ k : Nat, i = .int .i64 (k : Int) ∧ k ≤ tl.length ∧ eqL (tl.drop k) (ul.drop k) = R ∧ wr.heap[w.heap.size]? = some (.cells #[.int .i64 tk, .int .i64 ta, .slice ad tl.length cap] 35 (0, 0)) ∧ wr.heap[w.heap.size + 1]? = some (.cells #[.int .i64 tk, .int .i64 ta, .slice ad' tl.length cap'] 35 (0, 0)) ∧ Below w.heap.size w wr) (fun i _ => tl.length - (intOf i).toNat)
          case atStart => exact ⟨0, rfl, by omega, by rw [← HR.out]; rfl, heap2_0 _ _ _, heap2_1 _ _ _, by (repeat' (first | (with_reducible exact Below.refl _ _) | (with_reducible exact Nat.le_refl _) | (with_reducible refine Below.bel ?_ ?_) | (with_reducible refine Below.alloc ?_ ?_ _) | (with_reducible refine Below.drew ?_) | (with_reducible refine Below.drawsN ?_ _) | (with_reducible refine Below.setCell ?_ ?_ _) | (with_reducible refine le_bel ?_) | (with_reducible refine le_alloc ?_) | (with_reducible refine le_setCell ?_) | (with_reducible refine le_drew ?_) | (with_reducible refine le_drawsN ?_) | (dsimp only; with_reducible refine le_bel ?_) | (dsimp only; with_reducible refine Nat.le_refl _) | (dsimp only; with_reducible refine le_bel_add ?_) | (with_reducible assumption) | omega | (dsimp only; omega)))⟩
          case round =>
            obtain ⟨k, rfl, hk, hr, hf1, hf2, hb⟩ := hrel
            have hiW := below_move hlt (fun _ h => h) hb
            have hiW' := below_move hlt' (fun _ h => h) hb
            obtain ⟨b0, b1, b2⟩ := box3 hf1
            obtain ⟨d0, d1, d2⟩ := box3 hf2
            have hbs := hb.size
            rcases Nat.lt_or_ge k tl.length with hkl | hkl
            · obtain ⟨u, hu⟩ := some_at hkl
              obtain ⟨v, hv⟩ := some_at (l := ul) (k := k) (by have := H3.out; omega)
              obtain ⟨bb, off, hadd, hp, hcs⟩ := insF_at hiW (by omega)
              cases hadd
              obtain ⟨bb', off', hadd, hp', hcs'⟩ := insF_at hiW' (by have := H3.out; omega)
              cases hadd
              obtain ⟨c0, c1, adu, capu, c2, hiu⟩ := cellF_open (hcs k u hu)
              obtain ⟨c0', c1', adv, capv, c2', hiv⟩ := cellF_open (hcs' k v hv)
              have f0 : decide ((k : Int) < (tl.length : Int)) = true := decide_eq_true (by omega)
              rw [drop_at hu, drop_at hv, eqL] at hr
              have HCC := Lib.hid (fun w' h1 h2 => ih u (Nat.le_trans (nodesL_mem (List.mem_of_getElem? hu)) HNL.out) v (fun c => c < w.heap.size) (fun c => c < w.heap.size) adu adv capu capv w' h1 h2 (Nat.le_trans (nodesL_mem (List.mem_of_getElem? hu)) HB.out) (Nat.le_trans (nodesL_mem (List.mem_of_getElem? hv)) HB'.out))
              have HI1 := Lib.hid hiu
              have HI2 := Lib.hid hiv
              have HF1 := Lib.hid hf1
              have HF2 := Lib.hid hf2
              clear hcs hcs' hiW hiW' hiu hiv hu hv hp hp' hf1 hf2
              obtain ⟨q, hq⟩ : ∃ q, eqF u v = q := ⟨_, rfl⟩
              rw [hq] at hr HCC
              have HRR := Lib.hid hr
              clear hq hr
              cases q
              · go_wp2_with fail
                refine wp_region_bel (by kernel_rfl) (by kernel_rfl) ?_
                repeat (go_big_quiet_step (with_reducible exact bel_of (HCC.out _ (HI1.out.of (by (repeat' (first | (with_reducible exact Below.refl _ _) | (with_reducible exact Nat.le_refl _) | (with_reducible refine Below.bel ?_ ?_) | (with_reducible refine Below.alloc ?_ ?_ _) | (with_reducible refine Below.drew ?_) | (with_reducible refine Below.drawsN ?_ _) | (with_reducible refine Below.setCell ?_ ?_ _) | (with_reducible refine le_bel ?_) | (with_reducible refine le_alloc ?_) | (with_reducible refine le_setCell ?_) | (with_reducible refine le_drew ?_) | (with_reducible refine le_drawsN ?_) | (dsimp only; with_reducible refine le_bel ?_) | (dsimp only; with_reducible refine Nat.le_refl _) | (dsimp only; with_reducible refine le_bel_add ?_) | (with_reducible assumption) | omega | (dsimp only; omega))))) (HI2.out.of (by (repeat' (first | (with_reducible exact Below.refl _ _) | (with_reducible exact Nat.le_refl _) | (with_reducible refine Below.bel ?_ ?_) | (with_reducible refine Below.alloc ?_ ?_ _) | (with_reducible refine Below.drew ?_) | (with_reducible refine Below.drawsN ?_ _) | (with_reducible refine Below.setCell ?_ ?_ _) | (with_reducible refine le_bel ?_) | (with_reducible refine le_alloc ?_) | (with_reducible refine le_setCell ?_) | (with_reducible refine le_drew ?_) | (with_reducible refine le_drawsN ?_) | (dsimp only; with_reducible refine le_bel ?_) | (dsimp only; with_reducible refine Nat.le_refl _) | (dsimp only; with_reducible refine le_bel_add ?_) | (with_reducible assumption) | omega | (dsimp only; omega))))))))
                refine wpQuiet_nil ?_
                rintro _ ⟨x, rfl⟩
                go_wp2
                go_ret
                exact Ret.mk (by rw [← HRR.out]; rfl) (by (repeat' (first | (with_reducible exact Below.refl _ _) | (with_reducible exact Nat.le_refl _) | (with_reducible refine Below.bel ?_ ?_) | (with_reducible refine Below.alloc ?_ ?_ _) | (with_reducible refine Below.drew ?_) | (with_reducible refine Below.drawsN ?_ _) | (with_reducible refine Below.setCell ?_ ?_ _) | (with_reducible refine le_bel ?_) | (with_reducible refine le_alloc ?_) | (with_reducible refine le_setCell ?_) | (with_reducible refine le_drew ?_) | (with_reducible refine le_drawsN ?_) | (dsimp only; with_reducible refine le_bel ?_) | (dsimp only; with_reducible refine Nat.le_refl _) | (dsimp only; with_reducible refine le_bel_add ?_) | (with_reducible assumption) | omega | (dsimp only; omega))))
              · go_wp2_with fail
                refine wp_region_bel (by kernel_rfl) (by kernel_rfl) ?_
                repeat (go_big_quiet_step (with_reducible exact bel_of (HCC.out _ (HI1.out.of (by (repeat' (first | (with_reducible exact Below.refl _ _) | (with_reducible exact Nat.le_refl _) | (with_reducible refine Below.bel ?_ ?_) | (with_reducible refine Below.alloc ?_ ?_ _) | (with_reducible refine Below.drew ?_) | (with_reducible refine Below.drawsN ?_ _) | (with_reducible refine Below.setCell ?_ ?_ _) | (with_reducible refine le_bel ?_) | (with_reducible refine le_alloc ?_) | (with_reducible refine le_setCell ?_) | (with_reducible refine le_drew ?_) | (with_reducible refine le_drawsN ?_) | (dsimp only; with_reducible refine le_bel ?_) | (dsimp only; with_reducible refine Nat.le_refl _) | (dsimp only; with_reducible refine le_bel_add ?_) | (with_reducible assumption) | omega | (dsimp only; omega))))) (HI2.out.of (by (repeat' (first | (with_reducible exact Below.refl _ _) | (with_reducible exact Nat.le_refl _) | (with_reducible refine Below.bel ?_ ?_) | (with_reducible refine Below.alloc ?_ ?_ _) | (with_reducible refine Below.drew ?_) | (with_reducible refine Below.drawsN ?_ _) | (with_reducible refine Below.setCell ?_ ?_ _) | (with_reducible refine le_bel ?_) | (with_reducible refine le_alloc ?_) | (with_reducible refine le_setCell ?_) | (with_reducible refine le_drew ?_) | (with_reducible refine le_drawsN ?_) | (dsimp only; with_reducible refine le_bel ?_) | (dsimp only; with_reducible refine Nat.le_refl _) | (dsimp only; with_reducible refine le_bel_add ?_) | (with_reducible assumption) | omega | (dsimp only; omega))))))))
                refine wpQuiet_nil ?_
                rintro _ ⟨x, rfl⟩
                go_wp2
                go_roundw
                case rel => exact ⟨k + 1, by go_num, by omega, by rw [← HRR.out]; rfl, obj_bel x HF1.out, obj_bel x HF2.out, by (repeat' (first | (with_reducible exact Below.refl _ _) | (with_reducible exact Nat.le_refl _) | (with_reducible refine Below.bel ?_ ?_) | (with_reducible refine Below.alloc ?_ ?_ _) | (with_reducible refine Below.drew ?_) | (with_reducible refine Below.drawsN ?_ _) | (with_reducible refine Below.setCell ?_ ?_ _) | (with_reducible refine le_bel ?_) | (with_reducible refine le_alloc ?_) | (with_reducible refine le_setCell ?_) | (with_reducible refine le_drew ?_) | (with_reducible refine le_drawsN ?_) | (dsimp only; with_reducible refine le_bel ?_) | (dsimp only; with_reducible refine Nat.le_refl _) | (dsimp only; with_reducible refine le_bel_add ?_) | (with_reducible assumption) | omega | (dsimp only; omega)))⟩
                case measure => simp [intOf]; omega
            · have hke : k = tl.length := by omega
              subst hke
              have f0 : decide ((tl.length : Int) < (tl.length : Int)) = false := decide_eq_false (by omega)
              rw [List.drop_length, show ul.drop tl.length = [] by rw [H3.out, List.drop_length], eqL] at hr
              have HRR := Lib.hid hr
              clear hr hiW hiW'
              go_wp2
              go_ret
              exact Ret.mk (by rw [← HRR.out]; rfl) (by (repeat' (first | (with_reducible exact Below.refl _ _) | (with_reducible exact Nat.le_refl _) | (with_reducible refine Below.bel ?_ ?_) | (with_reducible refine Below.alloc ?_ ?_ _) | (with_reducible refine Below.drew ?_) | (with_reducible refine Below.drawsN ?_ _) | (with_reducible refine Below.setCell ?_ ?_ _) | (with_reducible refine le_bel ?_) | (with_reducible refine le_alloc ?_) | (with_reducible refine le_setCell ?_) | (with_reducible refine le_drew ?_) | (with_reducible refine le_drawsN ?_) | (dsimp only; with_reducible refine le_bel ?_) | (dsimp only; with_reducible refine Nat.le_refl _) | (dsimp only; with_reducible refine le_bel_add ?_) | (with_reducible assumption) | omega | (dsimp only; omega))))
        · have e3 : ((tl.length : Int) == (ul.length : Int)) = false := beq_eq_false_iff_ne.2 (by omega)
          rw [eqL_len h3]
          clear h3
          go_enter Tryz.func34, Tryz.ntmps34
          go_wp2
          go_ret
          exact Ret.mk (by rfl) (by (repeat' (first | (with_reducible exact Below.refl _ _) | (with_reducible exact Nat.le_refl _) | (with_reducible refine Below.bel ?_ ?_) | (with_reducible refine Below.alloc ?_ ?_ _) | (with_reducible refine Below.drew ?_) | (with_reducible refine Below.drawsN ?_ _) | (with_reducible refine Below.setCell ?_ ?_ _) | (with_reducible refine le_bel ?_) | (with_reducible refine le_alloc ?_) | (with_reducible refine le_setCell ?_) | (with_reducible refine le_drew ?_) | (with_reducible refine le_drawsN ?_) | (dsimp only; with_reducible refine le_bel ?_) | (dsimp only; with_reducible refine Nat.le_refl _) | (dsimp only; with_reducible refine le_bel_add ?_) | (with_reducible assumption) | omega | (dsimp only; omega))))
      · have e2 : (ta == ua) = false := beq_eq_false_iff_ne.2 h2
        rw [decide_eq_false h2, Bool.false_and]
        clear h2
        go_enter Tryz.func34, Tryz.ntmps34
        go_wp2
        go_ret
        exact Ret.mk (by rfl) (by (repeat' (first | (with_reducible exact Below.refl _ _) | (with_reducible exact Nat.le_refl _) | (with_reducible refine Below.bel ?_ ?_) | (with_reducible refine Below.alloc ?_ ?_ _) | (with_reducible refine Below.drew ?_) | (with_reducible refine Below.drawsN ?_ _) | (with_reducible refine Below.setCell ?_ ?_ _) | (with_reducible refine le_bel ?_) | (with_reducible refine le_alloc ?_) | (with_reducible refine le_setCell ?_) | (with_reducible refine le_drew ?_) | (with_reducible refine le_drawsN ?_) | (dsimp only; with_reducible refine le_bel ?_) | (dsimp only; with_reducible refine Nat.le_refl _) | (dsimp only; with_reducible refine le_bel_add ?_) | (with_reducible assumption) | omega | (dsimp only; omega))))
    · have e1b : (tk != uk) = true := bne_iff_ne.2 h1
      rw [decide_eq_false h1, Bool.false_and, Bool.false_and]
      clear h1
      go_enter Tryz.func34, Tryz.ntmps34
      go_wp2
      go_ret
      exact Ret.mk (by rfl) (by (repeat' (first | (with_reducible exact Below.refl _ _) | (with_reducible exact Nat.le_refl _) | (with_reducible refine Below.bel ?_ ?_) | (with_reducible refine Below.alloc ?_ ?_ _) | (with_reducible refine Below.drew ?_) | (with_reducible refine Below.drawsN ?_ _) | (with_reducible refine Below.setCell ?_ ?_ _) | (with_reducible refine le_bel ?_) | (with_reducible refine le_alloc ?_) | (with_reducible refine le_setCell ?_) | (with_reducible refine le_drew ?_) | (with_reducible refine le_drawsN ?_) | (dsimp only; with_reducible refine le_bel ?_) | (dsimp only; with_reducible refine Nat.le_refl _) | (dsimp only; with_reducible refine le_bel_add ?_) | (with_reducible assumption) | omega | (dsimp only; omega))))
set_option maxRecDepth 100000 in
set_option maxHeartbeats 6400000 in
theorem is_any (t u : F) (P P' : Nat → Prop) (ad ad' : Option Addr) (cap cap' : Nat) (w : World) (hi : InsF P w ad t.l) (hi' : InsF P' w ad' u.l) (hn : nodes t ≤ 100000000) (hn' : nodes u ≤ 100000000) :
    Calls Tryz.prog 11 #[.agg #[.int .i64 t.k, .int .i64 t.a, .slice ad t.l.length cap], .agg #[.int .i64 u.k, .int .i64 u.a, .slice ad' u.l.length cap']] w (Ret (.bool (eqF t u)) w) := by
  have HT := Lib.hid (fun w' (h : InsF P w' ad t.l) => Tree_any (nodes t) t (Nat.le_refl _) P ad cap w' h hn)
  have HS := Lib.hid (fun ad2 cap2 P2 w' (h : InsF P2 w' ad2 t.l) (h' : InsF P' w' ad' u.l) => Same_any (nodes t) t (Nat.le_refl _) u P2 P' ad2 ad' cap2 cap' w' h h' (by omega) (by omega))
  have HI := Lib.hid hi
  have HI' := Lib.hid hi'
  clear hi hi'
  go_enter Tryz.func11, Tryz.ntmps11
  go_wp2_with fail
  refine wp_region_plan 3 (.calm 0 (.calm 2 (.fork 1 .tail .none))) (by kernel_rfl) (by kernel_rfl) ?_
  simp only [Plan.walk, operAt, List.getElem?_cons_succ, List.getElem?_cons_zero, Option.getD_some, List.drop_succ_cons, List.drop_zero]
  repeat (refine wpX_calm (fun K hK => ?_); go_simp; first | (refine hK _ _ ?_; clear hK K) | (apply Exists.intro; refine ⟨fun _ => ?_, hK _ _ ?_⟩; (fail); clear hK K))
  refine wpX_only (fun K hK => ?_)
  go_simp
  intro x
  refine (HT.out _ (HI.out.of (by (repeat' (first | (with_reducible exact Below.refl _ _) | (with_reducible exact Nat.le_refl _) | (with_reducible refine Below.bel ?_ ?_) | (with_reducible refine Below.alloc ?_ ?_ _) | (with_reducible refine Below.drew ?_) | (with_reducible refine Below.drawsN ?_ _) | (with_reducible refine Below.setCell ?_ ?_ _) | (with_reducible refine le_bel ?_) | (with_reducible refine le_alloc ?_) | (with_reducible refine le_setCell ?_) | (with_reducible refine le_drew ?_) | (with_reducible refine le_drawsN ?_) | (dsimp only; with_reducible refine le_bel ?_) | (dsimp only; with_reducible refine Nat.le_refl _) | (dsimp only; with_reducible refine le_bel_add ?_) | (with_reducible assumption) | omega | (dsimp only; omega)))))).mono ?_
  rintro _ _ ⟨_, rfl, y, rfl, ad5, cap5, rfl, hi5⟩
  have HI5 := Lib.hid hi5
  clear hi5
  refine ⟨_, rfl, y.below, hK _ _ ?_⟩
  clear hK K
  repeat (refine wpX_calm (fun K hK => ?_); go_simp; first | (refine hK _ _ ?_; clear hK K) | (apply Exists.intro; refine ⟨fun _ => ?_, hK _ _ ?_⟩; (fail); clear hK K))
  refine wpX_tail ?_
  intro z
  go_wp2_with fail
  refine (HS.out _ _ _ _ (HI5.out.of (by (repeat' (first | (with_reducible exact Below.refl _ _) | (with_reducible exact Nat.le_refl _) | (with_reducible refine Below.bel ?_ ?_) | (with_reducible refine Below.alloc ?_ ?_ _) | (with_reducible refine Below.drew ?_) | (with_reducible refine Below.drawsN ?_ _) | (with_reducible refine Below.setCell ?_ ?_ _) | (with_reducible refine le_bel ?_) | (with_reducible refine le_alloc ?_) | (with_reducible refine le_setCell ?_) | (with_reducible refine le_drew ?_) | (with_reducible refine le_drawsN ?_) | (dsimp only; with_reducible refine le_bel ?_) | (dsimp only; with_reducible refine Nat.le_refl _) | (dsimp only; with_reducible refine le_bel_add ?_) | (with_reducible assumption) | omega | (dsimp only; omega))))) (HI'.out.of (by (repeat' (first | (with_reducible exact Below.refl _ _) | (with_reducible exact Nat.le_refl _) | (with_reducible refine Below.bel ?_ ?_) | (with_reducible refine Below.alloc ?_ ?_ _) | (with_reducible refine Below.drew ?_) | (with_reducible refine Below.drawsN ?_ _) | (with_reducible refine Below.setCell ?_ ?_ _) | (with_reducible refine le_bel ?_) | (with_reducible refine le_alloc ?_) | (with_reducible refine le_setCell ?_) | (with_reducible refine le_drew ?_) | (with_reducible refine le_drawsN ?_) | (dsimp only; with_reducible refine le_bel ?_) | (dsimp only; with_reducible refine Nat.le_refl _) | (dsimp only; with_reducible refine le_bel_add ?_) | (with_reducible assumption) | omega | (dsimp only; omega)))))).mono ?_
  rintro _ _ ⟨rfl, y2, rfl⟩
  dsimp only
  go_wp2
  go_ret
  exact Ret.mk (by rfl) (by (repeat' (first | (with_reducible exact Below.refl _ _) | (with_reducible exact Nat.le_refl _) | (with_reducible refine Below.bel ?_ ?_) | (with_reducible refine Below.alloc ?_ ?_ _) | (with_reducible refine Below.drew ?_) | (with_reducible refine Below.drawsN ?_ _) | (with_reducible refine Below.setCell ?_ ?_ _) | (with_reducible refine le_bel ?_) | (with_reducible refine le_alloc ?_) | (with_reducible refine le_setCell ?_) | (with_reducible refine le_drew ?_) | (with_reducible refine le_drawsN ?_) | (dsimp only; with_reducible refine le_bel ?_) | (dsimp only; with_reducible refine Nat.le_refl _) | (dsimp only; with_reducible refine le_bel_add ?_) | (with_reducible assumption) | omega | (dsimp only; omega))))
end Go.Proofs.YtkbellmhanpocaaGreatDoor

namespace Go.Proofs.YtkbellmhanpocaaGreatDoor
set_option linter.unusedVariables false
set_option linter.unusedSimpArgs false
open Go.RowKit F
attribute [local go_sem low] Bel.cell Bel.frozen alloc_cell alloc_frozen
attribute [local go_sem] calmOp chainOp yieldsC grows

theorem refConstant_any (b : Bool) (w : World) : Calls Tryz.prog 13 #[.bool b] w (RetF (cst b) w) := by
  cases b
  · go_enter Tryz.func13, Tryz.ntmps13
    go_wp2
    refine bodyPost_ret (v := .agg #[.int .i64 5, .int .i64 0, .slice none 0 0]) (by simp [results, Tryz.results13, go_sem]) rfl ⟨_, rfl, ⟨_, (Below.refl _ _).alloc (Nat.le_refl _) _⟩, rfl, none, 0, rfl, insF_nil _ _ _⟩
  · go_enter Tryz.func13, Tryz.ntmps13
    go_wp2
    refine bodyPost_ret (v := .agg #[.int .i64 6, .int .i64 0, .slice none 0 0]) (by simp [results, Tryz.results13, go_sem]) rfl ⟨_, rfl, ⟨_, (Below.refl _ _).alloc (Nat.le_refl _) _⟩, rfl, none, 0, rfl, insF_nil _ _ _⟩
end Go.Proofs.YtkbellmhanpocaaGreatDoor
