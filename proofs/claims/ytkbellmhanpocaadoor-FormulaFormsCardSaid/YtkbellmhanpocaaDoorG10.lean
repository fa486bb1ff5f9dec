/- Same, is, same. The reference's Constant, Inverse, Normal. -/
import Derived.Test.YtkbellmhanpocaaDoorG8
namespace Go.Proofs.YtkbellmhanpocaaDoor
set_option linter.unusedVariables false
set_option linter.unusedSimpArgs false
open Go.RowKit F
attribute [local go_sem low] Bel.cell Bel.frozen alloc_cell alloc_frozen
attribute [local go_sem] calmOp chainOp yieldsC grows

theorem eqF_parts (k a k' a' : Int) (l l' : List F) : eqF (nd k a l) (nd k' a' l') = (decide (k = k') && decide (a = a') && eqL l l') := by rw [eqF]
theorem eqL_len : ∀ {l m : List F}, l.length ≠ m.length → eqL l m = false
  | [], [], h => absurd rfl h
  | [], _ :: _, _ => by rw [eqL]
  | _ :: _, [], _ => by rw [eqL]
  | t :: r, u :: s, h => by rw [eqL, eqL_len (l := r) (m := s) (fun e => h (by simp [e])), Bool.and_false]
set_option maxRecDepth 100000 in
set_option maxHeartbeats 12800000 in
theorem Same_any : ∀ (N : Nat) (t : F), nodes t ≤ N → ∀ (t' : F) (P P' : Nat → Prop) (ad ad' : Option Addr) (cap cap' : Nat) (w : World), InsF P w ad t.l → InsF P' w ad' t'.l → nodes t ≤ 1000000000000 → nodes t' ≤ 1000000000000 →
    Calls Tryd.prog 40 #[.agg #[.int .i64 t.k, .int .i64 t.a, .slice ad t.l.length cap], .agg #[.int .i64 t'.k, .int .i64 t'.a, .slice ad' t'.l.length cap']] w (Ret (.bool (eqF t t')) w) := by
  intro N
  induction N with
  | zero => intro t h; have := nodes_pos t; omega
  | succ N ih =>
    intro t hN t' P P' ad ad' cap cap' w hi hi' hbig hbig'
    have HNL := Lib.hid (show nodesL t.l ≤ N by rw [nodes_l] at hN; omega)
    have HB := Lib.hid (show nodesL t.l ≤ 1000000000000 by rw [nodes_l] at hbig; omega)
    have HB' := Lib.hid (show nodesL t'.l ≤ 1000000000000 by rw [nodes_l] at hbig'; omega)
    have hlen : t.l.length ≤ 1000000000000 := Nat.le_trans (length_nodesL t.l) HB.out
    have hlen' : t'.l.length ≤ 1000000000000 := Nat.le_trans (length_nodesL t'.l) HB'.out
    have hlt : InsF (fun c => c < w.heap.size) w ad t.l := hi.imp fun b hb _ => hb
    have hlt' : InsF (fun c => c < w.heap.size) w ad' t'.l := hi'.imp fun b hb _ => hb
    clear hi hi' hN hbig hbig'
    obtain ⟨tk, ta, tl⟩ := t
    obtain ⟨uk, ua, ul⟩ := t'
    simp only [F.k, F.a, F.l] at HNL HB HB' hlen hlen' hlt hlt' ⊢
    rw [eqF_parts]
    by_cases h1 : tk = uk
    · subst h1
      rw [decide_eq_true rfl, Bool.true_and]
      by_cases h2 : ta = ua
      · subst h2
        rw [decide_eq_true rfl, Bool.true_and]
        by_cases h3 : tl.length = ul.length
        · rw [← h3]
          have H3 := Lib.hid h3
          clear h3
          obtain ⟨R, hR⟩ : ∃ R, eqL tl ul = R := ⟨_, rfl⟩
          rw [hR]
          have HR := Lib.hid hR
          clear hR
          go_enter Tryd.func40, Tryd.ntmps40
          go_wp2
          go_loopw [5] (fun i wr => ∃ k : Nat, i = .int .i64 (k : Int) ∧ k ≤ tl.length ∧ eqL (tl.drop k) (ul.drop k) = R ∧ wr.heap[w.heap.size]? = some (.cells #[.int .i64 tk, .int .i64 ta, .slice ad tl.length cap] 36 (0, 0)) ∧ wr.heap[w.heap.size + 1]? = some (.cells #[.int .i64 tk, .int .i64 ta, .slice ad' tl.length cap'] 36 (0, 0)) ∧ Below w.heap.size w wr) (fun i _ => tl.length - (intOf i).toNat)
          case atStart => exact ⟨0, rfl, by omega, by rw [← HR.out]; rfl, heap2_0 _ _ _, heap2_1 _ _ _, by (repeat' (first | (with_reducible exact Below.refl _ _) | (with_reducible exact Nat.le_refl _) | (with_reducible refine Below.bel ?_ ?_) | (with_reducible refine Below.alloc ?_ ?_ _) | (with_reducible refine Below.drew ?_) | (with_reducible refine Below.drawsN ?_ _) | (with_reducible refine Below.setCell ?_ ?_ _) | (with_reducible refine le_bel ?_) | (with_reducible refine le_alloc ?_) | (with_reducible refine le_setCell ?_) | (with_reducible refine le_drew ?_) | (with_reducible refine le_drawsN ?_) | (dsimp only; with_reducible refine le_bel ?_) | (dsimp only; with_reducible refine Nat.le_refl _) | (dsimp only; with_reducible refine le_bel_add ?_) | (with_reducible assumption) | omega | (dsimp only; omega)))⟩
          case round =>
            obtain ⟨k, rfl, hk, hr, hf1, hf2, hb⟩ := hrel
            have hiW := below_move hlt (fun _ h => h) hb
            have hiW' := below_move hlt' (fun _ h => h) hb
            obtain ⟨b0, b1, b2⟩ := box3 hf1
            obtain ⟨d0, d1, d2⟩ := box3 hf2
            have hbs := hb.size
            rcases Nat.lt_or_ge k tl.length with hkl | hkl
            · obtain ⟨u, hu⟩ := some_at hkl
              obtain ⟨v, hv⟩ := some_at (l := ul) (k := k) (by have := H3.out; omega)
              obtain ⟨bb, off, hadd, hp, hcs⟩ := insF_at hiW (by omega)
              cases hadd
              obtain ⟨bb', off', hadd, hp', hcs'⟩ := insF_at hiW' (by have := H3.out; omega)
              cases hadd
              obtain ⟨c0, c1, adu, capu, c2, hiu⟩ := cellF_open (hcs k u hu)
              obtain ⟨c0', c1', adv, capv, c2', hiv⟩ := cellF_open (hcs' k v hv)
              have f0 : decide ((k : Int) < (tl.length : Int)) = true := decide_eq_true (by omega)
              rw [drop_at hu, drop_at hv, eqL] at hr
              have HCC := Lib.hid (fun w' h1 h2 => ih u (Nat.le_trans (nodesL_mem (List.mem_of_getElem? hu)) HNL.out) v (fun c => c < w.heap.size) (fun c => c < w.heap.size) adu adv capu capv w' h1 h2 (Nat.le_trans (nodesL_mem (List.mem_of_getElem? hu)) HB.out) (Nat.le_trans (nodesL_mem (List.mem_of_getElem? hv)) HB'.out))
              have HI1 := Lib.hid hiu
              have HI2 := Lib.hid hiv
              have HF1 := Lib.hid hf1
              have HF2 := Lib.hid hf2
              clear hcs hcs' hiW hiW' hiu hiv hu hv hp hp' hf1 hf2
              obtain ⟨q, hq⟩ : ∃ q, eqF u v = q := ⟨_, rfl⟩
              rw [hq] at hr HCC
              have HRR := Lib.hid hr
              clear hq hr
              cases q
              · go_wp2_with fail
                refine wp_region_bel (by kernel_rfl) (by kernel_rfl) ?_
                repeat (go_big_quiet_step (with_reducible exact bel_of (HCC.out _ (HI1.out.of (by (repeat' (first | (with_reducible exact Below.refl _ _) | (with_reducible exact Nat.le_refl _) | (with_reducible refine Below.bel ?_ ?_) | (with_reducible refine Below.alloc ?_ ?_ _) | (with_reducible refine Below.drew ?_) | (with_reducible refine Below.drawsN ?_ _) | (with_reducible refine Below.setCell ?_ ?_ _) | (with_reducible refine le_bel ?_) | (with_reducible refine le_alloc ?_) | (with_reducible refine le_setCell ?_) | (with_reducible refine le_drew ?_) | (with_reducible refine le_drawsN ?_) | (dsimp only; with_reducible refine le_bel ?_) | (dsimp only; with_reducible refine Nat.le_refl _) | (dsimp only; with_reducible refine le_bel_add ?_) | (with_reducible assumption) | omega | (dsimp only; omega))))) (HI2.out.of (by (repeat' (first | (with_reducible exact Below.refl _ _) | (with_reducible exact Nat.le_refl _) | (with_reducible refine Below.bel ?_ ?_) | (with_reducible refine Below.alloc ?_ ?_ _) | (with_reducible refine Below.drew ?_) | (with_reducible refine Below.drawsN ?_ _) | (with_reducible refine Below.setCell ?_ ?_ _) | (with_reducible refine le_bel ?_) | (with_reducible refine le_alloc ?_) | (with_reducible refine le_setCell ?_) | (with_reducible refine le_drew ?_) | (with_reducible refine le_drawsN ?_) | (dsimp only; with_reducible refine le_bel ?_) | (dsimp only; with_reducible refine Nat.le_refl _) | (dsimp only; with_reducible refine le_bel_add ?_) | (with_reducible assumption) | omega | (dsimp only; omega))))))))
                refine wpQuiet_nil ?_
                rintro _ ⟨x, rfl⟩
                go_wp2
                go_ret
                exact Ret.mk (by rw [← HRR.out]; rfl) (by (repeat' (first | (with_reducible exact Below.refl _ _) | (with_reducible exact Nat.le_refl _) | (with_reducible refine Below.bel ?_ ?_) | (with_reducible refine Below.alloc ?_ ?_ _) | (with_reducible refine Below.drew ?_) | (with_reducible refine Below.drawsN ?_ _) | (with_reducible refine Below.setCell ?_ ?_ _) | (with_reducible refine le_bel ?_) | (with_reducible refine le_alloc ?_) | (with_reducible refine le_setCell ?_) | (with_reducible refine le_drew ?_) | (with_reducible refine le_drawsN ?_) | (dsimp only; with_reducible refine le_bel ?_) | (dsimp only; with_reducible refine Nat.le_refl _) | (dsimp only; with_reducible refine le_bel_add ?_) | (with_reducible assumption) | omega | (dsimp only; omega))))
              · go_wp2_with fail
                refine wp_region_bel (by kernel_rfl) (by kernel_rfl) ?_
                repeat (go_big_quiet_step (with_reducible exact bel_of (HCC.out _ (HI1.out.of (by (repeat' (first | (with_reducible exact Below.refl _ _) | (with_reducible exact Nat.le_refl _) | (with_reducible refine Below.bel ?_ ?_) | (with_reducible refine Below.alloc ?_ ?_ _) | (with_reducible refine Below.drew ?_) | (with_reducible refine Below.drawsN ?_ _) | (with_reducible refine Below.setCell ?_ ?_ _) | (with_reducible refine le_bel ?_) | (with_reducible refine le_alloc ?_) | (with_reducible refine le_setCell ?_) | (with_reducible refine le_drew ?_) | (with_reducible refine le_drawsN ?_) | (dsimp only; with_reducible refine le_bel ?_) | (dsimp only; with_reducible refine Nat.le_refl _) | (dsimp only; with_reducible refine le_bel_add ?_) | (with_reducible assumption) | omega | (dsimp only; omega))))) (HI2.out.of (by (repeat' (first | (with_reducible exact Below.refl _ _) | (with_reducible exact Nat.le_refl _) | (with_reducible refine Below.bel ?_ ?_) | (with_reducible refine Below.alloc ?_ ?_ _) | (with_reducible refine Below.drew ?_) | (with_reducible refine Below.drawsN ?_ _) | (with_reducible refine Below.setCell ?_ ?_ _) | (with_reducible refine le_bel ?_) | (with_reducible refine le_alloc ?_) | (with_reducible refine le_setCell ?_) | (with_reducible refine le_drew ?_) | (with_reducible refine le_drawsN ?_) | (dsimp only; with_reducible refine le_bel ?_) | (dsimp only; with_reducible refine Nat.le_refl _) | (dsimp only; with_reducible refine le_bel_add ?_) | (with_reducible assumption) | omega | (dsimp only; omega))))))))
                refine wpQuiet_nil ?_
                rintro _ ⟨x, rfl⟩
                go_wp2
                go_roundw
                case rel => exact ⟨k + 1, by go_num, by omega, by rw [← HRR.out]; rfl, obj_bel x HF1.out, obj_bel x HF2.out, by (repeat' (first | (with_reducible exact Below.refl _ _) | (with_reducible exact Nat.le_refl _) | (with_reducible refine Below.bel ?_ ?_) | (with_reducible refine Below.alloc ?_ ?_ _) | (with_reducible refine Below.drew ?_) | (with_reducible refine Below.drawsN ?_ _) | (with_reducible refine Below.setCell ?_ ?_ _) | (with_reducible refine le_bel ?_) | (with_reducible refine le_alloc ?_) | (with_reducible refine le_setCell ?_) | (with_reducible refine le_drew ?_) | (with_reducible refine le_drawsN ?_) | (dsimp only; with_reducible refine le_bel ?_) | (dsimp only; with_reducible refine Nat.le_refl _) | (dsimp only; with_reducible refine le_bel_add ?_) | (with_reducible assumption) | omega | (dsimp only; omega)))⟩
                case measure => simp [intOf]; omega
            · have hke : k = tl.length := by omega
              subst hke
              have f0 : decide ((tl.length : Int) < (tl.length : Int)) = false := decide_eq_false (by omega)
              rw [List.drop_length, show ul.drop tl.length = [] by rw [H3.out, List.drop_length], eqL] at hr
              have HRR := Lib.hid hr
              clear hr hiW hiW'
              go_wp2
              go_ret
              exact Ret.mk (by rw [← HRR.out]; rfl) (by (repeat' (first | (with_reducible exact Below.refl _ _) | (with_reducible exact Nat.le_refl _) | (with_reducible refine Below.bel ?_ ?_) | (with_reducible refine Below.alloc ?_ ?_ _) | (with_reducible refine Below.drew ?_) | (with_reducible refine Below.drawsN ?_ _) | (with_reducible refine Below.setCell ?_ ?_ _) | (with_reducible refine le_bel ?_) | (with_reducible refine le_alloc ?_) | (with_reducible refine le_setCell ?_) | (with_reducible refine le_drew ?_) | (with_reducible refine le_drawsN ?_) | (dsimp only; with_reducible refine le_bel ?_) | (dsimp only; with_reducible refine Nat.le_refl _) | (dsimp only; with_reducible refine le_bel_add ?_) | (with_reducible assumption) | omega | (dsimp only; omega))))
        · have e3 : ((tl.length : Int) == (ul.length : Int)) = false := beq_eq_false_iff_ne.2 (by omega)
          rw [eqL_len h3]
          clear h3
          go_enter Tryd.func40, Tryd.ntmps40
          go_wp2
          go_ret
          exact Ret.mk (by rfl) (by (repeat' (first | (with_reducible exact Below.refl _ _) | (with_reducible exact Nat.le_refl _) | (with_reducible refine Below.bel ?_ ?_) | (with_reducible refine Below.alloc ?_ ?_ _) | (with_reducible refine Below.drew ?_) | (with_reducible refine Below.drawsN ?_ _) | (with_reducible refine Below.setCell ?_ ?_ _) | (with_reducible refine le_bel ?_) | (with_reducible refine le_alloc ?_) | (with_reducible refine le_setCell ?_) | (with_reducible refine le_drew ?_) | (with_reducible refine le_drawsN ?_) | (dsimp only; with_reducible refine le_bel ?_) | (dsimp only; with_reducible refine Nat.le_refl _) | (dsimp only; with_reducible refine le_bel_add ?_) | (with_reducible assumption) | omega | (dsimp only; omega))))
      · have e2 : (ta == ua) = false := beq_eq_false_iff_ne.2 h2
        rw [decide_eq_false h2, Bool.false_and]
        clear h2
        go_enter Tryd.func40, Tryd.ntmps40
        go_wp2
        go_ret
        exact Ret.mk (by rfl) (by (repeat' (first | (with_reducible exact Below.refl _ _) | (with_reducible exact Nat.le_refl _) | (with_reducible refine Below.bel ?_ ?_) | (with_reducible refine Below.alloc ?_ ?_ _) | (with_reducible refine Below.drew ?_) | (with_reducible refine Below.drawsN ?_ _) | (with_reducible refine Below.setCell ?_ ?_ _) | (with_reducible refine le_bel ?_) | (with_reducible refine le_alloc ?_) | (with_reducible refine le_setCell ?_) | (with_reducible refine le_drew ?_) | (with_reducible refine le_drawsN ?_) | (dsimp only; with_reducible refine le_bel ?_) | (dsimp only; with_reducible refine Nat.le_refl _) | (dsimp only; with_reducible refine le_bel_add ?_) | (with_reducible assumption) | omega | (dsimp only; omega))))
    · have e1b : (tk != uk) = true := bne_iff_ne.2 h1
      rw [decide_eq_false h1, Bool.false_and, Bool.false_and]
      clear h1
      go_enter Tryd.func40, Tryd.ntmps40
      go_wp2
      go_ret
      exact Ret.mk (by rfl) (by (repeat' (first | (with_reducible exact Below.refl _ _) | (with_reducible exact Nat.le_refl _) | (with_reducible refine Below.bel ?_ ?_) | (with_reducible refine Below.alloc ?_ ?_ _) | (with_reducible refine Below.drew ?_) | (with_reducible refine Below.drawsN ?_ _) | (with_reducible refine Below.setCell ?_ ?_ _) | (with_reducible refine le_bel ?_) | (with_reducible refine le_alloc ?_) | (with_reducible refine le_setCell ?_) | (with_reducible refine le_drew ?_) | (with_reducible refine le_drawsN ?_) | (dsimp only; with_reducible refine le_bel ?_) | (dsimp only; with_reducible refine Nat.le_refl _) | (dsimp only; with_reducible refine le_bel_add ?_) | (with_reducible assumption) | omega | (dsimp only; omega))))
set_option maxRecDepth 100000 in
set_option maxHeartbeats 6400000 in
theorem is_any (t u : F) (P P' : Nat → Prop) (ad ad' : Option Addr) (cap cap' : Nat) (w : World) (hi : InsF P w ad t.l) (hi' : InsF P' w ad' u.l) (hn : nodes t ≤ 100000000) (hn' : nodes u ≤ 100000000) :
    Calls Tryd.prog 15 #[.agg #[.int .i64 t.k, .int .i64 t.a, .slice ad t.l.length cap], .agg #[.int .i64 u.k, .int .i64 u.a, .slice ad' u.l.length cap']] w (Ret (.bool (eqF t u)) w) := by
  have HT := Lib.hid (fun w' (h : InsF P w' ad t.l) => Tree_any (nodes t) t (Nat.le_refl _) P ad cap w' h hn)
  have HS := Lib.hid (fun ad2 cap2 P2 w' (h : InsF P2 w' ad2 t.l) (h' : InsF P' w' ad' u.l) => Same_any (nodes t) t (Nat.le_refl _) u P2 P' ad2 ad' cap2 cap' w' h h' (by omega) (by omega))
  have HI := Lib.hid hi
  have HI' := Lib.hid hi'
  clear hi hi'
  go_enter Tryd.func15, Tryd.ntmps15
  go_wp2_with fail
  refine wp_region_plan 3 (.calm 0 (.calm 2 (.fork 1 .tail .none))) (by kernel_rfl) (by kernel_rfl) ?_
  simp only [Plan.walk, operAt, List.getElem?_cons_succ, List.getElem?_cons_zero, Option.getD_some, List.drop_succ_cons, List.drop_zero]
  repeat (refine wpX_calm (fun K hK => ?_); go_simp; first | (refine hK _ _ ?_; clear hK K) | (apply Exists.intro; refine ⟨fun _ => ?_, hK _ _ ?_⟩; (fail); clear hK K))
  refine wpX_only (fun K hK => ?_)
  go_simp
  intro x
  refine (HT.out _ (HI.out.of (by (repeat' (first | (with_reducible exact Below.refl _ _) | (with_reducible exact Nat.le_refl _) | (with_reducible refine Below.bel ?_ ?_) | (with_reducible refine Below.alloc ?_ ?_ _) | (with_reducible refine Below.drew ?_) | (with_reducible refine Below.drawsN ?_ _) | (with_reducible refine Below.setCell ?_ ?_ _) | (with_reducible refine le_bel ?_) | (with_reducible refine le_alloc ?_) | (with_reducible refine le_setCell ?_) | (with_reducible refine le_drew ?_) | (with_reducible refine le_drawsN ?_) | (dsimp only; with_reducible refine le_bel ?_) | (dsimp only; with_reducible refine Nat.le_refl _) | (dsimp only; with_reducible refine le_bel_add ?_) | (with_reducible assumption) | omega | (dsimp only; omega)))))).mono ?_
  rintro _ _ ⟨_, rfl, y, rfl, ad5, cap5, rfl, hi5⟩
  have HI5 := Lib.hid hi5
  clear hi5
  refine ⟨_, rfl, y.below, hK _ _ ?_⟩
  clear hK K
  repeat (refine wpX_calm (fun K hK => ?_); go_simp; first | (refine hK _ _ ?_; clear hK K) | (apply Exists.intro; refine ⟨fun _ => ?_, hK _ _ ?_⟩; (fail); clear hK K))
  refine wpX_tail ?_
  intro z
  go_wp2_with fail
  refine (HS.out _ _ _ _ (HI5.out.of (by (repeat' (first | (with_reducible exact Below.refl _ _) | (with_reducible exact Nat.le_refl _) | (with_reducible refine Below.bel ?_ ?_) | (with_reducible refine Below.alloc ?_ ?_ _) | (with_reducible refine Below.drew ?_) | (with_reducible refine Below.drawsN ?_ _) | (with_reducible refine Below.setCell ?_ ?_ _) | (with_reducible refine le_bel ?_) | (with_reducible refine le_alloc ?_) | (with_reducible refine le_setCell ?_) | (with_reducible refine le_drew ?_) | (with_reducible refine le_drawsN ?_) | (dsimp only; with_reducible refine le_bel ?_) | (dsimp only; with_reducible refine Nat.le_refl _) | (dsimp only; with_reducible refine le_bel_add ?_) | (with_reducible assumption) | omega | (dsimp only; omega))))) (HI'.out.of (by (repeat' (first | (with_reducible exact Below.refl _ _) | (with_reducible exact Nat.le_refl _) | (with_reducible refine Below.bel ?_ ?_) | (with_reducible refine Below.alloc ?_ ?_ _) | (with_reducible refine Below.drew ?_) | (with_reducible refine Below.drawsN ?_ _) | (with_reducible refine Below.setCell ?_ ?_ _) | (with_reducible refine le_bel ?_) | (with_reducible refine le_alloc ?_) | (with_reducible refine le_setCell ?_) | (with_reducible refine le_drew ?_) | (with_reducible refine le_drawsN ?_) | (dsimp only; with_reducible refine le_bel ?_) | (dsimp only; with_reducible refine Nat.le_refl _) | (dsimp only; with_reducible refine le_bel_add ?_) | (with_reducible assumption) | omega | (dsimp only; omega)))))).mono ?_
  rintro _ _ ⟨rfl, y2, rfl⟩
  dsimp only
  go_wp2
  go_ret
  exact Ret.mk (by rfl) (by (repeat' (first | (with_reducible exact Below.refl _ _) | (with_reducible exact Nat.le_refl _) | (with_reducible refine Below.bel ?_ ?_) | (with_reducible refine Below.alloc ?_ ?_ _) | (with_reducible refine Below.drew ?_) | (with_reducible refine Below.drawsN ?_ _) | (with_reducible refine Below.setCell ?_ ?_ _) | (with_reducible refine le_bel ?_) | (with_reducible refine le_alloc ?_) | (with_reducible refine le_setCell ?_) | (with_reducible refine le_drew ?_) | (with_reducible refine le_drawsN ?_) | (dsimp only; with_reducible refine le_bel ?_) | (dsimp only; with_reducible refine Nat.le_refl _) | (dsimp only; with_reducible refine le_bel_add ?_) | (with_reducible assumption) | omega | (dsimp only; omega))))
end Go.Proofs.YtkbellmhanpocaaDoor

namespace Go.Proofs.YtkbellmhanpocaaDoor
set_option linter.unusedVariables false
set_option linter.unusedSimpArgs false
open Go.RowKit F
attribute [local go_sem low] Bel.cell Bel.frozen alloc_cell alloc_frozen
attribute [local go_sem] calmOp chainOp yieldsC grows

theorem refConstant_any (b : Bool) (w : World) : Calls Tryd.prog 42 #[.bool b] w (RetF (cst b) w) := by
  cases b
  · go_enter Tryd.func42, Tryd.ntmps42
    go_wp2
    refine bodyPost_ret (v := .agg #[.int .i64 5, .int .i64 0, .slice none 0 0]) (by simp [results, Tryd.results42, go_sem]) rfl ⟨_, rfl, ⟨_, (Below.refl _ _).alloc (Nat.le_refl _) _⟩, rfl, none, 0, rfl, insF_nil _ _ _⟩
  · go_enter Tryd.func42, Tryd.ntmps42
    go_wp2
    refine bodyPost_ret (v := .agg #[.int .i64 6, .int .i64 0, .slice none 0 0]) (by simp [results, Tryd.results42, go_sem]) rfl ⟨_, rfl, ⟨_, (Below.refl _ _).alloc (Nat.le_refl _) _⟩, rfl, none, 0, rfl, insF_nil _ _ _⟩
/-- A tree under a negation: its inputs lie where they lay. -/
def RetI (P : Nat → Prop) (t : F) (w : World) (e : Ending) (w' : World) : Prop := ∃ g, w.heap.size ≤ g ∧ e = .returned (.agg #[.int .i64 2, .int .i64 0, .slice (some ⟨g, 0, none⟩) 1 1]) ∧ ∃ y : Bel w, w' = y.w ∧ InsF (fun b => w.heap.size ≤ b ∨ P b) y.w (some ⟨g, 0, none⟩) [t]
set_option maxRecDepth 100000 in
set_option maxHeartbeats 3200000 in
theorem Inverse_any (P : Nat → Prop) (t : F) (ad : Option Addr) (cap : Nat) (w : World) (hi : InsF P w ad t.l) : Calls Tryd.prog 41 #[.agg #[.int .i64 t.k, .int .i64 t.a, .slice ad t.l.length cap]] w (RetI P t w) := by
  have HI := Lib.hid hi
  clear hi
  go_enter Tryd.func41, Tryd.ntmps41
  go_wp2
  have hA := heap3_2 w (.cells #[.int .i64 t.k, .int .i64 t.a, .slice ad t.l.length cap] 36) (.cells #[.int .i64 2, .int .i64 0, .slice (some ⟨w.heap.size + 1 + 1, 0, none⟩) 1 1] 36) (.cells #[.int .i64 t.k, .int .i64 t.a, .slice ad t.l.length cap] 36)
  obtain ⟨s0, s1, s2⟩ := box3 hA
  have HIz := HI.out.of (w' := ((w.alloc (.cells #[.int .i64 t.k, .int .i64 t.a, .slice ad t.l.length cap] 36)).alloc (.cells #[.int .i64 2, .int .i64 0, .slice (some ⟨w.heap.size + 1 + 1, 0, none⟩) 1 1] 36)).alloc (.cells #[.int .i64 t.k, .int .i64 t.a, .slice ad t.l.length cap] 36)) (by (repeat' (first | (with_reducible exact Below.refl _ _) | (with_reducible exact Nat.le_refl _) | (with_reducible refine Below.bel ?_ ?_) | (with_reducible refine Below.alloc ?_ ?_ _) | (with_reducible refine Below.drew ?_) | (with_reducible refine Below.drawsN ?_ _) | (with_reducible refine Below.setCell ?_ ?_ _) | (with_reducible refine le_bel ?_) | (with_reducible refine le_alloc ?_) | (with_reducible refine le_setCell ?_) | (with_reducible refine le_drew ?_) | (with_reducible refine le_drawsN ?_) | (dsimp only; with_reducible refine le_bel ?_) | (dsimp only; with_reducible refine Nat.le_refl _) | (dsimp only; with_reducible refine le_bel_add ?_) | (with_reducible assumption) | omega | (dsimp only; omega))))
  refine bodyPost_ret (v := .agg #[.int .i64 2, .int .i64 0, .slice (some ⟨w.heap.size + 1 + 1, 0, none⟩) 1 1]) (by simp [results, Tryd.results41, go_sem]) rfl ⟨w.heap.size + 1 + 1, by omega, rfl, ⟨_, ?_⟩, rfl, insF_mk (.inl (by omega)) fun j u hj => ?_⟩
  · exact (((Below.refl _ w).alloc (Nat.le_refl _) _).alloc (by simp) _).alloc (by simp; omega) _
  · match j, hj with
    | 0, hj =>
      injection hj with hj
      subst hj
      exact cellF_mk (ad := ad) (cap := cap) s0 s1 s2 (HIz.imp fun _ _ h => .inr h)
set_option maxRecDepth 100000 in
set_option maxHeartbeats 12800000 in
theorem refNormal_any : ∀ (N : Nat) (t : F), nodes t ≤ N → okT t → ∀ (g : Bool) (P : Nat → Prop) (ad : Option Addr) (cap : Nat) (w : World), InsF P w ad t.l → nodes t ≤ 100000000 →
    Calls Tryd.prog 16 #[.agg #[.int .i64 t.k, .int .i64 t.a, .slice ad t.l.length cap], .bool g] w (RetF (nrm t g) w) := by
  obtain ⟨i0, hi0, hz0, hz1, hz2⟩ := info_parts Tryd.infoT
  intro N
  induction N with
  | zero => intro t h; have := nodes_pos t; omega
  | succ N ih =>
    intro t hN hok g P ad cap w hi hbig
    have HNL := Lib.hid (show nodesL t.l ≤ N by rw [nodes_l] at hN; omega)
    have HBIG := Lib.hid (show nodesL t.l ≤ 100000000 by rw [nodes_l] at hbig; omega)
    have hlen : t.l.length ≤ 100000000 := Nat.le_trans (length_nodesL t.l) HBIG.out
    have hlt : InsF (fun c => c < w.heap.size) w ad t.l := hi.imp fun b hb _ => hb
    have HOKL := Lib.hid (okT_l hok)
    clear hi hN hbig
    obtain ⟨tk, ta, tl⟩ := t
    simp only [F.k, F.a, F.l] at HNL HBIG hlen hlt HOKL ⊢
    rcases single_cases hok.1 with ⟨rfl, h1, h2, rfl⟩ | ⟨rfl, rfl, t, rfl⟩ | ⟨hk, rfl, hl⟩ | ⟨hk, rfl, rfl⟩
    · rw [nrm, if_pos rfl]
      cases g
      · go_enter Tryd.func16, Tryd.ntmps16
        go_wp2
        refine bodyPost_ret (v := .agg #[.int .i64 1, .int .i64 ta, .slice ad 0 cap]) (by simp [results, Tryd.results16, go_sem]) rfl (RetF.mk ad cap rfl (by (repeat' (first | (with_reducible exact Below.refl _ _) | (with_reducible exact Nat.le_refl _) | (with_reducible refine Below.bel ?_ ?_) | (with_reducible refine Below.alloc ?_ ?_ _) | (with_reducible refine Below.drew ?_) | (with_reducible refine Below.drawsN ?_ _) | (with_reducible refine Below.setCell ?_ ?_ _) | (with_reducible refine le_bel ?_) | (with_reducible refine le_alloc ?_) | (with_reducible refine le_setCell ?_) | (with_reducible refine le_drew ?_) | (with_reducible refine le_drawsN ?_) | (dsimp only; with_reducible refine le_bel ?_) | (dsimp only; with_reducible refine Nat.le_refl _) | (dsimp only; with_reducible refine le_bel_add ?_) | (with_reducible assumption) | omega | (dsimp only; omega)))) (insF_nil _ _ _))
      · have HC := Lib.hid (fun w' => Inverse_any (fun c => c < w.heap.size) (nd 1 ta []) ad cap w' (insF_nil _ _ _))
        simp only [F.k, F.a, F.l] at HC
        go_enter Tryd.func16, Tryd.ntmps16
        go_wp2_with fail
        refine (HC.out _).mono ?_
        rintro _ _ ⟨g5, hg5s, rfl, y, rfl, hi5⟩
        simp at hg5s
        have HI5 := Lib.hid hi5
        clear hi5
        have hres := obj_bel y (heap2_1 w (.cells #[.int .i64 1, .int .i64 ta, .slice ad 0 cap] 36) (.cells #[.int .i64 0, .int .i64 0, .slice none 0 0] 36))
        obtain ⟨r0, r1, r2⟩ := box3 hres
        obtain ⟨g0, g1, g2⟩ := box3f hres
        have hys := y.size_le
        simp at hys
        dsimp only
        go_wp2
        have hR := obj_set3 (.int .i64 2) (.int .i64 0) (.slice (some ⟨g5, 0, none⟩) 1 1) hres
        obtain ⟨q0, q1, q2⟩ := box3 hR
        obtain ⟨bb, off, hadd, hp, hcs⟩ := insF_at HI5.out (by simp)
        cases hadd
        obtain ⟨s0, s1, ad6, cap6, s2, _⟩ := cellF_open (hcs 0 _ rfl)
        have hg5 : g5 ≠ w.heap.size + 1 := fun e => by omega
        have hmv : ∀ (o : Nat) (z : Value), y.w.cell? ⟨g5, o, none⟩ = some z → (((y.w.setCell ⟨w.heap.size + 1, 0, none⟩ (.int .i64 2)).setCell ⟨w.heap.size + 1, 1, none⟩ (.int .i64 0)).setCell ⟨w.heap.size + 1, 2, none⟩ (.slice (some ⟨g5, 0, none⟩) 1 1)).cell? ⟨g5, o, none⟩ = some z := fun o z hz => by
          rw [World.cell?_of_block (Below.heap_setCell _ _ _ g5 (fun e => hg5 (by first | exact e | exact e.symm))), World.cell?_of_block (Below.heap_setCell _ _ _ g5 (fun e => hg5 (by first | exact e | exact e.symm))), World.cell?_of_block (Below.heap_setCell _ _ _ g5 (fun e => hg5 (by first | exact e | exact e.symm)))]
          exact hz
        refine bodyPost_ret (v := .agg #[.int .i64 2, .int .i64 0, .slice (some ⟨g5, 0, none⟩) 1 1]) (by simp [results, Tryd.results16, go_sem, q0, q1, q2]) rfl (RetF.mk (some ⟨g5, 0, none⟩) 1 rfl (by (repeat' (first | (with_reducible exact Below.refl _ _) | (with_reducible exact Nat.le_refl _) | (with_reducible refine Below.bel ?_ ?_) | (with_reducible refine Below.alloc ?_ ?_ _) | (with_reducible refine Below.drew ?_) | (with_reducible refine Below.drawsN ?_ _) | (with_reducible refine Below.setCell ?_ ?_ _) | (with_reducible refine le_bel ?_) | (with_reducible refine le_alloc ?_) | (with_reducible refine le_setCell ?_) | (with_reducible refine le_drew ?_) | (with_reducible refine le_drawsN ?_) | (dsimp only; with_reducible refine le_bel ?_) | (dsimp only; with_reducible refine Nat.le_refl _) | (dsimp only; with_reducible refine le_bel_add ?_) | (with_reducible assumption) | omega | (dsimp only; omega)))) (insF_mk ?_ fun j u hj => ?_))
        · omega
        · match j, hj with
          | 0, hj =>
            injection hj with hj
            subst hj
            exact cellF_mk (ad := ad6) (cap := cap6) (hmv _ _ s0) (hmv _ _ s1) (hmv _ _ s2) (insF_nil _ _ _)
    · -- Not
      obtain ⟨bb, off, rfl, hp, hcs⟩ := insF_at hlt (by simp)
      obtain ⟨c0, c1, ad', cap', c2, hiu⟩ := cellF_open (hcs 0 t rfl)
      rw [Nat.zero_mul, Nat.add_zero] at c0 c1 c2
      rw [nrm, if_neg (by decide), if_pos rfl, nrmH]
      have HI := Lib.hid (fun w' (hiu : InsF (fun c => c < w.heap.size) w' ad' t.l) => ih t (by have := HNL.out; rw [nodesL] at this; omega) HOKL.out.1 (!g) _ ad' cap' w' hiu (by have := HBIG.out; rw [nodesL] at this; omega))
      have HU := Lib.hid hiu
      clear hiu hcs hlt
      generalize nrm t (!g) = R at *
      go_enter Tryd.func16, Tryd.ntmps16
      go_wp2_with fail
      refine (HI.out _ (HU.out.of (by (repeat' (first | (with_reducible exact Below.refl _ _) | (with_reducible exact Nat.le_refl _) | (with_reducible refine Below.bel ?_ ?_) | (with_reducible refine Below.alloc ?_ ?_ _) | (with_reducible refine Below.drew ?_) | (with_reducible refine Below.drawsN ?_ _) | (with_reducible refine Below.setCell ?_ ?_ _) | (with_reducible refine le_bel ?_) | (with_reducible refine le_alloc ?_) | (with_reducible refine le_setCell ?_) | (with_reducible refine le_drew ?_) | (with_reducible refine le_drawsN ?_) | (dsimp only; with_reducible refine le_bel ?_) | (dsimp only; with_reducible refine Nat.le_refl _) | (dsimp only; with_reducible refine le_bel_add ?_) | (with_reducible assumption) | omega | (dsimp only; omega)))))).mono ?_
      rintro _ _ ⟨_, rfl, y, rfl, ad5, cap5, rfl, hi5⟩
      have HI5 := Lib.hid hi5
      clear hi5
      have hres := obj_bel y (heap2_1 w (.cells #[.int .i64 2, .int .i64 0, .slice (some ⟨bb, off, none⟩) 1 cap] 36) (.cells #[.int .i64 0, .int .i64 0, .slice none 0 0] 36))
      obtain ⟨r0, r1, r2⟩ := box3 hres
      obtain ⟨g0, g1, g2⟩ := box3f hres
      have hys := y.size_le
      simp at hys
      dsimp only
      go_wp2
      have hR := obj_set3 (.int .i64 R.k) (.int .i64 R.a) (.slice ad5 R.l.length cap5) hres
      obtain ⟨q0, q1, q2⟩ := box3 hR
      refine bodyPost_ret (v := .agg #[.int .i64 R.k, .int .i64 R.a, .slice ad5 R.l.length cap5]) (by simp [results, Tryd.results16, go_sem, F.k, F.a, F.l, q0, q1, q2]) rfl (RetF.mk ad5 cap5 rfl (by (repeat' (first | (with_reducible exact Below.refl _ _) | (with_reducible exact Nat.le_refl _) | (with_reducible refine Below.bel ?_ ?_) | (with_reducible refine Below.alloc ?_ ?_ _) | (with_reducible refine Below.drew ?_) | (with_reducible refine Below.drawsN ?_ _) | (with_reducible refine Below.setCell ?_ ?_ _) | (with_reducible refine le_bel ?_) | (with_reducible refine le_alloc ?_) | (with_reducible refine le_setCell ?_) | (with_reducible refine le_drew ?_) | (with_reducible refine le_drawsN ?_) | (dsimp only; with_reducible refine le_bel ?_) | (dsimp only; with_reducible refine Nat.le_refl _) | (dsimp only; with_reducible refine le_bel_add ?_) | (with_reducible assumption) | omega | (dsimp only; omega)))) ?_)
      have HIz := HI5.out.move (w' := ((y.w.setCell ⟨w.heap.size + 1, 0, none⟩ (.int .i64 R.k)).setCell ⟨w.heap.size + 1, 1, none⟩ (.int .i64 R.a)).setCell ⟨w.heap.size + 1, 2, none⟩ (.slice ad5 R.l.length cap5)) (fun c o u hc hu => by
        rw [World.cell?_of_block (Below.heap_setCell _ _ _ c (fun e => by have e : c = w.heap.size + 1 := e; simp at hc; omega)), World.cell?_of_block (Below.heap_setCell _ _ _ c (fun e => by have e : c = w.heap.size + 1 := e; simp at hc; omega)), World.cell?_of_block (Below.heap_setCell _ _ _ c (fun e => by have e : c = w.heap.size + 1 := e; simp at hc; omega))]
        exact hu) (fun b _ h => h)
      exact HIz.imp fun b _ h => by simp at h; omega
    · -- And, Or
      rw [nrm, if_neg (by omega), if_neg (by omega), if_neg (by omega), nrmL_map]
      rcases hk with rfl | rfl
      · cases g
        · have HC := Lib.hid (fun u (hu : u ∈ tl) ad' cap' w' (hiu : InsF (fun c => c < w.heap.size) w' ad' u.l) => ih u (Nat.le_trans (nodesL_mem hu) HNL.out) (okL_mem HOKL.out hu) false _ ad' cap' w' hiu (Nat.le_trans (nodesL_mem hu) HBIG.out))
          go_enter Tryd.func16, Tryd.ntmps16
          go_wp2
          go_loopw [6] (fun i wr => ∃ (k : Nat) (v : Value), i = .int .i64 (k : Int) ∧ k ≤ tl.length ∧ AppSt w wr 36 (w.heap.size + 3) (w.heap.size + 2) (w.heap.size + 1) w.heap.size 3 0 v ((tl.take k).map (fun t => nrm t false))
            (.cells #[.int .i64 0, .int .i64 0, .slice none 0 0] 36 (0, 0)) (.cells #[.int .i64 3, .int .i64 0, .slice ad tl.length cap] 36 (0, 0))) (fun i _ => tl.length - (intOf i).toNat)
          case atStart => exact ⟨0, .slice none 0 0, rfl, by omega, ownF_nil _ _ _, heap3_2 _ _ _ _, heap3_1 _ _ _ _, heap3_0 _ _ _ _, by (repeat' (first | (with_reducible exact Below.refl _ _) | (with_reducible exact Nat.le_refl _) | (with_reducible refine Below.bel ?_ ?_) | (with_reducible refine Below.alloc ?_ ?_ _) | (with_reducible refine Below.drew ?_) | (with_reducible refine Below.drawsN ?_ _) | (with_reducible refine Below.setCell ?_ ?_ _) | (with_reducible refine le_bel ?_) | (with_reducible refine le_alloc ?_) | (with_reducible refine le_setCell ?_) | (with_reducible refine le_drew ?_) | (with_reducible refine le_drawsN ?_) | (dsimp only; with_reducible refine le_bel ?_) | (dsimp only; with_reducible refine Nat.le_refl _) | (dsimp only; with_reducible refine le_bel_add ?_) | (with_reducible assumption) | omega | (dsimp only; omega))), by simp⟩
          case round =>
            obtain ⟨k, v, rfl, hk, hst⟩ := hrel
            have HST := Lib.hid hst
            obtain ⟨hown, hbox, hres, hfb, hb, hsz⟩ := hst
            have hiW := below_move hlt (fun _ h => h) hb
            obtain ⟨b0, b1, b2⟩ := box3 hbox
            obtain ⟨fb0, fb1, fb2⟩ := box3 hfb
            obtain ⟨va, vc, rfl⟩ := ownF_val hown
            have htk : ((tl.take k).map (fun t => nrm t false)).length = k := by rw [List.length_map, List.length_take]; omega
            rw [htk] at hown hbox b2
            rcases Nat.lt_or_ge k tl.length with hkl | hkl
            · obtain ⟨u, hu⟩ := some_at hkl
              obtain ⟨bb, off, hadd, hp, hcs⟩ := insF_at hiW (by omega)
              cases hadd
              obtain ⟨c0, c1, ad', cap', c2, hiu⟩ := cellF_open (hcs k u hu)
              have f0 : decide ((k : Int) < (tl.length : Int)) = true := decide_eq_true (by omega)
              have HCU := HC.out u (List.mem_of_getElem? hu) ad' cap'
              obtain ⟨fu, hfu⟩ : ∃ fu, (nrm u false) = fu := ⟨_, rfl⟩
              rw [hfu] at HCU
              have HTK := Lib.hid (show (tl.take (k + 1)).map (fun t => nrm t false) = (tl.take k).map (fun t => nrm t false) ++ [fu] by rw [List.take_add_one, hu, List.map_append, ← hfu]; rfl)
              have HCC := Lib.hid HCU
              have HI := Lib.hid hiu
              have HO := Lib.hid hown
              have HL := Lib.hid htk
              clear hcs hiW hiu hown htk hu HCU hfu hp
              go_wp2_with fail
              refine wp_region_plan 10 (.calm 0 (.calm 1 (.calm 2 (.calm 3 (.calm 4 (.calm 5 (.calm 6 (.calm 7 (.fork 8 (.fork 9 .tail .none) .none))))))))) (by kernel_rfl) (by kernel_rfl) ?_
              simp only [Plan.walk, operAt, List.getElem?_cons_succ, List.getElem?_cons_zero, Option.getD_some, List.drop_succ_cons, List.drop_zero]
              repeat (refine wpX_calm (fun K hK => ?_); go_simp; first | (refine hK _ _ ?_; clear hK K) | (apply Exists.intro; refine ⟨fun _ => ?_, hK _ _ ?_⟩; (fail); clear hK K))
              refine wpX_only (fun K hK => ?_)
              go_simp
              intro x
              refine (HCC.out _ (HI.out.of (by (repeat' (first | (with_reducible exact Below.refl _ _) | (with_reducible exact Nat.le_refl _) | (with_reducible refine Below.bel ?_ ?_) | (with_reducible refine Below.alloc ?_ ?_ _) | (with_reducible refine Below.drew ?_) | (with_reducible refine Below.drawsN ?_ _) | (with_reducible refine Below.setCell ?_ ?_ _) | (with_reducible refine le_bel ?_) | (with_reducible refine le_alloc ?_) | (with_reducible refine le_setCell ?_) | (with_reducible refine le_drew ?_) | (with_reducible refine le_drawsN ?_) | (dsimp only; with_reducible refine le_bel ?_) | (dsimp only; with_reducible refine Nat.le_refl _) | (dsimp only; with_reducible refine le_bel_add ?_) | (with_reducible assumption) | omega | (dsimp only; omega)))))).mono ?_
              rintro _ _ ⟨_, rfl, y, rfl, ad5, cap5, rfl, hi5⟩
              refine ⟨_, rfl, y.below, hK _ _ ?_⟩
              clear hK K
              repeat (refine wpX_calm (fun K hK => ?_); go_simp; first | (refine hK _ _ ?_; clear hK K) | (apply Exists.intro; refine ⟨fun _ => ?_, hK _ _ ?_⟩; (fail); clear hK K))
              refine wpX_only (fun K hK => ?_)
              go_simp
              intro x2
              refine ⟨(Below.refl _ _).alloc (Nat.le_refl _) _, hK _ _ ?_⟩
              clear hK K
              repeat (refine wpX_calm (fun K hK => ?_); go_simp; first | (refine hK _ _ ?_; clear hK K) | (apply Exists.intro; refine ⟨fun _ => ?_, hK _ _ ?_⟩; (fail); clear hK K))
              refine wpX_tail ?_
              intro z
              have hzs : wr.heap.size ≤ x.w.heap.size ∧ x.w.heap.size ≤ y.w.heap.size ∧ y.w.heap.size ≤ x2.w.heap.size ∧ x2.w.heap.size + 1 ≤ z.w.heap.size := by
                have h1 := x.size_le; have h2 := y.size_le; have h3 := x2.size_le; have h4 := z.size_le
                simp at h1 h4
                exact ⟨by omega, h2, h3, h4⟩
              have hsrc := Lib.hid (obj_bel z (World.alloc_heap_new x2.w (.cells #[.int .i64 fu.k, .int .i64 fu.a, .slice ad5 fu.l.length cap5] 36)))
              have hbz : Below wr.heap.size wr z.w := by (repeat' (first | (with_reducible exact Below.refl _ _) | (with_reducible exact Nat.le_refl _) | (with_reducible refine Below.bel ?_ ?_) | (with_reducible refine Below.alloc ?_ ?_ _) | (with_reducible refine Below.drew ?_) | (with_reducible refine Below.drawsN ?_ _) | (with_reducible refine Below.setCell ?_ ?_ _) | (with_reducible refine le_bel ?_) | (with_reducible refine le_alloc ?_) | (with_reducible refine le_setCell ?_) | (with_reducible refine le_drew ?_) | (with_reducible refine le_drawsN ?_) | (dsimp only; with_reducible refine le_bel ?_) | (dsimp only; with_reducible refine Nat.le_refl _) | (dsimp only; with_reducible refine le_bel_add ?_) | (with_reducible assumption) | omega | (dsimp only; omega)))
              have hby : Below y.w.heap.size y.w z.w := by (repeat' (first | (with_reducible exact Below.refl _ _) | (with_reducible exact Nat.le_refl _) | (with_reducible refine Below.bel ?_ ?_) | (with_reducible refine Below.alloc ?_ ?_ _) | (with_reducible refine Below.drew ?_) | (with_reducible refine Below.drawsN ?_ _) | (with_reducible refine Below.setCell ?_ ?_ _) | (with_reducible refine le_bel ?_) | (with_reducible refine le_alloc ?_) | (with_reducible refine le_setCell ?_) | (with_reducible refine le_drew ?_) | (with_reducible refine le_drawsN ?_) | (dsimp only; with_reducible refine le_bel ?_) | (dsimp only; with_reducible refine Nat.le_refl _) | (dsimp only; with_reducible refine le_bel_add ?_) | (with_reducible assumption) | omega | (dsimp only; omega)))
              have HOz := Lib.hid (show OwnF z.w (w.heap.size + 3) 36 (.slice va k vc) ((tl.take k).map (fun t => nrm t false)) from ownF_bel HO.out ⟨_, hbz⟩)
              have HCz := Lib.hid (show InsF (fun b => (w.heap.size + 3) ≤ b ∧ (Value.slice va k vc).ownBlock ≠ some b) z.w ad5 fu.l from (hi5.of hby).imp fun b _ hb => ⟨by omega, ownF_avoid HO.out (by omega)⟩)
              have HBX := Lib.hid (obj_bel ⟨_, hbz⟩ hbox)
              have HFB := Lib.hid (obj_bel ⟨_, hbz⟩ hfb)
              have HBZ := Lib.hid hbz
              have hln : ((tl.take k).map (fun t => nrm t false)).length ≤ 100000000 := by rw [HL.out]; omega
              clear hi5
              go_wp2_with (at_builtin; refine wpList_appF rfl _ _ 34 36 rfl i0 Tryd.underlying34 hi0 hz0 hz1 hz2 z.w (w.heap.size + 3) _ ((tl.take k).map (fun t => nrm t false)) fu ad5 cap5 x2.w.heap.size rfl HOz.out HCz.out rfl hsrc.out hln (by omega) ?_; intro g' c w1 hof hbw; have HBW := Lib.hid hbw; have HB1 := Lib.hid (obj_below hbw (by omega) HBX.out); obtain ⟨d0, d1, d2⟩ := box3 HB1.out; obtain ⟨_, _, f2⟩ := box3f HB1.out; have hbws := hbw.size; clear hbw; rw [HL.out] at hof ⊢)
              go_roundw
              case rel => exact ⟨k + 1, .slice (some ⟨g', 0, none⟩) (k + 1) c, by go_num, by omega, HST.out.next HBZ.out HBW.out (by rw [HTK.out]; exact hof) (by omega) (by omega) (by omega) (by omega) (by omega) (by omega)⟩
              case measure => simp [intOf]; omega
            · have hke : k = tl.length := by omega
              subst hke
              have f0 : decide ((tl.length : Int) < (tl.length : Int)) = false := decide_eq_false (by omega)
              rw [List.take_length] at hown htk
              have HO := Lib.hid hown
              obtain ⟨r0, r1, r2⟩ := box3 hres
              obtain ⟨g0, g1, g2⟩ := box3f hres
              clear hiW hown
              go_wp2
              have hR := obj_set3 (.int .i64 3) (.int .i64 0) (.slice va tl.length vc) hres
              obtain ⟨q0, q1, q2⟩ := box3 hR
              refine bodyPost_ret (v := .agg #[.int .i64 3, .int .i64 0, .slice va tl.length vc]) (by simp [results, Tryd.results16, go_sem, q0, q1, q2]) rfl (RetF.mk va vc (by simp [F.k, F.a, F.l]) (by (repeat' (first | (with_reducible exact Below.refl _ _) | (with_reducible exact Nat.le_refl _) | (with_reducible refine Below.bel ?_ ?_) | (with_reducible refine Below.alloc ?_ ?_ _) | (with_reducible refine Below.drew ?_) | (with_reducible refine Below.drawsN ?_ _) | (with_reducible refine Below.setCell ?_ ?_ _) | (with_reducible refine le_bel ?_) | (with_reducible refine le_alloc ?_) | (with_reducible refine le_setCell ?_) | (with_reducible refine le_drew ?_) | (with_reducible refine le_drawsN ?_) | (dsimp only; with_reducible refine le_bel ?_) | (dsimp only; with_reducible refine Nat.le_refl _) | (dsimp only; with_reducible refine le_bel_add ?_) | (with_reducible assumption) | omega | (dsimp only; omega)))) ?_)
              exact (ownF_insv (ownF_set (ownF_set (ownF_set HO.out (by omega) _) (by omega) _) (by omega) _)).imp fun b _ h => by omega
        · have HC := Lib.hid (fun u (hu : u ∈ tl) ad' cap' w' (hiu : InsF (fun c => c < w.heap.size) w' ad' u.l) => ih u (Nat.le_trans (nodesL_mem hu) HNL.out) (okL_mem HOKL.out hu) true _ ad' cap' w' hiu (Nat.le_trans (nodesL_mem hu) HBIG.out))
          go_enter Tryd.func16, Tryd.ntmps16
          go_wp2
          go_loopw [6] (fun i wr => ∃ (k : Nat) (v : Value), i = .int .i64 (k : Int) ∧ k ≤ tl.length ∧ AppSt w wr 36 (w.heap.size + 3) (w.heap.size + 2) (w.heap.size + 1) w.heap.size 4 0 v ((tl.take k).map (fun t => nrm t true))
            (.cells #[.int .i64 0, .int .i64 0, .slice none 0 0] 36 (0, 0)) (.cells #[.int .i64 3, .int .i64 0, .slice ad tl.length cap] 36 (0, 0))) (fun i _ => tl.length - (intOf i).toNat)
          case atStart => exact ⟨0, .slice none 0 0, rfl, by omega, ownF_nil _ _ _, heap3_2 _ _ _ _, heap3_1 _ _ _ _, heap3_0 _ _ _ _, by (repeat' (first | (with_reducible exact Below.refl _ _) | (with_reducible exact Nat.le_refl _) | (with_reducible refine Below.bel ?_ ?_) | (with_reducible refine Below.alloc ?_ ?_ _) | (with_reducible refine Below.drew ?_) | (with_reducible refine Below.drawsN ?_ _) | (with_reducible refine Below.setCell ?_ ?_ _) | (with_reducible refine le_bel ?_) | (with_reducible refine le_alloc ?_) | (with_reducible refine le_setCell ?_) | (with_reducible refine le_drew ?_) | (with_reducible refine le_drawsN ?_) | (dsimp only; with_reducible refine le_bel ?_) | (dsimp only; with_reducible refine Nat.le_refl _) | (dsimp only; with_reducible refine le_bel_add ?_) | (with_reducible assumption) | omega | (dsimp only; omega))), by simp⟩
          case round =>
            obtain ⟨k, v, rfl, hk, hst⟩ := hrel
            have HST := Lib.hid hst
            obtain ⟨hown, hbox, hres, hfb, hb, hsz⟩ := hst
            have hiW := below_move hlt (fun _ h => h) hb
            obtain ⟨b0, b1, b2⟩ := box3 hbox
            obtain ⟨fb0, fb1, fb2⟩ := box3 hfb
            obtain ⟨va, vc, rfl⟩ := ownF_val hown
            have htk : ((tl.take k).map (fun t => nrm t true)).length = k := by rw [List.length_map, List.length_take]; omega
            rw [htk] at hown hbox b2
            rcases Nat.lt_or_ge k tl.length with hkl | hkl
            · obtain ⟨u, hu⟩ := some_at hkl
              obtain ⟨bb, off, hadd, hp, hcs⟩ := insF_at hiW (by omega)
              cases hadd
              obtain ⟨c0, c1, ad', cap', c2, hiu⟩ := cellF_open (hcs k u hu)
              have f0 : decide ((k : Int) < (tl.length : Int)) = true := decide_eq_true (by omega)
              have HCU := HC.out u (List.mem_of_getElem? hu) ad' cap'
              obtain ⟨fu, hfu⟩ : ∃ fu, (nrm u true) = fu := ⟨_, rfl⟩
              rw [hfu] at HCU
              have HTK := Lib.hid (show (tl.take (k + 1)).map (fun t => nrm t true) = (tl.take k).map (fun t => nrm t true) ++ [fu] by rw [List.take_add_one, hu, List.map_append, ← hfu]; rfl)
              have HCC := Lib.hid HCU
              have HI := Lib.hid hiu
              have HO := Lib.hid hown
              have HL := Lib.hid htk
              clear hcs hiW hiu hown htk hu HCU hfu hp
              go_wp2_with fail
              refine wp_region_plan 10 (.calm 0 (.calm 1 (.calm 2 (.calm 3 (.calm 4 (.calm 5 (.calm 6 (.calm 7 (.fork 8 (.fork 9 .tail .none) .none))))))))) (by kernel_rfl) (by kernel_rfl) ?_
              simp only [Plan.walk, operAt, List.getElem?_cons_succ, List.getElem?_cons_zero, Option.getD_some, List.drop_succ_cons, List.drop_zero]
              repeat (refine wpX_calm (fun K hK => ?_); go_simp; first | (refine hK _ _ ?_; clear hK K) | (apply Exists.intro; refine ⟨fun _ => ?_, hK _ _ ?_⟩; (fail); clear hK K))
              refine wpX_only (fun K hK => ?_)
              go_simp
              intro x
              refine (HCC.out _ (HI.out.of (by (repeat' (first | (with_reducible exact Below.refl _ _) | (with_reducible exact Nat.le_refl _) | (with_reducible refine Below.bel ?_ ?_) | (with_reducible refine Below.alloc ?_ ?_ _) | (with_reducible refine Below.drew ?_) | (with_reducible refine Below.drawsN ?_ _) | (with_reducible refine Below.setCell ?_ ?_ _) | (with_reducible refine le_bel ?_) | (with_reducible refine le_alloc ?_) | (with_reducible refine le_setCell ?_) | (with_reducible refine le_drew ?_) | (with_reducible refine le_drawsN ?_) | (dsimp only; with_reducible refine le_bel ?_) | (dsimp only; with_reducible refine Nat.le_refl _) | (dsimp only; with_reducible refine le_bel_add ?_) | (with_reducible assumption) | omega | (dsimp only; omega)))))).mono ?_
              rintro _ _ ⟨_, rfl, y, rfl, ad5, cap5, rfl, hi5⟩
              refine ⟨_, rfl, y.below, hK _ _ ?_⟩
              clear hK K
              repeat (refine wpX_calm (fun K hK => ?_); go_simp; first | (refine hK _ _ ?_; clear hK K) | (apply Exists.intro; refine ⟨fun _ => ?_, hK _ _ ?_⟩; (fail); clear hK K))
              refine wpX_only (fun K hK => ?_)
              go_simp
              intro x2
              refine ⟨(Below.refl _ _).alloc (Nat.le_refl _) _, hK _ _ ?_⟩
              clear hK K
              repeat (refine wpX_calm (fun K hK => ?_); go_simp; first | (refine hK _ _ ?_; clear hK K) | (apply Exists.intro; refine ⟨fun _ => ?_, hK _ _ ?_⟩; (fail); clear hK K))
              refine wpX_tail ?_
              intro z
              have hzs : wr.heap.size ≤ x.w.heap.size ∧ x.w.heap.size ≤ y.w.heap.size ∧ y.w.heap.size ≤ x2.w.heap.size ∧ x2.w.heap.size + 1 ≤ z.w.heap.size := by
                have h1 := x.size_le; have h2 := y.size_le; have h3 := x2.size_le; have h4 := z.size_le
                simp at h1 h4
                exact ⟨by omega, h2, h3, h4⟩
              have hsrc := Lib.hid (obj_bel z (World.alloc_heap_new x2.w (.cells #[.int .i64 fu.k, .int .i64 fu.a, .slice ad5 fu.l.length cap5] 36)))
              have hbz : Below wr.heap.size wr z.w := by (repeat' (first | (with_reducible exact Below.refl _ _) | (with_reducible exact Nat.le_refl _) | (with_reducible refine Below.bel ?_ ?_) | (with_reducible refine Below.alloc ?_ ?_ _) | (with_reducible refine Below.drew ?_) | (with_reducible refine Below.drawsN ?_ _) | (with_reducible refine Below.setCell ?_ ?_ _) | (with_reducible refine le_bel ?_) | (with_reducible refine le_alloc ?_) | (with_reducible refine le_setCell ?_) | (with_reducible refine le_drew ?_) | (with_reducible refine le_drawsN ?_) | (dsimp only; with_reducible refine le_bel ?_) | (dsimp only; with_reducible refine Nat.le_refl _) | (dsimp only; with_reducible refine le_bel_add ?_) | (with_reducible assumption) | omega | (dsimp only; omega)))
              have hby : Below y.w.heap.size y.w z.w := by (repeat' (first | (with_reducible exact Below.refl _ _) | (with_reducible exact Nat.le_refl _) | (with_reducible refine Below.bel ?_ ?_) | (with_reducible refine Below.alloc ?_ ?_ _) | (with_reducible refine Below.drew ?_) | (with_reducible refine Below.drawsN ?_ _) | (with_reducible refine Below.setCell ?_ ?_ _) | (with_reducible refine le_bel ?_) | (with_reducible refine le_alloc ?_) | (with_reducible refine le_setCell ?_) | (with_reducible refine le_drew ?_) | (with_reducible refine le_drawsN ?_) | (dsimp only; with_reducible refine le_bel ?_) | (dsimp only; with_reducible refine Nat.le_refl _) | (dsimp only; with_reducible refine le_bel_add ?_) | (with_reducible assumption) | omega | (dsimp only; omega)))
              have HOz := Lib.hid (show OwnF z.w (w.heap.size + 3) 36 (.slice va k vc) ((tl.take k).map (fun t => nrm t true)) from ownF_bel HO.out ⟨_, hbz⟩)
              have HCz := Lib.hid (show InsF (fun b => (w.heap.size + 3) ≤ b ∧ (Value.slice va k vc).ownBlock ≠ some b) z.w ad5 fu.l from (hi5.of hby).imp fun b _ hb => ⟨by omega, ownF_avoid HO.out (by omega)⟩)
              have HBX := Lib.hid (obj_bel ⟨_, hbz⟩ hbox)
              have HFB := Lib.hid (obj_bel ⟨_, hbz⟩ hfb)
              have HBZ := Lib.hid hbz
              have hln : ((tl.take k).map (fun t => nrm t true)).length ≤ 100000000 := by rw [HL.out]; omega
              clear hi5
              go_wp2_with (at_builtin; refine wpList_appF rfl _ _ 34 36 rfl i0 Tryd.underlying34 hi0 hz0 hz1 hz2 z.w (w.heap.size + 3) _ ((tl.take k).map (fun t => nrm t true)) fu ad5 cap5 x2.w.heap.size rfl HOz.out HCz.out rfl hsrc.out hln (by omega) ?_; intro g' c w1 hof hbw; have HBW := Lib.hid hbw; have HB1 := Lib.hid (obj_below hbw (by omega) HBX.out); obtain ⟨d0, d1, d2⟩ := box3 HB1.out; obtain ⟨_, _, f2⟩ := box3f HB1.out; have hbws := hbw.size; clear hbw; rw [HL.out] at hof ⊢)
              go_roundw
              case rel => exact ⟨k + 1, .slice (some ⟨g', 0, none⟩) (k + 1) c, by go_num, by omega, HST.out.next HBZ.out HBW.out (by rw [HTK.out]; exact hof) (by omega) (by omega) (by omega) (by omega) (by omega) (by omega)⟩
              case measure => simp [intOf]; omega
            · have hke : k = tl.length := by omega
              subst hke
              have f0 : decide ((tl.length : Int) < (tl.length : Int)) = false := decide_eq_false (by omega)
              rw [List.take_length] at hown htk
              have HO := Lib.hid hown
              obtain ⟨r0, r1, r2⟩ := box3 hres
              obtain ⟨g0, g1, g2⟩ := box3f hres
              clear hiW hown
              go_wp2
              have hR := obj_set3 (.int .i64 4) (.int .i64 0) (.slice va tl.length vc) hres
              obtain ⟨q0, q1, q2⟩ := box3 hR
              refine bodyPost_ret (v := .agg #[.int .i64 4, .int .i64 0, .slice va tl.length vc]) (by simp [results, Tryd.results16, go_sem, q0, q1, q2]) rfl (RetF.mk va vc (by simp [F.k, F.a, F.l]) (by (repeat' (first | (with_reducible exact Below.refl _ _) | (with_reducible exact Nat.le_refl _) | (with_reducible refine Below.bel ?_ ?_) | (with_reducible refine Below.alloc ?_ ?_ _) | (with_reducible refine Below.drew ?_) | (with_reducible refine Below.drawsN ?_ _) | (with_reducible refine Below.setCell ?_ ?_ _) | (with_reducible refine le_bel ?_) | (with_reducible refine le_alloc ?_) | (with_reducible refine le_setCell ?_) | (with_reducible refine le_drew ?_) | (with_reducible refine le_drawsN ?_) | (dsimp only; with_reducible refine le_bel ?_) | (dsimp only; with_reducible refine Nat.le_refl _) | (dsimp only; with_reducible refine le_bel_add ?_) | (with_reducible assumption) | omega | (dsimp only; omega)))) ?_)
              exact (ownF_insv (ownF_set (ownF_set (ownF_set HO.out (by omega) _) (by omega) _) (by omega) _)).imp fun b _ h => by omega
      · cases g
        · have HC := Lib.hid (fun u (hu : u ∈ tl) ad' cap' w' (hiu : InsF (fun c => c < w.heap.size) w' ad' u.l) => ih u (Nat.le_trans (nodesL_mem hu) HNL.out) (okL_mem HOKL.out hu) false _ ad' cap' w' hiu (Nat.le_trans (nodesL_mem hu) HBIG.out))
          go_enter Tryd.func16, Tryd.ntmps16
          go_wp2
          go_loopw [6] (fun i wr => ∃ (k : Nat) (v : Value), i = .int .i64 (k : Int) ∧ k ≤ tl.length ∧ AppSt w wr 36 (w.heap.size + 3) (w.heap.size + 2) (w.heap.size + 1) w.heap.size 4 0 v ((tl.take k).map (fun t => nrm t false))
            (.cells #[.int .i64 0, .int .i64 0, .slice none 0 0] 36 (0, 0)) (.cells #[.int .i64 4, .int .i64 0, .slice ad tl.length cap] 36 (0, 0))) (fun i _ => tl.length - (intOf i).toNat)
          case atStart => exact ⟨0, .slice none 0 0, rfl, by omega, ownF_nil _ _ _, heap3_2 _ _ _ _, heap3_1 _ _ _ _, heap3_0 _ _ _ _, by (repeat' (first | (with_reducible exact Below.refl _ _) | (with_reducible exact Nat.le_refl _) | (with_reducible refine Below.bel ?_ ?_) | (with_reducible refine Below.alloc ?_ ?_ _) | (with_reducible refine Below.drew ?_) | (with_reducible refine Below.drawsN ?_ _) | (with_reducible refine Below.setCell ?_ ?_ _) | (with_reducible refine le_bel ?_) | (with_reducible refine le_alloc ?_) | (with_reducible refine le_setCell ?_) | (with_reducible refine le_drew ?_) | (with_reducible refine le_drawsN ?_) | (dsimp only; with_reducible refine le_bel ?_) | (dsimp only; with_reducible refine Nat.le_refl _) | (dsimp only; with_reducible refine le_bel_add ?_) | (with_reducible assumption) | omega | (dsimp only; omega))), by simp⟩
          case round =>
            obtain ⟨k, v, rfl, hk, hst⟩ := hrel
            have HST := Lib.hid hst
            obtain ⟨hown, hbox, hres, hfb, hb, hsz⟩ := hst
            have hiW := below_move hlt (fun _ h => h) hb
            obtain ⟨b0, b1, b2⟩ := box3 hbox
            obtain ⟨fb0, fb1, fb2⟩ := box3 hfb
            obtain ⟨va, vc, rfl⟩ := ownF_val hown
            have htk : ((tl.take k).map (fun t => nrm t false)).length = k := by rw [List.length_map, List.length_take]; omega
            rw [htk] at hown hbox b2
            rcases Nat.lt_or_ge k tl.length with hkl | hkl
            · obtain ⟨u, hu⟩ := some_at hkl
              obtain ⟨bb, off, hadd, hp, hcs⟩ := insF_at hiW (by omega)
              cases hadd
              obtain ⟨c0, c1, ad', cap', c2, hiu⟩ := cellF_open (hcs k u hu)
              have f0 : decide ((k : Int) < (tl.length : Int)) = true := decide_eq_true (by omega)
              have HCU := HC.out u (List.mem_of_getElem? hu) ad' cap'
              obtain ⟨fu, hfu⟩ : ∃ fu, (nrm u false) = fu := ⟨_, rfl⟩
              rw [hfu] at HCU
              have HTK := Lib.hid (show (tl.take (k + 1)).map (fun t => nrm t false) = (tl.take k).map (fun t => nrm t false) ++ [fu] by rw [List.take_add_one, hu, List.map_append, ← hfu]; rfl)
              have HCC := Lib.hid HCU
              have HI := Lib.hid hiu
              have HO := Lib.hid hown
              have HL := Lib.hid htk
              clear hcs hiW hiu hown htk hu HCU hfu hp
              go_wp2_with fail
              refine wp_region_plan 10 (.calm 0 (.calm 1 (.calm 2 (.calm 3 (.calm 4 (.calm 5 (.calm 6 (.calm 7 (.fork 8 (.fork 9 .tail .none) .none))))))))) (by kernel_rfl) (by kernel_rfl) ?_
              simp only [Plan.walk, operAt, List.getElem?_cons_succ, List.getElem?_cons_zero, Option.getD_some, List.drop_succ_cons, List.drop_zero]
              repeat (refine wpX_calm (fun K hK => ?_); go_simp; first | (refine hK _ _ ?_; clear hK K) | (apply Exists.intro; refine ⟨fun _ => ?_, hK _ _ ?_⟩; (fail); clear hK K))
              refine wpX_only (fun K hK => ?_)
              go_simp
              intro x
              refine (HCC.out _ (HI.out.of (by (repeat' (first | (with_reducible exact Below.refl _ _) | (with_reducible exact Nat.le_refl _) | (with_reducible refine Below.bel ?_ ?_) | (with_reducible refine Below.alloc ?_ ?_ _) | (with_reducible refine Below.drew ?_) | (with_reducible refine Below.drawsN ?_ _) | (with_reducible refine Below.setCell ?_ ?_ _) | (with_reducible refine le_bel ?_) | (with_reducible refine le_alloc ?_) | (with_reducible refine le_setCell ?_) | (with_reducible refine le_drew ?_) | (with_reducible refine le_drawsN ?_) | (dsimp only; with_reducible refine le_bel ?_) | (dsimp only; with_reducible refine Nat.le_refl _) | (dsimp only; with_reducible refine le_bel_add ?_) | (with_reducible assumption) | omega | (dsimp only; omega)))))).mono ?_
              rintro _ _ ⟨_, rfl, y, rfl, ad5, cap5, rfl, hi5⟩
              refine ⟨_, rfl, y.below, hK _ _ ?_⟩
              clear hK K
              repeat (refine wpX_calm (fun K hK => ?_); go_simp; first | (refine hK _ _ ?_; clear hK K) | (apply Exists.intro; refine ⟨fun _ => ?_, hK _ _ ?_⟩; (fail); clear hK K))
              refine wpX_only (fun K hK => ?_)
              go_simp
              intro x2
              refine ⟨(Below.refl _ _).alloc (Nat.le_refl _) _, hK _ _ ?_⟩
              clear hK K
              repeat (refine wpX_calm (fun K hK => ?_); go_simp; first | (refine hK _ _ ?_; clear hK K) | (apply Exists.intro; refine ⟨fun _ => ?_, hK _ _ ?_⟩; (fail); clear hK K))
              refine wpX_tail ?_
              intro z
              have hzs : wr.heap.size ≤ x.w.heap.size ∧ x.w.heap.size ≤ y.w.heap.size ∧ y.w.heap.size ≤ x2.w.heap.size ∧ x2.w.heap.size + 1 ≤ z.w.heap.size := by
                have h1 := x.size_le; have h2 := y.size_le; have h3 := x2.size_le; have h4 := z.size_le
                simp at h1 h4
                exact ⟨by omega, h2, h3, h4⟩
              have hsrc := Lib.hid (obj_bel z (World.alloc_heap_new x2.w (.cells #[.int .i64 fu.k, .int .i64 fu.a, .slice ad5 fu.l.length cap5] 36)))
              have hbz : Below wr.heap.size wr z.w := by (repeat' (first | (with_reducible exact Below.refl _ _) | (with_reducible exact Nat.le_refl _) | (with_reducible refine Below.bel ?_ ?_) | (with_reducible refine Below.alloc ?_ ?_ _) | (with_reducible refine Below.drew ?_) | (with_reducible refine Below.drawsN ?_ _) | (with_reducible refine Below.setCell ?_ ?_ _) | (with_reducible refine le_bel ?_) | (with_reducible refine le_alloc ?_) | (with_reducible refine le_setCell ?_) | (with_reducible refine le_drew ?_) | (with_reducible refine le_drawsN ?_) | (dsimp only; with_reducible refine le_bel ?_) | (dsimp only; with_reducible refine Nat.le_refl _) | (dsimp only; with_reducible refine le_bel_add ?_) | (with_reducible assumption) | omega | (dsimp only; omega)))
              have hby : Below y.w.heap.size y.w z.w := by (repeat' (first | (with_reducible exact Below.refl _ _) | (with_reducible exact Nat.le_refl _) | (with_reducible refine Below.bel ?_ ?_) | (with_reducible refine Below.alloc ?_ ?_ _) | (with_reducible refine Below.drew ?_) | (with_reducible refine Below.drawsN ?_ _) | (with_reducible refine Below.setCell ?_ ?_ _) | (with_reducible refine le_bel ?_) | (with_reducible refine le_alloc ?_) | (with_reducible refine le_setCell ?_) | (with_reducible refine le_drew ?_) | (with_reducible refine le_drawsN ?_) | (dsimp only; with_reducible refine le_bel ?_) | (dsimp only; with_reducible refine Nat.le_refl _) | (dsimp only; with_reducible refine le_bel_add ?_) | (with_reducible assumption) | omega | (dsimp only; omega)))
              have HOz := Lib.hid (show OwnF z.w (w.heap.size + 3) 36 (.slice va k vc) ((tl.take k).map (fun t => nrm t false)) from ownF_bel HO.out ⟨_, hbz⟩)
              have HCz := Lib.hid (show InsF (fun b => (w.heap.size + 3) ≤ b ∧ (Value.slice va k vc).ownBlock ≠ some b) z.w ad5 fu.l from (hi5.of hby).imp fun b _ hb => ⟨by omega, ownF_avoid HO.out (by omega)⟩)
              have HBX := Lib.hid (obj_bel ⟨_, hbz⟩ hbox)
              have HFB := Lib.hid (obj_bel ⟨_, hbz⟩ hfb)
              have HBZ := Lib.hid hbz
              have hln : ((tl.take k).map (fun t => nrm t false)).length ≤ 100000000 := by rw [HL.out]; omega
              clear hi5
              go_wp2_with (at_builtin; refine wpList_appF rfl _ _ 34 36 rfl i0 Tryd.underlying34 hi0 hz0 hz1 hz2 z.w (w.heap.size + 3) _ ((tl.take k).map (fun t => nrm t false)) fu ad5 cap5 x2.w.heap.size rfl HOz.out HCz.out rfl hsrc.out hln (by omega) ?_; intro g' c w1 hof hbw; have HBW := Lib.hid hbw; have HB1 := Lib.hid (obj_below hbw (by omega) HBX.out); obtain ⟨d0, d1, d2⟩ := box3 HB1.out; obtain ⟨_, _, f2⟩ := box3f HB1.out; have hbws := hbw.size; clear hbw; rw [HL.out] at hof ⊢)
              go_roundw
              case rel => exact ⟨k + 1, .slice (some ⟨g', 0, none⟩) (k + 1) c, by go_num, by omega, HST.out.next HBZ.out HBW.out (by rw [HTK.out]; exact hof) (by omega) (by omega) (by omega) (by omega) (by omega) (by omega)⟩
              case measure => simp [intOf]; omega
            · have hke : k = tl.length := by omega
              subst hke
              have f0 : decide ((tl.length : Int) < (tl.length : Int)) = false := decide_eq_false (by omega)
              rw [List.take_length] at hown htk
              have HO := Lib.hid hown
              obtain ⟨r0, r1, r2⟩ := box3 hres
              obtain ⟨g0, g1, g2⟩ := box3f hres
              clear hiW hown
              go_wp2
              have hR := obj_set3 (.int .i64 4) (.int .i64 0) (.slice va tl.length vc) hres
              obtain ⟨q0, q1, q2⟩ := box3 hR
              refine bodyPost_ret (v := .agg #[.int .i64 4, .int .i64 0, .slice va tl.length vc]) (by simp [results, Tryd.results16, go_sem, q0, q1, q2]) rfl (RetF.mk va vc (by simp [F.k, F.a, F.l]) (by (repeat' (first | (with_reducible exact Below.refl _ _) | (with_reducible exact Nat.le_refl _) | (with_reducible refine Below.bel ?_ ?_) | (with_reducible refine Below.alloc ?_ ?_ _) | (with_reducible refine Below.drew ?_) | (with_reducible refine Below.drawsN ?_ _) | (with_reducible refine Below.setCell ?_ ?_ _) | (with_reducible refine le_bel ?_) | (with_reducible refine le_alloc ?_) | (with_reducible refine le_setCell ?_) | (with_reducible refine le_drew ?_) | (with_reducible refine le_drawsN ?_) | (dsimp only; with_reducible refine le_bel ?_) | (dsimp only; with_reducible refine Nat.le_refl _) | (dsimp only; with_reducible refine le_bel_add ?_) | (with_reducible assumption) | omega | (dsimp only; omega)))) ?_)
              exact (ownF_insv (ownF_set (ownF_set (ownF_set HO.out (by omega) _) (by omega) _) (by omega) _)).imp fun b _ h => by omega
        · have HC := Lib.hid (fun u (hu : u ∈ tl) ad' cap' w' (hiu : InsF (fun c => c < w.heap.size) w' ad' u.l) => ih u (Nat.le_trans (nodesL_mem hu) HNL.out) (okL_mem HOKL.out hu) true _ ad' cap' w' hiu (Nat.le_trans (nodesL_mem hu) HBIG.out))
          go_enter Tryd.func16, Tryd.ntmps16
          go_wp2
          go_loopw [6] (fun i wr => ∃ (k : Nat) (v : Value), i = .int .i64 (k : Int) ∧ k ≤ tl.length ∧ AppSt w wr 36 (w.heap.size + 3) (w.heap.size + 2) (w.heap.size + 1) w.heap.size 3 0 v ((tl.take k).map (fun t => nrm t true))
            (.cells #[.int .i64 0, .int .i64 0, .slice none 0 0] 36 (0, 0)) (.cells #[.int .i64 4, .int .i64 0, .slice ad tl.length cap] 36 (0, 0))) (fun i _ => tl.length - (intOf i).toNat)
          case atStart => exact ⟨0, .slice none 0 0, rfl, by omega, ownF_nil _ _ _, heap3_2 _ _ _ _, heap3_1 _ _ _ _, heap3_0 _ _ _ _, by (repeat' (first | (with_reducible exact Below.refl _ _) | (with_reducible exact Nat.le_refl _) | (with_reducible refine Below.bel ?_ ?_) | (with_reducible refine Below.alloc ?_ ?_ _) | (with_reducible refine Below.drew ?_) | (with_reducible refine Below.drawsN ?_ _) | (with_reducible refine Below.setCell ?_ ?_ _) | (with_reducible refine le_bel ?_) | (with_reducible refine le_alloc ?_) | (with_reducible refine le_setCell ?_) | (with_reducible refine le_drew ?_) | (with_reducible refine le_drawsN ?_) | (dsimp only; with_reducible refine le_bel ?_) | (dsimp only; with_reducible refine Nat.le_refl _) | (dsimp only; with_reducible refine le_bel_add ?_) | (with_reducible assumption) | omega | (dsimp only; omega))), by simp⟩
          case round =>
            obtain ⟨k, v, rfl, hk, hst⟩ := hrel
            have HST := Lib.hid hst
            obtain ⟨hown, hbox, hres, hfb, hb, hsz⟩ := hst
            have hiW := below_move hlt (fun _ h => h) hb
            obtain ⟨b0, b1, b2⟩ := box3 hbox
            obtain ⟨fb0, fb1, fb2⟩ := box3 hfb
            obtain ⟨va, vc, rfl⟩ := ownF_val hown
            have htk : ((tl.take k).map (fun t => nrm t true)).length = k := by rw [List.length_map, List.length_take]; omega
            rw [htk] at hown hbox b2
            rcases Nat.lt_or_ge k tl.length with hkl | hkl
            · obtain ⟨u, hu⟩ := some_at hkl
              obtain ⟨bb, off, hadd, hp, hcs⟩ := insF_at hiW (by omega)
              cases hadd
              obtain ⟨c0, c1, ad', cap', c2, hiu⟩ := cellF_open (hcs k u hu)
              have f0 : decide ((k : Int) < (tl.length : Int)) = true := decide_eq_true (by omega)
              have HCU := HC.out u (List.mem_of_getElem? hu) ad' cap'
              obtain ⟨fu, hfu⟩ : ∃ fu, (nrm u true) = fu := ⟨_, rfl⟩
              rw [hfu] at HCU
              have HTK := Lib.hid (show (tl.take (k + 1)).map (fun t => nrm t true) = (tl.take k).map (fun t => nrm t true) ++ [fu] by rw [List.take_add_one, hu, List.map_append, ← hfu]; rfl)
              have HCC := Lib.hid HCU
              have HI := Lib.hid hiu
              have HO := Lib.hid hown
              have HL := Lib.hid htk
              clear hcs hiW hiu hown htk hu HCU hfu hp
              go_wp2_with fail
              refine wp_region_plan 10 (.calm 0 (.calm 1 (.calm 2 (.calm 3 (.calm 4 (.calm 5 (.calm 6 (.calm 7 (.fork 8 (.fork 9 .tail .none) .none))))))))) (by kernel_rfl) (by kernel_rfl) ?_
              simp only [Plan.walk, operAt, List.getElem?_cons_succ, List.getElem?_cons_zero, Option.getD_some, List.drop_succ_cons, List.drop_zero]
              repeat (refine wpX_calm (fun K hK => ?_); go_simp; first | (refine hK _ _ ?_; clear hK K) | (apply Exists.intro; refine ⟨fun _ => ?_, hK _ _ ?_⟩; (fail); clear hK K))
              refine wpX_only (fun K hK => ?_)
              go_simp
              intro x
              refine (HCC.out _ (HI.out.of (by (repeat' (first | (with_reducible exact Below.refl _ _) | (with_reducible exact Nat.le_refl _) | (with_reducible refine Below.bel ?_ ?_) | (with_reducible refine Below.alloc ?_ ?_ _) | (with_reducible refine Below.drew ?_) | (with_reducible refine Below.drawsN ?_ _) | (with_reducible refine Below.setCell ?_ ?_ _) | (with_reducible refine le_bel ?_) | (with_reducible refine le_alloc ?_) | (with_reducible refine le_setCell ?_) | (with_reducible refine le_drew ?_) | (with_reducible refine le_drawsN ?_) | (dsimp only; with_reducible refine le_bel ?_) | (dsimp only; with_reducible refine Nat.le_refl _) | (dsimp only; with_reducible refine le_bel_add ?_) | (with_reducible assumption) | omega | (dsimp only; omega)))))).mono ?_
              rintro _ _ ⟨_, rfl, y, rfl, ad5, cap5, rfl, hi5⟩
              refine ⟨_, rfl, y.below, hK _ _ ?_⟩
              clear hK K
              repeat (refine wpX_calm (fun K hK => ?_); go_simp; first | (refine hK _ _ ?_; clear hK K) | (apply Exists.intro; refine ⟨fun _ => ?_, hK _ _ ?_⟩; (fail); clear hK K))
              refine wpX_only (fun K hK => ?_)
              go_simp
              intro x2
              refine ⟨(Below.refl _ _).alloc (Nat.le_refl _) _, hK _ _ ?_⟩
              clear hK K
              repeat (refine wpX_calm (fun K hK => ?_); go_simp; first | (refine hK _ _ ?_; clear hK K) | (apply Exists.intro; refine ⟨fun _ => ?_, hK _ _ ?_⟩; (fail); clear hK K))
              refine wpX_tail ?_
              intro z
              have hzs : wr.heap.size ≤ x.w.heap.size ∧ x.w.heap.size ≤ y.w.heap.size ∧ y.w.heap.size ≤ x2.w.heap.size ∧ x2.w.heap.size + 1 ≤ z.w.heap.size := by
                have h1 := x.size_le; have h2 := y.size_le; have h3 := x2.size_le; have h4 := z.size_le
                simp at h1 h4
                exact ⟨by omega, h2, h3, h4⟩
              have hsrc := Lib.hid (obj_bel z (World.alloc_heap_new x2.w (.cells #[.int .i64 fu.k, .int .i64 fu.a, .slice ad5 fu.l.length cap5] 36)))
              have hbz : Below wr.heap.size wr z.w := by (repeat' (first | (with_reducible exact Below.refl _ _) | (with_reducible exact Nat.le_refl _) | (with_reducible refine Below.bel ?_ ?_) | (with_reducible refine Below.alloc ?_ ?_ _) | (with_reducible refine Below.drew ?_) | (with_reducible refine Below.drawsN ?_ _) | (with_reducible refine Below.setCell ?_ ?_ _) | (with_reducible refine le_bel ?_) | (with_reducible refine le_alloc ?_) | (with_reducible refine le_setCell ?_) | (with_reducible refine le_drew ?_) | (with_reducible refine le_drawsN ?_) | (dsimp only; with_reducible refine le_bel ?_) | (dsimp only; with_reducible refine Nat.le_refl _) | (dsimp only; with_reducible refine le_bel_add ?_) | (with_reducible assumption) | omega | (dsimp only; omega)))
              have hby : Below y.w.heap.size y.w z.w := by (repeat' (first | (with_reducible exact Below.refl _ _) | (with_reducible exact Nat.le_refl _) | (with_reducible refine Below.bel ?_ ?_) | (with_reducible refine Below.alloc ?_ ?_ _) | (with_reducible refine Below.drew ?_) | (with_reducible refine Below.drawsN ?_ _) | (with_reducible refine Below.setCell ?_ ?_ _) | (with_reducible refine le_bel ?_) | (with_reducible refine le_alloc ?_) | (with_reducible refine le_setCell ?_) | (with_reducible refine le_drew ?_) | (with_reducible refine le_drawsN ?_) | (dsimp only; with_reducible refine le_bel ?_) | (dsimp only; with_reducible refine Nat.le_refl _) | (dsimp only; with_reducible refine le_bel_add ?_) | (with_reducible assumption) | omega | (dsimp only; omega)))
              have HOz := Lib.hid (show OwnF z.w (w.heap.size + 3) 36 (.slice va k vc) ((tl.take k).map (fun t => nrm t true)) from ownF_bel HO.out ⟨_, hbz⟩)
              have HCz := Lib.hid (show InsF (fun b => (w.heap.size + 3) ≤ b ∧ (Value.slice va k vc).ownBlock ≠ some b) z.w ad5 fu.l from (hi5.of hby).imp fun b _ hb => ⟨by omega, ownF_avoid HO.out (by omega)⟩)
              have HBX := Lib.hid (obj_bel ⟨_, hbz⟩ hbox)
              have HFB := Lib.hid (obj_bel ⟨_, hbz⟩ hfb)
              have HBZ := Lib.hid hbz
              have hln : ((tl.take k).map (fun t => nrm t true)).length ≤ 100000000 := by rw [HL.out]; omega
              clear hi5
              go_wp2_with (at_builtin; refine wpList_appF rfl _ _ 34 36 rfl i0 Tryd.underlying34 hi0 hz0 hz1 hz2 z.w (w.heap.size + 3) _ ((tl.take k).map (fun t => nrm t true)) fu ad5 cap5 x2.w.heap.size rfl HOz.out HCz.out rfl hsrc.out hln (by omega) ?_; intro g' c w1 hof hbw; have HBW := Lib.hid hbw; have HB1 := Lib.hid (obj_below hbw (by omega) HBX.out); obtain ⟨d0, d1, d2⟩ := box3 HB1.out; obtain ⟨_, _, f2⟩ := box3f HB1.out; have hbws := hbw.size; clear hbw; rw [HL.out] at hof ⊢)
              go_roundw
              case rel => exact ⟨k + 1, .slice (some ⟨g', 0, none⟩) (k + 1) c, by go_num, by omega, HST.out.next HBZ.out HBW.out (by rw [HTK.out]; exact hof) (by omega) (by omega) (by omega) (by omega) (by omega) (by omega)⟩
              case measure => simp [intOf]; omega
            · have hke : k = tl.length := by omega
              subst hke
              have f0 : decide ((tl.length : Int) < (tl.length : Int)) = false := decide_eq_false (by omega)
              rw [List.take_length] at hown htk
              have HO := Lib.hid hown
              obtain ⟨r0, r1, r2⟩ := box3 hres
              obtain ⟨g0, g1, g2⟩ := box3f hres
              clear hiW hown
              go_wp2
              have hR := obj_set3 (.int .i64 3) (.int .i64 0) (.slice va tl.length vc) hres
              obtain ⟨q0, q1, q2⟩ := box3 hR
              refine bodyPost_ret (v := .agg #[.int .i64 3, .int .i64 0, .slice va tl.length vc]) (by simp [results, Tryd.results16, go_sem, q0, q1, q2]) rfl (RetF.mk va vc (by simp [F.k, F.a, F.l]) (by (repeat' (first | (with_reducible exact Below.refl _ _) | (with_reducible exact Nat.le_refl _) | (with_reducible refine Below.bel ?_ ?_) | (with_reducible refine Below.alloc ?_ ?_ _) | (with_reducible refine Below.drew ?_) | (with_reducible refine Below.drawsN ?_ _) | (with_reducible refine Below.setCell ?_ ?_ _) | (with_reducible refine le_bel ?_) | (with_reducible refine le_alloc ?_) | (with_reducible refine le_setCell ?_) | (with_reducible refine le_drew ?_) | (with_reducible refine le_drawsN ?_) | (dsimp only; with_reducible refine le_bel ?_) | (dsimp only; with_reducible refine Nat.le_refl _) | (dsimp only; with_reducible refine le_bel_add ?_) | (with_reducible assumption) | omega | (dsimp only; omega)))) ?_)
              exact (ownF_insv (ownF_set (ownF_set (ownF_set HO.out (by omega) _) (by omega) _) (by omega) _)).imp fun b _ h => by omega
    · -- a constant
      rw [nrm, if_neg (by omega), if_neg (by omega), if_pos (by omega)]
      rcases hk with rfl | rfl
      · cases g
        · have HC := Lib.hid (refConstant_any false)
          go_enter Tryd.func16, Tryd.ntmps16
          go_wp2_with fail
          refine (HC.out _).mono ?_
          rintro _ _ ⟨_, rfl, y, rfl, ad5, cap5, rfl, hi5⟩
          have hres := obj_bel y (heap2_1 w (.cells #[.int .i64 5, .int .i64 0, .slice ad 0 cap] 36) (.cells #[.int .i64 0, .int .i64 0, .slice none 0 0] 36))
          obtain ⟨r0, r1, r2⟩ := box3 hres
          obtain ⟨g0, g1, g2⟩ := box3f hres
          simp only [cst, F.k, F.a, F.l, List.length_nil, if_true, Bool.false_eq_true, if_false]
          go_wp2
          have hR := obj_set3 (.int .i64 5) (.int .i64 0) (.slice ad5 0 cap5) hres
          obtain ⟨q0, q1, q2⟩ := box3 hR
          refine bodyPost_ret (v := .agg #[.int .i64 5, .int .i64 0, .slice ad5 0 cap5]) (by simp [results, Tryd.results16, go_sem, F.k, F.a, F.l, q0, q1, q2]) rfl (RetF.mk ad5 cap5 rfl (by (repeat' (first | (with_reducible exact Below.refl _ _) | (with_reducible exact Nat.le_refl _) | (with_reducible refine Below.bel ?_ ?_) | (with_reducible refine Below.alloc ?_ ?_ _) | (with_reducible refine Below.drew ?_) | (with_reducible refine Below.drawsN ?_ _) | (with_reducible refine Below.setCell ?_ ?_ _) | (with_reducible refine le_bel ?_) | (with_reducible refine le_alloc ?_) | (with_reducible refine le_setCell ?_) | (with_reducible refine le_drew ?_) | (with_reducible refine le_drawsN ?_) | (dsimp only; with_reducible refine le_bel ?_) | (dsimp only; with_reducible refine Nat.le_refl _) | (dsimp only; with_reducible refine le_bel_add ?_) | (with_reducible assumption) | omega | (dsimp only; omega)))) (insF_nil _ _ _))
        · have HC := Lib.hid (refConstant_any true)
          go_enter Tryd.func16, Tryd.ntmps16
          go_wp2_with fail
          refine (HC.out _).mono ?_
          rintro _ _ ⟨_, rfl, y, rfl, ad5, cap5, rfl, hi5⟩
          have hres := obj_bel y (heap2_1 w (.cells #[.int .i64 5, .int .i64 0, .slice ad 0 cap] 36) (.cells #[.int .i64 0, .int .i64 0, .slice none 0 0] 36))
          obtain ⟨r0, r1, r2⟩ := box3 hres
          obtain ⟨g0, g1, g2⟩ := box3f hres
          simp only [cst, F.k, F.a, F.l, List.length_nil, if_true, Bool.false_eq_true, if_false]
          go_wp2
          have hR := obj_set3 (.int .i64 6) (.int .i64 0) (.slice ad5 0 cap5) hres
          obtain ⟨q0, q1, q2⟩ := box3 hR
          refine bodyPost_ret (v := .agg #[.int .i64 6, .int .i64 0, .slice ad5 0 cap5]) (by simp [results, Tryd.results16, go_sem, F.k, F.a, F.l, q0, q1, q2]) rfl (RetF.mk ad5 cap5 rfl (by (repeat' (first | (with_reducible exact Below.refl _ _) | (with_reducible exact Nat.le_refl _) | (with_reducible refine Below.bel ?_ ?_) | (with_reducible refine Below.alloc ?_ ?_ _) | (with_reducible refine Below.drew ?_) | (with_reducible refine Below.drawsN ?_ _) | (with_reducible refine Below.setCell ?_ ?_ _) | (with_reducible refine le_bel ?_) | (with_reducible refine le_alloc ?_) | (with_reducible refine le_setCell ?_) | (with_reducible refine le_drew ?_) | (with_reducible refine le_drawsN ?_) | (dsimp only; with_reducible refine le_bel ?_) | (dsimp only; with_reducible refine Nat.le_refl _) | (dsimp only; with_reducible refine le_bel_add ?_) | (with_reducible assumption) | omega | (dsimp only; omega)))) (insF_nil _ _ _))
      · cases g
        · have HC := Lib.hid (refConstant_any true)
          go_enter Tryd.func16, Tryd.ntmps16
          go_wp2_with fail
          refine (HC.out _).mono ?_
          rintro _ _ ⟨_, rfl, y, rfl, ad5, cap5, rfl, hi5⟩
          have hres := obj_bel y (heap2_1 w (.cells #[.int .i64 6, .int .i64 0, .slice ad 0 cap] 36) (.cells #[.int .i64 0, .int .i64 0, .slice none 0 0] 36))
          obtain ⟨r0, r1, r2⟩ := box3 hres
          obtain ⟨g0, g1, g2⟩ := box3f hres
          simp only [cst, F.k, F.a, F.l, List.length_nil, if_true, Bool.false_eq_true, if_false]
          go_wp2
          have hR := obj_set3 (.int .i64 6) (.int .i64 0) (.slice ad5 0 cap5) hres
          obtain ⟨q0, q1, q2⟩ := box3 hR
          refine bodyPost_ret (v := .agg #[.int .i64 6, .int .i64 0, .slice ad5 0 cap5]) (by simp [results, Tryd.results16, go_sem, F.k, F.a, F.l, q0, q1, q2]) rfl (RetF.mk ad5 cap5 rfl (by (repeat' (first | (with_reducible exact Below.refl _ _) | (with_reducible exact Nat.le_refl _) | (with_reducible refine Below.bel ?_ ?_) | (with_reducible refine Below.alloc ?_ ?_ _) | (with_reducible refine Below.drew ?_) | (with_reducible refine Below.drawsN ?_ _) | (with_reducible refine Below.setCell ?_ ?_ _) | (with_reducible refine le_bel ?_) | (with_reducible refine le_alloc ?_) | (with_reducible refine le_setCell ?_) | (with_reducible refine le_drew ?_) | (with_reducible refine le_drawsN ?_) | (dsimp only; with_reducible refine le_bel ?_) | (dsimp only; with_reducible refine Nat.le_refl _) | (dsimp only; with_reducible refine le_bel_add ?_) | (with_reducible assumption) | omega | (dsimp only; omega)))) (insF_nil _ _ _))
        · have HC := Lib.hid (refConstant_any false)
          go_enter Tryd.func16, Tryd.ntmps16
          go_wp2_with fail
          refine (HC.out _).mono ?_
          rintro _ _ ⟨_, rfl, y, rfl, ad5, cap5, rfl, hi5⟩
          have hres := obj_bel y (heap2_1 w (.cells #[.int .i64 6, .int .i64 0, .slice ad 0 cap] 36) (.cells #[.int .i64 0, .int .i64 0, .slice none 0 0] 36))
          obtain ⟨r0, r1, r2⟩ := box3 hres
          obtain ⟨g0, g1, g2⟩ := box3f hres
          simp only [cst, F.k, F.a, F.l, List.length_nil, if_true, Bool.false_eq_true, if_false]
          go_wp2
          have hR := obj_set3 (.int .i64 5) (.int .i64 0) (.slice ad5 0 cap5) hres
          obtain ⟨q0, q1, q2⟩ := box3 hR
          refine bodyPost_ret (v := .agg #[.int .i64 5, .int .i64 0, .slice ad5 0 cap5]) (by simp [results, Tryd.results16, go_sem, F.k, F.a, F.l, q0, q1, q2]) rfl (RetF.mk ad5 cap5 rfl (by (repeat' (first | (with_reducible exact Below.refl _ _) | (with_reducible exact Nat.le_refl _) | (with_reducible refine Below.bel ?_ ?_) | (with_reducible refine Below.alloc ?_ ?_ _) | (with_reducible refine Below.drew ?_) | (with_reducible refine Below.drawsN ?_ _) | (with_reducible refine Below.setCell ?_ ?_ _) | (with_reducible refine le_bel ?_) | (with_reducible refine le_alloc ?_) | (with_reducible refine le_setCell ?_) | (with_reducible refine le_drew ?_) | (with_reducible refine le_drawsN ?_) | (dsimp only; with_reducible refine le_bel ?_) | (dsimp only; with_reducible refine Nat.le_refl _) | (dsimp only; with_reducible refine le_bel_add ?_) | (with_reducible assumption) | omega | (dsimp only; omega)))) (insF_nil _ _ _))
end Go.Proofs.YtkbellmhanpocaaDoor
