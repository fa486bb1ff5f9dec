/- Equal. -/
import Derived.Test.YtkbellmhanpocaaGreatDoorG10
namespace Go.Proofs.YtkbellmhanpocaaGreatDoor
set_option linter.unusedVariables false
set_option linter.unusedSimpArgs false
open Go.RowKit F
attribute [local go_sem low] Bel.cell Bel.frozen alloc_cell alloc_frozen

set_option maxRecDepth 100000 in
set_option maxHeartbeats 12800000 in
theorem eqFunc_any (l m : List F) (P P' : Nat → Prop) (ad ad' : Option Addr) (cap cap' : Nat) (w : World) (hi : InsF P w ad l) (hi' : InsF P' w ad' m) (hl : l.length ≤ 100000000) (hm : m.length ≤ 100000000)
    (HE : ∀ u ∈ l, ∀ v ∈ m, ∀ adu adv capu capv W, Below w.heap.size w W → InsF (fun c => c < w.heap.size) W adu u.l → InsF (fun c => c < w.heap.size) W adv v.l → Calls Tryz.prog 19 #[.agg #[.int .i64 u.k, .int .i64 u.a, .slice adu u.l.length capu], .agg #[.int .i64 v.k, .int .i64 v.a, .slice adv v.l.length capv]] W (Ret (.bool (eqF u v)) W)) :
    Calls Tryz.prog 41 #[.slice ad l.length cap, .slice ad' m.length cap', .func (.func 19) #[] #[]] w (Ret (.bool (eqL l m)) w) := by
  have hlt : InsF (fun c => c < w.heap.size) w ad l := hi.imp fun b hb _ => hb
  have hlt' : InsF (fun c => c < w.heap.size) w ad' m := hi'.imp fun b hb _ => hb
  have HH := Lib.hid HE
  clear hi hi' HE
  by_cases h3 : l.length = m.length
  · rw [← h3]
    have H3 := Lib.hid h3
    clear h3
    obtain ⟨R, hR⟩ : ∃ R, eqL l m = R := ⟨_, rfl⟩
    rw [hR]
    have HR := Lib.hid hR
    clear hR
    go_enter Tryz.func41, Tryz.ntmps41
    go_wp2
    go_loopw [17] (fun i wr => ∃ k : Nat, i = .int .i64 (k : Int) ∧ k ≤ l.length ∧ eqL (l.drop k) (m.drop k) = R ∧ Below w.heap.size w wr) (fun i _ => l.length - (intOf i).toNat)
    case atStart => exact ⟨0, rfl, by omega, by rw [← HR.out]; rfl, by (repeat' (first | (with_reducible exact Below.refl _ _) | (with_reducible exact Nat.le_refl _) | (with_reducible refine Below.bel ?_ ?_) | (with_reducible refine Below.alloc ?_ ?_ _) | (with_reducible refine Below.drew ?_) | (with_reducible refine Below.drawsN ?_ _) | (with_reducible refine Below.setCell ?_ ?_ _) | (with_reducible refine le_bel ?_) | (with_reducible refine le_alloc ?_) | (with_reducible refine le_setCell ?_) | (with_reducible refine le_drew ?_) | (with_reducible refine le_drawsN ?_) | (dsimp only; with_reducible refine le_bel ?_) | (dsimp only; with_reducible refine Nat.le_refl _) | (dsimp only; with_reducible refine le_bel_add ?_) | (with_reducible assumption) | omega | (dsimp only; omega)))⟩
    case round =>
      obtain ⟨k, rfl, hk, hr, hb⟩ := hrel
      have hiW := below_move hlt (fun _ h => h) hb
      have hiW' := below_move hlt' (fun _ h => h) hb
      have hbs := hb.size
      rcases Nat.lt_or_ge k l.length with hkl | hkl
      · obtain ⟨u, hu⟩ := some_at hkl
        obtain ⟨v, hv⟩ := some_at (l := m) (k := k) (by have := H3.out; omega)
        obtain ⟨bb, off, hadd, hp, hcs⟩ := insF_at hiW (by omega)
        cases hadd
        obtain ⟨bb', off', hadd, hp', hcs'⟩ := insF_at hiW' (by have := H3.out; omega)
        cases hadd
        obtain ⟨c0, c1, adu, capu, c2, hiu⟩ := cellF_open (hcs k u hu)
        obtain ⟨c0', c1', adv, capv, c2', hiv⟩ := cellF_open (hcs' k v hv)
        have f0 : decide ((k : Int) < (l.length : Int)) = true := decide_eq_true (by omega)
        have hib : (0 ≤ (k : Int) ∧ (k : Int) < (l.length : Int)) := ⟨by omega, by omega⟩
        rw [drop_at hu, drop_at hv, eqL] at hr
        have HCC := Lib.hid (fun W hb h1 h2 => HH.out u (List.mem_of_getElem? hu) v (List.mem_of_getElem? hv) adu adv capu capv W hb h1 h2)
        have HI1 := Lib.hid hiu
        have HI2 := Lib.hid hiv
        clear hcs hcs' hiW hiW' hiu hiv hu hv hp hp'
        obtain ⟨q, hq⟩ : ∃ q, eqF u v = q := ⟨_, rfl⟩
        rw [hq] at hr HCC
        have HRR := Lib.hid hr
        clear hq hr
        cases q
        · go_wp2_with fail
          refine (HCC.out _ (by (repeat' (first | (with_reducible exact Below.refl _ _) | (with_reducible exact Nat.le_refl _) | (with_reducible refine Below.bel ?_ ?_) | (with_reducible refine Below.alloc ?_ ?_ _) | (with_reducible refine Below.drew ?_) | (with_reducible refine Below.drawsN ?_ _) | (with_reducible refine Below.setCell ?_ ?_ _) | (with_reducible refine le_bel ?_) | (with_reducible refine le_alloc ?_) | (with_reducible refine le_setCell ?_) | (with_reducible refine le_drew ?_) | (with_reducible refine le_drawsN ?_) | (dsimp only; with_reducible refine le_bel ?_) | (dsimp only; with_reducible refine Nat.le_refl _) | (dsimp only; with_reducible refine le_bel_add ?_) | (with_reducible assumption) | omega | (dsimp only; omega)))) (HI1.out.of (by (repeat' (first | (with_reducible exact Below.refl _ _) | (with_reducible exact Nat.le_refl _) | (with_reducible refine Below.bel ?_ ?_) | (with_reducible refine Below.alloc ?_ ?_ _) | (with_reducible refine Below.drew ?_) | (with_reducible refine Below.drawsN ?_ _) | (with_reducible refine Below.setCell ?_ ?_ _) | (with_reducible refine le_bel ?_) | (with_reducible refine le_alloc ?_) | (with_reducible refine le_setCell ?_) | (with_reducible refine le_drew ?_) | (with_reducible refine le_drawsN ?_) | (dsimp only; with_reducible refine le_bel ?_) | (dsimp only; with_reducible refine Nat.le_refl _) | (dsimp only; with_reducible refine le_bel_add ?_) | (with_reducible assumption) | omega | (dsimp only; omega))))) (HI2.out.of (by (repeat' (first | (with_reducible exact Below.refl _ _) | (with_reducible exact Nat.le_refl _) | (with_reducible refine Below.bel ?_ ?_) | (with_reducible refine Below.alloc ?_ ?_ _) | (with_reducible refine Below.drew ?_) | (with_reducible refine Below.drawsN ?_ _) | (with_reducible refine Below.setCell ?_ ?_ _) | (with_reducible refine le_bel ?_) | (with_reducible refine le_alloc ?_) | (with_reducible refine le_setCell ?_) | (with_reducible refine le_drew ?_) | (with_reducible refine le_drawsN ?_) | (dsimp only; with_reducible refine le_bel ?_) | (dsimp only; with_reducible refine Nat.le_refl _) | (dsimp only; with_reducible refine le_bel_add ?_) | (with_reducible assumption) | omega | (dsimp only; omega)))))).mono ?_
          rintro _ _ ⟨rfl, y, rfl⟩
          dsimp only
          go_wp2
          go_ret
          exact Ret.mk (by rw [← HRR.out]; rfl) (by (repeat' (first | (with_reducible exact Below.refl _ _) | (with_reducible exact Nat.le_refl _) | (with_reducible refine Below.bel ?_ ?_) | (with_reducible refine Below.alloc ?_ ?_ _) | (with_reducible refine Below.drew ?_) | (with_reducible refine Below.drawsN ?_ _) | (with_reducible refine Below.setCell ?_ ?_ _) | (with_reducible refine le_bel ?_) | (with_reducible refine le_alloc ?_) | (with_reducible refine le_setCell ?_) | (with_reducible refine le_drew ?_) | (with_reducible refine le_drawsN ?_) | (dsimp only; with_reducible refine le_bel ?_) | (dsimp only; with_reducible refine Nat.le_refl _) | (dsimp only; with_reducible refine le_bel_add ?_) | (with_reducible assumption) | omega | (dsimp only; omega))))
        · go_wp2_with fail
          refine (HCC.out _ (by (repeat' (first | (with_reducible exact Below.refl _ _) | (with_reducible exact Nat.le_refl _) | (with_reducible refine Below.bel ?_ ?_) | (with_reducible refine Below.alloc ?_ ?_ _) | (with_reducible refine Below.drew ?_) | (with_reducible refine Below.drawsN ?_ _) | (with_reducible refine Below.setCell ?_ ?_ _) | (with_reducible refine le_bel ?_) | (with_reducible refine le_alloc ?_) | (with_reducible refine le_setCell ?_) | (with_reducible refine le_drew ?_) | (with_reducible refine le_drawsN ?_) | (dsimp only; with_reducible refine le_bel ?_) | (dsimp only; with_reducible refine Nat.le_refl _) | (dsimp only; with_reducible refine le_bel_add ?_) | (with_reducible assumption) | omega | (dsimp only; omega)))) (HI1.out.of (by (repeat' (first | (with_reducible exact Below.refl _ _) | (with_reducible exact Nat.le_refl _) | (with_reducible refine Below.bel ?_ ?_) | (with_reducible refine Below.alloc ?_ ?_ _) | (with_reducible refine Below.drew ?_) | (with_reducible refine Below.drawsN ?_ _) | (with_reducible refine Below.setCell ?_ ?_ _) | (with_reducible refine le_bel ?_) | (with_reducible refine le_alloc ?_) | (with_reducible refine le_setCell ?_) | (with_reducible refine le_drew ?_) | (with_reducible refine le_drawsN ?_) | (dsimp only; with_reducible refine le_bel ?_) | (dsimp only; with_reducible refine Nat.le_refl _) | (dsimp only; with_reducible refine le_bel_add ?_) | (with_reducible assumption) | omega | (dsimp only; omega))))) (HI2.out.of (by (repeat' (first | (with_reducible exact Below.refl _ _) | (with_reducible exact Nat.le_refl _) | (with_reducible refine Below.bel ?_ ?_) | (with_reducible refine Below.alloc ?_ ?_ _) | (with_reducible refine Below.drew ?_) | (with_reducible refine Below.drawsN ?_ _) | (with_reducible refine Below.setCell ?_ ?_ _) | (with_reducible refine le_bel ?_) | (with_reducible refine le_alloc ?_) | (with_reducible refine le_setCell ?_) | (with_reducible refine le_drew ?_) | (with_reducible refine le_drawsN ?_) | (dsimp only; with_reducible refine le_bel ?_) | (dsimp only; with_reducible refine Nat.le_refl _) | (dsimp only; with_reducible refine le_bel_add ?_) | (with_reducible assumption) | omega | (dsimp only; omega)))))).mono ?_
          rintro _ _ ⟨rfl, y, rfl⟩
          dsimp only
          go_wp2
          go_roundw
          case rel => exact ⟨k + 1, by go_num, by omega, by rw [← HRR.out]; rfl, by (repeat' (first | (with_reducible exact Below.refl _ _) | (with_reducible exact Nat.le_refl _) | (with_reducible refine Below.bel ?_ ?_) | (with_reducible refine Below.alloc ?_ ?_ _) | (with_reducible refine Below.drew ?_) | (with_reducible refine Below.drawsN ?_ _) | (with_reducible refine Below.setCell ?_ ?_ _) | (with_reducible refine le_bel ?_) | (with_reducible refine le_alloc ?_) | (with_reducible refine le_setCell ?_) | (with_reducible refine le_drew ?_) | (with_reducible refine le_drawsN ?_) | (dsimp only; with_reducible refine le_bel ?_) | (dsimp only; with_reducible refine Nat.le_refl _) | (dsimp only; with_reducible refine le_bel_add ?_) | (with_reducible assumption) | omega | (dsimp only; omega)))⟩
          case measure => simp [intOf]; omega
      · have hke : k = l.length := by omega
        subst hke
        have f0 : decide ((l.length : Int) < (l.length : Int)) = false := decide_eq_false (by omega)
        rw [List.drop_length, show m.drop l.length = [] by rw [H3.out, List.drop_length], eqL] at hr
        have HRR := Lib.hid hr
        clear hr hiW hiW'
        go_wp2
        go_ret
        exact Ret.mk (by rw [← HRR.out]; rfl) (by (repeat' (first | (with_reducible exact Below.refl _ _) | (with_reducible exact Nat.le_refl _) | (with_reducible refine Below.bel ?_ ?_) | (with_reducible refine Below.alloc ?_ ?_ _) | (with_reducible refine Below.drew ?_) | (with_reducible refine Below.drawsN ?_ _) | (with_reducible refine Below.setCell ?_ ?_ _) | (with_reducible refine le_bel ?_) | (with_reducible refine le_alloc ?_) | (with_reducible refine le_setCell ?_) | (with_reducible refine le_drew ?_) | (with_reducible refine le_drawsN ?_) | (dsimp only; with_reducible refine le_bel ?_) | (dsimp only; with_reducible refine Nat.le_refl _) | (dsimp only; with_reducible refine le_bel_add ?_) | (with_reducible assumption) | omega | (dsimp only; omega))))
  · have e3 : ((l.length : Int) == (m.length : Int)) = false := beq_eq_false_iff_ne.2 (by omega)
    rw [eqL_len h3]
    clear h3
    go_enter Tryz.func41, Tryz.ntmps41
    go_wp2
    go_ret
    exact Ret.mk (by rfl) (by (repeat' (first | (with_reducible exact Below.refl _ _) | (with_reducible exact Nat.le_refl _) | (with_reducible refine Below.bel ?_ ?_) | (with_reducible refine Below.alloc ?_ ?_ _) | (with_reducible refine Below.drew ?_) | (with_reducible refine Below.drawsN ?_ _) | (with_reducible refine Below.setCell ?_ ?_ _) | (with_reducible refine le_bel ?_) | (with_reducible refine le_alloc ?_) | (with_reducible refine le_setCell ?_) | (with_reducible refine le_drew ?_) | (with_reducible refine le_drawsN ?_) | (dsimp only; with_reducible refine le_bel ?_) | (dsimp only; with_reducible refine Nat.le_refl _) | (dsimp only; with_reducible refine le_bel_add ?_) | (with_reducible assumption) | omega | (dsimp only; omega))))
set_option maxRecDepth 100000 in
set_option maxHeartbeats 12800000 in
theorem Equal_any : ∀ (N : Nat) (t : F), nodes t ≤ N → ∀ (t' : F) (P P' : Nat → Prop) (ad ad' : Option Addr) (cap cap' : Nat) (w : World), InsF P w ad t.l → InsF P' w ad' t'.l → nodes t ≤ 100000000 → nodes t' ≤ 100000000 →
    Calls Tryz.prog 19 #[.agg #[.int .i64 t.k, .int .i64 t.a, .slice ad t.l.length cap], .agg #[.int .i64 t'.k, .int .i64 t'.a, .slice ad' t'.l.length cap']] w (Ret (.bool (eqF t t')) w) := by
  intro N
  induction N with
  | zero => intro t h; have := nodes_pos t; omega
  | succ N ih =>
    intro t hN t' P P' ad ad' cap cap' w hi hi' hbig hbig'
    have hNL : nodesL t.l ≤ N := by rw [nodes_l] at hN; omega
    have hB : nodesL t.l ≤ 100000000 := by rw [nodes_l] at hbig; omega
    have hB' : nodesL t'.l ≤ 100000000 := by rw [nodes_l] at hbig'; omega
    have hlen := Nat.le_trans (length_nodesL t.l) hB
    have hlen' := Nat.le_trans (length_nodesL t'.l) hB'
    have HF := Lib.hid (fun W (h : InsF P W ad t.l) (h' : InsF P' W ad' t'.l) => eqFunc_any t.l t'.l P P' ad ad' cap cap' W h h' (by omega) (by omega) (fun u hu v hv adu adv capu capv W' _ hi hi' =>
      ih u (Nat.le_trans (nodesL_mem hu) hNL) v _ _ adu adv capu capv W' hi hi' (Nat.le_trans (nodesL_mem hu) hB) (Nat.le_trans (nodesL_mem hv) hB')))
    have HI := Lib.hid hi
    have HI' := Lib.hid hi'
    clear hi hi' hN hbig hbig' hNL hB hB' ih
    obtain ⟨tk, ta, tl⟩ := t
    obtain ⟨uk, ua, ul⟩ := t'
    simp only [F.k, F.a, F.l] at HF HI HI' hlen hlen' ⊢
    rw [eqF_parts]
    by_cases h1 : tk = uk
    · subst h1
      rw [decide_eq_true rfl, Bool.true_and]
      by_cases h2 : ta = ua
      · subst h2
        rw [decide_eq_true rfl, Bool.true_and]
        go_enter Tryz.func19, Tryz.ntmps19
        go_wp2_with fail
        refine (HF.out _ (HI.out.of (by (repeat' (first | (with_reducible exact Below.refl _ _) | (with_reducible exact Nat.le_refl _) | (with_reducible refine Below.bel ?_ ?_) | (with_reducible refine Below.alloc ?_ ?_ _) | (with_reducible refine Below.drew ?_) | (with_reducible refine Below.drawsN ?_ _) | (with_reducible refine Below.setCell ?_ ?_ _) | (with_reducible refine le_bel ?_) | (with_reducible refine le_alloc ?_) | (with_reducible refine le_setCell ?_) | (with_reducible refine le_drew ?_) | (with_reducible refine le_drawsN ?_) | (dsimp only; with_reducible refine le_bel ?_) | (dsimp only; with_reducible refine Nat.le_refl _) | (dsimp only; with_reducible refine le_bel_add ?_) | (with_reducible assumption) | omega | (dsimp only; omega))))) (HI'.out.of (by (repeat' (first | (with_reducible exact Below.refl _ _) | (with_reducible exact Nat.le_refl _) | (with_reducible refine Below.bel ?_ ?_) | (with_reducible refine Below.alloc ?_ ?_ _) | (with_reducible refine Below.drew ?_) | (with_reducible refine Below.drawsN ?_ _) | (with_reducible refine Below.setCell ?_ ?_ _) | (with_reducible refine le_bel ?_) | (with_reducible refine le_alloc ?_) | (with_reducible refine le_setCell ?_) | (with_reducible refine le_drew ?_) | (with_reducible refine le_drawsN ?_) | (dsimp only; with_reducible refine le_bel ?_) | (dsimp only; with_reducible refine Nat.le_refl _) | (dsimp only; with_reducible refine le_bel_add ?_) | (with_reducible assumption) | omega | (dsimp only; omega)))))).mono ?_
        rintro _ _ ⟨rfl, y, rfl⟩
        dsimp only
        go_wp2
        go_ret
        exact Ret.mk (by rfl) (by (repeat' (first | (with_reducible exact Below.refl _ _) | (with_reducible exact Nat.le_refl _) | (with_reducible refine Below.bel ?_ ?_) | (with_reducible refine Below.alloc ?_ ?_ _) | (with_reducible refine Below.drew ?_) | (with_reducible refine Below.drawsN ?_ _) | (with_reducible refine Below.setCell ?_ ?_ _) | (with_reducible refine le_bel ?_) | (with_reducible refine le_alloc ?_) | (with_reducible refine le_setCell ?_) | (with_reducible refine le_drew ?_) | (with_reducible refine le_drawsN ?_) | (dsimp only; with_reducible refine le_bel ?_) | (dsimp only; with_reducible refine Nat.le_refl _) | (dsimp only; with_reducible refine le_bel_add ?_) | (with_reducible assumption) | omega | (dsimp only; omega))))
      · have e2 : (ta == ua) = false := beq_eq_false_iff_ne.2 h2
        rw [decide_eq_false h2, Bool.false_and]
        clear h2
        go_enter Tryz.func19, Tryz.ntmps19
        go_wp2
        go_ret
        exact Ret.mk (by rfl) (by (repeat' (first | (with_reducible exact Below.refl _ _) | (with_reducible exact Nat.le_refl _) | (with_reducible refine Below.bel ?_ ?_) | (with_reducible refine Below.alloc ?_ ?_ _) | (with_reducible refine Below.drew ?_) | (with_reducible refine Below.drawsN ?_ _) | (with_reducible refine Below.setCell ?_ ?_ _) | (with_reducible refine le_bel ?_) | (with_reducible refine le_alloc ?_) | (with_reducible refine le_setCell ?_) | (with_reducible refine le_drew ?_) | (with_reducible refine le_drawsN ?_) | (dsimp only; with_reducible refine le_bel ?_) | (dsimp only; with_reducible refine Nat.le_refl _) | (dsimp only; with_reducible refine le_bel_add ?_) | (with_reducible assumption) | omega | (dsimp only; omega))))
    · have e1 : (tk == uk) = false := beq_eq_false_iff_ne.2 h1
      rw [decide_eq_false h1, Bool.false_and, Bool.false_and]
      clear h1
      go_enter Tryz.func19, Tryz.ntmps19
      go_wp2
      go_ret
      exact Ret.mk (by rfl) (by (repeat' (first | (with_reducible exact Below.refl _ _) | (with_reducible exact Nat.le_refl _) | (with_reducible refine Below.bel ?_ ?_) | (with_reducible refine Below.alloc ?_ ?_ _) | (with_reducible refine Below.drew ?_) | (with_reducible refine Below.drawsN ?_ _) | (with_reducible refine Below.setCell ?_ ?_ _) | (with_reducible refine le_bel ?_) | (with_reducible refine le_alloc ?_) | (with_reducible refine le_setCell ?_) | (with_reducible refine le_drew ?_) | (with_reducible refine le_drawsN ?_) | (dsimp only; with_reducible refine le_bel ?_) | (dsimp only; with_reducible refine Nat.le_refl _) | (dsimp only; with_reducible refine le_bel_add ?_) | (with_reducible assumption) | omega | (dsimp only; omega))))
end Go.Proofs.YtkbellmhanpocaaGreatDoor
