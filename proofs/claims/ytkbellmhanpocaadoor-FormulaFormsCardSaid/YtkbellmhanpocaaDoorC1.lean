/- constant and literal. -/
import Derived.Test.YtkbellmhanpocaaDoorG10
namespace Go.Proofs.YtkbellmhanpocaaDoor
set_option linter.unusedVariables false
set_option linter.unusedSimpArgs false
open Go.RowKit F
attribute [local go_sem low] Bel.cell Bel.frozen alloc_cell alloc_frozen

theorem hasCL_mem {u : F} (hu : hasC u = true) : ∀ {l : List F}, u ∈ l → hasCL l = true
  | [], h => by cases h
  | t :: r, h => by
    rw [hasCL]
    rcases List.mem_cons.1 h with rfl | h
    · rw [hu]; rfl
    · rw [hasCL_mem hu h, Bool.or_true]
theorem hasCL_none : ∀ {l : List F}, (∀ u ∈ l, hasC u = false) → hasCL l = false
  | [], _ => rfl
  | t :: r, h => by rw [hasCL, h t (List.mem_cons_self ..), hasCL_none fun u hu => h u (List.mem_cons_of_mem _ hu)]; rfl
theorem litL_mem {k : Int} {u : F} (hu : (lit u && !(decide (k = 2) && decide (u.k ≠ 1))) = false) : ∀ {l : List F}, u ∈ l → litL k l = false
  | [], h => by cases h
  | t :: r, h => by
    rw [litL]
    rcases List.mem_cons.1 h with rfl | h
    · rw [hu]; rfl
    · rw [litL_mem hu h, Bool.and_false]
theorem litL_all {k : Int} : ∀ {l : List F}, (∀ u ∈ l, (lit u && !(decide (k = 2) && decide (u.k ≠ 1))) = true) → litL k l = true
  | [], _ => rfl
  | t :: r, h => by rw [litL, h t (List.mem_cons_self ..), litL_all fun u hu => h u (List.mem_cons_of_mem _ hu)]; rfl
set_option maxRecDepth 100000 in
set_option maxHeartbeats 6400000 in
theorem constant_law_any : ∀ (N : Nat) (t : F), nodes t ≤ N → ∀ (P : Nat → Prop) (ad : Option Addr) (cap : Nat) (w : World), InsF P w ad t.l → nodes t ≤ 100000000 →
    Calls Tryd.prog 30 #[.agg #[.int .i64 t.k, .int .i64 t.a, .slice ad t.l.length cap]] w (Ret (.bool (hasC t)) w) := by
  intro N
  induction N with
  | zero => intro t h; have := nodes_pos t; omega
  | succ N ih =>
    intro t hN P ad cap w hi hbig
    have HNL := Lib.hid (show nodesL t.l ≤ N by rw [nodes_l] at hN; omega)
    have HBIG := Lib.hid (show nodesL t.l ≤ 100000000 by rw [nodes_l] at hbig; omega)
    have hlen : t.l.length ≤ 100000000 := Nat.le_trans (length_nodesL t.l) HBIG.out
    have hlt : InsF (fun c => c < w.heap.size) w ad t.l := hi.imp fun b hb _ => hb
    have HC := Lib.hid (fun u (hu : u ∈ t.l) ad' cap' w' (hiu : InsF (fun c => c < w.heap.size) w' ad' u.l) => ih u (Nat.le_trans (nodesL_mem hu) HNL.out) _ ad' cap' w' hiu (Nat.le_trans (nodesL_mem hu) HBIG.out))
    clear hi hN hbig ih
    obtain ⟨tk, ta, tl⟩ := t
    simp only [F.k, F.a, F.l] at HC HNL HBIG hlen hlt ⊢
    rw [hasC]
    by_cases h6 : tk = 6
    · have f6 : (tk == 6) = true := beq_iff_eq.2 h6
      rw [decide_eq_true h6]
      clear h6
      go_enter Tryd.func30, Tryd.ntmps30
      go_wp2
      go_loopw [3] (fun i wr => ∃ k : Nat, i = .int .i64 (k : Int) ∧ k ≤ tl.length ∧ (∀ u ∈ tl.take k, hasC u = false) ∧ wr.heap[w.heap.size]? = some (.cells #[.int .i64 tk, .int .i64 ta, .slice ad tl.length cap] 25 (0, 0)) ∧ Below w.heap.size w wr) (fun i _ => tl.length - (intOf i).toNat)
      case atStart => exact ⟨0, rfl, by omega, fun u hu => by simp at hu, World.alloc_heap_new _ _, by (repeat' (first | (with_reducible exact Below.refl _ _) | (with_reducible exact Nat.le_refl _) | (with_reducible refine Below.bel ?_ ?_) | (with_reducible refine Below.alloc ?_ ?_ _) | (with_reducible refine Below.drew ?_) | (with_reducible refine Below.drawsN ?_ _) | (with_reducible refine Below.setCell ?_ ?_ _) | (with_reducible refine le_bel ?_) | (with_reducible refine le_alloc ?_) | (with_reducible refine le_setCell ?_) | (with_reducible refine le_drew ?_) | (with_reducible refine le_drawsN ?_) | (dsimp only; with_reducible refine le_bel ?_) | (dsimp only; with_reducible refine Nat.le_refl _) | (dsimp only; with_reducible refine le_bel_add ?_) | (with_reducible assumption) | omega | (dsimp only; omega)))⟩
      case round =>
        obtain ⟨k, rfl, hk, hA, hfb, hb⟩ := hrel
        have hiW := below_move hlt (fun _ h => h) hb
        obtain ⟨fb0, fb1, fb2⟩ := box3 hfb
        have HA := Lib.hid hA
        clear hA
        rcases Nat.lt_or_ge k tl.length with hkl | hkl
        · obtain ⟨u, hu⟩ := some_at hkl
          obtain ⟨bb, off, hadd, hp, hcs⟩ := insF_at hiW (by omega)
          cases hadd
          obtain ⟨c0, c1, ad', cap', c2, hiu⟩ := cellF_open (hcs k u hu)
          have f0 : decide ((k : Int) < (tl.length : Int)) = true := decide_eq_true (by omega)
          have hib : (0 ≤ (k : Int) ∧ (k : Int) < (tl.length : Int)) := ⟨by omega, by omega⟩
          have HCC := Lib.hid (HC.out u (List.mem_of_getElem? hu) ad' cap')
          have HI := Lib.hid hiu
          have HTK := Lib.hid (show tl.take (k + 1) = tl.take k ++ [u] by rw [List.take_add_one, hu]; rfl)
          have HM := Lib.hid (List.mem_of_getElem? hu)
          have hbs := hb.size
          obtain ⟨q, hq⟩ : ∃ q, hasC u = q := ⟨_, rfl⟩
          rw [hq] at HCC
          have HQ := Lib.hid hq
          have HB := Lib.hid hb
          clear hcs hiW hiu hp hu hq
          cases q
          · go_wp2_with fail
            refine (HCC.out _ (HI.out.of (by (repeat' (first | (with_reducible exact Below.refl _ _) | (with_reducible exact Nat.le_refl _) | (with_reducible refine Below.bel ?_ ?_) | (with_reducible refine Below.alloc ?_ ?_ _) | (with_reducible refine Below.drew ?_) | (with_reducible refine Below.drawsN ?_ _) | (with_reducible refine Below.setCell ?_ ?_ _) | (with_reducible refine le_bel ?_) | (with_reducible refine le_alloc ?_) | (with_reducible refine le_setCell ?_) | (with_reducible refine le_drew ?_) | (with_reducible refine le_drawsN ?_) | (dsimp only; with_reducible refine le_bel ?_) | (dsimp only; with_reducible refine Nat.le_refl _) | (dsimp only; with_reducible refine le_bel_add ?_) | (with_reducible assumption) | omega | (dsimp only; omega)))))).mono ?_
            rintro _ _ ⟨rfl, y, rfl⟩
            have hfb2 := obj_bel y hfb
            dsimp only
            go_wp2
            go_roundw
            case rel => exact ⟨k + 1, by go_num, by omega, by rw [HTK.out]; intro v hv; rcases List.mem_append.1 hv with hv | hv; exact HA.out v hv; rw [List.mem_singleton.1 hv]; exact HQ.out, hfb2, by (repeat' (first | (with_reducible exact Below.refl _ _) | (with_reducible exact Nat.le_refl _) | (with_reducible refine Below.bel ?_ ?_) | (with_reducible refine Below.alloc ?_ ?_ _) | (with_reducible refine Below.drew ?_) | (with_reducible refine Below.drawsN ?_ _) | (with_reducible refine Below.setCell ?_ ?_ _) | (with_reducible refine le_bel ?_) | (with_reducible refine le_alloc ?_) | (with_reducible refine le_setCell ?_) | (with_reducible refine le_drew ?_) | (with_reducible refine le_drawsN ?_) | (dsimp only; with_reducible refine le_bel ?_) | (dsimp only; with_reducible refine Nat.le_refl _) | (dsimp only; with_reducible refine le_bel_add ?_) | (with_reducible assumption) | omega | (dsimp only; omega)))⟩
            case measure => simp [intOf]; omega
          · have HE := Lib.hid (hasCL_mem HQ.out HM.out)
            go_wp2_with fail
            refine (HCC.out _ (HI.out.of (by (repeat' (first | (with_reducible exact Below.refl _ _) | (with_reducible exact Nat.le_refl _) | (with_reducible refine Below.bel ?_ ?_) | (with_reducible refine Below.alloc ?_ ?_ _) | (with_reducible refine Below.drew ?_) | (with_reducible refine Below.drawsN ?_ _) | (with_reducible refine Below.setCell ?_ ?_ _) | (with_reducible refine le_bel ?_) | (with_reducible refine le_alloc ?_) | (with_reducible refine le_setCell ?_) | (with_reducible refine le_drew ?_) | (with_reducible refine le_drawsN ?_) | (dsimp only; with_reducible refine le_bel ?_) | (dsimp only; with_reducible refine Nat.le_refl _) | (dsimp only; with_reducible refine le_bel_add ?_) | (with_reducible assumption) | omega | (dsimp only; omega)))))).mono ?_
            rintro _ _ ⟨rfl, y, rfl⟩
            dsimp only
            go_wp2
            go_ret
            exact Ret.mk (by rw [HE.out]; rfl) (by (repeat' (first | (with_reducible exact Below.refl _ _) | (with_reducible exact Nat.le_refl _) | (with_reducible refine Below.bel ?_ ?_) | (with_reducible refine Below.alloc ?_ ?_ _) | (with_reducible refine Below.drew ?_) | (with_reducible refine Below.drawsN ?_ _) | (with_reducible refine Below.setCell ?_ ?_ _) | (with_reducible refine le_bel ?_) | (with_reducible refine le_alloc ?_) | (with_reducible refine le_setCell ?_) | (with_reducible refine le_drew ?_) | (with_reducible refine le_drawsN ?_) | (dsimp only; with_reducible refine le_bel ?_) | (dsimp only; with_reducible refine Nat.le_refl _) | (dsimp only; with_reducible refine le_bel_add ?_) | (with_reducible assumption) | omega | (dsimp only; omega))))
        · have hke : k = tl.length := by omega
          subst hke
          have f0 : decide ((tl.length : Int) < (tl.length : Int)) = false := decide_eq_false (by omega)
          rw [List.take_length] at HA
          have HE := Lib.hid (hasCL_none HA.out)
          have hbs := hb.size
          clear hiW
          go_wp2
          go_ret
          exact Ret.mk (by (rw [HE.out, Bool.false_or]; first | rfl | simp_all)) (by (repeat' (first | (with_reducible exact Below.refl _ _) | (with_reducible exact Nat.le_refl _) | (with_reducible refine Below.bel ?_ ?_) | (with_reducible refine Below.alloc ?_ ?_ _) | (with_reducible refine Below.drew ?_) | (with_reducible refine Below.drawsN ?_ _) | (with_reducible refine Below.setCell ?_ ?_ _) | (with_reducible refine le_bel ?_) | (with_reducible refine le_alloc ?_) | (with_reducible refine le_setCell ?_) | (with_reducible refine le_drew ?_) | (with_reducible refine le_drawsN ?_) | (dsimp only; with_reducible refine le_bel ?_) | (dsimp only; with_reducible refine Nat.le_refl _) | (dsimp only; with_reducible refine le_bel_add ?_) | (with_reducible assumption) | omega | (dsimp only; omega))))
    · have f6 : (tk == 6) = false := beq_eq_false_iff_ne.2 h6
      rw [decide_eq_false h6]
      clear h6
      by_cases h5 : tk = 5
      · have f5 : (tk == 5) = true := beq_iff_eq.2 h5
        rw [decide_eq_true h5]
        clear h5
        go_enter Tryd.func30, Tryd.ntmps30
        go_wp2
        go_loopw [3] (fun i wr => ∃ k : Nat, i = .int .i64 (k : Int) ∧ k ≤ tl.length ∧ (∀ u ∈ tl.take k, hasC u = false) ∧ wr.heap[w.heap.size]? = some (.cells #[.int .i64 tk, .int .i64 ta, .slice ad tl.length cap] 25 (0, 0)) ∧ Below w.heap.size w wr) (fun i _ => tl.length - (intOf i).toNat)
        case atStart => exact ⟨0, rfl, by omega, fun u hu => by simp at hu, World.alloc_heap_new _ _, by (repeat' (first | (with_reducible exact Below.refl _ _) | (with_reducible exact Nat.le_refl _) | (with_reducible refine Below.bel ?_ ?_) | (with_reducible refine Below.alloc ?_ ?_ _) | (with_reducible refine Below.drew ?_) | (with_reducible refine Below.drawsN ?_ _) | (with_reducible refine Below.setCell ?_ ?_ _) | (with_reducible refine le_bel ?_) | (with_reducible refine le_alloc ?_) | (with_reducible refine le_setCell ?_) | (with_reducible refine le_drew ?_) | (with_reducible refine le_drawsN ?_) | (dsimp only; with_reducible refine le_bel ?_) | (dsimp only; with_reducible refine Nat.le_refl _) | (dsimp only; with_reducible refine le_bel_add ?_) | (with_reducible assumption) | omega | (dsimp only; omega)))⟩
        case round =>
          obtain ⟨k, rfl, hk, hA, hfb, hb⟩ := hrel
          have hiW := below_move hlt (fun _ h => h) hb
          obtain ⟨fb0, fb1, fb2⟩ := box3 hfb
          have HA := Lib.hid hA
          clear hA
          rcases Nat.lt_or_ge k tl.length with hkl | hkl
          · obtain ⟨u, hu⟩ := some_at hkl
            obtain ⟨bb, off, hadd, hp, hcs⟩ := insF_at hiW (by omega)
            cases hadd
            obtain ⟨c0, c1, ad', cap', c2, hiu⟩ := cellF_open (hcs k u hu)
            have f0 : decide ((k : Int) < (tl.length : Int)) = true := decide_eq_true (by omega)
            have hib : (0 ≤ (k : Int) ∧ (k : Int) < (tl.length : Int)) := ⟨by omega, by omega⟩
            have HCC := Lib.hid (HC.out u (List.mem_of_getElem? hu) ad' cap')
            have HI := Lib.hid hiu
            have HTK := Lib.hid (show tl.take (k + 1) = tl.take k ++ [u] by rw [List.take_add_one, hu]; rfl)
            have HM := Lib.hid (List.mem_of_getElem? hu)
            have hbs := hb.size
            obtain ⟨q, hq⟩ : ∃ q, hasC u = q := ⟨_, rfl⟩
            rw [hq] at HCC
            have HQ := Lib.hid hq
            have HB := Lib.hid hb
            clear hcs hiW hiu hp hu hq
            cases q
            · go_wp2_with fail
              refine (HCC.out _ (HI.out.of (by (repeat' (first | (with_reducible exact Below.refl _ _) | (with_reducible exact Nat.le_refl _) | (with_reducible refine Below.bel ?_ ?_) | (with_reducible refine Below.alloc ?_ ?_ _) | (with_reducible refine Below.drew ?_) | (with_reducible refine Below.drawsN ?_ _) | (with_reducible refine Below.setCell ?_ ?_ _) | (with_reducible refine le_bel ?_) | (with_reducible refine le_alloc ?_) | (with_reducible refine le_setCell ?_) | (with_reducible refine le_drew ?_) | (with_reducible refine le_drawsN ?_) | (dsimp only; with_reducible refine le_bel ?_) | (dsimp only; with_reducible refine Nat.le_refl _) | (dsimp only; with_reducible refine le_bel_add ?_) | (with_reducible assumption) | omega | (dsimp only; omega)))))).mono ?_
              rintro _ _ ⟨rfl, y, rfl⟩
              have hfb2 := obj_bel y hfb
              dsimp only
              go_wp2
              go_roundw
              case rel => exact ⟨k + 1, by go_num, by omega, by rw [HTK.out]; intro v hv; rcases List.mem_append.1 hv with hv | hv; exact HA.out v hv; rw [List.mem_singleton.1 hv]; exact HQ.out, hfb2, by (repeat' (first | (with_reducible exact Below.refl _ _) | (with_reducible exact Nat.le_refl _) | (with_reducible refine Below.bel ?_ ?_) | (with_reducible refine Below.alloc ?_ ?_ _) | (with_reducible refine Below.drew ?_) | (with_reducible refine Below.drawsN ?_ _) | (with_reducible refine Below.setCell ?_ ?_ _) | (with_reducible refine le_bel ?_) | (with_reducible refine le_alloc ?_) | (with_reducible refine le_setCell ?_) | (with_reducible refine le_drew ?_) | (with_reducible refine le_drawsN ?_) | (dsimp only; with_reducible refine le_bel ?_) | (dsimp only; with_reducible refine Nat.le_refl _) | (dsimp only; with_reducible refine le_bel_add ?_) | (with_reducible assumption) | omega | (dsimp only; omega)))⟩
              case measure => simp [intOf]; omega
            · have HE := Lib.hid (hasCL_mem HQ.out HM.out)
              go_wp2_with fail
              refine (HCC.out _ (HI.out.of (by (repeat' (first | (with_reducible exact Below.refl _ _) | (with_reducible exact Nat.le_refl _) | (with_reducible refine Below.bel ?_ ?_) | (with_reducible refine Below.alloc ?_ ?_ _) | (with_reducible refine Below.drew ?_) | (with_reducible refine Below.drawsN ?_ _) | (with_reducible refine Below.setCell ?_ ?_ _) | (with_reducible refine le_bel ?_) | (with_reducible refine le_alloc ?_) | (with_reducible refine le_setCell ?_) | (with_reducible refine le_drew ?_) | (with_reducible refine le_drawsN ?_) | (dsimp only; with_reducible refine le_bel ?_) | (dsimp only; with_reducible refine Nat.le_refl _) | (dsimp only; with_reducible refine le_bel_add ?_) | (with_reducible assumption) | omega | (dsimp only; omega)))))).mono ?_
              rintro _ _ ⟨rfl, y, rfl⟩
              dsimp only
              go_wp2
              go_ret
              exact Ret.mk (by rw [HE.out]; rfl) (by (repeat' (first | (with_reducible exact Below.refl _ _) | (with_reducible exact Nat.le_refl _) | (with_reducible refine Below.bel ?_ ?_) | (with_reducible refine Below.alloc ?_ ?_ _) | (with_reducible refine Below.drew ?_) | (with_reducible refine Below.drawsN ?_ _) | (with_reducible refine Below.setCell ?_ ?_ _) | (with_reducible refine le_bel ?_) | (with_reducible refine le_alloc ?_) | (with_reducible refine le_setCell ?_) | (with_reducible refine le_drew ?_) | (with_reducible refine le_drawsN ?_) | (dsimp only; with_reducible refine le_bel ?_) | (dsimp only; with_reducible refine Nat.le_refl _) | (dsimp only; with_reducible refine le_bel_add ?_) | (with_reducible assumption) | omega | (dsimp only; omega))))
          · have hke : k = tl.length := by omega
            subst hke
            have f0 : decide ((tl.length : Int) < (tl.length : Int)) = false := decide_eq_false (by omega)
            rw [List.take_length] at HA
            have HE := Lib.hid (hasCL_none HA.out)
            have hbs := hb.size
            clear hiW
            go_wp2
            go_ret
            exact Ret.mk (by (rw [HE.out, Bool.false_or]; first | rfl | simp_all)) (by (repeat' (first | (with_reducible exact Below.refl _ _) | (with_reducible exact Nat.le_refl _) | (with_reducible refine Below.bel ?_ ?_) | (with_reducible refine Below.alloc ?_ ?_ _) | (with_reducible refine Below.drew ?_) | (with_reducible refine Below.drawsN ?_ _) | (with_reducible refine Below.setCell ?_ ?_ _) | (with_reducible refine le_bel ?_) | (with_reducible refine le_alloc ?_) | (with_reducible refine le_setCell ?_) | (with_reducible refine le_drew ?_) | (with_reducible refine le_drawsN ?_) | (dsimp only; with_reducible refine le_bel ?_) | (dsimp only; with_reducible refine Nat.le_refl _) | (dsimp only; with_reducible refine le_bel_add ?_) | (with_reducible assumption) | omega | (dsimp only; omega))))
      · have f5 : (tk == 5) = false := beq_eq_false_iff_ne.2 h5
        rw [decide_eq_false h5]
        clear h5
        go_enter Tryd.func30, Tryd.ntmps30
        go_wp2
        go_loopw [3] (fun i wr => ∃ k : Nat, i = .int .i64 (k : Int) ∧ k ≤ tl.length ∧ (∀ u ∈ tl.take k, hasC u = false) ∧ wr.heap[w.heap.size]? = some (.cells #[.int .i64 tk, .int .i64 ta, .slice ad tl.length cap] 25 (0, 0)) ∧ Below w.heap.size w wr) (fun i _ => tl.length - (intOf i).toNat)
        case atStart => exact ⟨0, rfl, by omega, fun u hu => by simp at hu, World.alloc_heap_new _ _, by (repeat' (first | (with_reducible exact Below.refl _ _) | (with_reducible exact Nat.le_refl _) | (with_reducible refine Below.bel ?_ ?_) | (with_reducible refine Below.alloc ?_ ?_ _) | (with_reducible refine Below.drew ?_) | (with_reducible refine Below.drawsN ?_ _) | (with_reducible refine Below.setCell ?_ ?_ _) | (with_reducible refine le_bel ?_) | (with_reducible refine le_alloc ?_) | (with_reducible refine le_setCell ?_) | (with_reducible refine le_drew ?_) | (with_reducible refine le_drawsN ?_) | (dsimp only; with_reducible refine le_bel ?_) | (dsimp only; with_reducible refine Nat.le_refl _) | (dsimp only; with_reducible refine le_bel_add ?_) | (with_reducible assumption) | omega | (dsimp only; omega)))⟩
        case round =>
          obtain ⟨k, rfl, hk, hA, hfb, hb⟩ := hrel
          have hiW := below_move hlt (fun _ h => h) hb
          obtain ⟨fb0, fb1, fb2⟩ := box3 hfb
          have HA := Lib.hid hA
          clear hA
          rcases Nat.lt_or_ge k tl.length with hkl | hkl
          · obtain ⟨u, hu⟩ := some_at hkl
            obtain ⟨bb, off, hadd, hp, hcs⟩ := insF_at hiW (by omega)
            cases hadd
            obtain ⟨c0, c1, ad', cap', c2, hiu⟩ := cellF_open (hcs k u hu)
            have f0 : decide ((k : Int) < (tl.length : Int)) = true := decide_eq_true (by omega)
            have hib : (0 ≤ (k : Int) ∧ (k : Int) < (tl.length : Int)) := ⟨by omega, by omega⟩
            have HCC := Lib.hid (HC.out u (List.mem_of_getElem? hu) ad' cap')
            have HI := Lib.hid hiu
            have HTK := Lib.hid (show tl.take (k + 1) = tl.take k ++ [u] by rw [List.take_add_one, hu]; rfl)
            have HM := Lib.hid (List.mem_of_getElem? hu)
            have hbs := hb.size
            obtain ⟨q, hq⟩ : ∃ q, hasC u = q := ⟨_, rfl⟩
            rw [hq] at HCC
            have HQ := Lib.hid hq
            have HB := Lib.hid hb
            clear hcs hiW hiu hp hu hq
            cases q
            · go_wp2_with fail
              refine (HCC.out _ (HI.out.of (by (repeat' (first | (with_reducible exact Below.refl _ _) | (with_reducible exact Nat.le_refl _) | (with_reducible refine Below.bel ?_ ?_) | (with_reducible refine Below.alloc ?_ ?_ _) | (with_reducible refine Below.drew ?_) | (with_reducible refine Below.drawsN ?_ _) | (with_reducible refine Below.setCell ?_ ?_ _) | (with_reducible refine le_bel ?_) | (with_reducible refine le_alloc ?_) | (with_reducible refine le_setCell ?_) | (with_reducible refine le_drew ?_) | (with_reducible refine le_drawsN ?_) | (dsimp only; with_reducible refine le_bel ?_) | (dsimp only; with_reducible refine Nat.le_refl _) | (dsimp only; with_reducible refine le_bel_add ?_) | (with_reducible assumption) | omega | (dsimp only; omega)))))).mono ?_
              rintro _ _ ⟨rfl, y, rfl⟩
              have hfb2 := obj_bel y hfb
              dsimp only
              go_wp2
              go_roundw
              case rel => exact ⟨k + 1, by go_num, by omega, by rw [HTK.out]; intro v hv; rcases List.mem_append.1 hv with hv | hv; exact HA.out v hv; rw [List.mem_singleton.1 hv]; exact HQ.out, hfb2, by (repeat' (first | (with_reducible exact Below.refl _ _) | (with_reducible exact Nat.le_refl _) | (with_reducible refine Below.bel ?_ ?_) | (with_reducible refine Below.alloc ?_ ?_ _) | (with_reducible refine Below.drew ?_) | (with_reducible refine Below.drawsN ?_ _) | (with_reducible refine Below.setCell ?_ ?_ _) | (with_reducible refine le_bel ?_) | (with_reducible refine le_alloc ?_) | (with_reducible refine le_setCell ?_) | (with_reducible refine le_drew ?_) | (with_reducible refine le_drawsN ?_) | (dsimp only; with_reducible refine le_bel ?_) | (dsimp only; with_reducible refine Nat.le_refl _) | (dsimp only; with_reducible refine le_bel_add ?_) | (with_reducible assumption) | omega | (dsimp only; omega)))⟩
              case measure => simp [intOf]; omega
            · have HE := Lib.hid (hasCL_mem HQ.out HM.out)
              go_wp2_with fail
              refine (HCC.out _ (HI.out.of (by (repeat' (first | (with_reducible exact Below.refl _ _) | (with_reducible exact Nat.le_refl _) | (with_reducible refine Below.bel ?_ ?_) | (with_reducible refine Below.alloc ?_ ?_ _) | (with_reducible refine Below.drew ?_) | (with_reducible refine Below.drawsN ?_ _) | (with_reducible refine Below.setCell ?_ ?_ _) | (with_reducible refine le_bel ?_) | (with_reducible refine le_alloc ?_) | (with_reducible refine le_setCell ?_) | (with_reducible refine le_drew ?_) | (with_reducible refine le_drawsN ?_) | (dsimp only; with_reducible refine le_bel ?_) | (dsimp only; with_reducible refine Nat.le_refl _) | (dsimp only; with_reducible refine le_bel_add ?_) | (with_reducible assumption) | omega | (dsimp only; omega)))))).mono ?_
              rintro _ _ ⟨rfl, y, rfl⟩
              dsimp only
              go_wp2
              go_ret
              exact Ret.mk (by rw [HE.out]; rfl) (by (repeat' (first | (with_reducible exact Below.refl _ _) | (with_reducible exact Nat.le_refl _) | (with_reducible refine Below.bel ?_ ?_) | (with_reducible refine Below.alloc ?_ ?_ _) | (with_reducible refine Below.drew ?_) | (with_reducible refine Below.drawsN ?_ _) | (with_reducible refine Below.setCell ?_ ?_ _) | (with_reducible refine le_bel ?_) | (with_reducible refine le_alloc ?_) | (with_reducible refine le_setCell ?_) | (with_reducible refine le_drew ?_) | (with_reducible refine le_drawsN ?_) | (dsimp only; with_reducible refine le_bel ?_) | (dsimp only; with_reducible refine Nat.le_refl _) | (dsimp only; with_reducible refine le_bel_add ?_) | (with_reducible assumption) | omega | (dsimp only; omega))))
          · have hke : k = tl.length := by omega
            subst hke
            have f0 : decide ((tl.length : Int) < (tl.length : Int)) = false := decide_eq_false (by omega)
            rw [List.take_length] at HA
            have HE := Lib.hid (hasCL_none HA.out)
            have hbs := hb.size
            clear hiW
            go_wp2
            go_ret
            exact Ret.mk (by (rw [HE.out, Bool.false_or]; first | rfl | simp_all)) (by (repeat' (first | (with_reducible exact Below.refl _ _) | (with_reducible exact Nat.le_refl _) | (with_reducible refine Below.bel ?_ ?_) | (with_reducible refine Below.alloc ?_ ?_ _) | (with_reducible refine Below.drew ?_) | (with_reducible refine Below.drawsN ?_ _) | (with_reducible refine Below.setCell ?_ ?_ _) | (with_reducible refine le_bel ?_) | (with_reducible refine le_alloc ?_) | (with_reducible refine le_setCell ?_) | (with_reducible refine le_drew ?_) | (with_reducible refine le_drawsN ?_) | (dsimp only; with_reducible refine le_bel ?_) | (dsimp only; with_reducible refine Nat.le_refl _) | (dsimp only; with_reducible refine le_bel_add ?_) | (with_reducible assumption) | omega | (dsimp only; omega))))
set_option maxRecDepth 100000 in
set_option maxHeartbeats 6400000 in
theorem literal_any : ∀ (N : Nat) (t : F), nodes t ≤ N → ∀ (P : Nat → Prop) (ad : Option Addr) (cap : Nat) (w : World), InsF P w ad t.l → nodes t ≤ 100000000 →
    Calls Tryd.prog 31 #[.agg #[.int .i64 t.k, .int .i64 t.a, .slice ad t.l.length cap]] w (Ret (.bool (lit t)) w) := by
  intro N
  induction N with
  | zero => intro t h; have := nodes_pos t; omega
  | succ N ih =>
    intro t hN P ad cap w hi hbig
    have HNL := Lib.hid (show nodesL t.l ≤ N by rw [nodes_l] at hN; omega)
    have HBIG := Lib.hid (show nodesL t.l ≤ 100000000 by rw [nodes_l] at hbig; omega)
    have hlen : t.l.length ≤ 100000000 := Nat.le_trans (length_nodesL t.l) HBIG.out
    have hlt : InsF (fun c => c < w.heap.size) w ad t.l := hi.imp fun b hb _ => hb
    have HC := Lib.hid (fun u (hu : u ∈ t.l) ad' cap' w' (hiu : InsF (fun c => c < w.heap.size) w' ad' u.l) => ih u (Nat.le_trans (nodesL_mem hu) HNL.out) _ ad' cap' w' hiu (Nat.le_trans (nodesL_mem hu) HBIG.out))
    clear hi hN hbig ih
    obtain ⟨tk, ta, tl⟩ := t
    simp only [F.k, F.a, F.l] at HC HNL HBIG hlen hlt ⊢
    rw [lit]
    by_cases h2 : tk = 2
    · have f2 : (tk == 2) = true := beq_iff_eq.2 h2
      have H2 := Lib.hid h2
      clear h2
      go_enter Tryd.func31, Tryd.ntmps31
      go_wp2
      go_loopw [3] (fun i wr => ∃ k : Nat, i = .int .i64 (k : Int) ∧ k ≤ tl.length ∧ (∀ u ∈ tl.take k, (lit u && !(decide (tk = 2) && decide (u.k ≠ 1))) = true) ∧ wr.heap[w.heap.size]? = some (.cells #[.int .i64 tk, .int .i64 ta, .slice ad tl.length cap] 25 (0, 0)) ∧ Below w.heap.size w wr) (fun i _ => tl.length - (intOf i).toNat)
      case atStart => exact ⟨0, rfl, by omega, fun u hu => by simp at hu, World.alloc_heap_new _ _, by (repeat' (first | (with_reducible exact Below.refl _ _) | (with_reducible exact Nat.le_refl _) | (with_reducible refine Below.bel ?_ ?_) | (with_reducible refine Below.alloc ?_ ?_ _) | (with_reducible refine Below.drew ?_) | (with_reducible refine Below.drawsN ?_ _) | (with_reducible refine Below.setCell ?_ ?_ _) | (with_reducible refine le_bel ?_) | (with_reducible refine le_alloc ?_) | (with_reducible refine le_setCell ?_) | (with_reducible refine le_drew ?_) | (with_reducible refine le_drawsN ?_) | (dsimp only; with_reducible refine le_bel ?_) | (dsimp only; with_reducible refine Nat.le_refl _) | (dsimp only; with_reducible refine le_bel_add ?_) | (with_reducible assumption) | omega | (dsimp only; omega)))⟩
      case round =>
        obtain ⟨k, rfl, hk, hA, hfb, hb⟩ := hrel
        have hiW := below_move hlt (fun _ h => h) hb
        obtain ⟨fb0, fb1, fb2⟩ := box3 hfb
        have HA := Lib.hid hA
        clear hA
        rcases Nat.lt_or_ge k tl.length with hkl | hkl
        · obtain ⟨u, hu⟩ := some_at hkl
          obtain ⟨bb, off, hadd, hp, hcs⟩ := insF_at hiW (by omega)
          cases hadd
          obtain ⟨c0, c1, ad', cap', c2, hiu⟩ := cellF_open (hcs k u hu)
          have f0 : decide ((k : Int) < (tl.length : Int)) = true := decide_eq_true (by omega)
          have hib : (0 ≤ (k : Int) ∧ (k : Int) < (tl.length : Int)) := ⟨by omega, by omega⟩
          have HCC := Lib.hid (HC.out u (List.mem_of_getElem? hu) ad' cap')
          have HI := Lib.hid hiu
          have HTK := Lib.hid (show tl.take (k + 1) = tl.take k ++ [u] by rw [List.take_add_one, hu]; rfl)
          have HM := Lib.hid (List.mem_of_getElem? hu)
          have hbs := hb.size
          obtain ⟨q, hq⟩ : ∃ q, lit u = q := ⟨_, rfl⟩
          rw [hq] at HCC
          have HQ := Lib.hid hq
          have HB := Lib.hid hb
          clear hcs hiW hiu hp hu hq
          cases q
          · have HE := Lib.hid (litL_mem (k := tk) (u := u) (by rw [HQ.out]; rfl) HM.out)
            go_wp2_with fail
            refine (HCC.out _ (HI.out.of (by (repeat' (first | (with_reducible exact Below.refl _ _) | (with_reducible exact Nat.le_refl _) | (with_reducible refine Below.bel ?_ ?_) | (with_reducible refine Below.alloc ?_ ?_ _) | (with_reducible refine Below.drew ?_) | (with_reducible refine Below.drawsN ?_ _) | (with_reducible refine Below.setCell ?_ ?_ _) | (with_reducible refine le_bel ?_) | (with_reducible refine le_alloc ?_) | (with_reducible refine le_setCell ?_) | (with_reducible refine le_drew ?_) | (with_reducible refine le_drawsN ?_) | (dsimp only; with_reducible refine le_bel ?_) | (dsimp only; with_reducible refine Nat.le_refl _) | (dsimp only; with_reducible refine le_bel_add ?_) | (with_reducible assumption) | omega | (dsimp only; omega)))))).mono ?_
            rintro _ _ ⟨rfl, y, rfl⟩
            have hfb2 := obj_bel y hfb
            obtain ⟨fb0, fb1, fb2⟩ := box3 hfb2
            have c0 := below_cell y.below _ _ _ c0
            dsimp only
            go_wp2
            go_ret
            exact Ret.mk (by (rw [HE.out]; rfl)) (by (repeat' (first | (with_reducible exact Below.refl _ _) | (with_reducible exact Nat.le_refl _) | (with_reducible refine Below.bel ?_ ?_) | (with_reducible refine Below.alloc ?_ ?_ _) | (with_reducible refine Below.drew ?_) | (with_reducible refine Below.drawsN ?_ _) | (with_reducible refine Below.setCell ?_ ?_ _) | (with_reducible refine le_bel ?_) | (with_reducible refine le_alloc ?_) | (with_reducible refine le_setCell ?_) | (with_reducible refine le_drew ?_) | (with_reducible refine le_drawsN ?_) | (dsimp only; with_reducible refine le_bel ?_) | (dsimp only; with_reducible refine Nat.le_refl _) | (dsimp only; with_reducible refine le_bel_add ?_) | (with_reducible assumption) | omega | (dsimp only; omega))))
          · by_cases hu1 : u.k = 1
            · have g1 : (u.k != 1) = false := by rw [hu1]; rfl
              have HOK := Lib.hid (show (lit u && !(decide (tk = 2) && decide (u.k ≠ 1))) = true by rw [HQ.out, hu1]; simp)
              clear hu1
              go_wp2_with fail
              refine (HCC.out _ (HI.out.of (by (repeat' (first | (with_reducible exact Below.refl _ _) | (with_reducible exact Nat.le_refl _) | (with_reducible refine Below.bel ?_ ?_) | (with_reducible refine Below.alloc ?_ ?_ _) | (with_reducible refine Below.drew ?_) | (with_reducible refine Below.drawsN ?_ _) | (with_reducible refine Below.setCell ?_ ?_ _) | (with_reducible refine le_bel ?_) | (with_reducible refine le_alloc ?_) | (with_reducible refine le_setCell ?_) | (with_reducible refine le_drew ?_) | (with_reducible refine le_drawsN ?_) | (dsimp only; with_reducible refine le_bel ?_) | (dsimp only; with_reducible refine Nat.le_refl _) | (dsimp only; with_reducible refine le_bel_add ?_) | (with_reducible assumption) | omega | (dsimp only; omega)))))).mono ?_
              rintro _ _ ⟨rfl, y, rfl⟩
              have hfb2 := obj_bel y hfb
              obtain ⟨fb0, fb1, fb2⟩ := box3 hfb2
              have c0 := below_cell y.below _ _ _ c0
              dsimp only
              go_wp2
              go_roundw
              case rel => exact ⟨k + 1, by go_num, by omega, by rw [HTK.out]; intro v hv; rcases List.mem_append.1 hv with hv | hv; exact HA.out v hv; rw [List.mem_singleton.1 hv]; exact HOK.out, hfb2, by (repeat' (first | (with_reducible exact Below.refl _ _) | (with_reducible exact Nat.le_refl _) | (with_reducible refine Below.bel ?_ ?_) | (with_reducible refine Below.alloc ?_ ?_ _) | (with_reducible refine Below.drew ?_) | (with_reducible refine Below.drawsN ?_ _) | (with_reducible refine Below.setCell ?_ ?_ _) | (with_reducible refine le_bel ?_) | (with_reducible refine le_alloc ?_) | (with_reducible refine le_setCell ?_) | (with_reducible refine le_drew ?_) | (with_reducible refine le_drawsN ?_) | (dsimp only; with_reducible refine le_bel ?_) | (dsimp only; with_reducible refine Nat.le_refl _) | (dsimp only; with_reducible refine le_bel_add ?_) | (with_reducible assumption) | omega | (dsimp only; omega)))⟩
              case measure => simp [intOf]; omega
            · have g1 : (u.k != 1) = true := bne_iff_ne.2 hu1
              have HE := Lib.hid (litL_mem (k := tk) (u := u) (by rw [HQ.out, H2.out, decide_eq_true hu1]; rfl) HM.out)
              clear hu1
              go_wp2_with fail
              refine (HCC.out _ (HI.out.of (by (repeat' (first | (with_reducible exact Below.refl _ _) | (with_reducible exact Nat.le_refl _) | (with_reducible refine Below.bel ?_ ?_) | (with_reducible refine Below.alloc ?_ ?_ _) | (with_reducible refine Below.drew ?_) | (with_reducible refine Below.drawsN ?_ _) | (with_reducible refine Below.setCell ?_ ?_ _) | (with_reducible refine le_bel ?_) | (with_reducible refine le_alloc ?_) | (with_reducible refine le_setCell ?_) | (with_reducible refine le_drew ?_) | (with_reducible refine le_drawsN ?_) | (dsimp only; with_reducible refine le_bel ?_) | (dsimp only; with_reducible refine Nat.le_refl _) | (dsimp only; with_reducible refine le_bel_add ?_) | (with_reducible assumption) | omega | (dsimp only; omega)))))).mono ?_
              rintro _ _ ⟨rfl, y, rfl⟩
              have hfb2 := obj_bel y hfb
              obtain ⟨fb0, fb1, fb2⟩ := box3 hfb2
              have c0 := below_cell y.below _ _ _ c0
              dsimp only
              go_wp2
              go_ret
              exact Ret.mk (by (rw [HE.out]; rfl)) (by (repeat' (first | (with_reducible exact Below.refl _ _) | (with_reducible exact Nat.le_refl _) | (with_reducible refine Below.bel ?_ ?_) | (with_reducible refine Below.alloc ?_ ?_ _) | (with_reducible refine Below.drew ?_) | (with_reducible refine Below.drawsN ?_ _) | (with_reducible refine Below.setCell ?_ ?_ _) | (with_reducible refine le_bel ?_) | (with_reducible refine le_alloc ?_) | (with_reducible refine le_setCell ?_) | (with_reducible refine le_drew ?_) | (with_reducible refine le_drawsN ?_) | (dsimp only; with_reducible refine le_bel ?_) | (dsimp only; with_reducible refine Nat.le_refl _) | (dsimp only; with_reducible refine le_bel_add ?_) | (with_reducible assumption) | omega | (dsimp only; omega))))
        · have hke : k = tl.length := by omega
          subst hke
          have f0 : decide ((tl.length : Int) < (tl.length : Int)) = false := decide_eq_false (by omega)
          rw [List.take_length] at HA
          have HE := Lib.hid (litL_all HA.out)
          have hbs := hb.size
          clear hiW
          go_wp2
          go_ret
          exact Ret.mk (by (rw [HE.out]; rfl)) (by (repeat' (first | (with_reducible exact Below.refl _ _) | (with_reducible exact Nat.le_refl _) | (with_reducible refine Below.bel ?_ ?_) | (with_reducible refine Below.alloc ?_ ?_ _) | (with_reducible refine Below.drew ?_) | (with_reducible refine Below.drawsN ?_ _) | (with_reducible refine Below.setCell ?_ ?_ _) | (with_reducible refine le_bel ?_) | (with_reducible refine le_alloc ?_) | (with_reducible refine le_setCell ?_) | (with_reducible refine le_drew ?_) | (with_reducible refine le_drawsN ?_) | (dsimp only; with_reducible refine le_bel ?_) | (dsimp only; with_reducible refine Nat.le_refl _) | (dsimp only; with_reducible refine le_bel_add ?_) | (with_reducible assumption) | omega | (dsimp only; omega))))
    · have f2 : (tk == 2) = false := beq_eq_false_iff_ne.2 h2
      have H2 := Lib.hid h2
      clear h2
      go_enter Tryd.func31, Tryd.ntmps31
      go_wp2
      go_loopw [3] (fun i wr => ∃ k : Nat, i = .int .i64 (k : Int) ∧ k ≤ tl.length ∧ (∀ u ∈ tl.take k, (lit u && !(decide (tk = 2) && decide (u.k ≠ 1))) = true) ∧ wr.heap[w.heap.size]? = some (.cells #[.int .i64 tk, .int .i64 ta, .slice ad tl.length cap] 25 (0, 0)) ∧ Below w.heap.size w wr) (fun i _ => tl.length - (intOf i).toNat)
      case atStart => exact ⟨0, rfl, by omega, fun u hu => by simp at hu, World.alloc_heap_new _ _, by (repeat' (first | (with_reducible exact Below.refl _ _) | (with_reducible exact Nat.le_refl _) | (with_reducible refine Below.bel ?_ ?_) | (with_reducible refine Below.alloc ?_ ?_ _) | (with_reducible refine Below.drew ?_) | (with_reducible refine Below.drawsN ?_ _) | (with_reducible refine Below.setCell ?_ ?_ _) | (with_reducible refine le_bel ?_) | (with_reducible refine le_alloc ?_) | (with_reducible refine le_setCell ?_) | (with_reducible refine le_drew ?_) | (with_reducible refine le_drawsN ?_) | (dsimp only; with_reducible refine le_bel ?_) | (dsimp only; with_reducible refine Nat.le_refl _) | (dsimp only; with_reducible refine le_bel_add ?_) | (with_reducible assumption) | omega | (dsimp only; omega)))⟩
      case round =>
        obtain ⟨k, rfl, hk, hA, hfb, hb⟩ := hrel
        have hiW := below_move hlt (fun _ h => h) hb
        obtain ⟨fb0, fb1, fb2⟩ := box3 hfb
        have HA := Lib.hid hA
        clear hA
        rcases Nat.lt_or_ge k tl.length with hkl | hkl
        · obtain ⟨u, hu⟩ := some_at hkl
          obtain ⟨bb, off, hadd, hp, hcs⟩ := insF_at hiW (by omega)
          cases hadd
          obtain ⟨c0, c1, ad', cap', c2, hiu⟩ := cellF_open (hcs k u hu)
          have f0 : decide ((k : Int) < (tl.length : Int)) = true := decide_eq_true (by omega)
          have hib : (0 ≤ (k : Int) ∧ (k : Int) < (tl.length : Int)) := ⟨by omega, by omega⟩
          have HCC := Lib.hid (HC.out u (List.mem_of_getElem? hu) ad' cap')
          have HI := Lib.hid hiu
          have HTK := Lib.hid (show tl.take (k + 1) = tl.take k ++ [u] by rw [List.take_add_one, hu]; rfl)
          have HM := Lib.hid (List.mem_of_getElem? hu)
          have hbs := hb.size
          obtain ⟨q, hq⟩ : ∃ q, lit u = q := ⟨_, rfl⟩
          rw [hq] at HCC
          have HQ := Lib.hid hq
          have HB := Lib.hid hb
          clear hcs hiW hiu hp hu hq
          cases q
          · have HE := Lib.hid (litL_mem (k := tk) (u := u) (by rw [HQ.out]; rfl) HM.out)
            go_wp2_with fail
            refine (HCC.out _ (HI.out.of (by (repeat' (first | (with_reducible exact Below.refl _ _) | (with_reducible exact Nat.le_refl _) | (with_reducible refine Below.bel ?_ ?_) | (with_reducible refine Below.alloc ?_ ?_ _) | (with_reducible refine Below.drew ?_) | (with_reducible refine Below.drawsN ?_ _) | (with_reducible refine Below.setCell ?_ ?_ _) | (with_reducible refine le_bel ?_) | (with_reducible refine le_alloc ?_) | (with_reducible refine le_setCell ?_) | (with_reducible refine le_drew ?_) | (with_reducible refine le_drawsN ?_) | (dsimp only; with_reducible refine le_bel ?_) | (dsimp only; with_reducible refine Nat.le_refl _) | (dsimp only; with_reducible refine le_bel_add ?_) | (with_reducible assumption) | omega | (dsimp only; omega)))))).mono ?_
            rintro _ _ ⟨rfl, y, rfl⟩
            have hfb2 := obj_bel y hfb
            obtain ⟨fb0, fb1, fb2⟩ := box3 hfb2
            have c0 := below_cell y.below _ _ _ c0
            dsimp only
            go_wp2
            go_ret
            exact Ret.mk (by (rw [HE.out]; rfl)) (by (repeat' (first | (with_reducible exact Below.refl _ _) | (with_reducible exact Nat.le_refl _) | (with_reducible refine Below.bel ?_ ?_) | (with_reducible refine Below.alloc ?_ ?_ _) | (with_reducible refine Below.drew ?_) | (with_reducible refine Below.drawsN ?_ _) | (with_reducible refine Below.setCell ?_ ?_ _) | (with_reducible refine le_bel ?_) | (with_reducible refine le_alloc ?_) | (with_reducible refine le_setCell ?_) | (with_reducible refine le_drew ?_) | (with_reducible refine le_drawsN ?_) | (dsimp only; with_reducible refine le_bel ?_) | (dsimp only; with_reducible refine Nat.le_refl _) | (dsimp only; with_reducible refine le_bel_add ?_) | (with_reducible assumption) | omega | (dsimp only; omega))))
          · have HOK := Lib.hid (show (lit u && !(decide (tk = 2) && decide (u.k ≠ 1))) = true by rw [HQ.out, decide_eq_false H2.out]; rfl)
            go_wp2_with fail
            refine (HCC.out _ (HI.out.of (by (repeat' (first | (with_reducible exact Below.refl _ _) | (with_reducible exact Nat.le_refl _) | (with_reducible refine Below.bel ?_ ?_) | (with_reducible refine Below.alloc ?_ ?_ _) | (with_reducible refine Below.drew ?_) | (with_reducible refine Below.drawsN ?_ _) | (with_reducible refine Below.setCell ?_ ?_ _) | (with_reducible refine le_bel ?_) | (with_reducible refine le_alloc ?_) | (with_reducible refine le_setCell ?_) | (with_reducible refine le_drew ?_) | (with_reducible refine le_drawsN ?_) | (dsimp only; with_reducible refine le_bel ?_) | (dsimp only; with_reducible refine Nat.le_refl _) | (dsimp only; with_reducible refine le_bel_add ?_) | (with_reducible assumption) | omega | (dsimp only; omega)))))).mono ?_
            rintro _ _ ⟨rfl, y, rfl⟩
            have hfb2 := obj_bel y hfb
            obtain ⟨fb0, fb1, fb2⟩ := box3 hfb2
            have c0 := below_cell y.below _ _ _ c0
            dsimp only
            go_wp2
            go_roundw
            case rel => exact ⟨k + 1, by go_num, by omega, by rw [HTK.out]; intro v hv; rcases List.mem_append.1 hv with hv | hv; exact HA.out v hv; rw [List.mem_singleton.1 hv]; exact HOK.out, hfb2, by (repeat' (first | (with_reducible exact Below.refl _ _) | (with_reducible exact Nat.le_refl _) | (with_reducible refine Below.bel ?_ ?_) | (with_reducible refine Below.alloc ?_ ?_ _) | (with_reducible refine Below.drew ?_) | (with_reducible refine Below.drawsN ?_ _) | (with_reducible refine Below.setCell ?_ ?_ _) | (with_reducible refine le_bel ?_) | (with_reducible refine le_alloc ?_) | (with_reducible refine le_setCell ?_) | (with_reducible refine le_drew ?_) | (with_reducible refine le_drawsN ?_) | (dsimp only; with_reducible refine le_bel ?_) | (dsimp only; with_reducible refine Nat.le_refl _) | (dsimp only; with_reducible refine le_bel_add ?_) | (with_reducible assumption) | omega | (dsimp only; omega)))⟩
            case measure => simp [intOf]; omega
        · have hke : k = tl.length := by omega
          subst hke
          have f0 : decide ((tl.length : Int) < (tl.length : Int)) = false := decide_eq_false (by omega)
          rw [List.take_length] at HA
          have HE := Lib.hid (litL_all HA.out)
          have hbs := hb.size
          clear hiW
          go_wp2
          go_ret
          exact Ret.mk (by (rw [HE.out]; rfl)) (by (repeat' (first | (with_reducible exact Below.refl _ _) | (with_reducible exact Nat.le_refl _) | (with_reducible refine Below.bel ?_ ?_) | (with_reducible refine Below.alloc ?_ ?_ _) | (with_reducible refine Below.drew ?_) | (with_reducible refine Below.drawsN ?_ _) | (with_reducible refine Below.setCell ?_ ?_ _) | (with_reducible refine le_bel ?_) | (with_reducible refine le_alloc ?_) | (with_reducible refine le_setCell ?_) | (with_reducible refine le_drew ?_) | (with_reducible refine le_drawsN ?_) | (dsimp only; with_reducible refine le_bel ?_) | (dsimp only; with_reducible refine Nat.le_refl _) | (dsimp only; with_reducible refine le_bel_add ?_) | (with_reducible assumption) | omega | (dsimp only; omega))))
end Go.Proofs.YtkbellmhanpocaaDoor
