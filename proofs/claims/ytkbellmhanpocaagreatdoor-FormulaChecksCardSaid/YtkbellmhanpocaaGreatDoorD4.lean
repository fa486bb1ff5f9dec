/- The reference's Nodes and Levels. -/
import Derived.Test.YtkbellmhanpocaaGreatDoorG8
namespace Go.Proofs.YtkbellmhanpocaaGreatDoor
set_option linter.unusedVariables false
set_option linter.unusedSimpArgs false
open Go.RowKit F
attribute [local go_sem low] Bel.cell Bel.frozen alloc_cell alloc_frozen

theorem nodesL_take4 {l : List F} {k : Nat} {u : F} (h : l[k]? = some u) : nodesL (l.take (k + 1)) = nodesL (l.take k) + nodes u := by
  rw [List.take_add_one, h, nodesL_app]
  show _ + nodesL [u] = _
  rw [nodesL, nodesL, Nat.add_zero]
theorem levelsL_take4 {l : List F} {k : Nat} {u : F} (h : l[k]? = some u) : levelsL (l.take (k + 1)) = max (levelsL (l.take k)) (levels u) := by
  rw [List.take_add_one, h, levelsL_app]
  show max _ (levelsL [u]) = _
  rw [levelsL, levelsL]
  omega
theorem nodesL_take5 (l : List F) (k : Nat) : nodesL (l.take k) ≤ nodesL l := by
  have h := nodesL_app (l.take k) (l.drop k)
  rw [List.take_append_drop] at h
  omega
theorem levelsL_take5 (l : List F) (k : Nat) : levelsL (l.take k) ≤ levelsL l := by
  have h := levelsL_app (l.take k) (l.drop k)
  rw [List.take_append_drop] at h
  omega
theorem levels_le_nodes : ∀ t : F, levels t ≤ nodes t := by
  intro t
  have h : ∀ N (t : F), nodes t ≤ N → levels t ≤ nodes t := by
    intro N
    induction N with
    | zero => intro t h; have := nodes_pos t; omega
    | succ N ih =>
      intro t ht
      obtain ⟨k, a, l⟩ := t
      rw [nodes] at ht
      rw [levels, nodes]
      have hl : ∀ m : List F, nodesL m ≤ N → levelsL m ≤ nodesL m := by
        intro m
        induction m with
        | nil => intro _; rw [levelsL, nodesL]; omega
        | cons u r ihm =>
          intro hm
          rw [nodesL] at hm
          rw [levelsL, nodesL]
          have := ih u (by omega)
          have := ihm (by omega)
          omega
      have := hl l (by omega)
      omega
  exact h _ t (Nat.le_refl _)
set_option maxRecDepth 100000 in
set_option maxHeartbeats 6400000 in
theorem refNodes_any : ∀ (N : Nat) (t : F), nodes t ≤ N → ∀ (P : Nat → Prop) (ad : Option Addr) (cap : Nat) (w : World), InsF P w ad t.l → nodes t ≤ 100000000 →
    Calls Tryz.prog 21 #[.agg #[.int .i64 t.k, .int .i64 t.a, .slice ad t.l.length cap]] w (Ret (.int .i64 (nodes t : Nat)) w) := by
  intro N
  induction N with
  | zero => intro t h; have := nodes_pos t; omega
  | succ N ih =>
    intro t hN P ad cap w hi hbig
    have HNL := Lib.hid (show nodesL t.l ≤ N by rw [nodes_l] at hN; omega)
    have HBIG := Lib.hid (show nodesL t.l ≤ 100000000 by rw [nodes_l] at hbig; omega)
    have hlen : t.l.length ≤ 100000000 := Nat.le_trans (length_nodesL t.l) HBIG.out
    have hlt : InsF (fun c => c < w.heap.size) w ad t.l := hi.imp fun b hb _ => hb
    have HC := Lib.hid (fun u (hu : u ∈ t.l) ad' cap' w' (hiu : InsF (fun c => c < w.heap.size) w' ad' u.l) => ih u (Nat.le_trans (nodesL_mem hu) HNL.out) _ ad' cap' w' hiu (Nat.le_trans (nodesL_mem hu) HBIG.out))
    clear hi hN hbig ih
    obtain ⟨tk, ta, tl⟩ := t
    simp only [F.k, F.a, F.l] at HC HNL HBIG hlen hlt ⊢
    rw [nodes]
    go_enter Tryz.func21, Tryz.ntmps21
    go_wp2
    go_loopw [3, 4] (fun nv i wr => ∃ k : Nat, i = .int .i64 (k : Int) ∧ nv = .int .i64 (1 + (nodesL (tl.take k) : Int)) ∧ k ≤ tl.length ∧ wr.heap[w.heap.size]? = some (.cells #[.int .i64 tk, .int .i64 ta, .slice ad tl.length cap] 35 (0, 0)) ∧ Below w.heap.size w wr) (fun _ i _ => tl.length - (intOf i).toNat)
    case atStart => exact ⟨0, rfl, rfl, by omega, World.alloc_heap_new _ _, by (repeat' (first | (with_reducible exact Below.refl _ _) | (with_reducible exact Nat.le_refl _) | (with_reducible refine Below.bel ?_ ?_) | (with_reducible refine Below.alloc ?_ ?_ _) | (with_reducible refine Below.drew ?_) | (with_reducible refine Below.drawsN ?_ _) | (with_reducible refine Below.setCell ?_ ?_ _) | (with_reducible refine le_bel ?_) | (with_reducible refine le_alloc ?_) | (with_reducible refine le_setCell ?_) | (with_reducible refine le_drew ?_) | (with_reducible refine le_drawsN ?_) | (dsimp only; with_reducible refine le_bel ?_) | (dsimp only; with_reducible refine Nat.le_refl _) | (dsimp only; with_reducible refine le_bel_add ?_) | (with_reducible assumption) | omega | (dsimp only; omega)))⟩
    case round =>
      obtain ⟨k, rfl, rfl, hk, hfb, hb⟩ := hrel
      have hiW := below_move hlt (fun _ h => h) hb
      obtain ⟨fb0, fb1, fb2⟩ := box3 hfb
      have hbs := hb.size
      rcases Nat.lt_or_ge k tl.length with hkl | hkl
      · obtain ⟨u, hu⟩ := some_at hkl
        obtain ⟨bb, off, hadd, hp, hcs⟩ := insF_at hiW (by omega)
        cases hadd
        obtain ⟨c0, c1, ad', cap', c2, hiu⟩ := cellF_open (hcs k u hu)
        have f0 : decide ((k : Int) < (tl.length : Int)) = true := decide_eq_true (by omega)
        have hib : (0 ≤ (k : Int) ∧ (k : Int) < (tl.length : Int)) := ⟨by omega, by omega⟩
        have HCC := HC.out u (List.mem_of_getElem? hu) ad' cap'
        have hlu := levels_le_nodes u
        have hnu := nodesL_mem (List.mem_of_getElem? hu)
        have hbb := HBIG.out
        have htk := nodesL_take4 hu
        have hle := nodesL_take5 tl (k + 1)
        rw [htk] at hle
        generalize nodesL (tl.take k) = A0 at *
        generalize nodes u = NU at *
        have HTK := Lib.hid htk
        have HCC2 := Lib.hid HCC
        have HI := Lib.hid hiu
        clear hcs hiW hiu hp hu HCC htk
        go_wp2_with fail
        refine (HCC2.out _ (HI.out.of (by (repeat' (first | (with_reducible exact Below.refl _ _) | (with_reducible exact Nat.le_refl _) | (with_reducible refine Below.bel ?_ ?_) | (with_reducible refine Below.alloc ?_ ?_ _) | (with_reducible refine Below.drew ?_) | (with_reducible refine Below.drawsN ?_ _) | (with_reducible refine Below.setCell ?_ ?_ _) | (with_reducible refine le_bel ?_) | (with_reducible refine le_alloc ?_) | (with_reducible refine le_setCell ?_) | (with_reducible refine le_drew ?_) | (with_reducible refine le_drawsN ?_) | (dsimp only; with_reducible refine le_bel ?_) | (dsimp only; with_reducible refine Nat.le_refl _) | (dsimp only; with_reducible refine le_bel_add ?_) | (with_reducible assumption) | omega | (dsimp only; omega)))))).mono ?_
        rintro _ _ ⟨rfl, y, rfl⟩
        have hfb2 := obj_bel y hfb
        dsimp only
        go_wp2
        have HEE := Lib.hid (show (1 : Int) + (A0 : Int) + (NU : Int) = 1 + ((A0 + NU : Nat) : Int) by omega)
        go_roundw
        case rel => exact ⟨k + 1, by go_num, by rw [HTK.out, ← HEE.out], by omega, hfb2, by (repeat' (first | (with_reducible exact Below.refl _ _) | (with_reducible exact Nat.le_refl _) | (with_reducible refine Below.bel ?_ ?_) | (with_reducible refine Below.alloc ?_ ?_ _) | (with_reducible refine Below.drew ?_) | (with_reducible refine Below.drawsN ?_ _) | (with_reducible refine Below.setCell ?_ ?_ _) | (with_reducible refine le_bel ?_) | (with_reducible refine le_alloc ?_) | (with_reducible refine le_setCell ?_) | (with_reducible refine le_drew ?_) | (with_reducible refine le_drawsN ?_) | (dsimp only; with_reducible refine le_bel ?_) | (dsimp only; with_reducible refine Nat.le_refl _) | (dsimp only; with_reducible refine le_bel_add ?_) | (with_reducible assumption) | omega | (dsimp only; omega)))⟩
        case measure => simp [intOf]; omega
      · have hke : k = tl.length := by omega
        subst hke
        have f0 : decide ((tl.length : Int) < (tl.length : Int)) = false := decide_eq_false (by omega)
        rw [List.take_length]
        clear hiW
        go_wp2
        go_ret
        exact Ret.mk (by (rw [show ((1 + nodesL tl : Nat) : Int) = 1 + (nodesL tl : Int) by omega]; rfl)) (by (repeat' (first | (with_reducible exact Below.refl _ _) | (with_reducible exact Nat.le_refl _) | (with_reducible refine Below.bel ?_ ?_) | (with_reducible refine Below.alloc ?_ ?_ _) | (with_reducible refine Below.drew ?_) | (with_reducible refine Below.drawsN ?_ _) | (with_reducible refine Below.setCell ?_ ?_ _) | (with_reducible refine le_bel ?_) | (with_reducible refine le_alloc ?_) | (with_reducible refine le_setCell ?_) | (with_reducible refine le_drew ?_) | (with_reducible refine le_drawsN ?_) | (dsimp only; with_reducible refine le_bel ?_) | (dsimp only; with_reducible refine Nat.le_refl _) | (dsimp only; with_reducible refine le_bel_add ?_) | (with_reducible assumption) | omega | (dsimp only; omega))))
set_option maxRecDepth 100000 in
set_option maxHeartbeats 6400000 in
theorem refLevels_any : ∀ (N : Nat) (t : F), nodes t ≤ N → ∀ (P : Nat → Prop) (ad : Option Addr) (cap : Nat) (w : World), InsF P w ad t.l → nodes t ≤ 100000000 →
    Calls Tryz.prog 22 #[.agg #[.int .i64 t.k, .int .i64 t.a, .slice ad t.l.length cap]] w (Ret (.int .i64 (levels t : Nat)) w) := by
  intro N
  induction N with
  | zero => intro t h; have := nodes_pos t; omega
  | succ N ih =>
    intro t hN P ad cap w hi hbig
    have HNL := Lib.hid (show nodesL t.l ≤ N by rw [nodes_l] at hN; omega)
    have HBIG := Lib.hid (show nodesL t.l ≤ 100000000 by rw [nodes_l] at hbig; omega)
    have hlen : t.l.length ≤ 100000000 := Nat.le_trans (length_nodesL t.l) HBIG.out
    have hlt : InsF (fun c => c < w.heap.size) w ad t.l := hi.imp fun b hb _ => hb
    have HC := Lib.hid (fun u (hu : u ∈ t.l) ad' cap' w' (hiu : InsF (fun c => c < w.heap.size) w' ad' u.l) => ih u (Nat.le_trans (nodesL_mem hu) HNL.out) _ ad' cap' w' hiu (Nat.le_trans (nodesL_mem hu) HBIG.out))
    clear hi hN hbig ih
    obtain ⟨tk, ta, tl⟩ := t
    simp only [F.k, F.a, F.l] at HC HNL HBIG hlen hlt ⊢
    rw [levels]
    go_enter Tryz.func22, Tryz.ntmps22
    go_wp2
    go_loopw [3, 4] (fun nv i wr => ∃ k : Nat, i = .int .i64 (k : Int) ∧ nv = .int .i64 (levelsL (tl.take k) : Int) ∧ k ≤ tl.length ∧ wr.heap[w.heap.size]? = some (.cells #[.int .i64 tk, .int .i64 ta, .slice ad tl.length cap] 35 (0, 0)) ∧ Below w.heap.size w wr) (fun _ i _ => tl.length - (intOf i).toNat)
    case atStart => exact ⟨0, rfl, rfl, by omega, World.alloc_heap_new _ _, by (repeat' (first | (with_reducible exact Below.refl _ _) | (with_reducible exact Nat.le_refl _) | (with_reducible refine Below.bel ?_ ?_) | (with_reducible refine Below.alloc ?_ ?_ _) | (with_reducible refine Below.drew ?_) | (with_reducible refine Below.drawsN ?_ _) | (with_reducible refine Below.setCell ?_ ?_ _) | (with_reducible refine le_bel ?_) | (with_reducible refine le_alloc ?_) | (with_reducible refine le_setCell ?_) | (with_reducible refine le_drew ?_) | (with_reducible refine le_drawsN ?_) | (dsimp only; with_reducible refine le_bel ?_) | (dsimp only; with_reducible refine Nat.le_refl _) | (dsimp only; with_reducible refine le_bel_add ?_) | (with_reducible assumption) | omega | (dsimp only; omega)))⟩
    case round =>
      obtain ⟨k, rfl, rfl, hk, hfb, hb⟩ := hrel
      have hiW := below_move hlt (fun _ h => h) hb
      obtain ⟨fb0, fb1, fb2⟩ := box3 hfb
      have hbs := hb.size
      rcases Nat.lt_or_ge k tl.length with hkl | hkl
      · obtain ⟨u, hu⟩ := some_at hkl
        obtain ⟨bb, off, hadd, hp, hcs⟩ := insF_at hiW (by omega)
        cases hadd
        obtain ⟨c0, c1, ad', cap', c2, hiu⟩ := cellF_open (hcs k u hu)
        have f0 : decide ((k : Int) < (tl.length : Int)) = true := decide_eq_true (by omega)
        have hib : (0 ≤ (k : Int) ∧ (k : Int) < (tl.length : Int)) := ⟨by omega, by omega⟩
        have HCC := HC.out u (List.mem_of_getElem? hu) ad' cap'
        have hlu := levels_le_nodes u
        have hnu := nodesL_mem (List.mem_of_getElem? hu)
        have hbb := HBIG.out
        have htk := levelsL_take4 hu
        generalize levelsL (tl.take k) = A0 at *
        generalize levels u = NU at *
        have HTK := Lib.hid htk
        have HCC2 := Lib.hid HCC
        have HI := Lib.hid hiu
        clear hcs hiW hiu hp hu HCC htk
        go_wp2_with fail
        refine (HCC2.out _ (HI.out.of (by (repeat' (first | (with_reducible exact Below.refl _ _) | (with_reducible exact Nat.le_refl _) | (with_reducible refine Below.bel ?_ ?_) | (with_reducible refine Below.alloc ?_ ?_ _) | (with_reducible refine Below.drew ?_) | (with_reducible refine Below.drawsN ?_ _) | (with_reducible refine Below.setCell ?_ ?_ _) | (with_reducible refine le_bel ?_) | (with_reducible refine le_alloc ?_) | (with_reducible refine le_setCell ?_) | (with_reducible refine le_drew ?_) | (with_reducible refine le_drawsN ?_) | (dsimp only; with_reducible refine le_bel ?_) | (dsimp only; with_reducible refine Nat.le_refl _) | (dsimp only; with_reducible refine le_bel_add ?_) | (with_reducible assumption) | omega | (dsimp only; omega)))))).mono ?_
        rintro _ _ ⟨rfl, y, rfl⟩
        have hfb2 := obj_bel y hfb
        dsimp only
        go_wp2
        have HEE := Lib.hid (show ((max A0 NU : Nat) : Int) = if A0 < NU then (NU : Int) else (A0 : Int) by split <;> omega)
        go_roundw
        case rel => exact ⟨k + 1, by go_num, by rw [HTK.out, HEE.out], by omega, hfb2, by (repeat' (first | (with_reducible exact Below.refl _ _) | (with_reducible exact Nat.le_refl _) | (with_reducible refine Below.bel ?_ ?_) | (with_reducible refine Below.alloc ?_ ?_ _) | (with_reducible refine Below.drew ?_) | (with_reducible refine Below.drawsN ?_ _) | (with_reducible refine Below.setCell ?_ ?_ _) | (with_reducible refine le_bel ?_) | (with_reducible refine le_alloc ?_) | (with_reducible refine le_setCell ?_) | (with_reducible refine le_drew ?_) | (with_reducible refine le_drawsN ?_) | (dsimp only; with_reducible refine le_bel ?_) | (dsimp only; with_reducible refine Nat.le_refl _) | (dsimp only; with_reducible refine le_bel_add ?_) | (with_reducible assumption) | omega | (dsimp only; omega)))⟩
        case measure => simp [intOf]; omega
      · have hke : k = tl.length := by omega
        subst hke
        have f0 : decide ((tl.length : Int) < (tl.length : Int)) = false := decide_eq_false (by omega)
        rw [List.take_length]
        have hlv := levels_le_nodes (nd tk ta tl)
        rw [nodes, levels] at hlv
        have hbb := HBIG.out
        clear hiW
        go_wp2
        go_ret
        exact Ret.mk (by (rw [show ((1 + levelsL tl : Nat) : Int) = (levelsL tl : Int) + 1 by omega]; rfl)) (by (repeat' (first | (with_reducible exact Below.refl _ _) | (with_reducible exact Nat.le_refl _) | (with_reducible refine Below.bel ?_ ?_) | (with_reducible refine Below.alloc ?_ ?_ _) | (with_reducible refine Below.drew ?_) | (with_reducible refine Below.drawsN ?_ _) | (with_reducible refine Below.setCell ?_ ?_ _) | (with_reducible refine le_bel ?_) | (with_reducible refine le_alloc ?_) | (with_reducible refine le_setCell ?_) | (with_reducible refine le_drew ?_) | (with_reducible refine le_drawsN ?_) | (dsimp only; with_reducible refine le_bel ?_) | (dsimp only; with_reducible refine Nat.le_refl _) | (dsimp only; with_reducible refine le_bel_add ?_) | (with_reducible assumption) | omega | (dsimp only; omega))))
end Go.Proofs.YtkbellmhanpocaaGreatDoor
