/- grown, Substitute, Restrict. -/
import Derived.RegionTactic
import Derived.BigRegion
import Derived.Test.YtkbellmhanpocaaGreatDoorQ2
namespace Go.Proofs.YtkbellmhanpocaaGreatDoor
set_option linter.unusedVariables false
set_option linter.unusedSimpArgs false
open Go.RowKit F
attribute [local go_sem low] Bel.cell Bel.frozen alloc_cell alloc_frozen
attribute [local go_sem] calmOp chainOp yieldsC grows

theorem bx2 {W : World} {b : Nat} {x y : Value} {t : TypeId} (h : W.heap[b]? = some (.cells #[x, y] t (0, 0))) : W.cell? ⟨b, 0, none⟩ = some x ∧ W.cell? ⟨b, 1, none⟩ = some y := by
  refine ⟨?_, ?_⟩ <;> simp [World.cell?, h]
theorem bx2f {W : World} {b : Nat} {x y : Value} {t : TypeId} (h : W.heap[b]? = some (.cells #[x, y] t (0, 0))) : W.frozen? ⟨b, 0, none⟩ = false ∧ W.frozen? ⟨b, 1, none⟩ = false := by
  refine ⟨?_, ?_⟩ <;> simp [World.frozen?, h]
theorem ob_set2 {W : World} {b : Nat} {x y : Value} {t : TypeId} (x' y' : Value) (h : W.heap[b]? = some (.cells #[x, y] t (0, 0))) :
    ((W.setCell ⟨b, 0, none⟩ x').setCell ⟨b, 1, none⟩ y').heap[b]? = some (.cells #[x', y'] t (0, 0)) := obj_set y' (obj_set x' h)
theorem nodesL_one (t : F) : nodesL [t] = nodes t := by rw [nodesL, nodesL, Nat.add_zero]
theorem levelsL_one (t : F) : levelsL [t] = levels t := by rw [levelsL, levelsL]; omega
theorem nodesL_take3 (l : List F) (n : Nat) : nodesL (l.take n) ≤ nodesL l := by
  have h := nodesL_app (l.take n) (l.drop n)
  rw [List.take_append_drop] at h
  omega
theorem levelsL_take3 (l : List F) (n : Nat) : levelsL (l.take n) ≤ levelsL l := by
  have h := levelsL_app (l.take n) (l.drop n)
  rw [List.take_append_drop] at h
  omega
set_option maxRecDepth 100000 in
set_option maxHeartbeats 12800000 in
theorem grown_any (x : Int) (bf : F) (hbn : nodes bf ≤ 100000000) (hbl : levels bf ≤ 100000000) : ∀ (N : Nat) (t : F), nodes t ≤ N → ∀ (P : Nat → Prop) (ad : Option Addr) (cap : Nat) (w : World), InsF P w ad t.l → nodes t ≤ 100000000 → nodes (put x bf t) ≤ 100000000 → levels (put x bf t) ≤ 100000000 →
    Calls Tryz.prog 31 #[.agg #[.int .i64 t.k, .int .i64 t.a, .slice ad t.l.length cap], .int .i64 x, .agg #[.int .i64 (nodes bf : Nat), .int .i64 (levels bf : Nat)]] w (Ret (.agg #[.int .i64 (nodes (put x bf t) : Nat), .int .i64 (levels (put x bf t) : Nat)]) w) := by
  intro N
  induction N with
  | zero => intro t h; have := nodes_pos t; omega
  | succ N ih =>
    intro t hN P ad cap w hi hbig hpn hpl
    have HNL := Lib.hid (show nodesL t.l ≤ N by rw [nodes_l] at hN; omega)
    have HBIG := Lib.hid (show nodesL t.l ≤ 100000000 by rw [nodes_l] at hbig; omega)
    have hlen : t.l.length ≤ 100000000 := Nat.le_trans (length_nodesL t.l) HBIG.out
    have hlt : InsF (fun c => c < w.heap.size) w ad t.l := hi.imp fun b hb _ => hb
    clear hi hN hbig
    obtain ⟨tk, ta, tl⟩ := t
    simp only [nd_k, nd_a, nd_l] at HNL HBIG hlen hlt ⊢
    by_cases h1 : tk = 1 ∧ ta = x
    · obtain ⟨rfl, rfl⟩ := h1
      rw [put_hit]
      clear ih hpn hpl
      generalize nodes bf = nb at *
      generalize levels bf = lb at *
      go_enter Tryz.func31, Tryz.ntmps31
      go_wp2
      have hres := heap3_2 w (.cells #[.int .i64 1, .int .i64 ta, .slice ad tl.length cap] 26) (.cells #[.int .i64 (nb : Int), .int .i64 (lb : Int)] 60) (.cells #[.int .i64 0, .int .i64 0] 60)
      have hR := ob_set2 (.int .i64 (nb : Int)) (.int .i64 (lb : Int)) hres
      obtain ⟨q0, q1⟩ := bx2 hR
      refine bodyPost_ret (v := .agg #[.int .i64 (nb : Int), .int .i64 (lb : Int)]) (by simp [results, Tryz.results31, go_sem, q0, q1]) rfl (Ret.mk (by rfl) (by (repeat' (first | (with_reducible exact Below.refl _ _) | (with_reducible exact Nat.le_refl _) | (with_reducible refine Below.bel ?_ ?_) | (with_reducible refine Below.alloc ?_ ?_ _) | (with_reducible refine Below.drew ?_) | (with_reducible refine Below.drawsN ?_ _) | (with_reducible refine Below.setCell ?_ ?_ _) | (with_reducible refine le_bel ?_) | (with_reducible refine le_alloc ?_) | (with_reducible refine le_setCell ?_) | (with_reducible refine le_drew ?_) | (with_reducible refine le_drawsN ?_) | (dsimp only; with_reducible refine le_bel ?_) | (dsimp only; with_reducible refine Nat.le_refl _) | (dsimp only; with_reducible refine le_bel_add ?_) | (with_reducible assumption) | omega | (dsimp only; omega)))))
    · rw [put_miss bf tl h1] at hpn hpl ⊢
      rw [nodes] at hpn
      rw [levels] at hpl
      rw [nodes, levels]
      have HC := Lib.hid (fun u (hu : u ∈ tl) ad' cap' w' (hiu : InsF (fun c => c < w.heap.size) w' ad' u.l) => ih u (Nat.le_trans (nodesL_mem hu) HNL.out) _ ad' cap' w' hiu (Nat.le_trans (nodesL_mem hu) HBIG.out) (by have := nodesL_mem (List.mem_map_of_mem (f := put x bf) hu); omega) (by have := levelsL_mem (List.mem_map_of_mem (f := put x bf) hu); omega))
      have HF : (tk == 1) = false ∨ (tk == 1) = true ∧ (ta == x) = false := by
        by_cases e1 : tk = 1
        · exact .inr ⟨beq_iff_eq.2 e1, beq_eq_false_iff_ne.2 fun e => h1 ⟨e1, e⟩⟩
        · exact .inl (beq_eq_false_iff_ne.2 e1)
      clear h1 ih
      generalize nodes bf = nb at *
      generalize levels bf = lb at *
      rcases HF with f1 | ⟨f1, f2⟩
      · go_enter Tryz.func31, Tryz.ntmps31
        go_wp2
        go_loopw [25] (fun i wr => ∃ k : Nat, i = .int .i64 (k : Int) ∧ k ≤ tl.length ∧ wr.heap[w.heap.size + 3]? = some (.cells #[.int .i64 ((1 + nodesL ((tl.take k).map (put x bf)) : Nat) : Int), .int .i64 ((levelsL ((tl.take k).map (put x bf)) : Nat) : Int)] 60 (0, 0)) ∧
          wr.heap[w.heap.size + 2]? = some (.cells #[.int .i64 0, .int .i64 0] 60 (0, 0)) ∧ wr.heap[w.heap.size + 1]? = some (.cells #[.int .i64 (nb : Int), .int .i64 (lb : Int)] 60 (0, 0)) ∧
          wr.heap[w.heap.size]? = some (.cells #[.int .i64 tk, .int .i64 ta, .slice ad tl.length cap] 26 (0, 0)) ∧ Below w.heap.size w wr ∧ w.heap.size + 4 ≤ wr.heap.size) (fun i _ => tl.length - (intOf i).toNat)
        case atStart =>
          have hal : ∀ (W : World) (o : Obj), Below W.heap.size W (W.alloc o) := fun W o => (Below.refl _ _).alloc (Nat.le_refl _) o
          refine ⟨0, rfl, by omega, ?_, obj_bel ⟨_, hal _ _⟩ (heap3_2 _ _ _ _), obj_bel ⟨_, hal _ _⟩ (heap3_1 _ _ _ _), obj_bel ⟨_, hal _ _⟩ (heap3_0 _ _ _ _), by (repeat' (first | (with_reducible exact Below.refl _ _) | (with_reducible exact Nat.le_refl _) | (with_reducible refine Below.bel ?_ ?_) | (with_reducible refine Below.alloc ?_ ?_ _) | (with_reducible refine Below.drew ?_) | (with_reducible refine Below.drawsN ?_ _) | (with_reducible refine Below.setCell ?_ ?_ _) | (with_reducible refine le_bel ?_) | (with_reducible refine le_alloc ?_) | (with_reducible refine le_setCell ?_) | (with_reducible refine le_drew ?_) | (with_reducible refine le_drawsN ?_) | (dsimp only; with_reducible refine le_bel ?_) | (dsimp only; with_reducible refine Nat.le_refl _) | (dsimp only; with_reducible refine le_bel_add ?_) | (with_reducible assumption) | omega | (dsimp only; omega))), by simp⟩
          have o3 := World.alloc_heap_new (((w.alloc (.cells #[.int .i64 tk, .int .i64 ta, .slice ad tl.length cap] 26)).alloc (.cells #[.int .i64 (nb : Int), .int .i64 (lb : Int)] 60)).alloc (.cells #[.int .i64 0, .int .i64 0] 60)) (.cells #[.int .i64 1, .int .i64 0] 60)
          rw [show (((w.alloc (.cells #[.int .i64 tk, .int .i64 ta, .slice ad tl.length cap] 26)).alloc (.cells #[.int .i64 (nb : Int), .int .i64 (lb : Int)] 60)).alloc (.cells #[.int .i64 0, .int .i64 0] 60)).heap.size = w.heap.size + 3 by simp] at o3
          exact o3
        case round =>
          obtain ⟨k, rfl, hk, hs, hres, hbo, hfb, hb, hsz⟩ := hrel
          have hiW := below_move hlt (fun _ h => h) hb
          obtain ⟨fb0, fb1, fb2⟩ := box3 hfb
          obtain ⟨by0, by1⟩ := bx2 hbo
          have hnk := nodesL_take3 (tl.map (put x bf)) k
          have hlk := levelsL_take3 (tl.map (put x bf)) k
          rw [← List.map_take] at hnk hlk
          rcases Nat.lt_or_ge k tl.length with hkl | hkl
          · obtain ⟨u, hu⟩ := some_at hkl
            have hum := List.mem_of_getElem? hu
            obtain ⟨bb, off, hadd, hp, hcs⟩ := insF_at hiW (by omega)
            cases hadd
            obtain ⟨c0, c1, ad', cap', c2, hiu⟩ := cellF_open (hcs k u hu)
            have f0 : decide ((k : Int) < (tl.length : Int)) = true := decide_eq_true (by omega)
            have hib : (0 ≤ (k : Int) ∧ (k : Int) < (tl.length : Int)) := ⟨by omega, by omega⟩
            have HCC := HC.out u hum ad' cap'
            have hn1 := nodesL_take3 (tl.map (put x bf)) (k + 1)
            have hl1 := levelsL_take3 (tl.map (put x bf)) (k + 1)
            rw [← List.map_take] at hn1 hl1
            have htk : (tl.take (k + 1)).map (put x bf) = (tl.take k).map (put x bf) ++ [put x bf u] := by rw [List.take_add_one, hu, List.map_append]; rfl
            rw [htk, nodesL_app, nodesL_one] at hn1
            rw [htk, levelsL_app, levelsL_one] at hl1
            have htk1 : nodesL ((tl.take (k + 1)).map (put x bf)) = nodesL ((tl.take k).map (put x bf)) + nodes (put x bf u) := by rw [htk, nodesL_app, nodesL_one]
            have htk2 : levelsL ((tl.take (k + 1)).map (put x bf)) = max (levelsL ((tl.take k).map (put x bf))) (levels (put x bf u)) := by rw [htk, levelsL_app, levelsL_one]
            clear htk
            generalize nodesL ((tl.take k).map (put x bf)) = A at *
            generalize levelsL ((tl.take k).map (put x bf)) = B at *
            generalize nodes (put x bf u) = NU at *
            generalize levels (put x bf u) = LU at *
            have HI := Lib.hid hiu
            have HT1 := Lib.hid htk1
            have HT2 := Lib.hid htk2
            have HCC2 := Lib.hid HCC
            have HB0 := Lib.hid hb
            clear hcs hiW hiu hu hum hp HCC htk1 htk2
            go_wp2_with fail
            refine (HCC2.out _ (HI.out.of (by (repeat' (first | (with_reducible exact Below.refl _ _) | (with_reducible exact Nat.le_refl _) | (with_reducible refine Below.bel ?_ ?_) | (with_reducible refine Below.alloc ?_ ?_ _) | (with_reducible refine Below.drew ?_) | (with_reducible refine Below.drawsN ?_ _) | (with_reducible refine Below.setCell ?_ ?_ _) | (with_reducible refine le_bel ?_) | (with_reducible refine le_alloc ?_) | (with_reducible refine le_setCell ?_) | (with_reducible refine le_drew ?_) | (with_reducible refine le_drawsN ?_) | (dsimp only; with_reducible refine le_bel ?_) | (dsimp only; with_reducible refine Nat.le_refl _) | (dsimp only; with_reducible refine le_bel_add ?_) | (with_reducible assumption) | omega | (dsimp only; omega)))))).mono ?_
            rintro _ _ ⟨rfl, y, rfl⟩
            have hys := y.size_le
            simp at hys
            have hby : Below wr.heap.size wr (y.w.alloc (.cells #[.int .i64 (NU : Int), .int .i64 (LU : Int)] 60)) := by (repeat' (first | (with_reducible exact Below.refl _ _) | (with_reducible exact Nat.le_refl _) | (with_reducible refine Below.bel ?_ ?_) | (with_reducible refine Below.alloc ?_ ?_ _) | (with_reducible refine Below.drew ?_) | (with_reducible refine Below.drawsN ?_ _) | (with_reducible refine Below.setCell ?_ ?_ _) | (with_reducible refine le_bel ?_) | (with_reducible refine le_alloc ?_) | (with_reducible refine le_setCell ?_) | (with_reducible refine le_drew ?_) | (with_reducible refine le_drawsN ?_) | (dsimp only; with_reducible refine le_bel ?_) | (dsimp only; with_reducible refine Nat.le_refl _) | (dsimp only; with_reducible refine le_bel_add ?_) | (with_reducible assumption) | omega | (dsimp only; omega)))
            have hs2 := obj_bel ⟨_, hby⟩ hs
            have hr2 := obj_bel ⟨_, hby⟩ hres
            have ho2 := obj_bel ⟨_, hby⟩ hbo
            have hf2 := obj_bel ⟨_, hby⟩ hfb
            obtain ⟨s0, s1⟩ := bx2 hs2
            obtain ⟨s2, s3⟩ := bx2f hs2
            have HBY := Lib.hid hby
            have hyo := World.alloc_heap_new y.w (.cells #[.int .i64 (NU : Int), .int .i64 (LU : Int)] 60)
            obtain ⟨t0, t1⟩ := bx2 hyo
            dsimp only
            go_wp2
            obtain ⟨Z, hZ⟩ : ∃ Z, y.w.alloc (.cells #[.int .i64 (NU : Int), .int .i64 (LU : Int)] 60) = Z := ⟨_, rfl⟩
            rw [hZ] at s0 s1 s2 s3 t0 t1 hs2 hr2 ho2 hf2 HBY ⊢
            obtain ⟨yb, hyb⟩ : ∃ yb, y.w.heap.size = yb := ⟨_, rfl⟩
            rw [hyb] at t0 t1 hys ⊢
            have hne : yb ≠ w.heap.size + 3 := by omega
            clear hyo hZ hyb hby hs hres hbo hfb fb0 fb1 fb2 by0 by1 c0 c1 c2 y hb
            go_region
            go_wp2
            have e1 : ((1 + (A + NU) : Nat) : Int) = 1 + (A : Int) + (NU : Int) := by omega
            have e2 : ((max B LU : Nat) : Int) = if B < LU then (LU : Int) else (B : Int) := by split <;> omega
            have HE1 := Lib.hid e1
            have HE2 := Lib.hid e2
            have hZs := HBY.out.size
            clear e1 e2
            go_roundw
            case rel => exact ⟨k + 1, by go_num, by omega, by rw [HT1.out, HT2.out, HE1.out, HE2.out]; exact ob_set2 _ _ hs2, obj_ne _ (by omega) (obj_ne _ (by omega) hr2), obj_ne _ (by omega) (obj_ne _ (by omega) ho2), obj_ne _ (by omega) (obj_ne _ (by omega) hf2), (((HB0.out.trans (HBY.out.mono HB0.out.size)).setCell (p := ⟨w.heap.size + 3, 0, none⟩) (by simp) _).setCell (p := ⟨w.heap.size + 3, 1, none⟩) (by simp) _).drew, by simp; omega⟩
            case measure => simp [intOf]; omega
          · have hke : k = tl.length := by omega
            subst hke
            have f0 : decide ((tl.length : Int) < (tl.length : Int)) = false := decide_eq_false (by omega)
            rw [List.take_length] at hs
            generalize nodesL (tl.map (put x bf)) = A at *
            generalize levelsL (tl.map (put x bf)) = B at *
            obtain ⟨s0, s1⟩ := bx2 hs
            obtain ⟨s2, s3⟩ := bx2f hs
            obtain ⟨r0, r1⟩ := bx2 hres
            obtain ⟨r2, r3⟩ := bx2f hres
            clear hiW hnk hlk
            go_wp2
            have hs2 := obj_set (i := 1) (.int .i64 ((B : Int) + 1)) hs
            obtain ⟨q0, q1⟩ := bx2 hs2
            have hR := ob_set2 (.int .i64 (1 + (A : Int))) (.int .i64 ((B : Int) + 1)) (obj_ne (c := w.heap.size + 3) (i := 1) (.int .i64 ((B : Int) + 1)) (by omega) hres)
            obtain ⟨q2, q3⟩ := bx2 hR
            refine bodyPost_ret (v := .agg #[.int .i64 (1 + (A : Int)), .int .i64 ((B : Int) + 1)]) (by simp [results, Tryz.results31, go_sem, q2, q3]) rfl (Ret.mk (by rw [show ((1 + A : Nat) : Int) = 1 + (A : Int) by omega, show ((1 + B : Nat) : Int) = (B : Int) + 1 by omega]) (by (repeat' (first | (with_reducible exact Below.refl _ _) | (with_reducible exact Nat.le_refl _) | (with_reducible refine Below.bel ?_ ?_) | (with_reducible refine Below.alloc ?_ ?_ _) | (with_reducible refine Below.drew ?_) | (with_reducible refine Below.drawsN ?_ _) | (with_reducible refine Below.setCell ?_ ?_ _) | (with_reducible refine le_bel ?_) | (with_reducible refine le_alloc ?_) | (with_reducible refine le_setCell ?_) | (with_reducible refine le_drew ?_) | (with_reducible refine le_drawsN ?_) | (dsimp only; with_reducible refine le_bel ?_) | (dsimp only; with_reducible refine Nat.le_refl _) | (dsimp only; with_reducible refine le_bel_add ?_) | (with_reducible assumption) | omega | (dsimp only; omega)))))
      · go_enter Tryz.func31, Tryz.ntmps31
        go_wp2
        go_loopw [25] (fun i wr => ∃ k : Nat, i = .int .i64 (k : Int) ∧ k ≤ tl.length ∧ wr.heap[w.heap.size + 3]? = some (.cells #[.int .i64 ((1 + nodesL ((tl.take k).map (put x bf)) : Nat) : Int), .int .i64 ((levelsL ((tl.take k).map (put x bf)) : Nat) : Int)] 60 (0, 0)) ∧
          wr.heap[w.heap.size + 2]? = some (.cells #[.int .i64 0, .int .i64 0] 60 (0, 0)) ∧ wr.heap[w.heap.size + 1]? = some (.cells #[.int .i64 (nb : Int), .int .i64 (lb : Int)] 60 (0, 0)) ∧
          wr.heap[w.heap.size]? = some (.cells #[.int .i64 tk, .int .i64 ta, .slice ad tl.length cap] 26 (0, 0)) ∧ Below w.heap.size w wr ∧ w.heap.size + 4 ≤ wr.heap.size) (fun i _ => tl.length - (intOf i).toNat)
        case atStart =>
          have hal : ∀ (W : World) (o : Obj), Below W.heap.size W (W.alloc o) := fun W o => (Below.refl _ _).alloc (Nat.le_refl _) o
          refine ⟨0, rfl, by omega, ?_, obj_bel ⟨_, hal _ _⟩ (heap3_2 _ _ _ _), obj_bel ⟨_, hal _ _⟩ (heap3_1 _ _ _ _), obj_bel ⟨_, hal _ _⟩ (heap3_0 _ _ _ _), by (repeat' (first | (with_reducible exact Below.refl _ _) | (with_reducible exact Nat.le_refl _) | (with_reducible refine Below.bel ?_ ?_) | (with_reducible refine Below.alloc ?_ ?_ _) | (with_reducible refine Below.drew ?_) | (with_reducible refine Below.drawsN ?_ _) | (with_reducible refine Below.setCell ?_ ?_ _) | (with_reducible refine le_bel ?_) | (with_reducible refine le_alloc ?_) | (with_reducible refine le_setCell ?_) | (with_reducible refine le_drew ?_) | (with_reducible refine le_drawsN ?_) | (dsimp only; with_reducible refine le_bel ?_) | (dsimp only; with_reducible refine Nat.le_refl _) | (dsimp only; with_reducible refine le_bel_add ?_) | (with_reducible assumption) | omega | (dsimp only; omega))), by simp⟩
          have o3 := World.alloc_heap_new (((w.alloc (.cells #[.int .i64 tk, .int .i64 ta, .slice ad tl.length cap] 26)).alloc (.cells #[.int .i64 (nb : Int), .int .i64 (lb : Int)] 60)).alloc (.cells #[.int .i64 0, .int .i64 0] 60)) (.cells #[.int .i64 1, .int .i64 0] 60)
          rw [show (((w.alloc (.cells #[.int .i64 tk, .int .i64 ta, .slice ad tl.length cap] 26)).alloc (.cells #[.int .i64 (nb : Int), .int .i64 (lb : Int)] 60)).alloc (.cells #[.int .i64 0, .int .i64 0] 60)).heap.size = w.heap.size + 3 by simp] at o3
          exact o3
        case round =>
          obtain ⟨k, rfl, hk, hs, hres, hbo, hfb, hb, hsz⟩ := hrel
          have hiW := below_move hlt (fun _ h => h) hb
          obtain ⟨fb0, fb1, fb2⟩ := box3 hfb
          obtain ⟨by0, by1⟩ := bx2 hbo
          have hnk := nodesL_take3 (tl.map (put x bf)) k
          have hlk := levelsL_take3 (tl.map (put x bf)) k
          rw [← List.map_take] at hnk hlk
          rcases Nat.lt_or_ge k tl.length with hkl | hkl
          · obtain ⟨u, hu⟩ := some_at hkl
            have hum := List.mem_of_getElem? hu
            obtain ⟨bb, off, hadd, hp, hcs⟩ := insF_at hiW (by omega)
            cases hadd
            obtain ⟨c0, c1, ad', cap', c2, hiu⟩ := cellF_open (hcs k u hu)
            have f0 : decide ((k : Int) < (tl.length : Int)) = true := decide_eq_true (by omega)
            have hib : (0 ≤ (k : Int) ∧ (k : Int) < (tl.length : Int)) := ⟨by omega, by omega⟩
            have HCC := HC.out u hum ad' cap'
            have hn1 := nodesL_take3 (tl.map (put x bf)) (k + 1)
            have hl1 := levelsL_take3 (tl.map (put x bf)) (k + 1)
            rw [← List.map_take] at hn1 hl1
            have htk : (tl.take (k + 1)).map (put x bf) = (tl.take k).map (put x bf) ++ [put x bf u] := by rw [List.take_add_one, hu, List.map_append]; rfl
            rw [htk, nodesL_app, nodesL_one] at hn1
            rw [htk, levelsL_app, levelsL_one] at hl1
            have htk1 : nodesL ((tl.take (k + 1)).map (put x bf)) = nodesL ((tl.take k).map (put x bf)) + nodes (put x bf u) := by rw [htk, nodesL_app, nodesL_one]
            have htk2 : levelsL ((tl.take (k + 1)).map (put x bf)) = max (levelsL ((tl.take k).map (put x bf))) (levels (put x bf u)) := by rw [htk, levelsL_app, levelsL_one]
            clear htk
            generalize nodesL ((tl.take k).map (put x bf)) = A at *
            generalize levelsL ((tl.take k).map (put x bf)) = B at *
            generalize nodes (put x bf u) = NU at *
            generalize levels (put x bf u) = LU at *
            have HI := Lib.hid hiu
            have HT1 := Lib.hid htk1
            have HT2 := Lib.hid htk2
            have HCC2 := Lib.hid HCC
            have HB0 := Lib.hid hb
            clear hcs hiW hiu hu hum hp HCC htk1 htk2
            go_wp2_with fail
            refine (HCC2.out _ (HI.out.of (by (repeat' (first | (with_reducible exact Below.refl _ _) | (with_reducible exact Nat.le_refl _) | (with_reducible refine Below.bel ?_ ?_) | (with_reducible refine Below.alloc ?_ ?_ _) | (with_reducible refine Below.drew ?_) | (with_reducible refine Below.drawsN ?_ _) | (with_reducible refine Below.setCell ?_ ?_ _) | (with_reducible refine le_bel ?_) | (with_reducible refine le_alloc ?_) | (with_reducible refine le_setCell ?_) | (with_reducible refine le_drew ?_) | (with_reducible refine le_drawsN ?_) | (dsimp only; with_reducible refine le_bel ?_) | (dsimp only; with_reducible refine Nat.le_refl _) | (dsimp only; with_reducible refine le_bel_add ?_) | (with_reducible assumption) | omega | (dsimp only; omega)))))).mono ?_
            rintro _ _ ⟨rfl, y, rfl⟩
            have hys := y.size_le
            simp at hys
            have hby : Below wr.heap.size wr (y.w.alloc (.cells #[.int .i64 (NU : Int), .int .i64 (LU : Int)] 60)) := by (repeat' (first | (with_reducible exact Below.refl _ _) | (with_reducible exact Nat.le_refl _) | (with_reducible refine Below.bel ?_ ?_) | (with_reducible refine Below.alloc ?_ ?_ _) | (with_reducible refine Below.drew ?_) | (with_reducible refine Below.drawsN ?_ _) | (with_reducible refine Below.setCell ?_ ?_ _) | (with_reducible refine le_bel ?_) | (with_reducible refine le_alloc ?_) | (with_reducible refine le_setCell ?_) | (with_reducible refine le_drew ?_) | (with_reducible refine le_drawsN ?_) | (dsimp only; with_reducible refine le_bel ?_) | (dsimp only; with_reducible refine Nat.le_refl _) | (dsimp only; with_reducible refine le_bel_add ?_) | (with_reducible assumption) | omega | (dsimp only; omega)))
            have hs2 := obj_bel ⟨_, hby⟩ hs
            have hr2 := obj_bel ⟨_, hby⟩ hres
            have ho2 := obj_bel ⟨_, hby⟩ hbo
            have hf2 := obj_bel ⟨_, hby⟩ hfb
            obtain ⟨s0, s1⟩ := bx2 hs2
            obtain ⟨s2, s3⟩ := bx2f hs2
            have HBY := Lib.hid hby
            have hyo := World.alloc_heap_new y.w (.cells #[.int .i64 (NU : Int), .int .i64 (LU : Int)] 60)
            obtain ⟨t0, t1⟩ := bx2 hyo
            dsimp only
            go_wp2
            obtain ⟨Z, hZ⟩ : ∃ Z, y.w.alloc (.cells #[.int .i64 (NU : Int), .int .i64 (LU : Int)] 60) = Z := ⟨_, rfl⟩
            rw [hZ] at s0 s1 s2 s3 t0 t1 hs2 hr2 ho2 hf2 HBY ⊢
            obtain ⟨yb, hyb⟩ : ∃ yb, y.w.heap.size = yb := ⟨_, rfl⟩
            rw [hyb] at t0 t1 hys ⊢
            have hne : yb ≠ w.heap.size + 3 := by omega
            clear hyo hZ hyb hby hs hres hbo hfb fb0 fb1 fb2 by0 by1 c0 c1 c2 y hb
            go_region
            go_wp2
            have e1 : ((1 + (A + NU) : Nat) : Int) = 1 + (A : Int) + (NU : Int) := by omega
            have e2 : ((max B LU : Nat) : Int) = if B < LU then (LU : Int) else (B : Int) := by split <;> omega
            have HE1 := Lib.hid e1
            have HE2 := Lib.hid e2
            have hZs := HBY.out.size
            clear e1 e2
            go_roundw
            case rel => exact ⟨k + 1, by go_num, by omega, by rw [HT1.out, HT2.out, HE1.out, HE2.out]; exact ob_set2 _ _ hs2, obj_ne _ (by omega) (obj_ne _ (by omega) hr2), obj_ne _ (by omega) (obj_ne _ (by omega) ho2), obj_ne _ (by omega) (obj_ne _ (by omega) hf2), (((HB0.out.trans (HBY.out.mono HB0.out.size)).setCell (p := ⟨w.heap.size + 3, 0, none⟩) (by simp) _).setCell (p := ⟨w.heap.size + 3, 1, none⟩) (by simp) _).drew, by simp; omega⟩
            case measure => simp [intOf]; omega
          · have hke : k = tl.length := by omega
            subst hke
            have f0 : decide ((tl.length : Int) < (tl.length : Int)) = false := decide_eq_false (by omega)
            rw [List.take_length] at hs
            generalize nodesL (tl.map (put x bf)) = A at *
            generalize levelsL (tl.map (put x bf)) = B at *
            obtain ⟨s0, s1⟩ := bx2 hs
            obtain ⟨s2, s3⟩ := bx2f hs
            obtain ⟨r0, r1⟩ := bx2 hres
            obtain ⟨r2, r3⟩ := bx2f hres
            clear hiW hnk hlk
            go_wp2
            have hs2 := obj_set (i := 1) (.int .i64 ((B : Int) + 1)) hs
            obtain ⟨q0, q1⟩ := bx2 hs2
            have hR := ob_set2 (.int .i64 (1 + (A : Int))) (.int .i64 ((B : Int) + 1)) (obj_ne (c := w.heap.size + 3) (i := 1) (.int .i64 ((B : Int) + 1)) (by omega) hres)
            obtain ⟨q2, q3⟩ := bx2 hR
            refine bodyPost_ret (v := .agg #[.int .i64 (1 + (A : Int)), .int .i64 ((B : Int) + 1)]) (by simp [results, Tryz.results31, go_sem, q2, q3]) rfl (Ret.mk (by rw [show ((1 + A : Nat) : Int) = 1 + (A : Int) by omega, show ((1 + B : Nat) : Int) = (B : Int) + 1 by omega]) (by (repeat' (first | (with_reducible exact Below.refl _ _) | (with_reducible exact Nat.le_refl _) | (with_reducible refine Below.bel ?_ ?_) | (with_reducible refine Below.alloc ?_ ?_ _) | (with_reducible refine Below.drew ?_) | (with_reducible refine Below.drawsN ?_ _) | (with_reducible refine Below.setCell ?_ ?_ _) | (with_reducible refine le_bel ?_) | (with_reducible refine le_alloc ?_) | (with_reducible refine le_setCell ?_) | (with_reducible refine le_drew ?_) | (with_reducible refine le_drawsN ?_) | (dsimp only; with_reducible refine le_bel ?_) | (dsimp only; with_reducible refine Nat.le_refl _) | (dsimp only; with_reducible refine le_bel_add ?_) | (with_reducible assumption) | omega | (dsimp only; omega)))))
end Go.Proofs.YtkbellmhanpocaaGreatDoor
