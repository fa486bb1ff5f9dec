/- clone, constant, result. -/
import Derived.Test.YtkbellmhanpocaaGreatDoorFm
import Derived.Test.YtkbellmhanpocaaGreatDoorG4
import Derived.Test.YtkbellmhanpocaaGreatDoorCm
namespace Go.Proofs.YtkbellmhanpocaaGreatDoor
set_option linter.unusedVariables false
set_option linter.unusedSimpArgs false
open Go.RowKit F
attribute [local go_sem low] Bel.cell Bel.frozen alloc_cell alloc_frozen
attribute [local go_sem] calmOp chainOp yieldsC grows

theorem obj_set {W : World} {b i : Nat} {vs : Array Value} {t : TypeId} (x : Value) (h : W.heap[b]? = some (.cells vs t (0, 0))) : (W.setCell ⟨b, i, none⟩ x).heap[b]? = some (.cells (vs.setIfInBounds i x) t (0, 0)) := by
  obtain ⟨hlt, hk⟩ := Array.getElem?_eq_some_iff.1 h
  show (W.heap.modify b _)[b]? = _
  rw [Array.getElem?_eq_getElem (by rw [Array.size_modify]; exact hlt), Array.getElem_modify_self, hk]
  rfl
theorem obj_ne {W : World} {b c i : Nat} {o : Obj} (x : Value) (hne : b ≠ c) (h : W.heap[b]? = some o) : (W.setCell ⟨c, i, none⟩ x).heap[b]? = some o := by
  rw [Below.heap_setCell _ _ _ _ (fun e => hne (by first | exact e | exact e.symm))]; exact h
theorem set_grown (W : World) (b i : Nat) (v : Value) : W.grownBy (W.setCell ⟨b, i, none⟩ v) (some b) :=
  ⟨rfl, rfl, rfl, (KeepsWalks.setCell W _ v).size, fun k _ hk => Below.heap_setCell _ _ _ k (fun e => hk (by rw [e]))⟩
theorem ownF_set {w : World} {base : Nat} {e : TypeId} {v : Value} {l : List F} (h : OwnF w base e v l) {b i : Nat} (hb : b < base) (x : Value) : OwnF (w.setCell ⟨b, i, none⟩ x) base e v l := by
  have hob := fun c => ownF_block (b := c) h
  obtain ⟨us, h1, h2, h3⟩ := h
  refine ⟨us, h1, World.ownsRow.kept h2 (set_grown w b i x) (.inr (fun hk => ?_)), fun j t ad cap hj => (h3 j t ad cap hj).move (fun c off u hc hu => ?_) (fun _ _ h => h)⟩
  · have := hob b hk
    omega
  · rw [World.cell?_of_block (Below.heap_setCell _ _ _ c (fun e => by have := hc.1; have e : c = b := e; omega))]
    exact hu
theorem ownF_insv {w : World} {base n : Nat} {e : TypeId} {va : Option Addr} {vc : Nat} {l : List F} (h : OwnF w base e (.slice va n vc) l) : InsF (fun b => base ≤ b) w va l := by
  obtain ⟨ad, cap, hv, hi⟩ := ownF_ins h
  injection hv with e1 _ _
  rw [e1]
  exact hi
theorem obj_alloc {W : World} {b : Nat} {o : Obj} (o' : Obj) (h : W.heap[b]? = some o) : (W.alloc o').heap[b]? = some o :=
  (Below.heap_alloc _ _ b (Array.getElem?_eq_some_iff.1 h).1).trans h
theorem obj_bel {W : World} {b : Nat} {o : Obj} (y : Bel W) (h : W.heap[b]? = some o) : y.w.heap[b]? = some o :=
  (y.below.block b (Array.getElem?_eq_some_iff.1 h).1).trans h
theorem obj_below {W W' : World} {n b : Nat} {o : Obj} (hb : Below n W W') (hn : b < n) (h : W.heap[b]? = some o) : W'.heap[b]? = some o := (hb.block b hn).trans h
theorem box3f {W : World} {b : Nat} {x y z : Value} {e : TypeId} (h : W.heap[b]? = some (.cells #[x, y, z] e (0, 0))) : W.frozen? ⟨b, 0, none⟩ = false ∧ W.frozen? ⟨b, 1, none⟩ = false ∧ W.frozen? ⟨b, 2, none⟩ = false := by
  refine ⟨?_, ?_, ?_⟩ <;> simp [World.frozen?, h]
/-- A struct of three cells that is stored whole. -/
theorem obj_set3 {W : World} {b : Nat} {x y z : Value} {t : TypeId} (x' y' z' : Value) (h : W.heap[b]? = some (.cells #[x, y, z] t (0, 0))) :
    (((W.setCell ⟨b, 0, none⟩ x').setCell ⟨b, 1, none⟩ y').setCell ⟨b, 2, none⟩ z').heap[b]? = some (.cells #[x', y', z'] t (0, 0)) := obj_set z' (obj_set y' (obj_set x' h))
theorem heap3_2 (w : World) (a b c : Obj) : (((w.alloc a).alloc b).alloc c).heap[w.heap.size + 2]? = some c := by
  have h1 := World.alloc_heap_new ((w.alloc a).alloc b) c
  rwa [World.size_alloc, World.size_alloc] at h1
theorem Tryz.infoF : (Tryz.prog.info? 26).map (fun i => (i.zero, i.size, i.bytes)) = some (some (.agg #[.int .i64 0, .int .i64 0, .slice none 0 0]), 3, 40) := by kernel_rfl
set_option maxRecDepth 100000 in
set_option maxHeartbeats 6400000 in
theorem clone_any : ∀ (N : Nat) (t : F), nodes t ≤ N → ∀ (P : Nat → Prop) (ad : Option Addr) (cap : Nat) (w : World), InsF P w ad t.l → nodes t ≤ 100000000 →
    Calls Tryz.prog 45 #[.agg #[.int .i64 t.k, .int .i64 t.a, .slice ad t.l.length cap]] w (RetF t w) := by
  obtain ⟨i0, hi0, hz0, hz1, hz2⟩ := info_parts Tryz.infoF
  intro N
  induction N with
  | zero => intro t h; have := nodes_pos t; omega
  | succ N ih =>
    intro t hN P ad cap w hi hbig
    have HNL := Lib.hid (show nodesL t.l ≤ N by rw [nodes_l] at hN; omega)
    have HBIG := Lib.hid (show nodesL t.l ≤ 100000000 by rw [nodes_l] at hbig; omega)
    have hlen : t.l.length ≤ 100000000 := Nat.le_trans (length_nodesL t.l) HBIG.out
    have hlt : InsF (fun c => c < w.heap.size) w ad t.l := hi.imp fun b hb _ => hb
    clear hi hN hbig
    go_enter Tryz.func45, Tryz.ntmps45
    go_wp2
    go_loopw [14] (fun i wr => ∃ (k : Nat) (v : Value), i = .int .i64 (k : Int) ∧ k ≤ t.l.length ∧ OwnF wr (w.heap.size + 3) 26 v (t.l.take k) ∧ wr.heap[w.heap.size + 2]? = some (.cells #[.int .i64 t.k, .int .i64 t.a, v] 26 (0, 0)) ∧
      wr.heap[w.heap.size + 1]? = some (.cells #[.int .i64 0, .int .i64 0, .slice none 0 0] 26 (0, 0)) ∧ Below w.heap.size w wr ∧ w.heap.size + 3 ≤ wr.heap.size) (fun i _ => t.l.length - (intOf i).toNat)
    case atStart => exact ⟨0, .slice none 0 0, rfl, by omega, ownF_nil _ _ _, heap3_2 _ _ _ _, heap3_1 _ _ _ _, by (repeat' (first | (with_reducible exact Below.refl _ _) | (with_reducible exact Nat.le_refl _) | (with_reducible refine Below.bel ?_ ?_) | (with_reducible refine Below.alloc ?_ ?_ _) | (with_reducible refine Below.drew ?_) | (with_reducible refine Below.drawsN ?_ _) | (with_reducible refine Below.setCell ?_ ?_ _) | (with_reducible refine le_bel ?_) | (with_reducible refine le_alloc ?_) | (with_reducible refine le_setCell ?_) | (with_reducible refine le_drew ?_) | (with_reducible refine le_drawsN ?_) | (dsimp only; with_reducible refine le_bel ?_) | (dsimp only; with_reducible refine Nat.le_refl _) | (dsimp only; with_reducible refine le_bel_add ?_) | (with_reducible assumption) | omega | (dsimp only; omega))), by simp⟩
    case round =>
      obtain ⟨k, v, rfl, hk, hown, hbox, hres, hb, hsz⟩ := hrel
      have hiW := below_move hlt (fun _ h => h) hb
      obtain ⟨b0, b1, b2⟩ := box3 hbox
      rcases Nat.lt_or_ge k t.l.length with hkl | hkl
      · obtain ⟨u, hu⟩ := some_at hkl
        obtain ⟨bb, off, rfl, hp, hcs⟩ := insF_at hiW (by omega)
        obtain ⟨c0, c1, ad', cap', c2, hiu⟩ := cellF_open (hcs k u hu)
        have f0 : decide ((k : Int) < (t.l.length : Int)) = true := decide_eq_true (by omega)
        obtain ⟨va, vc, rfl⟩ := ownF_val hown
        have htk : (t.l.take k).length = k := by rw [List.length_take]; omega
        rw [htk] at hown hbox b2
        have HU := Lib.hid (And.intro (Nat.le_trans (nodesL_mem (List.mem_of_getElem? hu)) HNL.out) (Nat.le_trans (nodesL_mem (List.mem_of_getElem? hu)) HBIG.out))
        have HTK := Lib.hid (show t.l.take (k + 1) = t.l.take k ++ [u] by rw [List.take_add_one, hu]; rfl)
        have HI := Lib.hid hiu
        have HO := Lib.hid hown
        have HL := Lib.hid htk
        clear hcs hiW hiu hown htk hu
        go_wp2_with fail
        refine wp_region_plan 5 (.calm 0 (.calm 1 (.calm 2 (.fork 3 (.fork 4 .tail .none) .none)))) (by kernel_rfl) (by kernel_rfl) ?_
        simp only [Plan.walk, operAt, List.getElem?_cons_succ, List.getElem?_cons_zero, Option.getD_some, List.drop_succ_cons, List.drop_zero]
        repeat (refine wpX_calm (fun K hK => ?_); go_simp; first | (refine hK _ _ ?_; clear hK K) | (apply Exists.intro; refine ⟨fun _ => ?_, hK _ _ ?_⟩; (fail); clear hK K))
        refine wpX_only (fun K hK => ?_)
        go_simp
        intro x
        refine (ih u HU.out.1 _ ad' cap' _ (HI.out.of (by (repeat' (first | (with_reducible exact Below.refl _ _) | (with_reducible exact Nat.le_refl _) | (with_reducible refine Below.bel ?_ ?_) | (with_reducible refine Below.alloc ?_ ?_ _) | (with_reducible refine Below.drew ?_) | (with_reducible refine Below.drawsN ?_ _) | (with_reducible refine Below.setCell ?_ ?_ _) | (with_reducible refine le_bel ?_) | (with_reducible refine le_alloc ?_) | (with_reducible refine le_setCell ?_) | (with_reducible refine le_drew ?_) | (with_reducible refine le_drawsN ?_) | (dsimp only; with_reducible refine le_bel ?_) | (dsimp only; with_reducible refine Nat.le_refl _) | (dsimp only; with_reducible refine le_bel_add ?_) | (with_reducible assumption) | omega | (dsimp only; omega))))) HU.out.2).mono ?_
        rintro _ _ ⟨_, rfl, y, rfl, ad5, cap5, rfl, hi5⟩
        refine ⟨_, rfl, y.below, hK _ _ ?_⟩
        clear hK K
        repeat (refine wpX_calm (fun K hK => ?_); go_simp; first | (refine hK _ _ ?_; clear hK K) | (apply Exists.intro; refine ⟨fun _ => ?_, hK _ _ ?_⟩; (fail); clear hK K))
        refine wpX_only (fun K hK => ?_)
        go_simp
        intro x2
        refine ⟨(Below.refl _ _).alloc (Nat.le_refl _) _, hK _ _ ?_⟩
        clear hK K
        repeat (refine wpX_calm (fun K hK => ?_); go_simp; first | (refine hK _ _ ?_; clear hK K) | (apply Exists.intro; refine ⟨fun _ => ?_, hK _ _ ?_⟩; (fail); clear hK K))
        refine wpX_tail ?_
        intro z
        have hzs : wr.heap.size + 1 ≤ x.w.heap.size ∧ x.w.heap.size ≤ y.w.heap.size ∧ y.w.heap.size ≤ x2.w.heap.size ∧ x2.w.heap.size + 1 ≤ z.w.heap.size := by
          have h1 := x.size_le; have h2 := y.size_le; have h3 := x2.size_le; have h4 := z.size_le
          simp at h1 h4
          exact ⟨h1, h2, h3, h4⟩
        have hsrc := Lib.hid (obj_bel z (World.alloc_heap_new x2.w (.cells #[.int .i64 u.k, .int .i64 u.a, .slice ad5 u.l.length cap5] 26)))
        have hbz : Below wr.heap.size wr z.w := by (repeat' (first | (with_reducible exact Below.refl _ _) | (with_reducible exact Nat.le_refl _) | (with_reducible refine Below.bel ?_ ?_) | (with_reducible refine Below.alloc ?_ ?_ _) | (with_reducible refine Below.drew ?_) | (with_reducible refine Below.drawsN ?_ _) | (with_reducible refine Below.setCell ?_ ?_ _) | (with_reducible refine le_bel ?_) | (with_reducible refine le_alloc ?_) | (with_reducible refine le_setCell ?_) | (with_reducible refine le_drew ?_) | (with_reducible refine le_drawsN ?_) | (dsimp only; with_reducible refine le_bel ?_) | (dsimp only; with_reducible refine Nat.le_refl _) | (dsimp only; with_reducible refine le_bel_add ?_) | (with_reducible assumption) | omega | (dsimp only; omega)))
        have hby : Below y.w.heap.size y.w z.w := by (repeat' (first | (with_reducible exact Below.refl _ _) | (with_reducible exact Nat.le_refl _) | (with_reducible refine Below.bel ?_ ?_) | (with_reducible refine Below.alloc ?_ ?_ _) | (with_reducible refine Below.drew ?_) | (with_reducible refine Below.drawsN ?_ _) | (with_reducible refine Below.setCell ?_ ?_ _) | (with_reducible refine le_bel ?_) | (with_reducible refine le_alloc ?_) | (with_reducible refine le_setCell ?_) | (with_reducible refine le_drew ?_) | (with_reducible refine le_drawsN ?_) | (dsimp only; with_reducible refine le_bel ?_) | (dsimp only; with_reducible refine Nat.le_refl _) | (dsimp only; with_reducible refine le_bel_add ?_) | (with_reducible assumption) | omega | (dsimp only; omega)))
        have HOz := Lib.hid (show OwnF z.w (w.heap.size + 3) 26 (.slice va k vc) (t.l.take k) from ownF_bel HO.out ⟨_, hbz⟩)
        have HCz := Lib.hid (show InsF (fun b => w.heap.size + 3 ≤ b ∧ (Value.slice va k vc).ownBlock ≠ some b) z.w ad5 u.l from (hi5.of hby).imp fun b _ hb => ⟨by omega, ownF_avoid HO.out (by omega)⟩)
        have HBX := Lib.hid (obj_bel ⟨_, hbz⟩ hbox)
        have HRS := Lib.hid (obj_bel ⟨_, hbz⟩ hres)
        have hln : (t.l.take k).length ≤ 100000000 := by rw [HL.out]; omega
        go_wp2_with (at_builtin; refine wpList_appF rfl _ _ 24 26 rfl i0 Tryz.underlying24 hi0 hz0 hz1 hz2 z.w (w.heap.size + 3) _ (t.l.take k) u ad5 cap5 x2.w.heap.size rfl HOz.out HCz.out rfl hsrc.out hln (by omega) ?_; intro g c w1 hof hbw; have HB1 := Lib.hid (obj_below hbw (by omega) HBX.out); have HR1 := Lib.hid (obj_below hbw (by omega) HRS.out); obtain ⟨d0, d1, d2⟩ := box3 HB1.out; obtain ⟨_, _, f2⟩ := box3f HB1.out; have hbws := hbw.size; rw [HL.out] at hof ⊢)
        go_roundw
        case rel =>
          refine ⟨k + 1, .slice (some ⟨g, 0, none⟩) (k + 1) c, by go_num, by omega, ?_, obj_set _ HB1.out, obj_ne _ (by omega) HR1.out, ?_, by simp; omega⟩
          · rw [HTK.out]
            exact ownF_set hof (by omega) _
          · exact ((hb.trans (hbz.mono (by omega))).trans (hbw.mono (by omega))).setCell (p := ⟨w.heap.size + 2, 2, none⟩) (by simp) _
        case measure => simp [intOf]; omega
      · have hke : k = t.l.length := by omega
        subst hke
        have f0 : decide ((t.l.length : Int) < (t.l.length : Int)) = false := decide_eq_false (by omega)
        rw [List.take_length] at hown
        obtain ⟨va, vc, rfl⟩ := ownF_val hown
        have HO := Lib.hid hown
        obtain ⟨r0, r1, r2⟩ := box3 hres
        obtain ⟨g0, g1, g2⟩ := box3f hres
        clear hiW hown
        go_wp2
        have hR := obj_set3 (.int .i64 t.k) (.int .i64 t.a) (.slice va t.l.length vc) hres
        obtain ⟨q0, q1, q2⟩ := box3 hR
        refine bodyPost_ret (v := .agg #[.int .i64 t.k, .int .i64 t.a, .slice va t.l.length vc]) (by simp [results, Tryz.results45, go_sem, q0, q1, q2]) rfl ⟨_, rfl, ⟨_, ?_⟩, rfl, va, vc, rfl, ?_⟩
        · exact ((hb.setCell (p := ⟨w.heap.size + 1, 0, none⟩) (by simp) _).setCell (p := ⟨w.heap.size + 1, 1, none⟩) (by simp) _).setCell (p := ⟨w.heap.size + 1, 2, none⟩) (by simp) _
        · exact (ownF_insv (ownF_set (ownF_set (ownF_set HO.out (by omega) _) (by omega) _) (by omega) _)).imp fun b _ h => by omega
end Go.Proofs.YtkbellmhanpocaaGreatDoor
