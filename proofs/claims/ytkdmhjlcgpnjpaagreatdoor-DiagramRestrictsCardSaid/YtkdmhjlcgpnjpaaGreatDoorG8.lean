/- Tree of a formula. -/
import Derived.Test.YtkdmhjlcgpnjpaaGreatDoorG7
namespace Go.Proofs.YtkdmhjlcgpnjpaaGreatDoor
set_option linter.unusedVariables false
set_option linter.unusedSimpArgs false
open Go.RowKit F
attribute [local go_sem low] Bel.cell Bel.frozen alloc_cell alloc_frozen
attribute [local go_sem] calmOp chainOp yieldsC grows

/-- A loop that appends trees to the inputs of a box. -/
def AppSt (w wr : World) (TE : TypeId) (BASE BOXB RESB FB : Nat) (K A : Int) (v : Value) (l : List F) (rz fo : Obj) : Prop :=
  OwnF wr BASE TE v l ∧ wr.heap[BOXB]? = some (.cells #[.int .i64 K, .int .i64 A, v] TE (0, 0)) ∧ wr.heap[RESB]? = some rz ∧ wr.heap[FB]? = some fo ∧ Below w.heap.size w wr ∧ BASE ≤ wr.heap.size
theorem AppSt.next {w wr Z w1 : World} {TE : TypeId} {BASE BOXB RESB FB : Nat} {K A : Int} {v v' : Value} {l l' : List F} {rz fo : Obj} (h : AppSt w wr TE BASE BOXB RESB FB K A v l rz fo) (hz : Below wr.heap.size wr Z) (hb : Below BASE Z w1) (ho : OwnF w1 BASE TE v' l')
    (h1 : RESB ≠ BOXB) (h2 : FB ≠ BOXB) (h3 : RESB < BASE) (h4 : FB < BASE) (h5 : BOXB < BASE) (h6 : w.heap.size ≤ BOXB) : AppSt w (w1.setCell ⟨BOXB, 2, none⟩ v') TE BASE BOXB RESB FB K A v' l' rz fo := by
  obtain ⟨_, a1, a2, a3, a4, a5⟩ := h
  have hsz : BASE ≤ w1.heap.size := Nat.le_trans a5 (Nat.le_trans hz.size hb.size)
  refine ⟨ownF_set ho h5 _, obj_set _ (obj_below hb h5 (obj_bel ⟨_, hz⟩ a1)), obj_ne _ h1 (obj_below hb h3 (obj_bel ⟨_, hz⟩ a2)), obj_ne _ h2 (obj_below hb h4 (obj_bel ⟨_, hz⟩ a3)), ?_, by simpa using hsz⟩
  exact ((a4.trans (hz.mono a4.size)).trans (hb.mono (by omega))).setCell (p := ⟨BOXB, 2, none⟩) h6 _
theorem Tryz.infoT : (Tryz.prog.info? 91).map (fun i => (i.zero, i.size, i.bytes)) = some (some (.agg #[.int .i64 0, .int .i64 0, .slice none 0 0]), 3, 40) := by kernel_rfl
def idF (t : F) : F := t
theorem map_idF (l : List F) : l.map idF = l := by
  induction l with
  | nil => rfl
  | cons t r ih => rw [List.map_cons, ih]; rfl
set_option maxRecDepth 100000 in
set_option maxHeartbeats 12800000 in
theorem Tree_any : ∀ (N : Nat) (t : F), nodes t ≤ N → ∀ (P : Nat → Prop) (ad : Option Addr) (cap : Nat) (w : World), InsF P w ad t.l → nodes t ≤ 100000000 →
    Calls Tryz.prog 50 #[.agg #[.int .i64 t.k, .int .i64 t.a, .slice ad t.l.length cap]] w (RetF t w) := by
  obtain ⟨i0, hi0, hz0, hz1, hz2⟩ := info_parts Tryz.infoT
  intro N
  induction N with
  | zero => intro t h; have := nodes_pos t; omega
  | succ N ih =>
    intro t hN P ad cap w hi hbig
    have HNL := Lib.hid (show nodesL t.l ≤ N by rw [nodes_l] at hN; omega)
    have HBIG := Lib.hid (show nodesL t.l ≤ 100000000 by rw [nodes_l] at hbig; omega)
    have hlen : t.l.length ≤ 100000000 := Nat.le_trans (length_nodesL t.l) HBIG.out
    have hlt : InsF (fun c => c < w.heap.size) w ad t.l := hi.imp fun b hb _ => hb
    clear hi hN hbig
    obtain ⟨tk, ta, tl⟩ := t
    simp only [F.k, F.a, F.l] at HNL HBIG hlen hlt ⊢
    have HC := Lib.hid (fun u (hu : u ∈ tl) ad' cap' w' (hiu : InsF (fun c => c < w.heap.size) w' ad' u.l) => show Calls Tryz.prog 50 _ _ (RetF (idF u) w') from ih u (Nat.le_trans (nodesL_mem hu) HNL.out) _ ad' cap' w' hiu (Nat.le_trans (nodesL_mem hu) HBIG.out))
    go_enter Tryz.func50, Tryz.ntmps50
    go_wp2
    go_loopw [4] (fun i wr => ∃ (k : Nat) (v : Value), i = .int .i64 (k : Int) ∧ k ≤ tl.length ∧ AppSt w wr 91 (w.heap.size + 3) (w.heap.size + 2) (w.heap.size + 1) w.heap.size tk ta v ((tl.take k).map idF)
      (.cells #[.int .i64 0, .int .i64 0, .slice none 0 0] 91 (0, 0)) (.cells #[.int .i64 tk, .int .i64 ta, .slice ad tl.length cap] 26 (0, 0))) (fun i _ => tl.length - (intOf i).toNat)
    case atStart => exact ⟨0, .slice none 0 0, rfl, by omega, ownF_nil _ _ _, heap3_2 _ _ _ _, heap3_1 _ _ _ _, heap3_0 _ _ _ _, by (repeat' (first | (with_reducible first | exact Below.refl _ _ | exact Nat.le_refl _ | refine Below.bel ?_ ?_ | refine Below.alloc ?_ ?_ _ | refine Below.drew ?_ | refine Below.drawsN ?_ _ | refine Below.setCell ?_ ?_ _ | refine le_bel ?_ | refine le_alloc ?_ | refine le_setCell ?_ | refine le_drew ?_ | refine le_drawsN ?_) | (dsimp only; with_reducible first | refine le_bel ?_ | refine Nat.le_refl _ | refine le_bel_add ?_) | (with_reducible assumption) | omega | (dsimp only; omega))), by simp⟩
    case round =>
      obtain ⟨k, v, rfl, hk, hst⟩ := hrel
      have HST := Lib.hid hst
      obtain ⟨hown, hbox, hres, hfb, hb, hsz⟩ := hst
      have hiW := below_move hlt (fun _ h => h) hb
      obtain ⟨b0, b1, b2⟩ := box3 hbox
      obtain ⟨fb0, fb1, fb2⟩ := box3 hfb
      obtain ⟨va, vc, rfl⟩ := ownF_val hown
      have htk : ((tl.take k).map idF).length = k := by rw [List.length_map, List.length_take]; omega
      rw [htk] at hown hbox b2
      rcases Nat.lt_or_ge k tl.length with hkl | hkl
      · obtain ⟨u, hu⟩ := some_at hkl
        obtain ⟨bb, off, hadd, hp, hcs⟩ := insF_at hiW (by omega)
        cases hadd
        obtain ⟨c0, c1, ad', cap', c2, hiu⟩ := cellF_open (hcs k u hu)
        have f0 : decide ((k : Int) < (tl.length : Int)) = true := decide_eq_true (by omega)
        have HCU := HC.out u (List.mem_of_getElem? hu) ad' cap'
        obtain ⟨fu, hfu⟩ : ∃ fu, (idF u) = fu := ⟨_, rfl⟩
        rw [hfu] at HCU
        have HTK := Lib.hid (show (tl.take (k + 1)).map idF = (tl.take k).map idF ++ [fu] by rw [List.take_add_one, hu, List.map_append, ← hfu]; rfl)
        have HCC := Lib.hid HCU
        have HI := Lib.hid hiu
        have HO := Lib.hid hown
        have HL := Lib.hid htk
        clear hcs hiW hiu hown htk hu HCU hfu hp
        have hib : (0 ≤ (k : Int) ∧ (k : Int) < (tl.length : Int)) := ⟨by omega, by omega⟩
        go_wp2_with fail
        refine wp_region_plan 9 (.calm 0 (.calm 1 (.calm 2 (.calm 3 (.calm 4 (.calm 5 (.calm 6 (.fork 7 (.fork 8 .tail .none) .none)))))))) (by kernel_rfl) (by kernel_rfl) ?_
        simp only [Plan.walk, operAt, List.getElem?_cons_succ, List.getElem?_cons_zero, Option.getD_some, List.drop_succ_cons, List.drop_zero]
        repeat (refine wpX_calm (fun K hK => ?_); go_simp; first | (refine hK _ _ ?_; clear hK K) | (apply Exists.intro; refine ⟨fun _ => ?_, hK _ _ ?_⟩; (fail); clear hK K))
        refine wpX_only (fun K hK => ?_)
        go_simp
        intro x
        refine (HCC.out _ (HI.out.of (by (repeat' (first | (with_reducible first | exact Below.refl _ _ | exact Nat.le_refl _ | refine Below.bel ?_ ?_ | refine Below.alloc ?_ ?_ _ | refine Below.drew ?_ | refine Below.drawsN ?_ _ | refine Below.setCell ?_ ?_ _ | refine le_bel ?_ | refine le_alloc ?_ | refine le_setCell ?_ | refine le_drew ?_ | refine le_drawsN ?_) | (dsimp only; with_reducible first | refine le_bel ?_ | refine Nat.le_refl _ | refine le_bel_add ?_) | (with_reducible assumption) | omega | (dsimp only; omega)))))).mono ?_
        rintro _ _ ⟨_, rfl, y, rfl, ad5, cap5, rfl, hi5⟩
        refine ⟨_, rfl, y.below, hK _ _ ?_⟩
        clear hK K
        repeat (refine wpX_calm (fun K hK => ?_); go_simp; first | (refine hK _ _ ?_; clear hK K) | (apply Exists.intro; refine ⟨fun _ => ?_, hK _ _ ?_⟩; (fail); clear hK K))
        refine wpX_only (fun K hK => ?_)
        go_simp
        intro x2
        refine ⟨(Below.refl _ _).alloc (Nat.le_refl _) _, hK _ _ ?_⟩
        clear hK K
        repeat (refine wpX_calm (fun K hK => ?_); go_simp; first | (refine hK _ _ ?_; clear hK K) | (apply Exists.intro; refine ⟨fun _ => ?_, hK _ _ ?_⟩; (fail); clear hK K))
        refine wpX_tail ?_
        intro z
        have hzs : wr.heap.size ≤ x.w.heap.size ∧ x.w.heap.size ≤ y.w.heap.size ∧ y.w.heap.size ≤ x2.w.heap.size ∧ x2.w.heap.size + 1 ≤ z.w.heap.size := by
          have h1 := x.size_le; have h2 := y.size_le; have h3 := x2.size_le; have h4 := z.size_le
          simp at h1 h4
          exact ⟨by omega, h2, h3, h4⟩
        have hsrc := Lib.hid (obj_bel z (World.alloc_heap_new x2.w (.cells #[.int .i64 fu.k, .int .i64 fu.a, .slice ad5 fu.l.length cap5] 91)))
        have hbz : Below wr.heap.size wr z.w := by (repeat' (first | (with_reducible first | exact Below.refl _ _ | exact Nat.le_refl _ | refine Below.bel ?_ ?_ | refine Below.alloc ?_ ?_ _ | refine Below.drew ?_ | refine Below.drawsN ?_ _ | refine Below.setCell ?_ ?_ _ | refine le_bel ?_ | refine le_alloc ?_ | refine le_setCell ?_ | refine le_drew ?_ | refine le_drawsN ?_) | (dsimp only; with_reducible first | refine le_bel ?_ | refine Nat.le_refl _ | refine le_bel_add ?_) | (with_reducible assumption) | omega | (dsimp only; omega)))
        have hby : Below y.w.heap.size y.w z.w := by (repeat' (first | (with_reducible first | exact Below.refl _ _ | exact Nat.le_refl _ | refine Below.bel ?_ ?_ | refine Below.alloc ?_ ?_ _ | refine Below.drew ?_ | refine Below.drawsN ?_ _ | refine Below.setCell ?_ ?_ _ | refine le_bel ?_ | refine le_alloc ?_ | refine le_setCell ?_ | refine le_drew ?_ | refine le_drawsN ?_) | (dsimp only; with_reducible first | refine le_bel ?_ | refine Nat.le_refl _ | refine le_bel_add ?_) | (with_reducible assumption) | omega | (dsimp only; omega)))
        have HOz := Lib.hid (show OwnF z.w (w.heap.size + 3) 91 (.slice va k vc) ((tl.take k).map idF) from ownF_bel HO.out ⟨_, hbz⟩)
        have HCz := Lib.hid (show InsF (fun b => (w.heap.size + 3) ≤ b ∧ (Value.slice va k vc).ownBlock ≠ some b) z.w ad5 fu.l from (hi5.of hby).imp fun b _ hb => ⟨by omega, ownF_avoid HO.out (by omega)⟩)
        have HBX := Lib.hid (obj_bel ⟨_, hbz⟩ hbox)
        have HFB := Lib.hid (obj_bel ⟨_, hbz⟩ hfb)
        have HBZ := Lib.hid hbz
        have hln : ((tl.take k).map idF).length ≤ 100000000 := by rw [HL.out]; omega
        clear hi5
        go_wp2_with (at_builtin; refine wpList_appF rfl _ _ 89 91 rfl i0 Tryz.underlying89 hi0 hz0 hz1 hz2 z.w (w.heap.size + 3) _ ((tl.take k).map idF) fu ad5 cap5 x2.w.heap.size rfl HOz.out HCz.out rfl hsrc.out hln (by omega) ?_; intro g' c w1 hof hbw; have HBW := Lib.hid hbw; have HB1 := Lib.hid (obj_below hbw (by omega) HBX.out); obtain ⟨d0, d1, d2⟩ := box3 HB1.out; obtain ⟨_, _, f2⟩ := box3f HB1.out; have hbws := hbw.size; clear hbw; rw [HL.out] at hof ⊢)
        go_roundw
        case rel => exact ⟨k + 1, .slice (some ⟨g', 0, none⟩) (k + 1) c, by go_num, by omega, HST.out.next HBZ.out HBW.out (by rw [HTK.out]; exact hof) (by omega) (by omega) (by omega) (by omega) (by omega) (by omega)⟩
        case measure => simp [intOf]; omega
      · have hke : k = tl.length := by omega
        subst hke
        have f0 : decide ((tl.length : Int) < (tl.length : Int)) = false := decide_eq_false (by omega)
        rw [List.take_length] at hown htk
        have HO := Lib.hid hown
        obtain ⟨r0, r1, r2⟩ := box3 hres
        obtain ⟨g0, g1, g2⟩ := box3f hres
        clear hiW hown
        go_wp2
        have hR := obj_set3 (.int .i64 tk) (.int .i64 ta) (.slice va tl.length vc) hres
        obtain ⟨q0, q1, q2⟩ := box3 hR
        refine bodyPost_ret (v := .agg #[.int .i64 tk, .int .i64 ta, .slice va tl.length vc]) (by simp [results, Tryz.results50, go_sem, q0, q1, q2]) rfl (RetF.mk va vc rfl (by (repeat' (first | (with_reducible first | exact Below.refl _ _ | exact Nat.le_refl _ | refine Below.bel ?_ ?_ | refine Below.alloc ?_ ?_ _ | refine Below.drew ?_ | refine Below.drawsN ?_ _ | refine Below.setCell ?_ ?_ _ | refine le_bel ?_ | refine le_alloc ?_ | refine le_setCell ?_ | refine le_drew ?_ | refine le_drawsN ?_) | (dsimp only; with_reducible first | refine le_bel ?_ | refine Nat.le_refl _ | refine le_bel_add ?_) | (with_reducible assumption) | omega | (dsimp only; omega)))) ?_)
        have key := HO.out
        rw [map_idF] at key
        exact (ownF_insv (ownF_set (ownF_set (ownF_set key (by omega) _) (by omega) _) (by omega) _)).imp fun b _ h => by omega
end Go.Proofs.YtkdmhjlcgpnjpaaGreatDoor
