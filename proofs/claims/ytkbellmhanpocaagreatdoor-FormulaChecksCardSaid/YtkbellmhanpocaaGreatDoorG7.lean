/- constant, normal. result, Normal. -/
import Derived.Test.YtkbellmhanpocaaGreatDoorG5
namespace Go.Proofs.YtkbellmhanpocaaGreatDoor
set_option linter.unusedVariables false
set_option linter.unusedSimpArgs false
open Go.RowKit F
attribute [local go_sem low] Bel.cell Bel.frozen alloc_cell alloc_frozen
attribute [local go_sem] calmOp chainOp yieldsC grows

theorem RetF.mk {t : F} {w w' : World} {v : Value} (ad : Option Addr) (cap : Nat) (hv : v = .agg #[.int .i64 t.k, .int .i64 t.a, .slice ad t.l.length cap]) (hb : Below w.heap.size w w') (hi : InsF (fun b => w.heap.size ≤ b) w' ad t.l) : RetF t w (.returned v) w' :=
  ⟨v, rfl, ⟨w', hb⟩, rfl, ad, cap, hv, hi⟩
theorem constant_any (b : Bool) (w : World) : Calls Tryz.prog 33 #[.bool b] w (RetF (cst b) w) := by
  cases b
  · go_enter Tryz.func33, Tryz.ntmps33
    go_wp2
    refine bodyPost_ret (v := .agg #[.int .i64 5, .int .i64 0, .slice none 0 0]) (by simp [results, Tryz.results33, go_sem]) rfl ⟨_, rfl, ⟨_, (Below.refl _ _).alloc (Nat.le_refl _) _⟩, rfl, none, 0, rfl, insF_nil _ _ _⟩
  · go_enter Tryz.func33, Tryz.ntmps33
    go_wp2
    refine bodyPost_ret (v := .agg #[.int .i64 6, .int .i64 0, .slice none 0 0]) (by simp [results, Tryz.results33, go_sem]) rfl ⟨_, rfl, ⟨_, (Below.refl _ _).alloc (Nat.le_refl _) _⟩, rfl, none, 0, rfl, insF_nil _ _ _⟩
theorem nrmL_map (l : List F) (g : Bool) : nrmL l g = l.map (fun t => nrm t g) := by
  induction l with
  | nil => rfl
  | cons t r ih => rw [nrmL, ih]; rfl
set_option maxRecDepth 100000 in
set_option maxHeartbeats 12800000 in
theorem normal_any : ∀ (N : Nat) (t : F), nodes t ≤ N → okT t → ∀ (g : Bool) (P : Nat → Prop) (ad : Option Addr) (cap : Nat) (w : World), InsF P w ad t.l → nodes t ≤ 100000000 →
    Calls Tryz.prog 44 #[.agg #[.int .i64 t.k, .int .i64 t.a, .slice ad t.l.length cap], .bool g] w (RetF (nrm t g) w) := by
  obtain ⟨i0, hi0, hz0, hz1, hz2⟩ := info_parts Tryz.infoF
  intro N
  induction N with
  | zero => intro t h; have := nodes_pos t; omega
  | succ N ih =>
    intro t hN hok g P ad cap w hi hbig
    have HNL := Lib.hid (show nodesL t.l ≤ N by rw [nodes_l] at hN; omega)
    have HBIG := Lib.hid (show nodesL t.l ≤ 100000000 by rw [nodes_l] at hbig; omega)
    have hlen : t.l.length ≤ 100000000 := Nat.le_trans (length_nodesL t.l) HBIG.out
    have hlt : InsF (fun c => c < w.heap.size) w ad t.l := hi.imp fun b hb _ => hb
    have HOKL := Lib.hid (okT_l hok)
    clear hi hN hbig
    obtain ⟨tk, ta, tl⟩ := t
    simp only [F.k, F.a, F.l] at HNL HBIG hlen hlt HOKL ⊢
    rcases single_cases hok.1 with ⟨rfl, h1, h2, rfl⟩ | ⟨rfl, rfl, t, rfl⟩ | ⟨hk, rfl, hl⟩ | ⟨hk, rfl, rfl⟩
    · have HC := Lib.hid (fun w' => clone_any 1 (nd 1 ta []) (by simp [nodes, nodesL]) (fun _ => True) ad cap w' (insF_nil _ _ _) (by simp [nodes, nodesL]))
      simp only [F.k, F.a, F.l] at HC
      rw [nrm, if_pos rfl]
      cases g
      · go_enter Tryz.func44, Tryz.ntmps44
        go_wp2_with fail
        refine (HC.out _).mono ?_
        rintro _ _ ⟨_, rfl, y, rfl, ad5, cap5, rfl, hi5⟩
        have hres := obj_bel y (heap2_1 w (.cells #[.int .i64 1, .int .i64 ta, .slice ad 0 cap] 26) (.cells #[.int .i64 0, .int .i64 0, .slice none 0 0] 26))
        obtain ⟨r0, r1, r2⟩ := box3 hres
        obtain ⟨g0, g1, g2⟩ := box3f hres
        dsimp only
        go_wp2
        have hR := obj_set3 (.int .i64 1) (.int .i64 ta) (.slice ad5 0 cap5) hres
        obtain ⟨q0, q1, q2⟩ := box3 hR
        refine bodyPost_ret (v := .agg #[.int .i64 1, .int .i64 ta, .slice ad5 0 cap5]) (by simp [results, Tryz.results44, go_sem, F.k, F.a, F.l, q0, q1, q2]) rfl (RetF.mk ad5 cap5 rfl (by (repeat' (first | (with_reducible exact Below.refl _ _) | (with_reducible exact Nat.le_refl _) | (with_reducible refine Below.bel ?_ ?_) | (with_reducible refine Below.alloc ?_ ?_ _) | (with_reducible refine Below.drew ?_) | (with_reducible refine Below.drawsN ?_ _) | (with_reducible refine Below.setCell ?_ ?_ _) | (with_reducible refine le_bel ?_) | (with_reducible refine le_alloc ?_) | (with_reducible refine le_setCell ?_) | (with_reducible refine le_drew ?_) | (with_reducible refine le_drawsN ?_) | (dsimp only; with_reducible refine le_bel ?_) | (dsimp only; with_reducible refine Nat.le_refl _) | (dsimp only; with_reducible refine le_bel_add ?_) | (with_reducible assumption) | omega | (dsimp only; omega)))) (insF_nil _ _ _))
      · go_enter Tryz.func44, Tryz.ntmps44
        go_wp2_with fail
        refine (HC.out _).mono ?_
        rintro _ _ ⟨_, rfl, y, rfl, ad5, cap5, rfl, hi5⟩
        have hres := obj_bel y (heap2_1 w (.cells #[.int .i64 1, .int .i64 ta, .slice ad 0 cap] 26) (.cells #[.int .i64 0, .int .i64 0, .slice none 0 0] 26))
        have hrs := obj_alloc (.cells #[.int .i64 1, .int .i64 ta, .slice ad5 0 cap5] 26) hres
        obtain ⟨r0, r1, r2⟩ := box3 hres
        obtain ⟨g0, g1, g2⟩ := box3f hres
        have hys := y.size_le
        simp at hys
        dsimp only
        go_wp2
        have hR := obj_set3 (.int .i64 2) (.int .i64 0) (.slice (some ⟨y.w.heap.size, 0, none⟩) 1 1) hrs
        obtain ⟨q0, q1, q2⟩ := box3 hR
        have hA := World.alloc_heap_new y.w (.cells #[.int .i64 1, .int .i64 ta, .slice ad5 0 cap5] 26)
        have hA3 := obj_ne (c := w.heap.size + 1) (i := 2) (.slice (some ⟨y.w.heap.size, 0, none⟩) 1 1) (by omega) (obj_ne (c := w.heap.size + 1) (i := 1) (.int .i64 0) (by omega) (obj_ne (c := w.heap.size + 1) (i := 0) (.int .i64 2) (by omega) hA))
        obtain ⟨s0, s1, s2⟩ := box3 hA3
        refine bodyPost_ret (v := .agg #[.int .i64 2, .int .i64 0, .slice (some ⟨y.w.heap.size, 0, none⟩) 1 1]) (by simp [results, Tryz.results44, go_sem, F.k, F.a, F.l, q0, q1, q2]) rfl (RetF.mk (some ⟨y.w.heap.size, 0, none⟩) 1 rfl (by (repeat' (first | (with_reducible exact Below.refl _ _) | (with_reducible exact Nat.le_refl _) | (with_reducible refine Below.bel ?_ ?_) | (with_reducible refine Below.alloc ?_ ?_ _) | (with_reducible refine Below.drew ?_) | (with_reducible refine Below.drawsN ?_ _) | (with_reducible refine Below.setCell ?_ ?_ _) | (with_reducible refine le_bel ?_) | (with_reducible refine le_alloc ?_) | (with_reducible refine le_setCell ?_) | (with_reducible refine le_drew ?_) | (with_reducible refine le_drawsN ?_) | (dsimp only; with_reducible refine le_bel ?_) | (dsimp only; with_reducible refine Nat.le_refl _) | (dsimp only; with_reducible refine le_bel_add ?_) | (with_reducible assumption) | omega | (dsimp only; omega)))) (insF_mk (by omega) fun j u hj => ?_))
        match j, hj with
        | 0, hj =>
          injection hj with hj
          subst hj
          exact cellF_mk (ad := ad5) (cap := cap5) s0 s1 s2 (insF_nil _ _ _)
    · -- Not
      obtain ⟨bb, off, rfl, hp, hcs⟩ := insF_at hlt (by simp)
      obtain ⟨c0, c1, ad', cap', c2, hiu⟩ := cellF_open (hcs 0 t rfl)
      rw [Nat.zero_mul, Nat.add_zero] at c0 c1 c2
      rw [nrm, if_neg (by decide), if_pos rfl, nrmH]
      have HI := Lib.hid (fun w' (hiu : InsF (fun c => c < w.heap.size) w' ad' t.l) => ih t (by have := HNL.out; rw [nodesL] at this; omega) HOKL.out.1 (!g) _ ad' cap' w' hiu (by have := HBIG.out; rw [nodesL] at this; omega))
      have HU := Lib.hid hiu
      clear hiu hcs hlt
      generalize nrm t (!g) = R at *
      go_enter Tryz.func44, Tryz.ntmps44
      go_wp2_with fail
      refine (HI.out _ (HU.out.of (by (repeat' (first | (with_reducible exact Below.refl _ _) | (with_reducible exact Nat.le_refl _) | (with_reducible refine Below.bel ?_ ?_) | (with_reducible refine Below.alloc ?_ ?_ _) | (with_reducible refine Below.drew ?_) | (with_reducible refine Below.drawsN ?_ _) | (with_reducible refine Below.setCell ?_ ?_ _) | (with_reducible refine le_bel ?_) | (with_reducible refine le_alloc ?_) | (with_reducible refine le_setCell ?_) | (with_reducible refine le_drew ?_) | (with_reducible refine le_drawsN ?_) | (dsimp only; with_reducible refine le_bel ?_) | (dsimp only; with_reducible refine Nat.le_refl _) | (dsimp only; with_reducible refine le_bel_add ?_) | (with_reducible assumption) | omega | (dsimp only; omega)))))).mono ?_
      rintro _ _ ⟨_, rfl, y, rfl, ad5, cap5, rfl, hi5⟩
      have HI5 := Lib.hid hi5
      clear hi5
      have hres := obj_bel y (heap2_1 w (.cells #[.int .i64 2, .int .i64 0, .slice (some ⟨bb, off, none⟩) 1 cap] 26) (.cells #[.int .i64 0, .int .i64 0, .slice none 0 0] 26))
      obtain ⟨r0, r1, r2⟩ := box3 hres
      obtain ⟨g0, g1, g2⟩ := box3f hres
      have hys := y.size_le
      simp at hys
      dsimp only
      go_wp2
      have hR := obj_set3 (.int .i64 R.k) (.int .i64 R.a) (.slice ad5 R.l.length cap5) hres
      obtain ⟨q0, q1, q2⟩ := box3 hR
      refine bodyPost_ret (v := .agg #[.int .i64 R.k, .int .i64 R.a, .slice ad5 R.l.length cap5]) (by simp [results, Tryz.results44, go_sem, F.k, F.a, F.l, q0, q1, q2]) rfl (RetF.mk ad5 cap5 rfl (by (repeat' (first | (with_reducible exact Below.refl _ _) | (with_reducible exact Nat.le_refl _) | (with_reducible refine Below.bel ?_ ?_) | (with_reducible refine Below.alloc ?_ ?_ _) | (with_reducible refine Below.drew ?_) | (with_reducible refine Below.drawsN ?_ _) | (with_reducible refine Below.setCell ?_ ?_ _) | (with_reducible refine le_bel ?_) | (with_reducible refine le_alloc ?_) | (with_reducible refine le_setCell ?_) | (with_reducible refine le_drew ?_) | (with_reducible refine le_drawsN ?_) | (dsimp only; with_reducible refine le_bel ?_) | (dsimp only; with_reducible refine Nat.le_refl _) | (dsimp only; with_reducible refine le_bel_add ?_) | (with_reducible assumption) | omega | (dsimp only; omega)))) ?_)
      have HIz := HI5.out.move (w' := ((y.w.setCell ⟨w.heap.size + 1, 0, none⟩ (.int .i64 R.k)).setCell ⟨w.heap.size + 1, 1, none⟩ (.int .i64 R.a)).setCell ⟨w.heap.size + 1, 2, none⟩ (.slice ad5 R.l.length cap5)) (fun c o u hc hu => by
        rw [World.cell?_of_block (Below.heap_setCell _ _ _ c (fun e => by have e : c = w.heap.size + 1 := e; simp at hc; omega)), World.cell?_of_block (Below.heap_setCell _ _ _ c (fun e => by have e : c = w.heap.size + 1 := e; simp at hc; omega)), World.cell?_of_block (Below.heap_setCell _ _ _ c (fun e => by have e : c = w.heap.size + 1 := e; simp at hc; omega))]
        exact hu) (fun b _ h => h)
      exact HIz.imp fun b _ h => by simp at h; omega
    · -- And, Or
      rw [nrm, if_neg (by omega), if_neg (by omega), if_neg (by omega), nrmL_map]
      rcases hk with rfl | rfl
      · cases g
        · have HC := Lib.hid (fun u (hu : u ∈ tl) ad' cap' w' (hiu : InsF (fun c => c < w.heap.size) w' ad' u.l) => ih u (Nat.le_trans (nodesL_mem hu) HNL.out) (okL_mem HOKL.out hu) false _ ad' cap' w' hiu (Nat.le_trans (nodesL_mem hu) HBIG.out))
          go_enter Tryz.func44, Tryz.ntmps44
          go_wp2
          go_loopw [48] (fun i wr => ∃ (k : Nat) (v : Value), i = .int .i64 (k : Int) ∧ k ≤ tl.length ∧ OwnF wr (w.heap.size + 3) 26 v ((tl.take k).map (fun t => nrm t false)) ∧ wr.heap[w.heap.size + 2]? = some (.cells #[.int .i64 3, .int .i64 0, v] 26 (0, 0)) ∧
            wr.heap[w.heap.size + 1]? = some (.cells #[.int .i64 0, .int .i64 0, .slice none 0 0] 26 (0, 0)) ∧ Below w.heap.size w wr ∧ w.heap.size + 3 ≤ wr.heap.size) (fun i _ => tl.length - (intOf i).toNat)
          case atStart => exact ⟨0, .slice none 0 0, rfl, by omega, ownF_nil _ _ _, heap3_2 _ _ _ _, heap3_1 _ _ _ _, by (repeat' (first | (with_reducible exact Below.refl _ _) | (with_reducible exact Nat.le_refl _) | (with_reducible refine Below.bel ?_ ?_) | (with_reducible refine Below.alloc ?_ ?_ _) | (with_reducible refine Below.drew ?_) | (with_reducible refine Below.drawsN ?_ _) | (with_reducible refine Below.setCell ?_ ?_ _) | (with_reducible refine le_bel ?_) | (with_reducible refine le_alloc ?_) | (with_reducible refine le_setCell ?_) | (with_reducible refine le_drew ?_) | (with_reducible refine le_drawsN ?_) | (dsimp only; with_reducible refine le_bel ?_) | (dsimp only; with_reducible refine Nat.le_refl _) | (dsimp only; with_reducible refine le_bel_add ?_) | (with_reducible assumption) | omega | (dsimp only; omega))), by simp⟩
          case round =>
            obtain ⟨k, v, rfl, hk, hown, hbox, hres, hb, hsz⟩ := hrel
            have hiW := below_move hlt (fun _ h => h) hb
            obtain ⟨b0, b1, b2⟩ := box3 hbox
            obtain ⟨va, vc, rfl⟩ := ownF_val hown
            have htk : ((tl.take k).map (fun t => nrm t false)).length = k := by rw [List.length_map, List.length_take]; omega
            rw [htk] at hown hbox b2
            rcases Nat.lt_or_ge k tl.length with hkl | hkl
            · obtain ⟨u, hu⟩ := some_at hkl
              obtain ⟨bb, off, rfl, hp, hcs⟩ := insF_at hiW (by omega)
              obtain ⟨c0, c1, ad', cap', c2, hiu⟩ := cellF_open (hcs k u hu)
              have f0 : decide ((k : Int) < (tl.length : Int)) = true := decide_eq_true (by omega)
              have HU := Lib.hid hu
              have HCU := HC.out u (List.mem_of_getElem? hu) ad' cap'
              obtain ⟨fu, hfu⟩ : ∃ fu, (nrm u false) = fu := ⟨_, rfl⟩
              rw [hfu] at HCU
              have HTK := Lib.hid (show (tl.take (k + 1)).map (fun t => nrm t false) = (tl.take k).map (fun t => nrm t false) ++ [fu] by rw [List.take_add_one, hu, List.map_append, ← hfu]; rfl)
              have HCC := Lib.hid HCU
              clear HCU hfu
              have HI := Lib.hid hiu
              have HO := Lib.hid hown
              have HL := Lib.hid htk
              clear hcs hiW hiu hown htk hu
              go_wp2_with fail
              refine wp_region_plan 6 (.calm 0 (.calm 1 (.calm 2 (.calm 3 (.fork 4 (.fork 5 .tail .none) .none))))) (by kernel_rfl) (by kernel_rfl) ?_
              simp only [Plan.walk, operAt, List.getElem?_cons_succ, List.getElem?_cons_zero, Option.getD_some, List.drop_succ_cons, List.drop_zero]
              repeat (refine wpX_calm (fun K hK => ?_); go_simp; first | (refine hK _ _ ?_; clear hK K) | (apply Exists.intro; refine ⟨fun _ => ?_, hK _ _ ?_⟩; (fail); clear hK K))
              refine wpX_only (fun K hK => ?_)
              go_simp
              intro x
              refine (HCC.out _ (HI.out.of (by (repeat' (first | (with_reducible exact Below.refl _ _) | (with_reducible exact Nat.le_refl _) | (with_reducible refine Below.bel ?_ ?_) | (with_reducible refine Below.alloc ?_ ?_ _) | (with_reducible refine Below.drew ?_) | (with_reducible refine Below.drawsN ?_ _) | (with_reducible refine Below.setCell ?_ ?_ _) | (with_reducible refine le_bel ?_) | (with_reducible refine le_alloc ?_) | (with_reducible refine le_setCell ?_) | (with_reducible refine le_drew ?_) | (with_reducible refine le_drawsN ?_) | (dsimp only; with_reducible refine le_bel ?_) | (dsimp only; with_reducible refine Nat.le_refl _) | (dsimp only; with_reducible refine le_bel_add ?_) | (with_reducible assumption) | omega | (dsimp only; omega)))))).mono ?_
              rintro _ _ ⟨_, rfl, y, rfl, ad5, cap5, rfl, hi5⟩
              refine ⟨_, rfl, y.below, hK _ _ ?_⟩
              clear hK K
              repeat (refine wpX_calm (fun K hK => ?_); go_simp; first | (refine hK _ _ ?_; clear hK K) | (apply Exists.intro; refine ⟨fun _ => ?_, hK _ _ ?_⟩; (fail); clear hK K))
              refine wpX_only (fun K hK => ?_)
              go_simp
              intro x2
              refine ⟨(Below.refl _ _).alloc (Nat.le_refl _) _, hK _ _ ?_⟩
              clear hK K
              repeat (refine wpX_calm (fun K hK => ?_); go_simp; first | (refine hK _ _ ?_; clear hK K) | (apply Exists.intro; refine ⟨fun _ => ?_, hK _ _ ?_⟩; (fail); clear hK K))
              refine wpX_tail ?_
              intro z
              have hzs : wr.heap.size + 1 ≤ x.w.heap.size ∧ x.w.heap.size ≤ y.w.heap.size ∧ y.w.heap.size ≤ x2.w.heap.size ∧ x2.w.heap.size + 1 ≤ z.w.heap.size := by
                have h1 := x.size_le; have h2 := y.size_le; have h3 := x2.size_le; have h4 := z.size_le
                simp at h1 h4
                exact ⟨h1, h2, h3, h4⟩
              have hsrc := Lib.hid (obj_bel z (World.alloc_heap_new x2.w (.cells #[.int .i64 fu.k, .int .i64 fu.a, .slice ad5 fu.l.length cap5] 26)))
              have hbz : Below wr.heap.size wr z.w := by (repeat' (first | (with_reducible exact Below.refl _ _) | (with_reducible exact Nat.le_refl _) | (with_reducible refine Below.bel ?_ ?_) | (with_reducible refine Below.alloc ?_ ?_ _) | (with_reducible refine Below.drew ?_) | (with_reducible refine Below.drawsN ?_ _) | (with_reducible refine Below.setCell ?_ ?_ _) | (with_reducible refine le_bel ?_) | (with_reducible refine le_alloc ?_) | (with_reducible refine le_setCell ?_) | (with_reducible refine le_drew ?_) | (with_reducible refine le_drawsN ?_) | (dsimp only; with_reducible refine le_bel ?_) | (dsimp only; with_reducible refine Nat.le_refl _) | (dsimp only; with_reducible refine le_bel_add ?_) | (with_reducible assumption) | omega | (dsimp only; omega)))
              have hby : Below y.w.heap.size y.w z.w := by (repeat' (first | (with_reducible exact Below.refl _ _) | (with_reducible exact Nat.le_refl _) | (with_reducible refine Below.bel ?_ ?_) | (with_reducible refine Below.alloc ?_ ?_ _) | (with_reducible refine Below.drew ?_) | (with_reducible refine Below.drawsN ?_ _) | (with_reducible refine Below.setCell ?_ ?_ _) | (with_reducible refine le_bel ?_) | (with_reducible refine le_alloc ?_) | (with_reducible refine le_setCell ?_) | (with_reducible refine le_drew ?_) | (with_reducible refine le_drawsN ?_) | (dsimp only; with_reducible refine le_bel ?_) | (dsimp only; with_reducible refine Nat.le_refl _) | (dsimp only; with_reducible refine le_bel_add ?_) | (with_reducible assumption) | omega | (dsimp only; omega)))
              have HOz := Lib.hid (show OwnF z.w (w.heap.size + 3) 26 (.slice va k vc) ((tl.take k).map (fun t => nrm t false)) from ownF_bel HO.out ⟨_, hbz⟩)
              have HCz := Lib.hid (show InsF (fun b => (w.heap.size + 3) ≤ b ∧ (Value.slice va k vc).ownBlock ≠ some b) z.w ad5 fu.l from (hi5.of hby).imp fun b _ hb => ⟨by omega, ownF_avoid HO.out (by omega)⟩)
              have HBX := Lib.hid (obj_bel ⟨_, hbz⟩ hbox)
              have HRS := Lib.hid (obj_bel ⟨_, hbz⟩ hres)
              have hln : ((tl.take k).map (fun t => nrm t false)).length ≤ 100000000 := by rw [HL.out]; omega
              go_wp2_with (at_builtin; refine wpList_appF rfl _ _ 24 26 rfl i0 Tryz.underlying24 hi0 hz0 hz1 hz2 z.w (w.heap.size + 3) _ ((tl.take k).map (fun t => nrm t false)) fu ad5 cap5 x2.w.heap.size rfl HOz.out HCz.out rfl hsrc.out hln (by omega) ?_; intro g' c w1 hof hbw; have HB1 := Lib.hid (obj_below hbw (by omega) HBX.out); have HR1 := Lib.hid (obj_below hbw (by omega) HRS.out); obtain ⟨d0, d1, d2⟩ := box3 HB1.out; obtain ⟨_, _, f2⟩ := box3f HB1.out; have hbws := hbw.size; rw [HL.out] at hof ⊢)
              go_roundw
              case rel =>
                refine ⟨k + 1, .slice (some ⟨g', 0, none⟩) (k + 1) c, by go_num, by omega, ?_, obj_set _ HB1.out, obj_ne _ (by omega) HR1.out, ?_, by simp; omega⟩
                · rw [HTK.out]
                  exact ownF_set hof (by omega) _
                · exact ((hb.trans (hbz.mono (by omega))).trans (hbw.mono (by omega))).setCell (p := ⟨(w.heap.size + 2), 2, none⟩) (by simp) _
              case measure => simp [intOf]; omega
            · have hke : k = tl.length := by omega
              subst hke
              have f0 : decide ((tl.length : Int) < (tl.length : Int)) = false := decide_eq_false (by omega)
              rw [List.take_length] at hown htk
              have HO := Lib.hid hown
              obtain ⟨r0, r1, r2⟩ := box3 hres
              obtain ⟨g0, g1, g2⟩ := box3f hres
              clear hiW hown
              go_wp2
              have hR := obj_set3 (.int .i64 3) (.int .i64 0) (.slice va tl.length vc) hres
              obtain ⟨q0, q1, q2⟩ := box3 hR
              refine bodyPost_ret (v := .agg #[.int .i64 3, .int .i64 0, .slice va tl.length vc]) (by simp [results, Tryz.results44, go_sem, q0, q1, q2]) rfl (RetF.mk va vc (by simp [F.k, F.a, F.l]) (by (repeat' (first | (with_reducible exact Below.refl _ _) | (with_reducible exact Nat.le_refl _) | (with_reducible refine Below.bel ?_ ?_) | (with_reducible refine Below.alloc ?_ ?_ _) | (with_reducible refine Below.drew ?_) | (with_reducible refine Below.drawsN ?_ _) | (with_reducible refine Below.setCell ?_ ?_ _) | (with_reducible refine le_bel ?_) | (with_reducible refine le_alloc ?_) | (with_reducible refine le_setCell ?_) | (with_reducible refine le_drew ?_) | (with_reducible refine le_drawsN ?_) | (dsimp only; with_reducible refine le_bel ?_) | (dsimp only; with_reducible refine Nat.le_refl _) | (dsimp only; with_reducible refine le_bel_add ?_) | (with_reducible assumption) | omega | (dsimp only; omega)))) ?_)
              exact (ownF_insv (ownF_set (ownF_set (ownF_set HO.out (by omega) _) (by omega) _) (by omega) _)).imp fun b _ h => by omega
        · have HC := Lib.hid (fun u (hu : u ∈ tl) ad' cap' w' (hiu : InsF (fun c => c < w.heap.size) w' ad' u.l) => ih u (Nat.le_trans (nodesL_mem hu) HNL.out) (okL_mem HOKL.out hu) true _ ad' cap' w' hiu (Nat.le_trans (nodesL_mem hu) HBIG.out))
          go_enter Tryz.func44, Tryz.ntmps44
          go_wp2
          go_loopw [48] (fun i wr => ∃ (k : Nat) (v : Value), i = .int .i64 (k : Int) ∧ k ≤ tl.length ∧ OwnF wr (w.heap.size + 3) 26 v ((tl.take k).map (fun t => nrm t true)) ∧ wr.heap[w.heap.size + 2]? = some (.cells #[.int .i64 4, .int .i64 0, v] 26 (0, 0)) ∧
            wr.heap[w.heap.size + 1]? = some (.cells #[.int .i64 0, .int .i64 0, .slice none 0 0] 26 (0, 0)) ∧ Below w.heap.size w wr ∧ w.heap.size + 3 ≤ wr.heap.size) (fun i _ => tl.length - (intOf i).toNat)
          case atStart => exact ⟨0, .slice none 0 0, rfl, by omega, ownF_nil _ _ _, heap3_2 _ _ _ _, heap3_1 _ _ _ _, by (repeat' (first | (with_reducible exact Below.refl _ _) | (with_reducible exact Nat.le_refl _) | (with_reducible refine Below.bel ?_ ?_) | (with_reducible refine Below.alloc ?_ ?_ _) | (with_reducible refine Below.drew ?_) | (with_reducible refine Below.drawsN ?_ _) | (with_reducible refine Below.setCell ?_ ?_ _) | (with_reducible refine le_bel ?_) | (with_reducible refine le_alloc ?_) | (with_reducible refine le_setCell ?_) | (with_reducible refine le_drew ?_) | (with_reducible refine le_drawsN ?_) | (dsimp only; with_reducible refine le_bel ?_) | (dsimp only; with_reducible refine Nat.le_refl _) | (dsimp only; with_reducible refine le_bel_add ?_) | (with_reducible assumption) | omega | (dsimp only; omega))), by simp⟩
          case round =>
            obtain ⟨k, v, rfl, hk, hown, hbox, hres, hb, hsz⟩ := hrel
            have hiW := below_move hlt (fun _ h => h) hb
            obtain ⟨b0, b1, b2⟩ := box3 hbox
            obtain ⟨va, vc, rfl⟩ := ownF_val hown
            have htk : ((tl.take k).map (fun t => nrm t true)).length = k := by rw [List.length_map, List.length_take]; omega
            rw [htk] at hown hbox b2
            rcases Nat.lt_or_ge k tl.length with hkl | hkl
            · obtain ⟨u, hu⟩ := some_at hkl
              obtain ⟨bb, off, rfl, hp, hcs⟩ := insF_at hiW (by omega)
              obtain ⟨c0, c1, ad', cap', c2, hiu⟩ := cellF_open (hcs k u hu)
              have f0 : decide ((k : Int) < (tl.length : Int)) = true := decide_eq_true (by omega)
              have HU := Lib.hid hu
              have HCU := HC.out u (List.mem_of_getElem? hu) ad' cap'
              obtain ⟨fu, hfu⟩ : ∃ fu, (nrm u true) = fu := ⟨_, rfl⟩
              rw [hfu] at HCU
              have HTK := Lib.hid (show (tl.take (k + 1)).map (fun t => nrm t true) = (tl.take k).map (fun t => nrm t true) ++ [fu] by rw [List.take_add_one, hu, List.map_append, ← hfu]; rfl)
              have HCC := Lib.hid HCU
              clear HCU hfu
              have HI := Lib.hid hiu
              have HO := Lib.hid hown
              have HL := Lib.hid htk
              clear hcs hiW hiu hown htk hu
              go_wp2_with fail
              refine wp_region_plan 6 (.calm 0 (.calm 1 (.calm 2 (.calm 3 (.fork 4 (.fork 5 .tail .none) .none))))) (by kernel_rfl) (by kernel_rfl) ?_
              simp only [Plan.walk, operAt, List.getElem?_cons_succ, List.getElem?_cons_zero, Option.getD_some, List.drop_succ_cons, List.drop_zero]
              repeat (refine wpX_calm (fun K hK => ?_); go_simp; first | (refine hK _ _ ?_; clear hK K) | (apply Exists.intro; refine ⟨fun _ => ?_, hK _ _ ?_⟩; (fail); clear hK K))
              refine wpX_only (fun K hK => ?_)
              go_simp
              intro x
              refine (HCC.out _ (HI.out.of (by (repeat' (first | (with_reducible exact Below.refl _ _) | (with_reducible exact Nat.le_refl _) | (with_reducible refine Below.bel ?_ ?_) | (with_reducible refine Below.alloc ?_ ?_ _) | (with_reducible refine Below.drew ?_) | (with_reducible refine Below.drawsN ?_ _) | (with_reducible refine Below.setCell ?_ ?_ _) | (with_reducible refine le_bel ?_) | (with_reducible refine le_alloc ?_) | (with_reducible refine le_setCell ?_) | (with_reducible refine le_drew ?_) | (with_reducible refine le_drawsN ?_) | (dsimp only; with_reducible refine le_bel ?_) | (dsimp only; with_reducible refine Nat.le_refl _) | (dsimp only; with_reducible refine le_bel_add ?_) | (with_reducible assumption) | omega | (dsimp only; omega)))))).mono ?_
              rintro _ _ ⟨_, rfl, y, rfl, ad5, cap5, rfl, hi5⟩
              refine ⟨_, rfl, y.below, hK _ _ ?_⟩
              clear hK K
              repeat (refine wpX_calm (fun K hK => ?_); go_simp; first | (refine hK _ _ ?_; clear hK K) | (apply Exists.intro; refine ⟨fun _ => ?_, hK _ _ ?_⟩; (fail); clear hK K))
              refine wpX_only (fun K hK => ?_)
              go_simp
              intro x2
              refine ⟨(Below.refl _ _).alloc (Nat.le_refl _) _, hK _ _ ?_⟩
              clear hK K
              repeat (refine wpX_calm (fun K hK => ?_); go_simp; first | (refine hK _ _ ?_; clear hK K) | (apply Exists.intro; refine ⟨fun _ => ?_, hK _ _ ?_⟩; (fail); clear hK K))
              refine wpX_tail ?_
              intro z
              have hzs : wr.heap.size + 1 ≤ x.w.heap.size ∧ x.w.heap.size ≤ y.w.heap.size ∧ y.w.heap.size ≤ x2.w.heap.size ∧ x2.w.heap.size + 1 ≤ z.w.heap.size := by
                have h1 := x.size_le; have h2 := y.size_le; have h3 := x2.size_le; have h4 := z.size_le
                simp at h1 h4
                exact ⟨h1, h2, h3, h4⟩
              have hsrc := Lib.hid (obj_bel z (World.alloc_heap_new x2.w (.cells #[.int .i64 fu.k, .int .i64 fu.a, .slice ad5 fu.l.length cap5] 26)))
              have hbz : Below wr.heap.size wr z.w := by (repeat' (first | (with_reducible exact Below.refl _ _) | (with_reducible exact Nat.le_refl _) | (with_reducible refine Below.bel ?_ ?_) | (with_reducible refine Below.alloc ?_ ?_ _) | (with_reducible refine Below.drew ?_) | (with_reducible refine Below.drawsN ?_ _) | (with_reducible refine Below.setCell ?_ ?_ _) | (with_reducible refine le_bel ?_) | (with_reducible refine le_alloc ?_) | (with_reducible refine le_setCell ?_) | (with_reducible refine le_drew ?_) | (with_reducible refine le_drawsN ?_) | (dsimp only; with_reducible refine le_bel ?_) | (dsimp only; with_reducible refine Nat.le_refl _) | (dsimp only; with_reducible refine le_bel_add ?_) | (with_reducible assumption) | omega | (dsimp only; omega)))
              have hby : Below y.w.heap.size y.w z.w := by (repeat' (first | (with_reducible exact Below.refl _ _) | (with_reducible exact Nat.le_refl _) | (with_reducible refine Below.bel ?_ ?_) | (with_reducible refine Below.alloc ?_ ?_ _) | (with_reducible refine Below.drew ?_) | (with_reducible refine Below.drawsN ?_ _) | (with_reducible refine Below.setCell ?_ ?_ _) | (with_reducible refine le_bel ?_) | (with_reducible refine le_alloc ?_) | (with_reducible refine le_setCell ?_) | (with_reducible refine le_drew ?_) | (with_reducible refine le_drawsN ?_) | (dsimp only; with_reducible refine le_bel ?_) | (dsimp only; with_reducible refine Nat.le_refl _) | (dsimp only; with_reducible refine le_bel_add ?_) | (with_reducible assumption) | omega | (dsimp only; omega)))
              have HOz := Lib.hid (show OwnF z.w (w.heap.size + 3) 26 (.slice va k vc) ((tl.take k).map (fun t => nrm t true)) from ownF_bel HO.out ⟨_, hbz⟩)
              have HCz := Lib.hid (show InsF (fun b => (w.heap.size + 3) ≤ b ∧ (Value.slice va k vc).ownBlock ≠ some b) z.w ad5 fu.l from (hi5.of hby).imp fun b _ hb => ⟨by omega, ownF_avoid HO.out (by omega)⟩)
              have HBX := Lib.hid (obj_bel ⟨_, hbz⟩ hbox)
              have HRS := Lib.hid (obj_bel ⟨_, hbz⟩ hres)
              have hln : ((tl.take k).map (fun t => nrm t true)).length ≤ 100000000 := by rw [HL.out]; omega
              go_wp2_with (at_builtin; refine wpList_appF rfl _ _ 24 26 rfl i0 Tryz.underlying24 hi0 hz0 hz1 hz2 z.w (w.heap.size + 3) _ ((tl.take k).map (fun t => nrm t true)) fu ad5 cap5 x2.w.heap.size rfl HOz.out HCz.out rfl hsrc.out hln (by omega) ?_; intro g' c w1 hof hbw; have HB1 := Lib.hid (obj_below hbw (by omega) HBX.out); have HR1 := Lib.hid (obj_below hbw (by omega) HRS.out); obtain ⟨d0, d1, d2⟩ := box3 HB1.out; obtain ⟨_, _, f2⟩ := box3f HB1.out; have hbws := hbw.size; rw [HL.out] at hof ⊢)
              go_roundw
              case rel =>
                refine ⟨k + 1, .slice (some ⟨g', 0, none⟩) (k + 1) c, by go_num, by omega, ?_, obj_set _ HB1.out, obj_ne _ (by omega) HR1.out, ?_, by simp; omega⟩
                · rw [HTK.out]
                  exact ownF_set hof (by omega) _
                · exact ((hb.trans (hbz.mono (by omega))).trans (hbw.mono (by omega))).setCell (p := ⟨(w.heap.size + 2), 2, none⟩) (by simp) _
              case measure => simp [intOf]; omega
            · have hke : k = tl.length := by omega
              subst hke
              have f0 : decide ((tl.length : Int) < (tl.length : Int)) = false := decide_eq_false (by omega)
              rw [List.take_length] at hown htk
              have HO := Lib.hid hown
              obtain ⟨r0, r1, r2⟩ := box3 hres
              obtain ⟨g0, g1, g2⟩ := box3f hres
              clear hiW hown
              go_wp2
              have hR := obj_set3 (.int .i64 4) (.int .i64 0) (.slice va tl.length vc) hres
              obtain ⟨q0, q1, q2⟩ := box3 hR
              refine bodyPost_ret (v := .agg #[.int .i64 4, .int .i64 0, .slice va tl.length vc]) (by simp [results, Tryz.results44, go_sem, q0, q1, q2]) rfl (RetF.mk va vc (by simp [F.k, F.a, F.l]) (by (repeat' (first | (with_reducible exact Below.refl _ _) | (with_reducible exact Nat.le_refl _) | (with_reducible refine Below.bel ?_ ?_) | (with_reducible refine Below.alloc ?_ ?_ _) | (with_reducible refine Below.drew ?_) | (with_reducible refine Below.drawsN ?_ _) | (with_reducible refine Below.setCell ?_ ?_ _) | (with_reducible refine le_bel ?_) | (with_reducible refine le_alloc ?_) | (with_reducible refine le_setCell ?_) | (with_reducible refine le_drew ?_) | (with_reducible refine le_drawsN ?_) | (dsimp only; with_reducible refine le_bel ?_) | (dsimp only; with_reducible refine Nat.le_refl _) | (dsimp only; with_reducible refine le_bel_add ?_) | (with_reducible assumption) | omega | (dsimp only; omega)))) ?_)
              exact (ownF_insv (ownF_set (ownF_set (ownF_set HO.out (by omega) _) (by omega) _) (by omega) _)).imp fun b _ h => by omega
      · cases g
        · have HC := Lib.hid (fun u (hu : u ∈ tl) ad' cap' w' (hiu : InsF (fun c => c < w.heap.size) w' ad' u.l) => ih u (Nat.le_trans (nodesL_mem hu) HNL.out) (okL_mem HOKL.out hu) false _ ad' cap' w' hiu (Nat.le_trans (nodesL_mem hu) HBIG.out))
          go_enter Tryz.func44, Tryz.ntmps44
          go_wp2
          go_loopw [48] (fun i wr => ∃ (k : Nat) (v : Value), i = .int .i64 (k : Int) ∧ k ≤ tl.length ∧ OwnF wr (w.heap.size + 3) 26 v ((tl.take k).map (fun t => nrm t false)) ∧ wr.heap[w.heap.size + 2]? = some (.cells #[.int .i64 4, .int .i64 0, v] 26 (0, 0)) ∧
            wr.heap[w.heap.size + 1]? = some (.cells #[.int .i64 0, .int .i64 0, .slice none 0 0] 26 (0, 0)) ∧ Below w.heap.size w wr ∧ w.heap.size + 3 ≤ wr.heap.size) (fun i _ => tl.length - (intOf i).toNat)
          case atStart => exact ⟨0, .slice none 0 0, rfl, by omega, ownF_nil _ _ _, heap3_2 _ _ _ _, heap3_1 _ _ _ _, by (repeat' (first | (with_reducible exact Below.refl _ _) | (with_reducible exact Nat.le_refl _) | (with_reducible refine Below.bel ?_ ?_) | (with_reducible refine Below.alloc ?_ ?_ _) | (with_reducible refine Below.drew ?_) | (with_reducible refine Below.drawsN ?_ _) | (with_reducible refine Below.setCell ?_ ?_ _) | (with_reducible refine le_bel ?_) | (with_reducible refine le_alloc ?_) | (with_reducible refine le_setCell ?_) | (with_reducible refine le_drew ?_) | (with_reducible refine le_drawsN ?_) | (dsimp only; with_reducible refine le_bel ?_) | (dsimp only; with_reducible refine Nat.le_refl _) | (dsimp only; with_reducible refine le_bel_add ?_) | (with_reducible assumption) | omega | (dsimp only; omega))), by simp⟩
          case round =>
            obtain ⟨k, v, rfl, hk, hown, hbox, hres, hb, hsz⟩ := hrel
            have hiW := below_move hlt (fun _ h => h) hb
            obtain ⟨b0, b1, b2⟩ := box3 hbox
            obtain ⟨va, vc, rfl⟩ := ownF_val hown
            have htk : ((tl.take k).map (fun t => nrm t false)).length = k := by rw [List.length_map, List.length_take]; omega
            rw [htk] at hown hbox b2
            rcases Nat.lt_or_ge k tl.length with hkl | hkl
            · obtain ⟨u, hu⟩ := some_at hkl
              obtain ⟨bb, off, rfl, hp, hcs⟩ := insF_at hiW (by omega)
              obtain ⟨c0, c1, ad', cap', c2, hiu⟩ := cellF_open (hcs k u hu)
              have f0 : decide ((k : Int) < (tl.length : Int)) = true := decide_eq_true (by omega)
              have HU := Lib.hid hu
              have HCU := HC.out u (List.mem_of_getElem? hu) ad' cap'
              obtain ⟨fu, hfu⟩ : ∃ fu, (nrm u false) = fu := ⟨_, rfl⟩
              rw [hfu] at HCU
              have HTK := Lib.hid (show (tl.take (k + 1)).map (fun t => nrm t false) = (tl.take k).map (fun t => nrm t false) ++ [fu] by rw [List.take_add_one, hu, List.map_append, ← hfu]; rfl)
              have HCC := Lib.hid HCU
              clear HCU hfu
              have HI := Lib.hid hiu
              have HO := Lib.hid hown
              have HL := Lib.hid htk
              clear hcs hiW hiu hown htk hu
              go_wp2_with fail
              refine wp_region_plan 6 (.calm 0 (.calm 1 (.calm 2 (.calm 3 (.fork 4 (.fork 5 .tail .none) .none))))) (by kernel_rfl) (by kernel_rfl) ?_
              simp only [Plan.walk, operAt, List.getElem?_cons_succ, List.getElem?_cons_zero, Option.getD_some, List.drop_succ_cons, List.drop_zero]
              repeat (refine wpX_calm (fun K hK => ?_); go_simp; first | (refine hK _ _ ?_; clear hK K) | (apply Exists.intro; refine ⟨fun _ => ?_, hK _ _ ?_⟩; (fail); clear hK K))
              refine wpX_only (fun K hK => ?_)
              go_simp
              intro x
              refine (HCC.out _ (HI.out.of (by (repeat' (first | (with_reducible exact Below.refl _ _) | (with_reducible exact Nat.le_refl _) | (with_reducible refine Below.bel ?_ ?_) | (with_reducible refine Below.alloc ?_ ?_ _) | (with_reducible refine Below.drew ?_) | (with_reducible refine Below.drawsN ?_ _) | (with_reducible refine Below.setCell ?_ ?_ _) | (with_reducible refine le_bel ?_) | (with_reducible refine le_alloc ?_) | (with_reducible refine le_setCell ?_) | (with_reducible refine le_drew ?_) | (with_reducible refine le_drawsN ?_) | (dsimp only; with_reducible refine le_bel ?_) | (dsimp only; with_reducible refine Nat.le_refl _) | (dsimp only; with_reducible refine le_bel_add ?_) | (with_reducible assumption) | omega | (dsimp only; omega)))))).mono ?_
              rintro _ _ ⟨_, rfl, y, rfl, ad5, cap5, rfl, hi5⟩
              refine ⟨_, rfl, y.below, hK _ _ ?_⟩
              clear hK K
              repeat (refine wpX_calm (fun K hK => ?_); go_simp; first | (refine hK _ _ ?_; clear hK K) | (apply Exists.intro; refine ⟨fun _ => ?_, hK _ _ ?_⟩; (fail); clear hK K))
              refine wpX_only (fun K hK => ?_)
              go_simp
              intro x2
              refine ⟨(Below.refl _ _).alloc (Nat.le_refl _) _, hK _ _ ?_⟩
              clear hK K
              repeat (refine wpX_calm (fun K hK => ?_); go_simp; first | (refine hK _ _ ?_; clear hK K) | (apply Exists.intro; refine ⟨fun _ => ?_, hK _ _ ?_⟩; (fail); clear hK K))
              refine wpX_tail ?_
              intro z
              have hzs : wr.heap.size + 1 ≤ x.w.heap.size ∧ x.w.heap.size ≤ y.w.heap.size ∧ y.w.heap.size ≤ x2.w.heap.size ∧ x2.w.heap.size + 1 ≤ z.w.heap.size := by
                have h1 := x.size_le; have h2 := y.size_le; have h3 := x2.size_le; have h4 := z.size_le
                simp at h1 h4
                exact ⟨h1, h2, h3, h4⟩
              have hsrc := Lib.hid (obj_bel z (World.alloc_heap_new x2.w (.cells #[.int .i64 fu.k, .int .i64 fu.a, .slice ad5 fu.l.length cap5] 26)))
              have hbz : Below wr.heap.size wr z.w := by (repeat' (first | (with_reducible exact Below.refl _ _) | (with_reducible exact Nat.le_refl _) | (with_reducible refine Below.bel ?_ ?_) | (with_reducible refine Below.alloc ?_ ?_ _) | (with_reducible refine Below.drew ?_) | (with_reducible refine Below.drawsN ?_ _) | (with_reducible refine Below.setCell ?_ ?_ _) | (with_reducible refine le_bel ?_) | (with_reducible refine le_alloc ?_) | (with_reducible refine le_setCell ?_) | (with_reducible refine le_drew ?_) | (with_reducible refine le_drawsN ?_) | (dsimp only; with_reducible refine le_bel ?_) | (dsimp only; with_reducible refine Nat.le_refl _) | (dsimp only; with_reducible refine le_bel_add ?_) | (with_reducible assumption) | omega | (dsimp only; omega)))
              have hby : Below y.w.heap.size y.w z.w := by (repeat' (first | (with_reducible exact Below.refl _ _) | (with_reducible exact Nat.le_refl _) | (with_reducible refine Below.bel ?_ ?_) | (with_reducible refine Below.alloc ?_ ?_ _) | (with_reducible refine Below.drew ?_) | (with_reducible refine Below.drawsN ?_ _) | (with_reducible refine Below.setCell ?_ ?_ _) | (with_reducible refine le_bel ?_) | (with_reducible refine le_alloc ?_) | (with_reducible refine le_setCell ?_) | (with_reducible refine le_drew ?_) | (with_reducible refine le_drawsN ?_) | (dsimp only; with_reducible refine le_bel ?_) | (dsimp only; with_reducible refine Nat.le_refl _) | (dsimp only; with_reducible refine le_bel_add ?_) | (with_reducible assumption) | omega | (dsimp only; omega)))
              have HOz := Lib.hid (show OwnF z.w (w.heap.size + 3) 26 (.slice va k vc) ((tl.take k).map (fun t => nrm t false)) from ownF_bel HO.out ⟨_, hbz⟩)
              have HCz := Lib.hid (show InsF (fun b => (w.heap.size + 3) ≤ b ∧ (Value.slice va k vc).ownBlock ≠ some b) z.w ad5 fu.l from (hi5.of hby).imp fun b _ hb => ⟨by omega, ownF_avoid HO.out (by omega)⟩)
              have HBX := Lib.hid (obj_bel ⟨_, hbz⟩ hbox)
              have HRS := Lib.hid (obj_bel ⟨_, hbz⟩ hres)
              have hln : ((tl.take k).map (fun t => nrm t false)).length ≤ 100000000 := by rw [HL.out]; omega
              go_wp2_with (at_builtin; refine wpList_appF rfl _ _ 24 26 rfl i0 Tryz.underlying24 hi0 hz0 hz1 hz2 z.w (w.heap.size + 3) _ ((tl.take k).map (fun t => nrm t false)) fu ad5 cap5 x2.w.heap.size rfl HOz.out HCz.out rfl hsrc.out hln (by omega) ?_; intro g' c w1 hof hbw; have HB1 := Lib.hid (obj_below hbw (by omega) HBX.out); have HR1 := Lib.hid (obj_below hbw (by omega) HRS.out); obtain ⟨d0, d1, d2⟩ := box3 HB1.out; obtain ⟨_, _, f2⟩ := box3f HB1.out; have hbws := hbw.size; rw [HL.out] at hof ⊢)
              go_roundw
              case rel =>
                refine ⟨k + 1, .slice (some ⟨g', 0, none⟩) (k + 1) c, by go_num, by omega, ?_, obj_set _ HB1.out, obj_ne _ (by omega) HR1.out, ?_, by simp; omega⟩
                · rw [HTK.out]
                  exact ownF_set hof (by omega) _
                · exact ((hb.trans (hbz.mono (by omega))).trans (hbw.mono (by omega))).setCell (p := ⟨(w.heap.size + 2), 2, none⟩) (by simp) _
              case measure => simp [intOf]; omega
            · have hke : k = tl.length := by omega
              subst hke
              have f0 : decide ((tl.length : Int) < (tl.length : Int)) = false := decide_eq_false (by omega)
              rw [List.take_length] at hown htk
              have HO := Lib.hid hown
              obtain ⟨r0, r1, r2⟩ := box3 hres
              obtain ⟨g0, g1, g2⟩ := box3f hres
              clear hiW hown
              go_wp2
              have hR := obj_set3 (.int .i64 4) (.int .i64 0) (.slice va tl.length vc) hres
              obtain ⟨q0, q1, q2⟩ := box3 hR
              refine bodyPost_ret (v := .agg #[.int .i64 4, .int .i64 0, .slice va tl.length vc]) (by simp [results, Tryz.results44, go_sem, q0, q1, q2]) rfl (RetF.mk va vc (by simp [F.k, F.a, F.l]) (by (repeat' (first | (with_reducible exact Below.refl _ _) | (with_reducible exact Nat.le_refl _) | (with_reducible refine Below.bel ?_ ?_) | (with_reducible refine Below.alloc ?_ ?_ _) | (with_reducible refine Below.drew ?_) | (with_reducible refine Below.drawsN ?_ _) | (with_reducible refine Below.setCell ?_ ?_ _) | (with_reducible refine le_bel ?_) | (with_reducible refine le_alloc ?_) | (with_reducible refine le_setCell ?_) | (with_reducible refine le_drew ?_) | (with_reducible refine le_drawsN ?_) | (dsimp only; with_reducible refine le_bel ?_) | (dsimp only; with_reducible refine Nat.le_refl _) | (dsimp only; with_reducible refine le_bel_add ?_) | (with_reducible assumption) | omega | (dsimp only; omega)))) ?_)
              exact (ownF_insv (ownF_set (ownF_set (ownF_set HO.out (by omega) _) (by omega) _) (by omega) _)).imp fun b _ h => by omega
        · have HC := Lib.hid (fun u (hu : u ∈ tl) ad' cap' w' (hiu : InsF (fun c => c < w.heap.size) w' ad' u.l) => ih u (Nat.le_trans (nodesL_mem hu) HNL.out) (okL_mem HOKL.out hu) true _ ad' cap' w' hiu (Nat.le_trans (nodesL_mem hu) HBIG.out))
          go_enter Tryz.func44, Tryz.ntmps44
          go_wp2
          go_loopw [48] (fun i wr => ∃ (k : Nat) (v : Value), i = .int .i64 (k : Int) ∧ k ≤ tl.length ∧ OwnF wr (w.heap.size + 3) 26 v ((tl.take k).map (fun t => nrm t true)) ∧ wr.heap[w.heap.size + 2]? = some (.cells #[.int .i64 3, .int .i64 0, v] 26 (0, 0)) ∧
            wr.heap[w.heap.size + 1]? = some (.cells #[.int .i64 0, .int .i64 0, .slice none 0 0] 26 (0, 0)) ∧ Below w.heap.size w wr ∧ w.heap.size + 3 ≤ wr.heap.size) (fun i _ => tl.length - (intOf i).toNat)
          case atStart => exact ⟨0, .slice none 0 0, rfl, by omega, ownF_nil _ _ _, heap3_2 _ _ _ _, heap3_1 _ _ _ _, by (repeat' (first | (with_reducible exact Below.refl _ _) | (with_reducible exact Nat.le_refl _) | (with_reducible refine Below.bel ?_ ?_) | (with_reducible refine Below.alloc ?_ ?_ _) | (with_reducible refine Below.drew ?_) | (with_reducible refine Below.drawsN ?_ _) | (with_reducible refine Below.setCell ?_ ?_ _) | (with_reducible refine le_bel ?_) | (with_reducible refine le_alloc ?_) | (with_reducible refine le_setCell ?_) | (with_reducible refine le_drew ?_) | (with_reducible refine le_drawsN ?_) | (dsimp only; with_reducible refine le_bel ?_) | (dsimp only; with_reducible refine Nat.le_refl _) | (dsimp only; with_reducible refine le_bel_add ?_) | (with_reducible assumption) | omega | (dsimp only; omega))), by simp⟩
          case round =>
            obtain ⟨k, v, rfl, hk, hown, hbox, hres, hb, hsz⟩ := hrel
            have hiW := below_move hlt (fun _ h => h) hb
            obtain ⟨b0, b1, b2⟩ := box3 hbox
            obtain ⟨va, vc, rfl⟩ := ownF_val hown
            have htk : ((tl.take k).map (fun t => nrm t true)).length = k := by rw [List.length_map, List.length_take]; omega
            rw [htk] at hown hbox b2
            rcases Nat.lt_or_ge k tl.length with hkl | hkl
            · obtain ⟨u, hu⟩ := some_at hkl
              obtain ⟨bb, off, rfl, hp, hcs⟩ := insF_at hiW (by omega)
              obtain ⟨c0, c1, ad', cap', c2, hiu⟩ := cellF_open (hcs k u hu)
              have f0 : decide ((k : Int) < (tl.length : Int)) = true := decide_eq_true (by omega)
              have HU := Lib.hid hu
              have HCU := HC.out u (List.mem_of_getElem? hu) ad' cap'
              obtain ⟨fu, hfu⟩ : ∃ fu, (nrm u true) = fu := ⟨_, rfl⟩
              rw [hfu] at HCU
              have HTK := Lib.hid (show (tl.take (k + 1)).map (fun t => nrm t true) = (tl.take k).map (fun t => nrm t true) ++ [fu] by rw [List.take_add_one, hu, List.map_append, ← hfu]; rfl)
              have HCC := Lib.hid HCU
              clear HCU hfu
              have HI := Lib.hid hiu
              have HO := Lib.hid hown
              have HL := Lib.hid htk
              clear hcs hiW hiu hown htk hu
              go_wp2_with fail
              refine wp_region_plan 6 (.calm 0 (.calm 1 (.calm 2 (.calm 3 (.fork 4 (.fork 5 .tail .none) .none))))) (by kernel_rfl) (by kernel_rfl) ?_
              simp only [Plan.walk, operAt, List.getElem?_cons_succ, List.getElem?_cons_zero, Option.getD_some, List.drop_succ_cons, List.drop_zero]
              repeat (refine wpX_calm (fun K hK => ?_); go_simp; first | (refine hK _ _ ?_; clear hK K) | (apply Exists.intro; refine ⟨fun _ => ?_, hK _ _ ?_⟩; (fail); clear hK K))
              refine wpX_only (fun K hK => ?_)
              go_simp
              intro x
              refine (HCC.out _ (HI.out.of (by (repeat' (first | (with_reducible exact Below.refl _ _) | (with_reducible exact Nat.le_refl _) | (with_reducible refine Below.bel ?_ ?_) | (with_reducible refine Below.alloc ?_ ?_ _) | (with_reducible refine Below.drew ?_) | (with_reducible refine Below.drawsN ?_ _) | (with_reducible refine Below.setCell ?_ ?_ _) | (with_reducible refine le_bel ?_) | (with_reducible refine le_alloc ?_) | (with_reducible refine le_setCell ?_) | (with_reducible refine le_drew ?_) | (with_reducible refine le_drawsN ?_) | (dsimp only; with_reducible refine le_bel ?_) | (dsimp only; with_reducible refine Nat.le_refl _) | (dsimp only; with_reducible refine le_bel_add ?_) | (with_reducible assumption) | omega | (dsimp only; omega)))))).mono ?_
              rintro _ _ ⟨_, rfl, y, rfl, ad5, cap5, rfl, hi5⟩
              refine ⟨_, rfl, y.below, hK _ _ ?_⟩
              clear hK K
              repeat (refine wpX_calm (fun K hK => ?_); go_simp; first | (refine hK _ _ ?_; clear hK K) | (apply Exists.intro; refine ⟨fun _ => ?_, hK _ _ ?_⟩; (fail); clear hK K))
              refine wpX_only (fun K hK => ?_)
              go_simp
              intro x2
              refine ⟨(Below.refl _ _).alloc (Nat.le_refl _) _, hK _ _ ?_⟩
              clear hK K
              repeat (refine wpX_calm (fun K hK => ?_); go_simp; first | (refine hK _ _ ?_; clear hK K) | (apply Exists.intro; refine ⟨fun _ => ?_, hK _ _ ?_⟩; (fail); clear hK K))
              refine wpX_tail ?_
              intro z
              have hzs : wr.heap.size + 1 ≤ x.w.heap.size ∧ x.w.heap.size ≤ y.w.heap.size ∧ y.w.heap.size ≤ x2.w.heap.size ∧ x2.w.heap.size + 1 ≤ z.w.heap.size := by
                have h1 := x.size_le; have h2 := y.size_le; have h3 := x2.size_le; have h4 := z.size_le
                simp at h1 h4
                exact ⟨h1, h2, h3, h4⟩
              have hsrc := Lib.hid (obj_bel z (World.alloc_heap_new x2.w (.cells #[.int .i64 fu.k, .int .i64 fu.a, .slice ad5 fu.l.length cap5] 26)))
              have hbz : Below wr.heap.size wr z.w := by (repeat' (first | (with_reducible exact Below.refl _ _) | (with_reducible exact Nat.le_refl _) | (with_reducible refine Below.bel ?_ ?_) | (with_reducible refine Below.alloc ?_ ?_ _) | (with_reducible refine Below.drew ?_) | (with_reducible refine Below.drawsN ?_ _) | (with_reducible refine Below.setCell ?_ ?_ _) | (with_reducible refine le_bel ?_) | (with_reducible refine le_alloc ?_) | (with_reducible refine le_setCell ?_) | (with_reducible refine le_drew ?_) | (with_reducible refine le_drawsN ?_) | (dsimp only; with_reducible refine le_bel ?_) | (dsimp only; with_reducible refine Nat.le_refl _) | (dsimp only; with_reducible refine le_bel_add ?_) | (with_reducible assumption) | omega | (dsimp only; omega)))
              have hby : Below y.w.heap.size y.w z.w := by (repeat' (first | (with_reducible exact Below.refl _ _) | (with_reducible exact Nat.le_refl _) | (with_reducible refine Below.bel ?_ ?_) | (with_reducible refine Below.alloc ?_ ?_ _) | (with_reducible refine Below.drew ?_) | (with_reducible refine Below.drawsN ?_ _) | (with_reducible refine Below.setCell ?_ ?_ _) | (with_reducible refine le_bel ?_) | (with_reducible refine le_alloc ?_) | (with_reducible refine le_setCell ?_) | (with_reducible refine le_drew ?_) | (with_reducible refine le_drawsN ?_) | (dsimp only; with_reducible refine le_bel ?_) | (dsimp only; with_reducible refine Nat.le_refl _) | (dsimp only; with_reducible refine le_bel_add ?_) | (with_reducible assumption) | omega | (dsimp only; omega)))
              have HOz := Lib.hid (show OwnF z.w (w.heap.size + 3) 26 (.slice va k vc) ((tl.take k).map (fun t => nrm t true)) from ownF_bel HO.out ⟨_, hbz⟩)
              have HCz := Lib.hid (show InsF (fun b => (w.heap.size + 3) ≤ b ∧ (Value.slice va k vc).ownBlock ≠ some b) z.w ad5 fu.l from (hi5.of hby).imp fun b _ hb => ⟨by omega, ownF_avoid HO.out (by omega)⟩)
              have HBX := Lib.hid (obj_bel ⟨_, hbz⟩ hbox)
              have HRS := Lib.hid (obj_bel ⟨_, hbz⟩ hres)
              have hln : ((tl.take k).map (fun t => nrm t true)).length ≤ 100000000 := by rw [HL.out]; omega
              go_wp2_with (at_builtin; refine wpList_appF rfl _ _ 24 26 rfl i0 Tryz.underlying24 hi0 hz0 hz1 hz2 z.w (w.heap.size + 3) _ ((tl.take k).map (fun t => nrm t true)) fu ad5 cap5 x2.w.heap.size rfl HOz.out HCz.out rfl hsrc.out hln (by omega) ?_; intro g' c w1 hof hbw; have HB1 := Lib.hid (obj_below hbw (by omega) HBX.out); have HR1 := Lib.hid (obj_below hbw (by omega) HRS.out); obtain ⟨d0, d1, d2⟩ := box3 HB1.out; obtain ⟨_, _, f2⟩ := box3f HB1.out; have hbws := hbw.size; rw [HL.out] at hof ⊢)
              go_roundw
              case rel =>
                refine ⟨k + 1, .slice (some ⟨g', 0, none⟩) (k + 1) c, by go_num, by omega, ?_, obj_set _ HB1.out, obj_ne _ (by omega) HR1.out, ?_, by simp; omega⟩
                · rw [HTK.out]
                  exact ownF_set hof (by omega) _
                · exact ((hb.trans (hbz.mono (by omega))).trans (hbw.mono (by omega))).setCell (p := ⟨(w.heap.size + 2), 2, none⟩) (by simp) _
              case measure => simp [intOf]; omega
            · have hke : k = tl.length := by omega
              subst hke
              have f0 : decide ((tl.length : Int) < (tl.length : Int)) = false := decide_eq_false (by omega)
              rw [List.take_length] at hown htk
              have HO := Lib.hid hown
              obtain ⟨r0, r1, r2⟩ := box3 hres
              obtain ⟨g0, g1, g2⟩ := box3f hres
              clear hiW hown
              go_wp2
              have hR := obj_set3 (.int .i64 3) (.int .i64 0) (.slice va tl.length vc) hres
              obtain ⟨q0, q1, q2⟩ := box3 hR
              refine bodyPost_ret (v := .agg #[.int .i64 3, .int .i64 0, .slice va tl.length vc]) (by simp [results, Tryz.results44, go_sem, q0, q1, q2]) rfl (RetF.mk va vc (by simp [F.k, F.a, F.l]) (by (repeat' (first | (with_reducible exact Below.refl _ _) | (with_reducible exact Nat.le_refl _) | (with_reducible refine Below.bel ?_ ?_) | (with_reducible refine Below.alloc ?_ ?_ _) | (with_reducible refine Below.drew ?_) | (with_reducible refine Below.drawsN ?_ _) | (with_reducible refine Below.setCell ?_ ?_ _) | (with_reducible refine le_bel ?_) | (with_reducible refine le_alloc ?_) | (with_reducible refine le_setCell ?_) | (with_reducible refine le_drew ?_) | (with_reducible refine le_drawsN ?_) | (dsimp only; with_reducible refine le_bel ?_) | (dsimp only; with_reducible refine Nat.le_refl _) | (dsimp only; with_reducible refine le_bel_add ?_) | (with_reducible assumption) | omega | (dsimp only; omega)))) ?_)
              exact (ownF_insv (ownF_set (ownF_set (ownF_set HO.out (by omega) _) (by omega) _) (by omega) _)).imp fun b _ h => by omega
    · -- a constant
      rw [nrm, if_neg (by omega), if_neg (by omega), if_pos (by omega)]
      rcases hk with rfl | rfl
      · cases g
        · have HC := Lib.hid (constant_any false)
          go_enter Tryz.func44, Tryz.ntmps44
          go_wp2_with fail
          refine (HC.out _).mono ?_
          rintro _ _ ⟨_, rfl, y, rfl, ad5, cap5, rfl, hi5⟩
          have hres := obj_bel y (heap2_1 w (.cells #[.int .i64 5, .int .i64 0, .slice ad 0 cap] 26) (.cells #[.int .i64 0, .int .i64 0, .slice none 0 0] 26))
          obtain ⟨r0, r1, r2⟩ := box3 hres
          obtain ⟨g0, g1, g2⟩ := box3f hres
          simp only [cst, F.k, F.a, F.l, List.length_nil, if_true, Bool.false_eq_true, if_false]
          go_wp2
          have hR := obj_set3 (.int .i64 5) (.int .i64 0) (.slice ad5 0 cap5) hres
          obtain ⟨q0, q1, q2⟩ := box3 hR
          refine bodyPost_ret (v := .agg #[.int .i64 5, .int .i64 0, .slice ad5 0 cap5]) (by simp [results, Tryz.results44, go_sem, F.k, F.a, F.l, q0, q1, q2]) rfl (RetF.mk ad5 cap5 rfl (by (repeat' (first | (with_reducible exact Below.refl _ _) | (with_reducible exact Nat.le_refl _) | (with_reducible refine Below.bel ?_ ?_) | (with_reducible refine Below.alloc ?_ ?_ _) | (with_reducible refine Below.drew ?_) | (with_reducible refine Below.drawsN ?_ _) | (with_reducible refine Below.setCell ?_ ?_ _) | (with_reducible refine le_bel ?_) | (with_reducible refine le_alloc ?_) | (with_reducible refine le_setCell ?_) | (with_reducible refine le_drew ?_) | (with_reducible refine le_drawsN ?_) | (dsimp only; with_reducible refine le_bel ?_) | (dsimp only; with_reducible refine Nat.le_refl _) | (dsimp only; with_reducible refine le_bel_add ?_) | (with_reducible assumption) | omega | (dsimp only; omega)))) (insF_nil _ _ _))
        · have HC := Lib.hid (constant_any true)
          go_enter Tryz.func44, Tryz.ntmps44
          go_wp2_with fail
          refine (HC.out _).mono ?_
          rintro _ _ ⟨_, rfl, y, rfl, ad5, cap5, rfl, hi5⟩
          have hres := obj_bel y (heap2_1 w (.cells #[.int .i64 5, .int .i64 0, .slice ad 0 cap] 26) (.cells #[.int .i64 0, .int .i64 0, .slice none 0 0] 26))
          obtain ⟨r0, r1, r2⟩ := box3 hres
          obtain ⟨g0, g1, g2⟩ := box3f hres
          simp only [cst, F.k, F.a, F.l, List.length_nil, if_true, Bool.false_eq_true, if_false]
          go_wp2
          have hR := obj_set3 (.int .i64 6) (.int .i64 0) (.slice ad5 0 cap5) hres
          obtain ⟨q0, q1, q2⟩ := box3 hR
          refine bodyPost_ret (v := .agg #[.int .i64 6, .int .i64 0, .slice ad5 0 cap5]) (by simp [results, Tryz.results44, go_sem, F.k, F.a, F.l, q0, q1, q2]) rfl (RetF.mk ad5 cap5 rfl (by (repeat' (first | (with_reducible exact Below.refl _ _) | (with_reducible exact Nat.le_refl _) | (with_reducible refine Below.bel ?_ ?_) | (with_reducible refine Below.alloc ?_ ?_ _) | (with_reducible refine Below.drew ?_) | (with_reducible refine Below.drawsN ?_ _) | (with_reducible refine Below.setCell ?_ ?_ _) | (with_reducible refine le_bel ?_) | (with_reducible refine le_alloc ?_) | (with_reducible refine le_setCell ?_) | (with_reducible refine le_drew ?_) | (with_reducible refine le_drawsN ?_) | (dsimp only; with_reducible refine le_bel ?_) | (dsimp only; with_reducible refine Nat.le_refl _) | (dsimp only; with_reducible refine le_bel_add ?_) | (with_reducible assumption) | omega | (dsimp only; omega)))) (insF_nil _ _ _))
      · cases g
        · have HC := Lib.hid (constant_any true)
          go_enter Tryz.func44, Tryz.ntmps44
          go_wp2_with fail
          refine (HC.out _).mono ?_
          rintro _ _ ⟨_, rfl, y, rfl, ad5, cap5, rfl, hi5⟩
          have hres := obj_bel y (heap2_1 w (.cells #[.int .i64 6, .int .i64 0, .slice ad 0 cap] 26) (.cells #[.int .i64 0, .int .i64 0, .slice none 0 0] 26))
          obtain ⟨r0, r1, r2⟩ := box3 hres
          obtain ⟨g0, g1, g2⟩ := box3f hres
          simp only [cst, F.k, F.a, F.l, List.length_nil, if_true, Bool.false_eq_true, if_false]
          go_wp2
          have hR := obj_set3 (.int .i64 6) (.int .i64 0) (.slice ad5 0 cap5) hres
          obtain ⟨q0, q1, q2⟩ := box3 hR
          refine bodyPost_ret (v := .agg #[.int .i64 6, .int .i64 0, .slice ad5 0 cap5]) (by simp [results, Tryz.results44, go_sem, F.k, F.a, F.l, q0, q1, q2]) rfl (RetF.mk ad5 cap5 rfl (by (repeat' (first | (with_reducible exact Below.refl _ _) | (with_reducible exact Nat.le_refl _) | (with_reducible refine Below.bel ?_ ?_) | (with_reducible refine Below.alloc ?_ ?_ _) | (with_reducible refine Below.drew ?_) | (with_reducible refine Below.drawsN ?_ _) | (with_reducible refine Below.setCell ?_ ?_ _) | (with_reducible refine le_bel ?_) | (with_reducible refine le_alloc ?_) | (with_reducible refine le_setCell ?_) | (with_reducible refine le_drew ?_) | (with_reducible refine le_drawsN ?_) | (dsimp only; with_reducible refine le_bel ?_) | (dsimp only; with_reducible refine Nat.le_refl _) | (dsimp only; with_reducible refine le_bel_add ?_) | (with_reducible assumption) | omega | (dsimp only; omega)))) (insF_nil _ _ _))
        · have HC := Lib.hid (constant_any false)
          go_enter Tryz.func44, Tryz.ntmps44
          go_wp2_with fail
          refine (HC.out _).mono ?_
          rintro _ _ ⟨_, rfl, y, rfl, ad5, cap5, rfl, hi5⟩
          have hres := obj_bel y (heap2_1 w (.cells #[.int .i64 6, .int .i64 0, .slice ad 0 cap] 26) (.cells #[.int .i64 0, .int .i64 0, .slice none 0 0] 26))
          obtain ⟨r0, r1, r2⟩ := box3 hres
          obtain ⟨g0, g1, g2⟩ := box3f hres
          simp only [cst, F.k, F.a, F.l, List.length_nil, if_true, Bool.false_eq_true, if_false]
          go_wp2
          have hR := obj_set3 (.int .i64 5) (.int .i64 0) (.slice ad5 0 cap5) hres
          obtain ⟨q0, q1, q2⟩ := box3 hR
          refine bodyPost_ret (v := .agg #[.int .i64 5, .int .i64 0, .slice ad5 0 cap5]) (by simp [results, Tryz.results44, go_sem, F.k, F.a, F.l, q0, q1, q2]) rfl (RetF.mk ad5 cap5 rfl (by (repeat' (first | (with_reducible exact Below.refl _ _) | (with_reducible exact Nat.le_refl _) | (with_reducible refine Below.bel ?_ ?_) | (with_reducible refine Below.alloc ?_ ?_ _) | (with_reducible refine Below.drew ?_) | (with_reducible refine Below.drawsN ?_ _) | (with_reducible refine Below.setCell ?_ ?_ _) | (with_reducible refine le_bel ?_) | (with_reducible refine le_alloc ?_) | (with_reducible refine le_setCell ?_) | (with_reducible refine le_drew ?_) | (with_reducible refine le_drawsN ?_) | (dsimp only; with_reducible refine le_bel ?_) | (dsimp only; with_reducible refine Nat.le_refl _) | (dsimp only; with_reducible refine le_bel_add ?_) | (with_reducible assumption) | omega | (dsimp only; omega)))) (insF_nil _ _ _))
end Go.Proofs.YtkbellmhanpocaaGreatDoor

namespace Go.Proofs.YtkbellmhanpocaaGreatDoor
set_option linter.unusedVariables false
set_option linter.unusedSimpArgs false
open Go.RowKit F
attribute [local go_sem low] Bel.cell Bel.frozen alloc_cell alloc_frozen

/-- A formula, and no error. -/
def RetFE (t : F) (w : World) (e : Ending) (w' : World) : Prop := ∃ v, e = .returned (.tuple #[v, .int .i64 0]) ∧ ∃ y : Bel w, w' = y.w ∧ FV (fun b => w.heap.size ≤ b) y.w v t
theorem RetFE.mk {t : F} {w w' : World} {v : Value} (ad : Option Addr) (cap : Nat) (hv : v = .agg #[.int .i64 t.k, .int .i64 t.a, .slice ad t.l.length cap]) (hb : Below w.heap.size w w') (hi : InsF (fun b => w.heap.size ≤ b) w' ad t.l) : RetFE t w (.returned (.tuple #[v, .int .i64 0])) w' :=
  ⟨v, rfl, ⟨w', hb⟩, rfl, ad, cap, hv, hi⟩
set_option maxRecDepth 100000 in
set_option maxHeartbeats 6400000 in
theorem result_any (P : Nat → Prop) (t : F) (ad : Option Addr) (cap : Nat) (w : World) (hi : InsF P w ad t.l) (hbig : nodes t ≤ 1000000000000) :
    Calls Tryz.prog 43 #[.agg #[.int .i64 t.k, .int .i64 t.a, .slice ad t.l.length cap]] w (Ret (.tuple #[if fitsF t then .agg #[.int .i64 t.k, .int .i64 t.a, .slice ad t.l.length cap] else .agg #[.int .i64 0, .int .i64 0, .slice none 0 0], .int .i64 (if fitsF t then 0 else 4)]) w) := by
  have hlt : InsF (fun c => c < w.heap.size) w ad t.l := hi.imp fun b hb _ => hb
  have HM := Lib.hid (fun w' (hi : InsF (fun c => c < w.heap.size + 2) w' ad t.l) (hs : SizeAt w' (w.heap.size + 2) (0 : Nat) (0 : Nat)) => measure_any (nodes t) t (Nat.le_refl _) ad cap 1 0 0 (w.heap.size + 2) 1 w' rfl hi hs hbig (by omega) (by omega) (by omega))
  have HF := meas_fits t
  obtain ⟨⟨qb, qn, qm⟩, hq⟩ : ∃ q, meas t 1 0 0 = q := ⟨_, rfl⟩
  rw [hq] at HM HF
  dsimp only at HF
  rw [← HF]
  clear hi hq HF
  have hw1 := hlt.of (w' := ((w.alloc (.cells #[.int .i64 t.k, .int .i64 t.a, .slice ad t.l.length cap] 26)).alloc (.cells #[.int .i64 0, .int .i64 0, .slice none 0 0] 26)).alloc (.cells #[.int .i64 0, .int .i64 0] 60)) (by (repeat' (first | (with_reducible exact Below.refl _ _) | (with_reducible exact Nat.le_refl _) | (with_reducible refine Below.bel ?_ ?_) | (with_reducible refine Below.alloc ?_ ?_ _) | (with_reducible refine Below.drew ?_) | (with_reducible refine Below.drawsN ?_ _) | (with_reducible refine Below.setCell ?_ ?_ _) | (with_reducible refine le_bel ?_) | (with_reducible refine le_alloc ?_) | (with_reducible refine le_setCell ?_) | (with_reducible refine le_drew ?_) | (with_reducible refine le_drawsN ?_) | (dsimp only; with_reducible refine le_bel ?_) | (dsimp only; with_reducible refine Nat.le_refl _) | (dsimp only; with_reducible refine le_bel_add ?_) | (with_reducible assumption) | omega | (dsimp only; omega))))
  cases qb
  · go_enter Tryz.func43, Tryz.ntmps43
    go_wp2_with fail
    refine (HM.out _ (hw1.imp fun b _ hb => by omega) ⟨by simp [go_sem], by simp [go_sem], by simp [go_sem], by simp [go_sem]⟩).mono ?_
    rintro _ w2 ⟨rfl, _, hb2, hz2⟩
    simp at hz2
    have hO0 := obj_below hb2 (by omega) (heap3_0 w _ _ _)
    have hO1 := obj_below hb2 (by omega) (heap3_1 w _ _ _)
    obtain ⟨c0, c1, c2⟩ := box3 hO0
    obtain ⟨r0, r1, r2⟩ := box3 hO1
    obtain ⟨g0, g1, g2⟩ := box3f hO1
    have hbw : Below w.heap.size w w2 := Below.trans (by (repeat' (first | (with_reducible exact Below.refl _ _) | (with_reducible exact Nat.le_refl _) | (with_reducible refine Below.bel ?_ ?_) | (with_reducible refine Below.alloc ?_ ?_ _) | (with_reducible refine Below.drew ?_) | (with_reducible refine Below.drawsN ?_ _) | (with_reducible refine Below.setCell ?_ ?_ _) | (with_reducible refine le_bel ?_) | (with_reducible refine le_alloc ?_) | (with_reducible refine le_setCell ?_) | (with_reducible refine le_drew ?_) | (with_reducible refine le_drawsN ?_) | (dsimp only; with_reducible refine le_bel ?_) | (dsimp only; with_reducible refine Nat.le_refl _) | (dsimp only; with_reducible refine le_bel_add ?_) | (with_reducible assumption) | omega | (dsimp only; omega)))) (hb2.mono (by omega))
    clear hb2
    dsimp only
    go_wp2
    have hR := obj_set3 (.int .i64 0) (.int .i64 0) (.slice none 0 0) hO1
    obtain ⟨q0, q1, q2⟩ := box3 hR
    refine bodyPost_ret (v := .tuple #[.agg #[.int .i64 0, .int .i64 0, .slice none 0 0], .int .i64 4]) (by simp [results, Tryz.results43, go_sem, q0, q1, q2]) rfl (Ret.mk (by rfl) (by (repeat' (first | (with_reducible exact Below.refl _ _) | (with_reducible exact Nat.le_refl _) | (with_reducible refine Below.bel ?_ ?_) | (with_reducible refine Below.alloc ?_ ?_ _) | (with_reducible refine Below.drew ?_) | (with_reducible refine Below.drawsN ?_ _) | (with_reducible refine Below.setCell ?_ ?_ _) | (with_reducible refine le_bel ?_) | (with_reducible refine le_alloc ?_) | (with_reducible refine le_setCell ?_) | (with_reducible refine le_drew ?_) | (with_reducible refine le_drawsN ?_) | (dsimp only; with_reducible refine le_bel ?_) | (dsimp only; with_reducible refine Nat.le_refl _) | (dsimp only; with_reducible refine le_bel_add ?_) | (with_reducible assumption) | omega | (dsimp only; omega)))))
  · go_enter Tryz.func43, Tryz.ntmps43
    go_wp2_with fail
    refine (HM.out _ (hw1.imp fun b _ hb => by omega) ⟨by simp [go_sem], by simp [go_sem], by simp [go_sem], by simp [go_sem]⟩).mono ?_
    rintro _ w2 ⟨rfl, _, hb2, hz2⟩
    simp at hz2
    have hO0 := obj_below hb2 (by omega) (heap3_0 w _ _ _)
    have hO1 := obj_below hb2 (by omega) (heap3_1 w _ _ _)
    obtain ⟨c0, c1, c2⟩ := box3 hO0
    obtain ⟨r0, r1, r2⟩ := box3 hO1
    obtain ⟨g0, g1, g2⟩ := box3f hO1
    have hbw : Below w.heap.size w w2 := Below.trans (by (repeat' (first | (with_reducible exact Below.refl _ _) | (with_reducible exact Nat.le_refl _) | (with_reducible refine Below.bel ?_ ?_) | (with_reducible refine Below.alloc ?_ ?_ _) | (with_reducible refine Below.drew ?_) | (with_reducible refine Below.drawsN ?_ _) | (with_reducible refine Below.setCell ?_ ?_ _) | (with_reducible refine le_bel ?_) | (with_reducible refine le_alloc ?_) | (with_reducible refine le_setCell ?_) | (with_reducible refine le_drew ?_) | (with_reducible refine le_drawsN ?_) | (dsimp only; with_reducible refine le_bel ?_) | (dsimp only; with_reducible refine Nat.le_refl _) | (dsimp only; with_reducible refine le_bel_add ?_) | (with_reducible assumption) | omega | (dsimp only; omega)))) (hb2.mono (by omega))
    clear hb2
    dsimp only
    go_wp2
    have hR := obj_set3 (.int .i64 t.k) (.int .i64 t.a) (.slice ad t.l.length cap) hO1
    obtain ⟨q0, q1, q2⟩ := box3 hR
    refine bodyPost_ret (v := .tuple #[.agg #[.int .i64 t.k, .int .i64 t.a, .slice ad t.l.length cap], .int .i64 0]) (by simp [results, Tryz.results43, go_sem, q0, q1, q2]) rfl (Ret.mk (by rfl) (by (repeat' (first | (with_reducible exact Below.refl _ _) | (with_reducible exact Nat.le_refl _) | (with_reducible refine Below.bel ?_ ?_) | (with_reducible refine Below.alloc ?_ ?_ _) | (with_reducible refine Below.drew ?_) | (with_reducible refine Below.drawsN ?_ _) | (with_reducible refine Below.setCell ?_ ?_ _) | (with_reducible refine le_bel ?_) | (with_reducible refine le_alloc ?_) | (with_reducible refine le_setCell ?_) | (with_reducible refine le_drew ?_) | (with_reducible refine le_drawsN ?_) | (dsimp only; with_reducible refine le_bel ?_) | (dsimp only; with_reducible refine Nat.le_refl _) | (dsimp only; with_reducible refine le_bel_add ?_) | (with_reducible assumption) | omega | (dsimp only; omega)))))
set_option maxRecDepth 100000 in
set_option maxHeartbeats 6400000 in
theorem Normal_ok (P : Nat → Prop) (t : F) (ad : Option Addr) (cap : Nat) (w : World) (hi : InsF P w ad t.l) (hok : okT t) (hn : nodes t ≤ 5000) (hl : levels t ≤ 99) :
    Calls Tryz.prog 25 #[.agg #[.int .i64 t.k, .int .i64 t.a, .slice ad t.l.length cap]] w (RetFE (nrm t false) w) := by
  have hc0 : checkF t = 0 := checkF_ok.2 ⟨decide_eq_true (by omega), hok⟩
  have hsz := nrm_size t false hok
  have hfit : fitsF (nrm t false) = true := decide_eq_true (by omega)
  have hlt : InsF (fun c => c < w.heap.size) w ad t.l := hi.imp fun b hb _ => hb
  have HI := Lib.hid hlt
  have HC := Lib.hid (fun w' (h : InsF (fun c => c < w.heap.size) w' ad t.l) => check_any (fun c => c < w.heap.size) t ad cap w' h (by omega))
  rw [hc0] at HC
  have HN := Lib.hid (fun w' (h : InsF (fun c => c < w.heap.size) w' ad t.l) => normal_any (nodes t) t (Nat.le_refl _) hok false (fun c => c < w.heap.size) ad cap w' h (by omega))
  obtain ⟨R, hR⟩ : ∃ R, nrm t false = R := ⟨_, rfl⟩
  rw [hR] at HN hfit hsz ⊢
  have HRS := Lib.hid (fun ad' cap' w' (P' : Nat → Prop) (h : InsF P' w' ad' R.l) => result_any P' R ad' cap' w' h (by omega))
  rw [hfit] at HRS
  clear hi hlt hc0 hR hok hsz hfit
  go_enter Tryz.func25, Tryz.ntmps25
  go_wp2_with fail
  refine (HC.out _ (HI.out.of (by (repeat' (first | (with_reducible exact Below.refl _ _) | (with_reducible exact Nat.le_refl _) | (with_reducible refine Below.bel ?_ ?_) | (with_reducible refine Below.alloc ?_ ?_ _) | (with_reducible refine Below.drew ?_) | (with_reducible refine Below.drawsN ?_ _) | (with_reducible refine Below.setCell ?_ ?_ _) | (with_reducible refine le_bel ?_) | (with_reducible refine le_alloc ?_) | (with_reducible refine le_setCell ?_) | (with_reducible refine le_drew ?_) | (with_reducible refine le_drawsN ?_) | (dsimp only; with_reducible refine le_bel ?_) | (dsimp only; with_reducible refine Nat.le_refl _) | (dsimp only; with_reducible refine le_bel_add ?_) | (with_reducible assumption) | omega | (dsimp only; omega)))))).mono ?_
  rintro _ _ ⟨rfl, y1, rfl⟩
  have hs1 := y1.size_le
  simp at hs1
  have hO1 := obj_bel y1 (heap2_1 w (.cells #[.int .i64 t.k, .int .i64 t.a, .slice ad t.l.length cap] 26) (.cells #[.int .i64 0, .int .i64 0, .slice none 0 0] 26))
  dsimp only
  go_wp2_with fail
  refine (HN.out _ (HI.out.of (by (repeat' (first | (with_reducible exact Below.refl _ _) | (with_reducible exact Nat.le_refl _) | (with_reducible refine Below.bel ?_ ?_) | (with_reducible refine Below.alloc ?_ ?_ _) | (with_reducible refine Below.drew ?_) | (with_reducible refine Below.drawsN ?_ _) | (with_reducible refine Below.setCell ?_ ?_ _) | (with_reducible refine le_bel ?_) | (with_reducible refine le_alloc ?_) | (with_reducible refine le_setCell ?_) | (with_reducible refine le_drew ?_) | (with_reducible refine le_drawsN ?_) | (dsimp only; with_reducible refine le_bel ?_) | (dsimp only; with_reducible refine Nat.le_refl _) | (dsimp only; with_reducible refine le_bel_add ?_) | (with_reducible assumption) | omega | (dsimp only; omega)))))).mono ?_
  rintro _ _ ⟨_, rfl, y2, rfl, ad5, cap5, rfl, hi5⟩
  have HI5 := Lib.hid hi5
  have hs2 := y2.size_le
  have hO2 := obj_bel y2 hO1
  clear hi5
  dsimp only
  go_wp2_with fail
  refine (HRS.out _ _ _ _ HI5.out).mono ?_
  rintro _ _ ⟨rfl, y3, rfl⟩
  have hO3 := obj_bel y3 hO2
  obtain ⟨r0, r1, r2⟩ := box3 hO3
  obtain ⟨g0, g1, g2⟩ := box3f hO3
  simp only [if_true]
  clear hO1 hO2
  go_wp2
  have hR := obj_set3 (.int .i64 R.k) (.int .i64 R.a) (.slice ad5 R.l.length cap5) hO3
  obtain ⟨q0, q1, q2⟩ := box3 hR
  refine bodyPost_ret (v := .tuple #[.agg #[.int .i64 R.k, .int .i64 R.a, .slice ad5 R.l.length cap5], .int .i64 0]) (by simp [results, Tryz.results25, go_sem, q0, q1, q2]) rfl (RetFE.mk ad5 cap5 rfl (by (repeat' (first | (with_reducible exact Below.refl _ _) | (with_reducible exact Nat.le_refl _) | (with_reducible refine Below.bel ?_ ?_) | (with_reducible refine Below.alloc ?_ ?_ _) | (with_reducible refine Below.drew ?_) | (with_reducible refine Below.drawsN ?_ _) | (with_reducible refine Below.setCell ?_ ?_ _) | (with_reducible refine le_bel ?_) | (with_reducible refine le_alloc ?_) | (with_reducible refine le_setCell ?_) | (with_reducible refine le_drew ?_) | (with_reducible refine le_drawsN ?_) | (dsimp only; with_reducible refine le_bel ?_) | (dsimp only; with_reducible refine Nat.le_refl _) | (dsimp only; with_reducible refine le_bel_add ?_) | (with_reducible assumption) | omega | (dsimp only; omega)))) ?_)
  refine ((HI5.out.of y3.below).move (fun c o u hc hu => ?_) (fun b _ h => h)).imp (fun b _ h => by omega)
  rw [World.cell?_of_block (Below.heap_setCell _ _ _ c (fun e => by have e : c = w.heap.size + 1 := e; omega)), World.cell?_of_block (Below.heap_setCell _ _ _ c (fun e => by have e : c = w.heap.size + 1 := e; omega)), World.cell?_of_block (Below.heap_setCell _ _ _ c (fun e => by have e : c = w.heap.size + 1 := e; omega))]
  exact hu
end Go.Proofs.YtkbellmhanpocaaGreatDoor
