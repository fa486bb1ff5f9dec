/- The reference's Put. -/
import Derived.Test.YtkbellmhanpocaaGreatDoorQ2
import Derived.Test.YtkbellmhanpocaaGreatDoorG10
namespace Go.Proofs.YtkbellmhanpocaaGreatDoor
set_option linter.unusedVariables false
set_option linter.unusedSimpArgs false
open Go.RowKit F
attribute [local go_sem low] Bel.cell Bel.frozen alloc_cell alloc_frozen
attribute [local go_sem] calmOp chainOp yieldsC grows

/-- A formula of the call's own, and of blocks before B0. -/
def RetQ (B0 : Nat) (t : F) (w : World) (e : Ending) (w' : World) : Prop := ∃ v, e = .returned v ∧ ∃ y : Bel w, w' = y.w ∧ FV (fun b => w.heap.size ≤ b ∨ b < B0) y.w v t
theorem RetQ.mk {B0 : Nat} {t : F} {w w' : World} {v : Value} (ad : Option Addr) (cap : Nat) (hv : v = .agg #[.int .i64 t.k, .int .i64 t.a, .slice ad t.l.length cap]) (hb : Below w.heap.size w w') (hi : InsF (fun b => w.heap.size ≤ b ∨ b < B0) w' ad t.l) : RetQ B0 t w (.returned v) w' :=
  ⟨v, rfl, ⟨w', hb⟩, rfl, ad, cap, hv, hi⟩
def AppG (B0 : Nat) (w wr : World) (TE : TypeId) (BASE BOXB RESB FB BB : Nat) (K A : Int) (v : Value) (l : List F) (rz fo bo : Obj) : Prop :=
  OwnG wr BASE (fun b => BASE ≤ b ∨ b < B0) TE v l ∧ wr.heap[BOXB]? = some (.cells #[.int .i64 K, .int .i64 A, v] TE (0, 0)) ∧ wr.heap[RESB]? = some rz ∧ wr.heap[FB]? = some fo ∧ wr.heap[BB]? = some bo ∧ Below w.heap.size w wr ∧ BASE ≤ wr.heap.size
theorem AppG.next {B0 : Nat} {w wr Z w1 : World} {TE : TypeId} {BASE BOXB RESB FB BB : Nat} {K A : Int} {v v' : Value} {l l' : List F} {rz fo bo : Obj} (h : AppG B0 w wr TE BASE BOXB RESB FB BB K A v l rz fo bo) (hz : Below wr.heap.size wr Z) (hb : Below BASE Z w1) (ho : OwnG w1 BASE (fun b => BASE ≤ b ∨ b < B0) TE v' l')
    (h1 : RESB ≠ BOXB) (h2 : FB ≠ BOXB) (h2' : BB ≠ BOXB) (h3 : RESB < BASE) (h4 : FB < BASE) (h4' : BB < BASE) (h5 : BOXB < BASE) (h6 : w.heap.size ≤ BOXB) (h7 : B0 ≤ BOXB) : AppG B0 w (w1.setCell ⟨BOXB, 2, none⟩ v') TE BASE BOXB RESB FB BB K A v' l' rz fo bo := by
  obtain ⟨_, a1, a2, a3, a3', a4, a5⟩ := h
  have hsz : BASE ≤ w1.heap.size := Nat.le_trans a5 (Nat.le_trans hz.size hb.size)
  refine ⟨ownG_move ho (fun b o hbo hq => obj_ne _ (by
    rcases hq with hq | hq | hq
    · have := ownG_block ho hq
      omega
    · omega
    · omega) hbo), obj_set _ (obj_below hb h5 (obj_bel ⟨_, hz⟩ a1)), obj_ne _ h1 (obj_below hb h3 (obj_bel ⟨_, hz⟩ a2)), obj_ne _ h2 (obj_below hb h4 (obj_bel ⟨_, hz⟩ a3)), obj_ne _ h2' (obj_below hb h4' (obj_bel ⟨_, hz⟩ a3')), ?_, by simpa using hsz⟩
  exact ((a4.trans (hz.mono a4.size)).trans (hb.mono (by omega))).setCell (p := ⟨BOXB, 2, none⟩) h6 _
set_option maxRecDepth 100000 in
set_option maxHeartbeats 12800000 in
theorem refPut_any (x : Int) (bf : F) (B0 : Nat) (adb : Option Addr) (capb : Nat) : ∀ (N : Nat) (t : F), nodes t ≤ N → ∀ (P : Nat → Prop) (ad : Option Addr) (cap : Nat) (w : World), InsF P w ad t.l → InsF (fun b => b < B0) w adb bf.l → B0 ≤ w.heap.size → nodes t ≤ 100000000 →
    Calls Tryz.prog 12 #[.agg #[.int .i64 t.k, .int .i64 t.a, .slice ad t.l.length cap], .int .i64 x, .agg #[.int .i64 bf.k, .int .i64 bf.a, .slice adb bf.l.length capb]] w (RetQ B0 (put x bf t) w) := by
  obtain ⟨i0, hi0, hz0, hz1, hz2⟩ := info_parts Tryz.infoT
  intro N
  induction N with
  | zero => intro t h; have := nodes_pos t; omega
  | succ N ih =>
    intro t hN P ad cap w hi hib hB0 hbig
    have HNL := Lib.hid (show nodesL t.l ≤ N by rw [nodes_l] at hN; omega)
    have HBIG := Lib.hid (show nodesL t.l ≤ 100000000 by rw [nodes_l] at hbig; omega)
    have hlen : t.l.length ≤ 100000000 := Nat.le_trans (length_nodesL t.l) HBIG.out
    have hlt : InsF (fun c => c < w.heap.size) w ad t.l := hi.imp fun b hb _ => hb
    have HIB := Lib.hid hib
    clear hi hN hbig hib
    obtain ⟨tk, ta, tl⟩ := t
    simp only [nd_k, nd_a, nd_l] at HNL HBIG hlen hlt ⊢
    by_cases h1 : tk = 1 ∧ ta = x
    · obtain ⟨rfl, rfl⟩ := h1
      rw [put_hit]
      clear ih
      go_enter Tryz.func12, Tryz.ntmps12
      go_wp2
      have hres := heap3_2 w (.cells #[.int .i64 1, .int .i64 ta, .slice ad tl.length cap] 35) (.cells #[.int .i64 bf.k, .int .i64 bf.a, .slice adb bf.l.length capb] 35) (.cells #[.int .i64 0, .int .i64 0, .slice none 0 0] 35)
      have hR := obj_set3 (.int .i64 bf.k) (.int .i64 bf.a) (.slice adb bf.l.length capb) hres
      obtain ⟨q0, q1, q2⟩ := box3 hR
      refine bodyPost_ret (v := .agg #[.int .i64 bf.k, .int .i64 bf.a, .slice adb bf.l.length capb]) (by simp [results, Tryz.results12, go_sem, q0, q1, q2]) rfl (RetQ.mk adb capb rfl (by (repeat' (first | (with_reducible exact Below.refl _ _) | (with_reducible exact Nat.le_refl _) | (with_reducible refine Below.bel ?_ ?_) | (with_reducible refine Below.alloc ?_ ?_ _) | (with_reducible refine Below.drew ?_) | (with_reducible refine Below.drawsN ?_ _) | (with_reducible refine Below.setCell ?_ ?_ _) | (with_reducible refine le_bel ?_) | (with_reducible refine le_alloc ?_) | (with_reducible refine le_setCell ?_) | (with_reducible refine le_drew ?_) | (with_reducible refine le_drawsN ?_) | (dsimp only; with_reducible refine le_bel ?_) | (dsimp only; with_reducible refine Nat.le_refl _) | (dsimp only; with_reducible refine le_bel_add ?_) | (with_reducible assumption) | omega | (dsimp only; omega)))) ?_)
      exact (HIB.out.of (by (repeat' (first | (with_reducible exact Below.refl _ _) | (with_reducible exact Nat.le_refl _) | (with_reducible refine Below.bel ?_ ?_) | (with_reducible refine Below.alloc ?_ ?_ _) | (with_reducible refine Below.drew ?_) | (with_reducible refine Below.drawsN ?_ _) | (with_reducible refine Below.setCell ?_ ?_ _) | (with_reducible refine le_bel ?_) | (with_reducible refine le_alloc ?_) | (with_reducible refine le_setCell ?_) | (with_reducible refine le_drew ?_) | (with_reducible refine le_drawsN ?_) | (dsimp only; with_reducible refine le_bel ?_) | (dsimp only; with_reducible refine Nat.le_refl _) | (dsimp only; with_reducible refine le_bel_add ?_) | (with_reducible assumption) | omega | (dsimp only; omega))))).imp fun b _ h => .inr h
    · rw [put_miss bf tl h1]
      have HC := Lib.hid (fun u (hu : u ∈ tl) ad' cap' w' (hiu : InsF (fun c => c < w.heap.size) w' ad' u.l) (hib : InsF (fun b => b < B0) w' adb bf.l) (hB : B0 ≤ w'.heap.size) => ih u (Nat.le_trans (nodesL_mem hu) HNL.out) _ ad' cap' w' hiu hib hB (Nat.le_trans (nodesL_mem hu) HBIG.out))
      have HF : (tk == 1) = false ∨ (tk == 1) = true ∧ (ta == x) = false := by
        by_cases e1 : tk = 1
        · exact .inr ⟨beq_iff_eq.2 e1, beq_eq_false_iff_ne.2 fun e => h1 ⟨e1, e⟩⟩
        · exact .inl (beq_eq_false_iff_ne.2 e1)
      clear h1 ih
      rcases HF with f1 | ⟨f1, f2⟩
      · go_enter Tryz.func12, Tryz.ntmps12
        go_wp2
        go_loopw [8] (fun i wr => ∃ (k : Nat) (v : Value), i = .int .i64 (k : Int) ∧ k ≤ tl.length ∧ AppG B0 w wr 35 (w.heap.size + 4) (w.heap.size + 3) (w.heap.size + 2) w.heap.size (w.heap.size + 1) tk ta v ((tl.take k).map (put x bf))
          (.cells #[.int .i64 0, .int .i64 0, .slice none 0 0] 35 (0, 0)) (.cells #[.int .i64 tk, .int .i64 ta, .slice ad tl.length cap] 35 (0, 0)) (.cells #[.int .i64 bf.k, .int .i64 bf.a, .slice adb bf.l.length capb] 35 (0, 0))) (fun i _ => tl.length - (intOf i).toNat)
        case atStart =>
          have hal : ∀ (W : World) (o : Obj), Below W.heap.size W (W.alloc o) := fun W o => (Below.refl _ _).alloc (Nat.le_refl _) o
          have o3 := World.alloc_heap_new (((w.alloc (.cells #[.int .i64 tk, .int .i64 ta, .slice ad tl.length cap] 35)).alloc (.cells #[.int .i64 bf.k, .int .i64 bf.a, .slice adb bf.l.length capb] 35)).alloc (.cells #[.int .i64 0, .int .i64 0, .slice none 0 0] 35)) (.cells #[.int .i64 tk, .int .i64 ta, .slice none 0 0] 35)
          rw [show (((w.alloc (.cells #[.int .i64 tk, .int .i64 ta, .slice ad tl.length cap] 35)).alloc (.cells #[.int .i64 bf.k, .int .i64 bf.a, .slice adb bf.l.length capb] 35)).alloc (.cells #[.int .i64 0, .int .i64 0, .slice none 0 0] 35)).heap.size = w.heap.size + 3 by simp] at o3
          exact ⟨0, .slice none 0 0, rfl, by omega, ⟨ownG_nil _ _ _ _, o3, obj_bel ⟨_, hal _ _⟩ (heap3_2 _ _ _ _), obj_bel ⟨_, hal _ _⟩ (heap3_0 _ _ _ _), obj_bel ⟨_, hal _ _⟩ (heap3_1 _ _ _ _), by (repeat' (first | (with_reducible exact Below.refl _ _) | (with_reducible exact Nat.le_refl _) | (with_reducible refine Below.bel ?_ ?_) | (with_reducible refine Below.alloc ?_ ?_ _) | (with_reducible refine Below.drew ?_) | (with_reducible refine Below.drawsN ?_ _) | (with_reducible refine Below.setCell ?_ ?_ _) | (with_reducible refine le_bel ?_) | (with_reducible refine le_alloc ?_) | (with_reducible refine le_setCell ?_) | (with_reducible refine le_drew ?_) | (with_reducible refine le_drawsN ?_) | (dsimp only; with_reducible refine le_bel ?_) | (dsimp only; with_reducible refine Nat.le_refl _) | (dsimp only; with_reducible refine le_bel_add ?_) | (with_reducible assumption) | omega | (dsimp only; omega))), by simp⟩⟩
        case round =>
          obtain ⟨k, v, rfl, hk, hst⟩ := hrel
          have HST := Lib.hid hst
          obtain ⟨hown, hbox, hres, hfb, hby0, hb, hsz⟩ := hst
          have hiW := below_move hlt (fun _ h => h) hb
          obtain ⟨b0, b1, b2⟩ := box3 hbox
          obtain ⟨fb0, fb1, fb2⟩ := box3 hfb
          obtain ⟨by0, by1, by2⟩ := box3 hby0
          obtain ⟨va, vc, rfl⟩ := ownG_val hown
          have htk : ((tl.take k).map (put x bf)).length = k := by rw [List.length_map, List.length_take]; omega
          rw [htk] at hown hbox b2
          rcases Nat.lt_or_ge k tl.length with hkl | hkl
          · obtain ⟨u, hu⟩ := some_at hkl
            obtain ⟨bb, off, hadd, hp, hcs⟩ := insF_at hiW (by omega)
            cases hadd
            obtain ⟨c0, c1, ad', cap', c2, hiu⟩ := cellF_open (hcs k u hu)
            have f0 : decide ((k : Int) < (tl.length : Int)) = true := decide_eq_true (by omega)
            have hib : (0 ≤ (k : Int) ∧ (k : Int) < (tl.length : Int)) := ⟨by omega, by omega⟩
            have HCU := HC.out u (List.mem_of_getElem? hu) ad' cap'
            obtain ⟨fu, hfu⟩ : ∃ fu, put x bf u = fu := ⟨_, rfl⟩
            rw [hfu] at HCU
            have HTK := Lib.hid (show (tl.take (k + 1)).map (put x bf) = (tl.take k).map (put x bf) ++ [fu] by rw [List.take_add_one, hu, List.map_append, ← hfu]; rfl)
            have HCC := Lib.hid HCU
            have HI := Lib.hid hiu
            have HO := Lib.hid hown
            have HL := Lib.hid htk
            have HB0 := Lib.hid hb
            clear hcs hiW hiu hown htk hu HCU hfu hp
            go_wp2_with fail
            refine wp_region_plan 11 (.calm 0 (.calm 1 (.calm 2 (.calm 3 (.calm 4 (.calm 5 (.calm 6 (.calm 7 (.calm 8 (.fork 9 (.fork 10 .tail .none) .none)))))))))) (by kernel_rfl) (by kernel_rfl) ?_
            simp only [Plan.walk, operAt, List.getElem?_cons_succ, List.getElem?_cons_zero, Option.getD_some, List.drop_succ_cons, List.drop_zero]
            repeat (refine wpX_calm (fun K hK => ?_); go_simp; first | (refine hK _ _ ?_; clear hK K) | (apply Exists.intro; refine ⟨fun _ => ?_, hK _ _ ?_⟩; (fail); clear hK K))
            refine wpX_only (fun K hK => ?_)
            go_simp
            intro x0
            refine (HCC.out _ (HI.out.of (by (repeat' (first | (with_reducible exact Below.refl _ _) | (with_reducible exact Nat.le_refl _) | (with_reducible refine Below.bel ?_ ?_) | (with_reducible refine Below.alloc ?_ ?_ _) | (with_reducible refine Below.drew ?_) | (with_reducible refine Below.drawsN ?_ _) | (with_reducible refine Below.setCell ?_ ?_ _) | (with_reducible refine le_bel ?_) | (with_reducible refine le_alloc ?_) | (with_reducible refine le_setCell ?_) | (with_reducible refine le_drew ?_) | (with_reducible refine le_drawsN ?_) | (dsimp only; with_reducible refine le_bel ?_) | (dsimp only; with_reducible refine Nat.le_refl _) | (dsimp only; with_reducible refine le_bel_add ?_) | (with_reducible assumption) | omega | (dsimp only; omega))))) (HIB.out.of (HB0.out.trans (by (repeat' (first | (with_reducible exact Below.refl _ _) | (with_reducible exact Nat.le_refl _) | (with_reducible refine Below.bel ?_ ?_) | (with_reducible refine Below.alloc ?_ ?_ _) | (with_reducible refine Below.drew ?_) | (with_reducible refine Below.drawsN ?_ _) | (with_reducible refine Below.setCell ?_ ?_ _) | (with_reducible refine le_bel ?_) | (with_reducible refine le_alloc ?_) | (with_reducible refine le_setCell ?_) | (with_reducible refine le_drew ?_) | (with_reducible refine le_drawsN ?_) | (dsimp only; with_reducible refine le_bel ?_) | (dsimp only; with_reducible refine Nat.le_refl _) | (dsimp only; with_reducible refine le_bel_add ?_) | (with_reducible assumption) | omega | (dsimp only; omega)))))) (by have := x0.size_le; omega)).mono ?_
            rintro _ _ ⟨_, rfl, y, rfl, ad5, cap5, rfl, hi5⟩
            refine ⟨_, rfl, y.below, hK _ _ ?_⟩
            clear hK K
            repeat (refine wpX_calm (fun K hK => ?_); go_simp; first | (refine hK _ _ ?_; clear hK K) | (apply Exists.intro; refine ⟨fun _ => ?_, hK _ _ ?_⟩; (fail); clear hK K))
            refine wpX_only (fun K hK => ?_)
            go_simp
            intro x2
            refine ⟨(Below.refl _ _).alloc (Nat.le_refl _) _, hK _ _ ?_⟩
            clear hK K
            repeat (refine wpX_calm (fun K hK => ?_); go_simp; first | (refine hK _ _ ?_; clear hK K) | (apply Exists.intro; refine ⟨fun _ => ?_, hK _ _ ?_⟩; (fail); clear hK K))
            refine wpX_tail ?_
            intro z
            have hzs : wr.heap.size ≤ x0.w.heap.size ∧ x0.w.heap.size ≤ y.w.heap.size ∧ y.w.heap.size ≤ x2.w.heap.size ∧ x2.w.heap.size + 1 ≤ z.w.heap.size := by
              have h1 := x0.size_le; have h2 := y.size_le; have h3 := x2.size_le; have h4 := z.size_le
              simp at h1 h4
              exact ⟨by omega, h2, h3, h4⟩
            have hsrc := obj_bel z (World.alloc_heap_new x2.w (.cells #[.int .i64 fu.k, .int .i64 fu.a, .slice ad5 fu.l.length cap5] 35))
            have hbz : Below wr.heap.size wr z.w := by (repeat' (first | (with_reducible exact Below.refl _ _) | (with_reducible exact Nat.le_refl _) | (with_reducible refine Below.bel ?_ ?_) | (with_reducible refine Below.alloc ?_ ?_ _) | (with_reducible refine Below.drew ?_) | (with_reducible refine Below.drawsN ?_ _) | (with_reducible refine Below.setCell ?_ ?_ _) | (with_reducible refine le_bel ?_) | (with_reducible refine le_alloc ?_) | (with_reducible refine le_setCell ?_) | (with_reducible refine le_drew ?_) | (with_reducible refine le_drawsN ?_) | (dsimp only; with_reducible refine le_bel ?_) | (dsimp only; with_reducible refine Nat.le_refl _) | (dsimp only; with_reducible refine le_bel_add ?_) | (with_reducible assumption) | omega | (dsimp only; omega)))
            have hby : Below y.w.heap.size y.w z.w := by (repeat' (first | (with_reducible exact Below.refl _ _) | (with_reducible exact Nat.le_refl _) | (with_reducible refine Below.bel ?_ ?_) | (with_reducible refine Below.alloc ?_ ?_ _) | (with_reducible refine Below.drew ?_) | (with_reducible refine Below.drawsN ?_ _) | (with_reducible refine Below.setCell ?_ ?_ _) | (with_reducible refine le_bel ?_) | (with_reducible refine le_alloc ?_) | (with_reducible refine le_setCell ?_) | (with_reducible refine le_drew ?_) | (with_reducible refine le_drawsN ?_) | (dsimp only; with_reducible refine le_bel ?_) | (dsimp only; with_reducible refine Nat.le_refl _) | (dsimp only; with_reducible refine le_bel_add ?_) | (with_reducible assumption) | omega | (dsimp only; omega)))
            have HOz := Lib.hid (show OwnG z.w (w.heap.size + 4) (fun b => w.heap.size + 4 ≤ b ∨ b < B0) 35 (.slice va k vc) ((tl.take k).map (put x bf)) from ownG_bel HO.out ⟨_, hbz⟩)
            have HCz := Lib.hid (show InsC (fun b => (w.heap.size + 4 ≤ b ∨ b < B0) ∧ (Value.slice va k vc).ownBlock ≠ some b) z.w (some ⟨x2.w.heap.size, 0, none⟩) [fu] from insC_one hsrc ((hi5.of hby).imp fun b _ hb => by
              rcases hb with hb | hb
              · exact ⟨.inl (by omega), ownG_avoid HO.out (.inl (by omega))⟩
              · exact ⟨.inr hb, ownG_avoid HO.out (.inr (by omega))⟩))
            have HBX := Lib.hid (obj_bel ⟨_, hbz⟩ hbox)
            have HBZ := Lib.hid hbz
            have hln : ((tl.take k).map (put x bf)).length ≤ 100000000 := by rw [HL.out]; omega
            clear hi5 hsrc
            go_wp2_with (at_builtin; refine wpList_appG rfl _ _ 33 35 rfl i0 Tryz.underlying33 hi0 hz0 hz1 hz2 z.w (w.heap.size + 4) (fun b => w.heap.size + 4 ≤ b ∨ b < B0) _ ((tl.take k).map (put x bf)) [fu] (some ⟨x2.w.heap.size, 0, none⟩) 1 rfl HOz.out HCz.out rfl (by rw [HL.out]; first | omega | (simp <;> omega)) (by first | omega | (simp <;> omega)) ?_; intro va2 vc2 w1 hof hbw; rw [HL.out, List.length_singleton] at hof; rw [HL.out]; have HBW := Lib.hid hbw; have HOF := Lib.hid hof; have HB4 := Lib.hid (obj_below hbw (by omega) HBX.out); obtain ⟨j0, j1, j2⟩ := box3 HB4.out; obtain ⟨_, _, j3⟩ := box3f HB4.out; have hbws := hbw.size; clear hof hbw)
            go_roundw
            case rel => exact ⟨k + 1, .slice va2 (k + 1) vc2, by go_num, by omega, HST.out.next HBZ.out HBW.out (by rw [HTK.out]; exact HOF.out) (by omega) (by omega) (by omega) (by omega) (by omega) (by omega) (by omega) (by omega) (by omega)⟩
            case measure => simp [intOf]; omega
          · have hke : k = tl.length := by omega
            subst hke
            have f0 : decide ((tl.length : Int) < (tl.length : Int)) = false := decide_eq_false (by omega)
            rw [List.take_length] at hown htk
            have HO := Lib.hid hown
            obtain ⟨r0, r1, r2⟩ := box3 hres
            obtain ⟨g0, g1, g2⟩ := box3f hres
            clear hiW hown
            go_wp2
            have hR := obj_set3 (.int .i64 tk) (.int .i64 ta) (.slice va tl.length vc) hres
            obtain ⟨q0, q1, q2⟩ := box3 hR
            have hbw := hb
            have hmv := ownG_move HO.out (w' := ((wr.setCell ⟨w.heap.size + 2, 0, none⟩ (.int .i64 tk)).setCell ⟨w.heap.size + 2, 1, none⟩ (.int .i64 ta)).setCell ⟨w.heap.size + 2, 2, none⟩ (.slice va tl.length vc)) (fun b o hbo hq => by
              have hne : b ≠ w.heap.size + 2 := by
                rcases hq with hq | hq | hq
                · have := ownG_block HO.out hq
                  omega
                · omega
                · omega
              exact obj_ne _ hne (obj_ne _ hne (obj_ne _ hne hbo)))
            obtain ⟨oa, oc, hov, hoi⟩ := ownG_ins hmv
            injection hov with e1 e2 e3
            subst e1 e3
            refine bodyPost_ret (v := .agg #[.int .i64 tk, .int .i64 ta, .slice va tl.length vc]) (by simp [results, Tryz.results12, go_sem, q0, q1, q2]) rfl (RetQ.mk va vc (by rw [nd_k, nd_a, nd_l, htk]) (by (repeat' (first | (with_reducible exact Below.refl _ _) | (with_reducible exact Nat.le_refl _) | (with_reducible refine Below.bel ?_ ?_) | (with_reducible refine Below.alloc ?_ ?_ _) | (with_reducible refine Below.drew ?_) | (with_reducible refine Below.drawsN ?_ _) | (with_reducible refine Below.setCell ?_ ?_ _) | (with_reducible refine le_bel ?_) | (with_reducible refine le_alloc ?_) | (with_reducible refine le_setCell ?_) | (with_reducible refine le_drew ?_) | (with_reducible refine le_drawsN ?_) | (dsimp only; with_reducible refine le_bel ?_) | (dsimp only; with_reducible refine Nat.le_refl _) | (dsimp only; with_reducible refine le_bel_add ?_) | (with_reducible assumption) | omega | (dsimp only; omega)))) ?_)
            exact hoi.imp fun b _ h => by omega
      · go_enter Tryz.func12, Tryz.ntmps12
        go_wp2
        go_loopw [8] (fun i wr => ∃ (k : Nat) (v : Value), i = .int .i64 (k : Int) ∧ k ≤ tl.length ∧ AppG B0 w wr 35 (w.heap.size + 4) (w.heap.size + 3) (w.heap.size + 2) w.heap.size (w.heap.size + 1) tk ta v ((tl.take k).map (put x bf))
          (.cells #[.int .i64 0, .int .i64 0, .slice none 0 0] 35 (0, 0)) (.cells #[.int .i64 tk, .int .i64 ta, .slice ad tl.length cap] 35 (0, 0)) (.cells #[.int .i64 bf.k, .int .i64 bf.a, .slice adb bf.l.length capb] 35 (0, 0))) (fun i _ => tl.length - (intOf i).toNat)
        case atStart =>
          have hal : ∀ (W : World) (o : Obj), Below W.heap.size W (W.alloc o) := fun W o => (Below.refl _ _).alloc (Nat.le_refl _) o
          have o3 := World.alloc_heap_new (((w.alloc (.cells #[.int .i64 tk, .int .i64 ta, .slice ad tl.length cap] 35)).alloc (.cells #[.int .i64 bf.k, .int .i64 bf.a, .slice adb bf.l.length capb] 35)).alloc (.cells #[.int .i64 0, .int .i64 0, .slice none 0 0] 35)) (.cells #[.int .i64 tk, .int .i64 ta, .slice none 0 0] 35)
          rw [show (((w.alloc (.cells #[.int .i64 tk, .int .i64 ta, .slice ad tl.length cap] 35)).alloc (.cells #[.int .i64 bf.k, .int .i64 bf.a, .slice adb bf.l.length capb] 35)).alloc (.cells #[.int .i64 0, .int .i64 0, .slice none 0 0] 35)).heap.size = w.heap.size + 3 by simp] at o3
          exact ⟨0, .slice none 0 0, rfl, by omega, ⟨ownG_nil _ _ _ _, o3, obj_bel ⟨_, hal _ _⟩ (heap3_2 _ _ _ _), obj_bel ⟨_, hal _ _⟩ (heap3_0 _ _ _ _), obj_bel ⟨_, hal _ _⟩ (heap3_1 _ _ _ _), by (repeat' (first | (with_reducible exact Below.refl _ _) | (with_reducible exact Nat.le_refl _) | (with_reducible refine Below.bel ?_ ?_) | (with_reducible refine Below.alloc ?_ ?_ _) | (with_reducible refine Below.drew ?_) | (with_reducible refine Below.drawsN ?_ _) | (with_reducible refine Below.setCell ?_ ?_ _) | (with_reducible refine le_bel ?_) | (with_reducible refine le_alloc ?_) | (with_reducible refine le_setCell ?_) | (with_reducible refine le_drew ?_) | (with_reducible refine le_drawsN ?_) | (dsimp only; with_reducible refine le_bel ?_) | (dsimp only; with_reducible refine Nat.le_refl _) | (dsimp only; with_reducible refine le_bel_add ?_) | (with_reducible assumption) | omega | (dsimp only; omega))), by simp⟩⟩
        case round =>
          obtain ⟨k, v, rfl, hk, hst⟩ := hrel
          have HST := Lib.hid hst
          obtain ⟨hown, hbox, hres, hfb, hby0, hb, hsz⟩ := hst
          have hiW := below_move hlt (fun _ h => h) hb
          obtain ⟨b0, b1, b2⟩ := box3 hbox
          obtain ⟨fb0, fb1, fb2⟩ := box3 hfb
          obtain ⟨by0, by1, by2⟩ := box3 hby0
          obtain ⟨va, vc, rfl⟩ := ownG_val hown
          have htk : ((tl.take k).map (put x bf)).length = k := by rw [List.length_map, List.length_take]; omega
          rw [htk] at hown hbox b2
          rcases Nat.lt_or_ge k tl.length with hkl | hkl
          · obtain ⟨u, hu⟩ := some_at hkl
            obtain ⟨bb, off, hadd, hp, hcs⟩ := insF_at hiW (by omega)
            cases hadd
            obtain ⟨c0, c1, ad', cap', c2, hiu⟩ := cellF_open (hcs k u hu)
            have f0 : decide ((k : Int) < (tl.length : Int)) = true := decide_eq_true (by omega)
            have hib : (0 ≤ (k : Int) ∧ (k : Int) < (tl.length : Int)) := ⟨by omega, by omega⟩
            have HCU := HC.out u (List.mem_of_getElem? hu) ad' cap'
            obtain ⟨fu, hfu⟩ : ∃ fu, put x bf u = fu := ⟨_, rfl⟩
            rw [hfu] at HCU
            have HTK := Lib.hid (show (tl.take (k + 1)).map (put x bf) = (tl.take k).map (put x bf) ++ [fu] by rw [List.take_add_one, hu, List.map_append, ← hfu]; rfl)
            have HCC := Lib.hid HCU
            have HI := Lib.hid hiu
            have HO := Lib.hid hown
            have HL := Lib.hid htk
            have HB0 := Lib.hid hb
            clear hcs hiW hiu hown htk hu HCU hfu hp
            go_wp2_with fail
            refine wp_region_plan 11 (.calm 0 (.calm 1 (.calm 2 (.calm 3 (.calm 4 (.calm 5 (.calm 6 (.calm 7 (.calm 8 (.fork 9 (.fork 10 .tail .none) .none)))))))))) (by kernel_rfl) (by kernel_rfl) ?_
            simp only [Plan.walk, operAt, List.getElem?_cons_succ, List.getElem?_cons_zero, Option.getD_some, List.drop_succ_cons, List.drop_zero]
            repeat (refine wpX_calm (fun K hK => ?_); go_simp; first | (refine hK _ _ ?_; clear hK K) | (apply Exists.intro; refine ⟨fun _ => ?_, hK _ _ ?_⟩; (fail); clear hK K))
            refine wpX_only (fun K hK => ?_)
            go_simp
            intro x0
            refine (HCC.out _ (HI.out.of (by (repeat' (first | (with_reducible exact Below.refl _ _) | (with_reducible exact Nat.le_refl _) | (with_reducible refine Below.bel ?_ ?_) | (with_reducible refine Below.alloc ?_ ?_ _) | (with_reducible refine Below.drew ?_) | (with_reducible refine Below.drawsN ?_ _) | (with_reducible refine Below.setCell ?_ ?_ _) | (with_reducible refine le_bel ?_) | (with_reducible refine le_alloc ?_) | (with_reducible refine le_setCell ?_) | (with_reducible refine le_drew ?_) | (with_reducible refine le_drawsN ?_) | (dsimp only; with_reducible refine le_bel ?_) | (dsimp only; with_reducible refine Nat.le_refl _) | (dsimp only; with_reducible refine le_bel_add ?_) | (with_reducible assumption) | omega | (dsimp only; omega))))) (HIB.out.of (HB0.out.trans (by (repeat' (first | (with_reducible exact Below.refl _ _) | (with_reducible exact Nat.le_refl _) | (with_reducible refine Below.bel ?_ ?_) | (with_reducible refine Below.alloc ?_ ?_ _) | (with_reducible refine Below.drew ?_) | (with_reducible refine Below.drawsN ?_ _) | (with_reducible refine Below.setCell ?_ ?_ _) | (with_reducible refine le_bel ?_) | (with_reducible refine le_alloc ?_) | (with_reducible refine le_setCell ?_) | (with_reducible refine le_drew ?_) | (with_reducible refine le_drawsN ?_) | (dsimp only; with_reducible refine le_bel ?_) | (dsimp only; with_reducible refine Nat.le_refl _) | (dsimp only; with_reducible refine le_bel_add ?_) | (with_reducible assumption) | omega | (dsimp only; omega)))))) (by have := x0.size_le; omega)).mono ?_
            rintro _ _ ⟨_, rfl, y, rfl, ad5, cap5, rfl, hi5⟩
            refine ⟨_, rfl, y.below, hK _ _ ?_⟩
            clear hK K
            repeat (refine wpX_calm (fun K hK => ?_); go_simp; first | (refine hK _ _ ?_; clear hK K) | (apply Exists.intro; refine ⟨fun _ => ?_, hK _ _ ?_⟩; (fail); clear hK K))
            refine wpX_only (fun K hK => ?_)
            go_simp
            intro x2
            refine ⟨(Below.refl _ _).alloc (Nat.le_refl _) _, hK _ _ ?_⟩
            clear hK K
            repeat (refine wpX_calm (fun K hK => ?_); go_simp; first | (refine hK _ _ ?_; clear hK K) | (apply Exists.intro; refine ⟨fun _ => ?_, hK _ _ ?_⟩; (fail); clear hK K))
            refine wpX_tail ?_
            intro z
            have hzs : wr.heap.size ≤ x0.w.heap.size ∧ x0.w.heap.size ≤ y.w.heap.size ∧ y.w.heap.size ≤ x2.w.heap.size ∧ x2.w.heap.size + 1 ≤ z.w.heap.size := by
              have h1 := x0.size_le; have h2 := y.size_le; have h3 := x2.size_le; have h4 := z.size_le
              simp at h1 h4
              exact ⟨by omega, h2, h3, h4⟩
            have hsrc := obj_bel z (World.alloc_heap_new x2.w (.cells #[.int .i64 fu.k, .int .i64 fu.a, .slice ad5 fu.l.length cap5] 35))
            have hbz : Below wr.heap.size wr z.w := by (repeat' (first | (with_reducible exact Below.refl _ _) | (with_reducible exact Nat.le_refl _) | (with_reducible refine Below.bel ?_ ?_) | (with_reducible refine Below.alloc ?_ ?_ _) | (with_reducible refine Below.drew ?_) | (with_reducible refine Below.drawsN ?_ _) | (with_reducible refine Below.setCell ?_ ?_ _) | (with_reducible refine le_bel ?_) | (with_reducible refine le_alloc ?_) | (with_reducible refine le_setCell ?_) | (with_reducible refine le_drew ?_) | (with_reducible refine le_drawsN ?_) | (dsimp only; with_reducible refine le_bel ?_) | (dsimp only; with_reducible refine Nat.le_refl _) | (dsimp only; with_reducible refine le_bel_add ?_) | (with_reducible assumption) | omega | (dsimp only; omega)))
            have hby : Below y.w.heap.size y.w z.w := by (repeat' (first | (with_reducible exact Below.refl _ _) | (with_reducible exact Nat.le_refl _) | (with_reducible refine Below.bel ?_ ?_) | (with_reducible refine Below.alloc ?_ ?_ _) | (with_reducible refine Below.drew ?_) | (with_reducible refine Below.drawsN ?_ _) | (with_reducible refine Below.setCell ?_ ?_ _) | (with_reducible refine le_bel ?_) | (with_reducible refine le_alloc ?_) | (with_reducible refine le_setCell ?_) | (with_reducible refine le_drew ?_) | (with_reducible refine le_drawsN ?_) | (dsimp only; with_reducible refine le_bel ?_) | (dsimp only; with_reducible refine Nat.le_refl _) | (dsimp only; with_reducible refine le_bel_add ?_) | (with_reducible assumption) | omega | (dsimp only; omega)))
            have HOz := Lib.hid (show OwnG z.w (w.heap.size + 4) (fun b => w.heap.size + 4 ≤ b ∨ b < B0) 35 (.slice va k vc) ((tl.take k).map (put x bf)) from ownG_bel HO.out ⟨_, hbz⟩)
            have HCz := Lib.hid (show InsC (fun b => (w.heap.size + 4 ≤ b ∨ b < B0) ∧ (Value.slice va k vc).ownBlock ≠ some b) z.w (some ⟨x2.w.heap.size, 0, none⟩) [fu] from insC_one hsrc ((hi5.of hby).imp fun b _ hb => by
              rcases hb with hb | hb
              · exact ⟨.inl (by omega), ownG_avoid HO.out (.inl (by omega))⟩
              · exact ⟨.inr hb, ownG_avoid HO.out (.inr (by omega))⟩))
            have HBX := Lib.hid (obj_bel ⟨_, hbz⟩ hbox)
            have HBZ := Lib.hid hbz
            have hln : ((tl.take k).map (put x bf)).length ≤ 100000000 := by rw [HL.out]; omega
            clear hi5 hsrc
            go_wp2_with (at_builtin; refine wpList_appG rfl _ _ 33 35 rfl i0 Tryz.underlying33 hi0 hz0 hz1 hz2 z.w (w.heap.size + 4) (fun b => w.heap.size + 4 ≤ b ∨ b < B0) _ ((tl.take k).map (put x bf)) [fu] (some ⟨x2.w.heap.size, 0, none⟩) 1 rfl HOz.out HCz.out rfl (by rw [HL.out]; first | omega | (simp <;> omega)) (by first | omega | (simp <;> omega)) ?_; intro va2 vc2 w1 hof hbw; rw [HL.out, List.length_singleton] at hof; rw [HL.out]; have HBW := Lib.hid hbw; have HOF := Lib.hid hof; have HB4 := Lib.hid (obj_below hbw (by omega) HBX.out); obtain ⟨j0, j1, j2⟩ := box3 HB4.out; obtain ⟨_, _, j3⟩ := box3f HB4.out; have hbws := hbw.size; clear hof hbw)
            go_roundw
            case rel => exact ⟨k + 1, .slice va2 (k + 1) vc2, by go_num, by omega, HST.out.next HBZ.out HBW.out (by rw [HTK.out]; exact HOF.out) (by omega) (by omega) (by omega) (by omega) (by omega) (by omega) (by omega) (by omega) (by omega)⟩
            case measure => simp [intOf]; omega
          · have hke : k = tl.length := by omega
            subst hke
            have f0 : decide ((tl.length : Int) < (tl.length : Int)) = false := decide_eq_false (by omega)
            rw [List.take_length] at hown htk
            have HO := Lib.hid hown
            obtain ⟨r0, r1, r2⟩ := box3 hres
            obtain ⟨g0, g1, g2⟩ := box3f hres
            clear hiW hown
            go_wp2
            have hR := obj_set3 (.int .i64 tk) (.int .i64 ta) (.slice va tl.length vc) hres
            obtain ⟨q0, q1, q2⟩ := box3 hR
            have hbw := hb
            have hmv := ownG_move HO.out (w' := ((wr.setCell ⟨w.heap.size + 2, 0, none⟩ (.int .i64 tk)).setCell ⟨w.heap.size + 2, 1, none⟩ (.int .i64 ta)).setCell ⟨w.heap.size + 2, 2, none⟩ (.slice va tl.length vc)) (fun b o hbo hq => by
              have hne : b ≠ w.heap.size + 2 := by
                rcases hq with hq | hq | hq
                · have := ownG_block HO.out hq
                  omega
                · omega
                · omega
              exact obj_ne _ hne (obj_ne _ hne (obj_ne _ hne hbo)))
            obtain ⟨oa, oc, hov, hoi⟩ := ownG_ins hmv
            injection hov with e1 e2 e3
            subst e1 e3
            refine bodyPost_ret (v := .agg #[.int .i64 tk, .int .i64 ta, .slice va tl.length vc]) (by simp [results, Tryz.results12, go_sem, q0, q1, q2]) rfl (RetQ.mk va vc (by rw [nd_k, nd_a, nd_l, htk]) (by (repeat' (first | (with_reducible exact Below.refl _ _) | (with_reducible exact Nat.le_refl _) | (with_reducible refine Below.bel ?_ ?_) | (with_reducible refine Below.alloc ?_ ?_ _) | (with_reducible refine Below.drew ?_) | (with_reducible refine Below.drawsN ?_ _) | (with_reducible refine Below.setCell ?_ ?_ _) | (with_reducible refine le_bel ?_) | (with_reducible refine le_alloc ?_) | (with_reducible refine le_setCell ?_) | (with_reducible refine le_drew ?_) | (with_reducible refine le_drawsN ?_) | (dsimp only; with_reducible refine le_bel ?_) | (dsimp only; with_reducible refine Nat.le_refl _) | (dsimp only; with_reducible refine le_bel_add ?_) | (with_reducible assumption) | omega | (dsimp only; omega)))) ?_)
            exact hoi.imp fun b _ h => by omega
end Go.Proofs.YtkbellmhanpocaaGreatDoor
