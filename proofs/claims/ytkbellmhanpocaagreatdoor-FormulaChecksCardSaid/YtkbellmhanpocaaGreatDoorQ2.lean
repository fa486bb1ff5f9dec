/- checks, grown, replace, Substitute, Restrict. -/
import Derived.Test.YtkbellmhanpocaaGreatDoorG11
import Derived.Test.YtkbellmhanpocaaGreatDoorG8
namespace Go.Proofs.YtkbellmhanpocaaGreatDoor
set_option linter.unusedVariables false
set_option linter.unusedSimpArgs false
open Go.RowKit F
attribute [local go_sem low] Bel.cell Bel.frozen alloc_cell alloc_frozen
attribute [local go_sem] calmOp chainOp yieldsC grows

theorem nd_k (k a : Int) (l : List F) : (nd k a l).k = k := rfl
theorem nd_a (k a : Int) (l : List F) : (nd k a l).a = a := rfl
theorem nd_l (k a : Int) (l : List F) : (nd k a l).l = l := rfl
/-- The first error of a list of formulas. -/
def chkL : List F → Int | [] => 0 | t :: r => if checkF t = 0 then chkL r else checkF t
theorem chkL_app : ∀ {l r : List F}, (∀ u ∈ l, checkF u = 0) → chkL (l ++ r) = chkL r
  | [], _, _ => rfl
  | t :: l, r, h => by
    rw [List.cons_append, chkL, if_pos (h t (List.mem_cons_self ..)), chkL_app fun u hu => h u (List.mem_cons_of_mem _ hu)]
theorem chkL_all : ∀ {l : List F}, (∀ u ∈ l, checkF u = 0) → chkL l = 0
  | [], _ => rfl
  | t :: l, h => by rw [chkL, if_pos (h t (List.mem_cons_self ..)), chkL_all fun u hu => h u (List.mem_cons_of_mem _ hu)]
set_option maxRecDepth 100000 in
set_option maxHeartbeats 6400000 in
theorem checks_any (l : List F) (P : Nat → Prop) (ad : Option Addr) (cap : Nat) (w : World) (hi : InsF P w ad l) (hn : nodesL l ≤ 1000000000000) :
    Calls Tryz.prog 29 #[.slice ad l.length cap] w (Ret (.int .i64 (chkL l)) w) := by
  have hlt : InsF (fun c => c < w.heap.size) w ad l := hi.imp fun b hb _ => hb
  have hlen : l.length ≤ 1000000000000 := Nat.le_trans (length_nodesL l) hn
  have HN := Lib.hid hn
  clear hi hn
  go_enter Tryz.func29, Tryz.ntmps29
  go_wp2
  go_loopw [8] (fun i wr => ∃ k : Nat, i = .int .i64 (k : Int) ∧ k ≤ l.length ∧ (∀ u ∈ l.take k, checkF u = 0) ∧ Below w.heap.size w wr) (fun i _ => l.length - (intOf i).toNat)
  case atStart => exact ⟨0, rfl, by omega, fun u hu => by simp at hu, by (repeat' (first | (with_reducible exact Below.refl _ _) | (with_reducible exact Nat.le_refl _) | (with_reducible refine Below.bel ?_ ?_) | (with_reducible refine Below.alloc ?_ ?_ _) | (with_reducible refine Below.drew ?_) | (with_reducible refine Below.drawsN ?_ _) | (with_reducible refine Below.setCell ?_ ?_ _) | (with_reducible refine le_bel ?_) | (with_reducible refine le_alloc ?_) | (with_reducible refine le_setCell ?_) | (with_reducible refine le_drew ?_) | (with_reducible refine le_drawsN ?_) | (dsimp only; with_reducible refine le_bel ?_) | (dsimp only; with_reducible refine Nat.le_refl _) | (dsimp only; with_reducible refine le_bel_add ?_) | (with_reducible assumption) | omega | (dsimp only; omega)))⟩
  case round =>
    obtain ⟨k, rfl, hk, hA, hb⟩ := hrel
    have hiW := below_move hlt (fun _ h => h) hb
    have hbs := hb.size
    have HA := Lib.hid hA
    clear hA
    rcases Nat.lt_or_ge k l.length with hkl | hkl
    · obtain ⟨u, hu⟩ := some_at hkl
      obtain ⟨bb, off, hadd, hp, hcs⟩ := insF_at hiW (by omega)
      cases hadd
      obtain ⟨c0, c1, adu, capu, c2, hiu⟩ := cellF_open (hcs k u hu)
      have f0 : decide ((k : Int) < (l.length : Int)) = true := decide_eq_true (by omega)
      have hib : (0 ≤ (k : Int) ∧ (k : Int) < (l.length : Int)) := ⟨by omega, by omega⟩
      have HC := Lib.hid (fun W (h : InsF (fun c => c < w.heap.size) W adu u.l) => check_any _ u adu capu W h (Nat.le_trans (nodesL_mem (List.mem_of_getElem? hu)) HN.out))
      have HI := Lib.hid hiu
      have HTK := Lib.hid (show l.take (k + 1) = l.take k ++ [u] by rw [List.take_add_one, hu]; rfl)
      have HDR := Lib.hid (show chkL l = chkL (u :: l.drop (k + 1)) by
        have := chkL_app (l := l.take k) (r := l.drop k) HA.out
        rw [List.take_append_drop, drop_at hu] at this
        exact this)
      obtain ⟨q, hq⟩ : ∃ q, checkF u = q := ⟨_, rfl⟩
      have HQ := Lib.hid hq
      rw [hq] at HC
      clear hcs hiW hiu hp hu hq
      by_cases h0 : q = 0
      · subst h0
        go_wp2_with fail
        refine (HC.out _ (HI.out.of (by (repeat' (first | (with_reducible exact Below.refl _ _) | (with_reducible exact Nat.le_refl _) | (with_reducible refine Below.bel ?_ ?_) | (with_reducible refine Below.alloc ?_ ?_ _) | (with_reducible refine Below.drew ?_) | (with_reducible refine Below.drawsN ?_ _) | (with_reducible refine Below.setCell ?_ ?_ _) | (with_reducible refine le_bel ?_) | (with_reducible refine le_alloc ?_) | (with_reducible refine le_setCell ?_) | (with_reducible refine le_drew ?_) | (with_reducible refine le_drawsN ?_) | (dsimp only; with_reducible refine le_bel ?_) | (dsimp only; with_reducible refine Nat.le_refl _) | (dsimp only; with_reducible refine le_bel_add ?_) | (with_reducible assumption) | omega | (dsimp only; omega)))))).mono ?_
        rintro _ _ ⟨rfl, y, rfl⟩
        dsimp only
        go_wp2
        go_roundw
        case rel => exact ⟨k + 1, by go_num, by omega, by rw [HTK.out]; intro v hv; rcases List.mem_append.1 hv with hv | hv; exact HA.out v hv; rw [List.mem_singleton.1 hv]; exact HQ.out, by (repeat' (first | (with_reducible exact Below.refl _ _) | (with_reducible exact Nat.le_refl _) | (with_reducible refine Below.bel ?_ ?_) | (with_reducible refine Below.alloc ?_ ?_ _) | (with_reducible refine Below.drew ?_) | (with_reducible refine Below.drawsN ?_ _) | (with_reducible refine Below.setCell ?_ ?_ _) | (with_reducible refine le_bel ?_) | (with_reducible refine le_alloc ?_) | (with_reducible refine le_setCell ?_) | (with_reducible refine le_drew ?_) | (with_reducible refine le_drawsN ?_) | (dsimp only; with_reducible refine le_bel ?_) | (dsimp only; with_reducible refine Nat.le_refl _) | (dsimp only; with_reducible refine le_bel_add ?_) | (with_reducible assumption) | omega | (dsimp only; omega)))⟩
        case measure => simp [intOf]; omega
      · have f1 : (q != 0) = true := bne_iff_ne.2 h0
        have HE := Lib.hid (show chkL l = q by rw [HDR.out, chkL, HQ.out, if_neg h0])
        clear h0
        go_wp2_with fail
        refine (HC.out _ (HI.out.of (by (repeat' (first | (with_reducible exact Below.refl _ _) | (with_reducible exact Nat.le_refl _) | (with_reducible refine Below.bel ?_ ?_) | (with_reducible refine Below.alloc ?_ ?_ _) | (with_reducible refine Below.drew ?_) | (with_reducible refine Below.drawsN ?_ _) | (with_reducible refine Below.setCell ?_ ?_ _) | (with_reducible refine le_bel ?_) | (with_reducible refine le_alloc ?_) | (with_reducible refine le_setCell ?_) | (with_reducible refine le_drew ?_) | (with_reducible refine le_drawsN ?_) | (dsimp only; with_reducible refine le_bel ?_) | (dsimp only; with_reducible refine Nat.le_refl _) | (dsimp only; with_reducible refine le_bel_add ?_) | (with_reducible assumption) | omega | (dsimp only; omega)))))).mono ?_
        rintro _ _ ⟨rfl, y, rfl⟩
        dsimp only
        go_wp2
        go_ret
        exact Ret.mk (by rw [HE.out]; rfl) (by (repeat' (first | (with_reducible exact Below.refl _ _) | (with_reducible exact Nat.le_refl _) | (with_reducible refine Below.bel ?_ ?_) | (with_reducible refine Below.alloc ?_ ?_ _) | (with_reducible refine Below.drew ?_) | (with_reducible refine Below.drawsN ?_ _) | (with_reducible refine Below.setCell ?_ ?_ _) | (with_reducible refine le_bel ?_) | (with_reducible refine le_alloc ?_) | (with_reducible refine le_setCell ?_) | (with_reducible refine le_drew ?_) | (with_reducible refine le_drawsN ?_) | (dsimp only; with_reducible refine le_bel ?_) | (dsimp only; with_reducible refine Nat.le_refl _) | (dsimp only; with_reducible refine le_bel_add ?_) | (with_reducible assumption) | omega | (dsimp only; omega))))
    · have hke : k = l.length := by omega
      subst hke
      have f0 : decide ((l.length : Int) < (l.length : Int)) = false := decide_eq_false (by omega)
      rw [List.take_length] at HA
      have HE := Lib.hid (chkL_all HA.out)
      clear hiW
      go_wp2
      go_ret
      exact Ret.mk (by rw [HE.out]; rfl) (by (repeat' (first | (with_reducible exact Below.refl _ _) | (with_reducible exact Nat.le_refl _) | (with_reducible refine Below.bel ?_ ?_) | (with_reducible refine Below.alloc ?_ ?_ _) | (with_reducible refine Below.drew ?_) | (with_reducible refine Below.drawsN ?_ _) | (with_reducible refine Below.setCell ?_ ?_ _) | (with_reducible refine le_bel ?_) | (with_reducible refine le_alloc ?_) | (with_reducible refine le_setCell ?_) | (with_reducible refine le_drew ?_) | (with_reducible refine le_drawsN ?_) | (dsimp only; with_reducible refine le_bel ?_) | (dsimp only; with_reducible refine Nat.le_refl _) | (dsimp only; with_reducible refine le_bel_add ?_) | (with_reducible assumption) | omega | (dsimp only; omega))))
theorem putL_map (x : Int) (b : F) : ∀ l : List F, putL x b l = l.map (put x b)
  | [] => rfl
  | t :: r => by rw [putL, List.map_cons, putL_map x b r]
theorem put_hit (x : Int) (b : F) (l : List F) : put x b (nd 1 x l) = b := by rw [put, if_pos ⟨rfl, rfl⟩]
theorem put_miss {x k a : Int} (b : F) (l : List F) (h : ¬ (k = 1 ∧ a = x)) : put x b (nd k a l) = nd k a (l.map (put x b)) := by rw [put, if_neg h, putL_map]
set_option maxRecDepth 100000 in
set_option maxHeartbeats 12800000 in
theorem replace_any (x : Int) (bf : F) (hbn : nodes bf ≤ 100000000) : ∀ (N : Nat) (t : F), nodes t ≤ N → ∀ (P Pb : Nat → Prop) (ad adb : Option Addr) (cap capb : Nat) (w : World), InsF P w ad t.l → InsF Pb w adb bf.l → nodes t ≤ 100000000 →
    Calls Tryz.prog 32 #[.agg #[.int .i64 t.k, .int .i64 t.a, .slice ad t.l.length cap], .int .i64 x, .agg #[.int .i64 bf.k, .int .i64 bf.a, .slice adb bf.l.length capb]] w (RetF (put x bf t) w) := by
  obtain ⟨i0, hi0, hz0, hz1, hz2⟩ := info_parts Tryz.infoF
  intro N
  induction N with
  | zero => intro t h; have := nodes_pos t; omega
  | succ N ih =>
    intro t hN P Pb ad adb cap capb w hi hib hbig
    have HNL := Lib.hid (show nodesL t.l ≤ N by rw [nodes_l] at hN; omega)
    have HBIG := Lib.hid (show nodesL t.l ≤ 100000000 by rw [nodes_l] at hbig; omega)
    have hlen : t.l.length ≤ 100000000 := Nat.le_trans (length_nodesL t.l) HBIG.out
    have hlt : InsF (fun c => c < w.heap.size) w ad t.l := hi.imp fun b hb _ => hb
    have HIB := Lib.hid hib
    clear hi hN hbig hib
    obtain ⟨tk, ta, tl⟩ := t
    simp only [nd_k, nd_a, nd_l] at HNL HBIG hlen hlt ⊢
    by_cases h1 : tk = 1 ∧ ta = x
    · obtain ⟨rfl, rfl⟩ := h1
      rw [put_hit]
      have HC := Lib.hid (fun w' (h : InsF Pb w' adb bf.l) => clone_any (nodes bf) bf (Nat.le_refl _) Pb adb capb w' h hbn)
      go_enter Tryz.func32, Tryz.ntmps32
      go_wp2_with fail
      refine (HC.out _ (HIB.out.of (by (repeat' (first | (with_reducible exact Below.refl _ _) | (with_reducible exact Nat.le_refl _) | (with_reducible refine Below.bel ?_ ?_) | (with_reducible refine Below.alloc ?_ ?_ _) | (with_reducible refine Below.drew ?_) | (with_reducible refine Below.drawsN ?_ _) | (with_reducible refine Below.setCell ?_ ?_ _) | (with_reducible refine le_bel ?_) | (with_reducible refine le_alloc ?_) | (with_reducible refine le_setCell ?_) | (with_reducible refine le_drew ?_) | (with_reducible refine le_drawsN ?_) | (dsimp only; with_reducible refine le_bel ?_) | (dsimp only; with_reducible refine Nat.le_refl _) | (dsimp only; with_reducible refine le_bel_add ?_) | (with_reducible assumption) | omega | (dsimp only; omega)))))).mono ?_
      rintro _ _ ⟨_, rfl, y, rfl, ad5, cap5, rfl, hi5⟩
      have hres := obj_bel y (heap3_2 w (.cells #[.int .i64 1, .int .i64 ta, .slice ad tl.length cap] 26) (.cells #[.int .i64 bf.k, .int .i64 bf.a, .slice adb bf.l.length capb] 26) (.cells #[.int .i64 0, .int .i64 0, .slice none 0 0] 26))
      obtain ⟨r0, r1, r2⟩ := box3 hres
      obtain ⟨g0, g1, g2⟩ := box3f hres
      have hys := y.size_le
      simp at hys
      have HI5 := Lib.hid hi5
      clear hi5
      dsimp only
      go_wp2
      have hR := obj_set3 (.int .i64 bf.k) (.int .i64 bf.a) (.slice ad5 bf.l.length cap5) hres
      obtain ⟨q0, q1, q2⟩ := box3 hR
      refine bodyPost_ret (v := .agg #[.int .i64 bf.k, .int .i64 bf.a, .slice ad5 bf.l.length cap5]) (by simp [results, Tryz.results32, go_sem, q0, q1, q2]) rfl (RetF.mk ad5 cap5 rfl (by (repeat' (first | (with_reducible exact Below.refl _ _) | (with_reducible exact Nat.le_refl _) | (with_reducible refine Below.bel ?_ ?_) | (with_reducible refine Below.alloc ?_ ?_ _) | (with_reducible refine Below.drew ?_) | (with_reducible refine Below.drawsN ?_ _) | (with_reducible refine Below.setCell ?_ ?_ _) | (with_reducible refine le_bel ?_) | (with_reducible refine le_alloc ?_) | (with_reducible refine le_setCell ?_) | (with_reducible refine le_drew ?_) | (with_reducible refine le_drawsN ?_) | (dsimp only; with_reducible refine le_bel ?_) | (dsimp only; with_reducible refine Nat.le_refl _) | (dsimp only; with_reducible refine le_bel_add ?_) | (with_reducible assumption) | omega | (dsimp only; omega)))) ?_)
      refine (HI5.out.move (fun c o u hc hu => ?_) (fun b _ h => h)).imp (fun b _ h => by simp at h; omega)
      have hne : c ≠ w.heap.size + 2 := by simp at hc; omega
      rw [World.cell?_of_block (Below.heap_setCell _ _ _ c hne), World.cell?_of_block (Below.heap_setCell _ _ _ c hne), World.cell?_of_block (Below.heap_setCell _ _ _ c hne)]
      exact hu
    · rw [put_miss bf tl h1]
      have HC := Lib.hid (fun u (hu : u ∈ tl) ad' cap' w' (hiu : InsF (fun c => c < w.heap.size) w' ad' u.l) (hib : InsF Pb w' adb bf.l) => ih u (Nat.le_trans (nodesL_mem hu) HNL.out) _ Pb ad' adb cap' capb w' hiu hib (Nat.le_trans (nodesL_mem hu) HBIG.out))
      have HF : (tk == 1) = false ∨ (tk == 1) = true ∧ (ta == x) = false := by
        by_cases e1 : tk = 1
        · exact .inr ⟨beq_iff_eq.2 e1, beq_eq_false_iff_ne.2 fun e => h1 ⟨e1, e⟩⟩
        · exact .inl (beq_eq_false_iff_ne.2 e1)
      clear h1
      rcases HF with f1 | ⟨f1, f2⟩
      · go_enter Tryz.func32, Tryz.ntmps32
        go_wp2
        go_loopw [29] (fun i wr => ∃ (k : Nat) (v : Value), i = .int .i64 (k : Int) ∧ k ≤ tl.length ∧ AppSt w wr 26 (w.heap.size + 4) (w.heap.size + 3) (w.heap.size + 2) w.heap.size tk ta v ((tl.take k).map (put x bf))
          (.cells #[.int .i64 0, .int .i64 0, .slice none 0 0] 26 (0, 0)) (.cells #[.int .i64 tk, .int .i64 ta, .slice ad tl.length cap] 26 (0, 0)) ∧ wr.heap[w.heap.size + 1]? = some (.cells #[.int .i64 bf.k, .int .i64 bf.a, .slice adb bf.l.length capb] 26 (0, 0))) (fun i _ => tl.length - (intOf i).toNat)
        case atStart =>
          have o0 := heap3_0 w (.cells #[.int .i64 tk, .int .i64 ta, .slice ad tl.length cap] 26) (.cells #[.int .i64 bf.k, .int .i64 bf.a, .slice adb bf.l.length capb] 26) (.cells #[.int .i64 0, .int .i64 0, .slice none 0 0] 26)
          have o1 := heap3_1 w (.cells #[.int .i64 tk, .int .i64 ta, .slice ad tl.length cap] 26) (.cells #[.int .i64 bf.k, .int .i64 bf.a, .slice adb bf.l.length capb] 26) (.cells #[.int .i64 0, .int .i64 0, .slice none 0 0] 26)
          have o2 := heap3_2 w (.cells #[.int .i64 tk, .int .i64 ta, .slice ad tl.length cap] 26) (.cells #[.int .i64 bf.k, .int .i64 bf.a, .slice adb bf.l.length capb] 26) (.cells #[.int .i64 0, .int .i64 0, .slice none 0 0] 26)
          have hal : ∀ (W : World) (o : Obj), Below W.heap.size W (W.alloc o) := fun W o => (Below.refl _ _).alloc (Nat.le_refl _) o
          have hsz3 : (((w.alloc (.cells #[.int .i64 tk, .int .i64 ta, .slice ad tl.length cap] 26)).alloc (.cells #[.int .i64 bf.k, .int .i64 bf.a, .slice adb bf.l.length capb] 26)).alloc (.cells #[.int .i64 0, .int .i64 0, .slice none 0 0] 26)).heap.size = w.heap.size + 3 := by simp
          have o3 := World.alloc_heap_new (((w.alloc (.cells #[.int .i64 tk, .int .i64 ta, .slice ad tl.length cap] 26)).alloc (.cells #[.int .i64 bf.k, .int .i64 bf.a, .slice adb bf.l.length capb] 26)).alloc (.cells #[.int .i64 0, .int .i64 0, .slice none 0 0] 26)) (.cells #[.int .i64 tk, .int .i64 ta, .slice none 0 0] 26)
          rw [hsz3] at o3
          exact ⟨0, .slice none 0 0, rfl, by omega, ⟨ownF_nil _ _ _, o3, obj_bel ⟨_, hal _ _⟩ o2, obj_bel ⟨_, hal _ _⟩ o0, by (repeat' (first | (with_reducible exact Below.refl _ _) | (with_reducible exact Nat.le_refl _) | (with_reducible refine Below.bel ?_ ?_) | (with_reducible refine Below.alloc ?_ ?_ _) | (with_reducible refine Below.drew ?_) | (with_reducible refine Below.drawsN ?_ _) | (with_reducible refine Below.setCell ?_ ?_ _) | (with_reducible refine le_bel ?_) | (with_reducible refine le_alloc ?_) | (with_reducible refine le_setCell ?_) | (with_reducible refine le_drew ?_) | (with_reducible refine le_drawsN ?_) | (dsimp only; with_reducible refine le_bel ?_) | (dsimp only; with_reducible refine Nat.le_refl _) | (dsimp only; with_reducible refine le_bel_add ?_) | (with_reducible assumption) | omega | (dsimp only; omega))), by simp⟩, obj_bel ⟨_, hal _ _⟩ o1⟩
        case round =>
          obtain ⟨k, v, rfl, hk, hst, hby0⟩ := hrel
          have HST := Lib.hid hst
          obtain ⟨hown, hbox, hres, hfb, hb, hsz⟩ := hst
          have hiW := below_move hlt (fun _ h => h) hb
          obtain ⟨b0, b1, b2⟩ := box3 hbox
          obtain ⟨fb0, fb1, fb2⟩ := box3 hfb
          obtain ⟨by0, by1, by2⟩ := box3 hby0
          obtain ⟨va, vc, rfl⟩ := ownF_val hown
          have htk : ((tl.take k).map (put x bf)).length = k := by rw [List.length_map, List.length_take]; omega
          rw [htk] at hown hbox b2
          rcases Nat.lt_or_ge k tl.length with hkl | hkl
          · obtain ⟨u, hu⟩ := some_at hkl
            obtain ⟨bb, off, hadd, hp, hcs⟩ := insF_at hiW (by omega)
            cases hadd
            obtain ⟨c0, c1, ad', cap', c2, hiu⟩ := cellF_open (hcs k u hu)
            have f0 : decide ((k : Int) < (tl.length : Int)) = true := decide_eq_true (by omega)
            have HCU := HC.out u (List.mem_of_getElem? hu) ad' cap'
            obtain ⟨fu, hfu⟩ : ∃ fu, (put x bf u) = fu := ⟨_, rfl⟩
            rw [hfu] at HCU
            have HTK := Lib.hid (show (tl.take (k + 1)).map (put x bf) = (tl.take k).map (put x bf) ++ [fu] by rw [List.take_add_one, hu, List.map_append, ← hfu]; rfl)
            have HCC := Lib.hid HCU
            have HI := Lib.hid hiu
            have HO := Lib.hid hown
            have HL := Lib.hid htk
            clear hcs hiW hiu hown htk hu HCU hfu hp
            have HBY0 := Lib.hid hby0
            have HB0 := Lib.hid hb
            go_wp2_with fail
            refine wp_region_plan 7 (.calm 0 (.calm 1 (.calm 2 (.calm 3 (.calm 4 (.fork 5 (.fork 6 .tail .none) .none)))))) (by kernel_rfl) (by kernel_rfl) ?_
            simp only [Plan.walk, operAt, List.getElem?_cons_succ, List.getElem?_cons_zero, Option.getD_some, List.drop_succ_cons, List.drop_zero]
            repeat (refine wpX_calm (fun K hK => ?_); go_simp; first | (refine hK _ _ ?_; clear hK K) | (apply Exists.intro; refine ⟨fun _ => ?_, hK _ _ ?_⟩; (fail); clear hK K))
            refine wpX_only (fun K hK => ?_)
            go_simp
            intro x0
            refine (HCC.out _ (HI.out.of (by (repeat' (first | (with_reducible exact Below.refl _ _) | (with_reducible exact Nat.le_refl _) | (with_reducible refine Below.bel ?_ ?_) | (with_reducible refine Below.alloc ?_ ?_ _) | (with_reducible refine Below.drew ?_) | (with_reducible refine Below.drawsN ?_ _) | (with_reducible refine Below.setCell ?_ ?_ _) | (with_reducible refine le_bel ?_) | (with_reducible refine le_alloc ?_) | (with_reducible refine le_setCell ?_) | (with_reducible refine le_drew ?_) | (with_reducible refine le_drawsN ?_) | (dsimp only; with_reducible refine le_bel ?_) | (dsimp only; with_reducible refine Nat.le_refl _) | (dsimp only; with_reducible refine le_bel_add ?_) | (with_reducible assumption) | omega | (dsimp only; omega))))) (HIB.out.of (HB0.out.trans (by (repeat' (first | (with_reducible exact Below.refl _ _) | (with_reducible exact Nat.le_refl _) | (with_reducible refine Below.bel ?_ ?_) | (with_reducible refine Below.alloc ?_ ?_ _) | (with_reducible refine Below.drew ?_) | (with_reducible refine Below.drawsN ?_ _) | (with_reducible refine Below.setCell ?_ ?_ _) | (with_reducible refine le_bel ?_) | (with_reducible refine le_alloc ?_) | (with_reducible refine le_setCell ?_) | (with_reducible refine le_drew ?_) | (with_reducible refine le_drawsN ?_) | (dsimp only; with_reducible refine le_bel ?_) | (dsimp only; with_reducible refine Nat.le_refl _) | (dsimp only; with_reducible refine le_bel_add ?_) | (with_reducible assumption) | omega | (dsimp only; omega))))))).mono ?_
            rintro _ _ ⟨_, rfl, y, rfl, ad5, cap5, rfl, hi5⟩
            refine ⟨_, rfl, y.below, hK _ _ ?_⟩
            clear hK K
            repeat (refine wpX_calm (fun K hK => ?_); go_simp; first | (refine hK _ _ ?_; clear hK K) | (apply Exists.intro; refine ⟨fun _ => ?_, hK _ _ ?_⟩; (fail); clear hK K))
            refine wpX_only (fun K hK => ?_)
            go_simp
            intro x2
            refine ⟨(Below.refl _ _).alloc (Nat.le_refl _) _, hK _ _ ?_⟩
            clear hK K
            repeat (refine wpX_calm (fun K hK => ?_); go_simp; first | (refine hK _ _ ?_; clear hK K) | (apply Exists.intro; refine ⟨fun _ => ?_, hK _ _ ?_⟩; (fail); clear hK K))
            refine wpX_tail ?_
            intro z
            have hzs : wr.heap.size ≤ x0.w.heap.size ∧ x0.w.heap.size ≤ y.w.heap.size ∧ y.w.heap.size ≤ x2.w.heap.size ∧ x2.w.heap.size + 1 ≤ z.w.heap.size := by
              have h1 := x0.size_le; have h2 := y.size_le; have h3 := x2.size_le; have h4 := z.size_le
              simp at h1 h4
              exact ⟨by omega, h2, h3, h4⟩
            have hsrc := Lib.hid (obj_bel z (World.alloc_heap_new x2.w (.cells #[.int .i64 fu.k, .int .i64 fu.a, .slice ad5 fu.l.length cap5] 26)))
            have hbz : Below wr.heap.size wr z.w := by (repeat' (first | (with_reducible exact Below.refl _ _) | (with_reducible exact Nat.le_refl _) | (with_reducible refine Below.bel ?_ ?_) | (with_reducible refine Below.alloc ?_ ?_ _) | (with_reducible refine Below.drew ?_) | (with_reducible refine Below.drawsN ?_ _) | (with_reducible refine Below.setCell ?_ ?_ _) | (with_reducible refine le_bel ?_) | (with_reducible refine le_alloc ?_) | (with_reducible refine le_setCell ?_) | (with_reducible refine le_drew ?_) | (with_reducible refine le_drawsN ?_) | (dsimp only; with_reducible refine le_bel ?_) | (dsimp only; with_reducible refine Nat.le_refl _) | (dsimp only; with_reducible refine le_bel_add ?_) | (with_reducible assumption) | omega | (dsimp only; omega)))
            have hby : Below y.w.heap.size y.w z.w := by (repeat' (first | (with_reducible exact Below.refl _ _) | (with_reducible exact Nat.le_refl _) | (with_reducible refine Below.bel ?_ ?_) | (with_reducible refine Below.alloc ?_ ?_ _) | (with_reducible refine Below.drew ?_) | (with_reducible refine Below.drawsN ?_ _) | (with_reducible refine Below.setCell ?_ ?_ _) | (with_reducible refine le_bel ?_) | (with_reducible refine le_alloc ?_) | (with_reducible refine le_setCell ?_) | (with_reducible refine le_drew ?_) | (with_reducible refine le_drawsN ?_) | (dsimp only; with_reducible refine le_bel ?_) | (dsimp only; with_reducible refine Nat.le_refl _) | (dsimp only; with_reducible refine le_bel_add ?_) | (with_reducible assumption) | omega | (dsimp only; omega)))
            have HOz := Lib.hid (show OwnF z.w (w.heap.size + 4) 26 (.slice va k vc) ((tl.take k).map (put x bf)) from ownF_bel HO.out ⟨_, hbz⟩)
            have HCz := Lib.hid (show InsF (fun b => (w.heap.size + 4) ≤ b ∧ (Value.slice va k vc).ownBlock ≠ some b) z.w ad5 fu.l from (hi5.of hby).imp fun b _ hb => ⟨by omega, ownF_avoid HO.out (by omega)⟩)
            have HBX := Lib.hid (obj_bel ⟨_, hbz⟩ hbox)
            have HFB := Lib.hid (obj_bel ⟨_, hbz⟩ hfb)
            have HBZ := Lib.hid hbz
            have HBYZ := Lib.hid (obj_bel ⟨_, hbz⟩ HBY0.out)
            have hln : ((tl.take k).map (put x bf)).length ≤ 100000000 := by rw [HL.out]; omega
            clear hi5
            go_wp2_with (at_builtin; refine wpList_appF rfl _ _ 24 26 rfl i0 Tryz.underlying24 hi0 hz0 hz1 hz2 z.w (w.heap.size + 4) _ ((tl.take k).map (put x bf)) fu ad5 cap5 x2.w.heap.size rfl HOz.out HCz.out rfl hsrc.out hln (by omega) ?_; intro g' c w1 hof hbw; have HBW := Lib.hid hbw; have HB1 := Lib.hid (obj_below hbw (by omega) HBX.out); obtain ⟨d0, d1, d2⟩ := box3 HB1.out; obtain ⟨_, _, f2⟩ := box3f HB1.out; have hbws := hbw.size; clear hbw; rw [HL.out] at hof ⊢)
            go_roundw
            case rel => exact ⟨k + 1, .slice (some ⟨g', 0, none⟩) (k + 1) c, by go_num, by omega, HST.out.next HBZ.out HBW.out (by rw [HTK.out]; exact hof) (by omega) (by omega) (by omega) (by omega) (by omega) (by omega), obj_ne _ (by omega) (obj_below HBW.out (by omega) HBYZ.out)⟩
            case measure => simp [intOf]; omega
          · have hke : k = tl.length := by omega
            subst hke
            have f0 : decide ((tl.length : Int) < (tl.length : Int)) = false := decide_eq_false (by omega)
            rw [List.take_length] at hown htk
            have HO := Lib.hid hown
            obtain ⟨r0, r1, r2⟩ := box3 hres
            obtain ⟨g0, g1, g2⟩ := box3f hres
            clear hiW hown
            go_wp2
            have hR := obj_set3 (.int .i64 tk) (.int .i64 ta) (.slice va tl.length vc) hres
            obtain ⟨q0, q1, q2⟩ := box3 hR
            refine bodyPost_ret (v := .agg #[.int .i64 tk, .int .i64 ta, .slice va tl.length vc]) (by simp [results, Tryz.results32, go_sem, q0, q1, q2]) rfl (RetF.mk va vc (by simp [F.k, F.a, F.l]) (by (repeat' (first | (with_reducible exact Below.refl _ _) | (with_reducible exact Nat.le_refl _) | (with_reducible refine Below.bel ?_ ?_) | (with_reducible refine Below.alloc ?_ ?_ _) | (with_reducible refine Below.drew ?_) | (with_reducible refine Below.drawsN ?_ _) | (with_reducible refine Below.setCell ?_ ?_ _) | (with_reducible refine le_bel ?_) | (with_reducible refine le_alloc ?_) | (with_reducible refine le_setCell ?_) | (with_reducible refine le_drew ?_) | (with_reducible refine le_drawsN ?_) | (dsimp only; with_reducible refine le_bel ?_) | (dsimp only; with_reducible refine Nat.le_refl _) | (dsimp only; with_reducible refine le_bel_add ?_) | (with_reducible assumption) | omega | (dsimp only; omega)))) ?_)
            exact (ownF_insv (ownF_set (ownF_set (ownF_set HO.out (by omega) _) (by omega) _) (by omega) _)).imp fun b _ h => by omega
      · go_enter Tryz.func32, Tryz.ntmps32
        go_wp2
        go_loopw [29] (fun i wr => ∃ (k : Nat) (v : Value), i = .int .i64 (k : Int) ∧ k ≤ tl.length ∧ AppSt w wr 26 (w.heap.size + 4) (w.heap.size + 3) (w.heap.size + 2) w.heap.size tk ta v ((tl.take k).map (put x bf))
          (.cells #[.int .i64 0, .int .i64 0, .slice none 0 0] 26 (0, 0)) (.cells #[.int .i64 tk, .int .i64 ta, .slice ad tl.length cap] 26 (0, 0)) ∧ wr.heap[w.heap.size + 1]? = some (.cells #[.int .i64 bf.k, .int .i64 bf.a, .slice adb bf.l.length capb] 26 (0, 0))) (fun i _ => tl.length - (intOf i).toNat)
        case atStart =>
          have o0 := heap3_0 w (.cells #[.int .i64 tk, .int .i64 ta, .slice ad tl.length cap] 26) (.cells #[.int .i64 bf.k, .int .i64 bf.a, .slice adb bf.l.length capb] 26) (.cells #[.int .i64 0, .int .i64 0, .slice none 0 0] 26)
          have o1 := heap3_1 w (.cells #[.int .i64 tk, .int .i64 ta, .slice ad tl.length cap] 26) (.cells #[.int .i64 bf.k, .int .i64 bf.a, .slice adb bf.l.length capb] 26) (.cells #[.int .i64 0, .int .i64 0, .slice none 0 0] 26)
          have o2 := heap3_2 w (.cells #[.int .i64 tk, .int .i64 ta, .slice ad tl.length cap] 26) (.cells #[.int .i64 bf.k, .int .i64 bf.a, .slice adb bf.l.length capb] 26) (.cells #[.int .i64 0, .int .i64 0, .slice none 0 0] 26)
          have hal : ∀ (W : World) (o : Obj), Below W.heap.size W (W.alloc o) := fun W o => (Below.refl _ _).alloc (Nat.le_refl _) o
          have hsz3 : (((w.alloc (.cells #[.int .i64 tk, .int .i64 ta, .slice ad tl.length cap] 26)).alloc (.cells #[.int .i64 bf.k, .int .i64 bf.a, .slice adb bf.l.length capb] 26)).alloc (.cells #[.int .i64 0, .int .i64 0, .slice none 0 0] 26)).heap.size = w.heap.size + 3 := by simp
          have o3 := World.alloc_heap_new (((w.alloc (.cells #[.int .i64 tk, .int .i64 ta, .slice ad tl.length cap] 26)).alloc (.cells #[.int .i64 bf.k, .int .i64 bf.a, .slice adb bf.l.length capb] 26)).alloc (.cells #[.int .i64 0, .int .i64 0, .slice none 0 0] 26)) (.cells #[.int .i64 tk, .int .i64 ta, .slice none 0 0] 26)
          rw [hsz3] at o3
          exact ⟨0, .slice none 0 0, rfl, by omega, ⟨ownF_nil _ _ _, o3, obj_bel ⟨_, hal _ _⟩ o2, obj_bel ⟨_, hal _ _⟩ o0, by (repeat' (first | (with_reducible exact Below.refl _ _) | (with_reducible exact Nat.le_refl _) | (with_reducible refine Below.bel ?_ ?_) | (with_reducible refine Below.alloc ?_ ?_ _) | (with_reducible refine Below.drew ?_) | (with_reducible refine Below.drawsN ?_ _) | (with_reducible refine Below.setCell ?_ ?_ _) | (with_reducible refine le_bel ?_) | (with_reducible refine le_alloc ?_) | (with_reducible refine le_setCell ?_) | (with_reducible refine le_drew ?_) | (with_reducible refine le_drawsN ?_) | (dsimp only; with_reducible refine le_bel ?_) | (dsimp only; with_reducible refine Nat.le_refl _) | (dsimp only; with_reducible refine le_bel_add ?_) | (with_reducible assumption) | omega | (dsimp only; omega))), by simp⟩, obj_bel ⟨_, hal _ _⟩ o1⟩
        case round =>
          obtain ⟨k, v, rfl, hk, hst, hby0⟩ := hrel
          have HST := Lib.hid hst
          obtain ⟨hown, hbox, hres, hfb, hb, hsz⟩ := hst
          have hiW := below_move hlt (fun _ h => h) hb
          obtain ⟨b0, b1, b2⟩ := box3 hbox
          obtain ⟨fb0, fb1, fb2⟩ := box3 hfb
          obtain ⟨by0, by1, by2⟩ := box3 hby0
          obtain ⟨va, vc, rfl⟩ := ownF_val hown
          have htk : ((tl.take k).map (put x bf)).length = k := by rw [List.length_map, List.length_take]; omega
          rw [htk] at hown hbox b2
          rcases Nat.lt_or_ge k tl.length with hkl | hkl
          · obtain ⟨u, hu⟩ := some_at hkl
            obtain ⟨bb, off, hadd, hp, hcs⟩ := insF_at hiW (by omega)
            cases hadd
            obtain ⟨c0, c1, ad', cap', c2, hiu⟩ := cellF_open (hcs k u hu)
            have f0 : decide ((k : Int) < (tl.length : Int)) = true := decide_eq_true (by omega)
            have HCU := HC.out u (List.mem_of_getElem? hu) ad' cap'
            obtain ⟨fu, hfu⟩ : ∃ fu, (put x bf u) = fu := ⟨_, rfl⟩
            rw [hfu] at HCU
            have HTK := Lib.hid (show (tl.take (k + 1)).map (put x bf) = (tl.take k).map (put x bf) ++ [fu] by rw [List.take_add_one, hu, List.map_append, ← hfu]; rfl)
            have HCC := Lib.hid HCU
            have HI := Lib.hid hiu
            have HO := Lib.hid hown
            have HL := Lib.hid htk
            clear hcs hiW hiu hown htk hu HCU hfu hp
            have HBY0 := Lib.hid hby0
            have HB0 := Lib.hid hb
            go_wp2_with fail
            refine wp_region_plan 7 (.calm 0 (.calm 1 (.calm 2 (.calm 3 (.calm 4 (.fork 5 (.fork 6 .tail .none) .none)))))) (by kernel_rfl) (by kernel_rfl) ?_
            simp only [Plan.walk, operAt, List.getElem?_cons_succ, List.getElem?_cons_zero, Option.getD_some, List.drop_succ_cons, List.drop_zero]
            repeat (refine wpX_calm (fun K hK => ?_); go_simp; first | (refine hK _ _ ?_; clear hK K) | (apply Exists.intro; refine ⟨fun _ => ?_, hK _ _ ?_⟩; (fail); clear hK K))
            refine wpX_only (fun K hK => ?_)
            go_simp
            intro x0
            refine (HCC.out _ (HI.out.of (by (repeat' (first | (with_reducible exact Below.refl _ _) | (with_reducible exact Nat.le_refl _) | (with_reducible refine Below.bel ?_ ?_) | (with_reducible refine Below.alloc ?_ ?_ _) | (with_reducible refine Below.drew ?_) | (with_reducible refine Below.drawsN ?_ _) | (with_reducible refine Below.setCell ?_ ?_ _) | (with_reducible refine le_bel ?_) | (with_reducible refine le_alloc ?_) | (with_reducible refine le_setCell ?_) | (with_reducible refine le_drew ?_) | (with_reducible refine le_drawsN ?_) | (dsimp only; with_reducible refine le_bel ?_) | (dsimp only; with_reducible refine Nat.le_refl _) | (dsimp only; with_reducible refine le_bel_add ?_) | (with_reducible assumption) | omega | (dsimp only; omega))))) (HIB.out.of (HB0.out.trans (by (repeat' (first | (with_reducible exact Below.refl _ _) | (with_reducible exact Nat.le_refl _) | (with_reducible refine Below.bel ?_ ?_) | (with_reducible refine Below.alloc ?_ ?_ _) | (with_reducible refine Below.drew ?_) | (with_reducible refine Below.drawsN ?_ _) | (with_reducible refine Below.setCell ?_ ?_ _) | (with_reducible refine le_bel ?_) | (with_reducible refine le_alloc ?_) | (with_reducible refine le_setCell ?_) | (with_reducible refine le_drew ?_) | (with_reducible refine le_drawsN ?_) | (dsimp only; with_reducible refine le_bel ?_) | (dsimp only; with_reducible refine Nat.le_refl _) | (dsimp only; with_reducible refine le_bel_add ?_) | (with_reducible assumption) | omega | (dsimp only; omega))))))).mono ?_
            rintro _ _ ⟨_, rfl, y, rfl, ad5, cap5, rfl, hi5⟩
            refine ⟨_, rfl, y.below, hK _ _ ?_⟩
            clear hK K
            repeat (refine wpX_calm (fun K hK => ?_); go_simp; first | (refine hK _ _ ?_; clear hK K) | (apply Exists.intro; refine ⟨fun _ => ?_, hK _ _ ?_⟩; (fail); clear hK K))
            refine wpX_only (fun K hK => ?_)
            go_simp
            intro x2
            refine ⟨(Below.refl _ _).alloc (Nat.le_refl _) _, hK _ _ ?_⟩
            clear hK K
            repeat (refine wpX_calm (fun K hK => ?_); go_simp; first | (refine hK _ _ ?_; clear hK K) | (apply Exists.intro; refine ⟨fun _ => ?_, hK _ _ ?_⟩; (fail); clear hK K))
            refine wpX_tail ?_
            intro z
            have hzs : wr.heap.size ≤ x0.w.heap.size ∧ x0.w.heap.size ≤ y.w.heap.size ∧ y.w.heap.size ≤ x2.w.heap.size ∧ x2.w.heap.size + 1 ≤ z.w.heap.size := by
              have h1 := x0.size_le; have h2 := y.size_le; have h3 := x2.size_le; have h4 := z.size_le
              simp at h1 h4
              exact ⟨by omega, h2, h3, h4⟩
            have hsrc := Lib.hid (obj_bel z (World.alloc_heap_new x2.w (.cells #[.int .i64 fu.k, .int .i64 fu.a, .slice ad5 fu.l.length cap5] 26)))
            have hbz : Below wr.heap.size wr z.w := by (repeat' (first | (with_reducible exact Below.refl _ _) | (with_reducible exact Nat.le_refl _) | (with_reducible refine Below.bel ?_ ?_) | (with_reducible refine Below.alloc ?_ ?_ _) | (with_reducible refine Below.drew ?_) | (with_reducible refine Below.drawsN ?_ _) | (with_reducible refine Below.setCell ?_ ?_ _) | (with_reducible refine le_bel ?_) | (with_reducible refine le_alloc ?_) | (with_reducible refine le_setCell ?_) | (with_reducible refine le_drew ?_) | (with_reducible refine le_drawsN ?_) | (dsimp only; with_reducible refine le_bel ?_) | (dsimp only; with_reducible refine Nat.le_refl _) | (dsimp only; with_reducible refine le_bel_add ?_) | (with_reducible assumption) | omega | (dsimp only; omega)))
            have hby : Below y.w.heap.size y.w z.w := by (repeat' (first | (with_reducible exact Below.refl _ _) | (with_reducible exact Nat.le_refl _) | (with_reducible refine Below.bel ?_ ?_) | (with_reducible refine Below.alloc ?_ ?_ _) | (with_reducible refine Below.drew ?_) | (with_reducible refine Below.drawsN ?_ _) | (with_reducible refine Below.setCell ?_ ?_ _) | (with_reducible refine le_bel ?_) | (with_reducible refine le_alloc ?_) | (with_reducible refine le_setCell ?_) | (with_reducible refine le_drew ?_) | (with_reducible refine le_drawsN ?_) | (dsimp only; with_reducible refine le_bel ?_) | (dsimp only; with_reducible refine Nat.le_refl _) | (dsimp only; with_reducible refine le_bel_add ?_) | (with_reducible assumption) | omega | (dsimp only; omega)))
            have HOz := Lib.hid (show OwnF z.w (w.heap.size + 4) 26 (.slice va k vc) ((tl.take k).map (put x bf)) from ownF_bel HO.out ⟨_, hbz⟩)
            have HCz := Lib.hid (show InsF (fun b => (w.heap.size + 4) ≤ b ∧ (Value.slice va k vc).ownBlock ≠ some b) z.w ad5 fu.l from (hi5.of hby).imp fun b _ hb => ⟨by omega, ownF_avoid HO.out (by omega)⟩)
            have HBX := Lib.hid (obj_bel ⟨_, hbz⟩ hbox)
            have HFB := Lib.hid (obj_bel ⟨_, hbz⟩ hfb)
            have HBZ := Lib.hid hbz
            have HBYZ := Lib.hid (obj_bel ⟨_, hbz⟩ HBY0.out)
            have hln : ((tl.take k).map (put x bf)).length ≤ 100000000 := by rw [HL.out]; omega
            clear hi5
            go_wp2_with (at_builtin; refine wpList_appF rfl _ _ 24 26 rfl i0 Tryz.underlying24 hi0 hz0 hz1 hz2 z.w (w.heap.size + 4) _ ((tl.take k).map (put x bf)) fu ad5 cap5 x2.w.heap.size rfl HOz.out HCz.out rfl hsrc.out hln (by omega) ?_; intro g' c w1 hof hbw; have HBW := Lib.hid hbw; have HB1 := Lib.hid (obj_below hbw (by omega) HBX.out); obtain ⟨d0, d1, d2⟩ := box3 HB1.out; obtain ⟨_, _, f2⟩ := box3f HB1.out; have hbws := hbw.size; clear hbw; rw [HL.out] at hof ⊢)
            go_roundw
            case rel => exact ⟨k + 1, .slice (some ⟨g', 0, none⟩) (k + 1) c, by go_num, by omega, HST.out.next HBZ.out HBW.out (by rw [HTK.out]; exact hof) (by omega) (by omega) (by omega) (by omega) (by omega) (by omega), obj_ne _ (by omega) (obj_below HBW.out (by omega) HBYZ.out)⟩
            case measure => simp [intOf]; omega
          · have hke : k = tl.length := by omega
            subst hke
            have f0 : decide ((tl.length : Int) < (tl.length : Int)) = false := decide_eq_false (by omega)
            rw [List.take_length] at hown htk
            have HO := Lib.hid hown
            obtain ⟨r0, r1, r2⟩ := box3 hres
            obtain ⟨g0, g1, g2⟩ := box3f hres
            clear hiW hown
            go_wp2
            have hR := obj_set3 (.int .i64 tk) (.int .i64 ta) (.slice va tl.length vc) hres
            obtain ⟨q0, q1, q2⟩ := box3 hR
            refine bodyPost_ret (v := .agg #[.int .i64 tk, .int .i64 ta, .slice va tl.length vc]) (by simp [results, Tryz.results32, go_sem, q0, q1, q2]) rfl (RetF.mk va vc (by simp [F.k, F.a, F.l]) (by (repeat' (first | (with_reducible exact Below.refl _ _) | (with_reducible exact Nat.le_refl _) | (with_reducible refine Below.bel ?_ ?_) | (with_reducible refine Below.alloc ?_ ?_ _) | (with_reducible refine Below.drew ?_) | (with_reducible refine Below.drawsN ?_ _) | (with_reducible refine Below.setCell ?_ ?_ _) | (with_reducible refine le_bel ?_) | (with_reducible refine le_alloc ?_) | (with_reducible refine le_setCell ?_) | (with_reducible refine le_drew ?_) | (with_reducible refine le_drawsN ?_) | (dsimp only; with_reducible refine le_bel ?_) | (dsimp only; with_reducible refine Nat.le_refl _) | (dsimp only; with_reducible refine le_bel_add ?_) | (with_reducible assumption) | omega | (dsimp only; omega)))) ?_)
            exact (ownF_insv (ownF_set (ownF_set (ownF_set HO.out (by omega) _) (by omega) _) (by omega) _)).imp fun b _ h => by omega
end Go.Proofs.YtkbellmhanpocaaGreatDoor
