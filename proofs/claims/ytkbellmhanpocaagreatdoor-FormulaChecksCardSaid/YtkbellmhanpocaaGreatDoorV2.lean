/- Value. -/
import Derived.Test.YtkbellmhanpocaaGreatDoorS2
import Derived.Test.YtkbellmhanpocaaGreatDoorFm
import Derived.Test.YtkbellmhanpocaaGreatDoorV1
namespace Go.Proofs.YtkbellmhanpocaaGreatDoor
set_option linter.unusedVariables false
set_option linter.unusedSimpArgs false
open Go.RowKit F
attribute [local go_sem low] Bel.cell Bel.frozen alloc_cell alloc_frozen

/-- The values of variables that a list gives. -/
def envL (bl : List Bool) (a : Int) : Bool := bl.getD a.toNat false
def boolsV (bl : List Bool) : List Value := bl.map Value.bool
theorem egV : ∀ args w, (callFunc 42 args).run Tryz.prog w = .ok (.enter 42 args) w := fun args w => by kernel_rfl
set_option maxRecDepth 100000 in
theorem ofAt_values (bl : List Bool) (v : Value) (B : Nat) (w : World) (hs : ShowsV w v (boolsV bl)) (hb : w.heap[B]? = some (.cells #[v] 57 (0, 0))) :
    OfAt 42 #[.pointer (some ⟨B, 0, none⟩)] (envL bl) (fun a => 0 ≤ a ∧ a < bl.length) w := by
  intro W hW a ha
  have hbW := obj_below hW (Array.getElem?_eq_some_iff.1 hb).1 hb
  have r0 := box1 hbW
  obtain ⟨A, rfl⟩ := Int.eq_ofNat_of_zero_le ha.1
  have hA : A < bl.length := by omega
  obtain ⟨x, hx⟩ := some_at hA
  have hx2 : (boolsV bl)[A]? = some (.bool x) := by unfold boolsV; rw [List.getElem?_map, hx]; rfl
  have he : envL bl (A : Int) = x := by unfold envL; rw [Int.toNat_natCast, List.getD_eq_getElem?_getD, hx]; rfl
  rcases showsV_of hs hW with ⟨h0, _⟩ | ⟨b, off, cap, rfl, _, hc⟩
  · rw [h0] at hx2; cases hx2
  · have hcell := hc A _ hx2
    have hln : (boolsV bl).length = bl.length := by simp [boolsV]
    have hib : (0 ≤ (A : Int) ∧ (A : Int) < ((boolsV bl).length : Int)) := ⟨by omega, by omega⟩
    rw [he]
    clear hb hs hbW hx hx2 he hc
    show Calls _ _ #[.int .i64 (A : Int), .pointer (some ⟨B, 0, none⟩)] _ _
    go_enter Tryz.func42, Tryz.ntmps42
    go_wp2
    go_ret
    exact Ret.mk (by rfl) (by (repeat' (first | (with_reducible exact Below.refl _ _) | (with_reducible exact Nat.le_refl _) | (with_reducible refine Below.bel ?_ ?_) | (with_reducible refine Below.alloc ?_ ?_ _) | (with_reducible refine Below.drew ?_) | (with_reducible refine Below.drawsN ?_ _) | (with_reducible refine Below.setCell ?_ ?_ _) | (with_reducible refine le_bel ?_) | (with_reducible refine le_alloc ?_) | (with_reducible refine le_setCell ?_) | (with_reducible refine le_drew ?_) | (with_reducible refine le_drawsN ?_) | (dsimp only; with_reducible refine le_bel ?_) | (dsimp only; with_reducible refine Nat.le_refl _) | (dsimp only; with_reducible refine le_bel_add ?_) | (with_reducible assumption) | omega | (dsimp only; omega))))
mutual
theorem pre_okT : ∀ t : F, okT t → ∀ u ∈ pre t, okT u
  | nd k a l, h, u, hu => by
    rw [pre] at hu
    rcases List.mem_cons.1 hu with rfl | hu
    · exact h
    · exact preL_okT l h.2 u hu
theorem preL_okT : ∀ l : List F, okL l → ∀ u ∈ preL l, okT u
  | [], _, u, hu => by rw [preL] at hu; cases hu
  | t :: r, h, u, hu => by
    rw [preL] at hu
    rcases List.mem_append.1 hu with hu | hu
    · exact pre_okT t h.1 u hu
    · exact preL_okT r h.2 u hu
end
/-- All variables have values. -/
def enough (bl : List Bool) (t : F) : Prop := ∀ x ∈ supF [t], x < bl.length
def valueV (bl : List Bool) (t : F) : Value := .tuple #[.bool (val (envL bl) t), .int .i64 0]
theorem sorted_last {l : List Int} (h : l.Pairwise (· < ·)) {n : Nat} (hn : l.length = n + 1) {x : Int} (hx : l[n]? = some x) : ∀ y ∈ l, y ≤ x := fun y hy => by
  obtain ⟨i, hi, e⟩ := List.mem_iff_getElem.1 hy
  obtain ⟨hn', e'⟩ := List.getElem?_eq_some_iff.1 hx
  rcases Nat.lt_or_ge i n with hlt | hge
  · have := List.pairwise_iff_getElem.1 h i n hi hn' hlt
    omega
  · have : i = n := by omega
    subst this
    rw [← e, ← e']
    exact Int.le_refl _
set_option maxRecDepth 100000 in
set_option maxHeartbeats 6400000 in
theorem Value_ok (P : Nat → Prop) (t : F) (ad : Option Addr) (cap : Nat) (w : World) (bl : List Bool) (va : Option Addr) (vc : Nat) (hi : InsF P w ad t.l) (hok : okT t) (hn : nodes t ≤ 10000) (hl : levels t ≤ 100) (hs : ShowsV w (.slice va bl.length vc) (boolsV bl)) (hbl : bl.length ≤ 100000000) (he : enough bl t) :
    Calls Tryz.prog 23 #[.agg #[.int .i64 t.k, .int .i64 t.a, .slice ad t.l.length cap], .slice va bl.length vc] w (Ret (.tuple #[.bool (val (envL bl) t), .int .i64 0]) w) := by
  have hc0 : checkF t = 0 := checkF_ok.2 ⟨decide_eq_true (by omega), hok⟩
  have hlt : InsF (fun c => c < w.heap.size) w ad t.l := hi.imp fun b hb _ => hb
  have HI := Lib.hid hlt
  have HC := Lib.hid (fun w' (h : InsF (fun c => c < w.heap.size) w' ad t.l) => check_any (fun c => c < w.heap.size) t ad cap w' h (by omega))
  rw [hc0] at HC
  have hsp := supF_spec [t]
  have hvars : ∀ u ∈ pre t, u.k = 1 → 0 ≤ u.a ∧ u.a < bl.length := fun u hu hk => by
    refine ⟨?_, he u.a ((hsp.2 u.a).2 ⟨u, by rw [preL, preL, List.append_nil]; exact hu, hk, rfl⟩)⟩
    have hu2 := pre_okT t hok u hu
    rw [F_eta u] at hu2
    rcases single_cases hu2.1 with ⟨_, h1, _⟩ | ⟨e, _⟩ | ⟨e, _⟩ | ⟨e, _⟩
    · exact h1
    all_goals omega
  have HS := Lib.hid (fun (P' : Nat → Prop) ad' cap' w' (h : InsF P' w' ad' [t]) => support_one P' t ad' cap' w' h (by omega))
  have HVV := Lib.hid (fun (P' : Nat → Prop) w' g lb eg (h : InsF P' w' ad t.l) (ho : OfAt g lb (envL bl) (fun a => 0 ≤ a ∧ a < bl.length) w') => value_any g lb eg (envL bl) (fun a => 0 ≤ a ∧ a < bl.length) (nodes t) t (Nat.le_refl _) hok hvars (by omega) P' ad cap w' h ho)
  have hsl := supF_len [t]
  have hsl2 : (supF [t]).length ≤ 10000 := by rw [nodesL, nodesL] at hsl; omega
  obtain ⟨ls, hls⟩ : ∃ ls, supF [t] = ls := ⟨_, rfl⟩
  unfold enough at he
  rw [hls] at HS he hsl2
  obtain ⟨vv, hvv⟩ : ∃ vv, val (envL bl) t = vv := ⟨_, rfl⟩
  rw [hvv] at HVV ⊢
  have HSV := Lib.hid hs
  have HE := Lib.hid he
  clear hi hlt hc0 hok hsp hvars hsl hls hvv hs he
  go_enter Tryz.func23, Tryz.ntmps23
  go_wp2_with fail
  refine (HC.out _ (HI.out.of (by (repeat' (first | (with_reducible exact Below.refl _ _) | (with_reducible exact Nat.le_refl _) | (with_reducible refine Below.bel ?_ ?_) | (with_reducible refine Below.alloc ?_ ?_ _) | (with_reducible refine Below.drew ?_) | (with_reducible refine Below.drawsN ?_ _) | (with_reducible refine Below.setCell ?_ ?_ _) | (with_reducible refine le_bel ?_) | (with_reducible refine le_alloc ?_) | (with_reducible refine le_setCell ?_) | (with_reducible refine le_drew ?_) | (with_reducible refine le_drawsN ?_) | (dsimp only; with_reducible refine le_bel ?_) | (dsimp only; with_reducible refine Nat.le_refl _) | (dsimp only; with_reducible refine le_bel_add ?_) | (with_reducible assumption) | omega | (dsimp only; omega)))))).mono ?_
  rintro _ _ ⟨rfl, y1, rfl⟩
  have hs1 := y1.size_le
  simp at hs1
  have hO0 := obj_bel y1 (heap2_0 w (.cells #[.int .i64 t.k, .int .i64 t.a, .slice ad t.l.length cap] 26) (.cells #[.slice va bl.length vc] 57))
  have hO1 := obj_bel y1 (heap2_1 w (.cells #[.int .i64 t.k, .int .i64 t.a, .slice ad t.l.length cap] 26) (.cells #[.slice va bl.length vc] 57))
  obtain ⟨c0, c1, c2⟩ := box3 hO0
  dsimp only
  go_wp2_with fail
  refine (HS.out (fun _ => True) _ _ _ (insF_one (E := 26) (ad := ad) (cap := cap) (World.alloc_heap_new _ _) trivial ((HI.out.of (by (repeat' (first | (with_reducible exact Below.refl _ _) | (with_reducible exact Nat.le_refl _) | (with_reducible refine Below.bel ?_ ?_) | (with_reducible refine Below.alloc ?_ ?_ _) | (with_reducible refine Below.drew ?_) | (with_reducible refine Below.drawsN ?_ _) | (with_reducible refine Below.setCell ?_ ?_ _) | (with_reducible refine le_bel ?_) | (with_reducible refine le_alloc ?_) | (with_reducible refine le_setCell ?_) | (with_reducible refine le_drew ?_) | (with_reducible refine le_drawsN ?_) | (dsimp only; with_reducible refine le_bel ?_) | (dsimp only; with_reducible refine Nat.le_refl _) | (dsimp only; with_reducible refine le_bel_add ?_) | (with_reducible assumption) | omega | (dsimp only; omega))))).imp fun _ _ _ => trivial))).mono ?_
  rintro _ _ ⟨v2, rfl, y2, rfl, hown⟩
  have hs2 := y2.size_le
  simp at hs2
  have hO2 := obj_bel ⟨y2.w, (by (repeat' (first | (with_reducible exact Below.refl _ _) | (with_reducible exact Nat.le_refl _) | (with_reducible refine Below.bel ?_ ?_) | (with_reducible refine Below.alloc ?_ ?_ _) | (with_reducible refine Below.drew ?_) | (with_reducible refine Below.drawsN ?_ _) | (with_reducible refine Below.setCell ?_ ?_ _) | (with_reducible refine le_bel ?_) | (with_reducible refine le_alloc ?_) | (with_reducible refine le_setCell ?_) | (with_reducible refine le_drew ?_) | (with_reducible refine le_drawsN ?_) | (dsimp only; with_reducible refine le_bel ?_) | (dsimp only; with_reducible refine Nat.le_refl _) | (dsimp only; with_reducible refine le_bel_add ?_) | (with_reducible assumption) | omega | (dsimp only; omega))) : Below y1.w.heap.size y1.w y2.w)⟩ hO0
  have hO3 := obj_bel ⟨y2.w, (by (repeat' (first | (with_reducible exact Below.refl _ _) | (with_reducible exact Nat.le_refl _) | (with_reducible refine Below.bel ?_ ?_) | (with_reducible refine Below.alloc ?_ ?_ _) | (with_reducible refine Below.drew ?_) | (with_reducible refine Below.drawsN ?_ _) | (with_reducible refine Below.setCell ?_ ?_ _) | (with_reducible refine le_bel ?_) | (with_reducible refine le_alloc ?_) | (with_reducible refine le_setCell ?_) | (with_reducible refine le_drew ?_) | (with_reducible refine le_drawsN ?_) | (dsimp only; with_reducible refine le_bel ?_) | (dsimp only; with_reducible refine Nat.le_refl _) | (dsimp only; with_reducible refine le_bel_add ?_) | (with_reducible assumption) | omega | (dsimp only; omega))) : Below y1.w.heap.size y1.w y2.w)⟩ hO1
  obtain ⟨d0, d1, d2⟩ := box3 hO2
  have e0 := box1 hO3
  have HO1 := Lib.hid (show y2.w.heap[w.heap.size + 1]? = some (.cells #[.slice va bl.length vc] 57 (0, 0)) from hO3)
  have hil : (intsV ls).length = ls.length := by simp [intsV]
  have HBY := Lib.hid (show Below w.heap.size w y2.w by (repeat' (first | (with_reducible exact Below.refl _ _) | (with_reducible exact Nat.le_refl _) | (with_reducible refine Below.bel ?_ ?_) | (with_reducible refine Below.alloc ?_ ?_ _) | (with_reducible refine Below.drew ?_) | (with_reducible refine Below.drawsN ?_ _) | (with_reducible refine Below.setCell ?_ ?_ _) | (with_reducible refine le_bel ?_) | (with_reducible refine le_alloc ?_) | (with_reducible refine le_setCell ?_) | (with_reducible refine le_drew ?_) | (with_reducible refine le_drawsN ?_) | (dsimp only; with_reducible refine le_bel ?_) | (dsimp only; with_reducible refine Nat.le_refl _) | (dsimp only; with_reducible refine le_bel_add ?_) | (with_reducible assumption) | omega | (dsimp only; omega))))
  dsimp only
  rcases Nat.eq_zero_or_pos ls.length with h0 | h0
  · have hv2 : ∃ p c, v2 = .slice p 0 c := by
      have h0' : (intsV ls).length = 0 := by rw [hil]; exact h0
      rcases hown.2 with ⟨rfl, _⟩ | ⟨g, cp, cur, hv, _⟩
      · exact ⟨_, _, rfl⟩
      · rw [h0'] at hv; exact ⟨_, _, hv⟩
    obtain ⟨p, c, rfl⟩ := hv2
    clear hown
    go_wp2_with fail
    refine wp_region_bel (by kernel_rfl) (by kernel_rfl) ?_
    repeat (go_big_quiet_step (fail))
    refine wpQuiet_nil ?_
    rintro _ ⟨z, rfl⟩
    have hsz := z.size_le
    have hO4 := obj_bel z hO2
    have e1 := box1 (obj_bel z HO1.out)
    obtain ⟨k0, k1, k2⟩ := box3 hO4
    have HBZ := Lib.hid (show Below w.heap.size w z.w by (repeat' (first | (with_reducible exact Below.refl _ _) | (with_reducible exact Nat.le_refl _) | (with_reducible refine Below.bel ?_ ?_) | (with_reducible refine Below.alloc ?_ ?_ _) | (with_reducible refine Below.drew ?_) | (with_reducible refine Below.drawsN ?_ _) | (with_reducible refine Below.setCell ?_ ?_ _) | (with_reducible refine le_bel ?_) | (with_reducible refine le_alloc ?_) | (with_reducible refine le_setCell ?_) | (with_reducible refine le_drew ?_) | (with_reducible refine le_drawsN ?_) | (dsimp only; with_reducible refine le_bel ?_) | (dsimp only; with_reducible refine Nat.le_refl _) | (dsimp only; with_reducible refine le_bel_add ?_) | (with_reducible assumption) | omega | (dsimp only; omega))))
    have HOZ := Lib.hid (obj_bel z HO1.out)
    go_wp2_with fail
    refine (HVV.out _ _ _ _ egV (HI.out.of HBZ.out) (ofAt_values bl _ (w.heap.size + 1) _ (showsV_of HSV.out HBZ.out) HOZ.out)).mono ?_
    rintro _ _ ⟨rfl, y3, rfl⟩
    dsimp only
    go_wp2
    refine bodyPost_ret (v := .tuple #[.bool vv, .int .i64 0]) (by simp [results, Tryz.results23, go_sem]) rfl (Ret.mk (by rfl) (by (repeat' (first | (with_reducible exact Below.refl _ _) | (with_reducible exact Nat.le_refl _) | (with_reducible refine Below.bel ?_ ?_) | (with_reducible refine Below.alloc ?_ ?_ _) | (with_reducible refine Below.drew ?_) | (with_reducible refine Below.drawsN ?_ _) | (with_reducible refine Below.setCell ?_ ?_ _) | (with_reducible refine le_bel ?_) | (with_reducible refine le_alloc ?_) | (with_reducible refine le_setCell ?_) | (with_reducible refine le_drew ?_) | (with_reducible refine le_drawsN ?_) | (dsimp only; with_reducible refine le_bel ?_) | (dsimp only; with_reducible refine Nat.le_refl _) | (dsimp only; with_reducible refine le_bel_add ?_) | (with_reducible assumption) | omega | (dsimp only; omega)))))
  · obtain ⟨g, cp, hv, hg, hgl, hcp, hcells⟩ := ownV_cells hown (by omega)
    rw [hil] at hv
    subst hv
    obtain ⟨n, hn1⟩ : ∃ n, ls.length = n + 1 := ⟨ls.length - 1, by omega⟩
    rw [hn1]
    obtain ⟨x, hx⟩ := some_at (show n < ls.length by omega)
    obtain ⟨hcx, _⟩ := hcells n (.int .i64 x) (by unfold intsV; rw [List.getElem?_map, hx]; rfl)
    have hlt2 := HE.out x (List.mem_of_getElem? hx)
    have f1 : decide ((bl.length : Int) ≤ x) = false := decide_eq_false (by omega)
    clear hown hcells hx
    go_wp2_with fail
    refine wp_region_bel (by kernel_rfl) (by kernel_rfl) ?_
    repeat (go_big_quiet_step (fail))
    refine wpQuiet_nil ?_
    rintro _ ⟨z, rfl⟩
    have hsz := z.size_le
    have hO4 := obj_bel z hO2
    have e1 := box1 (obj_bel z HO1.out)
    obtain ⟨k0, k1, k2⟩ := box3 hO4
    have HBZ := Lib.hid (show Below w.heap.size w z.w by (repeat' (first | (with_reducible exact Below.refl _ _) | (with_reducible exact Nat.le_refl _) | (with_reducible refine Below.bel ?_ ?_) | (with_reducible refine Below.alloc ?_ ?_ _) | (with_reducible refine Below.drew ?_) | (with_reducible refine Below.drawsN ?_ _) | (with_reducible refine Below.setCell ?_ ?_ _) | (with_reducible refine le_bel ?_) | (with_reducible refine le_alloc ?_) | (with_reducible refine le_setCell ?_) | (with_reducible refine le_drew ?_) | (with_reducible refine le_drawsN ?_) | (dsimp only; with_reducible refine le_bel ?_) | (dsimp only; with_reducible refine Nat.le_refl _) | (dsimp only; with_reducible refine le_bel_add ?_) | (with_reducible assumption) | omega | (dsimp only; omega))))
    have HOZ := Lib.hid (obj_bel z HO1.out)
    go_wp2_with fail
    refine (HVV.out _ _ _ _ egV (HI.out.of HBZ.out) (ofAt_values bl _ (w.heap.size + 1) _ (showsV_of HSV.out HBZ.out) HOZ.out)).mono ?_
    rintro _ _ ⟨rfl, y3, rfl⟩
    dsimp only
    go_wp2
    refine bodyPost_ret (v := .tuple #[.bool vv, .int .i64 0]) (by simp [results, Tryz.results23, go_sem]) rfl (Ret.mk (by rfl) (by (repeat' (first | (with_reducible exact Below.refl _ _) | (with_reducible exact Nat.le_refl _) | (with_reducible refine Below.bel ?_ ?_) | (with_reducible refine Below.alloc ?_ ?_ _) | (with_reducible refine Below.drew ?_) | (with_reducible refine Below.drawsN ?_ _) | (with_reducible refine Below.setCell ?_ ?_ _) | (with_reducible refine le_bel ?_) | (with_reducible refine le_alloc ?_) | (with_reducible refine le_setCell ?_) | (with_reducible refine le_drew ?_) | (with_reducible refine le_drawsN ?_) | (dsimp only; with_reducible refine le_bel ?_) | (dsimp only; with_reducible refine Nat.le_refl _) | (dsimp only; with_reducible refine le_bel_add ?_) | (with_reducible assumption) | omega | (dsimp only; omega)))))
set_option maxRecDepth 100000 in
set_option maxHeartbeats 6400000 in
theorem Value_size (P : Nat → Prop) (t : F) (ad : Option Addr) (cap : Nat) (w : World) (bl : List Bool) (va : Option Addr) (vc : Nat) (hi : InsF P w ad t.l) (hok : okT t) (hn : nodes t ≤ 10000) (hl : levels t ≤ 100) (hbl : bl.length ≤ 100000000) (he : ¬ enough bl t) :
    Calls Tryz.prog 23 #[.agg #[.int .i64 t.k, .int .i64 t.a, .slice ad t.l.length cap], .slice va bl.length vc] w (Ret (.tuple #[.bool false, .int .i64 5]) w) := by
  have hc0 : checkF t = 0 := checkF_ok.2 ⟨decide_eq_true (by omega), hok⟩
  have hlt : InsF (fun c => c < w.heap.size) w ad t.l := hi.imp fun b hb _ => hb
  have HI := Lib.hid hlt
  have HC := Lib.hid (fun w' (h : InsF (fun c => c < w.heap.size) w' ad t.l) => check_any (fun c => c < w.heap.size) t ad cap w' h (by omega))
  rw [hc0] at HC
  have hsp := (supF_spec [t]).1
  have HS := Lib.hid (fun (P' : Nat → Prop) ad' cap' w' (h : InsF P' w' ad' [t]) => support_one P' t ad' cap' w' h (by omega))
  have hsl := supF_len [t]
  have hsl2 : (supF [t]).length ≤ 10000 := by rw [nodesL, nodesL] at hsl; omega
  obtain ⟨ls, hls⟩ : ∃ ls, supF [t] = ls := ⟨_, rfl⟩
  unfold enough at he
  rw [hls] at HS he hsl2 hsp
  have h0 : 0 < ls.length := Nat.pos_of_ne_zero fun h0 => he fun x hx => by rw [List.length_eq_zero_iff.1 h0] at hx; cases hx
  obtain ⟨n, hn1⟩ : ∃ n, ls.length = n + 1 := ⟨ls.length - 1, by omega⟩
  obtain ⟨x, hx⟩ := some_at (show n < ls.length by omega)
  have hge : (bl.length : Int) ≤ x := by
    by_cases h : x < bl.length
    · exact absurd (fun y hy => Int.lt_of_le_of_lt (sorted_last hsp hn1 hx y hy) h) he
    · omega
  have f1 : decide ((bl.length : Int) ≤ x) = true := decide_eq_true hge
  have HX := Lib.hid hx
  clear hi hlt hc0 hok hsp hsl hls he hge hx
  go_enter Tryz.func23, Tryz.ntmps23
  go_wp2_with fail
  refine (HC.out _ (HI.out.of (by (repeat' (first | (with_reducible exact Below.refl _ _) | (with_reducible exact Nat.le_refl _) | (with_reducible refine Below.bel ?_ ?_) | (with_reducible refine Below.alloc ?_ ?_ _) | (with_reducible refine Below.drew ?_) | (with_reducible refine Below.drawsN ?_ _) | (with_reducible refine Below.setCell ?_ ?_ _) | (with_reducible refine le_bel ?_) | (with_reducible refine le_alloc ?_) | (with_reducible refine le_setCell ?_) | (with_reducible refine le_drew ?_) | (with_reducible refine le_drawsN ?_) | (dsimp only; with_reducible refine le_bel ?_) | (dsimp only; with_reducible refine Nat.le_refl _) | (dsimp only; with_reducible refine le_bel_add ?_) | (with_reducible assumption) | omega | (dsimp only; omega)))))).mono ?_
  rintro _ _ ⟨rfl, y1, rfl⟩
  have hs1 := y1.size_le
  simp at hs1
  have hO0 := obj_bel y1 (heap2_0 w (.cells #[.int .i64 t.k, .int .i64 t.a, .slice ad t.l.length cap] 26) (.cells #[.slice va bl.length vc] 57))
  have hO1 := obj_bel y1 (heap2_1 w (.cells #[.int .i64 t.k, .int .i64 t.a, .slice ad t.l.length cap] 26) (.cells #[.slice va bl.length vc] 57))
  obtain ⟨c0, c1, c2⟩ := box3 hO0
  dsimp only
  go_wp2_with fail
  refine (HS.out (fun _ => True) _ _ _ (insF_one (E := 26) (ad := ad) (cap := cap) (World.alloc_heap_new _ _) trivial ((HI.out.of (by (repeat' (first | (with_reducible exact Below.refl _ _) | (with_reducible exact Nat.le_refl _) | (with_reducible refine Below.bel ?_ ?_) | (with_reducible refine Below.alloc ?_ ?_ _) | (with_reducible refine Below.drew ?_) | (with_reducible refine Below.drawsN ?_ _) | (with_reducible refine Below.setCell ?_ ?_ _) | (with_reducible refine le_bel ?_) | (with_reducible refine le_alloc ?_) | (with_reducible refine le_setCell ?_) | (with_reducible refine le_drew ?_) | (with_reducible refine le_drawsN ?_) | (dsimp only; with_reducible refine le_bel ?_) | (dsimp only; with_reducible refine Nat.le_refl _) | (dsimp only; with_reducible refine le_bel_add ?_) | (with_reducible assumption) | omega | (dsimp only; omega))))).imp fun _ _ _ => trivial))).mono ?_
  rintro _ _ ⟨v2, rfl, y2, rfl, hown⟩
  have hs2 := y2.size_le
  simp at hs2
  have hO3 := obj_bel ⟨y2.w, (by (repeat' (first | (with_reducible exact Below.refl _ _) | (with_reducible exact Nat.le_refl _) | (with_reducible refine Below.bel ?_ ?_) | (with_reducible refine Below.alloc ?_ ?_ _) | (with_reducible refine Below.drew ?_) | (with_reducible refine Below.drawsN ?_ _) | (with_reducible refine Below.setCell ?_ ?_ _) | (with_reducible refine le_bel ?_) | (with_reducible refine le_alloc ?_) | (with_reducible refine le_setCell ?_) | (with_reducible refine le_drew ?_) | (with_reducible refine le_drawsN ?_) | (dsimp only; with_reducible refine le_bel ?_) | (dsimp only; with_reducible refine Nat.le_refl _) | (dsimp only; with_reducible refine le_bel_add ?_) | (with_reducible assumption) | omega | (dsimp only; omega))) : Below y1.w.heap.size y1.w y2.w)⟩ hO1
  have e0 := box1 hO3
  have hil : (intsV ls).length = ls.length := by simp [intsV]
  dsimp only
  obtain ⟨g, cp, hv, hg, hgl, hcp, hcells⟩ := ownV_cells hown (by omega)
  rw [hil, hn1] at hv
  subst hv
  obtain ⟨hcx, _⟩ := hcells n (.int .i64 x) (by unfold intsV; rw [List.getElem?_map, HX.out]; rfl)
  clear hown hcells
  go_wp2_with fail
  refine wp_region_bel (by kernel_rfl) (by kernel_rfl) ?_
  repeat (go_big_quiet_step (fail))
  refine wpQuiet_nil ?_
  rintro _ ⟨z, rfl⟩
  go_wp2
  refine bodyPost_ret (v := .tuple #[.bool false, .int .i64 5]) (by simp [results, Tryz.results23, go_sem]) rfl (Ret.mk (by rfl) (by (repeat' (first | (with_reducible exact Below.refl _ _) | (with_reducible exact Nat.le_refl _) | (with_reducible refine Below.bel ?_ ?_) | (with_reducible refine Below.alloc ?_ ?_ _) | (with_reducible refine Below.drew ?_) | (with_reducible refine Below.drawsN ?_ _) | (with_reducible refine Below.setCell ?_ ?_ _) | (with_reducible refine le_bel ?_) | (with_reducible refine le_alloc ?_) | (with_reducible refine le_setCell ?_) | (with_reducible refine le_drew ?_) | (with_reducible refine le_drawsN ?_) | (dsimp only; with_reducible refine le_bel ?_) | (dsimp only; with_reducible refine Nat.le_refl _) | (dsimp only; with_reducible refine le_bel_add ?_) | (with_reducible assumption) | omega | (dsimp only; omega)))))
end Go.Proofs.YtkbellmhanpocaaGreatDoor
