/- Equivalent. -/
import Derived.Test.YtkbellmhanpocaaGreatDoorS3
import Derived.Test.YtkbellmhanpocaaGreatDoorV1
import Derived.Test.YtkbellmhanpocaaGreatDoorV2
import Derived.Test.YtkbellmhanpocaaGreatDoorFq
import Derived.Test.YtkbellmhanpocaaGreatDoorQ4
namespace Go.Proofs.YtkbellmhanpocaaGreatDoor
set_option linter.unusedVariables false
set_option linter.unusedSimpArgs false
open Go.RowKit F
attribute [local go_sem low] Bel.cell Bel.frozen alloc_cell alloc_frozen

theorem egE : ∀ args w, (callFunc 37 args).run Tryz.prog w = .ok (.enter 37 args) w := fun args w => by kernel_rfl
theorem wf_i64 {a : Int} (h : -9223372036854775808 ≤ a ∧ a < 9223372036854775808) : (Lit.int .i64 a).wf = true := by
  simp [Lit.wf, IntKind.min, IntKind.max, IntKind.bits, IntKind.signed]
  omega
theorem i64_and_nat (a b : Nat) (ha : a < 9223372036854775808) (hb : b < 9223372036854775808) : bits .and .i64 (a : Int) (b : Int) = ((a &&& b : Nat) : Int) := by
  have hx : a &&& b < 2 ^ 63 := Nat.and_lt_two_pow _ (by omega)
  show IntKind.i64.wrap ((BitVec.ofInt 64 (a : Int) &&& BitVec.ofInt 64 (b : Int)).toNat : Int) = _
  rw [BitVec.toNat_and, ofInt_u64 a (by omega), ofInt_u64 b (by omega)]
  generalize a &&& b = z at *
  simp [IntKind.wrap, IntKind.bits, IntKind.signed]
  omega
theorem testBit_and1i (x n : Nat) (h : x < 9223372036854775808) : (bits .and .i64 ((x : Int) / 2 ^ n) 1 == 1) = x.testBit n := by
  have e : (x : Int) / 2 ^ n = ((x / 2 ^ n : Nat) : Int) := by simp
  have := i64_and_nat (x / 2 ^ n) 1 (Nat.lt_of_le_of_lt (Nat.div_le_self _ _) h) (by omega)
  rw [e, show (1 : Int) = ((1 : Nat) : Int) from rfl, this, Nat.testBit_eq_decide_div_mod_eq, Nat.and_one_is_mod, Bool.eq_iff_iff]
  simp only [beq_iff_eq, decide_eq_true_iff]
  omega
theorem occ_range {t : F} (ht : okT t) {x : Int} (hx : occ x t = true) : 0 ≤ x ∧ x < 4096 := by
  obtain ⟨v, hv, hk, rfl⟩ := (occ_iff x t ht).1 hx
  have h2 := pre_okT t ht v hv
  rw [F_eta v] at h2
  rcases single_cases h2.1 with ⟨_, h3, h4, _⟩ | ⟨e, _⟩ | ⟨e, _⟩ | ⟨e, _⟩
  · exact ⟨h3, h4⟩
  all_goals omega
theorem cntL_lt {ls : List Int} {a : Int} (ha : a ∈ ls) : cntL ls a < ls.length := by
  unfold cntL
  have h1 := List.length_filter_le (fun y => decide (y < a)) ls
  rcases Nat.lt_or_ge (ls.filter fun y => decide (y < a)).length ls.length with h | h
  · exact h
  · have h2 := List.length_filter_eq_length_iff.1 (Nat.le_antisymm h1 h) a ha
    simp at h2
theorem cntL_idx {ls : List Int} (hs : ls.Pairwise (· < ·)) {k : Nat} {a : Int} (h : ls[k]? = some a) : cntL ls a = k := by
  have h1 := cntL_at hs (List.mem_of_getElem? h)
  obtain ⟨l1, e1⟩ := List.getElem?_eq_some_iff.1 h1
  obtain ⟨l2, e2⟩ := List.getElem?_eq_some_iff.1 h
  rcases Nat.lt_trichotomy (cntL ls a) k with hl | hl | hl
  · have := List.pairwise_iff_getElem.1 hs _ _ l1 l2 hl
    omega
  · exact hl
  · have := List.pairwise_iff_getElem.1 hs _ _ l2 l1 hl
    omega
set_option maxRecDepth 100000 in
theorem ofAt_rows (ls : List Int) (row : Nat) (hrow : row < 9223372036854775808) (f : Int → Int) (hf : ∀ a ∈ ls, f a = (cntL ls a : Nat)) (hls : ∀ a ∈ ls, -9223372036854775808 ≤ a ∧ a < 9223372036854775808) (hlen : ls.length ≤ 60) (BR BM MB n : Nat) (w : World) (hm : IntM Tryz.prog 3 3 w MB n f)
    (hr : w.heap[BR]? = some (.cells #[.int .i64 (row : Int)] 3 (0, 0))) (hb : w.heap[BM]? = some (.cells #[.map (some MB)] 69 (0, 0))) :
    OfAt 37 #[.pointer (some ⟨BR, 0, none⟩), .pointer (some ⟨BM, 0, none⟩)] (rowE ls row) (fun a => a ∈ ls) w := by
  intro W hW a ha
  have r0 := box1 (obj_below hW (Array.getElem?_eq_some_iff.1 hr).1 hr)
  have r1 := box1 (obj_below hW (Array.getElem?_eq_some_iff.1 hb).1 hb)
  have hmW := hm.heap (w' := W) (fun o ho => obj_below hW (Array.getElem?_eq_some_iff.1 ho).1 ho)
  have hrun := intM_run Tryz.underlying3 Tryz.underlying69 Tryz.underlying3 (by rfl) hmW a (wf_i64 (hls a ha))
  rw [hf a ha] at hrun
  have hcx := cntL_lt ha
  have hrv : rowE ls row a = row.testBit (cntL ls a) := rfl
  rw [hrv]
  obtain ⟨c, hc⟩ : ∃ c, cntL ls a = c := ⟨_, rfl⟩
  have hcl : c < ls.length := by rw [← hc]; exact hcx
  rw [hc] at hrun ⊢
  clear hr hb hm hmW hf hrv hc hcx
  show Calls _ _ #[.int .i64 a, .pointer (some ⟨BR, 0, none⟩), .pointer (some ⟨BM, 0, none⟩)] _ _
  go_enter Tryz.func37, Tryz.ntmps37
  go_wp2
  go_ret
  exact Ret.mk (by (rw [testBit_and1i row c hrow]; rfl)) (by (repeat' (first | (with_reducible exact Below.refl _ _) | (with_reducible exact Nat.le_refl _) | (with_reducible refine Below.bel ?_ ?_) | (with_reducible refine Below.alloc ?_ ?_ _) | (with_reducible refine Below.drew ?_) | (with_reducible refine Below.drawsN ?_ _) | (with_reducible refine Below.setCell ?_ ?_ _) | (with_reducible refine le_bel ?_) | (with_reducible refine le_alloc ?_) | (with_reducible refine le_setCell ?_) | (with_reducible refine le_drew ?_) | (with_reducible refine le_drawsN ?_) | (dsimp only; with_reducible refine le_bel ?_) | (dsimp only; with_reducible refine Nat.le_refl _) | (dsimp only; with_reducible refine le_bel_add ?_) | (with_reducible assumption) | omega | (dsimp only; omega))))
set_option maxRecDepth 100000 in
set_option maxHeartbeats 12800000 in
theorem Equivalent_ok (P P' : Nat → Prop) (t u : F) (ad ad' : Option Addr) (cap cap' : Nat) (b : Bool) (hbe : b = true ↔ eqv t u) (w : World) (hi : InsF P w ad t.l) (hi' : InsF P' w ad' u.l) (hok : okT t) (hok' : okT u) (hn : nodes t ≤ 10000) (hl : levels t ≤ 100) (hn' : nodes u ≤ 10000) (hl' : levels u ≤ 100) (hlen : (supF [t, u]).length ≤ 12) :
    Calls Tryz.prog 17 #[.agg #[.int .i64 t.k, .int .i64 t.a, .slice ad t.l.length cap], .agg #[.int .i64 u.k, .int .i64 u.a, .slice ad' u.l.length cap']] w (Ret (.tuple #[.bool b, .int .i64 0]) w) := by
  have hc0 : checkF t = 0 := checkF_ok.2 ⟨decide_eq_true (by omega), hok⟩
  have hc1 : checkF u = 0 := checkF_ok.2 ⟨decide_eq_true (by omega), hok'⟩
  have hlt : InsF (fun c => c < w.heap.size) w ad t.l := hi.imp fun b hb _ => hb
  have hlt' : InsF (fun c => c < w.heap.size) w ad' u.l := hi'.imp fun b hb _ => hb
  have HI := Lib.hid hlt
  have HI' := Lib.hid hlt'
  have HC := Lib.hid (fun P' ad' cap' w' (h : InsF P' w' ad' [t, u]) => checks_any [t, u] P' ad' cap' w' h (by rw [nodesL, nodesL, nodesL]; omega))
  have hch : chkL [t, u] = 0 := by rw [chkL, chkL, chkL, hc0, hc1]; rfl
  rw [hch] at HC
  have HS := Lib.hid (fun P' ad' cap' w' (h : InsF P' w' ad' [t, u]) => support_two P' t u ad' cap' w' h (by omega) (by omega))
  have hrows := eqv_rows hok hok'
  have hsup := supF_two hok hok'
  have hsp := supF_spec [t, u]
  have hvt : ∀ v ∈ pre t, v.k = 1 → v.a ∈ supF [t, u] := fun v hv hk => (hsp.2 _).2 ⟨v, by rw [preL]; exact List.mem_append_left _ hv, hk, rfl⟩
  have hvu : ∀ v ∈ pre u, v.k = 1 → v.a ∈ supF [t, u] := fun v hv hk => (hsp.2 _).2 ⟨v, by rw [preL, preL]; exact List.mem_append_right _ (List.mem_append_left _ hv), hk, rfl⟩
  have hrange : ∀ a ∈ supF [t, u], 0 ≤ a ∧ a < 4096 := fun a ha => by
    rcases (hsup a).1 ha with h | h
    · exact occ_range hok h
    · exact occ_range hok' h
  obtain ⟨ls, hls⟩ : ∃ ls, supF [t, u] = ls := ⟨_, rfl⟩
  rw [hls] at HS hrows hsp hvt hvu hrange hlen
  have HV := Lib.hid (fun (P' : Nat → Prop) w' g lb eg row (h : InsF P' w' ad t.l) (ho : OfAt g lb (rowE ls row) (fun a => a ∈ ls) w') => value_any g lb eg (rowE ls row) (fun a => a ∈ ls) (nodes t) t (Nat.le_refl _) hok hvt (by omega) P' ad cap w' h ho)
  have HV' := Lib.hid (fun (P' : Nat → Prop) w' g lb eg row (h : InsF P' w' ad' u.l) (ho : OfAt g lb (rowE ls row) (fun a => a ∈ ls) w') => value_any g lb eg (rowE ls row) (fun a => a ∈ ls) (nodes u) u (Nat.le_refl _) hok' hvu (by omega) P' ad' cap' w' h ho)
  have HR := Lib.hid (hbe.trans hrows.symm)
  have HSO := Lib.hid hsp.1
  have HRG := Lib.hid hrange
  have f0 : decide ((12 : Int) < (ls.length : Int)) = false := decide_eq_false (by omega)
  obtain ⟨n2, hn2⟩ : ∃ n2, 2 ^ ls.length = n2 := ⟨_, rfl⟩
  have hn2l : n2 ≤ 4096 := by rw [← hn2]; exact (Nat.pow_le_pow_right (by decide) hlen : 2 ^ ls.length ≤ 2 ^ 12)
  have hsh : wrap64 ((2 : Int) ^ ls.length) = (n2 : Int) := by
    rw [show (2 : Int) ^ ls.length = ((2 ^ ls.length : Nat) : Int) by simp, hn2]
    unfold wrap64
    omega
  rw [hn2] at HR
  clear hi hi' hlt hlt' hc0 hc1 hok hok' hch hrows hsup hsp hvt hvu hrange hls hn hl hn' hl' hbe
  go_enter Tryz.func17, Tryz.ntmps17
  go_wp2_with fail
  have hrow := World.alloc_heap_new ((w.alloc (.cells #[.int .i64 t.k, .int .i64 t.a, .slice ad t.l.length cap] 26)).alloc (.cells #[.int .i64 u.k, .int .i64 u.a, .slice ad' u.l.length cap'] 26)) (.cells #[.int .i64 t.k, .int .i64 t.a, .slice ad t.l.length cap, .int .i64 u.k, .int .i64 u.a, .slice ad' u.l.length cap'] 26)
  rw [show ((w.alloc (.cells #[.int .i64 t.k, .int .i64 t.a, .slice ad t.l.length cap] 26)).alloc (.cells #[.int .i64 u.k, .int .i64 u.a, .slice ad' u.l.length cap'] 26)).heap.size = w.heap.size + 1 + 1 by simp] at hrow
  refine (HC.out (fun c => True) _ _ _ (insF_two (E := 26) (ad := ad) (cap := cap) (ad' := ad') (cap' := cap') hrow trivial ((HI.out.of (by (repeat' (first | (with_reducible exact Below.refl _ _) | (with_reducible exact Nat.le_refl _) | (with_reducible refine Below.bel ?_ ?_) | (with_reducible refine Below.alloc ?_ ?_ _) | (with_reducible refine Below.drew ?_) | (with_reducible refine Below.drawsN ?_ _) | (with_reducible refine Below.setCell ?_ ?_ _) | (with_reducible refine le_bel ?_) | (with_reducible refine le_alloc ?_) | (with_reducible refine le_setCell ?_) | (with_reducible refine le_drew ?_) | (with_reducible refine le_drawsN ?_) | (dsimp only; with_reducible refine le_bel ?_) | (dsimp only; with_reducible refine Nat.le_refl _) | (dsimp only; with_reducible refine le_bel_add ?_) | (with_reducible assumption) | omega | (dsimp only; omega))))).imp fun _ _ _ => trivial) ((HI'.out.of (by (repeat' (first | (with_reducible exact Below.refl _ _) | (with_reducible exact Nat.le_refl _) | (with_reducible refine Below.bel ?_ ?_) | (with_reducible refine Below.alloc ?_ ?_ _) | (with_reducible refine Below.drew ?_) | (with_reducible refine Below.drawsN ?_ _) | (with_reducible refine Below.setCell ?_ ?_ _) | (with_reducible refine le_bel ?_) | (with_reducible refine le_alloc ?_) | (with_reducible refine le_setCell ?_) | (with_reducible refine le_drew ?_) | (with_reducible refine le_drawsN ?_) | (dsimp only; with_reducible refine le_bel ?_) | (dsimp only; with_reducible refine Nat.le_refl _) | (dsimp only; with_reducible refine le_bel_add ?_) | (with_reducible assumption) | omega | (dsimp only; omega))))).imp fun _ _ _ => trivial))).mono ?_
  rintro _ _ ⟨rfl, y1, rfl⟩
  have hs1 := y1.size_le
  simp at hs1
  have hO0 := obj_bel ⟨y1.w, (by (repeat' (first | (with_reducible exact Below.refl _ _) | (with_reducible exact Nat.le_refl _) | (with_reducible refine Below.bel ?_ ?_) | (with_reducible refine Below.alloc ?_ ?_ _) | (with_reducible refine Below.drew ?_) | (with_reducible refine Below.drawsN ?_ _) | (with_reducible refine Below.setCell ?_ ?_ _) | (with_reducible refine le_bel ?_) | (with_reducible refine le_alloc ?_) | (with_reducible refine le_setCell ?_) | (with_reducible refine le_drew ?_) | (with_reducible refine le_drawsN ?_) | (dsimp only; with_reducible refine le_bel ?_) | (dsimp only; with_reducible refine Nat.le_refl _) | (dsimp only; with_reducible refine le_bel_add ?_) | (with_reducible assumption) | omega | (dsimp only; omega))) : Below ((w.alloc (.cells #[.int .i64 t.k, .int .i64 t.a, .slice ad t.l.length cap] 26)).alloc (.cells #[.int .i64 u.k, .int .i64 u.a, .slice ad' u.l.length cap'] 26)).heap.size ((w.alloc (.cells #[.int .i64 t.k, .int .i64 t.a, .slice ad t.l.length cap] 26)).alloc (.cells #[.int .i64 u.k, .int .i64 u.a, .slice ad' u.l.length cap'] 26)) y1.w)⟩ (heap2_0 w (.cells #[.int .i64 t.k, .int .i64 t.a, .slice ad t.l.length cap] 26) (.cells #[.int .i64 u.k, .int .i64 u.a, .slice ad' u.l.length cap'] 26))
  have hO1 := obj_bel ⟨y1.w, (by (repeat' (first | (with_reducible exact Below.refl _ _) | (with_reducible exact Nat.le_refl _) | (with_reducible refine Below.bel ?_ ?_) | (with_reducible refine Below.alloc ?_ ?_ _) | (with_reducible refine Below.drew ?_) | (with_reducible refine Below.drawsN ?_ _) | (with_reducible refine Below.setCell ?_ ?_ _) | (with_reducible refine le_bel ?_) | (with_reducible refine le_alloc ?_) | (with_reducible refine le_setCell ?_) | (with_reducible refine le_drew ?_) | (with_reducible refine le_drawsN ?_) | (dsimp only; with_reducible refine le_bel ?_) | (dsimp only; with_reducible refine Nat.le_refl _) | (dsimp only; with_reducible refine le_bel_add ?_) | (with_reducible assumption) | omega | (dsimp only; omega))) : Below ((w.alloc (.cells #[.int .i64 t.k, .int .i64 t.a, .slice ad t.l.length cap] 26)).alloc (.cells #[.int .i64 u.k, .int .i64 u.a, .slice ad' u.l.length cap'] 26)).heap.size ((w.alloc (.cells #[.int .i64 t.k, .int .i64 t.a, .slice ad t.l.length cap] 26)).alloc (.cells #[.int .i64 u.k, .int .i64 u.a, .slice ad' u.l.length cap'] 26)) y1.w)⟩ (heap2_1 w (.cells #[.int .i64 t.k, .int .i64 t.a, .slice ad t.l.length cap] 26) (.cells #[.int .i64 u.k, .int .i64 u.a, .slice ad' u.l.length cap'] 26))
  have hb1 : Below w.heap.size w y1.w := by (repeat' (first | (with_reducible exact Below.refl _ _) | (with_reducible exact Nat.le_refl _) | (with_reducible refine Below.bel ?_ ?_) | (with_reducible refine Below.alloc ?_ ?_ _) | (with_reducible refine Below.drew ?_) | (with_reducible refine Below.drawsN ?_ _) | (with_reducible refine Below.setCell ?_ ?_ _) | (with_reducible refine le_bel ?_) | (with_reducible refine le_alloc ?_) | (with_reducible refine le_setCell ?_) | (with_reducible refine le_drew ?_) | (with_reducible refine le_drawsN ?_) | (dsimp only; with_reducible refine le_bel ?_) | (dsimp only; with_reducible refine Nat.le_refl _) | (dsimp only; with_reducible refine le_bel_add ?_) | (with_reducible assumption) | omega | (dsimp only; omega)))
  obtain ⟨W1, hW1⟩ : ∃ W1, y1.w = W1 := ⟨_, rfl⟩
  rw [hW1] at hs1 hb1 hO0 hO1 ⊢
  clear hW1 hrow y1
  obtain ⟨b0, b1, b2⟩ := box3 hO0
  obtain ⟨c0, c1, c2⟩ := box3 hO1
  dsimp only
  go_wp2_with fail
  refine (HS.out (fun c => True) _ _ _ (insF_two (E := 26) (ad := ad) (cap := cap) (ad' := ad') (cap' := cap') (World.alloc_heap_new _ _) trivial ((HI.out.of (by (repeat' (first | (with_reducible exact Below.refl _ _) | (with_reducible exact Nat.le_refl _) | (with_reducible refine Below.bel ?_ ?_) | (with_reducible refine Below.alloc ?_ ?_ _) | (with_reducible refine Below.drew ?_) | (with_reducible refine Below.drawsN ?_ _) | (with_reducible refine Below.setCell ?_ ?_ _) | (with_reducible refine le_bel ?_) | (with_reducible refine le_alloc ?_) | (with_reducible refine le_setCell ?_) | (with_reducible refine le_drew ?_) | (with_reducible refine le_drawsN ?_) | (dsimp only; with_reducible refine le_bel ?_) | (dsimp only; with_reducible refine Nat.le_refl _) | (dsimp only; with_reducible refine le_bel_add ?_) | (with_reducible assumption) | omega | (dsimp only; omega))))).imp fun _ _ _ => trivial) ((HI'.out.of (by (repeat' (first | (with_reducible exact Below.refl _ _) | (with_reducible exact Nat.le_refl _) | (with_reducible refine Below.bel ?_ ?_) | (with_reducible refine Below.alloc ?_ ?_ _) | (with_reducible refine Below.drew ?_) | (with_reducible refine Below.drawsN ?_ _) | (with_reducible refine Below.setCell ?_ ?_ _) | (with_reducible refine le_bel ?_) | (with_reducible refine le_alloc ?_) | (with_reducible refine le_setCell ?_) | (with_reducible refine le_drew ?_) | (with_reducible refine le_drawsN ?_) | (dsimp only; with_reducible refine le_bel ?_) | (dsimp only; with_reducible refine Nat.le_refl _) | (dsimp only; with_reducible refine le_bel_add ?_) | (with_reducible assumption) | omega | (dsimp only; omega))))).imp fun _ _ _ => trivial))).mono ?_
  rintro _ _ ⟨v2, rfl, y2, rfl, hown⟩
  have HOW := Lib.hid hown
  have hs2 := y2.size_le
  simp at hs2
  have hbW : Below W1.heap.size W1 y2.w := by (repeat' (first | (with_reducible exact Below.refl _ _) | (with_reducible exact Nat.le_refl _) | (with_reducible refine Below.bel ?_ ?_) | (with_reducible refine Below.alloc ?_ ?_ _) | (with_reducible refine Below.drew ?_) | (with_reducible refine Below.drawsN ?_ _) | (with_reducible refine Below.setCell ?_ ?_ _) | (with_reducible refine le_bel ?_) | (with_reducible refine le_alloc ?_) | (with_reducible refine le_setCell ?_) | (with_reducible refine le_drew ?_) | (with_reducible refine le_drawsN ?_) | (dsimp only; with_reducible refine le_bel ?_) | (dsimp only; with_reducible refine Nat.le_refl _) | (dsimp only; with_reducible refine le_bel_add ?_) | (with_reducible assumption) | omega | (dsimp only; omega)))
  have hO02 := obj_below hbW (by omega) hO0
  have hO12 := obj_below hbW (by omega) hO1
  have hb2 := hb1.trans (hbW.mono hb1.size)
  obtain ⟨W2, hW2⟩ : ∃ W2, y2.w = W2 := ⟨_, rfl⟩
  rw [hW2] at hs2 hb2 hO02 hO12 HOW ⊢
  clear hW2 hbW hO0 hO1 hb1 b0 b1 b2 c0 c1 c2 hown y2
  obtain ⟨a5, c5, rfl, hcl⟩ := showsV_at (ownV_shows HOW.out)
  have hil : (intsV ls).length = ls.length := by simp [intsV]
  rw [hil] at hcl ⊢
  have HCL := Lib.hid hcl
  have HB2 := Lib.hid hb2
  have HO0 := Lib.hid hO02
  have HO1 := Lib.hid hO12
  have hmm := @run_makeMap Tryz.prog
  clear hcl hil HOW hb2 hO02 hO12
  dsimp only
  go_wp2
  go_loopw [30] (fun i wr => ∃ (k : Nat) (f : Int → Int), i = .int .i64 (k : Int) ∧ k ≤ ls.length ∧ IntM Tryz.prog 3 3 wr W2.heap.size k f ∧ (∀ a ∈ ls.take k, f a = (cntL ls a : Nat)) ∧ wr.heap[W2.heap.size + 1]? = some (.cells #[.map (some W2.heap.size)] 69 (0, 0)) ∧ Below W2.heap.size W2 wr ∧ W2.heap.size + 2 ≤ wr.heap.size) (fun i _ => ls.length - (intOf i).toNat)
  case atStart =>
    have hb0 := World.alloc_heap_new (W2.alloc (.map #[] 0)) (.cells #[.map (some W2.heap.size)] 69)
    rw [World.size_alloc] at hb0
    exact ⟨0, fun _ => 0, rfl, by omega, (intM_made W2 _ _ _).heap fun o ho => obj_below ((Below.refl _ _).alloc (Nat.le_refl _) _) (Array.getElem?_eq_some_iff.1 ho).1 ho, fun a ha => by simp at ha, hb0, by (repeat' (first | (with_reducible exact Below.refl _ _) | (with_reducible exact Nat.le_refl _) | (with_reducible refine Below.bel ?_ ?_) | (with_reducible refine Below.alloc ?_ ?_ _) | (with_reducible refine Below.drew ?_) | (with_reducible refine Below.drawsN ?_ _) | (with_reducible refine Below.setCell ?_ ?_ _) | (with_reducible refine le_bel ?_) | (with_reducible refine le_alloc ?_) | (with_reducible refine le_setCell ?_) | (with_reducible refine le_drew ?_) | (with_reducible refine le_drawsN ?_) | (dsimp only; with_reducible refine le_bel ?_) | (dsimp only; with_reducible refine Nat.le_refl _) | (dsimp only; with_reducible refine le_bel_add ?_) | (with_reducible assumption) | omega | (dsimp only; omega))), by simp⟩
  case round =>
    obtain ⟨k, f, rfl, hk, him, hf, hbox, hb, hsz⟩ := hrel
    have r0 := box1 hbox
    have HIM := Lib.hid him
    have HF := Lib.hid hf
    clear hf
    rcases Nat.lt_or_ge k ls.length with hkl | hkl
    · obtain ⟨a, ha⟩ := some_at hkl
      have hra := HRG.out a (List.mem_of_getElem? ha)
      have hidx := cntL_idx HSO.out ha
      obtain ⟨gb, go, hadd, hcc⟩ := HCL.out (by omega)
      subst hadd
      have hcell := below_cell hb _ _ _ (hcc k (.int .i64 a) (by unfold intsV; rw [List.getElem?_map, ha]; rfl))
      have hib2 : (0 ≤ (k : Int) ∧ (k : Int) < (ls.length : Int)) := ⟨by omega, by omega⟩
      have f1 : decide ((k : Int) < (ls.length : Int)) = true := decide_eq_true (by omega)
      have HTK := Lib.hid (show ls.take (k + 1) = ls.take k ++ [a] by rw [List.take_add_one, ha]; rfl)
      have HID := Lib.hid hidx
      have HB := Lib.hid hb
      have HBX := Lib.hid hbox
      clear hcc ha hidx him hb hbox
      go_wp2_with (at_mapUpdate; refine wpList_update_intM _ rfl _ _ _ _ rfl 3 3 Tryz.underlying3 Tryz.underlying69 Tryz.underlying3 W2.heap.size k f rfl HIM.out (by unfold maxLen; omega) a rfl (wf_i64 ⟨by omega, by omega⟩) (k : Int) rfl (wf_i64 ⟨by omega, by omega⟩) ?_; intro w3 hm3 hg3; have HM3 := Lib.hid hm3; have HG3 := Lib.hid hg3; have hs3 := hg3.size; clear hm3 hg3)
      go_roundw
      case rel =>
        refine ⟨k + 1, _, by go_num, by omega, HM3.out, fun y hy => ?_, ?_, HB.out.grown HG3.out (by omega) (fun j e => by injection e with e; omega), by omega⟩
        · rw [HTK.out] at hy
          split
          · rename_i e; rw [e, HID.out]
          · rename_i e
            rcases List.mem_append.1 hy with hy | hy
            · exact HF.out y hy
            · exact absurd (List.mem_singleton.1 hy) e
        · exact (HG3.out.block _ (by omega) (fun e => by injection e with e; omega)).trans HBX.out
      case measure => simp [intOf]; omega
    · have hke : k = ls.length := by omega
      subst hke
      have f1 : decide ((ls.length : Int) < (ls.length : Int)) = false := decide_eq_false (by omega)
      rw [List.take_length] at HF
      have HB := Lib.hid hb
      have HBX := Lib.hid hbox
      obtain ⟨W3, hW3⟩ : ∃ W3, W3 = wr := ⟨_, rfl⟩
      subst hW3
      obtain ⟨MB, hMB⟩ : ∃ MB, W2.heap.size = MB := ⟨_, rfl⟩
      clear him hb hbox
      have HIM3 := HIM
      clear HIM r0 hMB MB
      go_wp2
      go_loopw [42] (fun i wr => ∃ r : Nat, i = .int .i64 (r : Int) ∧ r ≤ n2 ∧ (∀ q : Nat, q < r → val (rowE ls q) t = val (rowE ls q) u) ∧ Below W3.heap.size W3 wr) (fun i _ => n2 - (intOf i).toNat)
      case atStart => exact ⟨0, rfl, by omega, fun q hq => absurd hq (Nat.not_lt_zero q), Below.refl _ _⟩
      case round =>
        obtain ⟨r, rfl, hr, hq, hb3⟩ := hrel
        have HQ := Lib.hid hq
        clear hq
        rcases Nat.lt_or_ge r n2 with hrl | hrl
        · have f2 : decide ((r : Int) < (n2 : Int)) = true := decide_eq_true (by omega)
          have hb3s := hb3.size
          have hb2r : Below W2.heap.size W2 wr := HB.out.trans (hb3.mono HB.out.size)
          have hbal : Below wr.heap.size wr (wr.alloc (.cells #[.int .i64 (r : Int)] 3)) := (Below.refl _ _).alloc (Nat.le_refl _) _
          have hb2a := hb2r.trans (hbal.mono hb2r.size)
          have hob0 := obj_below hb2a (Array.getElem?_eq_some_iff.1 HO0.out).1 HO0.out
          have hob1 := obj_below hb2a (Array.getElem?_eq_some_iff.1 HO1.out).1 HO1.out
          obtain ⟨b0, b1, b2⟩ := box3 hob0
          obtain ⟨c0, c1, c2⟩ := box3 hob1
          have hb3a := hb3.trans (hbal.mono hb3s)
          have HOF := Lib.hid (ofAt_rows ls r (by omega) f HF.out (fun a ha => by have := HRG.out a ha; omega) (by omega) wr.heap.size (W2.heap.size + 1) W2.heap.size ls.length (wr.alloc (.cells #[.int .i64 (r : Int)] 3))
            (HIM3.out.heap fun o ho => obj_below hb3a (Array.getElem?_eq_some_iff.1 ho).1 ho) (World.alloc_heap_new _ _) (obj_below hb3a (Array.getElem?_eq_some_iff.1 HBX.out).1 HBX.out))
          have HB0 := Lib.hid (HB2.out.trans (hb2a.mono HB2.out.size))
          have HBWR := Lib.hid (HB2.out.trans (hb2r.mono HB2.out.size))
          have HIt := Lib.hid (HI.out.of HB0.out)
          have HIu := Lib.hid (HI'.out.of HB0.out)
          have HB3 := Lib.hid hb3
          obtain ⟨vt, hvt⟩ : ∃ vt, val (rowE ls r) t = vt := ⟨_, rfl⟩
          obtain ⟨vu, hvu⟩ : ∃ vu, val (rowE ls r) u = vu := ⟨_, rfl⟩
          have HVt := Lib.hid (fun (P' : Nat → Prop) w' g lb eg (h : InsF P' w' ad t.l) (ho : OfAt g lb (rowE ls r) (fun a => a ∈ ls) w') => HV.out P' w' g lb eg r h ho)
          have HVu := Lib.hid (fun (P' : Nat → Prop) w' g lb eg (h : InsF P' w' ad' u.l) (ho : OfAt g lb (rowE ls r) (fun a => a ∈ ls) w') => HV'.out P' w' g lb eg r h ho)
          rw [hvt] at HVt
          rw [hvu] at HVu
          have HVT := Lib.hid (And.intro hvt hvu)
          clear hb2r hbal hb2a hob0 hob1 hb3a hb3 hvt hvu
          go_wp2_with fail
          refine wp_region_bel (by kernel_rfl) (by kernel_rfl) ?_
          repeat (go_big_quiet_step ((first | (go_at_call 38; with_reducible refine bel_of (HVt.out _ _ _ _ egE (HIt.out.of ?_) (HOF.out.of ?_)) <;> (repeat' (first | (with_reducible exact Below.refl _ _) | (with_reducible exact Nat.le_refl _) | (with_reducible refine Below.bel ?_ ?_) | (with_reducible refine Below.alloc ?_ ?_ _) | (with_reducible refine Below.drew ?_) | (with_reducible refine Below.drawsN ?_ _) | (with_reducible refine Below.setCell ?_ ?_ _) | (with_reducible refine le_bel ?_) | (with_reducible refine le_alloc ?_) | (with_reducible refine le_setCell ?_) | (with_reducible refine le_drew ?_) | (with_reducible refine le_drawsN ?_) | (dsimp only; with_reducible refine le_bel ?_) | (dsimp only; with_reducible refine Nat.le_refl _) | (dsimp only; with_reducible refine le_bel_add ?_) | (with_reducible assumption) | omega | (dsimp only; omega)))) | (go_at_call 38; with_reducible refine bel_of (HVu.out _ _ _ _ egE (HIu.out.of ?_) (HOF.out.of ?_)) <;> (repeat' (first | (with_reducible exact Below.refl _ _) | (with_reducible exact Nat.le_refl _) | (with_reducible refine Below.bel ?_ ?_) | (with_reducible refine Below.alloc ?_ ?_ _) | (with_reducible refine Below.drew ?_) | (with_reducible refine Below.drawsN ?_ _) | (with_reducible refine Below.setCell ?_ ?_ _) | (with_reducible refine le_bel ?_) | (with_reducible refine le_alloc ?_) | (with_reducible refine le_setCell ?_) | (with_reducible refine le_drew ?_) | (with_reducible refine le_drawsN ?_) | (dsimp only; with_reducible refine le_bel ?_) | (dsimp only; with_reducible refine Nat.le_refl _) | (dsimp only; with_reducible refine le_bel_add ?_) | (with_reducible assumption) | omega | (dsimp only; omega)))))))
          refine wpQuiet_nil ?_
          rintro _ ⟨z, rfl⟩
          have hzs := z.size_le
          simp at hzs
          have hbz := HB0.out.trans (z.below.mono HB0.out.size)
          have hb3z := HB3.out.trans (((Below.refl _ _).alloc (Nat.le_refl _) _).trans (z.below.mono (by simp)) |>.mono HB3.out.size)
          have HBZ := Lib.hid hbz
          have HB3Z := Lib.hid hb3z
          clear hbz hb3z
          cases vt
          · cases vu
            · go_wp2
              go_roundw
              case rel =>
                refine ⟨r + 1, by go_num, by omega, fun q hq => ?_, HB3Z.out⟩
                rcases Nat.lt_or_ge q r with h | h
                · exact HQ.out q h
                · have : q = r := by omega
                  rw [this, HVT.out.1, HVT.out.2]
              case measure => simp [intOf]; omega
            · have hbf : b = false := by
                cases hb : b
                · rfl
                · have h := HR.out.1 hb r hrl
                  rw [HVT.out.1, HVT.out.2] at h
                  cases h
              subst hbf
              go_wp2
              have hbw := HBWR.out
              have hbws := hbw.size
              refine bodyPost_ret (v := .tuple #[.bool false, .int .i64 0]) (by simp [results, Tryz.results17, go_sem]) rfl (Ret.mk (by rfl) (by (repeat' (first | (with_reducible exact Below.refl _ _) | (with_reducible exact Nat.le_refl _) | (with_reducible refine Below.bel ?_ ?_) | (with_reducible refine Below.alloc ?_ ?_ _) | (with_reducible refine Below.drew ?_) | (with_reducible refine Below.drawsN ?_ _) | (with_reducible refine Below.setCell ?_ ?_ _) | (with_reducible refine le_bel ?_) | (with_reducible refine le_alloc ?_) | (with_reducible refine le_setCell ?_) | (with_reducible refine le_drew ?_) | (with_reducible refine le_drawsN ?_) | (dsimp only; with_reducible refine le_bel ?_) | (dsimp only; with_reducible refine Nat.le_refl _) | (dsimp only; with_reducible refine le_bel_add ?_) | (with_reducible assumption) | omega | (dsimp only; omega)))))
          · cases vu
            · have hbf : b = false := by
                cases hb : b
                · rfl
                · have h := HR.out.1 hb r hrl
                  rw [HVT.out.1, HVT.out.2] at h
                  cases h
              subst hbf
              go_wp2
              have hbw := HBWR.out
              have hbws := hbw.size
              refine bodyPost_ret (v := .tuple #[.bool false, .int .i64 0]) (by simp [results, Tryz.results17, go_sem]) rfl (Ret.mk (by rfl) (by (repeat' (first | (with_reducible exact Below.refl _ _) | (with_reducible exact Nat.le_refl _) | (with_reducible refine Below.bel ?_ ?_) | (with_reducible refine Below.alloc ?_ ?_ _) | (with_reducible refine Below.drew ?_) | (with_reducible refine Below.drawsN ?_ _) | (with_reducible refine Below.setCell ?_ ?_ _) | (with_reducible refine le_bel ?_) | (with_reducible refine le_alloc ?_) | (with_reducible refine le_setCell ?_) | (with_reducible refine le_drew ?_) | (with_reducible refine le_drawsN ?_) | (dsimp only; with_reducible refine le_bel ?_) | (dsimp only; with_reducible refine Nat.le_refl _) | (dsimp only; with_reducible refine le_bel_add ?_) | (with_reducible assumption) | omega | (dsimp only; omega)))))
            · go_wp2
              go_roundw
              case rel =>
                refine ⟨r + 1, by go_num, by omega, fun q hq => ?_, HB3Z.out⟩
                rcases Nat.lt_or_ge q r with h | h
                · exact HQ.out q h
                · have : q = r := by omega
                  rw [this, HVT.out.1, HVT.out.2]
              case measure => simp [intOf]; omega
        · have hre : r = n2 := by omega
          subst hre
          have f2 : decide ((r : Int) < (r : Int)) = false := decide_eq_false (by omega)
          have hbt : b = true := HR.out.2 HQ.out
          subst hbt
          have HB0 := Lib.hid (HB2.out.trans ((HB.out.mono HB2.out.size).trans (hb3.mono (Nat.le_trans HB2.out.size HB.out.size))))
          clear hb3
          go_wp2
          have hbw := HB0.out
          refine bodyPost_ret (v := .tuple #[.bool true, .int .i64 0]) (by simp [results, Tryz.results17, go_sem]) rfl (Ret.mk (by rfl) (by (repeat' (first | (with_reducible exact Below.refl _ _) | (with_reducible exact Nat.le_refl _) | (with_reducible refine Below.bel ?_ ?_) | (with_reducible refine Below.alloc ?_ ?_ _) | (with_reducible refine Below.drew ?_) | (with_reducible refine Below.drawsN ?_ _) | (with_reducible refine Below.setCell ?_ ?_ _) | (with_reducible refine le_bel ?_) | (with_reducible refine le_alloc ?_) | (with_reducible refine le_setCell ?_) | (with_reducible refine le_drew ?_) | (with_reducible refine le_drawsN ?_) | (dsimp only; with_reducible refine le_bel ?_) | (dsimp only; with_reducible refine Nat.le_refl _) | (dsimp only; with_reducible refine le_bel_add ?_) | (with_reducible assumption) | omega | (dsimp only; omega)))))
set_option maxRecDepth 100000 in
set_option maxHeartbeats 12800000 in
theorem Equivalent_limit (P P' : Nat → Prop) (t u : F) (ad ad' : Option Addr) (cap cap' : Nat) (w : World) (hi : InsF P w ad t.l) (hi' : InsF P' w ad' u.l) (hok : okT t) (hok' : okT u) (hn : nodes t ≤ 10000) (hl : levels t ≤ 100) (hn' : nodes u ≤ 10000) (hl' : levels u ≤ 100) (hlen : 12 < (supF [t, u]).length) :
    Calls Tryz.prog 17 #[.agg #[.int .i64 t.k, .int .i64 t.a, .slice ad t.l.length cap], .agg #[.int .i64 u.k, .int .i64 u.a, .slice ad' u.l.length cap']] w (Ret (.tuple #[.bool false, .int .i64 4]) w) := by
  have hc0 : checkF t = 0 := checkF_ok.2 ⟨decide_eq_true (by omega), hok⟩
  have hc1 : checkF u = 0 := checkF_ok.2 ⟨decide_eq_true (by omega), hok'⟩
  have hlt : InsF (fun c => c < w.heap.size) w ad t.l := hi.imp fun b hb _ => hb
  have hlt' : InsF (fun c => c < w.heap.size) w ad' u.l := hi'.imp fun b hb _ => hb
  have HI := Lib.hid hlt
  have HI' := Lib.hid hlt'
  have HC := Lib.hid (fun P' ad' cap' w' (h : InsF P' w' ad' [t, u]) => checks_any [t, u] P' ad' cap' w' h (by rw [nodesL, nodesL, nodesL]; omega))
  have hch : chkL [t, u] = 0 := by rw [chkL, chkL, chkL, hc0, hc1]; rfl
  rw [hch] at HC
  have HS := Lib.hid (fun P' ad' cap' w' (h : InsF P' w' ad' [t, u]) => support_two P' t u ad' cap' w' h (by omega) (by omega))
  obtain ⟨ls, hls⟩ : ∃ ls, supF [t, u] = ls := ⟨_, rfl⟩
  rw [hls] at HS hlen
  have f0 : decide ((12 : Int) < (ls.length : Int)) = true := decide_eq_true (by omega)
  clear hi hi' hlt hlt' hc0 hc1 hok hok' hch hls hn hl hn' hl' hlen
  go_enter Tryz.func17, Tryz.ntmps17
  go_wp2_with fail
  have hrow := World.alloc_heap_new ((w.alloc (.cells #[.int .i64 t.k, .int .i64 t.a, .slice ad t.l.length cap] 26)).alloc (.cells #[.int .i64 u.k, .int .i64 u.a, .slice ad' u.l.length cap'] 26)) (.cells #[.int .i64 t.k, .int .i64 t.a, .slice ad t.l.length cap, .int .i64 u.k, .int .i64 u.a, .slice ad' u.l.length cap'] 26)
  rw [show ((w.alloc (.cells #[.int .i64 t.k, .int .i64 t.a, .slice ad t.l.length cap] 26)).alloc (.cells #[.int .i64 u.k, .int .i64 u.a, .slice ad' u.l.length cap'] 26)).heap.size = w.heap.size + 1 + 1 by simp] at hrow
  refine (HC.out (fun c => True) _ _ _ (insF_two (E := 26) (ad := ad) (cap := cap) (ad' := ad') (cap' := cap') hrow trivial ((HI.out.of (by (repeat' (first | (with_reducible exact Below.refl _ _) | (with_reducible exact Nat.le_refl _) | (with_reducible refine Below.bel ?_ ?_) | (with_reducible refine Below.alloc ?_ ?_ _) | (with_reducible refine Below.drew ?_) | (with_reducible refine Below.drawsN ?_ _) | (with_reducible refine Below.setCell ?_ ?_ _) | (with_reducible refine le_bel ?_) | (with_reducible refine le_alloc ?_) | (with_reducible refine le_setCell ?_) | (with_reducible refine le_drew ?_) | (with_reducible refine le_drawsN ?_) | (dsimp only; with_reducible refine le_bel ?_) | (dsimp only; with_reducible refine Nat.le_refl _) | (dsimp only; with_reducible refine le_bel_add ?_) | (with_reducible assumption) | omega | (dsimp only; omega))))).imp fun _ _ _ => trivial) ((HI'.out.of (by (repeat' (first | (with_reducible exact Below.refl _ _) | (with_reducible exact Nat.le_refl _) | (with_reducible refine Below.bel ?_ ?_) | (with_reducible refine Below.alloc ?_ ?_ _) | (with_reducible refine Below.drew ?_) | (with_reducible refine Below.drawsN ?_ _) | (with_reducible refine Below.setCell ?_ ?_ _) | (with_reducible refine le_bel ?_) | (with_reducible refine le_alloc ?_) | (with_reducible refine le_setCell ?_) | (with_reducible refine le_drew ?_) | (with_reducible refine le_drawsN ?_) | (dsimp only; with_reducible refine le_bel ?_) | (dsimp only; with_reducible refine Nat.le_refl _) | (dsimp only; with_reducible refine le_bel_add ?_) | (with_reducible assumption) | omega | (dsimp only; omega))))).imp fun _ _ _ => trivial))).mono ?_
  rintro _ _ ⟨rfl, y1, rfl⟩
  have hs1 := y1.size_le
  simp at hs1
  have hO0 := obj_bel ⟨y1.w, (by (repeat' (first | (with_reducible exact Below.refl _ _) | (with_reducible exact Nat.le_refl _) | (with_reducible refine Below.bel ?_ ?_) | (with_reducible refine Below.alloc ?_ ?_ _) | (with_reducible refine Below.drew ?_) | (with_reducible refine Below.drawsN ?_ _) | (with_reducible refine Below.setCell ?_ ?_ _) | (with_reducible refine le_bel ?_) | (with_reducible refine le_alloc ?_) | (with_reducible refine le_setCell ?_) | (with_reducible refine le_drew ?_) | (with_reducible refine le_drawsN ?_) | (dsimp only; with_reducible refine le_bel ?_) | (dsimp only; with_reducible refine Nat.le_refl _) | (dsimp only; with_reducible refine le_bel_add ?_) | (with_reducible assumption) | omega | (dsimp only; omega))) : Below ((w.alloc (.cells #[.int .i64 t.k, .int .i64 t.a, .slice ad t.l.length cap] 26)).alloc (.cells #[.int .i64 u.k, .int .i64 u.a, .slice ad' u.l.length cap'] 26)).heap.size ((w.alloc (.cells #[.int .i64 t.k, .int .i64 t.a, .slice ad t.l.length cap] 26)).alloc (.cells #[.int .i64 u.k, .int .i64 u.a, .slice ad' u.l.length cap'] 26)) y1.w)⟩ (heap2_0 w (.cells #[.int .i64 t.k, .int .i64 t.a, .slice ad t.l.length cap] 26) (.cells #[.int .i64 u.k, .int .i64 u.a, .slice ad' u.l.length cap'] 26))
  have hO1 := obj_bel ⟨y1.w, (by (repeat' (first | (with_reducible exact Below.refl _ _) | (with_reducible exact Nat.le_refl _) | (with_reducible refine Below.bel ?_ ?_) | (with_reducible refine Below.alloc ?_ ?_ _) | (with_reducible refine Below.drew ?_) | (with_reducible refine Below.drawsN ?_ _) | (with_reducible refine Below.setCell ?_ ?_ _) | (with_reducible refine le_bel ?_) | (with_reducible refine le_alloc ?_) | (with_reducible refine le_setCell ?_) | (with_reducible refine le_drew ?_) | (with_reducible refine le_drawsN ?_) | (dsimp only; with_reducible refine le_bel ?_) | (dsimp only; with_reducible refine Nat.le_refl _) | (dsimp only; with_reducible refine le_bel_add ?_) | (with_reducible assumption) | omega | (dsimp only; omega))) : Below ((w.alloc (.cells #[.int .i64 t.k, .int .i64 t.a, .slice ad t.l.length cap] 26)).alloc (.cells #[.int .i64 u.k, .int .i64 u.a, .slice ad' u.l.length cap'] 26)).heap.size ((w.alloc (.cells #[.int .i64 t.k, .int .i64 t.a, .slice ad t.l.length cap] 26)).alloc (.cells #[.int .i64 u.k, .int .i64 u.a, .slice ad' u.l.length cap'] 26)) y1.w)⟩ (heap2_1 w (.cells #[.int .i64 t.k, .int .i64 t.a, .slice ad t.l.length cap] 26) (.cells #[.int .i64 u.k, .int .i64 u.a, .slice ad' u.l.length cap'] 26))
  have hb1 : Below w.heap.size w y1.w := by (repeat' (first | (with_reducible exact Below.refl _ _) | (with_reducible exact Nat.le_refl _) | (with_reducible refine Below.bel ?_ ?_) | (with_reducible refine Below.alloc ?_ ?_ _) | (with_reducible refine Below.drew ?_) | (with_reducible refine Below.drawsN ?_ _) | (with_reducible refine Below.setCell ?_ ?_ _) | (with_reducible refine le_bel ?_) | (with_reducible refine le_alloc ?_) | (with_reducible refine le_setCell ?_) | (with_reducible refine le_drew ?_) | (with_reducible refine le_drawsN ?_) | (dsimp only; with_reducible refine le_bel ?_) | (dsimp only; with_reducible refine Nat.le_refl _) | (dsimp only; with_reducible refine le_bel_add ?_) | (with_reducible assumption) | omega | (dsimp only; omega)))
  obtain ⟨W1, hW1⟩ : ∃ W1, y1.w = W1 := ⟨_, rfl⟩
  rw [hW1] at hs1 hb1 hO0 hO1 ⊢
  clear hW1 hrow y1
  obtain ⟨b0, b1, b2⟩ := box3 hO0
  obtain ⟨c0, c1, c2⟩ := box3 hO1
  dsimp only
  go_wp2_with fail
  refine (HS.out (fun c => True) _ _ _ (insF_two (E := 26) (ad := ad) (cap := cap) (ad' := ad') (cap' := cap') (World.alloc_heap_new _ _) trivial ((HI.out.of (by (repeat' (first | (with_reducible exact Below.refl _ _) | (with_reducible exact Nat.le_refl _) | (with_reducible refine Below.bel ?_ ?_) | (with_reducible refine Below.alloc ?_ ?_ _) | (with_reducible refine Below.drew ?_) | (with_reducible refine Below.drawsN ?_ _) | (with_reducible refine Below.setCell ?_ ?_ _) | (with_reducible refine le_bel ?_) | (with_reducible refine le_alloc ?_) | (with_reducible refine le_setCell ?_) | (with_reducible refine le_drew ?_) | (with_reducible refine le_drawsN ?_) | (dsimp only; with_reducible refine le_bel ?_) | (dsimp only; with_reducible refine Nat.le_refl _) | (dsimp only; with_reducible refine le_bel_add ?_) | (with_reducible assumption) | omega | (dsimp only; omega))))).imp fun _ _ _ => trivial) ((HI'.out.of (by (repeat' (first | (with_reducible exact Below.refl _ _) | (with_reducible exact Nat.le_refl _) | (with_reducible refine Below.bel ?_ ?_) | (with_reducible refine Below.alloc ?_ ?_ _) | (with_reducible refine Below.drew ?_) | (with_reducible refine Below.drawsN ?_ _) | (with_reducible refine Below.setCell ?_ ?_ _) | (with_reducible refine le_bel ?_) | (with_reducible refine le_alloc ?_) | (with_reducible refine le_setCell ?_) | (with_reducible refine le_drew ?_) | (with_reducible refine le_drawsN ?_) | (dsimp only; with_reducible refine le_bel ?_) | (dsimp only; with_reducible refine Nat.le_refl _) | (dsimp only; with_reducible refine le_bel_add ?_) | (with_reducible assumption) | omega | (dsimp only; omega))))).imp fun _ _ _ => trivial))).mono ?_
  rintro _ _ ⟨v2, rfl, y2, rfl, hown⟩
  obtain ⟨a5, c5, rfl, _⟩ := showsV_at (ownV_shows hown)
  have hil : (intsV ls).length = ls.length := by simp [intsV]
  rw [hil]
  clear hown hil
  dsimp only
  go_wp2
  have hs1' := hb1.size
  refine bodyPost_ret (v := .tuple #[.bool false, .int .i64 4]) (by simp [results, Tryz.results17, go_sem]) rfl (Ret.mk (by rfl) (by (repeat' (first | (with_reducible exact Below.refl _ _) | (with_reducible exact Nat.le_refl _) | (with_reducible refine Below.bel ?_ ?_) | (with_reducible refine Below.alloc ?_ ?_ _) | (with_reducible refine Below.drew ?_) | (with_reducible refine Below.drawsN ?_ _) | (with_reducible refine Below.setCell ?_ ?_ _) | (with_reducible refine le_bel ?_) | (with_reducible refine le_alloc ?_) | (with_reducible refine le_setCell ?_) | (with_reducible refine le_drew ?_) | (with_reducible refine le_drawsN ?_) | (dsimp only; with_reducible refine le_bel ?_) | (dsimp only; with_reducible refine Nat.le_refl _) | (dsimp only; with_reducible refine le_bel_add ?_) | (with_reducible assumption) | omega | (dsimp only; omega)))))
end Go.Proofs.YtkbellmhanpocaaGreatDoor
