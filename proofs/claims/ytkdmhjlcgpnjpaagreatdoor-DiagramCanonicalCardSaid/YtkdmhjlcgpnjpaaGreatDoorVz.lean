/- slices.ContainsFunc at formulas; the value of a formula. Value. -/
import Derived.Test.YtkdmhjlcgpnjpaaGreatDoorG8
import Derived.Test.YtkdmhjlcgpnjpaaGreatDoorFt
import Derived.Test.YtkdmhjlcgpnjpaaGreatDoorS2
import Derived.Test.YtkdmhjlcgpnjpaaGreatDoorFm
namespace Go.Proofs.YtkdmhjlcgpnjpaaGreatDoor
set_option linter.unusedVariables false
set_option linter.unusedSimpArgs false
open Go.RowKit F
attribute [local go_sem low] Bel.cell Bel.frozen alloc_cell alloc_frozen

/-- What a test of formulas does, wherever the formulas of a list lie. -/
def TestF (g : Nat) (lb : Array Value) (p : F → Bool) (l : List F) (w : World) : Prop :=
  ∀ u ∈ l, ∀ ad cap W, Below w.heap.size w W → InsF (fun c => c < w.heap.size) W ad u.l → Calls Tryz.prog g (#[.agg #[.int .i64 u.k, .int .i64 u.a, .slice ad u.l.length cap]] ++ lb) W (Ret (.bool (p u)) W)
def IdxRet (p : F → Bool) (l : List F) (w : World) (e : Ending) (w' : World) : Prop := ∃ i : Int, e = .returned (.int .i64 i) ∧ (0 ≤ i ↔ l.any p = true) ∧ ∃ y : Bel w, w' = y.w
set_option maxRecDepth 100000 in
set_option maxHeartbeats 6400000 in
theorem index_any (g : Nat) (lb : Array Value) (eg : ∀ args w, (callFunc g args).run Tryz.prog w = .ok (.enter g args) w) (p : F → Bool) (l : List F) (P : Nat → Prop) (ad : Option Addr) (cap : Nat) (w : World)
    (hi : InsF P w ad l) (hl : l.length ≤ 100000000) (ht : TestF g lb p l w) : Calls Tryz.prog 125 #[.slice ad l.length cap, .func (.func g) #[] lb] w (IdxRet p l w) := by
  have hlt : InsF (fun c => c < w.heap.size) w ad l := hi.imp fun b hb _ => hb
  have HT := Lib.hid ht
  clear hi ht
  go_enter Tryz.func125, Tryz.ntmps125
  go_wp2
  go_loopw [8] (fun i wr => ∃ k : Nat, i = .int .i64 (k : Int) ∧ k ≤ l.length ∧ Below w.heap.size w wr ∧ (l.take k).any p = false) (fun i _ => l.length - (intOf i).toNat)
  case atStart => exact ⟨0, rfl, Nat.zero_le _, Below.refl _ w, rfl⟩
  case round =>
    obtain ⟨k, rfl, hk, hb, hA⟩ := hrel
    have hiW := below_move hlt (fun _ h => h) hb
    have HA := Lib.hid hA
    clear hA
    rcases Nat.lt_or_ge k l.length with hkl | hkl
    · obtain ⟨u, hu⟩ := some_at hkl
      obtain ⟨bb, off, hadd, hp, hcs⟩ := insF_at hiW (by omega)
      cases hadd
      obtain ⟨c0, c1, ad', cap', c2, hiu⟩ := cellF_open (hcs k u hu)
      have f0 : decide ((k : Int) < (l.length : Int)) = true := decide_eq_true (by omega)
      have hib : (0 ≤ (k : Int) ∧ (k : Int) < (l.length : Int)) := ⟨by omega, by omega⟩
      have hcall := HT.out u (List.mem_of_getElem? hu) ad' cap' wr hb hiu
      have HU := Lib.hid hu
      clear hcs hiW hu hiu
      cases hq : p u with
      | true =>
        rw [hq] at hcall
        have HQ := Lib.hid hq
        clear hq
        go_wp2_with (go_at_fn g; refine hcall.mono ?_; rintro _ _ ⟨rfl, y, rfl⟩)
        go_ret
        refine ⟨_, rfl, ⟨fun _ => ?_, fun _ => by omega⟩, ⟨y.w, hb.trans (y.below.mono hb.size)⟩, rfl⟩
        rw [List.any_eq_true]
        exact ⟨u, List.mem_of_getElem? HU.out, HQ.out⟩
      | false =>
        rw [hq] at hcall
        have HQ := Lib.hid hq
        clear hq
        go_wp2_with (go_at_fn g; refine hcall.mono ?_; rintro _ _ ⟨rfl, y, rfl⟩)
        go_roundw
        case measure => simp [intOf]; omega
        case rel =>
          refine ⟨k + 1, by go_num, by omega, hb.trans (y.below.mono hb.size), ?_⟩
          rw [List.take_add_one, HU.out, List.any_append, HA.out]
          simp [HQ.out]
    · have hke : k = l.length := by omega
      subst hke
      have f0 : decide ((l.length : Int) < (l.length : Int)) = false := decide_eq_false (by omega)
      clear hiW
      go_wp2
      go_ret
      have h := HA.out
      rw [List.take_length] at h
      exact ⟨_, rfl, ⟨fun h0 => by omega, fun h0 => by rw [h] at h0; cases h0⟩, ⟨_, hb⟩, rfl⟩
set_option maxRecDepth 100000 in
theorem contains_any (g : Nat) (lb : Array Value) (eg : ∀ args w, (callFunc g args).run Tryz.prog w = .ok (.enter g args) w) (p : F → Bool) (l : List F) (P : Nat → Prop) (ad : Option Addr) (cap : Nat) (w : World)
    (hi : InsF P w ad l) (hl : l.length ≤ 100000000) (ht : TestF g lb p l w) : Calls Tryz.prog 104 #[.slice ad l.length cap, .func (.func g) #[] lb] w (Ret (.bool (l.any p)) w) := by
  have HX := Lib.hid (index_any g lb eg p l P ad cap w hi hl ht)
  clear hi ht
  go_enter Tryz.func104, Tryz.ntmps104
  go_wp2_with fail
  refine HX.out.mono ?_
  rintro _ _ ⟨i, rfl, hi, y, rfl⟩
  have f0 : decide (0 ≤ i) = l.any p := by
    cases h : l.any p
    · exact decide_eq_false fun h0 => by rw [h] at hi; exact absurd (hi.1 h0) (by decide)
    · exact decide_eq_true (hi.2 h)
  clear hi
  dsimp only
  go_wp2
  go_ret
  exact Ret.mk (by (rw [← f0]; rfl)) (by (repeat' (first | (with_reducible first | exact Below.refl _ _ | exact Nat.le_refl _ | refine Below.bel ?_ ?_ | refine Below.alloc ?_ ?_ _ | refine Below.drew ?_ | refine Below.drawsN ?_ _ | refine Below.setCell ?_ ?_ _ | refine le_bel ?_ | refine le_alloc ?_ | refine le_setCell ?_ | refine le_drew ?_ | refine le_drawsN ?_) | (dsimp only; with_reducible first | refine le_bel ?_ | refine Nat.le_refl _ | refine le_bel_add ?_) | (with_reducible assumption) | omega | (dsimp only; omega))))
/-- What reading a variable does. -/
def OfAt (g : Nat) (lb : Array Value) (ρ : Int → Bool) (S : Int → Prop) (w : World) : Prop := ∀ W, Below w.heap.size w W → ∀ a, S a → Calls Tryz.prog g (#[.int .i64 a] ++ lb) W (Ret (.bool (ρ a)) W)
theorem OfAt.of {g : Nat} {lb : Array Value} {ρ : Int → Bool} {S : Int → Prop} {w w' : World} (h : OfAt g lb ρ S w) (hb : Below w.heap.size w w') : OfAt g lb ρ S w' := fun W hW => h W (hb.trans (hW.mono hb.size))
/-- What the value of a tree is, wherever it lies. -/
def ValAt (g : Nat) (lb : Array Value) (ρ : Int → Bool) (u : F) (w : World) : Prop := ∀ ad cap W, Below w.heap.size w W → InsF (fun c => c < w.heap.size) W ad u.l → Calls Tryz.prog 77 #[.agg #[.int .i64 u.k, .int .i64 u.a, .slice ad u.l.length cap], .func (.func g) #[] lb] W (Ret (.bool (val ρ u)) W)
set_option maxRecDepth 100000 in
theorem closure1 (g : Nat) (lb : Array Value) (ρ : Int → Bool) (l : List F) (w : World) (Bo : Nat) (hbo : w.heap[Bo]? = some (.cells #[.func (.func g) #[] lb] 118 (0, 0))) (hv : ∀ u ∈ l, ValAt g lb ρ u w) :
    TestF 105 #[.pointer (some ⟨Bo, 0, none⟩)] (fun u => (!val ρ u)) l w := by
  intro u hu ad cap W hW hi
  have hbw := obj_below hW (Array.getElem?_eq_some_iff.1 hbo).1 hbo
  have c0 := box1 hbw
  have HV := Lib.hid (hv u hu ad cap)
  have hWs := hW.size
  have HW := Lib.hid hW
  have HI := Lib.hid hi
  clear hbo hv hu hW hi
  show Calls _ _ #[.agg #[.int .i64 u.k, .int .i64 u.a, .slice ad u.l.length cap], .pointer (some ⟨Bo, 0, none⟩)] _ _
  go_enter Tryz.func105, Tryz.ntmps105
  go_wp2_with fail
  refine (HV.out _ (HW.out.trans (by (repeat' (first | (with_reducible first | exact Below.refl _ _ | exact Nat.le_refl _ | refine Below.bel ?_ ?_ | refine Below.alloc ?_ ?_ _ | refine Below.drew ?_ | refine Below.drawsN ?_ _ | refine Below.setCell ?_ ?_ _ | refine le_bel ?_ | refine le_alloc ?_ | refine le_setCell ?_ | refine le_drew ?_ | refine le_drawsN ?_) | (dsimp only; with_reducible first | refine le_bel ?_ | refine Nat.le_refl _ | refine le_bel_add ?_) | (with_reducible assumption) | omega | (dsimp only; omega))))) (HI.out.of (by (repeat' (first | (with_reducible first | exact Below.refl _ _ | exact Nat.le_refl _ | refine Below.bel ?_ ?_ | refine Below.alloc ?_ ?_ _ | refine Below.drew ?_ | refine Below.drawsN ?_ _ | refine Below.setCell ?_ ?_ _ | refine le_bel ?_ | refine le_alloc ?_ | refine le_setCell ?_ | refine le_drew ?_ | refine le_drawsN ?_) | (dsimp only; with_reducible first | refine le_bel ?_ | refine Nat.le_refl _ | refine le_bel_add ?_) | (with_reducible assumption) | omega | (dsimp only; omega)))))).mono ?_
  rintro _ _ ⟨rfl, y, rfl⟩
  dsimp only
  go_wp2
  go_ret
  exact Ret.mk (by rfl) (by (repeat' (first | (with_reducible first | exact Below.refl _ _ | exact Nat.le_refl _ | refine Below.bel ?_ ?_ | refine Below.alloc ?_ ?_ _ | refine Below.drew ?_ | refine Below.drawsN ?_ _ | refine Below.setCell ?_ ?_ _ | refine le_bel ?_ | refine le_alloc ?_ | refine le_setCell ?_ | refine le_drew ?_ | refine le_drawsN ?_) | (dsimp only; with_reducible first | refine le_bel ?_ | refine Nat.le_refl _ | refine le_bel_add ?_) | (with_reducible assumption) | omega | (dsimp only; omega))))
set_option maxRecDepth 100000 in
theorem closure2 (g : Nat) (lb : Array Value) (ρ : Int → Bool) (l : List F) (w : World) (Bo : Nat) (hbo : w.heap[Bo]? = some (.cells #[.func (.func g) #[] lb] 118 (0, 0))) (hv : ∀ u ∈ l, ValAt g lb ρ u w) :
    TestF 106 #[.pointer (some ⟨Bo, 0, none⟩)] (fun u => (val ρ u)) l w := by
  intro u hu ad cap W hW hi
  have hbw := obj_below hW (Array.getElem?_eq_some_iff.1 hbo).1 hbo
  have c0 := box1 hbw
  have HV := Lib.hid (hv u hu ad cap)
  have hWs := hW.size
  have HW := Lib.hid hW
  have HI := Lib.hid hi
  clear hbo hv hu hW hi
  show Calls _ _ #[.agg #[.int .i64 u.k, .int .i64 u.a, .slice ad u.l.length cap], .pointer (some ⟨Bo, 0, none⟩)] _ _
  go_enter Tryz.func106, Tryz.ntmps106
  go_wp2_with fail
  refine (HV.out _ (HW.out.trans (by (repeat' (first | (with_reducible first | exact Below.refl _ _ | exact Nat.le_refl _ | refine Below.bel ?_ ?_ | refine Below.alloc ?_ ?_ _ | refine Below.drew ?_ | refine Below.drawsN ?_ _ | refine Below.setCell ?_ ?_ _ | refine le_bel ?_ | refine le_alloc ?_ | refine le_setCell ?_ | refine le_drew ?_ | refine le_drawsN ?_) | (dsimp only; with_reducible first | refine le_bel ?_ | refine Nat.le_refl _ | refine le_bel_add ?_) | (with_reducible assumption) | omega | (dsimp only; omega))))) (HI.out.of (by (repeat' (first | (with_reducible first | exact Below.refl _ _ | exact Nat.le_refl _ | refine Below.bel ?_ ?_ | refine Below.alloc ?_ ?_ _ | refine Below.drew ?_ | refine Below.drawsN ?_ _ | refine Below.setCell ?_ ?_ _ | refine le_bel ?_ | refine le_alloc ?_ | refine le_setCell ?_ | refine le_drew ?_ | refine le_drawsN ?_) | (dsimp only; with_reducible first | refine le_bel ?_ | refine Nat.le_refl _ | refine le_bel_add ?_) | (with_reducible assumption) | omega | (dsimp only; omega)))))).mono ?_
  rintro _ _ ⟨rfl, y, rfl⟩
  dsimp only
  go_wp2
  go_ret
  exact Ret.mk (by rfl) (by (repeat' (first | (with_reducible first | exact Below.refl _ _ | exact Nat.le_refl _ | refine Below.bel ?_ ?_ | refine Below.alloc ?_ ?_ _ | refine Below.drew ?_ | refine Below.drawsN ?_ _ | refine Below.setCell ?_ ?_ _ | refine le_bel ?_ | refine le_alloc ?_ | refine le_setCell ?_ | refine le_drew ?_ | refine le_drawsN ?_) | (dsimp only; with_reducible first | refine le_bel ?_ | refine Nat.le_refl _ | refine le_bel_add ?_) | (with_reducible assumption) | omega | (dsimp only; omega))))
theorem valA_any (ρ : Int → Bool) : ∀ l : List F, valA ρ l = !l.any (fun u => !val ρ u)
  | [] => rfl
  | t :: r => by rw [valA, valA_any ρ r, List.any_cons]; cases val ρ t <;> simp
theorem valO_any (ρ : Int → Bool) : ∀ l : List F, valO ρ l = l.any (fun u => val ρ u)
  | [] => rfl
  | t :: r => by rw [valO, valO_any ρ r, List.any_cons]
theorem eg1 : ∀ args w, (callFunc 105 args).run Tryz.prog w = .ok (.enter 105 args) w := fun args w => by kernel_rfl
theorem eg2 : ∀ args w, (callFunc 106 args).run Tryz.prog w = .ok (.enter 106 args) w := fun args w => by kernel_rfl
set_option maxRecDepth 100000 in
set_option maxHeartbeats 6400000 in
theorem value_any (g : Nat) (lb : Array Value) (eg : ∀ args w, (callFunc g args).run Tryz.prog w = .ok (.enter g args) w) (ρ : Int → Bool) (S : Int → Prop) : ∀ (N : Nat) (t : F), nodes t ≤ N → okT t → (∀ u ∈ pre t, u.k = 1 → S u.a) → nodes t ≤ 100000000 →
    ∀ (P : Nat → Prop) (ad : Option Addr) (cap : Nat) (w : World), InsF P w ad t.l → OfAt g lb ρ S w →
    Calls Tryz.prog 77 #[.agg #[.int .i64 t.k, .int .i64 t.a, .slice ad t.l.length cap], .func (.func g) #[] lb] w (Ret (.bool (val ρ t)) w) := by
  intro N
  induction N with
  | zero => intro t h; have := nodes_pos t; omega
  | succ N ih =>
    intro t hN hok hS hbig P ad cap w hi ho
    have HNL := Lib.hid (show nodesL t.l ≤ N by rw [nodes_l] at hN; omega)
    have HBIG := Lib.hid (show nodesL t.l ≤ 100000000 by rw [nodes_l] at hbig; omega)
    have hlen : t.l.length ≤ 100000000 := Nat.le_trans (length_nodesL t.l) HBIG.out
    have hlt : InsF (fun c => c < w.heap.size) w ad t.l := hi.imp fun b hb _ => hb
    have HOKL := Lib.hid (okT_l hok)
    have HSL := Lib.hid (show ∀ v ∈ t.l, ∀ u ∈ pre v, u.k = 1 → S u.a from fun v hv u hu => hS u (by rw [pre_eq]; exact List.mem_cons_of_mem _ (preL_mem hv hu)))
    have hk1 := hS t (by rw [pre_eq]; exact List.mem_cons_self ..)
    have HV : ∀ u ∈ t.l, ∀ w', Below w.heap.size w w' → ValAt g lb ρ u w' := fun u hu w' hw' ad' cap' W hW hiu =>
      ih u (Nat.le_trans (nodesL_mem hu) HNL.out) (okL_mem HOKL.out hu) (HSL.out u hu) (Nat.le_trans (nodesL_mem hu) HBIG.out) _ ad' cap' W hiu (ho.of (hw'.trans (hW.mono hw'.size)))
    have HO := Lib.hid (ho w (Below.refl _ _))
    have HOB := Lib.hid ho
    clear hi hN hbig ho hS
    obtain ⟨tk, ta, tl⟩ := t
    simp only [F.k, F.a, F.l] at HNL HBIG hlen hlt HOKL HSL hk1 HV ⊢
    rcases single_cases hok.1 with ⟨rfl, h1, h2, rfl⟩ | ⟨rfl, rfl, t, rfl⟩ | ⟨hk, rfl, hl⟩ | ⟨hk, rfl, rfl⟩
    · have HCL := Lib.hid (fun W (hW : Below w.heap.size w W) => HOB.out W hW ta (hk1 rfl))
      rw [show val ρ (nd 1 ta []) = ρ ta from by rw [val, if_pos rfl]]
      clear HV HOB HO hk1
      go_enter Tryz.func77, Tryz.ntmps77
      go_wp2_with (go_at_fn g; refine (HCL.out _ (by (repeat' (first | (with_reducible first | exact Below.refl _ _ | exact Nat.le_refl _ | refine Below.bel ?_ ?_ | refine Below.alloc ?_ ?_ _ | refine Below.drew ?_ | refine Below.drawsN ?_ _ | refine Below.setCell ?_ ?_ _ | refine le_bel ?_ | refine le_alloc ?_ | refine le_setCell ?_ | refine le_drew ?_ | refine le_drawsN ?_) | (dsimp only; with_reducible first | refine le_bel ?_ | refine Nat.le_refl _ | refine le_bel_add ?_) | (with_reducible assumption) | omega | (dsimp only; omega))))).mono ?_; rintro _ _ ⟨rfl, y, rfl⟩)
      go_ret
      exact Ret.mk (by rfl) (by (repeat' (first | (with_reducible first | exact Below.refl _ _ | exact Nat.le_refl _ | refine Below.bel ?_ ?_ | refine Below.alloc ?_ ?_ _ | refine Below.drew ?_ | refine Below.drawsN ?_ _ | refine Below.setCell ?_ ?_ _ | refine le_bel ?_ | refine le_alloc ?_ | refine le_setCell ?_ | refine le_drew ?_ | refine le_drawsN ?_) | (dsimp only; with_reducible first | refine le_bel ?_ | refine Nat.le_refl _ | refine le_bel_add ?_) | (with_reducible assumption) | omega | (dsimp only; omega))))
    · rw [show val ρ (nd 2 0 [t]) = !val ρ t from by rw [val, if_neg (by decide), if_pos rfl]; rfl]
      have HT := Lib.hid (HV t (List.mem_singleton_self t) w (Below.refl _ _))
      clear HV HOB HO hk1
      obtain ⟨bb, off, rfl, hp, hcs⟩ := insF_at hlt (by simp)
      obtain ⟨c0, c1, ad', cap', c2, hiu⟩ := cellF_open (hcs 0 t rfl)
      rw [Nat.zero_mul, Nat.add_zero] at c0 c1 c2
      have HI := Lib.hid hiu
      clear hcs hlt hiu
      simp only [List.length_singleton]
      go_enter Tryz.func77, Tryz.ntmps77
      go_wp2_with fail
      refine wp_region_bel (by kernel_rfl) (by kernel_rfl) ?_
      repeat (go_big_quiet_step ((go_at_call 77; exact bel_of (HT.out _ _ _ (by (repeat' (first | (with_reducible first | exact Below.refl _ _ | exact Nat.le_refl _ | refine Below.bel ?_ ?_ | refine Below.alloc ?_ ?_ _ | refine Below.drew ?_ | refine Below.drawsN ?_ _ | refine Below.setCell ?_ ?_ _ | refine le_bel ?_ | refine le_alloc ?_ | refine le_setCell ?_ | refine le_drew ?_ | refine le_drawsN ?_) | (dsimp only; with_reducible first | refine le_bel ?_ | refine Nat.le_refl _ | refine le_bel_add ?_) | (with_reducible assumption) | omega | (dsimp only; omega)))) (HI.out.of (by (repeat' (first | (with_reducible first | exact Below.refl _ _ | exact Nat.le_refl _ | refine Below.bel ?_ ?_ | refine Below.alloc ?_ ?_ _ | refine Below.drew ?_ | refine Below.drawsN ?_ _ | refine Below.setCell ?_ ?_ _ | refine le_bel ?_ | refine le_alloc ?_ | refine le_setCell ?_ | refine le_drew ?_ | refine le_drawsN ?_) | (dsimp only; with_reducible first | refine le_bel ?_ | refine Nat.le_refl _ | refine le_bel_add ?_) | (with_reducible assumption) | omega | (dsimp only; omega)))))))))
      refine wpQuiet_nil ?_
      rintro _ ⟨x, rfl⟩
      go_wp2
      go_ret
      exact Ret.mk (by rfl) (by (repeat' (first | (with_reducible first | exact Below.refl _ _ | exact Nat.le_refl _ | refine Below.bel ?_ ?_ | refine Below.alloc ?_ ?_ _ | refine Below.drew ?_ | refine Below.drawsN ?_ _ | refine Below.setCell ?_ ?_ _ | refine le_bel ?_ | refine le_alloc ?_ | refine le_setCell ?_ | refine le_drew ?_ | refine le_drawsN ?_) | (dsimp only; with_reducible first | refine le_bel ?_ | refine Nat.le_refl _ | refine le_bel_add ?_) | (with_reducible assumption) | omega | (dsimp only; omega))))
    · -- a join
      have HI := Lib.hid hlt
      have HVV := Lib.hid HV
      clear HV hlt HOB HO hk1
      rcases hk with rfl | rfl
      · rw [show val ρ (nd 3 0 tl) = !tl.any (fun u => !val ρ u) from by rw [val, if_neg (by decide), if_neg (by decide), if_pos rfl, valA_any]]
        obtain ⟨w2, hw2⟩ : ∃ w2, (w.alloc (.cells #[.int .i64 3, .int .i64 0, .slice ad tl.length cap] 26)).alloc (.cells #[.func (.func g) #[] lb] 118) = w2 := ⟨_, rfl⟩
        have hb2 : Below w.heap.size w w2 := by rw [← hw2]; (repeat' (first | (with_reducible first | exact Below.refl _ _ | exact Nat.le_refl _ | refine Below.bel ?_ ?_ | refine Below.alloc ?_ ?_ _ | refine Below.drew ?_ | refine Below.drawsN ?_ _ | refine Below.setCell ?_ ?_ _ | refine le_bel ?_ | refine le_alloc ?_ | refine le_setCell ?_ | refine le_drew ?_ | refine le_drawsN ?_) | (dsimp only; with_reducible first | refine le_bel ?_ | refine Nat.le_refl _ | refine le_bel_add ?_) | (with_reducible assumption) | omega | (dsimp only; omega)))
        have hbo : w2.heap[w.heap.size + 1]? = some (.cells #[.func (.func g) #[] lb] 118 (0, 0)) := by
          rw [← hw2]
          have := World.alloc_heap_new (w.alloc (.cells #[.int .i64 3, .int .i64 0, .slice ad tl.length cap] 26)) (.cells #[.func (.func g) #[] lb] 118)
          simpa using this
        have HCN := Lib.hid (contains_any 105 #[.pointer (some ⟨w.heap.size + 1, 0, none⟩)] eg1 (fun u => (!val ρ u)) tl _ ad cap w2 (HI.out.of hb2) hlen (closure1 g lb ρ tl w2 (w.heap.size + 1) hbo fun u hu => HVV.out u hu w2 hb2))
        rw [← hw2] at HCN
        clear hw2 hb2 hbo
        go_enter Tryz.func77, Tryz.ntmps77
        go_wp2_with fail
        refine HCN.out.mono ?_
        rintro _ _ ⟨rfl, y, rfl⟩
        dsimp only
        go_wp2
        go_ret
        exact Ret.mk (by rfl) (by (repeat' (first | (with_reducible first | exact Below.refl _ _ | exact Nat.le_refl _ | refine Below.bel ?_ ?_ | refine Below.alloc ?_ ?_ _ | refine Below.drew ?_ | refine Below.drawsN ?_ _ | refine Below.setCell ?_ ?_ _ | refine le_bel ?_ | refine le_alloc ?_ | refine le_setCell ?_ | refine le_drew ?_ | refine le_drawsN ?_) | (dsimp only; with_reducible first | refine le_bel ?_ | refine Nat.le_refl _ | refine le_bel_add ?_) | (with_reducible assumption) | omega | (dsimp only; omega))))
      · rw [show val ρ (nd 4 0 tl) = tl.any (fun u => val ρ u) from by rw [val, if_neg (by decide), if_neg (by decide), if_neg (by decide), if_pos rfl, valO_any]]
        obtain ⟨w2, hw2⟩ : ∃ w2, (w.alloc (.cells #[.int .i64 4, .int .i64 0, .slice ad tl.length cap] 26)).alloc (.cells #[.func (.func g) #[] lb] 118) = w2 := ⟨_, rfl⟩
        have hb2 : Below w.heap.size w w2 := by rw [← hw2]; (repeat' (first | (with_reducible first | exact Below.refl _ _ | exact Nat.le_refl _ | refine Below.bel ?_ ?_ | refine Below.alloc ?_ ?_ _ | refine Below.drew ?_ | refine Below.drawsN ?_ _ | refine Below.setCell ?_ ?_ _ | refine le_bel ?_ | refine le_alloc ?_ | refine le_setCell ?_ | refine le_drew ?_ | refine le_drawsN ?_) | (dsimp only; with_reducible first | refine le_bel ?_ | refine Nat.le_refl _ | refine le_bel_add ?_) | (with_reducible assumption) | omega | (dsimp only; omega)))
        have hbo : w2.heap[w.heap.size + 1]? = some (.cells #[.func (.func g) #[] lb] 118 (0, 0)) := by
          rw [← hw2]
          have := World.alloc_heap_new (w.alloc (.cells #[.int .i64 4, .int .i64 0, .slice ad tl.length cap] 26)) (.cells #[.func (.func g) #[] lb] 118)
          simpa using this
        have HCN := Lib.hid (contains_any 106 #[.pointer (some ⟨w.heap.size + 1, 0, none⟩)] eg2 (fun u => (val ρ u)) tl _ ad cap w2 (HI.out.of hb2) hlen (closure2 g lb ρ tl w2 (w.heap.size + 1) hbo fun u hu => HVV.out u hu w2 hb2))
        rw [← hw2] at HCN
        clear hw2 hb2 hbo
        go_enter Tryz.func77, Tryz.ntmps77
        go_wp2_with fail
        refine HCN.out.mono ?_
        rintro _ _ ⟨rfl, y, rfl⟩
        dsimp only
        go_wp2
        go_ret
        exact Ret.mk (by rfl) (by (repeat' (first | (with_reducible first | exact Below.refl _ _ | exact Nat.le_refl _ | refine Below.bel ?_ ?_ | refine Below.alloc ?_ ?_ _ | refine Below.drew ?_ | refine Below.drawsN ?_ _ | refine Below.setCell ?_ ?_ _ | refine le_bel ?_ | refine le_alloc ?_ | refine le_setCell ?_ | refine le_drew ?_ | refine le_drawsN ?_) | (dsimp only; with_reducible first | refine le_bel ?_ | refine Nat.le_refl _ | refine le_bel_add ?_) | (with_reducible assumption) | omega | (dsimp only; omega))))
    · clear HV HOB HO hk1
      rcases hk with rfl | rfl
      · rw [show val ρ (nd 5 0 []) = false from rfl]
        go_enter Tryz.func77, Tryz.ntmps77
        go_wp2
        go_ret
        exact Ret.mk (by rfl) (by (repeat' (first | (with_reducible first | exact Below.refl _ _ | exact Nat.le_refl _ | refine Below.bel ?_ ?_ | refine Below.alloc ?_ ?_ _ | refine Below.drew ?_ | refine Below.drawsN ?_ _ | refine Below.setCell ?_ ?_ _ | refine le_bel ?_ | refine le_alloc ?_ | refine le_setCell ?_ | refine le_drew ?_ | refine le_drawsN ?_) | (dsimp only; with_reducible first | refine le_bel ?_ | refine Nat.le_refl _ | refine le_bel_add ?_) | (with_reducible assumption) | omega | (dsimp only; omega))))
      · rw [show val ρ (nd 6 0 []) = true from rfl]
        go_enter Tryz.func77, Tryz.ntmps77
        go_wp2
        go_ret
        exact Ret.mk (by rfl) (by (repeat' (first | (with_reducible first | exact Below.refl _ _ | exact Nat.le_refl _ | refine Below.bel ?_ ?_ | refine Below.alloc ?_ ?_ _ | refine Below.drew ?_ | refine Below.drawsN ?_ _ | refine Below.setCell ?_ ?_ _ | refine le_bel ?_ | refine le_alloc ?_ | refine le_setCell ?_ | refine le_drew ?_ | refine le_drawsN ?_) | (dsimp only; with_reducible first | refine le_bel ?_ | refine Nat.le_refl _ | refine le_bel_add ?_) | (with_reducible assumption) | omega | (dsimp only; omega))))
end Go.Proofs.YtkdmhjlcgpnjpaaGreatDoor

namespace Go.Proofs.YtkdmhjlcgpnjpaaGreatDoor
set_option linter.unusedVariables false
set_option linter.unusedSimpArgs false
open Go.RowKit F
attribute [local go_sem low] Bel.cell Bel.frozen alloc_cell alloc_frozen

mutual
theorem pre_okT : ∀ t : F, okT t → ∀ u ∈ pre t, okT u
  | nd k a l, h, u, hu => by
    rw [pre] at hu
    rcases List.mem_cons.1 hu with rfl | hu
    · exact h
    · exact preL_okT l h.2 u hu
theorem preL_okT : ∀ l : List F, okL l → ∀ u ∈ preL l, okT u
  | [], _, u, hu => by rw [preL] at hu; cases hu
  | t :: r, h, u, hu => by
    rw [preL] at hu
    rcases List.mem_append.1 hu with hu | hu
    · exact pre_okT t h.1 u hu
    · exact preL_okT r h.2 u hu
end
end Go.Proofs.YtkdmhjlcgpnjpaaGreatDoor
