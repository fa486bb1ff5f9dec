/- The reference: Occurs and Value; Support (Support_ok); bits of a list of booleans. -/
import Derived.Test.YtkbellmhanpocaaDoorFt
import Derived.Test.YtkbellmhanpocaaDoorG10
import Derived.Test.YtkbellmhanpocaaDoorS2
import Derived.Test.YtkbellmhanpocaaDoorFm
namespace Go.Proofs.YtkbellmhanpocaaDoor
set_option linter.unusedVariables false
set_option linter.unusedSimpArgs false
open F

/-- How many of a list are less. -/
def cntL (l : List Int) (x : Int) : Nat := (l.filter (fun y => decide (y < x))).length
theorem cntL_at {x : Int} : ∀ {l : List Int}, l.Pairwise (· < ·) → x ∈ l → l[cntL l x]? = some x
  | [], _, h => by cases h
  | a :: r, hp, h => by
    obtain ⟨h1, h2⟩ := List.pairwise_cons.1 hp
    by_cases e : a = x
    · subst e
      have h0 : r.filter (fun y => decide (y < a)) = [] := List.filter_eq_nil_iff.2 fun y hy => by have := h1 y hy; simp; omega
      unfold cntL
      rw [List.filter_cons, if_neg (by simp), h0]
      rfl
    · have hx : x ∈ r := by
        rcases List.mem_cons.1 h with h | h
        · exact absurd h.symm e
        · exact h
      have hlt := h1 x hx
      have ih := cntL_at h2 hx
      unfold cntL at ih ⊢
      rw [List.filter_cons, if_pos (by simpa using hlt), List.length_cons, List.getElem?_cons_succ]
      exact ih
theorem cntL_succ {x : Int} : ∀ {l : List Int}, l.Pairwise (· < ·) → cntL l (x + 1) = cntL l x + (if x ∈ l then 1 else 0)
  | [], _ => by simp [cntL]
  | a :: r, hp => by
    obtain ⟨h1, h2⟩ := List.pairwise_cons.1 hp
    have ih := cntL_succ (x := x) h2
    unfold cntL at ih ⊢
    rw [List.filter_cons, List.filter_cons]
    by_cases h : a < x
    · rw [if_pos (by simp; omega), if_pos (by simpa using h), List.length_cons, List.length_cons, ih]
      have : (x ∈ a :: r) ↔ x ∈ r := by rw [List.mem_cons]; constructor <;> intro hh
                                        · rcases hh with hh | hh
                                          · omega
                                          · exact hh
                                        · exact .inr hh
      simp only [this]
      omega
    · by_cases e : a = x
      · subst e
        have hn : a ∉ r := fun hh => by have := h1 a hh; omega
        rw [if_pos (by simp; omega), if_neg (by simp), List.length_cons, ih, if_neg hn, if_pos (List.mem_cons_self ..)]
      · have hn : x ∉ a :: r := fun hh => by
          rcases List.mem_cons.1 hh with hh | hh
          · exact e hh.symm
          · have := h1 x hh; omega
        have hn2 : x ∉ r := fun hh => hn (List.mem_cons_of_mem _ hh)
        rw [if_neg (by simp; omega), if_neg (by simpa using h), ih, if_neg hn, if_neg hn2]
theorem cntL_all {l : List Int} {m : Int} (h : ∀ x ∈ l, x < m) : cntL l m = l.length := by
  unfold cntL
  rw [List.filter_eq_self.2 (fun x hx => by simpa using h x hx)]
theorem cntL_zero {l : List Int} (h : ∀ x ∈ l, 0 ≤ x) : cntL l 0 = 0 := by
  unfold cntL
  rw [List.filter_eq_nil_iff.2 (fun x hx => by have := h x hx; simp; omega)]
  rfl
/-- The word whose bits are the first k values. -/
def bitsK (bl : List Bool) : Nat → Nat
  | 0 => 0
  | k + 1 => if bl.getD k false then bitsK bl k ||| 2 ^ k else bitsK bl k
theorem bitsK_lt (bl : List Bool) : ∀ k, bitsK bl k < 2 ^ k
  | 0 => by simp [bitsK]
  | k + 1 => by
    have := bitsK_lt bl k
    have h2 : 2 ^ k < 2 ^ (k + 1) := by rw [Nat.pow_succ]; have := Nat.two_pow_pos k; omega
    rw [bitsK]
    split
    · exact Nat.or_lt_two_pow (by omega) h2
    · omega
theorem bitsK_test (bl : List Bool) : ∀ k j, (bitsK bl k).testBit j = (decide (j < k) && bl.getD j false)
  | 0, j => by simp [bitsK]
  | k + 1, j => by
    have ih := bitsK_test bl k j
    rw [bitsK]
    split
    · rename_i h
      rw [Nat.testBit_or, ih, Nat.testBit_two_pow]
      by_cases e : k = j
      · subst e; rw [h]; simp
      · by_cases h1 : j < k
        · simp [h1, e, show j < k + 1 by omega]
        · simp [h1, e, show ¬ j < k + 1 by omega]
    · rename_i h
      rw [ih]
      by_cases e : j = k
      · subst e; simp at h; simp [h]
      · by_cases h1 : j < k
        · simp [h1, show j < k + 1 by omega]
        · simp [h1, show ¬ j < k + 1 by omega]
end Go.Proofs.YtkbellmhanpocaaDoor

namespace Go.Proofs.YtkbellmhanpocaaDoor
set_option linter.unusedVariables false
set_option linter.unusedSimpArgs false
open Go.RowKit F
attribute [local go_sem low] Bel.cell Bel.frozen alloc_cell alloc_frozen

theorem occL_take (x : Int) (l : List F) (k : Nat) (u : F) (h : l[k]? = some u) : occL x (l.take (k + 1)) = (occL x (l.take k) || occ x u) := by
  have : ∀ l m : List F, occL x (l ++ m) = (occL x l || occL x m) := fun l m => by
    induction l with
    | nil => simp [occL]
    | cons t r ih => rw [List.cons_append, occL, occL, ih, Bool.or_assoc]
  rw [List.take_add_one, h, this]
  simp [occL]
theorem occL_memT {x : Int} {u : F} (h : occ x u = true) : ∀ {l : List F}, u ∈ l → occL x l = true
  | [], hm => by cases hm
  | t :: r, hm => by
    rw [occL]
    rcases List.mem_cons.1 hm with rfl | hm
    · rw [h]; rfl
    · rw [occL_memT h hm, Bool.or_true]
set_option maxRecDepth 100000 in
set_option maxHeartbeats 6400000 in
theorem refOccurs_any (x : Int) : ∀ (N : Nat) (t : F), nodes t ≤ N → ∀ (P : Nat → Prop) (ad : Option Addr) (cap : Nat) (w : World), InsF P w ad t.l → nodes t ≤ 100000000 →
    Calls Tryd.prog 26 #[.agg #[.int .i64 t.k, .int .i64 t.a, .slice ad t.l.length cap], .int .i64 x] w (Ret (.bool (occ x t)) w) := by
  intro N
  induction N with
  | zero => intro t h; have := nodes_pos t; omega
  | succ N ih =>
    intro t hN P ad cap w hi hbig
    have HNL := Lib.hid (show nodesL t.l ≤ N by rw [nodes_l] at hN; omega)
    have HBIG := Lib.hid (show nodesL t.l ≤ 100000000 by rw [nodes_l] at hbig; omega)
    have hlen : t.l.length ≤ 100000000 := Nat.le_trans (length_nodesL t.l) HBIG.out
    have hlt : InsF (fun c => c < w.heap.size) w ad t.l := hi.imp fun b hb _ => hb
    clear hi hN hbig
    obtain ⟨tk, ta, tl⟩ := t
    simp only [F.k, F.a, F.l] at HNL HBIG hlen hlt ⊢
    by_cases h1 : tk = 1
    · subst h1
      rw [show occ x (nd 1 ta tl) = (ta == x) from by rw [occ, if_pos rfl]; rfl]
      go_enter Tryd.func26, Tryd.ntmps26
      go_wp2
      go_ret
      exact Ret.mk (by rfl) (by (repeat' (first | (with_reducible exact Below.refl _ _) | (with_reducible exact Nat.le_refl _) | (with_reducible refine Below.bel ?_ ?_) | (with_reducible refine Below.alloc ?_ ?_ _) | (with_reducible refine Below.drew ?_) | (with_reducible refine Below.drawsN ?_ _) | (with_reducible refine Below.setCell ?_ ?_ _) | (with_reducible refine le_bel ?_) | (with_reducible refine le_alloc ?_) | (with_reducible refine le_setCell ?_) | (with_reducible refine le_drew ?_) | (with_reducible refine le_drawsN ?_) | (dsimp only; with_reducible refine le_bel ?_) | (dsimp only; with_reducible refine Nat.le_refl _) | (dsimp only; with_reducible refine le_bel_add ?_) | (with_reducible assumption) | omega | (dsimp only; omega))))
    · have f1 : (tk == 1) = false := beq_eq_false_iff_ne.2 h1
      rw [show occ x (nd tk ta tl) = occL x tl from by rw [occ, if_neg h1]]
      have HC := Lib.hid (fun u (hu : u ∈ tl) ad' cap' w' (hiu : InsF (fun c => c < w.heap.size) w' ad' u.l) => ih u (Nat.le_trans (nodesL_mem hu) HNL.out) _ ad' cap' w' hiu (Nat.le_trans (nodesL_mem hu) HBIG.out))
      clear h1
      go_enter Tryd.func26, Tryd.ntmps26
      go_wp2
      go_loopw [5] (fun i wr => ∃ k : Nat, i = .int .i64 (k : Int) ∧ k ≤ tl.length ∧ occL x (tl.take k) = false ∧ wr.heap[w.heap.size]? = some (.cells #[.int .i64 tk, .int .i64 ta, .slice ad tl.length cap] 36 (0, 0)) ∧ Below w.heap.size w wr) (fun i _ => tl.length - (intOf i).toNat)
      case atStart => exact ⟨0, rfl, by omega, rfl, World.alloc_heap_new _ _, by (repeat' (first | (with_reducible exact Below.refl _ _) | (with_reducible exact Nat.le_refl _) | (with_reducible refine Below.bel ?_ ?_) | (with_reducible refine Below.alloc ?_ ?_ _) | (with_reducible refine Below.drew ?_) | (with_reducible refine Below.drawsN ?_ _) | (with_reducible refine Below.setCell ?_ ?_ _) | (with_reducible refine le_bel ?_) | (with_reducible refine le_alloc ?_) | (with_reducible refine le_setCell ?_) | (with_reducible refine le_drew ?_) | (with_reducible refine le_drawsN ?_) | (dsimp only; with_reducible refine le_bel ?_) | (dsimp only; with_reducible refine Nat.le_refl _) | (dsimp only; with_reducible refine le_bel_add ?_) | (with_reducible assumption) | omega | (dsimp only; omega)))⟩
      case round =>
        obtain ⟨k, rfl, hk, hno, hfb, hb⟩ := hrel
        have hiW := below_move hlt (fun _ h => h) hb
        obtain ⟨b0, b1, b2⟩ := box3 hfb
        have HFB := Lib.hid hfb
        have HNO := Lib.hid hno
        have hbs := hb.size
        clear hno
        rcases Nat.lt_or_ge k tl.length with hkl | hkl
        · obtain ⟨u, hu⟩ := some_at hkl
          obtain ⟨bb, off, hadd, hp, hcs⟩ := insF_at hiW (by omega)
          cases hadd
          obtain ⟨c0, c1, ad', cap', c2, hiu⟩ := cellF_open (hcs k u hu)
          have f0 : decide ((k : Int) < (tl.length : Int)) = true := decide_eq_true (by omega)
          have hib : (0 ≤ (k : Int) ∧ (k : Int) < (tl.length : Int)) := ⟨by omega, by omega⟩
          have HCC := Lib.hid (HC.out u (List.mem_of_getElem? hu) ad' cap')
          have HI := Lib.hid hiu
          have HU := Lib.hid hu
          clear hcs hiW hiu hu hp
          go_wp2_with fail
          refine (HCC.out _ (HI.out.of (by (repeat' (first | (with_reducible exact Below.refl _ _) | (with_reducible exact Nat.le_refl _) | (with_reducible refine Below.bel ?_ ?_) | (with_reducible refine Below.alloc ?_ ?_ _) | (with_reducible refine Below.drew ?_) | (with_reducible refine Below.drawsN ?_ _) | (with_reducible refine Below.setCell ?_ ?_ _) | (with_reducible refine le_bel ?_) | (with_reducible refine le_alloc ?_) | (with_reducible refine le_setCell ?_) | (with_reducible refine le_drew ?_) | (with_reducible refine le_drawsN ?_) | (dsimp only; with_reducible refine le_bel ?_) | (dsimp only; with_reducible refine Nat.le_refl _) | (dsimp only; with_reducible refine le_bel_add ?_) | (with_reducible assumption) | omega | (dsimp only; omega)))))).mono ?_
          rintro _ _ ⟨rfl, y, rfl⟩
          have hys := y.size_le
          dsimp only
          cases ho : occ x u
          · have HO := Lib.hid ho
            have HF2 := Lib.hid (obj_bel y HFB.out)
            clear ho
            go_wp2
            go_roundw
            case rel => exact ⟨k + 1, by go_num, by omega, by rw [occL_take x tl k u HU.out, HNO.out, HO.out]; rfl, HF2.out, hb.trans (y.below.mono hbs)⟩
            case measure => simp [intOf]; omega
          · have HO := Lib.hid (occL_memT ho (List.mem_of_getElem? HU.out))
            clear ho
            go_wp2
            go_ret
            exact Ret.mk (by (rw [HO.out]; rfl)) (by (repeat' (first | (with_reducible exact Below.refl _ _) | (with_reducible exact Nat.le_refl _) | (with_reducible refine Below.bel ?_ ?_) | (with_reducible refine Below.alloc ?_ ?_ _) | (with_reducible refine Below.drew ?_) | (with_reducible refine Below.drawsN ?_ _) | (with_reducible refine Below.setCell ?_ ?_ _) | (with_reducible refine le_bel ?_) | (with_reducible refine le_alloc ?_) | (with_reducible refine le_setCell ?_) | (with_reducible refine le_drew ?_) | (with_reducible refine le_drawsN ?_) | (dsimp only; with_reducible refine le_bel ?_) | (dsimp only; with_reducible refine Nat.le_refl _) | (dsimp only; with_reducible refine le_bel_add ?_) | (with_reducible assumption) | omega | (dsimp only; omega))))
        · have hke : k = tl.length := by omega
          subst hke
          have f0 : decide ((tl.length : Int) < (tl.length : Int)) = false := decide_eq_false (by omega)
          clear hiW
          go_wp2
          go_ret
          exact Ret.mk (by (have := HNO.out; rw [List.take_length] at this; rw [this]; rfl)) (by (repeat' (first | (with_reducible exact Below.refl _ _) | (with_reducible exact Nat.le_refl _) | (with_reducible refine Below.bel ?_ ?_) | (with_reducible refine Below.alloc ?_ ?_ _) | (with_reducible refine Below.drew ?_) | (with_reducible refine Below.drawsN ?_ _) | (with_reducible refine Below.setCell ?_ ?_ _) | (with_reducible refine le_bel ?_) | (with_reducible refine le_alloc ?_) | (with_reducible refine le_setCell ?_) | (with_reducible refine le_drew ?_) | (with_reducible refine le_drawsN ?_) | (dsimp only; with_reducible refine le_bel ?_) | (dsimp only; with_reducible refine Nat.le_refl _) | (dsimp only; with_reducible refine le_bel_add ?_) | (with_reducible assumption) | omega | (dsimp only; omega))))
/-- The values of variables that a word's bits give. -/
def envB (bits : Nat) (a : Int) : Bool := decide (a < 64) && bits.testBit a.toNat
theorem testBit_and1 (x n : Nat) (h : x < 18446744073709551616) : (bits .and .u64 ((x : Int) / 2 ^ n) 1 == 1) = x.testBit n := by
  have e : (x : Int) / 2 ^ n = ((x / 2 ^ n : Nat) : Int) := by simp
  have := u64_and_nat (x / 2 ^ n) 1 (Nat.lt_of_le_of_lt (Nat.div_le_self _ _) h) (by omega)
  rw [e, show (1 : Int) = ((1 : Nat) : Int) from rfl, this, Nat.testBit_eq_decide_div_mod_eq, Nat.and_one_is_mod, Bool.eq_iff_iff]
  simp only [beq_iff_eq, decide_eq_true_iff]
  omega
theorem valA_false {ρ : Int → Bool} {l : List F} {u : F} (h : u ∈ l) (hv : val ρ u = false) : valA ρ l = false := by
  cases hc : valA ρ l
  · rfl
  · rw [(valA_iff ρ l).1 hc u h] at hv; cases hv
theorem valO_true {ρ : Int → Bool} {l : List F} {u : F} (h : u ∈ l) (hv : val ρ u = true) : valO ρ l = true := (valO_iff ρ l).2 ⟨u, h, hv⟩
theorem valA_take (ρ : Int → Bool) (l : List F) (k : Nat) (u : F) (h : l[k]? = some u) : valA ρ (l.take (k + 1)) = (valA ρ (l.take k) && val ρ u) := by
  rw [List.take_add_one, h, valA_app]
  simp [valA]
theorem valO_take (ρ : Int → Bool) (l : List F) (k : Nat) (u : F) (h : l[k]? = some u) : valO ρ (l.take (k + 1)) = (valO ρ (l.take k) || val ρ u) := by
  rw [List.take_add_one, h, valO_app]
  simp [valO]
set_option maxRecDepth 100000 in
set_option maxHeartbeats 6400000 in
theorem refValue_any (bt : Nat) (hbt : bt < 18446744073709551616) : ∀ (N : Nat) (t : F), nodes t ≤ N → okT t → ∀ (P : Nat → Prop) (ad : Option Addr) (cap : Nat) (w : World), InsF P w ad t.l → nodes t ≤ 100000000 →
    Calls Tryd.prog 27 #[.agg #[.int .i64 t.k, .int .i64 t.a, .slice ad t.l.length cap], .int .u64 (bt : Int)] w (Ret (.bool (val (envB bt) t)) w) := by
  intro N
  induction N with
  | zero => intro t h; have := nodes_pos t; omega
  | succ N ih =>
    intro t hN hok P ad cap w hi hbig
    have HNL := Lib.hid (show nodesL t.l ≤ N by rw [nodes_l] at hN; omega)
    have HBIG := Lib.hid (show nodesL t.l ≤ 100000000 by rw [nodes_l] at hbig; omega)
    have hlen : t.l.length ≤ 100000000 := Nat.le_trans (length_nodesL t.l) HBIG.out
    have hlt : InsF (fun c => c < w.heap.size) w ad t.l := hi.imp fun b hb _ => hb
    have HOKL := Lib.hid (okT_l hok)
    clear hi hN hbig
    obtain ⟨tk, ta, tl⟩ := t
    simp only [F.k, F.a, F.l] at HNL HBIG hlen hlt HOKL ⊢
    have HC := Lib.hid (fun u (hu : u ∈ tl) ad' cap' w' (hiu : InsF (fun c => c < w.heap.size) w' ad' u.l) => ih u (Nat.le_trans (nodesL_mem hu) HNL.out) (okL_mem HOKL.out hu) _ ad' cap' w' hiu (Nat.le_trans (nodesL_mem hu) HBIG.out))
    rcases single_cases hok.1 with ⟨rfl, h1, h2, rfl⟩ | ⟨rfl, rfl, t, rfl⟩ | ⟨hk, rfl, hl⟩ | ⟨hk, rfl, rfl⟩
    · rw [show val (envB bt) (nd 1 ta []) = envB bt ta from by rw [val, if_pos rfl]]
      obtain ⟨A, rfl⟩ := Int.eq_ofNat_of_zero_le h1
      clear HC
      by_cases h64 : A < 64
      · have e : decide ((A : Int) < 64) = true := decide_eq_true (by omega)
        have H := Lib.hid (testBit_and1 bt A hbt)
        go_enter Tryd.func27, Tryd.ntmps27
        go_wp2
        go_ret
        exact Ret.mk (by (rw [envB, e, Bool.true_and, Int.toNat_natCast, ← H.out]; rfl)) (by (repeat' (first | (with_reducible exact Below.refl _ _) | (with_reducible exact Nat.le_refl _) | (with_reducible refine Below.bel ?_ ?_) | (with_reducible refine Below.alloc ?_ ?_ _) | (with_reducible refine Below.drew ?_) | (with_reducible refine Below.drawsN ?_ _) | (with_reducible refine Below.setCell ?_ ?_ _) | (with_reducible refine le_bel ?_) | (with_reducible refine le_alloc ?_) | (with_reducible refine le_setCell ?_) | (with_reducible refine le_drew ?_) | (with_reducible refine le_drawsN ?_) | (dsimp only; with_reducible refine le_bel ?_) | (dsimp only; with_reducible refine Nat.le_refl _) | (dsimp only; with_reducible refine le_bel_add ?_) | (with_reducible assumption) | omega | (dsimp only; omega))))
      · have e : decide ((A : Int) < 64) = false := decide_eq_false (by omega)
        go_enter Tryd.func27, Tryd.ntmps27
        go_wp2
        go_ret
        exact Ret.mk (by (rw [envB, e, Bool.false_and]; rfl)) (by (repeat' (first | (with_reducible exact Below.refl _ _) | (with_reducible exact Nat.le_refl _) | (with_reducible refine Below.bel ?_ ?_) | (with_reducible refine Below.alloc ?_ ?_ _) | (with_reducible refine Below.drew ?_) | (with_reducible refine Below.drawsN ?_ _) | (with_reducible refine Below.setCell ?_ ?_ _) | (with_reducible refine le_bel ?_) | (with_reducible refine le_alloc ?_) | (with_reducible refine le_setCell ?_) | (with_reducible refine le_drew ?_) | (with_reducible refine le_drawsN ?_) | (dsimp only; with_reducible refine le_bel ?_) | (dsimp only; with_reducible refine Nat.le_refl _) | (dsimp only; with_reducible refine le_bel_add ?_) | (with_reducible assumption) | omega | (dsimp only; omega))))
    · rw [show val (envB bt) (nd 2 0 [t]) = !val (envB bt) t from by rw [val, if_neg (by decide), if_pos rfl]; rfl]
      obtain ⟨bb, off, hadd, hp, hcs⟩ := insF_at hlt (by simp)
      subst hadd
      obtain ⟨c0, c1, ad', cap', c2, hit⟩ := cellF_open (hcs 0 t rfl)
      rw [Nat.zero_mul, Nat.add_zero] at c0 c1 c2
      have HCC := Lib.hid (HC.out t (List.mem_singleton_self t) ad' cap')
      have HI := Lib.hid hit
      clear hcs hlt hit hp HC
      simp only [List.length_singleton]
      go_enter Tryd.func27, Tryd.ntmps27
      go_wp2_with fail
      refine (HCC.out _ (HI.out.of (by (repeat' (first | (with_reducible exact Below.refl _ _) | (with_reducible exact Nat.le_refl _) | (with_reducible refine Below.bel ?_ ?_) | (with_reducible refine Below.alloc ?_ ?_ _) | (with_reducible refine Below.drew ?_) | (with_reducible refine Below.drawsN ?_ _) | (with_reducible refine Below.setCell ?_ ?_ _) | (with_reducible refine le_bel ?_) | (with_reducible refine le_alloc ?_) | (with_reducible refine le_setCell ?_) | (with_reducible refine le_drew ?_) | (with_reducible refine le_drawsN ?_) | (dsimp only; with_reducible refine le_bel ?_) | (dsimp only; with_reducible refine Nat.le_refl _) | (dsimp only; with_reducible refine le_bel_add ?_) | (with_reducible assumption) | omega | (dsimp only; omega)))))).mono ?_
      rintro _ _ ⟨rfl, y, rfl⟩
      dsimp only
      go_wp2
      go_ret
      exact Ret.mk (by rfl) (by (repeat' (first | (with_reducible exact Below.refl _ _) | (with_reducible exact Nat.le_refl _) | (with_reducible refine Below.bel ?_ ?_) | (with_reducible refine Below.alloc ?_ ?_ _) | (with_reducible refine Below.drew ?_) | (with_reducible refine Below.drawsN ?_ _) | (with_reducible refine Below.setCell ?_ ?_ _) | (with_reducible refine le_bel ?_) | (with_reducible refine le_alloc ?_) | (with_reducible refine le_setCell ?_) | (with_reducible refine le_drew ?_) | (with_reducible refine le_drawsN ?_) | (dsimp only; with_reducible refine le_bel ?_) | (dsimp only; with_reducible refine Nat.le_refl _) | (dsimp only; with_reducible refine le_bel_add ?_) | (with_reducible assumption) | omega | (dsimp only; omega))))
    · -- a join
      rcases hk with rfl | rfl
      · rw [show val (envB bt) (nd 3 0 tl) = valA (envB bt) tl from by rw [val, if_neg (by decide), if_neg (by decide), if_pos rfl]]
        go_enter Tryd.func27, Tryd.ntmps27
        go_wp2
        go_loopw [5] (fun i wr => ∃ k : Nat, i = .int .i64 (k : Int) ∧ k ≤ tl.length ∧ valA (envB bt) (tl.take k) = true ∧ wr.heap[w.heap.size]? = some (.cells #[.int .i64 3, .int .i64 0, .slice ad tl.length cap] 36 (0, 0)) ∧ Below w.heap.size w wr) (fun i _ => tl.length - (intOf i).toNat)
        case atStart => exact ⟨0, rfl, by omega, rfl, World.alloc_heap_new _ _, by (repeat' (first | (with_reducible exact Below.refl _ _) | (with_reducible exact Nat.le_refl _) | (with_reducible refine Below.bel ?_ ?_) | (with_reducible refine Below.alloc ?_ ?_ _) | (with_reducible refine Below.drew ?_) | (with_reducible refine Below.drawsN ?_ _) | (with_reducible refine Below.setCell ?_ ?_ _) | (with_reducible refine le_bel ?_) | (with_reducible refine le_alloc ?_) | (with_reducible refine le_setCell ?_) | (with_reducible refine le_drew ?_) | (with_reducible refine le_drawsN ?_) | (dsimp only; with_reducible refine le_bel ?_) | (dsimp only; with_reducible refine Nat.le_refl _) | (dsimp only; with_reducible refine le_bel_add ?_) | (with_reducible assumption) | omega | (dsimp only; omega)))⟩
        case round =>
          obtain ⟨k, rfl, hk, hno, hfb, hb⟩ := hrel
          have hiW := below_move hlt (fun _ h => h) hb
          obtain ⟨b0, b1, b2⟩ := box3 hfb
          have HFB := Lib.hid hfb
          have HNO := Lib.hid hno
          have hbs := hb.size
          clear hno
          rcases Nat.lt_or_ge k tl.length with hkl | hkl
          · obtain ⟨u, hu⟩ := some_at hkl
            obtain ⟨bb, off, hadd, hp, hcs⟩ := insF_at hiW (by omega)
            cases hadd
            obtain ⟨c0, c1, ad', cap', c2, hiu⟩ := cellF_open (hcs k u hu)
            have f0 : decide ((k : Int) < (tl.length : Int)) = true := decide_eq_true (by omega)
            have hib : (0 ≤ (k : Int) ∧ (k : Int) < (tl.length : Int)) := ⟨by omega, by omega⟩
            have HCU := HC.out u (List.mem_of_getElem? hu) ad' cap'
            obtain ⟨vu, hvu⟩ : ∃ vu, val (envB bt) u = vu := ⟨_, rfl⟩
            rw [hvu] at HCU
            have HCC := Lib.hid HCU
            have HI := Lib.hid hiu
            have HTK := Lib.hid (valA_take (envB bt) tl k u hu)
            have HUM := Lib.hid (And.intro (List.mem_of_getElem? hu) hvu)
            rw [HUM.out.2, HNO.out] at HTK
            clear hcs hiW hiu hu hp hvu HCU
            cases vu
            · go_wp2_with fail
              refine wp_region_bel (by kernel_rfl) (by kernel_rfl) ?_
              repeat (go_big_quiet_step ((go_at_call 27; exact bel_of (HCC.out _ (HI.out.of (by (repeat' (first | (with_reducible exact Below.refl _ _) | (with_reducible exact Nat.le_refl _) | (with_reducible refine Below.bel ?_ ?_) | (with_reducible refine Below.alloc ?_ ?_ _) | (with_reducible refine Below.drew ?_) | (with_reducible refine Below.drawsN ?_ _) | (with_reducible refine Below.setCell ?_ ?_ _) | (with_reducible refine le_bel ?_) | (with_reducible refine le_alloc ?_) | (with_reducible refine le_setCell ?_) | (with_reducible refine le_drew ?_) | (with_reducible refine le_drawsN ?_) | (dsimp only; with_reducible refine le_bel ?_) | (dsimp only; with_reducible refine Nat.le_refl _) | (dsimp only; with_reducible refine le_bel_add ?_) | (with_reducible assumption) | omega | (dsimp only; omega)))))))))
              refine wpQuiet_nil ?_
              rintro _ ⟨z, rfl⟩
              have HF2 := Lib.hid (obj_bel z HFB.out)
              have hzs := z.size_le
              obtain ⟨d0, d1, d2⟩ := box3 HF2.out
              have HBZ := Lib.hid (hb.trans (z.below.mono hbs))
              go_wp2
              go_ret
              exact Ret.mk (by (rw [valA_false HUM.out.1 HUM.out.2]; rfl)) (by (repeat' (first | (with_reducible exact Below.refl _ _) | (with_reducible exact Nat.le_refl _) | (with_reducible refine Below.bel ?_ ?_) | (with_reducible refine Below.alloc ?_ ?_ _) | (with_reducible refine Below.drew ?_) | (with_reducible refine Below.drawsN ?_ _) | (with_reducible refine Below.setCell ?_ ?_ _) | (with_reducible refine le_bel ?_) | (with_reducible refine le_alloc ?_) | (with_reducible refine le_setCell ?_) | (with_reducible refine le_drew ?_) | (with_reducible refine le_drawsN ?_) | (dsimp only; with_reducible refine le_bel ?_) | (dsimp only; with_reducible refine Nat.le_refl _) | (dsimp only; with_reducible refine le_bel_add ?_) | (with_reducible assumption) | omega | (dsimp only; omega))))
            · go_wp2_with fail
              refine wp_region_bel (by kernel_rfl) (by kernel_rfl) ?_
              repeat (go_big_quiet_step ((go_at_call 27; exact bel_of (HCC.out _ (HI.out.of (by (repeat' (first | (with_reducible exact Below.refl _ _) | (with_reducible exact Nat.le_refl _) | (with_reducible refine Below.bel ?_ ?_) | (with_reducible refine Below.alloc ?_ ?_ _) | (with_reducible refine Below.drew ?_) | (with_reducible refine Below.drawsN ?_ _) | (with_reducible refine Below.setCell ?_ ?_ _) | (with_reducible refine le_bel ?_) | (with_reducible refine le_alloc ?_) | (with_reducible refine le_setCell ?_) | (with_reducible refine le_drew ?_) | (with_reducible refine le_drawsN ?_) | (dsimp only; with_reducible refine le_bel ?_) | (dsimp only; with_reducible refine Nat.le_refl _) | (dsimp only; with_reducible refine le_bel_add ?_) | (with_reducible assumption) | omega | (dsimp only; omega)))))))))
              refine wpQuiet_nil ?_
              rintro _ ⟨z, rfl⟩
              have HF2 := Lib.hid (obj_bel z HFB.out)
              have hzs := z.size_le
              obtain ⟨d0, d1, d2⟩ := box3 HF2.out
              have HBZ := Lib.hid (hb.trans (z.below.mono hbs))
              go_wp2
              go_roundw
              case rel => exact ⟨k + 1, by go_num, by omega, by rw [HTK.out]; rfl, HF2.out, HBZ.out⟩
              case measure => simp [intOf]; omega
          · have hke : k = tl.length := by omega
            subst hke
            have f0 : decide ((tl.length : Int) < (tl.length : Int)) = false := decide_eq_false (by omega)
            clear hiW
            go_wp2
            go_ret
            exact Ret.mk (by (have := HNO.out; rw [List.take_length] at this; rw [this]; rfl)) (by (repeat' (first | (with_reducible exact Below.refl _ _) | (with_reducible exact Nat.le_refl _) | (with_reducible refine Below.bel ?_ ?_) | (with_reducible refine Below.alloc ?_ ?_ _) | (with_reducible refine Below.drew ?_) | (with_reducible refine Below.drawsN ?_ _) | (with_reducible refine Below.setCell ?_ ?_ _) | (with_reducible refine le_bel ?_) | (with_reducible refine le_alloc ?_) | (with_reducible refine le_setCell ?_) | (with_reducible refine le_drew ?_) | (with_reducible refine le_drawsN ?_) | (dsimp only; with_reducible refine le_bel ?_) | (dsimp only; with_reducible refine Nat.le_refl _) | (dsimp only; with_reducible refine le_bel_add ?_) | (with_reducible assumption) | omega | (dsimp only; omega))))
      · rw [show val (envB bt) (nd 4 0 tl) = valO (envB bt) tl from by rw [val, if_neg (by decide), if_neg (by decide), if_neg (by decide), if_pos rfl]]
        go_enter Tryd.func27, Tryd.ntmps27
        go_wp2
        go_loopw [5] (fun i wr => ∃ k : Nat, i = .int .i64 (k : Int) ∧ k ≤ tl.length ∧ valO (envB bt) (tl.take k) = false ∧ wr.heap[w.heap.size]? = some (.cells #[.int .i64 4, .int .i64 0, .slice ad tl.length cap] 36 (0, 0)) ∧ Below w.heap.size w wr) (fun i _ => tl.length - (intOf i).toNat)
        case atStart => exact ⟨0, rfl, by omega, rfl, World.alloc_heap_new _ _, by (repeat' (first | (with_reducible exact Below.refl _ _) | (with_reducible exact Nat.le_refl _) | (with_reducible refine Below.bel ?_ ?_) | (with_reducible refine Below.alloc ?_ ?_ _) | (with_reducible refine Below.drew ?_) | (with_reducible refine Below.drawsN ?_ _) | (with_reducible refine Below.setCell ?_ ?_ _) | (with_reducible refine le_bel ?_) | (with_reducible refine le_alloc ?_) | (with_reducible refine le_setCell ?_) | (with_reducible refine le_drew ?_) | (with_reducible refine le_drawsN ?_) | (dsimp only; with_reducible refine le_bel ?_) | (dsimp only; with_reducible refine Nat.le_refl _) | (dsimp only; with_reducible refine le_bel_add ?_) | (with_reducible assumption) | omega | (dsimp only; omega)))⟩
        case round =>
          obtain ⟨k, rfl, hk, hno, hfb, hb⟩ := hrel
          have hiW := below_move hlt (fun _ h => h) hb
          obtain ⟨b0, b1, b2⟩ := box3 hfb
          have HFB := Lib.hid hfb
          have HNO := Lib.hid hno
          have hbs := hb.size
          clear hno
          rcases Nat.lt_or_ge k tl.length with hkl | hkl
          · obtain ⟨u, hu⟩ := some_at hkl
            obtain ⟨bb, off, hadd, hp, hcs⟩ := insF_at hiW (by omega)
            cases hadd
            obtain ⟨c0, c1, ad', cap', c2, hiu⟩ := cellF_open (hcs k u hu)
            have f0 : decide ((k : Int) < (tl.length : Int)) = true := decide_eq_true (by omega)
            have hib : (0 ≤ (k : Int) ∧ (k : Int) < (tl.length : Int)) := ⟨by omega, by omega⟩
            have HCU := HC.out u (List.mem_of_getElem? hu) ad' cap'
            obtain ⟨vu, hvu⟩ : ∃ vu, val (envB bt) u = vu := ⟨_, rfl⟩
            rw [hvu] at HCU
            have HCC := Lib.hid HCU
            have HI := Lib.hid hiu
            have HTK := Lib.hid (valO_take (envB bt) tl k u hu)
            have HUM := Lib.hid (And.intro (List.mem_of_getElem? hu) hvu)
            rw [HUM.out.2, HNO.out] at HTK
            clear hcs hiW hiu hu hp hvu HCU
            cases vu
            · go_wp2_with fail
              refine wp_region_bel (by kernel_rfl) (by kernel_rfl) ?_
              repeat (go_big_quiet_step ((go_at_call 27; exact bel_of (HCC.out _ (HI.out.of (by (repeat' (first | (with_reducible exact Below.refl _ _) | (with_reducible exact Nat.le_refl _) | (with_reducible refine Below.bel ?_ ?_) | (with_reducible refine Below.alloc ?_ ?_ _) | (with_reducible refine Below.drew ?_) | (with_reducible refine Below.drawsN ?_ _) | (with_reducible refine Below.setCell ?_ ?_ _) | (with_reducible refine le_bel ?_) | (with_reducible refine le_alloc ?_) | (with_reducible refine le_setCell ?_) | (with_reducible refine le_drew ?_) | (with_reducible refine le_drawsN ?_) | (dsimp only; with_reducible refine le_bel ?_) | (dsimp only; with_reducible refine Nat.le_refl _) | (dsimp only; with_reducible refine le_bel_add ?_) | (with_reducible assumption) | omega | (dsimp only; omega)))))))))
              refine wpQuiet_nil ?_
              rintro _ ⟨z, rfl⟩
              have HF2 := Lib.hid (obj_bel z HFB.out)
              have hzs := z.size_le
              obtain ⟨d0, d1, d2⟩ := box3 HF2.out
              have HBZ := Lib.hid (hb.trans (z.below.mono hbs))
              go_wp2
              go_roundw
              case rel => exact ⟨k + 1, by go_num, by omega, by rw [HTK.out]; rfl, HF2.out, HBZ.out⟩
              case measure => simp [intOf]; omega
            · go_wp2_with fail
              refine wp_region_bel (by kernel_rfl) (by kernel_rfl) ?_
              repeat (go_big_quiet_step ((go_at_call 27; exact bel_of (HCC.out _ (HI.out.of (by (repeat' (first | (with_reducible exact Below.refl _ _) | (with_reducible exact Nat.le_refl _) | (with_reducible refine Below.bel ?_ ?_) | (with_reducible refine Below.alloc ?_ ?_ _) | (with_reducible refine Below.drew ?_) | (with_reducible refine Below.drawsN ?_ _) | (with_reducible refine Below.setCell ?_ ?_ _) | (with_reducible refine le_bel ?_) | (with_reducible refine le_alloc ?_) | (with_reducible refine le_setCell ?_) | (with_reducible refine le_drew ?_) | (with_reducible refine le_drawsN ?_) | (dsimp only; with_reducible refine le_bel ?_) | (dsimp only; with_reducible refine Nat.le_refl _) | (dsimp only; with_reducible refine le_bel_add ?_) | (with_reducible assumption) | omega | (dsimp only; omega)))))))))
              refine wpQuiet_nil ?_
              rintro _ ⟨z, rfl⟩
              have HF2 := Lib.hid (obj_bel z HFB.out)
              have hzs := z.size_le
              obtain ⟨d0, d1, d2⟩ := box3 HF2.out
              have HBZ := Lib.hid (hb.trans (z.below.mono hbs))
              go_wp2
              go_ret
              exact Ret.mk (by (rw [valO_true HUM.out.1 HUM.out.2]; rfl)) (by (repeat' (first | (with_reducible exact Below.refl _ _) | (with_reducible exact Nat.le_refl _) | (with_reducible refine Below.bel ?_ ?_) | (with_reducible refine Below.alloc ?_ ?_ _) | (with_reducible refine Below.drew ?_) | (with_reducible refine Below.drawsN ?_ _) | (with_reducible refine Below.setCell ?_ ?_ _) | (with_reducible refine le_bel ?_) | (with_reducible refine le_alloc ?_) | (with_reducible refine le_setCell ?_) | (with_reducible refine le_drew ?_) | (with_reducible refine le_drawsN ?_) | (dsimp only; with_reducible refine le_bel ?_) | (dsimp only; with_reducible refine Nat.le_refl _) | (dsimp only; with_reducible refine le_bel_add ?_) | (with_reducible assumption) | omega | (dsimp only; omega))))
          · have hke : k = tl.length := by omega
            subst hke
            have f0 : decide ((tl.length : Int) < (tl.length : Int)) = false := decide_eq_false (by omega)
            clear hiW
            go_wp2
            go_ret
            exact Ret.mk (by (have := HNO.out; rw [List.take_length] at this; rw [this]; rfl)) (by (repeat' (first | (with_reducible exact Below.refl _ _) | (with_reducible exact Nat.le_refl _) | (with_reducible refine Below.bel ?_ ?_) | (with_reducible refine Below.alloc ?_ ?_ _) | (with_reducible refine Below.drew ?_) | (with_reducible refine Below.drawsN ?_ _) | (with_reducible refine Below.setCell ?_ ?_ _) | (with_reducible refine le_bel ?_) | (with_reducible refine le_alloc ?_) | (with_reducible refine le_setCell ?_) | (with_reducible refine le_drew ?_) | (with_reducible refine le_drawsN ?_) | (dsimp only; with_reducible refine le_bel ?_) | (dsimp only; with_reducible refine Nat.le_refl _) | (dsimp only; with_reducible refine le_bel_add ?_) | (with_reducible assumption) | omega | (dsimp only; omega))))
    · clear HC
      rcases hk with rfl | rfl
      · rw [show val (envB bt) (nd 5 0 []) = false from rfl]
        go_enter Tryd.func27, Tryd.ntmps27
        go_wp2
        go_ret
        exact Ret.mk (by rfl) (by (repeat' (first | (with_reducible exact Below.refl _ _) | (with_reducible exact Nat.le_refl _) | (with_reducible refine Below.bel ?_ ?_) | (with_reducible refine Below.alloc ?_ ?_ _) | (with_reducible refine Below.drew ?_) | (with_reducible refine Below.drawsN ?_ _) | (with_reducible refine Below.setCell ?_ ?_ _) | (with_reducible refine le_bel ?_) | (with_reducible refine le_alloc ?_) | (with_reducible refine le_setCell ?_) | (with_reducible refine le_drew ?_) | (with_reducible refine le_drawsN ?_) | (dsimp only; with_reducible refine le_bel ?_) | (dsimp only; with_reducible refine Nat.le_refl _) | (dsimp only; with_reducible refine le_bel_add ?_) | (with_reducible assumption) | omega | (dsimp only; omega))))
      · rw [show val (envB bt) (nd 6 0 []) = true from rfl]
        go_enter Tryd.func27, Tryd.ntmps27
        go_wp2
        go_ret
        exact Ret.mk (by rfl) (by (repeat' (first | (with_reducible exact Below.refl _ _) | (with_reducible exact Nat.le_refl _) | (with_reducible refine Below.bel ?_ ?_) | (with_reducible refine Below.alloc ?_ ?_ _) | (with_reducible refine Below.drew ?_) | (with_reducible refine Below.drawsN ?_ _) | (with_reducible refine Below.setCell ?_ ?_ _) | (with_reducible refine le_bel ?_) | (with_reducible refine le_alloc ?_) | (with_reducible refine le_setCell ?_) | (with_reducible refine le_drew ?_) | (with_reducible refine le_drawsN ?_) | (dsimp only; with_reducible refine le_bel ?_) | (dsimp only; with_reducible refine Nat.le_refl _) | (dsimp only; with_reducible refine le_bel_add ?_) | (with_reducible assumption) | omega | (dsimp only; omega))))
end Go.Proofs.YtkbellmhanpocaaDoor

namespace Go.Proofs.YtkbellmhanpocaaDoor
set_option linter.unusedVariables false
set_option linter.unusedSimpArgs false
open Go.RowKit F
attribute [local go_sem low] Bel.cell Bel.frozen alloc_cell alloc_frozen

/-- A list of numbers in new memory, and no error. -/
def SupRetE (xs : List Int) (w : World) (e : Ending) (w' : World) : Prop := ∃ v, e = .returned (.tuple #[v, .int .i64 0]) ∧ ∃ y : Bel w, w' = y.w ∧ OwnV y.w w.heap.size 3 v (intsV xs)
set_option maxRecDepth 100000 in
set_option maxHeartbeats 6400000 in
theorem Support_ok (P : Nat → Prop) (t : F) (ad : Option Addr) (cap : Nat) (w : World) (hi : InsF P w ad t.l) (hok : okT t) (hn : nodes t ≤ 10000) (hl : levels t ≤ 100) :
    Calls Tryd.prog 25 #[.agg #[.int .i64 t.k, .int .i64 t.a, .slice ad t.l.length cap]] w (SupRetE (supF [t]) w) := by
  have hc0 : checkF t = 0 := checkF_ok.2 ⟨decide_eq_true (by omega), hok⟩
  have hlt : InsF (fun c => c < w.heap.size) w ad t.l := hi.imp fun b hb _ => hb
  have HI := Lib.hid hlt
  have HC := Lib.hid (fun w' (h : InsF (fun c => c < w.heap.size) w' ad t.l) => check_any (fun c => c < w.heap.size) t ad cap w' h (by omega))
  rw [hc0] at HC
  have HS := Lib.hid (fun (P' : Nat → Prop) ad' cap' w' (h : InsF P' w' ad' [t]) => support_one P' t ad' cap' w' h (by omega))
  obtain ⟨ls, hls⟩ : ∃ ls, supF [t] = ls := ⟨_, rfl⟩
  rw [hls] at HS ⊢
  clear hi hlt hc0 hok hls
  go_enter Tryd.func25, Tryd.ntmps25
  go_wp2_with fail
  refine (HC.out _ (HI.out.of (by (repeat' (first | (with_reducible exact Below.refl _ _) | (with_reducible exact Nat.le_refl _) | (with_reducible refine Below.bel ?_ ?_) | (with_reducible refine Below.alloc ?_ ?_ _) | (with_reducible refine Below.drew ?_) | (with_reducible refine Below.drawsN ?_ _) | (with_reducible refine Below.setCell ?_ ?_ _) | (with_reducible refine le_bel ?_) | (with_reducible refine le_alloc ?_) | (with_reducible refine le_setCell ?_) | (with_reducible refine le_drew ?_) | (with_reducible refine le_drawsN ?_) | (dsimp only; with_reducible refine le_bel ?_) | (dsimp only; with_reducible refine Nat.le_refl _) | (dsimp only; with_reducible refine le_bel_add ?_) | (with_reducible assumption) | omega | (dsimp only; omega)))))).mono ?_
  rintro _ _ ⟨rfl, y1, rfl⟩
  have hs1 := y1.size_le
  simp at hs1
  have hO0 := obj_bel y1 (World.alloc_heap_new w (.cells #[.int .i64 t.k, .int .i64 t.a, .slice ad t.l.length cap] 25))
  obtain ⟨c0, c1, c2⟩ := box3 hO0
  dsimp only
  go_wp2_with fail
  refine (HS.out (fun _ => True) _ _ _ (insF_one (E := 25) (ad := ad) (cap := cap) (World.alloc_heap_new _ _) trivial ((HI.out.of (by (repeat' (first | (with_reducible exact Below.refl _ _) | (with_reducible exact Nat.le_refl _) | (with_reducible refine Below.bel ?_ ?_) | (with_reducible refine Below.alloc ?_ ?_ _) | (with_reducible refine Below.drew ?_) | (with_reducible refine Below.drawsN ?_ _) | (with_reducible refine Below.setCell ?_ ?_ _) | (with_reducible refine le_bel ?_) | (with_reducible refine le_alloc ?_) | (with_reducible refine le_setCell ?_) | (with_reducible refine le_drew ?_) | (with_reducible refine le_drawsN ?_) | (dsimp only; with_reducible refine le_bel ?_) | (dsimp only; with_reducible refine Nat.le_refl _) | (dsimp only; with_reducible refine le_bel_add ?_) | (with_reducible assumption) | omega | (dsimp only; omega))))).imp fun _ _ _ => trivial))).mono ?_
  rintro _ _ ⟨v2, rfl, y2, rfl, hown⟩
  have hs2 := y2.size_le
  simp at hs2
  have HO := Lib.hid (ownV_mono hown (show w.heap.size ≤ _ by simp; omega))
  have HB := Lib.hid (show Below w.heap.size w y2.w by (repeat' (first | (with_reducible exact Below.refl _ _) | (with_reducible exact Nat.le_refl _) | (with_reducible refine Below.bel ?_ ?_) | (with_reducible refine Below.alloc ?_ ?_ _) | (with_reducible refine Below.drew ?_) | (with_reducible refine Below.drawsN ?_ _) | (with_reducible refine Below.setCell ?_ ?_ _) | (with_reducible refine le_bel ?_) | (with_reducible refine le_alloc ?_) | (with_reducible refine le_setCell ?_) | (with_reducible refine le_drew ?_) | (with_reducible refine le_drawsN ?_) | (dsimp only; with_reducible refine le_bel ?_) | (dsimp only; with_reducible refine Nat.le_refl _) | (dsimp only; with_reducible refine le_bel_add ?_) | (with_reducible assumption) | omega | (dsimp only; omega))))
  clear hown
  dsimp only
  go_wp2
  exact bodyPost_ret (v := .tuple #[v2, .int .i64 0]) (by simp [results, Tryd.results25, go_sem]) rfl ⟨v2, rfl, ⟨_, HB.out⟩, rfl, HO.out⟩
end Go.Proofs.YtkbellmhanpocaaDoor
