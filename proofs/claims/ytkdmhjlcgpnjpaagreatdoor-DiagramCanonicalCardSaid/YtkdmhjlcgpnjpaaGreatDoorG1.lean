/- The walk of measure. -/
import Derived.Test.YtkdmhjlcgpnjpaaGreatDoorFm
import Derived.Test.YtkdmhjlcgpnjpaaGreatDoorProg
namespace Go.Proofs.YtkdmhjlcgpnjpaaGreatDoor
set_option linter.unusedVariables false
set_option linter.unusedSimpArgs false
open Go.RowKit F
attribute [local go_sem low] Bel.cell Bel.frozen alloc_cell alloc_frozen

theorem drop_at {α : Type} {l : List α} {k : Nat} {x : α} (h : l[k]? = some x) : l.drop k = x :: l.drop (k + 1) := by
  obtain ⟨hk, hx⟩ := List.getElem?_eq_some_iff.1 h
  rw [List.drop_eq_getElem_cons hk, hx]
theorem some_at {α : Type} {l : List α} {k : Nat} (h : k < l.length) : ∃ x, l[k]? = some x := ⟨_, List.getElem?_eq_getElem h⟩
theorem nodes_l (t : F) : nodes t = 1 + nodesL t.l := by cases t; rfl
theorem meas_l (t : F) (lv n m : Nat) : meas t lv n m = if 10000 < n + 1 ∨ 100 < lv then (false, n + 1, max m lv) else measL t.l (lv + 1) (n + 1) (max m lv) := by cases t; rfl
/-- The size at block b. -/
def SizeAt (w : World) (b : Nat) (n m : Int) : Prop := w.cell? ⟨b, 0, none⟩ = some (.int .i64 n) ∧ w.cell? ⟨b, 1, none⟩ = some (.int .i64 m) ∧ w.frozen? ⟨b, 0, none⟩ = false ∧ w.frozen? ⟨b, 1, none⟩ = false
def MeasRet (w : World) (b : Nat) (p : Bool × Nat × Nat) (e : Ending) (w' : World) : Prop := e = .returned (.bool p.1) ∧ SizeAt w' b p.2.1 p.2.2 ∧ Below b w w' ∧ w.heap.size ≤ w'.heap.size
theorem sizeAt_set {w : World} {b : Nat} {n m n' m' : Int} (h : SizeAt w b n m) : SizeAt ((w.setCell ⟨b, 0, none⟩ (.int .i64 n')).setCell ⟨b, 1, none⟩ (.int .i64 m')) b n' m' := by
  obtain ⟨h1, h2, h3, h4⟩ := h
  exact ⟨by simp [go_sem, h1, h2], by simp [go_sem, h1, h2], by simp [go_sem, h3], by simp [go_sem, h4]⟩
theorem sizeAt_alloc {w : World} {b : Nat} {n m : Int} (h : SizeAt w b n m) (o : Obj) : SizeAt (w.alloc o) b n m := by
  obtain ⟨h1, h2, h3, h4⟩ := h
  have hb := World.block_lt_of_cell? w _ h1
  exact ⟨by rw [World.cell?_alloc_lt _ _ _ hb]; exact h1, by rw [World.cell?_alloc_lt w o ⟨b, 1, none⟩ hb]; exact h2, by rw [World.frozen?_alloc_old w o ⟨b, 0, none⟩ (Nat.ne_of_lt hb)]; exact h3, by rw [World.frozen?_alloc_old w o ⟨b, 1, none⟩ (Nat.ne_of_lt hb)]; exact h4⟩
theorem below_move {P : Nat → Prop} {b : Nat} {w w' : World} {ad : Option Addr} {l : List F} (h : InsF P w ad l) (hp : ∀ c, P c → c < b) (hb : Below b w w') : InsF P w' ad l :=
  h.move (fun c off u hc hu => by rw [hb.cell (p := ⟨c, off, none⟩) (hp c hc)]; exact hu) (fun _ _ h => h)
set_option maxRecDepth 100000 in
set_option maxHeartbeats 6400000 in
theorem measure_any : ∀ (N : Nat) (t : F), nodes t ≤ N → ∀ (ad : Option Addr) (cap lv n m b : Nat) (x : Int) (w : World), x = (lv : Int) → InsF (fun c => c < b) w ad t.l → SizeAt w b n m → nodes t ≤ 1000000000000 → n ≤ 10000 → lv ≤ 101 → m ≤ 101 →
    Calls Tryz.prog 85 #[.agg #[.int .i64 t.k, .int .i64 t.a, .slice ad t.l.length cap], .int .i64 x, .pointer (some ⟨b, 0, none⟩)] w (MeasRet w b (meas t lv n m)) := by
  intro N
  induction N with
  | zero => intro t h; have := nodes_pos t; omega
  | succ N ih =>
    intro t hN ad cap lv n m b x w hx hi hs hbig hn hlv hm
    subst hx
    have hbw : b < w.heap.size := World.block_lt_of_cell? w _ hs.1
    have hml := meas_l t lv n m
    obtain ⟨M, hM⟩ : ∃ M, max m lv = M := ⟨_, rfl⟩
    rw [hM] at hml
    have hM1 : M ≤ 101 := by omega
    obtain ⟨R, hR⟩ : ∃ R, meas t lv n m = R := ⟨_, rfl⟩
    rw [hR] at hml ⊢
    clear hR
    have HS := Lib.hid (sizeAt_set (n' := (n : Int) + 1) (m' := (M : Int)) hs)
    have hlen : t.l.length ≤ 1000000000000 := by have := length_nodesL t.l; rw [nodes_l] at hbig; omega
    have HBIG := Lib.hid (show nodesL t.l ≤ 1000000000000 by rw [nodes_l] at hbig; omega)
    clear hbig
    have HNL := Lib.hid (show nodesL t.l ≤ N by rw [nodes_l] at hN; omega)
    obtain ⟨hc0, hc1, hf0, hf1⟩ := hs
    clear hN
    by_cases hmx : m < lv
    · rw [show M = lv by omega] at HS hml hM1
      by_cases hstop : 10000 < n + 1 ∨ 100 < lv
      · rw [if_pos hstop] at hml
        have HML := Lib.hid hml
        clear hml
        by_cases h1 : 10000 < n + 1
        · have e1 : decide ((10000 : Int) < (n : Int) + 1) = true := decide_eq_true (by omega)
          clear hstop h1
          go_enter Tryz.func85, Tryz.ntmps85
          go_wp2
          go_ret
          exact ⟨by rw [HML.out]; rfl, by rw [HML.out]; exact sizeAt_alloc HS.out _, by (repeat' (first | (with_reducible first | exact Below.refl _ _ | exact Nat.le_refl _ | refine Below.bel ?_ ?_ | refine Below.alloc ?_ ?_ _ | refine Below.drew ?_ | refine Below.drawsN ?_ _ | refine Below.setCell ?_ ?_ _ | refine le_bel ?_ | refine le_alloc ?_ | refine le_setCell ?_ | refine le_drew ?_ | refine le_drawsN ?_) | (dsimp only; with_reducible first | refine le_bel ?_ | refine Nat.le_refl _ | refine le_bel_add ?_) | (with_reducible assumption) | omega | (dsimp only; omega))), by (repeat' (first | (with_reducible first | exact Below.refl _ _ | exact Nat.le_refl _ | refine Below.bel ?_ ?_ | refine Below.alloc ?_ ?_ _ | refine Below.drew ?_ | refine Below.drawsN ?_ _ | refine Below.setCell ?_ ?_ _ | refine le_bel ?_ | refine le_alloc ?_ | refine le_setCell ?_ | refine le_drew ?_ | refine le_drawsN ?_) | (dsimp only; with_reducible first | refine le_bel ?_ | refine Nat.le_refl _ | refine le_bel_add ?_) | (with_reducible assumption) | omega | (dsimp only; omega)))⟩
        · have e1 : decide ((10000 : Int) < (n : Int) + 1) = false := decide_eq_false (by omega)
          have e2 : decide ((100 : Int) < (lv : Int)) = true := decide_eq_true (by omega)
          clear hstop h1
          go_enter Tryz.func85, Tryz.ntmps85
          go_wp2
          go_ret
          exact ⟨by rw [HML.out]; rfl, by rw [HML.out]; exact sizeAt_alloc HS.out _, by (repeat' (first | (with_reducible first | exact Below.refl _ _ | exact Nat.le_refl _ | refine Below.bel ?_ ?_ | refine Below.alloc ?_ ?_ _ | refine Below.drew ?_ | refine Below.drawsN ?_ _ | refine Below.setCell ?_ ?_ _ | refine le_bel ?_ | refine le_alloc ?_ | refine le_setCell ?_ | refine le_drew ?_ | refine le_drawsN ?_) | (dsimp only; with_reducible first | refine le_bel ?_ | refine Nat.le_refl _ | refine le_bel_add ?_) | (with_reducible assumption) | omega | (dsimp only; omega))), by (repeat' (first | (with_reducible first | exact Below.refl _ _ | exact Nat.le_refl _ | refine Below.bel ?_ ?_ | refine Below.alloc ?_ ?_ _ | refine Below.drew ?_ | refine Below.drawsN ?_ _ | refine Below.setCell ?_ ?_ _ | refine le_bel ?_ | refine le_alloc ?_ | refine le_setCell ?_ | refine le_drew ?_ | refine le_drawsN ?_) | (dsimp only; with_reducible first | refine le_bel ?_ | refine Nat.le_refl _ | refine le_bel_add ?_) | (with_reducible assumption) | omega | (dsimp only; omega)))⟩
      · rw [if_neg hstop] at hml
        have HML := Lib.hid hml
        have e1 : decide ((10000 : Int) < (n : Int) + 1) = false := decide_eq_false (by omega)
        have e2 : decide ((100 : Int) < (lv : Int)) = false := decide_eq_false (by omega)
        have hn1 : n + 1 ≤ 10000 := by omega
        have hlv1 : lv + 1 ≤ 101 := by omega
        clear hml hstop
        go_enter Tryz.func85, Tryz.ntmps85
        go_wp2
        go_loopw [37] (fun i wr => ∃ k n' m' : Nat, i = .int .i64 (k : Int) ∧ k ≤ t.l.length ∧ measL (t.l.drop k) (lv + 1) n' m' = R ∧ SizeAt wr b n' m' ∧ n' ≤ 10000 ∧ m' ≤ 101 ∧ Below b w wr ∧ w.heap.size ≤ wr.heap.size) (fun i _ => t.l.length - (intOf i).toNat)
        case atStart => exact ⟨0, n + 1, lv, rfl, by omega, by rw [HML.out]; rfl, sizeAt_alloc HS.out _, hn1, hM1, by (repeat' (first | (with_reducible first | exact Below.refl _ _ | exact Nat.le_refl _ | refine Below.bel ?_ ?_ | refine Below.alloc ?_ ?_ _ | refine Below.drew ?_ | refine Below.drawsN ?_ _ | refine Below.setCell ?_ ?_ _ | refine le_bel ?_ | refine le_alloc ?_ | refine le_setCell ?_ | refine le_drew ?_ | refine le_drawsN ?_) | (dsimp only; with_reducible first | refine le_bel ?_ | refine Nat.le_refl _ | refine le_bel_add ?_) | (with_reducible assumption) | omega | (dsimp only; omega))), by (repeat' (first | (with_reducible first | exact Below.refl _ _ | exact Nat.le_refl _ | refine Below.bel ?_ ?_ | refine Below.alloc ?_ ?_ _ | refine Below.drew ?_ | refine Below.drawsN ?_ _ | refine Below.setCell ?_ ?_ _ | refine le_bel ?_ | refine le_alloc ?_ | refine le_setCell ?_ | refine le_drew ?_ | refine le_drawsN ?_) | (dsimp only; with_reducible first | refine le_bel ?_ | refine Nat.le_refl _ | refine le_bel_add ?_) | (with_reducible assumption) | omega | (dsimp only; omega)))⟩
        case round =>
          obtain ⟨k, n', m', rfl, hk, hr, hs', hn', hm', hb, hsz⟩ := hrel
          have hi' := below_move hi (fun _ h => h) hb
          rcases Nat.lt_or_ge k t.l.length with hkl | hkl
          · obtain ⟨u, hu⟩ := some_at hkl
            obtain ⟨bb, off, rfl, hp, hcs⟩ := insF_at hi' (by omega)
            obtain ⟨c0, c1, ad', cap', c2, hiu⟩ := cellF_open (hcs k u hu)
            have f0 : decide ((k : Int) < (t.l.length : Int)) = true := decide_eq_true (by omega)
            rw [drop_at hu, measL] at hr
            obtain ⟨⟨qb, qn, qm⟩, hq⟩ : ∃ q, meas u (lv + 1) n' m' = q := ⟨_, rfl⟩
            have hle := meas_le u (lv + 1) n' m' hn' (by omega)
            have HC := Lib.hid (fun (x : Int) (hx : x = ((lv + 1 : Nat) : Int)) w' (hiu : InsF (fun c => c < b) w' ad' u.l) (hs : SizeAt w' b n' m') => ih u (Nat.le_trans (nodesL_mem (List.mem_of_getElem? hu)) HNL.out) ad' cap' (lv + 1) n' m' b x w' hx hiu hs (Nat.le_trans (nodesL_mem (List.mem_of_getElem? hu)) HBIG.out) hn' (by omega) hm')
            rw [hq] at hr hle HC
            have HI := Lib.hid hiu
            have HS' := Lib.hid hs'
            have HR := Lib.hid hr
            have HLE := Lib.hid hle
            clear hr hle hq hiu hs' hcs hi' hu
            obtain ⟨hd0, hd1, hg0, hg1⟩ := HS'.out
            go_wp2_with fail
            refine (HC.out _ (by omega) _ (HI.out.of (by (repeat' (first | (with_reducible first | exact Below.refl _ _ | exact Nat.le_refl _ | refine Below.bel ?_ ?_ | refine Below.alloc ?_ ?_ _ | refine Below.drew ?_ | refine Below.drawsN ?_ _ | refine Below.setCell ?_ ?_ _ | refine le_bel ?_ | refine le_alloc ?_ | refine le_setCell ?_ | refine le_drew ?_ | refine le_drawsN ?_) | (dsimp only; with_reducible first | refine le_bel ?_ | refine Nat.le_refl _ | refine le_bel_add ?_) | (with_reducible assumption) | omega | (dsimp only; omega))))) (sizeAt_alloc HS'.out _)).mono ?_
            rintro _ w2 ⟨rfl, hs2, hb2, hz2⟩
            dsimp only at hs2
            have HS2 := Lib.hid hs2
            cases qb
            · dsimp only
              go_wp2
              go_ret
              exact ⟨by rw [← HR.out]; rfl, by rw [← HR.out]; exact HS2.out, (show Below b w w2 from Below.trans (by (repeat' (first | (with_reducible first | exact Below.refl _ _ | exact Nat.le_refl _ | refine Below.bel ?_ ?_ | refine Below.alloc ?_ ?_ _ | refine Below.drew ?_ | refine Below.drawsN ?_ _ | refine Below.setCell ?_ ?_ _ | refine le_bel ?_ | refine le_alloc ?_ | refine le_setCell ?_ | refine le_drew ?_ | refine le_drawsN ?_) | (dsimp only; with_reducible first | refine le_bel ?_ | refine Nat.le_refl _ | refine le_bel_add ?_) | (with_reducible assumption) | omega | (dsimp only; omega)))) hb2), by have := hz2; simp at this; omega⟩
            · dsimp only
              go_wp2
              go_roundw
              case rel => exact ⟨k + 1, qn, qm, by go_num, by omega, by rw [← HR.out]; rfl, HS2.out, HLE.out.2.2 rfl, by have := HLE.out.2.1; omega, Below.trans (by (repeat' (first | (with_reducible first | exact Below.refl _ _ | exact Nat.le_refl _ | refine Below.bel ?_ ?_ | refine Below.alloc ?_ ?_ _ | refine Below.drew ?_ | refine Below.drawsN ?_ _ | refine Below.setCell ?_ ?_ _ | refine le_bel ?_ | refine le_alloc ?_ | refine le_setCell ?_ | refine le_drew ?_ | refine le_drawsN ?_) | (dsimp only; with_reducible first | refine le_bel ?_ | refine Nat.le_refl _ | refine le_bel_add ?_) | (with_reducible assumption) | omega | (dsimp only; omega)))) hb2, by have := hz2; simp at this; omega⟩
              case measure => simp [intOf]; omega
          · have hke : k = t.l.length := by omega
            subst hke
            have f0 : decide ((t.l.length : Int) < (t.l.length : Int)) = false := decide_eq_false (by omega)
            rw [List.drop_length, measL] at hr
            have HR := Lib.hid hr
            have HS2 := Lib.hid hs'
            clear hr hs'
            go_wp2
            go_ret
            exact ⟨by rw [← HR.out]; rfl, by rw [← HR.out]; exact HS2.out, by (repeat' (first | (with_reducible first | exact Below.refl _ _ | exact Nat.le_refl _ | refine Below.bel ?_ ?_ | refine Below.alloc ?_ ?_ _ | refine Below.drew ?_ | refine Below.drawsN ?_ _ | refine Below.setCell ?_ ?_ _ | refine le_bel ?_ | refine le_alloc ?_ | refine le_setCell ?_ | refine le_drew ?_ | refine le_drawsN ?_) | (dsimp only; with_reducible first | refine le_bel ?_ | refine Nat.le_refl _ | refine le_bel_add ?_) | (with_reducible assumption) | omega | (dsimp only; omega))), by (repeat' (first | (with_reducible first | exact Below.refl _ _ | exact Nat.le_refl _ | refine Below.bel ?_ ?_ | refine Below.alloc ?_ ?_ _ | refine Below.drew ?_ | refine Below.drawsN ?_ _ | refine Below.setCell ?_ ?_ _ | refine le_bel ?_ | refine le_alloc ?_ | refine le_setCell ?_ | refine le_drew ?_ | refine le_drawsN ?_) | (dsimp only; with_reducible first | refine le_bel ?_ | refine Nat.le_refl _ | refine le_bel_add ?_) | (with_reducible assumption) | omega | (dsimp only; omega)))⟩
    · rw [show M = m by omega] at HS hml hM1
      by_cases hstop : 10000 < n + 1 ∨ 100 < lv
      · rw [if_pos hstop] at hml
        have HML := Lib.hid hml
        clear hml
        by_cases h1 : 10000 < n + 1
        · have e1 : decide ((10000 : Int) < (n : Int) + 1) = true := decide_eq_true (by omega)
          clear hstop h1
          go_enter Tryz.func85, Tryz.ntmps85
          go_wp2
          go_ret
          exact ⟨by rw [HML.out]; rfl, by rw [HML.out]; exact sizeAt_alloc HS.out _, by (repeat' (first | (with_reducible first | exact Below.refl _ _ | exact Nat.le_refl _ | refine Below.bel ?_ ?_ | refine Below.alloc ?_ ?_ _ | refine Below.drew ?_ | refine Below.drawsN ?_ _ | refine Below.setCell ?_ ?_ _ | refine le_bel ?_ | refine le_alloc ?_ | refine le_setCell ?_ | refine le_drew ?_ | refine le_drawsN ?_) | (dsimp only; with_reducible first | refine le_bel ?_ | refine Nat.le_refl _ | refine le_bel_add ?_) | (with_reducible assumption) | omega | (dsimp only; omega))), by (repeat' (first | (with_reducible first | exact Below.refl _ _ | exact Nat.le_refl _ | refine Below.bel ?_ ?_ | refine Below.alloc ?_ ?_ _ | refine Below.drew ?_ | refine Below.drawsN ?_ _ | refine Below.setCell ?_ ?_ _ | refine le_bel ?_ | refine le_alloc ?_ | refine le_setCell ?_ | refine le_drew ?_ | refine le_drawsN ?_) | (dsimp only; with_reducible first | refine le_bel ?_ | refine Nat.le_refl _ | refine le_bel_add ?_) | (with_reducible assumption) | omega | (dsimp only; omega)))⟩
        · have e1 : decide ((10000 : Int) < (n : Int) + 1) = false := decide_eq_false (by omega)
          have e2 : decide ((100 : Int) < (lv : Int)) = true := decide_eq_true (by omega)
          clear hstop h1
          go_enter Tryz.func85, Tryz.ntmps85
          go_wp2
          go_ret
          exact ⟨by rw [HML.out]; rfl, by rw [HML.out]; exact sizeAt_alloc HS.out _, by (repeat' (first | (with_reducible first | exact Below.refl _ _ | exact Nat.le_refl _ | refine Below.bel ?_ ?_ | refine Below.alloc ?_ ?_ _ | refine Below.drew ?_ | refine Below.drawsN ?_ _ | refine Below.setCell ?_ ?_ _ | refine le_bel ?_ | refine le_alloc ?_ | refine le_setCell ?_ | refine le_drew ?_ | refine le_drawsN ?_) | (dsimp only; with_reducible first | refine le_bel ?_ | refine Nat.le_refl _ | refine le_bel_add ?_) | (with_reducible assumption) | omega | (dsimp only; omega))), by (repeat' (first | (with_reducible first | exact Below.refl _ _ | exact Nat.le_refl _ | refine Below.bel ?_ ?_ | refine Below.alloc ?_ ?_ _ | refine Below.drew ?_ | refine Below.drawsN ?_ _ | refine Below.setCell ?_ ?_ _ | refine le_bel ?_ | refine le_alloc ?_ | refine le_setCell ?_ | refine le_drew ?_ | refine le_drawsN ?_) | (dsimp only; with_reducible first | refine le_bel ?_ | refine Nat.le_refl _ | refine le_bel_add ?_) | (with_reducible assumption) | omega | (dsimp only; omega)))⟩
      · rw [if_neg hstop] at hml
        have HML := Lib.hid hml
        have e1 : decide ((10000 : Int) < (n : Int) + 1) = false := decide_eq_false (by omega)
        have e2 : decide ((100 : Int) < (lv : Int)) = false := decide_eq_false (by omega)
        have hn1 : n + 1 ≤ 10000 := by omega
        have hlv1 : lv + 1 ≤ 101 := by omega
        clear hml hstop
        go_enter Tryz.func85, Tryz.ntmps85
        go_wp2
        go_loopw [37] (fun i wr => ∃ k n' m' : Nat, i = .int .i64 (k : Int) ∧ k ≤ t.l.length ∧ measL (t.l.drop k) (lv + 1) n' m' = R ∧ SizeAt wr b n' m' ∧ n' ≤ 10000 ∧ m' ≤ 101 ∧ Below b w wr ∧ w.heap.size ≤ wr.heap.size) (fun i _ => t.l.length - (intOf i).toNat)
        case atStart => exact ⟨0, n + 1, m, rfl, by omega, by rw [HML.out]; rfl, sizeAt_alloc HS.out _, hn1, hM1, by (repeat' (first | (with_reducible first | exact Below.refl _ _ | exact Nat.le_refl _ | refine Below.bel ?_ ?_ | refine Below.alloc ?_ ?_ _ | refine Below.drew ?_ | refine Below.drawsN ?_ _ | refine Below.setCell ?_ ?_ _ | refine le_bel ?_ | refine le_alloc ?_ | refine le_setCell ?_ | refine le_drew ?_ | refine le_drawsN ?_) | (dsimp only; with_reducible first | refine le_bel ?_ | refine Nat.le_refl _ | refine le_bel_add ?_) | (with_reducible assumption) | omega | (dsimp only; omega))), by (repeat' (first | (with_reducible first | exact Below.refl _ _ | exact Nat.le_refl _ | refine Below.bel ?_ ?_ | refine Below.alloc ?_ ?_ _ | refine Below.drew ?_ | refine Below.drawsN ?_ _ | refine Below.setCell ?_ ?_ _ | refine le_bel ?_ | refine le_alloc ?_ | refine le_setCell ?_ | refine le_drew ?_ | refine le_drawsN ?_) | (dsimp only; with_reducible first | refine le_bel ?_ | refine Nat.le_refl _ | refine le_bel_add ?_) | (with_reducible assumption) | omega | (dsimp only; omega)))⟩
        case round =>
          obtain ⟨k, n', m', rfl, hk, hr, hs', hn', hm', hb, hsz⟩ := hrel
          have hi' := below_move hi (fun _ h => h) hb
          rcases Nat.lt_or_ge k t.l.length with hkl | hkl
          · obtain ⟨u, hu⟩ := some_at hkl
            obtain ⟨bb, off, rfl, hp, hcs⟩ := insF_at hi' (by omega)
            obtain ⟨c0, c1, ad', cap', c2, hiu⟩ := cellF_open (hcs k u hu)
            have f0 : decide ((k : Int) < (t.l.length : Int)) = true := decide_eq_true (by omega)
            rw [drop_at hu, measL] at hr
            obtain ⟨⟨qb, qn, qm⟩, hq⟩ : ∃ q, meas u (lv + 1) n' m' = q := ⟨_, rfl⟩
            have hle := meas_le u (lv + 1) n' m' hn' (by omega)
            have HC := Lib.hid (fun (x : Int) (hx : x = ((lv + 1 : Nat) : Int)) w' (hiu : InsF (fun c => c < b) w' ad' u.l) (hs : SizeAt w' b n' m') => ih u (Nat.le_trans (nodesL_mem (List.mem_of_getElem? hu)) HNL.out) ad' cap' (lv + 1) n' m' b x w' hx hiu hs (Nat.le_trans (nodesL_mem (List.mem_of_getElem? hu)) HBIG.out) hn' (by omega) hm')
            rw [hq] at hr hle HC
            have HI := Lib.hid hiu
            have HS' := Lib.hid hs'
            have HR := Lib.hid hr
            have HLE := Lib.hid hle
            clear hr hle hq hiu hs' hcs hi' hu
            obtain ⟨hd0, hd1, hg0, hg1⟩ := HS'.out
            go_wp2_with fail
            refine (HC.out _ (by omega) _ (HI.out.of (by (repeat' (first | (with_reducible first | exact Below.refl _ _ | exact Nat.le_refl _ | refine Below.bel ?_ ?_ | refine Below.alloc ?_ ?_ _ | refine Below.drew ?_ | refine Below.drawsN ?_ _ | refine Below.setCell ?_ ?_ _ | refine le_bel ?_ | refine le_alloc ?_ | refine le_setCell ?_ | refine le_drew ?_ | refine le_drawsN ?_) | (dsimp only; with_reducible first | refine le_bel ?_ | refine Nat.le_refl _ | refine le_bel_add ?_) | (with_reducible assumption) | omega | (dsimp only; omega))))) (sizeAt_alloc HS'.out _)).mono ?_
            rintro _ w2 ⟨rfl, hs2, hb2, hz2⟩
            dsimp only at hs2
            have HS2 := Lib.hid hs2
            cases qb
            · dsimp only
              go_wp2
              go_ret
              exact ⟨by rw [← HR.out]; rfl, by rw [← HR.out]; exact HS2.out, (show Below b w w2 from Below.trans (by (repeat' (first | (with_reducible first | exact Below.refl _ _ | exact Nat.le_refl _ | refine Below.bel ?_ ?_ | refine Below.alloc ?_ ?_ _ | refine Below.drew ?_ | refine Below.drawsN ?_ _ | refine Below.setCell ?_ ?_ _ | refine le_bel ?_ | refine le_alloc ?_ | refine le_setCell ?_ | refine le_drew ?_ | refine le_drawsN ?_) | (dsimp only; with_reducible first | refine le_bel ?_ | refine Nat.le_refl _ | refine le_bel_add ?_) | (with_reducible assumption) | omega | (dsimp only; omega)))) hb2), by have := hz2; simp at this; omega⟩
            · dsimp only
              go_wp2
              go_roundw
              case rel => exact ⟨k + 1, qn, qm, by go_num, by omega, by rw [← HR.out]; rfl, HS2.out, HLE.out.2.2 rfl, by have := HLE.out.2.1; omega, Below.trans (by (repeat' (first | (with_reducible first | exact Below.refl _ _ | exact Nat.le_refl _ | refine Below.bel ?_ ?_ | refine Below.alloc ?_ ?_ _ | refine Below.drew ?_ | refine Below.drawsN ?_ _ | refine Below.setCell ?_ ?_ _ | refine le_bel ?_ | refine le_alloc ?_ | refine le_setCell ?_ | refine le_drew ?_ | refine le_drawsN ?_) | (dsimp only; with_reducible first | refine le_bel ?_ | refine Nat.le_refl _ | refine le_bel_add ?_) | (with_reducible assumption) | omega | (dsimp only; omega)))) hb2, by have := hz2; simp at this; omega⟩
              case measure => simp [intOf]; omega
          · have hke : k = t.l.length := by omega
            subst hke
            have f0 : decide ((t.l.length : Int) < (t.l.length : Int)) = false := decide_eq_false (by omega)
            rw [List.drop_length, measL] at hr
            have HR := Lib.hid hr
            have HS2 := Lib.hid hs'
            clear hr hs'
            go_wp2
            go_ret
            exact ⟨by rw [← HR.out]; rfl, by rw [← HR.out]; exact HS2.out, by (repeat' (first | (with_reducible first | exact Below.refl _ _ | exact Nat.le_refl _ | refine Below.bel ?_ ?_ | refine Below.alloc ?_ ?_ _ | refine Below.drew ?_ | refine Below.drawsN ?_ _ | refine Below.setCell ?_ ?_ _ | refine le_bel ?_ | refine le_alloc ?_ | refine le_setCell ?_ | refine le_drew ?_ | refine le_drawsN ?_) | (dsimp only; with_reducible first | refine le_bel ?_ | refine Nat.le_refl _ | refine le_bel_add ?_) | (with_reducible assumption) | omega | (dsimp only; omega))), by (repeat' (first | (with_reducible first | exact Below.refl _ _ | exact Nat.le_refl _ | refine Below.bel ?_ ?_ | refine Below.alloc ?_ ?_ _ | refine Below.drew ?_ | refine Below.drawsN ?_ _ | refine Below.setCell ?_ ?_ _ | refine le_bel ?_ | refine le_alloc ?_ | refine le_setCell ?_ | refine le_drew ?_ | refine le_drawsN ?_) | (dsimp only; with_reducible first | refine le_bel ?_ | refine Nat.le_refl _ | refine le_bel_add ?_) | (with_reducible assumption) | omega | (dsimp only; omega)))⟩
end Go.Proofs.YtkdmhjlcgpnjpaaGreatDoor
