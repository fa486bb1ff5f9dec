/- The reader of formulas: the number of a variable. -/
import Derived.Test.YtkbellmhanpocaaGreatDoorI2
namespace Go.Proofs.YtkbellmhanpocaaGreatDoor
set_option linter.unusedVariables false
set_option linter.unusedSimpArgs false
open Go.RowKit Go.Shelf F
attribute [local go_sem low] Bel.cell Bel.frozen alloc_cell alloc_frozen

/-- What a reading call returns: a tree in new memory; the reader has moved on. -/
def RdRet (b : Nat) (S : List UInt8) (to : Nat) (t : F) (w : World) (e : Ending) (w' : World) : Prop :=
  ∃ v, e = .returned (.tuple #[v, .bool true]) ∧ FV (fun c => w.heap.size ≤ c) w' v t ∧ RdAt w' b S to ∧ RK b w w'
/-- Where the reader is. -/
def rdAt (b : Nat) (w : World) : Nat := match w.cell? ⟨b, 1, none⟩ with
  | some v => (intOf v).toNat
  | none => 0
theorem rdAt_eq {w : World} {b : Nat} {S : List UInt8} {k : Nat} (h : RdAt w b S k) : rdAt b w = k := by
  unfold rdAt
  rw [(box2 h).2.1]
  simp [intOf]
theorem RdAt.lt {w : World} {b : Nat} {S : List UInt8} {k : Nat} (h : RdAt w b S k) : b < w.heap.size := (Array.getElem?_eq_some_iff.1 h).1
theorem RdAt.move {w : World} {b : Nat} {S : List UInt8} {k : Nat} (h : RdAt w b S k) (k' : Nat) : RdAt (w.setCell ⟨b, 1, none⟩ (.int .i64 (k' : Int))) b S k' := obj_set _ h
theorem RdAt.of {w w' : World} {b : Nat} {S : List UInt8} {k : Nat} (h : RdAt w b S k) (hb : Below w.heap.size w w') : RdAt w' b S k := obj_bel ⟨w', hb⟩ h
theorem RK.setNew {b c i : Nat} {w w' : World} (h : RK b w w') (hc : w.heap.size ≤ c) (hb : b ≤ c) (v : Value) : RK b w (w'.setCell ⟨c, i, none⟩ v) :=
  ⟨h.1.setCell (p := ⟨c, i, none⟩) hb _, fun k o hk hn => obj_ne _ (fun e => by have := (Array.getElem?_eq_some_iff.1 hk).1; omega) (h.2 k o hk hn)⟩
theorem dgs_byte {p r : List UInt8} {a : Int} {k : Nat} {c : UInt8} (h : (dgs a)[k]? = some c) : byteAt (p ++ (dgs a ++ r)) (p.length + k) = c ∧ 48 ≤ c.toNat ∧ c.toNat ≤ 57 := by
  obtain ⟨h1, h2⟩ := List.getElem?_eq_some_iff.1 h
  have h3 := byteAt_mid (p := p) (r := r) h1
  have h4 := dig_byte h1
  rw [h2] at h3 h4
  exact ⟨h3, h4⟩
set_option maxRecDepth 100000 in
set_option maxHeartbeats 6400000 in
theorem variable_any (b : Nat) (p r : List UInt8) (a : Int) (w : World) (h0 : 0 ≤ a) (h1 : a < 4096) (hr : stopD r = true) (hS : (p ++ (dgs a ++ r)).length ≤ 1000000) (h : RdAt w b (p ++ (dgs a ++ r)) p.length) :
    Calls Tryz.prog 60 #[.pointer (some ⟨b, 0, none⟩)] w (RdRet b (p ++ (dgs a ++ r)) (p.length + (dgs a).length) (nd 1 a []) w) := by
  have hbw := h.lt
  have hpl : p.length + (dgs a).length ≤ 1000000 := by simp only [List.length_append] at hS; omega
  have HMID := Lib.hid (fun k c (hk : (dgs a)[k]? = some c) => (dgs_byte (p := p) (r := r) hk))
  have HEND := Lib.hid (@byteAt_end p (dgs a) r)
  have HST := Lib.hid (stop_byte hr)
  have HEX := Lib.hid (extract_mid p (dgs a) r)
  have HAT := Lib.hid (fun w' => atoi_any a w' h0 h1)
  have HNE := Lib.hid (dgs_ne a)
  have HHD := Lib.hid (dec_head0 a.toNat)
  have HDD := Lib.hid (show dgs a = Go.Lib.decDigits a.toNat from rfl)
  obtain ⟨d, hd⟩ : ∃ d, dgs a = d := ⟨_, rfl⟩
  rw [hd] at h hS hpl HEX HAT HNE HDD HEND HMID ⊢
  obtain ⟨S, hSe⟩ : ∃ S, p ++ (d ++ r) = S := ⟨_, rfl⟩
  rw [hSe] at h hS HMID HEND HEX ⊢
  have hSl : p.length + d.length ≤ S.length := by rw [← hSe]; simp only [List.length_append]; omega
  clear hd hr hSe
  have HR := Lib.hid h
  obtain ⟨c0, c1, _, _⟩ := box2 h
  clear h
  go_enter Tryz.func60, Tryz.ntmps60
  go_wp2
  go_loopw [12] (fun _ wr => ∃ k : Nat, k ≤ d.length ∧ RdAt wr b S (p.length + k) ∧ RK b (w.alloc (.cells #[.int .i64 0, .int .i64 0, .slice none 0 0] 26)) wr) (fun _ wr => p.length + d.length - rdAt b wr)
  case atStart => exact ⟨0, by omega, HR.out.of (by (repeat' (first | (with_reducible exact Below.refl _ _) | (with_reducible exact Nat.le_refl _) | (with_reducible refine Below.bel ?_ ?_) | (with_reducible refine Below.alloc ?_ ?_ _) | (with_reducible refine Below.drew ?_) | (with_reducible refine Below.drawsN ?_ _) | (with_reducible refine Below.setCell ?_ ?_ _) | (with_reducible refine le_bel ?_) | (with_reducible refine le_alloc ?_) | (with_reducible refine le_setCell ?_) | (with_reducible refine le_drew ?_) | (with_reducible refine le_drawsN ?_) | (dsimp only; with_reducible refine le_bel ?_) | (dsimp only; with_reducible refine Nat.le_refl _) | (dsimp only; with_reducible refine le_bel_add ?_) | (with_reducible assumption) | omega | (dsimp only; omega)))), RK.refl _ _⟩
  case round =>
    obtain ⟨k, hk, hrd, hrk⟩ := hrel
    have HRD := Lib.hid hrd
    have HRK := Lib.hid hrk
    obtain ⟨e0, e1, e2, e3⟩ := box2 hrd
    have hme := rdAt_eq hrd
    have HME := Lib.hid hme
    have hwr := hrd.lt
    have HNX := Lib.hid (fun w' (h : RdAt w' b S (p.length + k)) => next_any b S (p.length + k) w' h hS (by omega))
    clear hrd hrk hme
    rcases Nat.lt_or_ge k d.length with hkl | hkl
    · obtain ⟨c, hc⟩ := some_at hkl
      obtain ⟨hb1, hb2⟩ := HMID.out k c hc
      rw [hb1] at HNX
      have f0 : decide ((48 : Int) ≤ (c.toNat : Int)) = true := decide_eq_true (by omega)
      have f1 : decide ((c.toNat : Int) ≤ 57) = true := decide_eq_true (by omega)
      clear hb1 hb2 hc
      go_wp2_with fail
      refine (HNX.out _ HRD.out).mono ?_
      rintro _ _ ⟨rfl, y1, rfl⟩
      dsimp only
      go_wp2_with fail
      refine (HNX.out _ (HRD.out.of (by (repeat' (first | (with_reducible exact Below.refl _ _) | (with_reducible exact Nat.le_refl _) | (with_reducible refine Below.bel ?_ ?_) | (with_reducible refine Below.alloc ?_ ?_ _) | (with_reducible refine Below.drew ?_) | (with_reducible refine Below.drawsN ?_ _) | (with_reducible refine Below.setCell ?_ ?_ _) | (with_reducible refine le_bel ?_) | (with_reducible refine le_alloc ?_) | (with_reducible refine le_setCell ?_) | (with_reducible refine le_drew ?_) | (with_reducible refine le_drawsN ?_) | (dsimp only; with_reducible refine le_bel ?_) | (dsimp only; with_reducible refine Nat.le_refl _) | (dsimp only; with_reducible refine le_bel_add ?_) | (with_reducible assumption) | omega | (dsimp only; omega)))))).mono ?_
      rintro _ _ ⟨rfl, y2, rfl⟩
      have hrd2 := HRD.out.of (by (repeat' (first | (with_reducible exact Below.refl _ _) | (with_reducible exact Nat.le_refl _) | (with_reducible refine Below.bel ?_ ?_) | (with_reducible refine Below.alloc ?_ ?_ _) | (with_reducible refine Below.drew ?_) | (with_reducible refine Below.drawsN ?_ _) | (with_reducible refine Below.setCell ?_ ?_ _) | (with_reducible refine le_bel ?_) | (with_reducible refine le_alloc ?_) | (with_reducible refine le_setCell ?_) | (with_reducible refine le_drew ?_) | (with_reducible refine le_drawsN ?_) | (dsimp only; with_reducible refine le_bel ?_) | (dsimp only; with_reducible refine Nat.le_refl _) | (dsimp only; with_reducible refine le_bel_add ?_) | (with_reducible assumption) | omega | (dsimp only; omega))) : Below wr.heap.size wr y2.w)
      obtain ⟨g0, g1, g2, g3⟩ := box2 hrd2
      dsimp only
      go_wp2
      go_roundw
      case rel =>
        have hm := hrd2.move (p.length + (k + 1))
        rw [show ((p.length + (k + 1) : Nat) : Int) = (p.length : Int) + (k : Int) + 1 by omega] at hm
        exact ⟨k + 1, by omega, hm, HRK.out.trans ((RK.bel (by (repeat' (first | (with_reducible exact Below.refl _ _) | (with_reducible exact Nat.le_refl _) | (with_reducible refine Below.bel ?_ ?_) | (with_reducible refine Below.alloc ?_ ?_ _) | (with_reducible refine Below.drew ?_) | (with_reducible refine Below.drawsN ?_ _) | (with_reducible refine Below.setCell ?_ ?_ _) | (with_reducible refine le_bel ?_) | (with_reducible refine le_alloc ?_) | (with_reducible refine le_setCell ?_) | (with_reducible refine le_drew ?_) | (with_reducible refine le_drawsN ?_) | (dsimp only; with_reducible refine le_bel ?_) | (dsimp only; with_reducible refine Nat.le_refl _) | (dsimp only; with_reducible refine le_bel_add ?_) | (with_reducible assumption) | omega | (dsimp only; omega)))) (by omega)).trans (RK.set _))⟩
      case measure =>
        have hm := hrd2.move (p.length + (k + 1))
        rw [show ((p.length + (k + 1) : Nat) : Int) = (p.length : Int) + (k : Int) + 1 by omega] at hm
        rw [rdAt_eq hm, HME.out]
        omega
    · have hke : k = d.length := by omega
      subst hke
      rw [HEND.out] at HNX
      obtain ⟨c, hc⟩ : ∃ c, byteAt r 0 = c := ⟨_, rfl⟩
      have hst := HST.out
      rw [hc] at HNX hst
      have hresw := HRK.out.2 w.heap.size _ (World.alloc_heap_new w _) (by omega)
      rcases hst with hst | ⟨hst, hst2⟩
      · have f0 : decide ((48 : Int) ≤ (c.toNat : Int)) = false := decide_eq_false (by omega)
        clear hc
        go_wp2_with fail
        refine (HNX.out _ HRD.out).mono ?_
        rintro _ _ ⟨rfl, y1, rfl⟩
        have hrd2 := HRD.out.of (by (repeat' (first | (with_reducible exact Below.refl _ _) | (with_reducible exact Nat.le_refl _) | (with_reducible refine Below.bel ?_ ?_) | (with_reducible refine Below.alloc ?_ ?_ _) | (with_reducible refine Below.drew ?_) | (with_reducible refine Below.drawsN ?_ _) | (with_reducible refine Below.setCell ?_ ?_ _) | (with_reducible refine le_bel ?_) | (with_reducible refine le_alloc ?_) | (with_reducible refine le_setCell ?_) | (with_reducible refine le_drew ?_) | (with_reducible refine le_drawsN ?_) | (dsimp only; with_reducible refine le_bel ?_) | (dsimp only; with_reducible refine Nat.le_refl _) | (dsimp only; with_reducible refine le_bel_add ?_) | (with_reducible assumption) | omega | (dsimp only; omega))) : Below wr.heap.size wr y1.w)
        obtain ⟨g0, g1, g2, g3⟩ := box2 hrd2
        have hx1 : decide ((p.length : Int) ≤ (p.length : Int) + (d.length : Int)) = true := decide_eq_true (by omega)
        have hx2 : decide ((p.length : Int) + (d.length : Int) ≤ (S.length : Int)) = true := decide_eq_true (by omega)
        dsimp only
        go_wp2_with fail
        refine wp_region_bel (by kernel_rfl) (by kernel_rfl) ?_
        repeat (go_big_quiet_step (fail))
        refine wpQuiet_nil ?_
        rintro _ ⟨z, rfl⟩
        rw [HEX.out]
        have hrd3 := hrd2.of z.below
        have hres3 := obj_bel z (obj_bel ⟨_, (by (repeat' (first | (with_reducible exact Below.refl _ _) | (with_reducible exact Nat.le_refl _) | (with_reducible refine Below.bel ?_ ?_) | (with_reducible refine Below.alloc ?_ ?_ _) | (with_reducible refine Below.drew ?_) | (with_reducible refine Below.drawsN ?_ _) | (with_reducible refine Below.setCell ?_ ?_ _) | (with_reducible refine le_bel ?_) | (with_reducible refine le_alloc ?_) | (with_reducible refine le_setCell ?_) | (with_reducible refine le_drew ?_) | (with_reducible refine le_drawsN ?_) | (dsimp only; with_reducible refine le_bel ?_) | (dsimp only; with_reducible refine Nat.le_refl _) | (dsimp only; with_reducible refine le_bel_add ?_) | (with_reducible assumption) | omega | (dsimp only; omega))) : Below wr.heap.size wr y1.w)⟩ hresw)
        have HF := Lib.hid (And.intro hrd3 (show RK b w z.w from (RK.bel (by (repeat' (first | (with_reducible exact Below.refl _ _) | (with_reducible exact Nat.le_refl _) | (with_reducible refine Below.bel ?_ ?_) | (with_reducible refine Below.alloc ?_ ?_ _) | (with_reducible refine Below.drew ?_) | (with_reducible refine Below.drawsN ?_ _) | (with_reducible refine Below.setCell ?_ ?_ _) | (with_reducible refine le_bel ?_) | (with_reducible refine le_alloc ?_) | (with_reducible refine le_setCell ?_) | (with_reducible refine le_drew ?_) | (with_reducible refine le_drawsN ?_) | (dsimp only; with_reducible refine le_bel ?_) | (dsimp only; with_reducible refine Nat.le_refl _) | (dsimp only; with_reducible refine le_bel_add ?_) | (with_reducible assumption) | omega | (dsimp only; omega)))) (by omega)).trans (HRK.out.trans (RK.bel (by (repeat' (first | (with_reducible exact Below.refl _ _) | (with_reducible exact Nat.le_refl _) | (with_reducible refine Below.bel ?_ ?_) | (with_reducible refine Below.alloc ?_ ?_ _) | (with_reducible refine Below.drew ?_) | (with_reducible refine Below.drawsN ?_ _) | (with_reducible refine Below.setCell ?_ ?_ _) | (with_reducible refine le_bel ?_) | (with_reducible refine le_alloc ?_) | (with_reducible refine le_setCell ?_) | (with_reducible refine le_drew ?_) | (with_reducible refine le_drawsN ?_) | (dsimp only; with_reducible refine le_bel ?_) | (dsimp only; with_reducible refine Nat.le_refl _) | (dsimp only; with_reducible refine le_bel_add ?_) | (with_reducible assumption) | omega | (dsimp only; omega)))) (by omega)))))
        obtain ⟨x, y, hxy⟩ : ∃ x y, d = x :: y := by
          cases hdc : d with
          | nil => exact absurd hdc HNE.out
          | cons x y => exact ⟨x, y, rfl⟩
        have hzs := z.size_le
        have hyl : d.length = y.length + 1 := by rw [hxy]; rfl
        have hd1 : (d == []) = false := by rw [hxy]; rfl
        clear hrd2 hrd3 hresw
        by_cases hy : y = []
        · have hd2 : decide ((1 : Int) < (d.length : Int)) = false := decide_eq_false (by rw [hyl, hy]; decide)
          clear hxy hyl hy
          go_wp2_with fail
          refine (HAT.out _).mono ?_
          rintro _ _ ⟨rfl, u, rfl⟩
          have hres4 := obj_bel u hres3
          obtain ⟨r0, r1, r2⟩ := box3 hres4
          obtain ⟨q0, q1, q2⟩ := box3f hres4
          dsimp only
          go_wp2
          have hR := obj_set3 (.int .i64 1) (.int .i64 a) (.slice none 0 0) hres4
          obtain ⟨s0, s1, s2⟩ := box3 hR
          refine bodyPost_ret (v := .tuple #[.agg #[.int .i64 1, .int .i64 a, .slice none 0 0], .bool true]) (by simp [results, Tryz.results60, go_sem, s0, s1, s2]) rfl ⟨_, rfl, ⟨none, 0, rfl, insF_nil _ _ _⟩, ?_, ?_⟩
          · exact obj_ne _ (by omega) (obj_ne _ (by omega) (obj_ne _ (by omega) (obj_bel u HF.out.1)))
          · exact (((HF.out.2.trans (RK.bel u.below (by have := HF.out.1.lt; omega))).setNew (Nat.le_refl _) (by omega) _).setNew (Nat.le_refl _) (by omega) _).setNew (Nat.le_refl _) (by omega) _
        · have hx48 : ((x.toNat : Int) == 48) = false := by
            have := HHD.out x y (by rw [← HDD.out]; exact hxy) hy
            exact beq_eq_false_iff_ne.2 (by omega)
          have hxn : x.toNat ≠ 48 := by
            have := HHD.out x y (by rw [← HDD.out]; exact hxy) hy
            omega
          have hxe : x ≠ 48 := fun e => hxn (by rw [e]; rfl)
          have hyp : 0 < y.length := Nat.pos_of_ne_zero fun e => hy (List.length_eq_zero_iff.1 e)
          have hd2 : decide ((1 : Int) < ((y.length : Int) + 1)) = true := decide_eq_true (by
            have : y.length ≠ 0 := fun e => hy (List.length_eq_zero_iff.1 e)
            omega)
          subst hxy
          have hix : ∀ h : 0 < (ByteArray.mk (x :: y).toArray).size, (ByteArray.mk (x :: y).toArray)[0]'h = x := fun h => rfl
          clear hy hyl hd1
          go_wp2_with fail
          refine (HAT.out _).mono ?_
          rintro _ _ ⟨rfl, u, rfl⟩
          have hres4 := obj_bel u hres3
          obtain ⟨r0, r1, r2⟩ := box3 hres4
          obtain ⟨q0, q1, q2⟩ := box3f hres4
          dsimp only
          go_wp2
          have hR := obj_set3 (.int .i64 1) (.int .i64 a) (.slice none 0 0) hres4
          obtain ⟨s0, s1, s2⟩ := box3 hR
          refine bodyPost_ret (v := .tuple #[.agg #[.int .i64 1, .int .i64 a, .slice none 0 0], .bool true]) (by simp [results, Tryz.results60, go_sem, s0, s1, s2]) rfl ⟨_, rfl, ⟨none, 0, rfl, insF_nil _ _ _⟩, ?_, ?_⟩
          · exact obj_ne _ (by omega) (obj_ne _ (by omega) (obj_ne _ (by omega) (obj_bel u HF.out.1)))
          · exact (((HF.out.2.trans (RK.bel u.below (by have := HF.out.1.lt; omega))).setNew (Nat.le_refl _) (by omega) _).setNew (Nat.le_refl _) (by omega) _).setNew (Nat.le_refl _) (by omega) _
      · have f0 : decide ((48 : Int) ≤ (c.toNat : Int)) = true := decide_eq_true (by omega)
        have f1 : decide ((c.toNat : Int) ≤ 57) = false := decide_eq_false (by omega)
        clear hc
        go_wp2_with fail
        refine (HNX.out _ HRD.out).mono ?_
        rintro _ _ ⟨rfl, y1, rfl⟩
        dsimp only
        go_wp2_with fail
        refine (HNX.out _ (HRD.out.of (by (repeat' (first | (with_reducible exact Below.refl _ _) | (with_reducible exact Nat.le_refl _) | (with_reducible refine Below.bel ?_ ?_) | (with_reducible refine Below.alloc ?_ ?_ _) | (with_reducible refine Below.drew ?_) | (with_reducible refine Below.drawsN ?_ _) | (with_reducible refine Below.setCell ?_ ?_ _) | (with_reducible refine le_bel ?_) | (with_reducible refine le_alloc ?_) | (with_reducible refine le_setCell ?_) | (with_reducible refine le_drew ?_) | (with_reducible refine le_drawsN ?_) | (dsimp only; with_reducible refine le_bel ?_) | (dsimp only; with_reducible refine Nat.le_refl _) | (dsimp only; with_reducible refine le_bel_add ?_) | (with_reducible assumption) | omega | (dsimp only; omega)))))).mono ?_
        rintro _ _ ⟨rfl, y2, rfl⟩
        have hrd2 := HRD.out.of (by (repeat' (first | (with_reducible exact Below.refl _ _) | (with_reducible exact Nat.le_refl _) | (with_reducible refine Below.bel ?_ ?_) | (with_reducible refine Below.alloc ?_ ?_ _) | (with_reducible refine Below.drew ?_) | (with_reducible refine Below.drawsN ?_ _) | (with_reducible refine Below.setCell ?_ ?_ _) | (with_reducible refine le_bel ?_) | (with_reducible refine le_alloc ?_) | (with_reducible refine le_setCell ?_) | (with_reducible refine le_drew ?_) | (with_reducible refine le_drawsN ?_) | (dsimp only; with_reducible refine le_bel ?_) | (dsimp only; with_reducible refine Nat.le_refl _) | (dsimp only; with_reducible refine le_bel_add ?_) | (with_reducible assumption) | omega | (dsimp only; omega))) : Below wr.heap.size wr y2.w)
        obtain ⟨g0, g1, g2, g3⟩ := box2 hrd2
        have hx1 : decide ((p.length : Int) ≤ (p.length : Int) + (d.length : Int)) = true := decide_eq_true (by omega)
        have hx2 : decide ((p.length : Int) + (d.length : Int) ≤ (S.length : Int)) = true := decide_eq_true (by omega)
        dsimp only
        go_wp2_with fail
        refine wp_region_bel (by kernel_rfl) (by kernel_rfl) ?_
        repeat (go_big_quiet_step (fail))
        refine wpQuiet_nil ?_
        rintro _ ⟨z, rfl⟩
        rw [HEX.out]
        have hrd3 := hrd2.of z.below
        have hres3 := obj_bel z (obj_bel ⟨_, (by (repeat' (first | (with_reducible exact Below.refl _ _) | (with_reducible exact Nat.le_refl _) | (with_reducible refine Below.bel ?_ ?_) | (with_reducible refine Below.alloc ?_ ?_ _) | (with_reducible refine Below.drew ?_) | (with_reducible refine Below.drawsN ?_ _) | (with_reducible refine Below.setCell ?_ ?_ _) | (with_reducible refine le_bel ?_) | (with_reducible refine le_alloc ?_) | (with_reducible refine le_setCell ?_) | (with_reducible refine le_drew ?_) | (with_reducible refine le_drawsN ?_) | (dsimp only; with_reducible refine le_bel ?_) | (dsimp only; with_reducible refine Nat.le_refl _) | (dsimp only; with_reducible refine le_bel_add ?_) | (with_reducible assumption) | omega | (dsimp only; omega))) : Below wr.heap.size wr y2.w)⟩ hresw)
        have HF := Lib.hid (And.intro hrd3 (show RK b w z.w from (RK.bel (by (repeat' (first | (with_reducible exact Below.refl _ _) | (with_reducible exact Nat.le_refl _) | (with_reducible refine Below.bel ?_ ?_) | (with_reducible refine Below.alloc ?_ ?_ _) | (with_reducible refine Below.drew ?_) | (with_reducible refine Below.drawsN ?_ _) | (with_reducible refine Below.setCell ?_ ?_ _) | (with_reducible refine le_bel ?_) | (with_reducible refine le_alloc ?_) | (with_reducible refine le_setCell ?_) | (with_reducible refine le_drew ?_) | (with_reducible refine le_drawsN ?_) | (dsimp only; with_reducible refine le_bel ?_) | (dsimp only; with_reducible refine Nat.le_refl _) | (dsimp only; with_reducible refine le_bel_add ?_) | (with_reducible assumption) | omega | (dsimp only; omega)))) (by omega)).trans (HRK.out.trans (RK.bel (by (repeat' (first | (with_reducible exact Below.refl _ _) | (with_reducible exact Nat.le_refl _) | (with_reducible refine Below.bel ?_ ?_) | (with_reducible refine Below.alloc ?_ ?_ _) | (with_reducible refine Below.drew ?_) | (with_reducible refine Below.drawsN ?_ _) | (with_reducible refine Below.setCell ?_ ?_ _) | (with_reducible refine le_bel ?_) | (with_reducible refine le_alloc ?_) | (with_reducible refine le_setCell ?_) | (with_reducible refine le_drew ?_) | (with_reducible refine le_drawsN ?_) | (dsimp only; with_reducible refine le_bel ?_) | (dsimp only; with_reducible refine Nat.le_refl _) | (dsimp only; with_reducible refine le_bel_add ?_) | (with_reducible assumption) | omega | (dsimp only; omega)))) (by omega)))))
        obtain ⟨x, y, hxy⟩ : ∃ x y, d = x :: y := by
          cases hdc : d with
          | nil => exact absurd hdc HNE.out
          | cons x y => exact ⟨x, y, rfl⟩
        have hzs := z.size_le
        have hyl : d.length = y.length + 1 := by rw [hxy]; rfl
        have hd1 : (d == []) = false := by rw [hxy]; rfl
        clear hrd2 hrd3 hresw
        by_cases hy : y = []
        · have hd2 : decide ((1 : Int) < (d.length : Int)) = false := decide_eq_false (by rw [hyl, hy]; decide)
          clear hxy hyl hy
          go_wp2_with fail
          refine (HAT.out _).mono ?_
          rintro _ _ ⟨rfl, u, rfl⟩
          have hres4 := obj_bel u hres3
          obtain ⟨r0, r1, r2⟩ := box3 hres4
          obtain ⟨q0, q1, q2⟩ := box3f hres4
          dsimp only
          go_wp2
          have hR := obj_set3 (.int .i64 1) (.int .i64 a) (.slice none 0 0) hres4
          obtain ⟨s0, s1, s2⟩ := box3 hR
          refine bodyPost_ret (v := .tuple #[.agg #[.int .i64 1, .int .i64 a, .slice none 0 0], .bool true]) (by simp [results, Tryz.results60, go_sem, s0, s1, s2]) rfl ⟨_, rfl, ⟨none, 0, rfl, insF_nil _ _ _⟩, ?_, ?_⟩
          · exact obj_ne _ (by omega) (obj_ne _ (by omega) (obj_ne _ (by omega) (obj_bel u HF.out.1)))
          · exact (((HF.out.2.trans (RK.bel u.below (by have := HF.out.1.lt; omega))).setNew (Nat.le_refl _) (by omega) _).setNew (Nat.le_refl _) (by omega) _).setNew (Nat.le_refl _) (by omega) _
        · have hx48 : ((x.toNat : Int) == 48) = false := by
            have := HHD.out x y (by rw [← HDD.out]; exact hxy) hy
            exact beq_eq_false_iff_ne.2 (by omega)
          have hxn : x.toNat ≠ 48 := by
            have := HHD.out x y (by rw [← HDD.out]; exact hxy) hy
            omega
          have hxe : x ≠ 48 := fun e => hxn (by rw [e]; rfl)
          have hyp : 0 < y.length := Nat.pos_of_ne_zero fun e => hy (List.length_eq_zero_iff.1 e)
          have hd2 : decide ((1 : Int) < ((y.length : Int) + 1)) = true := decide_eq_true (by
            have : y.length ≠ 0 := fun e => hy (List.length_eq_zero_iff.1 e)
            omega)
          subst hxy
          have hix : ∀ h : 0 < (ByteArray.mk (x :: y).toArray).size, (ByteArray.mk (x :: y).toArray)[0]'h = x := fun h => rfl
          clear hy hyl hd1
          go_wp2_with fail
          refine (HAT.out _).mono ?_
          rintro _ _ ⟨rfl, u, rfl⟩
          have hres4 := obj_bel u hres3
          obtain ⟨r0, r1, r2⟩ := box3 hres4
          obtain ⟨q0, q1, q2⟩ := box3f hres4
          dsimp only
          go_wp2
          have hR := obj_set3 (.int .i64 1) (.int .i64 a) (.slice none 0 0) hres4
          obtain ⟨s0, s1, s2⟩ := box3 hR
          refine bodyPost_ret (v := .tuple #[.agg #[.int .i64 1, .int .i64 a, .slice none 0 0], .bool true]) (by simp [results, Tryz.results60, go_sem, s0, s1, s2]) rfl ⟨_, rfl, ⟨none, 0, rfl, insF_nil _ _ _⟩, ?_, ?_⟩
          · exact obj_ne _ (by omega) (obj_ne _ (by omega) (obj_ne _ (by omega) (obj_bel u HF.out.1)))
          · exact (((HF.out.2.trans (RK.bel u.below (by have := HF.out.1.lt; omega))).setNew (Nat.le_refl _) (by omega) _).setNew (Nat.le_refl _) (by omega) _).setNew (Nat.le_refl _) (by omega) _
end Go.Proofs.YtkbellmhanpocaaGreatDoor
