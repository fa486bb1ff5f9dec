/- The walk of NotesetParses. -/
import Derived.Test.YtjojdkdpdlmahaaDoorN3
import Derived.Test.YtjojdkdpdlmahaaDoorChain
namespace Go.Proofs.YtjojdkdpdlmahaaDoor
open Go.RowKit
attribute [local go_sem low] Bel.cell Bel.frozen alloc_cell alloc_frozen
attribute [local go_sem] calmOp chainOp yieldsC grows

theorem Tryd.infoByte : (Tryd.prog.info? 5).map (fun i => (i.zero, i.size, i.bytes)) = some (some (.int .u8 0), 1, 1) := by kernel_rfl
@[irreducible] def zeroT : List UInt8 := List.replicate 65537 0
theorem zeroT_len : zeroT.length = 65537 := by unfold zeroT; exact List.length_replicate ..
theorem zero_par : parR zeroT = .tuple #[.agg #[.int .u64 0, .int .u64 0], .int .i64 16] := (parR_of (show parV zeroT = (0, 0, 16) by unfold parV; rw [if_pos (by rw [zeroT_len]; decide)])).symm
theorem rep_conv (n : Nat) (hn : 0 < n) (W : World) (b : Nat) (h : OwnV W b 5 (.slice (some ⟨b, 0, none⟩) n n) (List.replicate n (.int .u8 0))) :
    (convert 58 9 (.slice (some ⟨b, 0, none⟩) n n)).run Tryd.prog W = .ok (.string ⟨(List.replicate n (0 : UInt8)).toArray⟩) W := by
  have hl : (List.replicate n (0 : UInt8)).length = n := List.length_replicate ..
  obtain ⟨g, cap, hv, _, _, _, hc⟩ := ownV_cells h (by rw [List.length_replicate]; exact hn)
  have hg : b = g := by
    have h2 := congrArg (fun v => match v with | Value.slice (some p) _ _ => p.block | _ => 0) hv
    exact h2
  subst hg
  have := run_convert_bytes_back (P := Tryd.prog) W 58 9 5 ⟨b, 0, none⟩ n (List.replicate n (0 : UInt8)) Tryd.underlying58 Tryd.underlying5 Tryd.underlying9 (fun j hj => by
    have hj' : j < n := by rw [hl] at hj; exact hj
    have h1 := (hc j (.int .u8 0) (by rw [List.getElem?_replicate, if_pos hj'])).1
    have h2 : ((List.replicate n (0 : UInt8))[j]'hj) = 0 := List.getElem_replicate ..
    rw [h2, show (((0 : UInt8).toNat : Nat) : Int) = 0 from rfl, show (⟨b, 0, none⟩ : Addr).add j = ⟨b, j, none⟩ by unfold Addr.add; simp; intro h; exact h.symm]
    exact h1)
  rw [hl] at this
  exact this
theorem zero_conv (W : World) (b : Nat) (h : OwnV W b 5 (.slice (some ⟨b, 0, none⟩) 65537 65537) (List.replicate 65537 (.int .u8 0))) :
    (convert 58 9 (.slice (some ⟨b, 0, none⟩) 65537 65537)).run Tryd.prog W = .ok (.string ⟨zeroT.toArray⟩) W := by
  rw [zeroT]
  exact rep_conv _ (by omega) W b h
theorem own_made {W : World} {b c n : Nat} (hc : c = b) (h : W.ownsRow b 5 1 (.slice (some ⟨c, 0, none⟩) n n) n (madeCells (Value.int .u8 0).cells (n * 1)).toList) : OwnV W b 5 (.slice (some ⟨b, 0, none⟩) n n) (List.replicate n (.int .u8 0)) := by
  subst hc
  unfold OwnV
  rw [List.length_replicate]
  rw [Nat.mul_one, show (Value.int .u8 0).cells = #[Value.int .u8 0] from rfl, toList_madeCells_one] at h
  exact h
theorem lawParses_long (l : List UInt8) (w : World) (hL : Lib3 w) (hl : 200 < l.length) : Calls Tryd.prog 12 #[.string ⟨l.toArray⟩] w (Ret (.bool true) w) := by
  have HL := Lib.hid hL
  clear hL
  have h1 : decide ((200 : Int) < (l.length : Int)) = true := decide_eq_true (by omega)
  go_enter Tryd.func12, Tryd.ntmps12
  go_wp2_with fail
  (with_reducible refine (known_any _ (HL.out.of (by (repeat' (first | (with_reducible exact Below.refl _ _) | (with_reducible exact Nat.le_refl _) | (with_reducible refine Below.bel ?_ ?_) | (with_reducible refine Below.alloc ?_ ?_ _) | (with_reducible refine Below.drew ?_) | (with_reducible refine Below.drawsN ?_ _) | (with_reducible refine Below.setCell ?_ ?_ _) | (with_reducible refine le_bel ?_) | (with_reducible refine le_alloc ?_) | (with_reducible refine le_setCell ?_) | (with_reducible refine le_drew ?_) | (with_reducible refine le_drawsN ?_) | (dsimp only; with_reducible refine le_bel ?_) | (dsimp only; with_reducible refine Nat.le_refl _) | (dsimp only; with_reducible refine le_bel_add ?_) | (with_reducible assumption) | omega | (dsimp only; omega)))))).mono ?_)
  rintro _ _ ⟨rfl, x, rfl⟩
  go_wp2_with fail
  (with_reducible refine (known_any _ (HL.out.of (by (repeat' (first | (with_reducible exact Below.refl _ _) | (with_reducible exact Nat.le_refl _) | (with_reducible refine Below.bel ?_ ?_) | (with_reducible refine Below.alloc ?_ ?_ _) | (with_reducible refine Below.drew ?_) | (with_reducible refine Below.drawsN ?_ _) | (with_reducible refine Below.setCell ?_ ?_ _) | (with_reducible refine le_bel ?_) | (with_reducible refine le_alloc ?_) | (with_reducible refine le_setCell ?_) | (with_reducible refine le_drew ?_) | (with_reducible refine le_drawsN ?_) | (dsimp only; with_reducible refine le_bel ?_) | (dsimp only; with_reducible refine Nat.le_refl _) | (dsimp only; with_reducible refine le_bel_add ?_) | (with_reducible assumption) | omega | (dsimp only; omega)))))).mono ?_)
  rintro _ _ ⟨rfl, y, rfl⟩
  go_wp2
  go_ret
  exact Ret.mk (by rfl) (by (repeat' (first | (with_reducible exact Below.refl _ _) | (with_reducible exact Nat.le_refl _) | (with_reducible refine Below.bel ?_ ?_) | (with_reducible refine Below.alloc ?_ ?_ _) | (with_reducible refine Below.drew ?_) | (with_reducible refine Below.drawsN ?_ _) | (with_reducible refine Below.setCell ?_ ?_ _) | (with_reducible refine le_bel ?_) | (with_reducible refine le_alloc ?_) | (with_reducible refine le_setCell ?_) | (with_reducible refine le_drew ?_) | (with_reducible refine le_drawsN ?_) | (dsimp only; with_reducible refine le_bel ?_) | (dsimp only; with_reducible refine Nat.le_refl _) | (dsimp only; with_reducible refine le_bel_add ?_) | (with_reducible assumption) | omega | (dsimp only; omega))))
set_option maxRecDepth 100000 in
set_option maxHeartbeats 6400000 in
theorem lawParses_any (l : List UInt8) (w : World) (hL : Lib3 w) (hsh : w.ShapedOpen Tryd.prog) (hl : l.length ≤ 200) : Calls Tryd.prog 12 #[.string ⟨l.toArray⟩] w (Ret (.bool true) w) := by
  obtain ⟨i0, hi0, hz0, hz1, hz2⟩ := info_parts Tryd.infoByte
  have HL := Lib.hid hL
  have HSH := Lib.hid hsh
  clear hL hsh
  have h1 : decide ((200 : Int) < (l.length : Int)) = false := decide_eq_false (by omega)
  obtain ⟨A, B, E, hpv⟩ : ∃ A B E, parV l = (A, B, E) := ⟨_, _, _, rfl⟩
  have hpr := parR_of hpv
  have HP := Lib.hid (fun w' (hs : w'.ShapedOpen Tryd.prog) (hT : Tab w') (hE : Errs w') => parse_any l w' hs hT hE)
  have HZ := Lib.hid (fun w' (hs : w'.ShapedOpen Tryd.prog) (hT : Tab w') (hE : Errs w') => parse_any zeroT w' hs hT hE)
  have HC := Lib.hid zero_conv
  rw [← hpr] at HP
  clear hpr
  rw [zero_par] at HZ
  have hbl : (ByteArray.mk l.toArray).size = l.length := by show l.toArray.size = _; simp
  generalize zeroT = zt at *
  by_cases h0 : l = []
  · subst h0
    have HA := Lib.hid (show A = 0 ∧ B = 0 ∧ E = 0 by
      have : parV [] = (0, 0, 0) := rfl
      rw [this] at hpv
      cases hpv
      exact ⟨rfl, rfl, rfl⟩)
    clear hpv
    go_enter Tryd.func12, Tryd.ntmps12
    go_wp2_with fail
    (with_reducible refine (known_any _ (HL.out.of (by (repeat' (first | (with_reducible exact Below.refl _ _) | (with_reducible exact Nat.le_refl _) | (with_reducible refine Below.bel ?_ ?_) | (with_reducible refine Below.alloc ?_ ?_ _) | (with_reducible refine Below.drew ?_) | (with_reducible refine Below.drawsN ?_ _) | (with_reducible refine Below.setCell ?_ ?_ _) | (with_reducible refine le_bel ?_) | (with_reducible refine le_alloc ?_) | (with_reducible refine le_setCell ?_) | (with_reducible refine le_drew ?_) | (with_reducible refine le_drawsN ?_) | (dsimp only; with_reducible refine le_bel ?_) | (dsimp only; with_reducible refine Nat.le_refl _) | (dsimp only; with_reducible refine le_bel_add ?_) | (with_reducible assumption) | omega | (dsimp only; omega)))))).mono ?_)
    rintro _ _ ⟨rfl, x, rfl⟩
    have hxs := x.size_le
    go_wp2_with fail
    (with_reducible refine (HP.out _ (shaped_of HSH.out (by (repeat' (first | (with_reducible exact Below.refl _ _) | (with_reducible exact Nat.le_refl _) | (with_reducible refine Below.bel ?_ ?_) | (with_reducible refine Below.alloc ?_ ?_ _) | (with_reducible refine Below.drew ?_) | (with_reducible refine Below.drawsN ?_ _) | (with_reducible refine Below.setCell ?_ ?_ _) | (with_reducible refine le_bel ?_) | (with_reducible refine le_alloc ?_) | (with_reducible refine le_setCell ?_) | (with_reducible refine le_drew ?_) | (with_reducible refine le_drawsN ?_) | (dsimp only; with_reducible refine le_bel ?_) | (dsimp only; with_reducible refine Nat.le_refl _) | (dsimp only; with_reducible refine le_bel_add ?_) | (with_reducible assumption) | omega | (dsimp only; omega))))) (HL.out.of (by (repeat' (first | (with_reducible exact Below.refl _ _) | (with_reducible exact Nat.le_refl _) | (with_reducible refine Below.bel ?_ ?_) | (with_reducible refine Below.alloc ?_ ?_ _) | (with_reducible refine Below.drew ?_) | (with_reducible refine Below.drawsN ?_ _) | (with_reducible refine Below.setCell ?_ ?_ _) | (with_reducible refine le_bel ?_) | (with_reducible refine le_alloc ?_) | (with_reducible refine le_setCell ?_) | (with_reducible refine le_drew ?_) | (with_reducible refine le_drawsN ?_) | (dsimp only; with_reducible refine le_bel ?_) | (dsimp only; with_reducible refine Nat.le_refl _) | (dsimp only; with_reducible refine le_bel_add ?_) | (with_reducible assumption) | omega | (dsimp only; omega))))).tab (HL.out.of (by (repeat' (first | (with_reducible exact Below.refl _ _) | (with_reducible exact Nat.le_refl _) | (with_reducible refine Below.bel ?_ ?_) | (with_reducible refine Below.alloc ?_ ?_ _) | (with_reducible refine Below.drew ?_) | (with_reducible refine Below.drawsN ?_ _) | (with_reducible refine Below.setCell ?_ ?_ _) | (with_reducible refine le_bel ?_) | (with_reducible refine le_alloc ?_) | (with_reducible refine le_setCell ?_) | (with_reducible refine le_drew ?_) | (with_reducible refine le_drawsN ?_) | (dsimp only; with_reducible refine le_bel ?_) | (dsimp only; with_reducible refine Nat.le_refl _) | (dsimp only; with_reducible refine le_bel_add ?_) | (with_reducible assumption) | omega | (dsimp only; omega))))).errs).mono ?_)
    rintro _ _ ⟨rfl, y, rfl⟩
    have hys := y.size_le
    dsimp only
    go_wp2_with ((at_make; refine wpList_make_full _ rfl _ _ 58 rfl (y.w.heap.size + 1) 5 i0 (.int .u8 0) 1 Tryd.underlying58 hi0 hz0 hz1 _ _ _ _ (65537) rfl rfl (by first | rfl | omega | (simp <;> omega)) (by first | rfl | omega | (simp <;> omega)) (by rw [hz2] <;> omega) (by unfold maxLen; omega) (by first | omega | (simp <;> omega)) ?_; intro wM hownM hgrowM; have hcv := HC.out wM (y.w.heap.size + 1) (own_made (by simp) hownM)))
    have hbM : Below w.heap.size w wM := Below.grown (by (repeat' (first | (with_reducible exact Below.refl _ _) | (with_reducible exact Nat.le_refl _) | (with_reducible refine Below.bel ?_ ?_) | (with_reducible refine Below.alloc ?_ ?_ _) | (with_reducible refine Below.drew ?_) | (with_reducible refine Below.drawsN ?_ _) | (with_reducible refine Below.setCell ?_ ?_ _) | (with_reducible refine le_bel ?_) | (with_reducible refine le_alloc ?_) | (with_reducible refine le_setCell ?_) | (with_reducible refine le_drew ?_) | (with_reducible refine le_drawsN ?_) | (dsimp only; with_reducible refine le_bel ?_) | (dsimp only; with_reducible refine Nat.le_refl _) | (dsimp only; with_reducible refine le_bel_add ?_) | (with_reducible assumption) | omega | (dsimp only; omega)))) hgrowM (by simp; omega) (fun k e => by cases e)
    have hMs := hgrowM.size
    simp at hMs
    have hX0 : Own2 (y.w.alloc (.cells #[.int .u64 (A : Int), .int .u64 (B : Int)] 34)) y.w.heap.size (.int .u64 (A : Int)) (.int .u64 (B : Int)) := by unfold Own2; simp [go_sem]
    have HXM := Lib.hid (own2_of hX0 ((Below.refl _ _).grown hgrowM (Nat.le_refl _) (fun k e => by cases e)))
    clear hownM hgrowM hX0 hcv
    (with_reducible refine (HZ.out _ (shaped_of HSH.out (by (repeat' (first | (with_reducible exact Below.refl _ _) | (with_reducible exact Nat.le_refl _) | (with_reducible refine Below.bel ?_ ?_) | (with_reducible refine Below.alloc ?_ ?_ _) | (with_reducible refine Below.drew ?_) | (with_reducible refine Below.drawsN ?_ _) | (with_reducible refine Below.setCell ?_ ?_ _) | (with_reducible refine le_bel ?_) | (with_reducible refine le_alloc ?_) | (with_reducible refine le_setCell ?_) | (with_reducible refine le_drew ?_) | (with_reducible refine le_drawsN ?_) | (dsimp only; with_reducible refine le_bel ?_) | (dsimp only; with_reducible refine Nat.le_refl _) | (dsimp only; with_reducible refine le_bel_add ?_) | (with_reducible assumption) | omega | (dsimp only; omega))))) (HL.out.of (by (repeat' (first | (with_reducible exact Below.refl _ _) | (with_reducible exact Nat.le_refl _) | (with_reducible refine Below.bel ?_ ?_) | (with_reducible refine Below.alloc ?_ ?_ _) | (with_reducible refine Below.drew ?_) | (with_reducible refine Below.drawsN ?_ _) | (with_reducible refine Below.setCell ?_ ?_ _) | (with_reducible refine le_bel ?_) | (with_reducible refine le_alloc ?_) | (with_reducible refine le_setCell ?_) | (with_reducible refine le_drew ?_) | (with_reducible refine le_drawsN ?_) | (dsimp only; with_reducible refine le_bel ?_) | (dsimp only; with_reducible refine Nat.le_refl _) | (dsimp only; with_reducible refine le_bel_add ?_) | (with_reducible assumption) | omega | (dsimp only; omega))))).tab (HL.out.of (by (repeat' (first | (with_reducible exact Below.refl _ _) | (with_reducible exact Nat.le_refl _) | (with_reducible refine Below.bel ?_ ?_) | (with_reducible refine Below.alloc ?_ ?_ _) | (with_reducible refine Below.drew ?_) | (with_reducible refine Below.drawsN ?_ _) | (with_reducible refine Below.setCell ?_ ?_ _) | (with_reducible refine le_bel ?_) | (with_reducible refine le_alloc ?_) | (with_reducible refine le_setCell ?_) | (with_reducible refine le_drew ?_) | (with_reducible refine le_drawsN ?_) | (dsimp only; with_reducible refine le_bel ?_) | (dsimp only; with_reducible refine Nat.le_refl _) | (dsimp only; with_reducible refine le_bel_add ?_) | (with_reducible assumption) | omega | (dsimp only; omega))))).errs).mono ?_)
    rintro _ _ ⟨rfl, z, rfl⟩
    have hzs := z.size_le
    have HXZ := Lib.hid (own2_of HXM.out z.below)
    dsimp only
    obtain ⟨rfl, rfl, rfl⟩ := HA.out
    obtain ⟨x1, x2, x3, x4⟩ := HXZ.out
    go_wp2
    go_ret
    exact Ret.mk (by simp) (by (repeat' (first | (with_reducible exact Below.refl _ _) | (with_reducible exact Nat.le_refl _) | (with_reducible refine Below.bel ?_ ?_) | (with_reducible refine Below.alloc ?_ ?_ _) | (with_reducible refine Below.drew ?_) | (with_reducible refine Below.drawsN ?_ _) | (with_reducible refine Below.setCell ?_ ?_ _) | (with_reducible refine le_bel ?_) | (with_reducible refine le_alloc ?_) | (with_reducible refine le_setCell ?_) | (with_reducible refine le_drew ?_) | (with_reducible refine le_drawsN ?_) | (dsimp only; with_reducible refine le_bel ?_) | (dsimp only; with_reducible refine Nat.le_refl _) | (dsimp only; with_reducible refine le_bel_add ?_) | (with_reducible assumption) | omega | (dsimp only; omega))))
  · have h0' : l.isEmpty = false := by cases l with
        | nil => exact absurd rfl h0
        | cons _ _ => rfl
    have hpw : parW 0 0 (wordsR l) = (A, B, E) := by
      rw [← hpv]; unfold parV; rw [if_neg (by omega), if_neg h0]
    have HWO := Lib.hid (fun w' => refwords_any l w' (by omega))
    have hwl := wordsR_len l
    have hwn : 0 < (wordsR l).length := List.length_pos_iff.2 (wordsR_ne l)
    clear hpv
    go_enter Tryd.func12, Tryd.ntmps12
    go_wp2_with fail
    (with_reducible refine (known_any _ (HL.out.of (by (repeat' (first | (with_reducible exact Below.refl _ _) | (with_reducible exact Nat.le_refl _) | (with_reducible refine Below.bel ?_ ?_) | (with_reducible refine Below.alloc ?_ ?_ _) | (with_reducible refine Below.drew ?_) | (with_reducible refine Below.drawsN ?_ _) | (with_reducible refine Below.setCell ?_ ?_ _) | (with_reducible refine le_bel ?_) | (with_reducible refine le_alloc ?_) | (with_reducible refine le_setCell ?_) | (with_reducible refine le_drew ?_) | (with_reducible refine le_drawsN ?_) | (dsimp only; with_reducible refine le_bel ?_) | (dsimp only; with_reducible refine Nat.le_refl _) | (dsimp only; with_reducible refine le_bel_add ?_) | (with_reducible assumption) | omega | (dsimp only; omega)))))).mono ?_)
    rintro _ _ ⟨rfl, x, rfl⟩
    have hxs := x.size_le
    go_wp2_with fail
    (with_reducible refine (HP.out _ (shaped_of HSH.out (by (repeat' (first | (with_reducible exact Below.refl _ _) | (with_reducible exact Nat.le_refl _) | (with_reducible refine Below.bel ?_ ?_) | (with_reducible refine Below.alloc ?_ ?_ _) | (with_reducible refine Below.drew ?_) | (with_reducible refine Below.drawsN ?_ _) | (with_reducible refine Below.setCell ?_ ?_ _) | (with_reducible refine le_bel ?_) | (with_reducible refine le_alloc ?_) | (with_reducible refine le_setCell ?_) | (with_reducible refine le_drew ?_) | (with_reducible refine le_drawsN ?_) | (dsimp only; with_reducible refine le_bel ?_) | (dsimp only; with_reducible refine Nat.le_refl _) | (dsimp only; with_reducible refine le_bel_add ?_) | (with_reducible assumption) | omega | (dsimp only; omega))))) (HL.out.of (by (repeat' (first | (with_reducible exact Below.refl _ _) | (with_reducible exact Nat.le_refl _) | (with_reducible refine Below.bel ?_ ?_) | (with_reducible refine Below.alloc ?_ ?_ _) | (with_reducible refine Below.drew ?_) | (with_reducible refine Below.drawsN ?_ _) | (with_reducible refine Below.setCell ?_ ?_ _) | (with_reducible refine le_bel ?_) | (with_reducible refine le_alloc ?_) | (with_reducible refine le_setCell ?_) | (with_reducible refine le_drew ?_) | (with_reducible refine le_drawsN ?_) | (dsimp only; with_reducible refine le_bel ?_) | (dsimp only; with_reducible refine Nat.le_refl _) | (dsimp only; with_reducible refine le_bel_add ?_) | (with_reducible assumption) | omega | (dsimp only; omega))))).tab (HL.out.of (by (repeat' (first | (with_reducible exact Below.refl _ _) | (with_reducible exact Nat.le_refl _) | (with_reducible refine Below.bel ?_ ?_) | (with_reducible refine Below.alloc ?_ ?_ _) | (with_reducible refine Below.drew ?_) | (with_reducible refine Below.drawsN ?_ _) | (with_reducible refine Below.setCell ?_ ?_ _) | (with_reducible refine le_bel ?_) | (with_reducible refine le_alloc ?_) | (with_reducible refine le_setCell ?_) | (with_reducible refine le_drew ?_) | (with_reducible refine le_drawsN ?_) | (dsimp only; with_reducible refine le_bel ?_) | (dsimp only; with_reducible refine Nat.le_refl _) | (dsimp only; with_reducible refine le_bel_add ?_) | (with_reducible assumption) | omega | (dsimp only; omega))))).errs).mono ?_)
    rintro _ _ ⟨rfl, y, rfl⟩
    have hys := y.size_le
    dsimp only
    go_wp2_with ((at_make; refine wpList_make_full _ rfl _ _ 58 rfl (y.w.heap.size + 1) 5 i0 (.int .u8 0) 1 Tryd.underlying58 hi0 hz0 hz1 _ _ _ _ (65537) rfl rfl (by first | rfl | omega | (simp <;> omega)) (by first | rfl | omega | (simp <;> omega)) (by rw [hz2] <;> omega) (by unfold maxLen; omega) (by first | omega | (simp <;> omega)) ?_; intro wM hownM hgrowM; have hcv := HC.out wM (y.w.heap.size + 1) (own_made (by simp) hownM)))
    have hbM : Below w.heap.size w wM := Below.grown (by (repeat' (first | (with_reducible exact Below.refl _ _) | (with_reducible exact Nat.le_refl _) | (with_reducible refine Below.bel ?_ ?_) | (with_reducible refine Below.alloc ?_ ?_ _) | (with_reducible refine Below.drew ?_) | (with_reducible refine Below.drawsN ?_ _) | (with_reducible refine Below.setCell ?_ ?_ _) | (with_reducible refine le_bel ?_) | (with_reducible refine le_alloc ?_) | (with_reducible refine le_setCell ?_) | (with_reducible refine le_drew ?_) | (with_reducible refine le_drawsN ?_) | (dsimp only; with_reducible refine le_bel ?_) | (dsimp only; with_reducible refine Nat.le_refl _) | (dsimp only; with_reducible refine le_bel_add ?_) | (with_reducible assumption) | omega | (dsimp only; omega)))) hgrowM (by simp; omega) (fun k e => by cases e)
    have hMs := hgrowM.size
    simp at hMs
    have hX0 : Own2 (y.w.alloc (.cells #[.int .u64 (A : Int), .int .u64 (B : Int)] 34)) y.w.heap.size (.int .u64 (A : Int)) (.int .u64 (B : Int)) := by unfold Own2; simp [go_sem]
    have HXM := Lib.hid (own2_of hX0 ((Below.refl _ _).grown hgrowM (Nat.le_refl _) (fun k e => by cases e)))
    clear hownM hgrowM hX0 hcv
    (with_reducible refine (HZ.out _ (shaped_of HSH.out (by (repeat' (first | (with_reducible exact Below.refl _ _) | (with_reducible exact Nat.le_refl _) | (with_reducible refine Below.bel ?_ ?_) | (with_reducible refine Below.alloc ?_ ?_ _) | (with_reducible refine Below.drew ?_) | (with_reducible refine Below.drawsN ?_ _) | (with_reducible refine Below.setCell ?_ ?_ _) | (with_reducible refine le_bel ?_) | (with_reducible refine le_alloc ?_) | (with_reducible refine le_setCell ?_) | (with_reducible refine le_drew ?_) | (with_reducible refine le_drawsN ?_) | (dsimp only; with_reducible refine le_bel ?_) | (dsimp only; with_reducible refine Nat.le_refl _) | (dsimp only; with_reducible refine le_bel_add ?_) | (with_reducible assumption) | omega | (dsimp only; omega))))) (HL.out.of (by (repeat' (first | (with_reducible exact Below.refl _ _) | (with_reducible exact Nat.le_refl _) | (with_reducible refine Below.bel ?_ ?_) | (with_reducible refine Below.alloc ?_ ?_ _) | (with_reducible refine Below.drew ?_) | (with_reducible refine Below.drawsN ?_ _) | (with_reducible refine Below.setCell ?_ ?_ _) | (with_reducible refine le_bel ?_) | (with_reducible refine le_alloc ?_) | (with_reducible refine le_setCell ?_) | (with_reducible refine le_drew ?_) | (with_reducible refine le_drawsN ?_) | (dsimp only; with_reducible refine le_bel ?_) | (dsimp only; with_reducible refine Nat.le_refl _) | (dsimp only; with_reducible refine le_bel_add ?_) | (with_reducible assumption) | omega | (dsimp only; omega))))).tab (HL.out.of (by (repeat' (first | (with_reducible exact Below.refl _ _) | (with_reducible exact Nat.le_refl _) | (with_reducible refine Below.bel ?_ ?_) | (with_reducible refine Below.alloc ?_ ?_ _) | (with_reducible refine Below.drew ?_) | (with_reducible refine Below.drawsN ?_ _) | (with_reducible refine Below.setCell ?_ ?_ _) | (with_reducible refine le_bel ?_) | (with_reducible refine le_alloc ?_) | (with_reducible refine le_setCell ?_) | (with_reducible refine le_drew ?_) | (with_reducible refine le_drawsN ?_) | (dsimp only; with_reducible refine le_bel ?_) | (dsimp only; with_reducible refine Nat.le_refl _) | (dsimp only; with_reducible refine le_bel_add ?_) | (with_reducible assumption) | omega | (dsimp only; omega))))).errs).mono ?_)
    rintro _ _ ⟨rfl, z, rfl⟩
    have hzs := z.size_le
    have HXZ := Lib.hid (own2_of HXM.out z.below)
    dsimp only
    go_wp2_with fail
    refine (HWO.out _).mono ?_
    rintro _ _ ⟨v, rfl, u, rfl, hv⟩
    have hus := u.size_le
    simp at hus
    obtain ⟨g, cap, rfl, hgb, hgl, hcap, hcc⟩ := ownV_cells hv (by rw [strVs_len]; exact hwn)
    have hwa : WordsAt u.w g (wordsR l) := fun j t hj => (hcc j _ (strVs_get hj)).1
    rw [strVs_len] at hcap ⊢
    clear hcc hv
    simp at hgb
    generalize wordsR l = L at *
    have hX := own2_of (own2_of HXZ.out (by (repeat' (first | (with_reducible exact Below.refl _ _) | (with_reducible exact Nat.le_refl _) | (with_reducible refine Below.bel ?_ ?_) | (with_reducible refine Below.alloc ?_ ?_ _) | (with_reducible refine Below.drew ?_) | (with_reducible refine Below.drawsN ?_ _) | (with_reducible refine Below.setCell ?_ ?_ _) | (with_reducible refine le_bel ?_) | (with_reducible refine le_alloc ?_) | (with_reducible refine le_setCell ?_) | (with_reducible refine le_drew ?_) | (with_reducible refine le_drawsN ?_) | (dsimp only; with_reducible refine le_bel ?_) | (dsimp only; with_reducible refine Nat.le_refl _) | (dsimp only; with_reducible refine le_bel_add ?_) | (with_reducible assumption) | omega | (dsimp only; omega))))) u.below
    have hS : Own2 u.w (z.w.heap.size + 1) (.int .u64 0) (.int .u64 0) := by unfold Own2; simp [go_sem]
    have hzX : y.w.heap.size < z.w.heap.size := by omega
    have hLb : L.length ≤ 201 := by omega
    have HPW := Lib.hid hpw
    have HWM := Lib.hid (fun (t : List UInt8) (_ : t ∈ L) => True.intro)
    dsimp only
    go_wp2
    go_loopw [44] (fun i wr => ∃ (k lo hi : Nat), k ≤ L.length ∧ i = .int .i64 (k : Int) ∧ lo < 18446744073709551616 ∧ hi < 18446744073709551616 ∧ parW lo hi (L.drop k) = (A, B, E) ∧
      Own2 wr y.w.heap.size (.int .u64 (A : Int)) (.int .u64 (B : Int)) ∧ Own2 wr (z.w.heap.size + 1) (.int .u64 (lo : Int)) (.int .u64 (hi : Int)) ∧ WordsAt wr g L ∧ Below w.heap.size w wr ∧ z.w.heap.size + 2 ≤ wr.heap.size) (fun i _ => L.length - (intOf i).toNat)
    case atStart => exact ⟨0, 0, 0, by omega, rfl, by omega, by omega, HPW.out, hX, hS, hwa, by (repeat' (first | (with_reducible exact Below.refl _ _) | (with_reducible exact Nat.le_refl _) | (with_reducible refine Below.bel ?_ ?_) | (with_reducible refine Below.alloc ?_ ?_ _) | (with_reducible refine Below.drew ?_) | (with_reducible refine Below.drawsN ?_ _) | (with_reducible refine Below.setCell ?_ ?_ _) | (with_reducible refine le_bel ?_) | (with_reducible refine le_alloc ?_) | (with_reducible refine le_setCell ?_) | (with_reducible refine le_drew ?_) | (with_reducible refine le_drawsN ?_) | (dsimp only; with_reducible refine le_bel ?_) | (dsimp only; with_reducible refine Nat.le_refl _) | (dsimp only; with_reducible refine le_bel_add ?_) | (with_reducible assumption) | omega | (dsimp only; omega))), by omega⟩
    case round =>
      clear hX hS hwa
      obtain ⟨k, lo, hi, hk, rfl, b1, b2, hp, hX, hS, hwa, hb, hsz⟩ := hrel
      have hbs := hb.size
      obtain ⟨x1, x2, x3, x4⟩ := hX
      obtain ⟨s1, s2, s3, s4⟩ := hS
      by_cases hlt : k < L.length
      · have hki : (k : Int) < (L.length : Int) := by omega
        obtain ⟨t, ht⟩ : ∃ t, L[k]? = some t := ⟨_, List.getElem?_eq_getElem hlt⟩
        have g1 := hwa k t ht
        rw [drop_cons ht] at hp
        clear ht
        have HR := Lib.hid (refnote_any t wr)
        rcases hv : noteOf t with _ | n
        · rw [parW_none hv] at hp
          rw [rnote_none hv] at HR
          have HE := Lib.hid (show A = 0 ∧ B = 0 ∧ E = 8 by cases hp; exact ⟨rfl, rfl, rfl⟩)
          clear hp hv hwa
          go_wp2_with fail
          (with_reducible refine HR.out.mono ?_)
          rintro _ _ ⟨rfl, y2, rfl⟩
          obtain ⟨rfl, rfl, rfl⟩ := HE.out
          dsimp only
          go_wp2
          go_ret
          exact Ret.mk (by simp) (by (repeat' (first | (with_reducible exact Below.refl _ _) | (with_reducible exact Nat.le_refl _) | (with_reducible refine Below.bel ?_ ?_) | (with_reducible refine Below.alloc ?_ ?_ _) | (with_reducible refine Below.drew ?_) | (with_reducible refine Below.drawsN ?_ _) | (with_reducible refine Below.setCell ?_ ?_ _) | (with_reducible refine le_bel ?_) | (with_reducible refine le_alloc ?_) | (with_reducible refine le_setCell ?_) | (with_reducible refine le_drew ?_) | (with_reducible refine le_drawsN ?_) | (dsimp only; with_reducible refine le_bel ?_) | (dsimp only; with_reducible refine Nat.le_refl _) | (dsimp only; with_reducible refine le_bel_add ?_) | (with_reducible assumption) | omega | (dsimp only; omega))))
        · rw [rnote_some hv] at HR
          have hn128 := (note_is hv).1
          have hn0 : decide ((n : Int) < 0) = false := decide_eq_false (by omega)
          cases hm : mem lo hi n
          · rw [parW_step hv hm] at hp
            have HP2 := Lib.hid hp
            have HMM := Lib.hid (memI_nat.trans hm)
            have q1 := withLo_lt n b1
            have q2 := withHi_lt n b2 (by omega)
            have HWA := Lib.hid hwa
            clear hp hv hwa hm
            go_wp2_with fail
            (with_reducible refine HR.out.mono ?_)
            rintro _ _ ⟨rfl, y2, rfl⟩
            have hy2 := y2.size_le
            dsimp only
            go_wp2_with fail
            (with_reducible refine (refhas_any lo hi (n : Int) _ b1 b2 (by omega) (by omega)).mono ?_)
            rintro _ _ ⟨rfl, y3, rfl⟩
            have hy3 := y3.size_le
            rw [HMM.out]
            dsimp only
            go_wp2_with fail
            (with_reducible refine (refwith_any lo hi n _ b1 b2 (by omega)).mono ?_)
            rintro _ _ ⟨rfl, y4, rfl⟩
            have hy4 := y4.size_le
            dsimp only
            generalize withLo lo n = lo' at *
            generalize withHi hi n = hi' at *
            go_wp2
            go_roundw
            case rel =>
              refine ⟨k + 1, lo', hi', by omega, by go_num, q1, q2, HP2.out, ?_, ?_, ?_, by (repeat' (first | (with_reducible exact Below.refl _ _) | (with_reducible exact Nat.le_refl _) | (with_reducible refine Below.bel ?_ ?_) | (with_reducible refine Below.alloc ?_ ?_ _) | (with_reducible refine Below.drew ?_) | (with_reducible refine Below.drawsN ?_ _) | (with_reducible refine Below.setCell ?_ ?_ _) | (with_reducible refine le_bel ?_) | (with_reducible refine le_alloc ?_) | (with_reducible refine le_setCell ?_) | (with_reducible refine le_drew ?_) | (with_reducible refine le_drawsN ?_) | (dsimp only; with_reducible refine le_bel ?_) | (dsimp only; with_reducible refine Nat.le_refl _) | (dsimp only; with_reducible refine le_bel_add ?_) | (with_reducible assumption) | omega | (dsimp only; omega))), by simp; omega⟩
              · have hne : y.w.heap.size ≠ z.w.heap.size + 1 := by omega
                unfold Own2; simp [go_sem, x1, x2, x3, x4, hne]
              · unfold Own2; simp [go_sem, s1, s2, s3, s4]
              · have hg1 : z.w.heap.size + 1 ≠ g := by omega
                exact ((((HWA.out.of y2.below).of y3.below).of y4.below).set hg1 _).set hg1 _
            case measure => simp [intOf]; omega
          · rw [parW_dup hv hm] at hp
            have HE := Lib.hid (show A = 0 ∧ B = 0 ∧ E = 9 by cases hp; exact ⟨rfl, rfl, rfl⟩)
            have HMM := Lib.hid (memI_nat.trans hm)
            clear hp hv hwa hm
            go_wp2_with fail
            (with_reducible refine HR.out.mono ?_)
            rintro _ _ ⟨rfl, y2, rfl⟩
            dsimp only
            go_wp2_with fail
            (with_reducible refine (refhas_any lo hi (n : Int) _ b1 b2 (by omega) (by omega)).mono ?_)
            rintro _ _ ⟨rfl, y3, rfl⟩
            rw [HMM.out]
            obtain ⟨rfl, rfl, rfl⟩ := HE.out
            dsimp only
            go_wp2
            go_ret
            exact Ret.mk (by simp) (by (repeat' (first | (with_reducible exact Below.refl _ _) | (with_reducible exact Nat.le_refl _) | (with_reducible refine Below.bel ?_ ?_) | (with_reducible refine Below.alloc ?_ ?_ _) | (with_reducible refine Below.drew ?_) | (with_reducible refine Below.drawsN ?_ _) | (with_reducible refine Below.setCell ?_ ?_ _) | (with_reducible refine le_bel ?_) | (with_reducible refine le_alloc ?_) | (with_reducible refine le_setCell ?_) | (with_reducible refine le_drew ?_) | (with_reducible refine le_drawsN ?_) | (dsimp only; with_reducible refine le_bel ?_) | (dsimp only; with_reducible refine Nat.le_refl _) | (dsimp only; with_reducible refine le_bel_add ?_) | (with_reducible assumption) | omega | (dsimp only; omega))))
      · obtain rfl : k = L.length := by omega
        rw [List.drop_length, parW] at hp
        have HE := Lib.hid (show A = lo ∧ B = hi ∧ E = 0 by cases hp; exact ⟨rfl, rfl, rfl⟩)
        clear hp hwa
        obtain ⟨rfl, rfl, rfl⟩ := HE.out
        go_wp2
        go_ret
        exact Ret.mk (by simp) (by (repeat' (first | (with_reducible exact Below.refl _ _) | (with_reducible exact Nat.le_refl _) | (with_reducible refine Below.bel ?_ ?_) | (with_reducible refine Below.alloc ?_ ?_ _) | (with_reducible refine Below.drew ?_) | (with_reducible refine Below.drawsN ?_ _) | (with_reducible refine Below.setCell ?_ ?_ _) | (with_reducible refine le_bel ?_) | (with_reducible refine le_alloc ?_) | (with_reducible refine le_setCell ?_) | (with_reducible refine le_drew ?_) | (with_reducible refine le_drawsN ?_) | (dsimp only; with_reducible refine le_bel ?_) | (dsimp only; with_reducible refine Nat.le_refl _) | (dsimp only; with_reducible refine le_bel_add ?_) | (with_reducible assumption) | omega | (dsimp only; omega))))
end Go.Proofs.YtjojdkdpdlmahaaDoor
