/- The text of a quotient. -/
import Derived.Test.YtoncbkkhfblpdaaDoorO1
namespace Go.Proofs.YtoncbkkhfblpdaaDoor
open Go.RowKit
attribute [local go_sem low] Bel.cell Bel.frozen alloc_cell alloc_frozen

/-- What `quotient` answers: the number over the line, that under it, and whether it is one. -/
def quoV (l : List UInt8) : Int × Int × Bool :=
  if nd l = 0 then (0, 0, false) else
    match l.drop (nd l) with
    | [] => (0, 0, false)
    | c :: t => if c.toNat = 47 then (num l, num t, decide (0 < nd t) && (t.drop (nd t)).isEmpty) else (0, 0, false)

set_option maxRecDepth 20000 in
set_option maxHeartbeats 3200000 in
theorem quotient_any (l : List UInt8) (w : World) (hl : l.length ≤ 60) :
    Calls Tryd.prog 53 #[.string ⟨l.toArray⟩] w (Ret (.tuple #[.int .i64 (quoV l).1, .int .i64 (quoV l).2.1, .bool (quoV l).2.2]) w) := by
  have HD := digits_any l w hl
  by_cases h0 : nd l = 0
  · have hq : quoV l = (0, 0, false) := by unfold quoV; rw [if_pos h0]
    rw [hq]
    rw [h0] at HD
    dsimp only
    have hf : (decide (0 < 0)) = false := rfl
    rw [hf] at HD
    go_enter Tryd.func53, Tryd.ntmps53
    go_wp2_with fail
    (with_reducible refine (HD).mono ?_)
    rintro _ _ ⟨rfl, x, rfl⟩
    go_wp2
    go_ret3
    exact Ret.mk (by rfl) (by (repeat' (first | (with_reducible exact Below.refl _ _) | (with_reducible exact Nat.le_refl _) | (with_reducible refine Below.bel ?_ ?_) | (with_reducible refine Below.alloc ?_ ?_ _) | (with_reducible refine Below.drew ?_) | (with_reducible refine Below.drawsN ?_ _) | (with_reducible refine Below.setCell ?_ ?_ _) | (with_reducible refine le_bel ?_) | (with_reducible refine le_alloc ?_) | (with_reducible refine le_setCell ?_) | (with_reducible refine le_drew ?_) | (with_reducible refine le_drawsN ?_) | (dsimp only; with_reducible refine le_bel ?_) | (dsimp only; with_reducible refine Nat.le_refl _) | (dsimp only; with_reducible refine le_bel_add ?_) | (with_reducible assumption) | omega | (dsimp only; omega))))
  · obtain ⟨r, hr⟩ : ∃ r, r = l.drop (nd l) := ⟨_, rfl⟩
    rw [← hr] at HD
    have hf : (decide (0 < nd l)) = true := by simp; omega
    rw [hf] at HD
    cases hc : r with
    | nil =>
      have hq : quoV l = (0, 0, false) := by unfold quoV; rw [if_neg h0, ← hr, hc]
      rw [hq]
      dsimp only
      rw [hc] at HD
      go_enter Tryd.func53, Tryd.ntmps53
      go_wp2_with fail
      (with_reducible refine (HD).mono ?_)
      rintro _ _ ⟨rfl, x, rfl⟩
      go_wp2
      go_ret3
      exact Ret.mk (by rfl) (by (repeat' (first | (with_reducible exact Below.refl _ _) | (with_reducible exact Nat.le_refl _) | (with_reducible refine Below.bel ?_ ?_) | (with_reducible refine Below.alloc ?_ ?_ _) | (with_reducible refine Below.drew ?_) | (with_reducible refine Below.drawsN ?_ _) | (with_reducible refine Below.setCell ?_ ?_ _) | (with_reducible refine le_bel ?_) | (with_reducible refine le_alloc ?_) | (with_reducible refine le_setCell ?_) | (with_reducible refine le_drew ?_) | (with_reducible refine le_drawsN ?_) | (dsimp only; with_reducible refine le_bel ?_) | (dsimp only; with_reducible refine Nat.le_refl _) | (dsimp only; with_reducible refine le_bel_add ?_) | (with_reducible assumption) | omega | (dsimp only; omega))))
    | cons c t => 
      have hrl : r.length = t.length + 1 := by rw [hc]; rfl
      have hrb : r.length ≤ 60 := by rw [hr, List.length_drop]; omega
      have hx := fun h => byte_at (l := r) (k := 0) (c := c) (by rw [hc]; rfl) h
      have hsl : (ByteArray.mk r.toArray).extract 1 (t.length + 1) = ⟨t.toArray⟩ := by rw [← hrl, extract_drop, hc]; rfl
      have HT := fun w' => digits_any t w' (by omega)
      have hb := num_bd t
      have hb2 := num_bd l
      have hc8 := UInt8.toNat_lt c
      have hne : ((ByteArray.mk r.toArray).toList == ([] : List UInt8)) = false := by rw [hc, ByteArray.toList_mk]; rfl
      have hne' : (r == ([] : List UInt8)) = false := by rw [hc]; rfl
      have hne'' : r ≠ [] := by rw [hc]; simp
      by_cases h47 : c.toNat = 47
      · have hq : quoV l = (num l, num t, decide (0 < nd t) && (t.drop (nd t)).isEmpty) := by unfold quoV; rw [if_neg h0, ← hr, hc]; dsimp only; rw [if_pos h47]
        rw [hq]
        dsimp only
        generalize num l = nl at *
        clear hc hr hq
        cases hn : decide (0 < nd t)
        · rw [hn] at HT
          generalize num t = nt at *
          go_enter Tryd.func53, Tryd.ntmps53
          go_wp2_with fail
          (with_reducible refine (HD).mono ?_)
          rintro _ _ ⟨rfl, x, rfl⟩
          go_wp2_with fail
          (with_reducible refine ((HT x.w)).mono ?_)
          rintro _ _ ⟨rfl, y, rfl⟩
          go_wp2
          go_ret3
          exact Ret.mk (by rfl) (by (repeat' (first | (with_reducible exact Below.refl _ _) | (with_reducible exact Nat.le_refl _) | (with_reducible refine Below.bel ?_ ?_) | (with_reducible refine Below.alloc ?_ ?_ _) | (with_reducible refine Below.drew ?_) | (with_reducible refine Below.drawsN ?_ _) | (with_reducible refine Below.setCell ?_ ?_ _) | (with_reducible refine le_bel ?_) | (with_reducible refine le_alloc ?_) | (with_reducible refine le_setCell ?_) | (with_reducible refine le_drew ?_) | (with_reducible refine le_drawsN ?_) | (dsimp only; with_reducible refine le_bel ?_) | (dsimp only; with_reducible refine Nat.le_refl _) | (dsimp only; with_reducible refine le_bel_add ?_) | (with_reducible assumption) | omega | (dsimp only; omega))))
        · rw [hn] at HT
          generalize num t = nt at *
          cases hk : t.drop (nd t) with
          | nil =>
            rw [hk] at HT
            go_enter Tryd.func53, Tryd.ntmps53
            go_wp2_with fail
            (with_reducible refine (HD).mono ?_)
            rintro _ _ ⟨rfl, x, rfl⟩
            go_wp2_with fail
            (with_reducible refine ((HT x.w)).mono ?_)
            rintro _ _ ⟨rfl, y, rfl⟩
            go_wp2
            go_ret3
            exact Ret.mk (by rfl) (by (repeat' (first | (with_reducible exact Below.refl _ _) | (with_reducible exact Nat.le_refl _) | (with_reducible refine Below.bel ?_ ?_) | (with_reducible refine Below.alloc ?_ ?_ _) | (with_reducible refine Below.drew ?_) | (with_reducible refine Below.drawsN ?_ _) | (with_reducible refine Below.setCell ?_ ?_ _) | (with_reducible refine le_bel ?_) | (with_reducible refine le_alloc ?_) | (with_reducible refine le_setCell ?_) | (with_reducible refine le_drew ?_) | (with_reducible refine le_drawsN ?_) | (dsimp only; with_reducible refine le_bel ?_) | (dsimp only; with_reducible refine Nat.le_refl _) | (dsimp only; with_reducible refine le_bel_add ?_) | (with_reducible assumption) | omega | (dsimp only; omega))))
          | cons d u =>
            have hne2 : ((ByteArray.mk (d :: u).toArray).toList == ([] : List UInt8)) = false := by rw [ByteArray.toList_mk]; rfl
            have hne3 : ((d :: u) == ([] : List UInt8)) = false := rfl
            have hne4 : (d :: u) ≠ ([] : List UInt8) := by simp
            have hdu : (d :: u).isEmpty = false := rfl
            rw [hdu]
            rw [hk] at HT
            generalize d :: u = du at *
            go_enter Tryd.func53, Tryd.ntmps53
            go_wp2_with fail
            (with_reducible refine (HD).mono ?_)
            rintro _ _ ⟨rfl, x, rfl⟩
            go_wp2_with fail
            (with_reducible refine ((HT x.w)).mono ?_)
            rintro _ _ ⟨rfl, y, rfl⟩
            go_wp2
            go_ret3
            exact Ret.mk (by rfl) (by (repeat' (first | (with_reducible exact Below.refl _ _) | (with_reducible exact Nat.le_refl _) | (with_reducible refine Below.bel ?_ ?_) | (with_reducible refine Below.alloc ?_ ?_ _) | (with_reducible refine Below.drew ?_) | (with_reducible refine Below.drawsN ?_ _) | (with_reducible refine Below.setCell ?_ ?_ _) | (with_reducible refine le_bel ?_) | (with_reducible refine le_alloc ?_) | (with_reducible refine le_setCell ?_) | (with_reducible refine le_drew ?_) | (with_reducible refine le_drawsN ?_) | (dsimp only; with_reducible refine le_bel ?_) | (dsimp only; with_reducible refine Nat.le_refl _) | (dsimp only; with_reducible refine le_bel_add ?_) | (with_reducible assumption) | omega | (dsimp only; omega))))
      · have hq : quoV l = (0, 0, false) := by unfold quoV; rw [if_neg h0, ← hr, hc]; dsimp only; rw [if_neg h47]
        rw [hq]
        dsimp only
        generalize num l = nl at *
        clear hc hr hq
        go_enter Tryd.func53, Tryd.ntmps53
        go_wp2_with fail
        (with_reducible refine (HD).mono ?_)
        rintro _ _ ⟨rfl, x, rfl⟩
        go_wp2
        go_ret3
        exact Ret.mk (by rfl) (by (repeat' (first | (with_reducible exact Below.refl _ _) | (with_reducible exact Nat.le_refl _) | (with_reducible refine Below.bel ?_ ?_) | (with_reducible refine Below.alloc ?_ ?_ _) | (with_reducible refine Below.drew ?_) | (with_reducible refine Below.drawsN ?_ _) | (with_reducible refine Below.setCell ?_ ?_ _) | (with_reducible refine le_bel ?_) | (with_reducible refine le_alloc ?_) | (with_reducible refine le_setCell ?_) | (with_reducible refine le_drew ?_) | (with_reducible refine le_drawsN ?_) | (dsimp only; with_reducible refine le_bel ?_) | (dsimp only; with_reducible refine Nat.le_refl _) | (dsimp only; with_reducible refine le_bel_add ?_) | (with_reducible assumption) | omega | (dsimp only; omega))))
end Go.Proofs.YtoncbkkhfblpdaaDoor
