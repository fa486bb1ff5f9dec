/- Reading digits (the reference). -/
import Derived.Test.YtoncbkkhfblpdaaDoorO
namespace Go.Proofs.YtoncbkkhfblpdaaDoor
open Go.RowKit
attribute [local go_sem low] Bel.cell Bel.frozen alloc_cell alloc_frozen

set_option maxRecDepth 20000 in
set_option maxHeartbeats 3200000 in
theorem number_any (l : List UInt8) (w : World) (hl : l.length ≤ 60) :
    Calls Tryd.prog 55 #[.string ⟨l.toArray⟩] w (Ret (.tuple #[.int .i64 (nd l), .int .i64 (num l)]) w) := by
  go_enter Tryd.func55, Tryd.ntmps55
  go_wp2
  go_loopw [2, 3] (fun i v wr => ∃ k : Nat, k ≤ l.length ∧ i = .int .i64 (k : Int) ∧ v = .int .i64 (numOf (l.take k)) ∧ (l.take k).all isD = true ∧ wr = w) (fun i _ _ => l.length - (intOf i).toNat)
  case atStart => exact ⟨0, by omega, rfl, rfl, rfl, rfl⟩
  case round =>
    obtain ⟨k, hk, rfl, rfl, hall, rfl⟩ := hrel
    obtain ⟨b1, b2⟩ := numOf_bd _ hall
    have HA := Lib.hid hall
    clear hall
    by_cases hlt : k < l.length
    · obtain ⟨c, hc⟩ : ∃ c, l[k]? = some c := ⟨_, List.getElem?_eq_getElem hlt⟩
      have hx := fun h => byte_at hc h
      have hc8 := UInt8.toNat_lt c
      have HC := Lib.hid hc
      clear hc
      by_cases hd : 48 ≤ (c.toNat : Int) ∧ (c.toNat : Int) ≤ 57
      · have hst := numOf_snoc (l.take k) c
        generalize hn : numOf (l.take k) = n at *
        have HN := Lib.hid hn
        have HS := Lib.hid hst
        clear hn hst
        obtain ⟨hd1, hd2⟩ := hd
        go_wp2
        go_roundw
        case rel =>
          have h1 : l.take (k + 1) = l.take k ++ [c] := by rw [List.take_add_one, HC.out]; rfl
          refine ⟨k + 1, by omega, by go_num, ?_, ?_, by first | rfl | trivial⟩
          · rw [h1, HS.out]; rfl
          · rw [h1, List.all_append, HA.out]; simp [isD, hd1, hd2]
        case measure => simp [intOf]; omega
      · have hD : isD c = false := by unfold isD; rw [decide_eq_false_iff_not]; exact hd
        have hw := takeWhile_eq hk HA.out (.inr ⟨c, HC.out, hD⟩)
        obtain ⟨e1, e2⟩ := nd_at hw hk
        have E1 := Lib.hid e1
        have E2 := Lib.hid e2
        clear e1 e2 hw hD
        generalize hn : numOf (l.take k) = n at *
        clear hn
        by_cases h48 : 48 ≤ (c.toNat : Int)
        · have h57 : ¬ (c.toNat : Int) ≤ 57 := fun h => hd ⟨h48, h⟩
          clear hd
          go_wp2
          go_ret2
          exact Ret.mk (by rw [E1.out, E2.out]; rfl) (by (repeat' (first | (with_reducible exact Below.refl _ _) | (with_reducible exact Nat.le_refl _) | (with_reducible refine Below.bel ?_ ?_) | (with_reducible refine Below.alloc ?_ ?_ _) | (with_reducible refine Below.drew ?_) | (with_reducible refine Below.drawsN ?_ _) | (with_reducible refine Below.setCell ?_ ?_ _) | (with_reducible refine le_bel ?_) | (with_reducible refine le_alloc ?_) | (with_reducible refine le_setCell ?_) | (with_reducible refine le_drew ?_) | (with_reducible refine le_drawsN ?_) | (dsimp only; with_reducible refine le_bel ?_) | (dsimp only; with_reducible refine Nat.le_refl _) | (dsimp only; with_reducible refine le_bel_add ?_) | (with_reducible assumption) | omega | (dsimp only; omega))))
        · clear hd
          go_wp2
          go_ret2
          exact Ret.mk (by rw [E1.out, E2.out]; rfl) (by (repeat' (first | (with_reducible exact Below.refl _ _) | (with_reducible exact Nat.le_refl _) | (with_reducible refine Below.bel ?_ ?_) | (with_reducible refine Below.alloc ?_ ?_ _) | (with_reducible refine Below.drew ?_) | (with_reducible refine Below.drawsN ?_ _) | (with_reducible refine Below.setCell ?_ ?_ _) | (with_reducible refine le_bel ?_) | (with_reducible refine le_alloc ?_) | (with_reducible refine le_setCell ?_) | (with_reducible refine le_drew ?_) | (with_reducible refine le_drawsN ?_) | (dsimp only; with_reducible refine le_bel ?_) | (dsimp only; with_reducible refine Nat.le_refl _) | (dsimp only; with_reducible refine le_bel_add ?_) | (with_reducible assumption) | omega | (dsimp only; omega))))
    · have hkl : k = l.length := by omega
      have hw := takeWhile_eq hk HA.out (.inl hkl)
      obtain ⟨e1, e2⟩ := nd_at hw hk
      have E1 := Lib.hid e1
      have E2 := Lib.hid e2
      clear e1 e2 hw
      generalize hn : numOf (l.take k) = n at *
      clear hn
      go_wp2
      go_ret2
      exact Ret.mk (by rw [E1.out, E2.out]; rfl) (by (repeat' (first | (with_reducible exact Below.refl _ _) | (with_reducible exact Nat.le_refl _) | (with_reducible refine Below.bel ?_ ?_) | (with_reducible refine Below.alloc ?_ ?_ _) | (with_reducible refine Below.drew ?_) | (with_reducible refine Below.drawsN ?_ _) | (with_reducible refine Below.setCell ?_ ?_ _) | (with_reducible refine le_bel ?_) | (with_reducible refine le_alloc ?_) | (with_reducible refine le_setCell ?_) | (with_reducible refine le_drew ?_) | (with_reducible refine le_drawsN ?_) | (dsimp only; with_reducible refine le_bel ?_) | (dsimp only; with_reducible refine Nat.le_refl _) | (dsimp only; with_reducible refine le_bel_add ?_) | (with_reducible assumption) | omega | (dsimp only; omega))))
end Go.Proofs.YtoncbkkhfblpdaaDoor
