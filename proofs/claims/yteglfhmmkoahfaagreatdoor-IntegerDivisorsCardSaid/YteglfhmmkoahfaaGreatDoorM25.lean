/- fits. -/
import Derived.Test.YteglfhmmkoahfaaGreatDoorM24
import Derived.Test.YteglfhmmkoahfaaGreatDoorM13
namespace Go.Proofs.YteglfhmmkoahfaaGreatDoor
open Go.RowKit Go.Shelf
attribute [local go_sem low] Bel.cell Bel.frozen alloc_cell alloc_frozen

def fitV (l : List UInt8) : Bool := decide (l.length ≤ 90) && canV l
theorem fitV_int {l : List UInt8} (h : fitV l = true) : ∃ z, l = iT z ∧ nd z ≤ 90 := by
  unfold fitV at h
  simp at h
  obtain ⟨z, hz, hd⟩ := canV_int h.2
  refine ⟨z, hz, ?_⟩
  have := trimP_len l
  rw [hd] at this
  unfold nd
  omega
/-- A slice that shows texts. -/
def Texts (w : World) (a : Option Addr) (ls : List (List UInt8)) : Prop := 0 < ls.length → ∃ b off, a = some ⟨b, off, none⟩ ∧ ∀ (j : Nat) l, ls[j]? = some l → w.cell? ⟨b, off + j, none⟩ = some (.string ⟨l.toArray⟩)
set_option maxRecDepth 100000 in
set_option maxHeartbeats 6400000 in
theorem fits_any (a : Option Addr) (cap : Nat) (ls : List (List UInt8)) (w : World) (hT : Texts w a ls) (hn : ls.length ≤ 1000) (hl : ∀ l ∈ ls, l.length ≤ 9223372036854775807) :
    Calls Tryz.prog 10 #[.slice a ls.length cap] w (Ret (.bool (ls.all fitV)) w) := by
  go_enter Tryz.func10, Tryz.ntmps10
  go_wp2
  go_loopw [3] (fun i wr => ∃ k : Nat, k ≤ ls.length ∧ i = .int .i64 (k : Int) ∧ (ls.take k).all fitV = true ∧ Below w.heap.size w wr) (fun i _ => ls.length - (intOf i).toNat)
  case atStart => exact ⟨0, by omega, rfl, rfl, by (repeat' (first | (with_reducible exact Below.refl _ _) | (with_reducible exact Nat.le_refl _) | (with_reducible refine Below.bel ?_ ?_) | (with_reducible refine Below.alloc ?_ ?_ _) | (with_reducible refine Below.drew ?_) | (with_reducible refine Below.drawsN ?_ _) | (with_reducible refine Below.setCell ?_ ?_ _) | (with_reducible refine le_bel ?_) | (with_reducible refine le_alloc ?_) | (with_reducible refine le_setCell ?_) | (with_reducible refine le_drew ?_) | (with_reducible refine le_drawsN ?_) | (dsimp only; with_reducible refine le_bel ?_) | (dsimp only; with_reducible refine Nat.le_refl _) | (dsimp only; with_reducible refine le_bel_add ?_) | (with_reducible assumption) | omega | (dsimp only; omega)))⟩
  case round =>
    obtain ⟨k, hk, rfl, hall, hb⟩ := hrel
    have hbs := hb.size
    by_cases hkl : k < ls.length
    · have hki : (k : Int) < (ls.length : Int) := by omega
      obtain ⟨b, off, rfl, hc⟩ := hT (by omega)
      obtain ⟨q, hq⟩ : ∃ q, ls[k]? = some q := ⟨_, List.getElem?_eq_getElem hkl⟩
      have g1 := cell_carry hb (hc k q hq)
      have htk : ls.take (k + 1) = ls.take k ++ [q] := by rw [List.take_add_one, hq]; rfl
      have hql := hl q (List.mem_of_getElem? hq)
      by_cases h90 : 90 < q.length
      · have e1 : decide ((90 : Int) < (q.length : Int)) = true := decide_eq_true (by omega)
        have HALL := Lib.hid (show ls.all fitV = false by
          rw [List.all_eq_false]
          exact ⟨q, List.mem_of_getElem? hq, by unfold fitV; rw [decide_eq_false (by omega)]; simp⟩)
        clear hq htk hall hc hT hl h90
        go_wp2
        go_ret
        exact Ret.mk (by rw [HALL.out]; rfl) (by (repeat' (first | (with_reducible exact Below.refl _ _) | (with_reducible exact Nat.le_refl _) | (with_reducible refine Below.bel ?_ ?_) | (with_reducible refine Below.alloc ?_ ?_ _) | (with_reducible refine Below.drew ?_) | (with_reducible refine Below.drawsN ?_ _) | (with_reducible refine Below.setCell ?_ ?_ _) | (with_reducible refine le_bel ?_) | (with_reducible refine le_alloc ?_) | (with_reducible refine le_setCell ?_) | (with_reducible refine le_drew ?_) | (with_reducible refine le_drawsN ?_) | (dsimp only; with_reducible refine le_bel ?_) | (dsimp only; with_reducible refine Nat.le_refl _) | (dsimp only; with_reducible refine le_bel_add ?_) | (with_reducible assumption) | omega | (dsimp only; omega))))
      · have e1 : decide ((90 : Int) < (q.length : Int)) = false := decide_eq_false (by omega)
        have HQ := Lib.hid (fun w' => canonical_any q w' (by omega))
        cases hD : canV q
        · have HALL := Lib.hid (show ls.all fitV = false by
            rw [List.all_eq_false]
            exact ⟨q, List.mem_of_getElem? hq, by unfold fitV; rw [hD]; simp⟩)
          rw [hD] at HQ
          clear hq htk hall hc hT hl h90 hD
          go_wp2_with fail
          (with_reducible refine (HQ.out _).mono ?_)
          rintro _ _ ⟨rfl, y, rfl⟩
          go_wp2
          go_ret
          exact Ret.mk (by rw [HALL.out]; rfl) (by (repeat' (first | (with_reducible exact Below.refl _ _) | (with_reducible exact Nat.le_refl _) | (with_reducible refine Below.bel ?_ ?_) | (with_reducible refine Below.alloc ?_ ?_ _) | (with_reducible refine Below.drew ?_) | (with_reducible refine Below.drawsN ?_ _) | (with_reducible refine Below.setCell ?_ ?_ _) | (with_reducible refine le_bel ?_) | (with_reducible refine le_alloc ?_) | (with_reducible refine le_setCell ?_) | (with_reducible refine le_drew ?_) | (with_reducible refine le_drawsN ?_) | (dsimp only; with_reducible refine le_bel ?_) | (dsimp only; with_reducible refine Nat.le_refl _) | (dsimp only; with_reducible refine le_bel_add ?_) | (with_reducible assumption) | omega | (dsimp only; omega))))
        · have HALL := Lib.hid (show (ls.take (k + 1)).all fitV = true by rw [htk, List.all_append, hall]; simp [fitV, hD]; omega)
          rw [hD] at HQ
          clear hq htk hall hc hT hl h90 hD
          go_wp2_with fail
          (with_reducible refine (HQ.out _).mono ?_)
          rintro _ _ ⟨rfl, y, rfl⟩
          go_wp2
          go_roundw
          case rel => exact ⟨k + 1, by omega, by go_num, HALL.out, by (repeat' (first | (with_reducible exact Below.refl _ _) | (with_reducible exact Nat.le_refl _) | (with_reducible refine Below.bel ?_ ?_) | (with_reducible refine Below.alloc ?_ ?_ _) | (with_reducible refine Below.drew ?_) | (with_reducible refine Below.drawsN ?_ _) | (with_reducible refine Below.setCell ?_ ?_ _) | (with_reducible refine le_bel ?_) | (with_reducible refine le_alloc ?_) | (with_reducible refine le_setCell ?_) | (with_reducible refine le_drew ?_) | (with_reducible refine le_drawsN ?_) | (dsimp only; with_reducible refine le_bel ?_) | (dsimp only; with_reducible refine Nat.le_refl _) | (dsimp only; with_reducible refine le_bel_add ?_) | (with_reducible assumption) | omega | (dsimp only; omega)))⟩
          case measure => simp [intOf]; omega
    · obtain rfl : k = ls.length := by omega
      rw [List.take_length] at hall
      have HALL := Lib.hid hall
      clear hall hT hl
      go_wp2
      go_ret
      exact Ret.mk (by rw [HALL.out]; rfl) (by (repeat' (first | (with_reducible exact Below.refl _ _) | (with_reducible exact Nat.le_refl _) | (with_reducible refine Below.bel ?_ ?_) | (with_reducible refine Below.alloc ?_ ?_ _) | (with_reducible refine Below.drew ?_) | (with_reducible refine Below.drawsN ?_ _) | (with_reducible refine Below.setCell ?_ ?_ _) | (with_reducible refine le_bel ?_) | (with_reducible refine le_alloc ?_) | (with_reducible refine le_setCell ?_) | (with_reducible refine le_drew ?_) | (with_reducible refine le_drawsN ?_) | (dsimp only; with_reducible refine le_bel ?_) | (dsimp only; with_reducible refine Nat.le_refl _) | (dsimp only; with_reducible refine le_bel_add ?_) | (with_reducible assumption) | omega | (dsimp only; omega))))
end Go.Proofs.YteglfhmmkoahfaaGreatDoor
