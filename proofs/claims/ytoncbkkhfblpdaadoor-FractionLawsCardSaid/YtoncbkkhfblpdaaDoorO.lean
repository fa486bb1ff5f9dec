/- Reading digits. -/
import Derived.Test.YtoncbkkhfblpdaaDoorN
namespace Go.Proofs.YtoncbkkhfblpdaaDoor
open Go.RowKit
attribute [local go_sem low] Bel.cell Bel.frozen alloc_cell alloc_frozen

def isD (c : UInt8) : Bool := decide (48 ≤ (c.toNat : Int) ∧ (c.toNat : Int) ≤ 57)
def numF (a : Int) (c : UInt8) : Int := min (10 * a + ((c.toNat : Int) - 48)) 1000001
def numOf (l : List UInt8) : Int := l.foldl numF 0
/-- The digits at the beginning: how many, and what they write. -/
def nd (l : List UInt8) : Nat := (l.takeWhile isD).length
def num (l : List UInt8) : Int := numOf (l.takeWhile isD)
theorem takeWhile_eq {l : List UInt8} {k : Nat} (hk : k ≤ l.length) (h : (l.take k).all isD = true) (he : k = l.length ∨ ∃ c, l[k]? = some c ∧ isD c = false) : l.takeWhile isD = l.take k := by
  induction l generalizing k with
  | nil => simp at hk; subst hk; rfl
  | cons c r ih =>
    cases k with
    | zero =>
      rcases he with he | ⟨c', hc, hd⟩
      · simp at he
      · simp at hc; subst hc; simp [hd]
    | succ k =>
      simp only [List.take_succ_cons, List.all_cons, Bool.and_eq_true] at h
      rw [List.takeWhile_cons, if_pos h.1, List.take_succ_cons, ih (by simpa using hk) h.2 (by simpa using he)]
theorem numOf_snoc (l : List UInt8) (c : UInt8) : numOf (l ++ [c]) = numF (numOf l) c := by simp [numOf, List.foldl_append]
theorem numOf_bd : ∀ l : List UInt8, l.all isD = true → 0 ≤ numOf l ∧ numOf l ≤ 1000001 := by
  have key : ∀ (l : List UInt8) (a : Int), 0 ≤ a → a ≤ 1000001 → l.all isD = true → 0 ≤ l.foldl numF a ∧ l.foldl numF a ≤ 1000001 := by
    intro l
    induction l with
    | nil => intro a h1 h2 _; exact ⟨h1, h2⟩
    | cons c r ih =>
      intro a h1 h2 h
      simp only [List.all_cons, Bool.and_eq_true] at h
      have hc := h.1
      unfold isD at hc
      rw [decide_eq_true_iff] at hc
      exact ih _ (by unfold numF; omega) (by unfold numF; omega) h.2
  intro l h
  exact key l 0 (by omega) (by omega) h
theorem all_takeWhile (l : List UInt8) : (l.takeWhile isD).all isD = true := by
  induction l with
  | nil => rfl
  | cons c r ih =>
    by_cases h : isD c = true
    · rw [List.takeWhile_cons, if_pos h, List.all_cons, h, ih]; rfl
    · rw [List.takeWhile_cons, if_neg h]; rfl
theorem num_bd (l : List UInt8) : 0 ≤ num l ∧ num l ≤ 1000001 := numOf_bd _ (all_takeWhile l)
theorem nd_le (l : List UInt8) : nd l ≤ l.length := (List.takeWhile_prefix isD).length_le

theorem byte_at {l : List UInt8} {k : Nat} {c : UInt8} (h : l[k]? = some c) (hk : k < (ByteArray.mk l.toArray).size) : (ByteArray.mk l.toArray)[k]'hk = c := by
  have h2 := List.getElem?_eq_getElem (l := l) (i := k) (by simpa [ByteArray.size] using hk)
  rw [h] at h2
  exact (Option.some.inj h2).symm
theorem nd_at {l : List UInt8} {k : Nat} (h : l.takeWhile isD = l.take k) (hk : k ≤ l.length) : nd l = k ∧ num l = numOf (l.take k) := by
  unfold nd num
  rw [h, List.length_take]
  exact ⟨by omega, rfl⟩

theorem extract_drop (l : List UInt8) (k : Nat) : (ByteArray.mk l.toArray).extract k l.length = ⟨(l.drop k).toArray⟩ := by
  have h : ((ByteArray.mk l.toArray).extract k l.length).data = (l.drop k).toArray := by
    rw [ByteArray.data_extract, List.extract_toArray, List.extract_eq_take_drop, List.take_of_length_le (by simp)]
  rw [← h]
set_option maxRecDepth 20000 in
set_option maxHeartbeats 3200000 in
theorem digits_any (l : List UInt8) (w : World) (hl : l.length ≤ 60) :
    Calls Tryd.prog 52 #[.string ⟨l.toArray⟩] w (Ret (.tuple #[.int .i64 (num l), .string ⟨(l.drop (nd l)).toArray⟩, .bool (decide (0 < nd l))]) w) := by
  go_enter Tryd.func52, Tryd.ntmps52
  go_wp2
  go_loopw [2, 5] (fun v i wr => ∃ k : Nat, k ≤ l.length ∧ v = .int .i64 (numOf (l.take k)) ∧ i = .int .i64 (k : Int) ∧ (l.take k).all isD = true ∧ wr = w) (fun _ i _ => l.length - (intOf i).toNat)
  case atStart => exact ⟨0, by omega, rfl, rfl, rfl, rfl⟩
  case round =>
    obtain ⟨k, hk, rfl, rfl, hall, rfl⟩ := hrel
    obtain ⟨b1, b2⟩ := numOf_bd _ hall
    have HA := Lib.hid hall
    clear hall
    by_cases hlt : k < l.length
    · obtain ⟨c, hc⟩ : ∃ c, l[k]? = some c := ⟨_, List.getElem?_eq_getElem hlt⟩
      have hx := fun h => byte_at hc h
      have hc8 := UInt8.toNat_lt c
      have HC := Lib.hid hc
      clear hc
      by_cases hd : 48 ≤ (c.toNat : Int) ∧ (c.toNat : Int) ≤ 57
      · have hst := numOf_snoc (l.take k) c
        generalize hn : numOf (l.take k) = n at *
        have HN := Lib.hid hn
        have HS := Lib.hid hst
        clear hn hst
        obtain ⟨hd1, hd2⟩ := hd
        go_wp2
        go_roundw
        case rel =>
          have h1 : l.take (k + 1) = l.take k ++ [c] := by rw [List.take_add_one, HC.out]; rfl
          refine ⟨k + 1, by omega, ?_, by go_num, ?_, by first | rfl | trivial⟩
          · rw [h1, HS.out]; rfl
          · rw [h1, List.all_append, HA.out]; simp [isD, hd1, hd2]
        case measure => simp [intOf]; omega
      · have hD : isD c = false := by unfold isD; rw [decide_eq_false_iff_not]; exact hd
        have hw := takeWhile_eq hk HA.out (.inr ⟨c, HC.out, hD⟩)
        obtain ⟨e1, e2⟩ := nd_at hw hk
        have E1 := Lib.hid e1
        have E2 := Lib.hid e2
        clear e1 e2 hw hD
        generalize hn : numOf (l.take k) = n at *
        clear hn
        by_cases h48 : 48 ≤ (c.toNat : Int)
        · have h57 : ¬ (c.toNat : Int) ≤ 57 := fun h => hd ⟨h48, h⟩
          clear hd
          go_wp2
          refine wp_region_bel (by kernel_rfl) (by kernel_rfl) ?_
          repeat (go_big_quiet_step (fail))
          refine wpQuiet_nil ?_
          rintro _ ⟨x, rfl⟩
          go_wp2
          go_ret3
          exact Ret.mk (by rw [E1.out, E2.out, ← extract_drop]; rfl) (by (repeat' (first | (with_reducible exact Below.refl _ _) | (with_reducible exact Nat.le_refl _) | (with_reducible refine Below.bel ?_ ?_) | (with_reducible refine Below.alloc ?_ ?_ _) | (with_reducible refine Below.drew ?_) | (with_reducible refine Below.drawsN ?_ _) | (with_reducible refine Below.setCell ?_ ?_ _) | (with_reducible refine le_bel ?_) | (with_reducible refine le_alloc ?_) | (with_reducible refine le_setCell ?_) | (with_reducible refine le_drew ?_) | (with_reducible refine le_drawsN ?_) | (dsimp only; with_reducible refine le_bel ?_) | (dsimp only; with_reducible refine Nat.le_refl _) | (dsimp only; with_reducible refine le_bel_add ?_) | (with_reducible assumption) | omega | (dsimp only; omega))))
        · clear hd
          go_wp2
          refine wp_region_bel (by kernel_rfl) (by kernel_rfl) ?_
          repeat (go_big_quiet_step (fail))
          refine wpQuiet_nil ?_
          rintro _ ⟨x, rfl⟩
          go_wp2
          go_ret3
          exact Ret.mk (by rw [E1.out, E2.out, ← extract_drop]; rfl) (by (repeat' (first | (with_reducible exact Below.refl _ _) | (with_reducible exact Nat.le_refl _) | (with_reducible refine Below.bel ?_ ?_) | (with_reducible refine Below.alloc ?_ ?_ _) | (with_reducible refine Below.drew ?_) | (with_reducible refine Below.drawsN ?_ _) | (with_reducible refine Below.setCell ?_ ?_ _) | (with_reducible refine le_bel ?_) | (with_reducible refine le_alloc ?_) | (with_reducible refine le_setCell ?_) | (with_reducible refine le_drew ?_) | (with_reducible refine le_drawsN ?_) | (dsimp only; with_reducible refine le_bel ?_) | (dsimp only; with_reducible refine Nat.le_refl _) | (dsimp only; with_reducible refine le_bel_add ?_) | (with_reducible assumption) | omega | (dsimp only; omega))))
    · have hkl : k = l.length := by omega
      have hw := takeWhile_eq hk HA.out (.inl hkl)
      obtain ⟨e1, e2⟩ := nd_at hw hk
      have E1 := Lib.hid e1
      have E2 := Lib.hid e2
      clear e1 e2 hw
      generalize hn : numOf (l.take k) = n at *
      clear hn
      go_wp2
      refine wp_region_bel (by kernel_rfl) (by kernel_rfl) ?_
      repeat (go_big_quiet_step (fail))
      refine wpQuiet_nil ?_
      rintro _ ⟨x, rfl⟩
      go_wp2
      go_ret3
      exact Ret.mk (by rw [E1.out, E2.out, hkl, List.drop_length]; rfl) (by (repeat' (first | (with_reducible exact Below.refl _ _) | (with_reducible exact Nat.le_refl _) | (with_reducible refine Below.bel ?_ ?_) | (with_reducible refine Below.alloc ?_ ?_ _) | (with_reducible refine Below.drew ?_) | (with_reducible refine Below.drawsN ?_ _) | (with_reducible refine Below.setCell ?_ ?_ _) | (with_reducible refine le_bel ?_) | (with_reducible refine le_alloc ?_) | (with_reducible refine le_setCell ?_) | (with_reducible refine le_drew ?_) | (with_reducible refine le_drawsN ?_) | (dsimp only; with_reducible refine le_bel ?_) | (dsimp only; with_reducible refine Nat.le_refl _) | (dsimp only; with_reducible refine le_bel_add ?_) | (with_reducible assumption) | omega | (dsimp only; omega))))
end Go.Proofs.YtoncbkkhfblpdaaDoor
