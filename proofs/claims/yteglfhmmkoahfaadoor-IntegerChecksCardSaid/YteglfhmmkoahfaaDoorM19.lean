/- isDigit, Check. -/
import Derived.Test.YteglfhmmkoahfaaDoorM10
namespace Go.Proofs.YteglfhmmkoahfaaDoor
open Go.RowKit Go.Shelf
attribute [local go_sem low] Bel.cell Bel.frozen alloc_cell alloc_frozen

def isD (c : UInt8) : Bool := decide (48 ≤ c.toNat) && decide (c.toNat ≤ 57)
theorem isD_any (c : UInt8) (w : World) : Calls Tryd.prog 31 #[.int .u8 (c.toNat : Int)] w (Ret (.bool (isD c)) w) := by
  by_cases h1 : 48 ≤ c.toNat
  · by_cases h2 : c.toNat ≤ 57
    · have HD := Lib.hid (show isD c = true by unfold isD; rw [decide_eq_true h1, decide_eq_true h2]; rfl)
      have e1 : decide ((48 : Int) ≤ (c.toNat : Int)) = true := decide_eq_true (by omega)
      have e2 : decide ((c.toNat : Int) ≤ (57 : Int)) = true := decide_eq_true (by omega)
      go_enter Tryd.func31, Tryd.ntmps31
      go_wp2
      go_ret
      exact Ret.mk (by rw [HD.out]; rfl) (by (repeat' (first | (with_reducible exact Below.refl _ _) | (with_reducible exact Nat.le_refl _) | (with_reducible refine Below.bel ?_ ?_) | (with_reducible refine Below.alloc ?_ ?_ _) | (with_reducible refine Below.drew ?_) | (with_reducible refine Below.drawsN ?_ _) | (with_reducible refine Below.setCell ?_ ?_ _) | (with_reducible refine le_bel ?_) | (with_reducible refine le_alloc ?_) | (with_reducible refine le_setCell ?_) | (with_reducible refine le_drew ?_) | (with_reducible refine le_drawsN ?_) | (dsimp only; with_reducible refine le_bel ?_) | (dsimp only; with_reducible refine Nat.le_refl _) | (dsimp only; with_reducible refine le_bel_add ?_) | (with_reducible assumption) | omega | (dsimp only; omega))))
    · have HD := Lib.hid (show isD c = false by unfold isD; rw [decide_eq_true h1, decide_eq_false h2]; rfl)
      have e1 : decide ((48 : Int) ≤ (c.toNat : Int)) = true := decide_eq_true (by omega)
      have e2 : decide ((c.toNat : Int) ≤ (57 : Int)) = false := decide_eq_false (by omega)
      go_enter Tryd.func31, Tryd.ntmps31
      go_wp2
      go_ret
      exact Ret.mk (by rw [HD.out]; rfl) (by (repeat' (first | (with_reducible exact Below.refl _ _) | (with_reducible exact Nat.le_refl _) | (with_reducible refine Below.bel ?_ ?_) | (with_reducible refine Below.alloc ?_ ?_ _) | (with_reducible refine Below.drew ?_) | (with_reducible refine Below.drawsN ?_ _) | (with_reducible refine Below.setCell ?_ ?_ _) | (with_reducible refine le_bel ?_) | (with_reducible refine le_alloc ?_) | (with_reducible refine le_setCell ?_) | (with_reducible refine le_drew ?_) | (with_reducible refine le_drawsN ?_) | (dsimp only; with_reducible refine le_bel ?_) | (dsimp only; with_reducible refine Nat.le_refl _) | (dsimp only; with_reducible refine le_bel_add ?_) | (with_reducible assumption) | omega | (dsimp only; omega))))
  · have HD := Lib.hid (show isD c = false by unfold isD; rw [decide_eq_false h1]; rfl)
    have e1 : decide ((48 : Int) ≤ (c.toNat : Int)) = false := decide_eq_false (by omega)
    go_enter Tryd.func31, Tryd.ntmps31
    go_wp2
    go_ret
    exact Ret.mk (by rw [HD.out]; rfl) (by (repeat' (first | (with_reducible exact Below.refl _ _) | (with_reducible exact Nat.le_refl _) | (with_reducible refine Below.bel ?_ ?_) | (with_reducible refine Below.alloc ?_ ?_ _) | (with_reducible refine Below.drew ?_) | (with_reducible refine Below.drawsN ?_ _) | (with_reducible refine Below.setCell ?_ ?_ _) | (with_reducible refine le_bel ?_) | (with_reducible refine le_alloc ?_) | (with_reducible refine le_setCell ?_) | (with_reducible refine le_drew ?_) | (with_reducible refine le_drawsN ?_) | (dsimp only; with_reducible refine le_bel ?_) | (dsimp only; with_reducible refine Nat.le_refl _) | (dsimp only; with_reducible refine le_bel_add ?_) | (with_reducible assumption) | omega | (dsimp only; omega))))
theorem cutG_any (l : List UInt8) (w : World) : Calls Tryd.prog 44 #[.string ⟨l.toArray⟩, .string ⟨#[45]⟩] w (Ret (.tuple #[.string ⟨(Lib.trimPrefix l [45]).toArray⟩, .bool (Lib.hasPrefix l [45])]) w) :=
  (Tryd.strings_CutPrefix ⟨l.toArray⟩ ⟨#[45]⟩ w).mono fun e w' ⟨he, hw⟩ => ⟨he, ⟨w, Below.refl _ _⟩, hw⟩
theorem trimP_len (l : List UInt8) : (Lib.trimPrefix l [45]).length ≤ l.length := by
  unfold Lib.trimPrefix
  split
  · rw [List.length_drop]; omega
  · exact Nat.le_refl _
/-- What Check returns. -/
def chkD (m : Bool) (d : List UInt8) : Int := match d with
  | [] => 2
  | c :: r => if 400 < (c :: r).length then 2 else if c = 48 ∧ (m = true ∨ r ≠ []) then 2 else if (c :: r).all isD then 0 else 2
def chkV (l : List UInt8) : Int := chkD (Lib.hasPrefix l [45]) (Lib.trimPrefix l [45])
set_option maxRecDepth 100000 in
set_option maxHeartbeats 6400000 in
theorem check_any (l : List UInt8) (w : World) (hl : l.length ≤ 1000000) : Calls Tryd.prog 18 #[.string ⟨l.toArray⟩] w (Ret (.int .i64 (chkV l)) w) := by
  have HC := Lib.hid (cutG_any l)
  have hd := trimP_len l
  unfold chkV
  generalize Lib.trimPrefix l [45] = d at *
  generalize Lib.hasPrefix l [45] = m at *
  cases d with
  | nil =>
    go_enter Tryd.func18, Tryd.ntmps18
    go_wp2_with fail
    (with_reducible refine (HC.out _).mono ?_)
    rintro _ _ ⟨rfl, x1, rfl⟩
    have hx1 := x1.size_le
    dsimp only
    go_wp2
    go_ret
    exact Ret.mk (by rfl) (by (repeat' (first | (with_reducible exact Below.refl _ _) | (with_reducible exact Nat.le_refl _) | (with_reducible refine Below.bel ?_ ?_) | (with_reducible refine Below.alloc ?_ ?_ _) | (with_reducible refine Below.drew ?_) | (with_reducible refine Below.drawsN ?_ _) | (with_reducible refine Below.setCell ?_ ?_ _) | (with_reducible refine le_bel ?_) | (with_reducible refine le_alloc ?_) | (with_reducible refine le_setCell ?_) | (with_reducible refine le_drew ?_) | (with_reducible refine le_drawsN ?_) | (dsimp only; with_reducible refine le_bel ?_) | (dsimp only; with_reducible refine Nat.le_refl _) | (dsimp only; with_reducible refine le_bel_add ?_) | (with_reducible assumption) | omega | (dsimp only; omega))))
  | cons c r =>
    have hdl : r.length + 1 ≤ 1000000 := by simp at hd; omega
    by_cases h4 : 400 < (c :: r).length
    · have HR := Lib.hid (show chkD m (c :: r) = 2 from if_pos h4)
      have e1 : decide ((400 : Int) < ((r.length : Int) + 1)) = true := decide_eq_true (by simp at h4; omega)
      go_enter Tryd.func18, Tryd.ntmps18
      go_wp2_with fail
      (with_reducible refine (HC.out _).mono ?_)
      rintro _ _ ⟨rfl, x1, rfl⟩
      have hx1 := x1.size_le
      dsimp only
      go_wp2
      go_ret
      exact Ret.mk (by rw [HR.out]; rfl) (by (repeat' (first | (with_reducible exact Below.refl _ _) | (with_reducible exact Nat.le_refl _) | (with_reducible refine Below.bel ?_ ?_) | (with_reducible refine Below.alloc ?_ ?_ _) | (with_reducible refine Below.drew ?_) | (with_reducible refine Below.drawsN ?_ _) | (with_reducible refine Below.setCell ?_ ?_ _) | (with_reducible refine le_bel ?_) | (with_reducible refine le_alloc ?_) | (with_reducible refine le_setCell ?_) | (with_reducible refine le_drew ?_) | (with_reducible refine le_drawsN ?_) | (dsimp only; with_reducible refine le_bel ?_) | (dsimp only; with_reducible refine Nat.le_refl _) | (dsimp only; with_reducible refine le_bel_add ?_) | (with_reducible assumption) | omega | (dsimp only; omega))))
    · have e1 : decide ((400 : Int) < ((r.length : Int) + 1)) = false := decide_eq_false (by simp at h4; omega)
      have hch : chkD m (c :: r) = if c = 48 ∧ (m = true ∨ r ≠ []) then 2 else if (c :: r).all isD then 0 else 2 := if_neg h4
      have hl400 : r.length ≤ 399 := by simp at h4; omega
      clear h4
      by_cases hz : c = 48 ∧ (m = true ∨ r ≠ [])
      · rw [if_pos hz] at hch
        have HR := Lib.hid hch
        obtain ⟨rfl, hz⟩ := hz
        clear hch
        cases m
        · have hr0 : decide ((1 : Int) < ((r.length : Int) + 1)) = true := decide_eq_true (by
            have : r ≠ [] := hz.resolve_left (by decide)
            have := List.length_pos_iff.2 this
            omega)
          clear hz
          go_enter Tryd.func18, Tryd.ntmps18
          go_wp2_with fail
          (with_reducible refine (HC.out _).mono ?_)
          rintro _ _ ⟨rfl, x1, rfl⟩
          have hx1 := x1.size_le
          dsimp only
          go_wp2
          go_ret
          exact Ret.mk (by rw [HR.out]; rfl) (by (repeat' (first | (with_reducible exact Below.refl _ _) | (with_reducible exact Nat.le_refl _) | (with_reducible refine Below.bel ?_ ?_) | (with_reducible refine Below.alloc ?_ ?_ _) | (with_reducible refine Below.drew ?_) | (with_reducible refine Below.drawsN ?_ _) | (with_reducible refine Below.setCell ?_ ?_ _) | (with_reducible refine le_bel ?_) | (with_reducible refine le_alloc ?_) | (with_reducible refine le_setCell ?_) | (with_reducible refine le_drew ?_) | (with_reducible refine le_drawsN ?_) | (dsimp only; with_reducible refine le_bel ?_) | (dsimp only; with_reducible refine Nat.le_refl _) | (dsimp only; with_reducible refine le_bel_add ?_) | (with_reducible assumption) | omega | (dsimp only; omega))))
        · clear hz
          go_enter Tryd.func18, Tryd.ntmps18
          go_wp2_with fail
          (with_reducible refine (HC.out _).mono ?_)
          rintro _ _ ⟨rfl, x1, rfl⟩
          have hx1 := x1.size_le
          dsimp only
          go_wp2
          go_ret
          exact Ret.mk (by rw [HR.out]; rfl) (by (repeat' (first | (with_reducible exact Below.refl _ _) | (with_reducible exact Nat.le_refl _) | (with_reducible refine Below.bel ?_ ?_) | (with_reducible refine Below.alloc ?_ ?_ _) | (with_reducible refine Below.drew ?_) | (with_reducible refine Below.drawsN ?_ _) | (with_reducible refine Below.setCell ?_ ?_ _) | (with_reducible refine le_bel ?_) | (with_reducible refine le_alloc ?_) | (with_reducible refine le_setCell ?_) | (with_reducible refine le_drew ?_) | (with_reducible refine le_drawsN ?_) | (dsimp only; with_reducible refine le_bel ?_) | (dsimp only; with_reducible refine Nat.le_refl _) | (dsimp only; with_reducible refine le_bel_add ?_) | (with_reducible assumption) | omega | (dsimp only; omega))))
      · rw [if_neg hz] at hch
        obtain ⟨d, hd0⟩ : ∃ d, c :: r = d := ⟨_, rfl⟩
        have hdl2 : d.length = r.length + 1 := by rw [← hd0]; rfl
        have HCH := Lib.hid (show chkD m d = if d.all isD then 0 else 2 by rw [← hd0]; exact hch)
        have HD0 := Lib.hid hd0
        clear hch hd0
        by_cases hc : c = 48
        · obtain ⟨rfl, rfl⟩ : m = false ∧ r = [] := by
            have h2 := fun h => hz ⟨hc, h⟩
            cases m
            · exact ⟨rfl, Classical.byContradiction fun h => h2 (.inr h)⟩
            · exact absurd (.inl rfl) h2
          subst hc
          clear hz
          have hdl3 : d.length = (0:Nat) + 1 := hdl2
          go_enter Tryd.func18, Tryd.ntmps18
          go_wp2_with fail
          (with_reducible refine (HC.out _).mono ?_)
          rintro _ _ ⟨rfl, x1, rfl⟩
          have hx1 := x1.size_le
          dsimp only
          go_wp2
          rw [HD0.out]
          go_loopw [33] (fun i wr => ∃ k : Nat, k ≤ d.length ∧ i = .int .i64 (k : Int) ∧ (d.take k).all isD = true ∧ Below w.heap.size w wr) (fun i _ => d.length - (intOf i).toNat)
          case atStart => exact ⟨0, by omega, rfl, rfl, by (repeat' (first | (with_reducible exact Below.refl _ _) | (with_reducible exact Nat.le_refl _) | (with_reducible refine Below.bel ?_ ?_) | (with_reducible refine Below.alloc ?_ ?_ _) | (with_reducible refine Below.drew ?_) | (with_reducible refine Below.drawsN ?_ _) | (with_reducible refine Below.setCell ?_ ?_ _) | (with_reducible refine le_bel ?_) | (with_reducible refine le_alloc ?_) | (with_reducible refine le_setCell ?_) | (with_reducible refine le_drew ?_) | (with_reducible refine le_drawsN ?_) | (dsimp only; with_reducible refine le_bel ?_) | (dsimp only; with_reducible refine Nat.le_refl _) | (dsimp only; with_reducible refine le_bel_add ?_) | (with_reducible assumption) | omega | (dsimp only; omega)))⟩
          case round =>
            obtain ⟨k, hk, rfl, hall, hb⟩ := hrel
            have hbs := hb.size
            by_cases hkl : k < d.length
            · have hki : (k : Int) < ((0:Nat) : Int) + 1 := by omega
              obtain ⟨q, hq⟩ : ∃ q, d[k]? = some q := ⟨_, List.getElem?_eq_getElem hkl⟩
              have hkb : k < (ByteArray.mk d.toArray).size := by show k < d.toArray.size; simpa using hkl
              have hbk : (ByteArray.mk d.toArray)[k]'hkb = q := by
                have h1 : d[k]'hkl = q := by rw [List.getElem?_eq_getElem hkl] at hq; exact Option.some.inj hq
                exact h1
              have htk : d.take (k + 1) = d.take k ++ [q] := by rw [List.take_add_one, hq]; rfl
              cases hD : isD q
              · have HALL := Lib.hid (show d.all isD = false by
                  rw [List.all_eq_false]
                  exact ⟨q, List.mem_of_getElem? hq, by rw [hD]; decide⟩)
                have HQ := Lib.hid (isD_any q)
                rw [hD] at HQ
                clear hq htk hD hall
                go_wp2_with fail
                (with_reducible refine (HQ.out _).mono ?_)
                rintro _ _ ⟨rfl, y, rfl⟩
                go_wp2
                go_ret
                exact Ret.mk (by first | (rw [HCH.out, HALL.out]; rfl) | (rw [HD0.out, HCH.out, HALL.out]; rfl)) (by (repeat' (first | (with_reducible exact Below.refl _ _) | (with_reducible exact Nat.le_refl _) | (with_reducible refine Below.bel ?_ ?_) | (with_reducible refine Below.alloc ?_ ?_ _) | (with_reducible refine Below.drew ?_) | (with_reducible refine Below.drawsN ?_ _) | (with_reducible refine Below.setCell ?_ ?_ _) | (with_reducible refine le_bel ?_) | (with_reducible refine le_alloc ?_) | (with_reducible refine le_setCell ?_) | (with_reducible refine le_drew ?_) | (with_reducible refine le_drawsN ?_) | (dsimp only; with_reducible refine le_bel ?_) | (dsimp only; with_reducible refine Nat.le_refl _) | (dsimp only; with_reducible refine le_bel_add ?_) | (with_reducible assumption) | omega | (dsimp only; omega))))
              · have HALL := Lib.hid (show (d.take (k + 1)).all isD = true by rw [htk, List.all_append, hall]; simp [hD])
                have HQ := Lib.hid (isD_any q)
                rw [hD] at HQ
                clear hq htk hD hall
                go_wp2_with fail
                (with_reducible refine (HQ.out _).mono ?_)
                rintro _ _ ⟨rfl, y, rfl⟩
                go_wp2
                go_roundw
                case rel => exact ⟨k + 1, by omega, by go_num, HALL.out, by (repeat' (first | (with_reducible exact Below.refl _ _) | (with_reducible exact Nat.le_refl _) | (with_reducible refine Below.bel ?_ ?_) | (with_reducible refine Below.alloc ?_ ?_ _) | (with_reducible refine Below.drew ?_) | (with_reducible refine Below.drawsN ?_ _) | (with_reducible refine Below.setCell ?_ ?_ _) | (with_reducible refine le_bel ?_) | (with_reducible refine le_alloc ?_) | (with_reducible refine le_setCell ?_) | (with_reducible refine le_drew ?_) | (with_reducible refine le_drawsN ?_) | (dsimp only; with_reducible refine le_bel ?_) | (dsimp only; with_reducible refine Nat.le_refl _) | (dsimp only; with_reducible refine le_bel_add ?_) | (with_reducible assumption) | omega | (dsimp only; omega)))⟩
                case measure => simp [intOf]; omega
            · obtain rfl : k = d.length := by omega
              rw [List.take_length] at hall
              have HALL := Lib.hid hall
              clear hall
              go_wp2
              go_ret
              exact Ret.mk (by first | (rw [HCH.out, HALL.out]; rfl) | (rw [HD0.out, HCH.out, HALL.out]; rfl)) (by (repeat' (first | (with_reducible exact Below.refl _ _) | (with_reducible exact Nat.le_refl _) | (with_reducible refine Below.bel ?_ ?_) | (with_reducible refine Below.alloc ?_ ?_ _) | (with_reducible refine Below.drew ?_) | (with_reducible refine Below.drawsN ?_ _) | (with_reducible refine Below.setCell ?_ ?_ _) | (with_reducible refine le_bel ?_) | (with_reducible refine le_alloc ?_) | (with_reducible refine le_setCell ?_) | (with_reducible refine le_drew ?_) | (with_reducible refine le_drawsN ?_) | (dsimp only; with_reducible refine le_bel ?_) | (dsimp only; with_reducible refine Nat.le_refl _) | (dsimp only; with_reducible refine le_bel_add ?_) | (with_reducible assumption) | omega | (dsimp only; omega))))
        · have hc' : ((c.toNat : Int) == 48) = false := beq_eq_false_iff_ne.2 (fun h => hc (UInt8.toNat_inj.1 (by show c.toNat = 48; omega)))
          have hb0 : (ByteArray.mk (c :: r).toArray)[0]'(by show 0 < (c :: r).toArray.size; simp) = c := rfl
          clear hz hc
          have hdl3 : d.length = r.length + 1 := hdl2
          go_enter Tryd.func18, Tryd.ntmps18
          go_wp2_with fail
          (with_reducible refine (HC.out _).mono ?_)
          rintro _ _ ⟨rfl, x1, rfl⟩
          have hx1 := x1.size_le
          dsimp only
          go_wp2
          rw [HD0.out]
          go_loopw [33] (fun i wr => ∃ k : Nat, k ≤ d.length ∧ i = .int .i64 (k : Int) ∧ (d.take k).all isD = true ∧ Below w.heap.size w wr) (fun i _ => d.length - (intOf i).toNat)
          case atStart => exact ⟨0, by omega, rfl, rfl, by (repeat' (first | (with_reducible exact Below.refl _ _) | (with_reducible exact Nat.le_refl _) | (with_reducible refine Below.bel ?_ ?_) | (with_reducible refine Below.alloc ?_ ?_ _) | (with_reducible refine Below.drew ?_) | (with_reducible refine Below.drawsN ?_ _) | (with_reducible refine Below.setCell ?_ ?_ _) | (with_reducible refine le_bel ?_) | (with_reducible refine le_alloc ?_) | (with_reducible refine le_setCell ?_) | (with_reducible refine le_drew ?_) | (with_reducible refine le_drawsN ?_) | (dsimp only; with_reducible refine le_bel ?_) | (dsimp only; with_reducible refine Nat.le_refl _) | (dsimp only; with_reducible refine le_bel_add ?_) | (with_reducible assumption) | omega | (dsimp only; omega)))⟩
          case round =>
            obtain ⟨k, hk, rfl, hall, hb⟩ := hrel
            have hbs := hb.size
            by_cases hkl : k < d.length
            · have hki : (k : Int) < (r.length : Int) + 1 := by omega
              obtain ⟨q, hq⟩ : ∃ q, d[k]? = some q := ⟨_, List.getElem?_eq_getElem hkl⟩
              have hkb : k < (ByteArray.mk d.toArray).size := by show k < d.toArray.size; simpa using hkl
              have hbk : (ByteArray.mk d.toArray)[k]'hkb = q := by
                have h1 : d[k]'hkl = q := by rw [List.getElem?_eq_getElem hkl] at hq; exact Option.some.inj hq
                exact h1
              have htk : d.take (k + 1) = d.take k ++ [q] := by rw [List.take_add_one, hq]; rfl
              cases hD : isD q
              · have HALL := Lib.hid (show d.all isD = false by
                  rw [List.all_eq_false]
                  exact ⟨q, List.mem_of_getElem? hq, by rw [hD]; decide⟩)
                have HQ := Lib.hid (isD_any q)
                rw [hD] at HQ
                clear hq htk hD hall
                go_wp2_with fail
                (with_reducible refine (HQ.out _).mono ?_)
                rintro _ _ ⟨rfl, y, rfl⟩
                go_wp2
                go_ret
                exact Ret.mk (by first | (rw [HCH.out, HALL.out]; rfl) | (rw [HD0.out, HCH.out, HALL.out]; rfl)) (by (repeat' (first | (with_reducible exact Below.refl _ _) | (with_reducible exact Nat.le_refl _) | (with_reducible refine Below.bel ?_ ?_) | (with_reducible refine Below.alloc ?_ ?_ _) | (with_reducible refine Below.drew ?_) | (with_reducible refine Below.drawsN ?_ _) | (with_reducible refine Below.setCell ?_ ?_ _) | (with_reducible refine le_bel ?_) | (with_reducible refine le_alloc ?_) | (with_reducible refine le_setCell ?_) | (with_reducible refine le_drew ?_) | (with_reducible refine le_drawsN ?_) | (dsimp only; with_reducible refine le_bel ?_) | (dsimp only; with_reducible refine Nat.le_refl _) | (dsimp only; with_reducible refine le_bel_add ?_) | (with_reducible assumption) | omega | (dsimp only; omega))))
              · have HALL := Lib.hid (show (d.take (k + 1)).all isD = true by rw [htk, List.all_append, hall]; simp [hD])
                have HQ := Lib.hid (isD_any q)
                rw [hD] at HQ
                clear hq htk hD hall
                go_wp2_with fail
                (with_reducible refine (HQ.out _).mono ?_)
                rintro _ _ ⟨rfl, y, rfl⟩
                go_wp2
                go_roundw
                case rel => exact ⟨k + 1, by omega, by go_num, HALL.out, by (repeat' (first | (with_reducible exact Below.refl _ _) | (with_reducible exact Nat.le_refl _) | (with_reducible refine Below.bel ?_ ?_) | (with_reducible refine Below.alloc ?_ ?_ _) | (with_reducible refine Below.drew ?_) | (with_reducible refine Below.drawsN ?_ _) | (with_reducible refine Below.setCell ?_ ?_ _) | (with_reducible refine le_bel ?_) | (with_reducible refine le_alloc ?_) | (with_reducible refine le_setCell ?_) | (with_reducible refine le_drew ?_) | (with_reducible refine le_drawsN ?_) | (dsimp only; with_reducible refine le_bel ?_) | (dsimp only; with_reducible refine Nat.le_refl _) | (dsimp only; with_reducible refine le_bel_add ?_) | (with_reducible assumption) | omega | (dsimp only; omega)))⟩
                case measure => simp [intOf]; omega
            · obtain rfl : k = d.length := by omega
              rw [List.take_length] at hall
              have HALL := Lib.hid hall
              clear hall
              go_wp2
              go_ret
              exact Ret.mk (by first | (rw [HCH.out, HALL.out]; rfl) | (rw [HD0.out, HCH.out, HALL.out]; rfl)) (by (repeat' (first | (with_reducible exact Below.refl _ _) | (with_reducible exact Nat.le_refl _) | (with_reducible refine Below.bel ?_ ?_) | (with_reducible refine Below.alloc ?_ ?_ _) | (with_reducible refine Below.drew ?_) | (with_reducible refine Below.drawsN ?_ _) | (with_reducible refine Below.setCell ?_ ?_ _) | (with_reducible refine le_bel ?_) | (with_reducible refine le_alloc ?_) | (with_reducible refine le_setCell ?_) | (with_reducible refine le_drew ?_) | (with_reducible refine le_drawsN ?_) | (dsimp only; with_reducible refine le_bel ?_) | (dsimp only; with_reducible refine Nat.le_refl _) | (dsimp only; with_reducible refine le_bel_add ?_) | (with_reducible assumption) | omega | (dsimp only; omega))))
end Go.Proofs.YteglfhmmkoahfaaDoor
