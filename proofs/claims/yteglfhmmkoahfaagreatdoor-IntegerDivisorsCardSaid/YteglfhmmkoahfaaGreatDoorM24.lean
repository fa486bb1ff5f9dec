/- The reference's Cut, Canonical, Right. -/
import Derived.Test.YteglfhmmkoahfaaGreatDoorM19
namespace Go.Proofs.YteglfhmmkoahfaaGreatDoor
open Go.RowKit Go.Shelf
attribute [local go_sem low] Bel.cell Bel.frozen alloc_cell alloc_frozen

theorem hasG_any (l : List UInt8) (w : World) : Calls Tryz.prog 33 #[.string ⟨l.toArray⟩, .string ⟨#[45]⟩] w (Ret (.bool (Lib.hasPrefix l [45])) w) :=
  (Tryz.strings_HasPrefix ⟨l.toArray⟩ ⟨#[45]⟩ w).mono fun e w' ⟨he, hw⟩ => ⟨he, ⟨w, Below.refl _ _⟩, hw⟩
theorem pre_cases (l : List UInt8) : (∃ r, l = 45 :: r ∧ Lib.hasPrefix l [45] = true ∧ Lib.trimPrefix l [45] = r) ∨ (Lib.hasPrefix l [45] = false ∧ Lib.trimPrefix l [45] = l) := by
  cases hp : Lib.hasPrefix l [45]
  · right
    refine ⟨rfl, ?_⟩
    unfold Lib.trimPrefix
    rw [hp]; rfl
  · left
    cases l with
    | nil => simp [Lib.hasPrefix] at hp
    | cons c r =>
      have hc : c = 45 := by
        simp [Lib.hasPrefix, List.isPrefixOf] at hp
        exact hp.symm
      subst hc
      exact ⟨r, rfl, rfl, (pre_neg r).2⟩
theorem refCut_any (l : List UInt8) (w : World) (hl : l.length ≤ 1000000) : Calls Tryz.prog 34 #[.string ⟨l.toArray⟩] w (Ret (.tuple #[.bool (Lib.hasPrefix l [45]), .string ⟨(Lib.trimPrefix l [45]).toArray⟩]) w) := by
  have HC := Lib.hid (hasG_any l)
  rcases pre_cases l with ⟨r, rfl, hp, ht⟩ | ⟨hp, ht⟩
  · rw [hp] at HC ⊢
    rw [ht]
    clear hp ht
    have hx : (ByteArray.mk (45 :: r).toArray).extract 1 (r.length + 1) = ⟨r.toArray⟩ := by
      have := extract_drop (45 :: r) 1
      rw [List.length_cons] at this
      exact this
    have hrl : r.length + 1 ≤ 1000000 := by simpa using hl
    go_enter Tryz.func34, Tryz.ntmps34
    go_wp2_with fail
    (with_reducible refine (HC.out _).mono ?_)
    rintro _ _ ⟨rfl, x, rfl⟩
    go_wp2_with fail
    refine wp_region_bel (by kernel_rfl) (by kernel_rfl) ?_
    repeat (go_big_quiet_step (fail))
    refine wpQuiet_nil ?_
    rintro _ ⟨y, rfl⟩
    go_wp2
    refine bodyPost_ret (v := .tuple #[.bool true, .string ⟨r.toArray⟩]) (by simp [results, Tryz.results34, go_sem]) rfl (Ret.mk (by rfl) (by (repeat' (first | (with_reducible exact Below.refl _ _) | (with_reducible exact Nat.le_refl _) | (with_reducible refine Below.bel ?_ ?_) | (with_reducible refine Below.alloc ?_ ?_ _) | (with_reducible refine Below.drew ?_) | (with_reducible refine Below.drawsN ?_ _) | (with_reducible refine Below.setCell ?_ ?_ _) | (with_reducible refine le_bel ?_) | (with_reducible refine le_alloc ?_) | (with_reducible refine le_setCell ?_) | (with_reducible refine le_drew ?_) | (with_reducible refine le_drawsN ?_) | (dsimp only; with_reducible refine le_bel ?_) | (dsimp only; with_reducible refine Nat.le_refl _) | (dsimp only; with_reducible refine le_bel_add ?_) | (with_reducible assumption) | omega | (dsimp only; omega)))))
  · rw [hp] at HC ⊢
    rw [ht]
    clear hp ht
    go_enter Tryz.func34, Tryz.ntmps34
    go_wp2_with fail
    (with_reducible refine (HC.out _).mono ?_)
    rintro _ _ ⟨rfl, x, rfl⟩
    go_wp2
    refine bodyPost_ret (v := .tuple #[.bool false, .string ⟨l.toArray⟩]) (by simp [results, Tryz.results34, go_sem]) rfl (Ret.mk (by rfl) (by (repeat' (first | (with_reducible exact Below.refl _ _) | (with_reducible exact Nat.le_refl _) | (with_reducible refine Below.bel ?_ ?_) | (with_reducible refine Below.alloc ?_ ?_ _) | (with_reducible refine Below.drew ?_) | (with_reducible refine Below.drawsN ?_ _) | (with_reducible refine Below.setCell ?_ ?_ _) | (with_reducible refine le_bel ?_) | (with_reducible refine le_alloc ?_) | (with_reducible refine le_setCell ?_) | (with_reducible refine le_drew ?_) | (with_reducible refine le_drawsN ?_) | (dsimp only; with_reducible refine le_bel ?_) | (dsimp only; with_reducible refine Nat.le_refl _) | (dsimp only; with_reducible refine le_bel_add ?_) | (with_reducible assumption) | omega | (dsimp only; omega)))))
/-- What Canonical returns. -/
def canD (m : Bool) (d : List UInt8) : Bool := match d with
  | [] => false
  | c :: r => if c = 48 ∧ (m = true ∨ r ≠ []) then false else (c :: r).all isD
def canV (l : List UInt8) : Bool := canD (Lib.hasPrefix l [45]) (Lib.trimPrefix l [45])
theorem isD_digits {d : List UInt8} (h : d.all isD = true) : Digits d := fun c hc => by
  have := List.all_eq_true.1 h c hc
  unfold isD at this
  simp at this
  exact this
theorem canV_int {l : List UInt8} (h : canV l = true) : ∃ z, l = iT z ∧ (Lib.trimPrefix l [45]) = Lib.decDigits z.natAbs := by
  unfold canV at h
  have key : ∀ (m : Bool) d, canD m d = true → d = Lib.decDigits (numD d) ∧ (m = true → numD d ≠ 0) := by
    intro m d hd
    cases d with
    | nil => cases hd
    | cons c r =>
      have hd' : (if c = 48 ∧ (m = true ∨ r ≠ []) then false else (c :: r).all isD) = true := hd
      by_cases hz : c = 48 ∧ (m = true ∨ r ≠ [])
      · rw [if_pos hz] at hd'; cases hd'
      · rw [if_neg hz] at hd'
        have hdd := isD_digits hd'
        have hc : Canon (c :: r) := ⟨hdd, by simp, fun c' r' e h48 => by
          injection e with e1 e2
          subst e1 e2
          refine Classical.byContradiction fun hr => hz ⟨UInt8.toNat_inj.1 (by show c.toNat = 48; exact h48), .inr hr⟩⟩
        have he := canon_eq _ hc
        refine ⟨he, fun hm h0 => ?_⟩
        rw [h0, dec_small (by decide)] at he
        injection he with e1 e2
        exact hz ⟨by rw [e1]; rfl, .inl hm⟩
  rcases pre_cases l with ⟨r, rfl, hp, ht⟩ | ⟨hp, ht⟩
  · rw [hp, ht] at h
    obtain ⟨he, h0⟩ := key true r h
    have h1 := h0 rfl
    refine ⟨-(numD r : Int), ?_, ?_⟩
    · rw [iT_neg (by omega), Int.natAbs_neg, Int.natAbs_natCast, ← he]
    · rw [ht, Int.natAbs_neg, Int.natAbs_natCast, ← he]
  · rw [hp, ht] at h
    obtain ⟨he, _⟩ := key false l h
    refine ⟨(numD l : Int), ?_, ?_⟩
    · rw [iT_pos (by omega), Int.natAbs_natCast, ← he]
    · rw [ht, Int.natAbs_natCast, ← he]
set_option maxRecDepth 100000 in
set_option maxHeartbeats 6400000 in
theorem canonical_any (l : List UInt8) (w : World) (hl : l.length ≤ 1000000) : Calls Tryz.prog 32 #[.string ⟨l.toArray⟩] w (Ret (.bool (canV l)) w) := by
  have HC := Lib.hid (fun w' => refCut_any l w' hl)
  have hd := trimP_len l
  unfold canV
  generalize Lib.trimPrefix l [45] = d at *
  generalize Lib.hasPrefix l [45] = m at *
  cases d with
  | nil =>
    go_enter Tryz.func32, Tryz.ntmps32
    go_wp2_with fail
    (with_reducible refine (HC.out _).mono ?_)
    rintro _ _ ⟨rfl, x1, rfl⟩
    have hx1 := x1.size_le
    dsimp only
    go_wp2
    go_ret
    exact Ret.mk (by rfl) (by (repeat' (first | (with_reducible exact Below.refl _ _) | (with_reducible exact Nat.le_refl _) | (with_reducible refine Below.bel ?_ ?_) | (with_reducible refine Below.alloc ?_ ?_ _) | (with_reducible refine Below.drew ?_) | (with_reducible refine Below.drawsN ?_ _) | (with_reducible refine Below.setCell ?_ ?_ _) | (with_reducible refine le_bel ?_) | (with_reducible refine le_alloc ?_) | (with_reducible refine le_setCell ?_) | (with_reducible refine le_drew ?_) | (with_reducible refine le_drawsN ?_) | (dsimp only; with_reducible refine le_bel ?_) | (dsimp only; with_reducible refine Nat.le_refl _) | (dsimp only; with_reducible refine le_bel_add ?_) | (with_reducible assumption) | omega | (dsimp only; omega))))
  | cons c r =>
    have hdl : r.length + 1 ≤ 1000000 := by simp at hd; omega
    by_cases hz : c = 48 ∧ (m = true ∨ r ≠ [])
    · have hch : canD m (c :: r) = false := if_pos hz
      have HR := Lib.hid hch
      obtain ⟨rfl, hz⟩ := hz
      clear hch
      cases m
      · have hr0 : decide ((1 : Int) < ((r.length : Int) + 1)) = true := decide_eq_true (by
          have : r ≠ [] := hz.resolve_left (by decide)
          have := List.length_pos_iff.2 this
          omega)
        clear hz
        go_enter Tryz.func32, Tryz.ntmps32
        go_wp2_with fail
        (with_reducible refine (HC.out _).mono ?_)
        rintro _ _ ⟨rfl, x1, rfl⟩
        have hx1 := x1.size_le
        dsimp only
        go_wp2
        go_ret
        exact Ret.mk (by rw [HR.out]; rfl) (by (repeat' (first | (with_reducible exact Below.refl _ _) | (with_reducible exact Nat.le_refl _) | (with_reducible refine Below.bel ?_ ?_) | (with_reducible refine Below.alloc ?_ ?_ _) | (with_reducible refine Below.drew ?_) | (with_reducible refine Below.drawsN ?_ _) | (with_reducible refine Below.setCell ?_ ?_ _) | (with_reducible refine le_bel ?_) | (with_reducible refine le_alloc ?_) | (with_reducible refine le_setCell ?_) | (with_reducible refine le_drew ?_) | (with_reducible refine le_drawsN ?_) | (dsimp only; with_reducible refine le_bel ?_) | (dsimp only; with_reducible refine Nat.le_refl _) | (dsimp only; with_reducible refine le_bel_add ?_) | (with_reducible assumption) | omega | (dsimp only; omega))))
      · clear hz
        go_enter Tryz.func32, Tryz.ntmps32
        go_wp2_with fail
        (with_reducible refine (HC.out _).mono ?_)
        rintro _ _ ⟨rfl, x1, rfl⟩
        have hx1 := x1.size_le
        dsimp only
        go_wp2
        go_ret
        exact Ret.mk (by rw [HR.out]; rfl) (by (repeat' (first | (with_reducible exact Below.refl _ _) | (with_reducible exact Nat.le_refl _) | (with_reducible refine Below.bel ?_ ?_) | (with_reducible refine Below.alloc ?_ ?_ _) | (with_reducible refine Below.drew ?_) | (with_reducible refine Below.drawsN ?_ _) | (with_reducible refine Below.setCell ?_ ?_ _) | (with_reducible refine le_bel ?_) | (with_reducible refine le_alloc ?_) | (with_reducible refine le_setCell ?_) | (with_reducible refine le_drew ?_) | (with_reducible refine le_drawsN ?_) | (dsimp only; with_reducible refine le_bel ?_) | (dsimp only; with_reducible refine Nat.le_refl _) | (dsimp only; with_reducible refine le_bel_add ?_) | (with_reducible assumption) | omega | (dsimp only; omega))))
    · obtain ⟨d, hd0⟩ : ∃ d, c :: r = d := ⟨_, rfl⟩
      have hdl2 : d.length = r.length + 1 := by rw [← hd0]; rfl
      have HCH := Lib.hid (show canD m d = d.all isD by rw [← hd0]; exact if_neg hz)
      have HD0 := Lib.hid hd0
      clear hd0
      by_cases hc : c = 48
      · obtain ⟨rfl, rfl⟩ : m = false ∧ r = [] := by
          have h2 := fun h => hz ⟨hc, h⟩
          cases m
          · exact ⟨rfl, Classical.byContradiction fun h => h2 (.inr h)⟩
          · exact absurd (.inl rfl) h2
        subst hc
        clear hz
        have hdl3 : d.length = (0:Nat) + 1 := hdl2
        go_enter Tryz.func32, Tryz.ntmps32
        go_wp2_with fail
        (with_reducible refine (HC.out _).mono ?_)
        rintro _ _ ⟨rfl, x1, rfl⟩
        have hx1 := x1.size_le
        dsimp only
        go_wp2
        rw [HD0.out]
        go_loopw [5] (fun i wr => ∃ k : Nat, k ≤ d.length ∧ i = .int .i64 (k : Int) ∧ (d.take k).all isD = true ∧ Below w.heap.size w wr) (fun i _ => d.length - (intOf i).toNat)
        case atStart => exact ⟨0, by omega, rfl, rfl, by (repeat' (first | (with_reducible exact Below.refl _ _) | (with_reducible exact Nat.le_refl _) | (with_reducible refine Below.bel ?_ ?_) | (with_reducible refine Below.alloc ?_ ?_ _) | (with_reducible refine Below.drew ?_) | (with_reducible refine Below.drawsN ?_ _) | (with_reducible refine Below.setCell ?_ ?_ _) | (with_reducible refine le_bel ?_) | (with_reducible refine le_alloc ?_) | (with_reducible refine le_setCell ?_) | (with_reducible refine le_drew ?_) | (with_reducible refine le_drawsN ?_) | (dsimp only; with_reducible refine le_bel ?_) | (dsimp only; with_reducible refine Nat.le_refl _) | (dsimp only; with_reducible refine le_bel_add ?_) | (with_reducible assumption) | omega | (dsimp only; omega)))⟩
        case round =>
          obtain ⟨k, hk, rfl, hall, hb⟩ := hrel
          have hbs := hb.size
          by_cases hkl : k < d.length
          · have hki : (k : Int) < ((0:Nat) : Int) + 1 := by omega
            obtain ⟨q, hq⟩ : ∃ q, d[k]? = some q := ⟨_, List.getElem?_eq_getElem hkl⟩
            have hkb : k < (ByteArray.mk d.toArray).size := by show k < d.toArray.size; simpa using hkl
            have hbk : (ByteArray.mk d.toArray)[k]'hkb = q := by
              have h1 : d[k]'hkl = q := by rw [List.getElem?_eq_getElem hkl] at hq; exact Option.some.inj hq
              exact h1
            have htk : d.take (k + 1) = d.take k ++ [q] := by rw [List.take_add_one, hq]; rfl
            cases hD : isD q
            · have HALL := Lib.hid (show d.all isD = false by
                rw [List.all_eq_false]
                exact ⟨q, List.mem_of_getElem? hq, by rw [hD]; decide⟩)
              by_cases h48 : q.toNat < 48
              · have e1 : decide ((q.toNat : Int) < 48) = true := decide_eq_true (by omega)
                clear hq htk hD hall h48
                go_wp2
                go_ret
                exact Ret.mk (by first | (rw [HCH.out, HALL.out]; rfl) | (rw [HD0.out, HCH.out, HALL.out]; rfl)) (by (repeat' (first | (with_reducible exact Below.refl _ _) | (with_reducible exact Nat.le_refl _) | (with_reducible refine Below.bel ?_ ?_) | (with_reducible refine Below.alloc ?_ ?_ _) | (with_reducible refine Below.drew ?_) | (with_reducible refine Below.drawsN ?_ _) | (with_reducible refine Below.setCell ?_ ?_ _) | (with_reducible refine le_bel ?_) | (with_reducible refine le_alloc ?_) | (with_reducible refine le_setCell ?_) | (with_reducible refine le_drew ?_) | (with_reducible refine le_drawsN ?_) | (dsimp only; with_reducible refine le_bel ?_) | (dsimp only; with_reducible refine Nat.le_refl _) | (dsimp only; with_reducible refine le_bel_add ?_) | (with_reducible assumption) | omega | (dsimp only; omega))))
              · have e1 : decide ((q.toNat : Int) < 48) = false := decide_eq_false (by omega)
                have e2 : decide ((57 : Int) < (q.toNat : Int)) = true := decide_eq_true (by
                  unfold isD at hD
                  simp at hD
                  omega)
                clear hq htk hD hall h48
                go_wp2
                go_ret
                exact Ret.mk (by first | (rw [HCH.out, HALL.out]; rfl) | (rw [HD0.out, HCH.out, HALL.out]; rfl)) (by (repeat' (first | (with_reducible exact Below.refl _ _) | (with_reducible exact Nat.le_refl _) | (with_reducible refine Below.bel ?_ ?_) | (with_reducible refine Below.alloc ?_ ?_ _) | (with_reducible refine Below.drew ?_) | (with_reducible refine Below.drawsN ?_ _) | (with_reducible refine Below.setCell ?_ ?_ _) | (with_reducible refine le_bel ?_) | (with_reducible refine le_alloc ?_) | (with_reducible refine le_setCell ?_) | (with_reducible refine le_drew ?_) | (with_reducible refine le_drawsN ?_) | (dsimp only; with_reducible refine le_bel ?_) | (dsimp only; with_reducible refine Nat.le_refl _) | (dsimp only; with_reducible refine le_bel_add ?_) | (with_reducible assumption) | omega | (dsimp only; omega))))
            · have HALL := Lib.hid (show (d.take (k + 1)).all isD = true by rw [htk, List.all_append, hall]; simp [hD])
              have hqq : 48 ≤ q.toNat ∧ q.toNat ≤ 57 := by
                unfold isD at hD
                simpa using hD
              have e1 : decide ((q.toNat : Int) < 48) = false := decide_eq_false (by omega)
              have e2 : decide ((57 : Int) < (q.toNat : Int)) = false := decide_eq_false (by omega)
              clear hq htk hD hall hqq
              go_wp2
              go_roundw
              case rel => exact ⟨k + 1, by omega, by go_num, HALL.out, by (repeat' (first | (with_reducible exact Below.refl _ _) | (with_reducible exact Nat.le_refl _) | (with_reducible refine Below.bel ?_ ?_) | (with_reducible refine Below.alloc ?_ ?_ _) | (with_reducible refine Below.drew ?_) | (with_reducible refine Below.drawsN ?_ _) | (with_reducible refine Below.setCell ?_ ?_ _) | (with_reducible refine le_bel ?_) | (with_reducible refine le_alloc ?_) | (with_reducible refine le_setCell ?_) | (with_reducible refine le_drew ?_) | (with_reducible refine le_drawsN ?_) | (dsimp only; with_reducible refine le_bel ?_) | (dsimp only; with_reducible refine Nat.le_refl _) | (dsimp only; with_reducible refine le_bel_add ?_) | (with_reducible assumption) | omega | (dsimp only; omega)))⟩
              case measure => simp [intOf]; omega
          · obtain rfl : k = d.length := by omega
            rw [List.take_length] at hall
            have HALL := Lib.hid hall
            clear hall
            go_wp2
            go_ret
            exact Ret.mk (by first | (rw [HCH.out, HALL.out]; rfl) | (rw [HD0.out, HCH.out, HALL.out]; rfl)) (by (repeat' (first | (with_reducible exact Below.refl _ _) | (with_reducible exact Nat.le_refl _) | (with_reducible refine Below.bel ?_ ?_) | (with_reducible refine Below.alloc ?_ ?_ _) | (with_reducible refine Below.drew ?_) | (with_reducible refine Below.drawsN ?_ _) | (with_reducible refine Below.setCell ?_ ?_ _) | (with_reducible refine le_bel ?_) | (with_reducible refine le_alloc ?_) | (with_reducible refine le_setCell ?_) | (with_reducible refine le_drew ?_) | (with_reducible refine le_drawsN ?_) | (dsimp only; with_reducible refine le_bel ?_) | (dsimp only; with_reducible refine Nat.le_refl _) | (dsimp only; with_reducible refine le_bel_add ?_) | (with_reducible assumption) | omega | (dsimp only; omega))))
      · have hc' : ((c.toNat : Int) == 48) = false := beq_eq_false_iff_ne.2 (fun h => hc (UInt8.toNat_inj.1 (by show c.toNat = 48; omega)))
        have hb0 : (ByteArray.mk (c :: r).toArray)[0]'(by show 0 < (c :: r).toArray.size; simp) = c := rfl
        clear hz hc
        have hdl3 : d.length = r.length + 1 := hdl2
        go_enter Tryz.func32, Tryz.ntmps32
        go_wp2_with fail
        (with_reducible refine (HC.out _).mono ?_)
        rintro _ _ ⟨rfl, x1, rfl⟩
        have hx1 := x1.size_le
        dsimp only
        go_wp2
        rw [HD0.out]
        go_loopw [5] (fun i wr => ∃ k : Nat, k ≤ d.length ∧ i = .int .i64 (k : Int) ∧ (d.take k).all isD = true ∧ Below w.heap.size w wr) (fun i _ => d.length - (intOf i).toNat)
        case atStart => exact ⟨0, by omega, rfl, rfl, by (repeat' (first | (with_reducible exact Below.refl _ _) | (with_reducible exact Nat.le_refl _) | (with_reducible refine Below.bel ?_ ?_) | (with_reducible refine Below.alloc ?_ ?_ _) | (with_reducible refine Below.drew ?_) | (with_reducible refine Below.drawsN ?_ _) | (with_reducible refine Below.setCell ?_ ?_ _) | (with_reducible refine le_bel ?_) | (with_reducible refine le_alloc ?_) | (with_reducible refine le_setCell ?_) | (with_reducible refine le_drew ?_) | (with_reducible refine le_drawsN ?_) | (dsimp only; with_reducible refine le_bel ?_) | (dsimp only; with_reducible refine Nat.le_refl _) | (dsimp only; with_reducible refine le_bel_add ?_) | (with_reducible assumption) | omega | (dsimp only; omega)))⟩
        case round =>
          obtain ⟨k, hk, rfl, hall, hb⟩ := hrel
          have hbs := hb.size
          by_cases hkl : k < d.length
          · have hki : (k : Int) < (r.length : Int) + 1 := by omega
            obtain ⟨q, hq⟩ : ∃ q, d[k]? = some q := ⟨_, List.getElem?_eq_getElem hkl⟩
            have hkb : k < (ByteArray.mk d.toArray).size := by show k < d.toArray.size; simpa using hkl
            have hbk : (ByteArray.mk d.toArray)[k]'hkb = q := by
              have h1 : d[k]'hkl = q := by rw [List.getElem?_eq_getElem hkl] at hq; exact Option.some.inj hq
              exact h1
            have htk : d.take (k + 1) = d.take k ++ [q] := by rw [List.take_add_one, hq]; rfl
            cases hD : isD q
            · have HALL := Lib.hid (show d.all isD = false by
                rw [List.all_eq_false]
                exact ⟨q, List.mem_of_getElem? hq, by rw [hD]; decide⟩)
              by_cases h48 : q.toNat < 48
              · have e1 : decide ((q.toNat : Int) < 48) = true := decide_eq_true (by omega)
                clear hq htk hD hall h48
                go_wp2
                go_ret
                exact Ret.mk (by first | (rw [HCH.out, HALL.out]; rfl) | (rw [HD0.out, HCH.out, HALL.out]; rfl)) (by (repeat' (first | (with_reducible exact Below.refl _ _) | (with_reducible exact Nat.le_refl _) | (with_reducible refine Below.bel ?_ ?_) | (with_reducible refine Below.alloc ?_ ?_ _) | (with_reducible refine Below.drew ?_) | (with_reducible refine Below.drawsN ?_ _) | (with_reducible refine Below.setCell ?_ ?_ _) | (with_reducible refine le_bel ?_) | (with_reducible refine le_alloc ?_) | (with_reducible refine le_setCell ?_) | (with_reducible refine le_drew ?_) | (with_reducible refine le_drawsN ?_) | (dsimp only; with_reducible refine le_bel ?_) | (dsimp only; with_reducible refine Nat.le_refl _) | (dsimp only; with_reducible refine le_bel_add ?_) | (with_reducible assumption) | omega | (dsimp only; omega))))
              · have e1 : decide ((q.toNat : Int) < 48) = false := decide_eq_false (by omega)
                have e2 : decide ((57 : Int) < (q.toNat : Int)) = true := decide_eq_true (by
                  unfold isD at hD
                  simp at hD
                  omega)
                clear hq htk hD hall h48
                go_wp2
                go_ret
                exact Ret.mk (by first | (rw [HCH.out, HALL.out]; rfl) | (rw [HD0.out, HCH.out, HALL.out]; rfl)) (by (repeat' (first | (with_reducible exact Below.refl _ _) | (with_reducible exact Nat.le_refl _) | (with_reducible refine Below.bel ?_ ?_) | (with_reducible refine Below.alloc ?_ ?_ _) | (with_reducible refine Below.drew ?_) | (with_reducible refine Below.drawsN ?_ _) | (with_reducible refine Below.setCell ?_ ?_ _) | (with_reducible refine le_bel ?_) | (with_reducible refine le_alloc ?_) | (with_reducible refine le_setCell ?_) | (with_reducible refine le_drew ?_) | (with_reducible refine le_drawsN ?_) | (dsimp only; with_reducible refine le_bel ?_) | (dsimp only; with_reducible refine Nat.le_refl _) | (dsimp only; with_reducible refine le_bel_add ?_) | (with_reducible assumption) | omega | (dsimp only; omega))))
            · have HALL := Lib.hid (show (d.take (k + 1)).all isD = true by rw [htk, List.all_append, hall]; simp [hD])
              have hqq : 48 ≤ q.toNat ∧ q.toNat ≤ 57 := by
                unfold isD at hD
                simpa using hD
              have e1 : decide ((q.toNat : Int) < 48) = false := decide_eq_false (by omega)
              have e2 : decide ((57 : Int) < (q.toNat : Int)) = false := decide_eq_false (by omega)
              clear hq htk hD hall hqq
              go_wp2
              go_roundw
              case rel => exact ⟨k + 1, by omega, by go_num, HALL.out, by (repeat' (first | (with_reducible exact Below.refl _ _) | (with_reducible exact Nat.le_refl _) | (with_reducible refine Below.bel ?_ ?_) | (with_reducible refine Below.alloc ?_ ?_ _) | (with_reducible refine Below.drew ?_) | (with_reducible refine Below.drawsN ?_ _) | (with_reducible refine Below.setCell ?_ ?_ _) | (with_reducible refine le_bel ?_) | (with_reducible refine le_alloc ?_) | (with_reducible refine le_setCell ?_) | (with_reducible refine le_drew ?_) | (with_reducible refine le_drawsN ?_) | (dsimp only; with_reducible refine le_bel ?_) | (dsimp only; with_reducible refine Nat.le_refl _) | (dsimp only; with_reducible refine le_bel_add ?_) | (with_reducible assumption) | omega | (dsimp only; omega)))⟩
              case measure => simp [intOf]; omega
          · obtain rfl : k = d.length := by omega
            rw [List.take_length] at hall
            have HALL := Lib.hid hall
            clear hall
            go_wp2
            go_ret
            exact Ret.mk (by first | (rw [HCH.out, HALL.out]; rfl) | (rw [HD0.out, HCH.out, HALL.out]; rfl)) (by (repeat' (first | (with_reducible exact Below.refl _ _) | (with_reducible exact Nat.le_refl _) | (with_reducible refine Below.bel ?_ ?_) | (with_reducible refine Below.alloc ?_ ?_ _) | (with_reducible refine Below.drew ?_) | (with_reducible refine Below.drawsN ?_ _) | (with_reducible refine Below.setCell ?_ ?_ _) | (with_reducible refine le_bel ?_) | (with_reducible refine le_alloc ?_) | (with_reducible refine le_setCell ?_) | (with_reducible refine le_drew ?_) | (with_reducible refine le_drawsN ?_) | (dsimp only; with_reducible refine le_bel ?_) | (dsimp only; with_reducible refine Nat.le_refl _) | (dsimp only; with_reducible refine le_bel_add ?_) | (with_reducible assumption) | omega | (dsimp only; omega))))
/-- What Right returns. -/
def rgV (l : List UInt8) : Bool := canV l && decide ((Lib.trimPrefix l [45]).length ≤ 400)
end Go.Proofs.YteglfhmmkoahfaaGreatDoor
