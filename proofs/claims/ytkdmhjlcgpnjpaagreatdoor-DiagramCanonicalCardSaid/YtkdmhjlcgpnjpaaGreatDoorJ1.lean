/- The reader of formulas: its next byte. The reader of formulas: a variable. The reader of formulas: the number of a variable. The reader of formulas: where the inputs of a join stand in its text. The reader of formulas: the inputs of a join. The reader of formulas: the inputs of a join, if there are some (under way). The reader of formulas, whole (under way). Parse of a formula's text. -/
import Derived.Test.YtkdmhjlcgpnjpaaGreatDoorH3
import Derived.Lib.SmallJoins
namespace Go.Proofs.YtkdmhjlcgpnjpaaGreatDoor
set_option linter.unusedVariables false
set_option linter.unusedSimpArgs false
open Go.RowKit Go.Shelf F
attribute [local go_sem low] Bel.cell Bel.frozen alloc_cell alloc_frozen

/-- The reader at block b. -/
def RdAt (w : World) (b : Nat) (S : List UInt8) (at_ : Nat) : Prop := w.heap[b]? = some (.cells #[.string ⟨S.toArray⟩, .int .i64 (at_ : Int)] 128 (0, 0))
theorem box2 {W : World} {b : Nat} {x y : Value} {e : TypeId} (h : W.heap[b]? = some (.cells #[x, y] e (0, 0))) : W.cell? ⟨b, 0, none⟩ = some x ∧ W.cell? ⟨b, 1, none⟩ = some y ∧ W.frozen? ⟨b, 0, none⟩ = false ∧ W.frozen? ⟨b, 1, none⟩ = false := by
  refine ⟨?_, ?_, ?_, ?_⟩ <;> simp [World.cell?, World.frozen?, h]
/-- All but the object at b lies as it lay. -/
def RK (b : Nat) (w w' : World) : Prop := Below b w w' ∧ ∀ k o, w.heap[k]? = some o → k ≠ b → w'.heap[k]? = some o
theorem RK.refl (b : Nat) (w : World) : RK b w w := ⟨Below.refl _ _, fun _ _ h _ => h⟩
theorem RK.trans {b : Nat} {w w1 w2 : World} (h : RK b w w1) (k : RK b w1 w2) : RK b w w2 := ⟨h.1.trans k.1, fun i o hi hn => k.2 i o (h.2 i o hi hn) hn⟩
theorem RK.bel {b : Nat} {w w' : World} (h : Below w.heap.size w w') (hb : b ≤ w.heap.size) : RK b w w' := ⟨h.mono hb, fun _ _ hi _ => obj_bel ⟨w', h⟩ hi⟩
theorem RK.set {b i : Nat} {w : World} (v : Value) : RK b w (w.setCell ⟨b, i, none⟩ v) := ⟨(Below.refl _ _).setCell (p := ⟨b, i, none⟩) (Nat.le_refl _) _, fun _ _ hi hn => obj_ne _ hn hi⟩
/-- The byte at a place; 0 behind the end. -/
def byteAt (S : List UInt8) (k : Nat) : UInt8 := S.getD k 0
set_option maxRecDepth 100000 in
set_option maxHeartbeats 3200000 in
theorem next_any (b : Nat) (S : List UInt8) (at_ : Nat) (w : World) (h : RdAt w b S at_) (hS : S.length ≤ 1000000) (ha : at_ ≤ 1000000) :
    Calls Tryz.prog 109 #[.pointer (some ⟨b, 0, none⟩)] w (Ret (.int .u8 ((byteAt S at_).toNat : Int)) w) := by
  obtain ⟨c0, c1, _, _⟩ := box2 h
  unfold byteAt
  by_cases hlt : at_ < S.length
  · have f0 : decide ((at_ : Int) < (S.length : Int)) = true := decide_eq_true (by omega)
    obtain ⟨c, hc⟩ := some_at hlt
    rw [List.getD_eq_getElem?_getD, hc]
    have HIX := Lib.hid (show ∀ h : at_ < (ByteArray.mk S.toArray).size, (ByteArray.mk S.toArray)[at_]'h = c from fun h => by
      obtain ⟨h1, h2⟩ := List.getElem?_eq_some_iff.1 hc
      show S.toArray[at_] = c
      rw [List.getElem_toArray]
      exact h2)
    go_enter Tryz.func109, Tryz.ntmps109
    go_wp2_with fail
    refine wp_region_bel (by kernel_rfl) (by kernel_rfl) ?_
    repeat (go_big_quiet_step (fail))
    refine wpQuiet_nil ?_
    rintro _ ⟨x, rfl⟩
    go_wp2_with fail
    refine wp_region_bel (by kernel_rfl) (by kernel_rfl) ?_
    repeat (go_big_quiet_step (fail))
    refine wpQuiet_nil ?_
    rintro _ ⟨y, rfl⟩
    go_wp2
    go_ret
    exact Ret.mk (by (have := HIX.out; simp [this])) (by (repeat' (first | (with_reducible first | exact Below.refl _ _ | exact Nat.le_refl _ | refine Below.bel ?_ ?_ | refine Below.alloc ?_ ?_ _ | refine Below.drew ?_ | refine Below.drawsN ?_ _ | refine Below.setCell ?_ ?_ _ | refine le_bel ?_ | refine le_alloc ?_ | refine le_setCell ?_ | refine le_drew ?_ | refine le_drawsN ?_) | (dsimp only; with_reducible first | refine le_bel ?_ | refine Nat.le_refl _ | refine le_bel_add ?_) | (with_reducible assumption) | omega | (dsimp only; omega))))
  · have f0 : decide ((at_ : Int) < (S.length : Int)) = false := decide_eq_false (by omega)
    rw [List.getD_eq_getElem?_getD, List.getElem?_eq_none (by omega)]
    go_enter Tryz.func109, Tryz.ntmps109
    go_wp2_with fail
    refine wp_region_bel (by kernel_rfl) (by kernel_rfl) ?_
    repeat (go_big_quiet_step (fail))
    refine wpQuiet_nil ?_
    rintro _ ⟨x, rfl⟩
    go_wp2
    go_ret
    exact Ret.mk (by rfl) (by (repeat' (first | (with_reducible first | exact Below.refl _ _ | exact Nat.le_refl _ | refine Below.bel ?_ ?_ | refine Below.alloc ?_ ?_ _ | refine Below.drew ?_ | refine Below.drawsN ?_ _ | refine Below.setCell ?_ ?_ _ | refine le_bel ?_ | refine le_alloc ?_ | refine le_setCell ?_ | refine le_drew ?_ | refine le_drawsN ?_) | (dsimp only; with_reducible first | refine le_bel ?_ | refine Nat.le_refl _ | refine le_bel_add ?_) | (with_reducible assumption) | omega | (dsimp only; omega))))
end Go.Proofs.YtkdmhjlcgpnjpaaGreatDoor

namespace Go.Proofs.YtkdmhjlcgpnjpaaGreatDoor
set_option linter.unusedVariables false
set_option linter.unusedSimpArgs false
open Go.RowKit Go.Shelf F
attribute [local go_sem low] Bel.cell Bel.frozen alloc_cell alloc_frozen

theorem byteAt_mid {p d r : List UInt8} {k : Nat} (h : k < d.length) : byteAt (p ++ (d ++ r)) (p.length + k) = d[k] := by
  unfold byteAt
  rw [List.getD_eq_getElem?_getD, List.getElem?_append_right (by omega), Nat.add_sub_cancel_left, List.getElem?_append_left h, List.getElem?_eq_getElem h]
  rfl
theorem byteAt_end {p d r : List UInt8} : byteAt (p ++ (d ++ r)) (p.length + d.length) = byteAt r 0 := by
  unfold byteAt
  rw [List.getD_eq_getElem?_getD, List.getElem?_append_right (by omega), Nat.add_sub_cancel_left, List.getElem?_append_right (by omega), Nat.sub_self, List.getD_eq_getElem?_getD]
theorem stop_byte {r : List UInt8} (h : stopD r = true) : (byteAt r 0).toNat < 48 ∨ (48 ≤ (byteAt r 0).toNat ∧ 57 < (byteAt r 0).toNat) := by
  cases r with
  | nil => left; decide
  | cons c r =>
    show c.toNat < 48 ∨ (48 ≤ c.toNat ∧ 57 < c.toNat)
    unfold stopD isDg at h
    rw [Bool.not_eq_true', Bool.and_eq_false_iff, decide_eq_false_iff_not, decide_eq_false_iff_not] at h
    omega
theorem dig_byte {a : Int} {k : Nat} (h : k < (dgs a).length) : 48 ≤ (dgs a)[k].toNat ∧ (dgs a)[k].toNat ≤ 57 := by
  have := dec_all a.toNat _ (List.getElem_mem h)
  unfold isDg at this
  rw [Bool.and_eq_true, decide_eq_true_eq, decide_eq_true_eq] at this
  exact this
theorem extract_mid (p d r : List UInt8) : (ByteArray.mk (p ++ (d ++ r)).toArray).extract p.length (p.length + d.length) = ⟨d.toArray⟩ := by
  refine ByteArray.ext ?_
  rw [ByteArray.data_extract, List.extract_toArray, List.extract_eq_take_drop, List.drop_left, Nat.add_sub_cancel_left, List.take_left]
theorem dec_head0 (u : Nat) : ∀ c r, Go.Lib.decDigits u = c :: r → r ≠ [] → c.toNat ≠ 48 := by
  induction u using Nat.strongRecOn with
  | ind u ih =>
    intro c r hc hr
    by_cases h : u < 10
    · rw [Go.Lib.decDigits_one h] at hc
      injection hc with _ h2
      exact absurd h2.symm hr
    · rw [Go.Lib.decDigits, dif_neg h] at hc
      by_cases h2 : u / 10 < 10
      · rw [Go.Lib.decDigits_one h2] at hc
        injection hc with h3 _
        rw [← h3, dv h2]
        omega
      · cases hd : Go.Lib.decDigits (u / 10) with
        | nil => rw [hd] at hc; injection hc with _ h3; exact absurd h3.symm hr
        | cons x y =>
          rw [hd] at hc
          injection hc with h3 _
          rw [← h3]
          refine ih (u / 10) (by omega) x y hd (fun e => ?_)
          have hl := Go.Lib.decDigits_length (u / 10)
          rw [hd, e] at hl
          rw [Go.Lib.decDigits, dif_neg h2] at hd
          have := congrArg List.length hd
          rw [List.length_append, e] at this
          have hp := Go.Lib.nDigits_pos (u / 10 / 10)
          rw [← Go.Lib.decDigits_length] at hp
          simp only [List.length_cons, List.length_nil] at this
          omega
/-- Digits are read as their number. -/
theorem puint_dgs : ∀ (l : List UInt8) (acc : Nat), (∀ c ∈ l, isDg c = true) → l.foldl (fun a c => 10 * a + (c.toNat - 48)) acc < 18446744073709551616 → Lib.parseUint10 acc l = .ok (l.foldl (fun a c => 10 * a + (c.toNat - 48)) acc)
  | [], acc, _, _ => rfl
  | c :: r, acc, hd, h => by
    have hc := hd c (List.mem_cons_self ..)
    unfold isDg at hc
    rw [Bool.and_eq_true, decide_eq_true_eq, decide_eq_true_eq] at hc
    have hge : ∀ (r : List UInt8) (x : Nat), x ≤ r.foldl (fun a c => 10 * a + (c.toNat - 48)) x := by
      intro r
      induction r with
      | nil => intro x; exact Nat.le_refl _
      | cons y z ih => intro x; rw [List.foldl_cons]; exact Nat.le_trans (by omega) (ih _)
    rw [List.foldl_cons] at h ⊢
    have := hge r (10 * acc + (c.toNat - 48))
    have ih := puint_dgs r _ (fun x hx => hd x (List.mem_cons_of_mem _ hx)) h
    rw [Lib.parseUint10, if_pos hc, if_neg (by omega), if_neg (by omega), show acc * 10 + (c.toNat - 48) = 10 * acc + (c.toNat - 48) by omega]
    exact ih
theorem atoi_dgs {a : Int} (h0 : 0 ≤ a) (h1 : a < 4096) : Lib.atoiAll (dgs a) = .ok a := by
  have hd := dec_all a.toNat
  have hv := dec_val a.toNat
  have hne := dgs_ne a
  unfold dgs at hne ⊢
  unfold dval at hv
  cases hl : Go.Lib.decDigits a.toNat with
  | nil => exact absurd hl hne
  | cons c r =>
    rw [hl] at hd hv
    have hc := hd c (List.mem_cons_self ..)
    unfold isDg at hc
    rw [Bool.and_eq_true, decide_eq_true_eq, decide_eq_true_eq] at hc
    rw [Lib.atoiAll_plain c r (by omega) (by omega)]
    unfold Lib.parseMag
    rw [if_neg (by simp), puint_dgs (c :: r) 0 hd (by rw [hv]; omega), hv]
    show (if _ then _ else _) = _
    rw [if_neg (by omega)]
    congr 1
    omega
theorem atoi_any (a : Int) (w : World) (h0 : 0 ≤ a) (h1 : a < 4096) : Calls Tryz.prog 126 #[.string ⟨(dgs a).toArray⟩] w (Ret (.tuple #[.int .i64 a, .nilIface]) w) :=
  (Tryz.strconv_Atoi_ok ⟨(dgs a).toArray⟩ (by
    have : (dgs a).length ≤ 4 := dec_lenk 3 a.toNat (by omega)
    show (dgs a).toArray.size ≤ _
    simp
    omega) a (atoi_dgs h0 h1) w).mono fun e w' ⟨he, hw⟩ => ⟨he, by
    rcases hw with hw | ⟨t, hw⟩
    · exact ⟨⟨w, Below.refl _ _⟩, hw⟩
    · exact ⟨⟨_, Go.Joins.below_bytesWorld w.heap.size w 5 t (Nat.le_refl _)⟩, hw⟩⟩
end Go.Proofs.YtkdmhjlcgpnjpaaGreatDoor

namespace Go.Proofs.YtkdmhjlcgpnjpaaGreatDoor
set_option linter.unusedVariables false
set_option linter.unusedSimpArgs false
open Go.RowKit Go.Shelf F
attribute [local go_sem low] Bel.cell Bel.frozen alloc_cell alloc_frozen

/-- What a reading call returns: a tree in new memory; the reader has moved on. -/
def RdRet (b : Nat) (S : List UInt8) (tw : Nat) (t : F) (w : World) (e : Ending) (w' : World) : Prop :=
  ∃ v, e = .returned (.tuple #[v, .bool true]) ∧ FV (fun c => w.heap.size ≤ c) w' v t ∧ RdAt w' b S tw ∧ RK b w w'
/-- Where the reader is. -/
def rdAt (b : Nat) (w : World) : Nat := match w.cell? ⟨b, 1, none⟩ with
  | some v => (intOf v).toNat
  | none => 0
theorem rdAt_eq {w : World} {b : Nat} {S : List UInt8} {k : Nat} (h : RdAt w b S k) : rdAt b w = k := by
  unfold rdAt
  rw [(box2 h).2.1]
  simp [intOf]
theorem RdAt.lt {w : World} {b : Nat} {S : List UInt8} {k : Nat} (h : RdAt w b S k) : b < w.heap.size := (Array.getElem?_eq_some_iff.1 h).1
theorem RdAt.move {w : World} {b : Nat} {S : List UInt8} {k : Nat} (h : RdAt w b S k) (k' : Nat) : RdAt (w.setCell ⟨b, 1, none⟩ (.int .i64 (k' : Int))) b S k' := obj_set _ h
theorem RdAt.of {w w' : World} {b : Nat} {S : List UInt8} {k : Nat} (h : RdAt w b S k) (hb : Below w.heap.size w w') : RdAt w' b S k := obj_bel ⟨w', hb⟩ h
theorem RK.setNew {b c i : Nat} {w w' : World} (h : RK b w w') (hc : w.heap.size ≤ c) (hb : b ≤ c) (v : Value) : RK b w (w'.setCell ⟨c, i, none⟩ v) :=
  ⟨h.1.setCell (p := ⟨c, i, none⟩) hb _, fun k o hk hn => obj_ne _ (fun e => by have := (Array.getElem?_eq_some_iff.1 hk).1; omega) (h.2 k o hk hn)⟩
theorem dgs_byte {p r : List UInt8} {a : Int} {k : Nat} {c : UInt8} (h : (dgs a)[k]? = some c) : byteAt (p ++ (dgs a ++ r)) (p.length + k) = c ∧ 48 ≤ c.toNat ∧ c.toNat ≤ 57 := by
  obtain ⟨h1, h2⟩ := List.getElem?_eq_some_iff.1 h
  have h3 := byteAt_mid (p := p) (r := r) h1
  have h4 := dig_byte h1
  rw [h2] at h3 h4
  exact ⟨h3, h4⟩
set_option maxRecDepth 100000 in
set_option maxHeartbeats 6400000 in
theorem fvariable_any (b : Nat) (p r : List UInt8) (a : Int) (w : World) (h0 : 0 ≤ a) (h1 : a < 4096) (hr : stopD r = true) (hS : (p ++ (dgs a ++ r)).length ≤ 1000000) (h : RdAt w b (p ++ (dgs a ++ r)) p.length) :
    Calls Tryz.prog 110 #[.pointer (some ⟨b, 0, none⟩)] w (RdRet b (p ++ (dgs a ++ r)) (p.length + (dgs a).length) (nd 1 a []) w) := by
  have hbw := h.lt
  have hpl : p.length + (dgs a).length ≤ 1000000 := by simp only [List.length_append] at hS; omega
  have HMID := Lib.hid (fun k c (hk : (dgs a)[k]? = some c) => (dgs_byte (p := p) (r := r) hk))
  have HEND := Lib.hid (@byteAt_end p (dgs a) r)
  have HST := Lib.hid (stop_byte hr)
  have HEX := Lib.hid (extract_mid p (dgs a) r)
  have HAT := Lib.hid (fun w' => atoi_any a w' h0 h1)
  have HNE := Lib.hid (dgs_ne a)
  have HHD := Lib.hid (dec_head0 a.toNat)
  have HDD := Lib.hid (show dgs a = Go.Lib.decDigits a.toNat from rfl)
  obtain ⟨d, hd⟩ : ∃ d, dgs a = d := ⟨_, rfl⟩
  rw [hd] at h hS hpl HEX HAT HNE HDD HEND HMID ⊢
  obtain ⟨S, hSe⟩ : ∃ S, p ++ (d ++ r) = S := ⟨_, rfl⟩
  rw [hSe] at h hS HMID HEND HEX ⊢
  have hSl : p.length + d.length ≤ S.length := by rw [← hSe]; simp only [List.length_append]; omega
  clear hd hr hSe
  have HR := Lib.hid h
  obtain ⟨c0, c1, _, _⟩ := box2 h
  clear h
  go_enter Tryz.func110, Tryz.ntmps110
  go_wp2
  go_loopw [12] (fun _ wr => ∃ k : Nat, k ≤ d.length ∧ RdAt wr b S (p.length + k) ∧ RK b (w.alloc (.cells #[.int .i64 0, .int .i64 0, .slice none 0 0] 26)) wr) (fun _ wr => p.length + d.length - rdAt b wr)
  case atStart => exact ⟨0, by omega, HR.out.of (by (repeat' (first | (with_reducible first | exact Below.refl _ _ | exact Nat.le_refl _ | refine Below.bel ?_ ?_ | refine Below.alloc ?_ ?_ _ | refine Below.drew ?_ | refine Below.drawsN ?_ _ | refine Below.setCell ?_ ?_ _ | refine le_bel ?_ | refine le_alloc ?_ | refine le_setCell ?_ | refine le_drew ?_ | refine le_drawsN ?_) | (dsimp only; with_reducible first | refine le_bel ?_ | refine Nat.le_refl _ | refine le_bel_add ?_) | (with_reducible assumption) | omega | (dsimp only; omega)))), RK.refl _ _⟩
  case round =>
    obtain ⟨k, hk, hrd, hrk⟩ := hrel
    have HRD := Lib.hid hrd
    have HRK := Lib.hid hrk
    obtain ⟨e0, e1, e2, e3⟩ := box2 hrd
    have hme := rdAt_eq hrd
    have HME := Lib.hid hme
    have hwr := hrd.lt
    have HNX := Lib.hid (fun w' (h : RdAt w' b S (p.length + k)) => next_any b S (p.length + k) w' h hS (by omega))
    clear hrd hrk hme
    rcases Nat.lt_or_ge k d.length with hkl | hkl
    · obtain ⟨c, hc⟩ := some_at hkl
      obtain ⟨hb1, hb2⟩ := HMID.out k c hc
      rw [hb1] at HNX
      have f0 : decide ((48 : Int) ≤ (c.toNat : Int)) = true := decide_eq_true (by omega)
      have f1 : decide ((c.toNat : Int) ≤ 57) = true := decide_eq_true (by omega)
      clear hb1 hb2 hc
      go_wp2_with fail
      refine (HNX.out _ HRD.out).mono ?_
      rintro _ _ ⟨rfl, y1, rfl⟩
      dsimp only
      go_wp2_with fail
      refine (HNX.out _ (HRD.out.of (by (repeat' (first | (with_reducible first | exact Below.refl _ _ | exact Nat.le_refl _ | refine Below.bel ?_ ?_ | refine Below.alloc ?_ ?_ _ | refine Below.drew ?_ | refine Below.drawsN ?_ _ | refine Below.setCell ?_ ?_ _ | refine le_bel ?_ | refine le_alloc ?_ | refine le_setCell ?_ | refine le_drew ?_ | refine le_drawsN ?_) | (dsimp only; with_reducible first | refine le_bel ?_ | refine Nat.le_refl _ | refine le_bel_add ?_) | (with_reducible assumption) | omega | (dsimp only; omega)))))).mono ?_
      rintro _ _ ⟨rfl, y2, rfl⟩
      have hrd2 := HRD.out.of (by (repeat' (first | (with_reducible first | exact Below.refl _ _ | exact Nat.le_refl _ | refine Below.bel ?_ ?_ | refine Below.alloc ?_ ?_ _ | refine Below.drew ?_ | refine Below.drawsN ?_ _ | refine Below.setCell ?_ ?_ _ | refine le_bel ?_ | refine le_alloc ?_ | refine le_setCell ?_ | refine le_drew ?_ | refine le_drawsN ?_) | (dsimp only; with_reducible first | refine le_bel ?_ | refine Nat.le_refl _ | refine le_bel_add ?_) | (with_reducible assumption) | omega | (dsimp only; omega))) : Below wr.heap.size wr y2.w)
      obtain ⟨g0, g1, g2, g3⟩ := box2 hrd2
      dsimp only
      go_wp2
      go_roundw
      case rel =>
        have hm := hrd2.move (p.length + (k + 1))
        rw [show ((p.length + (k + 1) : Nat) : Int) = (p.length : Int) + (k : Int) + 1 by omega] at hm
        exact ⟨k + 1, by omega, hm, HRK.out.trans ((RK.bel (by (repeat' (first | (with_reducible first | exact Below.refl _ _ | exact Nat.le_refl _ | refine Below.bel ?_ ?_ | refine Below.alloc ?_ ?_ _ | refine Below.drew ?_ | refine Below.drawsN ?_ _ | refine Below.setCell ?_ ?_ _ | refine le_bel ?_ | refine le_alloc ?_ | refine le_setCell ?_ | refine le_drew ?_ | refine le_drawsN ?_) | (dsimp only; with_reducible first | refine le_bel ?_ | refine Nat.le_refl _ | refine le_bel_add ?_) | (with_reducible assumption) | omega | (dsimp only; omega)))) (by omega)).trans (RK.set _))⟩
      case measure =>
        have hm := hrd2.move (p.length + (k + 1))
        rw [show ((p.length + (k + 1) : Nat) : Int) = (p.length : Int) + (k : Int) + 1 by omega] at hm
        rw [rdAt_eq hm, HME.out]
        omega
    · have hke : k = d.length := by omega
      subst hke
      rw [HEND.out] at HNX
      obtain ⟨c, hc⟩ : ∃ c, byteAt r 0 = c := ⟨_, rfl⟩
      have hst := HST.out
      rw [hc] at HNX hst
      have hresw := HRK.out.2 w.heap.size _ (World.alloc_heap_new w _) (by omega)
      rcases hst with hst | ⟨hst, hst2⟩
      · have f0 : decide ((48 : Int) ≤ (c.toNat : Int)) = false := decide_eq_false (by omega)
        clear hc
        go_wp2_with fail
        refine (HNX.out _ HRD.out).mono ?_
        rintro _ _ ⟨rfl, y1, rfl⟩
        have hrd2 := HRD.out.of (by (repeat' (first | (with_reducible first | exact Below.refl _ _ | exact Nat.le_refl _ | refine Below.bel ?_ ?_ | refine Below.alloc ?_ ?_ _ | refine Below.drew ?_ | refine Below.drawsN ?_ _ | refine Below.setCell ?_ ?_ _ | refine le_bel ?_ | refine le_alloc ?_ | refine le_setCell ?_ | refine le_drew ?_ | refine le_drawsN ?_) | (dsimp only; with_reducible first | refine le_bel ?_ | refine Nat.le_refl _ | refine le_bel_add ?_) | (with_reducible assumption) | omega | (dsimp only; omega))) : Below wr.heap.size wr y1.w)
        obtain ⟨g0, g1, g2, g3⟩ := box2 hrd2
        have hx1 : decide ((p.length : Int) ≤ (p.length : Int) + (d.length : Int)) = true := decide_eq_true (by omega)
        have hx2 : decide ((p.length : Int) + (d.length : Int) ≤ (S.length : Int)) = true := decide_eq_true (by omega)
        dsimp only
        go_wp2_with fail
        refine wp_region_bel (by kernel_rfl) (by kernel_rfl) ?_
        repeat (go_big_quiet_step (fail))
        refine wpQuiet_nil ?_
        rintro _ ⟨z, rfl⟩
        rw [HEX.out]
        have hrd3 := hrd2.of z.below
        have hres3 := obj_bel z (obj_bel ⟨_, (by (repeat' (first | (with_reducible first | exact Below.refl _ _ | exact Nat.le_refl _ | refine Below.bel ?_ ?_ | refine Below.alloc ?_ ?_ _ | refine Below.drew ?_ | refine Below.drawsN ?_ _ | refine Below.setCell ?_ ?_ _ | refine le_bel ?_ | refine le_alloc ?_ | refine le_setCell ?_ | refine le_drew ?_ | refine le_drawsN ?_) | (dsimp only; with_reducible first | refine le_bel ?_ | refine Nat.le_refl _ | refine le_bel_add ?_) | (with_reducible assumption) | omega | (dsimp only; omega))) : Below wr.heap.size wr y1.w)⟩ hresw)
        have HF := Lib.hid (And.intro hrd3 (show RK b w z.w from (RK.bel (by (repeat' (first | (with_reducible first | exact Below.refl _ _ | exact Nat.le_refl _ | refine Below.bel ?_ ?_ | refine Below.alloc ?_ ?_ _ | refine Below.drew ?_ | refine Below.drawsN ?_ _ | refine Below.setCell ?_ ?_ _ | refine le_bel ?_ | refine le_alloc ?_ | refine le_setCell ?_ | refine le_drew ?_ | refine le_drawsN ?_) | (dsimp only; with_reducible first | refine le_bel ?_ | refine Nat.le_refl _ | refine le_bel_add ?_) | (with_reducible assumption) | omega | (dsimp only; omega)))) (by omega)).trans (HRK.out.trans (RK.bel (by (repeat' (first | (with_reducible first | exact Below.refl _ _ | exact Nat.le_refl _ | refine Below.bel ?_ ?_ | refine Below.alloc ?_ ?_ _ | refine Below.drew ?_ | refine Below.drawsN ?_ _ | refine Below.setCell ?_ ?_ _ | refine le_bel ?_ | refine le_alloc ?_ | refine le_setCell ?_ | refine le_drew ?_ | refine le_drawsN ?_) | (dsimp only; with_reducible first | refine le_bel ?_ | refine Nat.le_refl _ | refine le_bel_add ?_) | (with_reducible assumption) | omega | (dsimp only; omega)))) (by omega)))))
        obtain ⟨x, y, hxy⟩ : ∃ x y, d = x :: y := by
          cases hdc : d with
          | nil => exact absurd hdc HNE.out
          | cons x y => exact ⟨x, y, rfl⟩
        have hzs := z.size_le
        have hyl : d.length = y.length + 1 := by rw [hxy]; rfl
        have hd1 : (d == []) = false := by rw [hxy]; rfl
        clear hrd2 hrd3 hresw
        by_cases hy : y = []
        · have hd2 : decide ((1 : Int) < (d.length : Int)) = false := decide_eq_false (by rw [hyl, hy]; decide)
          clear hxy hyl hy
          go_wp2_with fail
          refine (HAT.out _).mono ?_
          rintro _ _ ⟨rfl, u, rfl⟩
          have hres4 := obj_bel u hres3
          obtain ⟨r0, r1, r2⟩ := box3 hres4
          obtain ⟨q0, q1, q2⟩ := box3f hres4
          dsimp only
          go_wp2
          have hR := obj_set3 (.int .i64 1) (.int .i64 a) (.slice none 0 0) hres4
          obtain ⟨s0, s1, s2⟩ := box3 hR
          refine bodyPost_ret (v := .tuple #[.agg #[.int .i64 1, .int .i64 a, .slice none 0 0], .bool true]) (by simp [results, Tryz.results110, go_sem, s0, s1, s2]) rfl ⟨_, rfl, ⟨none, 0, rfl, insF_nil _ _ _⟩, ?_, ?_⟩
          · exact obj_ne _ (by omega) (obj_ne _ (by omega) (obj_ne _ (by omega) (obj_bel u HF.out.1)))
          · exact (((HF.out.2.trans (RK.bel u.below (by have := HF.out.1.lt; omega))).setNew (Nat.le_refl _) (by omega) _).setNew (Nat.le_refl _) (by omega) _).setNew (Nat.le_refl _) (by omega) _
        · have hx48 : ((x.toNat : Int) == 48) = false := by
            have := HHD.out x y (by rw [← HDD.out]; exact hxy) hy
            exact beq_eq_false_iff_ne.2 (by omega)
          have hxn : x.toNat ≠ 48 := by
            have := HHD.out x y (by rw [← HDD.out]; exact hxy) hy
            omega
          have hxe : x ≠ 48 := fun e => hxn (by rw [e]; rfl)
          have hyp : 0 < y.length := Nat.pos_of_ne_zero fun e => hy (List.length_eq_zero_iff.1 e)
          have hd2 : decide ((1 : Int) < ((y.length : Int) + 1)) = true := decide_eq_true (by
            have : y.length ≠ 0 := fun e => hy (List.length_eq_zero_iff.1 e)
            omega)
          subst hxy
          have hix : ∀ h : 0 < (ByteArray.mk (x :: y).toArray).size, (ByteArray.mk (x :: y).toArray)[0]'h = x := fun h => rfl
          clear hy hyl hd1
          go_wp2_with fail
          refine (HAT.out _).mono ?_
          rintro _ _ ⟨rfl, u, rfl⟩
          have hres4 := obj_bel u hres3
          obtain ⟨r0, r1, r2⟩ := box3 hres4
          obtain ⟨q0, q1, q2⟩ := box3f hres4
          dsimp only
          go_wp2
          have hR := obj_set3 (.int .i64 1) (.int .i64 a) (.slice none 0 0) hres4
          obtain ⟨s0, s1, s2⟩ := box3 hR
          refine bodyPost_ret (v := .tuple #[.agg #[.int .i64 1, .int .i64 a, .slice none 0 0], .bool true]) (by simp [results, Tryz.results110, go_sem, s0, s1, s2]) rfl ⟨_, rfl, ⟨none, 0, rfl, insF_nil _ _ _⟩, ?_, ?_⟩
          · exact obj_ne _ (by omega) (obj_ne _ (by omega) (obj_ne _ (by omega) (obj_bel u HF.out.1)))
          · exact (((HF.out.2.trans (RK.bel u.below (by have := HF.out.1.lt; omega))).setNew (Nat.le_refl _) (by omega) _).setNew (Nat.le_refl _) (by omega) _).setNew (Nat.le_refl _) (by omega) _
      · have f0 : decide ((48 : Int) ≤ (c.toNat : Int)) = true := decide_eq_true (by omega)
        have f1 : decide ((c.toNat : Int) ≤ 57) = false := decide_eq_false (by omega)
        clear hc
        go_wp2_with fail
        refine (HNX.out _ HRD.out).mono ?_
        rintro _ _ ⟨rfl, y1, rfl⟩
        dsimp only
        go_wp2_with fail
        refine (HNX.out _ (HRD.out.of (by (repeat' (first | (with_reducible first | exact Below.refl _ _ | exact Nat.le_refl _ | refine Below.bel ?_ ?_ | refine Below.alloc ?_ ?_ _ | refine Below.drew ?_ | refine Below.drawsN ?_ _ | refine Below.setCell ?_ ?_ _ | refine le_bel ?_ | refine le_alloc ?_ | refine le_setCell ?_ | refine le_drew ?_ | refine le_drawsN ?_) | (dsimp only; with_reducible first | refine le_bel ?_ | refine Nat.le_refl _ | refine le_bel_add ?_) | (with_reducible assumption) | omega | (dsimp only; omega)))))).mono ?_
        rintro _ _ ⟨rfl, y2, rfl⟩
        have hrd2 := HRD.out.of (by (repeat' (first | (with_reducible first | exact Below.refl _ _ | exact Nat.le_refl _ | refine Below.bel ?_ ?_ | refine Below.alloc ?_ ?_ _ | refine Below.drew ?_ | refine Below.drawsN ?_ _ | refine Below.setCell ?_ ?_ _ | refine le_bel ?_ | refine le_alloc ?_ | refine le_setCell ?_ | refine le_drew ?_ | refine le_drawsN ?_) | (dsimp only; with_reducible first | refine le_bel ?_ | refine Nat.le_refl _ | refine le_bel_add ?_) | (with_reducible assumption) | omega | (dsimp only; omega))) : Below wr.heap.size wr y2.w)
        obtain ⟨g0, g1, g2, g3⟩ := box2 hrd2
        have hx1 : decide ((p.length : Int) ≤ (p.length : Int) + (d.length : Int)) = true := decide_eq_true (by omega)
        have hx2 : decide ((p.length : Int) + (d.length : Int) ≤ (S.length : Int)) = true := decide_eq_true (by omega)
        dsimp only
        go_wp2_with fail
        refine wp_region_bel (by kernel_rfl) (by kernel_rfl) ?_
        repeat (go_big_quiet_step (fail))
        refine wpQuiet_nil ?_
        rintro _ ⟨z, rfl⟩
        rw [HEX.out]
        have hrd3 := hrd2.of z.below
        have hres3 := obj_bel z (obj_bel ⟨_, (by (repeat' (first | (with_reducible first | exact Below.refl _ _ | exact Nat.le_refl _ | refine Below.bel ?_ ?_ | refine Below.alloc ?_ ?_ _ | refine Below.drew ?_ | refine Below.drawsN ?_ _ | refine Below.setCell ?_ ?_ _ | refine le_bel ?_ | refine le_alloc ?_ | refine le_setCell ?_ | refine le_drew ?_ | refine le_drawsN ?_) | (dsimp only; with_reducible first | refine le_bel ?_ | refine Nat.le_refl _ | refine le_bel_add ?_) | (with_reducible assumption) | omega | (dsimp only; omega))) : Below wr.heap.size wr y2.w)⟩ hresw)
        have HF := Lib.hid (And.intro hrd3 (show RK b w z.w from (RK.bel (by (repeat' (first | (with_reducible first | exact Below.refl _ _ | exact Nat.le_refl _ | refine Below.bel ?_ ?_ | refine Below.alloc ?_ ?_ _ | refine Below.drew ?_ | refine Below.drawsN ?_ _ | refine Below.setCell ?_ ?_ _ | refine le_bel ?_ | refine le_alloc ?_ | refine le_setCell ?_ | refine le_drew ?_ | refine le_drawsN ?_) | (dsimp only; with_reducible first | refine le_bel ?_ | refine Nat.le_refl _ | refine le_bel_add ?_) | (with_reducible assumption) | omega | (dsimp only; omega)))) (by omega)).trans (HRK.out.trans (RK.bel (by (repeat' (first | (with_reducible first | exact Below.refl _ _ | exact Nat.le_refl _ | refine Below.bel ?_ ?_ | refine Below.alloc ?_ ?_ _ | refine Below.drew ?_ | refine Below.drawsN ?_ _ | refine Below.setCell ?_ ?_ _ | refine le_bel ?_ | refine le_alloc ?_ | refine le_setCell ?_ | refine le_drew ?_ | refine le_drawsN ?_) | (dsimp only; with_reducible first | refine le_bel ?_ | refine Nat.le_refl _ | refine le_bel_add ?_) | (with_reducible assumption) | omega | (dsimp only; omega)))) (by omega)))))
        obtain ⟨x, y, hxy⟩ : ∃ x y, d = x :: y := by
          cases hdc : d with
          | nil => exact absurd hdc HNE.out
          | cons x y => exact ⟨x, y, rfl⟩
        have hzs := z.size_le
        have hyl : d.length = y.length + 1 := by rw [hxy]; rfl
        have hd1 : (d == []) = false := by rw [hxy]; rfl
        clear hrd2 hrd3 hresw
        by_cases hy : y = []
        · have hd2 : decide ((1 : Int) < (d.length : Int)) = false := decide_eq_false (by rw [hyl, hy]; decide)
          clear hxy hyl hy
          go_wp2_with fail
          refine (HAT.out _).mono ?_
          rintro _ _ ⟨rfl, u, rfl⟩
          have hres4 := obj_bel u hres3
          obtain ⟨r0, r1, r2⟩ := box3 hres4
          obtain ⟨q0, q1, q2⟩ := box3f hres4
          dsimp only
          go_wp2
          have hR := obj_set3 (.int .i64 1) (.int .i64 a) (.slice none 0 0) hres4
          obtain ⟨s0, s1, s2⟩ := box3 hR
          refine bodyPost_ret (v := .tuple #[.agg #[.int .i64 1, .int .i64 a, .slice none 0 0], .bool true]) (by simp [results, Tryz.results110, go_sem, s0, s1, s2]) rfl ⟨_, rfl, ⟨none, 0, rfl, insF_nil _ _ _⟩, ?_, ?_⟩
          · exact obj_ne _ (by omega) (obj_ne _ (by omega) (obj_ne _ (by omega) (obj_bel u HF.out.1)))
          · exact (((HF.out.2.trans (RK.bel u.below (by have := HF.out.1.lt; omega))).setNew (Nat.le_refl _) (by omega) _).setNew (Nat.le_refl _) (by omega) _).setNew (Nat.le_refl _) (by omega) _
        · have hx48 : ((x.toNat : Int) == 48) = false := by
            have := HHD.out x y (by rw [← HDD.out]; exact hxy) hy
            exact beq_eq_false_iff_ne.2 (by omega)
          have hxn : x.toNat ≠ 48 := by
            have := HHD.out x y (by rw [← HDD.out]; exact hxy) hy
            omega
          have hxe : x ≠ 48 := fun e => hxn (by rw [e]; rfl)
          have hyp : 0 < y.length := Nat.pos_of_ne_zero fun e => hy (List.length_eq_zero_iff.1 e)
          have hd2 : decide ((1 : Int) < ((y.length : Int) + 1)) = true := decide_eq_true (by
            have : y.length ≠ 0 := fun e => hy (List.length_eq_zero_iff.1 e)
            omega)
          subst hxy
          have hix : ∀ h : 0 < (ByteArray.mk (x :: y).toArray).size, (ByteArray.mk (x :: y).toArray)[0]'h = x := fun h => rfl
          clear hy hyl hd1
          go_wp2_with fail
          refine (HAT.out _).mono ?_
          rintro _ _ ⟨rfl, u, rfl⟩
          have hres4 := obj_bel u hres3
          obtain ⟨r0, r1, r2⟩ := box3 hres4
          obtain ⟨q0, q1, q2⟩ := box3f hres4
          dsimp only
          go_wp2
          have hR := obj_set3 (.int .i64 1) (.int .i64 a) (.slice none 0 0) hres4
          obtain ⟨s0, s1, s2⟩ := box3 hR
          refine bodyPost_ret (v := .tuple #[.agg #[.int .i64 1, .int .i64 a, .slice none 0 0], .bool true]) (by simp [results, Tryz.results110, go_sem, s0, s1, s2]) rfl ⟨_, rfl, ⟨none, 0, rfl, insF_nil _ _ _⟩, ?_, ?_⟩
          · exact obj_ne _ (by omega) (obj_ne _ (by omega) (obj_ne _ (by omega) (obj_bel u HF.out.1)))
          · exact (((HF.out.2.trans (RK.bel u.below (by have := HF.out.1.lt; omega))).setNew (Nat.le_refl _) (by omega) _).setNew (Nat.le_refl _) (by omega) _).setNew (Nat.le_refl _) (by omega) _
end Go.Proofs.YtkdmhjlcgpnjpaaGreatDoor

namespace Go.Proofs.YtkdmhjlcgpnjpaaGreatDoor
set_option linter.unusedVariables false
set_option linter.unusedSimpArgs false
open Go.RowKit Go.Shelf F

theorem txtL_split3 (A : List F) (u : F) (B : List F) : txtL (A ++ u :: B) = txtL A ++ ((if A = [] then [] else [32]) ++ (txt u ++ txtR B)) := by
  cases A with
  | nil => rw [List.nil_append, if_pos rfl, txtL, txtL]; rfl
  | cons t r =>
    rw [if_neg (fun h => by cases h), List.cons_append, txtL, txtL, txtR_app, txtR, List.append_assoc]
    rfl
/-- Where the k-th input begins, behind a bracket at p. -/
def posL (l : List F) (k : Nat) : Nat := 1 + (txtL (l.take k)).length + (if k = 0 then 0 else 1)
theorem seg_at {p r : List UInt8} {l : List F} {k : Nat} {u : F} (h : l[k]? = some u) : ∃ p' r', p ++ (40 :: (txtL l ++ (41 :: r))) = p' ++ (txt u ++ r') ∧ p'.length = p.length + posL l k ∧ stopD r' = true ∧
    byteAt r' 0 = (if k + 1 = l.length then 41 else 32) := by
  have hk := (List.getElem?_eq_some_iff.1 h).1
  have hl : l = l.take k ++ u :: l.drop (k + 1) := by
    conv => lhs; rw [← List.take_append_drop k l, drop_at h]
  have h0 : (l.take k = []) ↔ k = 0 := by
    rw [← List.length_eq_zero_iff, List.length_take]
    omega
  refine ⟨p ++ (40 :: (txtL (l.take k) ++ (if k = 0 then [] else [32]))), txtR (l.drop (k + 1)) ++ (41 :: r), ?_, ?_, ?_, ?_⟩
  · conv => lhs; rw [hl, txtL_split3]
    by_cases hk0 : k = 0
    · rw [if_pos (h0.2 hk0), if_pos hk0]
      simp only [List.append_assoc, List.cons_append, List.nil_append, List.append_nil]
    · rw [if_neg (fun e => hk0 (h0.1 e)), if_neg hk0]
      simp only [List.append_assoc, List.cons_append, List.nil_append]
  · unfold posL
    simp only [List.length_append, List.length_cons]
    by_cases hk0 : k = 0
    · rw [if_pos hk0, if_pos hk0]; simp only [List.length_nil]; omega
    · rw [if_neg hk0, if_neg hk0]; simp only [List.length_cons, List.length_nil]; omega
  · cases l.drop (k + 1) <;> rfl
  · by_cases he : k + 1 = l.length
    · rw [if_pos he, he, List.drop_length]; rfl
    · rw [if_neg he]
      obtain ⟨v, hv⟩ := some_at (l := l) (k := k + 1) (by omega)
      rw [drop_at hv]
      rfl
theorem posL_next {l : List F} {k : Nat} {u : F} (h : l[k]? = some u) : posL l (k + 1) = posL l k + (txt u).length + 1 := by
  unfold posL
  have h1 : (if k + 1 = 0 then (0 : Nat) else 1) = 1 := if_neg (by omega)
  rw [txtL_take h, List.length_append, h1]
  by_cases hk0 : k = 0
  · rw [if_pos hk0, if_pos hk0]; omega
  · rw [if_neg hk0, if_neg hk0, List.length_cons]; omega
theorem posL_end {l : List F} (h : l ≠ []) : posL l l.length = (txtL l).length + 2 := by
  unfold posL
  rw [List.take_length, if_neg (fun e => h (List.length_eq_zero_iff.1 e))]
  omega
theorem posL_zero (l : List F) : posL l 0 = 1 := by
  unfold posL
  rw [List.take_zero, txtL, if_pos rfl]
  rfl
end Go.Proofs.YtkdmhjlcgpnjpaaGreatDoor

namespace Go.Proofs.YtkdmhjlcgpnjpaaGreatDoor
set_option linter.unusedVariables false
set_option linter.unusedSimpArgs false
open Go.RowKit Go.Shelf F
attribute [local go_sem low] Bel.cell Bel.frozen alloc_cell alloc_frozen

theorem txt_byte {t : F} (h : okT t) (r : List UInt8) : ∃ c, byteAt (txt t ++ r) 0 = c ∧ c.toNat ≠ 41 := by
  cases t with
  | nd k a l =>
    obtain ⟨c, x, e1, e2⟩ := txt_head h.1
    refine ⟨c, by rw [e1]; rfl, fun h41 => ?_⟩
    have hk := ok_range h.1
    rw [e2] at h41
    have hk' : k = 1 ∨ k = 2 ∨ k = 3 ∨ k = 4 ∨ k = 5 ∨ k = 6 := by omega
    rcases hk' with rfl | rfl | rfl | rfl | rfl | rfl <;> exact absurd h41 (by decide)
theorem byteAt_app (p q : List UInt8) (k : Nat) : byteAt (p ++ q) (p.length + k) = byteAt q k := by
  unfold byteAt
  rw [List.getD_eq_getElem?_getD, List.getElem?_append_right (by omega), Nat.add_sub_cancel_left, List.getD_eq_getElem?_getD]
/-- What reading a formula does, at the trees of a list. -/
def ReadsF (b : Nat) (l : List F) : Prop := ∀ u ∈ l, ∀ (p r : List UInt8) (w : World), stopD r = true → (p ++ (txt u ++ r)).length ≤ 1000000 → RdAt w b (p ++ (txt u ++ r)) p.length →
  Calls Tryz.prog 84 #[.pointer (some ⟨b, 0, none⟩)] w (RdRet b (p ++ (txt u ++ r)) (p.length + (txt u).length) u w)
set_option maxRecDepth 100000 in
set_option maxHeartbeats 6400000 in
theorem list_nil (b : Nat) (k0 : Int) (p r : List UInt8) (w : World) (hS : (p ++ (40 :: 41 :: r)).length ≤ 1000000) (h : RdAt w b (p ++ (40 :: 41 :: r)) p.length) :
    Calls Tryz.prog 112 #[.pointer (some ⟨b, 0, none⟩), .agg #[.int .i64 k0, .int .i64 0, .slice none 0 0]] w (RdRet b (p ++ (40 :: 41 :: r)) (p.length + 2) (nd k0 0 []) w) := by
  have hbw := h.lt
  have hpl : p.length + 2 ≤ 1000000 := by simp only [List.length_append, List.length_cons] at hS; omega
  have hb0 := byteAt_app p (40 :: 41 :: r) 0
  have hb1 := byteAt_app p (40 :: 41 :: r) 1
  rw [show byteAt (40 :: 41 :: r) 0 = 40 from rfl, Nat.add_zero] at hb0
  rw [show byteAt (40 :: 41 :: r) 1 = 41 from rfl] at hb1
  obtain ⟨S, hSe⟩ : ∃ S, p ++ (40 :: 41 :: r) = S := ⟨_, rfl⟩
  rw [hSe] at h hS hb0 hb1 ⊢
  clear hSe
  have HR := Lib.hid h
  have HN0 := Lib.hid (fun w' (h : RdAt w' b S p.length) => next_any b S p.length w' h hS (by omega))
  have HN1 := Lib.hid (fun w' (h : RdAt w' b S (p.length + 1)) => next_any b S (p.length + 1) w' h hS (by omega))
  rw [hb0, show ((40 : UInt8).toNat : Int) = 40 from rfl] at HN0
  rw [hb1, show ((41 : UInt8).toNat : Int) = 41 from rfl] at HN1
  clear h hb0 hb1
  go_enter Tryz.func112, Tryz.ntmps112
  go_wp2_with fail
  refine (HN0.out _ (HR.out.of (by (repeat' (first | (with_reducible first | exact Below.refl _ _ | exact Nat.le_refl _ | refine Below.bel ?_ ?_ | refine Below.alloc ?_ ?_ _ | refine Below.drew ?_ | refine Below.drawsN ?_ _ | refine Below.setCell ?_ ?_ _ | refine le_bel ?_ | refine le_alloc ?_ | refine le_setCell ?_ | refine le_drew ?_ | refine le_drawsN ?_) | (dsimp only; with_reducible first | refine le_bel ?_ | refine Nat.le_refl _ | refine le_bel_add ?_) | (with_reducible assumption) | omega | (dsimp only; omega)))))).mono ?_
  rintro _ _ ⟨rfl, y1, rfl⟩
  have hs1 := y1.size_le
  simp at hs1
  have hr1 := HR.out.of (by (repeat' (first | (with_reducible first | exact Below.refl _ _ | exact Nat.le_refl _ | refine Below.bel ?_ ?_ | refine Below.alloc ?_ ?_ _ | refine Below.drew ?_ | refine Below.drawsN ?_ _ | refine Below.setCell ?_ ?_ _ | refine le_bel ?_ | refine le_alloc ?_ | refine le_setCell ?_ | refine le_drew ?_ | refine le_drawsN ?_) | (dsimp only; with_reducible first | refine le_bel ?_ | refine Nat.le_refl _ | refine le_bel_add ?_) | (with_reducible assumption) | omega | (dsimp only; omega))) : Below w.heap.size w y1.w)
  obtain ⟨g0, g1, g2, g3⟩ := box2 hr1
  have hm := hr1.move (p.length + 1)
  rw [show ((p.length + 1 : Nat) : Int) = (p.length : Int) + 1 by omega] at hm
  have HM := Lib.hid hm
  have hO0 := obj_ne (c := b) (i := 1) (.int .i64 ((p.length : Int) + 1)) (by omega) (obj_bel y1 (heap2_0 w (.cells #[.int .i64 k0, .int .i64 0, .slice none 0 0] 26) (.cells #[.int .i64 0, .int .i64 0, .slice none 0 0] 26)))
  have hO1 := obj_ne (c := b) (i := 1) (.int .i64 ((p.length : Int) + 1)) (by omega) (obj_bel y1 (heap2_1 w (.cells #[.int .i64 k0, .int .i64 0, .slice none 0 0] 26) (.cells #[.int .i64 0, .int .i64 0, .slice none 0 0] 26)))
  have HO := Lib.hid (And.intro hO0 hO1)
  clear hr1 hm hO0 hO1
  dsimp only
  go_wp2_with fail
  refine (HN1.out _ HM.out).mono ?_
  rintro _ _ ⟨rfl, y2, rfl⟩
  have hr2 := HM.out.of y2.below
  obtain ⟨f0, f1, f2, f3⟩ := box2 hr2
  obtain ⟨k0', k1, k2⟩ := box3 (obj_ne (c := b) (i := 1) (.int .i64 ((p.length : Int) + 1 + 1)) (by omega) (obj_bel y2 HO.out.1))
  have hres := obj_ne (c := b) (i := 1) (.int .i64 ((p.length : Int) + 1 + 1)) (by omega) (obj_bel y2 HO.out.2)
  obtain ⟨r0, r1, r2⟩ := box3 hres
  obtain ⟨q0, q1, q2⟩ := box3f hres
  have hm2 := hr2.move (p.length + 2)
  rw [show ((p.length + 2 : Nat) : Int) = (p.length : Int) + 1 + 1 by omega] at hm2
  dsimp only
  go_wp2
  have hR := obj_set3 (.int .i64 k0) (.int .i64 0) (.slice none 0 0) hres
  obtain ⟨s0, s1, s2⟩ := box3 hR
  have hrk : RK b w (y2.w.setCell ⟨b, 1, none⟩ (.int .i64 ((p.length : Int) + 1 + 1))) :=
    (((RK.bel (by (repeat' (first | (with_reducible first | exact Below.refl _ _ | exact Nat.le_refl _ | refine Below.bel ?_ ?_ | refine Below.alloc ?_ ?_ _ | refine Below.drew ?_ | refine Below.drawsN ?_ _ | refine Below.setCell ?_ ?_ _ | refine le_bel ?_ | refine le_alloc ?_ | refine le_setCell ?_ | refine le_drew ?_ | refine le_drawsN ?_) | (dsimp only; with_reducible first | refine le_bel ?_ | refine Nat.le_refl _ | refine le_bel_add ?_) | (with_reducible assumption) | omega | (dsimp only; omega))) : Below w.heap.size w y1.w) (by omega)).trans (RK.set _)).trans (RK.bel y2.below (by simp; omega))).trans (RK.set _)
  refine bodyPost_ret (v := .tuple #[.agg #[.int .i64 k0, .int .i64 0, .slice none 0 0], .bool true]) (by simp [results, Tryz.results112, go_sem, s0, s1, s2]) rfl ⟨_, rfl, ⟨none, 0, rfl, insF_nil _ _ _⟩, ?_, ?_⟩
  · exact obj_ne _ (by omega) (obj_ne _ (by omega) (obj_ne _ (by omega) hm2))
  · exact ((hrk.setNew (by omega) (by omega) _).setNew (by omega) (by omega) _).setNew (by omega) (by omega) _
end Go.Proofs.YtkdmhjlcgpnjpaaGreatDoor

namespace Go.Proofs.YtkdmhjlcgpnjpaaGreatDoor
set_option linter.unusedVariables false
set_option linter.unusedSimpArgs false
open Go.RowKit Go.Shelf F
attribute [local go_sem low] Bel.cell Bel.frozen alloc_cell alloc_frozen

theorem RK.grow {b n : Nat} {w W W' : World} (h : RK b w W) (hb : Below n W W') (hn : w.heap.size ≤ n) (hbn : b ≤ n) : RK b w W' :=
  ⟨h.1.trans (hb.mono hbn), fun k o hk hne => obj_below hb (by have := (Array.getElem?_eq_some_iff.1 hk).1; omega) (h.2 k o hk hne)⟩
theorem rk_grown {b : Nat} {w w' : World} (h : RK b w w') : w.grownBy w' (some b) :=
  ⟨h.1.os, h.1.tape, h.1.output, h.1.size, fun k hk hne => by
    obtain ⟨o, ho⟩ : ∃ o, w.heap[k]? = some o := ⟨_, Array.getElem?_eq_getElem hk⟩
    rw [ho]
    exact h.2 k o ho (fun e => hne (by rw [e]))⟩
theorem ownF_rk {b : Nat} {w w' : World} {base : Nat} {e : TypeId} {v : Value} {l : List F} (h : OwnF w base e v l) (hb : b < base) (hk : RK b w w') : OwnF w' base e v l := by
  have hob := fun c => ownF_block (b := c) h
  obtain ⟨us, h1, h2, h3⟩ := h
  refine ⟨us, h1, World.ownsRow.kept h2 (rk_grown hk) (.inr (fun hk => by have := hob b hk; omega)), fun j t ad cap hj => (h3 j t ad cap hj).move (fun c off u hc hu => ?_) (fun _ _ h => h)⟩
  have hlt := World.block_lt_of_cell? w _ hu
  rw [World.cell?_of_block ((rk_grown hk).block c hlt (fun e => by injection e with e; have := hc.1; omega))]
  exact hu
set_option maxRecDepth 100000 in
set_option maxHeartbeats 6400000 in
theorem list_some (b : Nat) (k0 : Int) (l : List F) (p r : List UInt8) (w : World) (hl : l ≠ []) (hok : okL l) (hlen : l.length ≤ 1000000) (hf : ReadsF b l) (hS : (p ++ (40 :: (txtL l ++ (41 :: r)))).length ≤ 1000000) (h : RdAt w b (p ++ (40 :: (txtL l ++ (41 :: r)))) p.length) :
    Calls Tryz.prog 112 #[.pointer (some ⟨b, 0, none⟩), .agg #[.int .i64 k0, .int .i64 0, .slice none 0 0]] w (RdRet b (p ++ (40 :: (txtL l ++ (41 :: r)))) (p.length + (txtL l).length + 2) (nd k0 0 l) w) := by
  obtain ⟨i0, hi0, hz0, hz1, hz2⟩ := info_parts Tryz.infoF
  have hbw := h.lt
  have hpl : p.length + (txtL l).length + 2 ≤ 1000000 := by simp only [List.length_append, List.length_cons] at hS; omega
  have hb0 := byteAt_app p (40 :: (txtL l ++ (41 :: r))) 0
  rw [show byteAt (40 :: (txtL l ++ (41 :: r))) 0 = 40 from rfl, Nat.add_zero] at hb0
  have hb1 : ∃ c, byteAt (p ++ (40 :: (txtL l ++ (41 :: r)))) (p.length + 1) = c ∧ c.toNat ≠ 41 := by
    rw [byteAt_app p (40 :: (txtL l ++ (41 :: r))) 1]
    cases l with
    | nil => exact absurd rfl hl
    | cons t q =>
      obtain ⟨c, hc, hne⟩ := txt_byte hok.1 (txtR q ++ (41 :: r))
      refine ⟨c, ?_, hne⟩
      rw [txtL, List.append_assoc]
      exact hc
  have HSEG := Lib.hid (fun k u (hu : l[k]? = some u) => seg_at (p := p) (r := r) hu)
  obtain ⟨S, hSe⟩ : ∃ S, p ++ (40 :: (txtL l ++ (41 :: r))) = S := ⟨_, rfl⟩
  rw [hSe] at h hS hb0 hb1 HSEG ⊢
  clear hSe
  obtain ⟨c, hb1, hc41⟩ := hb1
  have hcf : ((c.toNat : Int) == 41) = false := beq_eq_false_iff_ne.2 (by omega)
  have HR := Lib.hid h
  have HN0 := Lib.hid (fun w' (h : RdAt w' b S p.length) => next_any b S p.length w' h hS (by omega))
  have HN1 := Lib.hid (fun w' (h : RdAt w' b S (p.length + 1)) => next_any b S (p.length + 1) w' h hS (by omega))
  rw [hb0, show ((40 : UInt8).toNat : Int) = 40 from rfl] at HN0
  rw [hb1] at HN1
  clear h hb0 hb1
  go_enter Tryz.func112, Tryz.ntmps112
  go_wp2_with fail
  refine (HN0.out _ (HR.out.of (by (repeat' (first | (with_reducible first | exact Below.refl _ _ | exact Nat.le_refl _ | refine Below.bel ?_ ?_ | refine Below.alloc ?_ ?_ _ | refine Below.drew ?_ | refine Below.drawsN ?_ _ | refine Below.setCell ?_ ?_ _ | refine le_bel ?_ | refine le_alloc ?_ | refine le_setCell ?_ | refine le_drew ?_ | refine le_drawsN ?_) | (dsimp only; with_reducible first | refine le_bel ?_ | refine Nat.le_refl _ | refine le_bel_add ?_) | (with_reducible assumption) | omega | (dsimp only; omega)))))).mono ?_
  rintro _ _ ⟨rfl, y1, rfl⟩
  have hs1 := y1.size_le
  simp at hs1
  have hr1 := HR.out.of (by (repeat' (first | (with_reducible first | exact Below.refl _ _ | exact Nat.le_refl _ | refine Below.bel ?_ ?_ | refine Below.alloc ?_ ?_ _ | refine Below.drew ?_ | refine Below.drawsN ?_ _ | refine Below.setCell ?_ ?_ _ | refine le_bel ?_ | refine le_alloc ?_ | refine le_setCell ?_ | refine le_drew ?_ | refine le_drawsN ?_) | (dsimp only; with_reducible first | refine le_bel ?_ | refine Nat.le_refl _ | refine le_bel_add ?_) | (with_reducible assumption) | omega | (dsimp only; omega))) : Below w.heap.size w y1.w)
  obtain ⟨g0, g1, g2, g3⟩ := box2 hr1
  have hm := hr1.move (p.length + 1)
  rw [show ((p.length + 1 : Nat) : Int) = (p.length : Int) + 1 by omega] at hm
  have HM := Lib.hid hm
  have hO0 := obj_ne (c := b) (i := 1) (.int .i64 ((p.length : Int) + 1)) (by omega) (obj_bel y1 (heap2_0 w (.cells #[.int .i64 k0, .int .i64 0, .slice none 0 0] 26) (.cells #[.int .i64 0, .int .i64 0, .slice none 0 0] 26)))
  have hO1 := obj_ne (c := b) (i := 1) (.int .i64 ((p.length : Int) + 1)) (by omega) (obj_bel y1 (heap2_1 w (.cells #[.int .i64 k0, .int .i64 0, .slice none 0 0] 26) (.cells #[.int .i64 0, .int .i64 0, .slice none 0 0] 26)))
  have HO := Lib.hid (And.intro hO0 hO1)
  clear hr1 hm hO0 hO1
  dsimp only
  go_wp2_with fail
  refine (HN1.out _ HM.out).mono ?_
  rintro _ _ ⟨rfl, y2, rfl⟩
  have hrk : RK b w y2.w := ((RK.bel (by (repeat' (first | (with_reducible first | exact Below.refl _ _ | exact Nat.le_refl _ | refine Below.bel ?_ ?_ | refine Below.alloc ?_ ?_ _ | refine Below.drew ?_ | refine Below.drawsN ?_ _ | refine Below.setCell ?_ ?_ _ | refine le_bel ?_ | refine le_alloc ?_ | refine le_setCell ?_ | refine le_drew ?_ | refine le_drawsN ?_) | (dsimp only; with_reducible first | refine le_bel ?_ | refine Nat.le_refl _ | refine le_bel_add ?_) | (with_reducible assumption) | omega | (dsimp only; omega))) : Below w.heap.size w y1.w) (by omega)).trans (RK.set _)).trans (RK.bel y2.below (by simp; omega))
  have HK := Lib.hid hrk
  have HR2 := Lib.hid (HM.out.of y2.below)
  have HO2 := Lib.hid (And.intro (obj_bel y2 HO.out.1) (obj_bel y2 HO.out.2))
  clear hrk
  dsimp only
  go_wp2
  go_loopw [31] (fun _ wr => ∃ (k : Nat) (v : Value), k < l.length ∧ OwnF wr (w.heap.size + 2) 26 v (l.take k) ∧ wr.heap[w.heap.size]? = some (.cells #[.int .i64 k0, .int .i64 0, v] 26 (0, 0)) ∧
    wr.heap[w.heap.size + 1]? = some (.cells #[.int .i64 0, .int .i64 0, .slice none 0 0] 26 (0, 0)) ∧ RdAt wr b S (p.length + posL l k) ∧ RK b w wr ∧ w.heap.size + 2 ≤ wr.heap.size) (fun _ wr => S.length - rdAt b wr)
  case atStart => exact ⟨0, .slice none 0 0, List.length_pos_iff.2 hl, ownF_nil _ _ _, HO2.out.1, HO2.out.2, by rw [posL_zero]; exact HR2.out, HK.out, by have := y2.size_le; simp at this; omega⟩
  case round =>
    obtain ⟨k, v, hk, hown, hbox, hres, hrd, hrk, hsz⟩ := hrel
    obtain ⟨va, vc, rfl⟩ := ownF_val hown
    have htk : (l.take k).length = k := by rw [List.length_take]; omega
    rw [htk] at hown hbox
    obtain ⟨u, hu⟩ := some_at hk
    obtain ⟨p', r', hSe, hpl', hst, hby⟩ := HSEG.out k u hu
    have hmem := List.mem_of_getElem? hu
    have hcall := fun w' (h : RdAt w' b S (p.length + posL l k)) => hf u hmem p' r' w' hst (by rw [← hSe]; exact hS) (by rw [← hSe, hpl']; exact h)
    rw [← hSe] at hcall
    have HC := Lib.hid hcall
    have HPL := Lib.hid hpl'
    rw [← hpl'] at HC hrd
    clear hpl'
    have HRD := Lib.hid hrd
    have HB := Lib.hid (And.intro hown (And.intro hbox (And.intro hres hrk)))
    clear hcall hrd hown hbox hres hrk
    go_wp2_with fail
    refine (HC.out _ HRD.out).mono ?_
    rintro _ w2 ⟨v2, rfl, hfv, hrd2, hrk2⟩
    obtain ⟨ad5, cap5, rfl, hi5⟩ := hfv
    have hs2 := hrk2.1.size
    have hwr := HRD.out.lt
    have HX := Lib.hid (And.intro hi5 (And.intro hrd2 hrk2))
    have HBX := Lib.hid (hrk2.2 _ _ HB.out.2.1 (by omega))
    have HRS := Lib.hid (hrk2.2 _ _ HB.out.2.2.1 (by omega))
    have HO := Lib.hid (ownF_rk HB.out.1 (by omega) hrk2)
    obtain ⟨d0, d1, d2⟩ := box3 HBX.out
    obtain ⟨_, _, fz⟩ := box3f HBX.out
    have HZ := Lib.hid (show Below w2.heap.size w2 ((w2.alloc (.cells #[.int .i64 u.k, .int .i64 u.a, .slice ad5 u.l.length cap5] 26)).alloc (.cells #[.int .i64 u.k, .int .i64 u.a, .slice ad5 u.l.length cap5] 26)) by (repeat' (first | (with_reducible first | exact Below.refl _ _ | exact Nat.le_refl _ | refine Below.bel ?_ ?_ | refine Below.alloc ?_ ?_ _ | refine Below.drew ?_ | refine Below.drawsN ?_ _ | refine Below.setCell ?_ ?_ _ | refine le_bel ?_ | refine le_alloc ?_ | refine le_setCell ?_ | refine le_drew ?_ | refine le_drawsN ?_) | (dsimp only; with_reducible first | refine le_bel ?_ | refine Nat.le_refl _ | refine le_bel_add ?_) | (with_reducible assumption) | omega | (dsimp only; omega))))
    have HSRC := Lib.hid (heap2_1 w2 (.cells #[.int .i64 u.k, .int .i64 u.a, .slice ad5 u.l.length cap5] 26) (.cells #[.int .i64 u.k, .int .i64 u.a, .slice ad5 u.l.length cap5] 26))
    have HOz := Lib.hid (ownF_bel HO.out ⟨_, HZ.out⟩)
    have HCz := Lib.hid ((HX.out.1.of HZ.out).imp (Q := fun c => w.heap.size + 2 ≤ c ∧ (Value.slice va k vc).ownBlock ≠ some c) fun c _ h => ⟨by omega, ownF_avoid HB.out.1 h⟩)
    clear hi5 hrd2 hrk2
    dsimp only
    go_wp2_with (at_builtin; refine wpList_appF rfl _ _ 24 26 rfl i0 Tryz.underlying24 hi0 hz0 hz1 hz2 _ (w.heap.size + 2) _ (l.take k) u ad5 cap5 (w2.heap.size + 1) rfl HOz.out HCz.out rfl HSRC.out (by rw [htk]; omega) (by simp; omega) ?_; intro g' c' w3 hof hbw3; have hB3 := obj_below hbw3 (by omega) (obj_bel ⟨_, HZ.out⟩ HBX.out); have HB3 := Lib.hid hB3; obtain ⟨m0, m1, m2⟩ := box3 hB3; obtain ⟨_, _, mf⟩ := box3f hB3; have hs3 := hbw3.size; clear hB3; rw [htk] at hof ⊢)
    have hnx : byteAt S (p'.length + (txt u).length) = (if k + 1 = l.length then 41 else 32) := by rw [hSe, byteAt_end]; exact hby
    have hat : p'.length + (txt u).length ≤ 1000000 := by rw [hSe] at hS; simp only [List.length_append] at hS; omega
    have hrd4 : RdAt (w3.setCell ⟨w.heap.size, 2, none⟩ (.slice (some ⟨g', 0, none⟩) (k + 1) c')) b S (p'.length + (txt u).length) := obj_ne _ (by omega) (obj_below hbw3 (by omega) (obj_bel ⟨_, HZ.out⟩ HX.out.2.1))
    have HNX := Lib.hid (next_any b S (p'.length + (txt u).length) _ hrd4 hS hat)
    rw [hnx] at HNX
    have HRD4 := Lib.hid hrd4
    have hrk4 : RK b w (w3.setCell ⟨w.heap.size, 2, none⟩ (.slice (some ⟨g', 0, none⟩) (k + 1) c')) :=
      RK.setNew (RK.grow ((HB.out.2.2.2.trans HX.out.2.2).trans (RK.bel HZ.out (by omega))) hbw3 (by omega) (by omega)) (Nat.le_refl _) (by omega) _
    have HRK4 := Lib.hid hrk4
    have HOF := Lib.hid (ownF_set (b := w.heap.size) (i := 2) hof (by omega) (.slice (some ⟨g', 0, none⟩) (k + 1) c'))
    have HB4 := Lib.hid (obj_set (i := 2) (.slice (some ⟨g', 0, none⟩) (k + 1) c') HB3.out)
    have HR4 := Lib.hid (obj_ne (c := w.heap.size) (i := 2) (.slice (some ⟨g', 0, none⟩) (k + 1) c') (by omega) (obj_below hbw3 (by omega) (obj_bel ⟨_, HZ.out⟩ HRS.out)))
    clear hnx hrd4 hrk4 hof hbw3
    by_cases he : k + 1 = l.length
    · rw [if_pos he, show ((41 : UInt8).toNat : Int) = 41 from rfl] at HNX
      have HE := Lib.hid he
      clear he
      refine HNX.out.mono ?_
      rintro _ _ ⟨rfl, y5, rfl⟩
      have hrd5 := HRD4.out.of y5.below
      obtain ⟨n0, n1, n2, n3⟩ := box2 hrd5
      obtain ⟨a0, a1, a2⟩ := box3 (obj_bel y5 HB4.out)
      obtain ⟨r0, r1, r2⟩ := box3 (obj_bel y5 HR4.out)
      obtain ⟨q0, q1, q2⟩ := box3f (obj_bel y5 HR4.out)
      dsimp only
      go_wp2
      have hpe : p'.length + (txt u).length + 1 = p.length + (txtL l).length + 2 := by
        have h1 := posL_next hu
        have h2 := posL_end hl
        have h3 := HPL.out
        rw [HE.out, h2] at h1
        omega
      have hm6 := hrd5.move (p'.length + (txt u).length + 1)
      rw [show ((p'.length + (txt u).length + 1 : Nat) : Int) = (p'.length : Int) + ((txt u).length : Int) + 1 by omega, hpe] at hm6
      have hres6 := obj_ne (c := b) (i := 1) (.int .i64 ((p'.length : Int) + ((txt u).length : Int) + 1)) (by omega) (obj_bel y5 HR4.out)
      have hR := obj_set3 (.int .i64 k0) (.int .i64 0) (.slice (some ⟨g', 0, none⟩) (k + 1) c') hres6
      obtain ⟨s0, s1, s2⟩ := box3 hR
      have hof6 := ownF_set (b := w.heap.size + 1) (i := 2) (ownF_set (b := w.heap.size + 1) (i := 1) (ownF_set (b := w.heap.size + 1) (i := 0) (ownF_set (b := b) (i := 1) (ownF_bel HOF.out y5) (by omega) (.int .i64 ((p'.length : Int) + ((txt u).length : Int) + 1))) (by omega) (.int .i64 k0)) (by omega) (.int .i64 0)) (by omega) (.slice (some ⟨g', 0, none⟩) (k + 1) c')
      have hlu : l.take k ++ [u] = l := by
        rw [show l.take k ++ [u] = l.take (k + 1) by rw [List.take_add_one, hu]; rfl, HE.out, List.take_length]
      rw [hlu] at hof6
      refine bodyPost_ret (v := .tuple #[.agg #[.int .i64 k0, .int .i64 0, .slice (some ⟨g', 0, none⟩) (k + 1) c'], .bool true]) (by simp [results, Tryz.results112, go_sem, s0, s1, s2]) rfl ⟨_, rfl, ⟨some ⟨g', 0, none⟩, c', by rw [HE.out]; rfl, (ownF_insv hof6).imp fun c _ h => by omega⟩, ?_, ?_⟩
      · exact obj_ne _ (by omega) (obj_ne _ (by omega) (obj_ne _ (by omega) hm6))
      · exact ((((HRK4.out.trans (RK.bel y5.below (by have := HRD4.out.lt; omega))).trans (RK.set _)).setNew (by omega) (by omega) _).setNew (by omega) (by omega) _).setNew (by omega) (by omega) _
    · rw [if_neg he, show ((32 : UInt8).toNat : Int) = 32 from rfl] at HNX
      have HE := Lib.hid he
      clear he
      refine HNX.out.mono ?_
      rintro _ _ ⟨rfl, y5, rfl⟩
      have hrd5 := HRD4.out.of y5.below
      obtain ⟨n0, n1, n2, n3⟩ := box2 hrd5
      have hm6 := hrd5.move (p'.length + (txt u).length + 1)
      rw [show ((p'.length + (txt u).length + 1 : Nat) : Int) = (p'.length : Int) + ((txt u).length : Int) + 1 by omega] at hm6
      have HM6 := Lib.hid hm6
      have HME := Lib.hid (rdAt_eq HRD.out)
      have HLT := Lib.hid (show p'.length + (txt u).length + 1 ≤ S.length by rw [hSe]; simp only [List.length_append]; cases r' with
        | nil => simp [stopD, byteAt] at hby; split at hby <;> cases hby
        | cons x y => simp only [List.length_cons]; omega)
      clear hm6
      dsimp only
      go_wp2
      go_roundw
      case rel =>
        refine ⟨k + 1, .slice (some ⟨g', 0, none⟩) (k + 1) c', by have := HE.out; omega, ?_, obj_ne _ (by omega) (obj_bel y5 HB4.out), obj_ne _ (by omega) (obj_bel y5 HR4.out), ?_, (HRK4.out.trans (RK.bel y5.below (by have := HRD4.out.lt; omega))).trans (RK.set _), ?_⟩
        · rw [show l.take (k + 1) = l.take k ++ [u] by rw [List.take_add_one, hu]; rfl]
          exact ownF_set (ownF_bel HOF.out y5) (by omega) _
        · rw [show p.length + posL l (k + 1) = p'.length + (txt u).length + 1 by rw [posL_next hu]; have := HPL.out; omega]
          exact HM6.out
        · have h1 := y5.size_le
          have h3 := hs3
          simp at h1 h3 ⊢
          omega
      case measure =>
        rw [rdAt_eq HM6.out, HME.out]
        have := HLT.out
        omega
end Go.Proofs.YtkdmhjlcgpnjpaaGreatDoor

namespace Go.Proofs.YtkdmhjlcgpnjpaaGreatDoor
set_option linter.unusedVariables false
set_option linter.unusedSimpArgs false
open Go.RowKit Go.Shelf F
attribute [local go_sem low] Bel.cell Bel.frozen alloc_cell alloc_frozen

set_option maxRecDepth 100000 in
set_option maxHeartbeats 12800000 in
theorem formula_any (b : Nat) : ∀ (N : Nat) (t : F), nodes t ≤ N → okT t → ∀ (p r : List UInt8) (w : World), stopD r = true → (p ++ (txt t ++ r)).length ≤ 1000000 → RdAt w b (p ++ (txt t ++ r)) p.length →
    Calls Tryz.prog 84 #[.pointer (some ⟨b, 0, none⟩)] w (RdRet b (p ++ (txt t ++ r)) (p.length + (txt t).length) t w) := by
  intro N
  induction N with
  | zero => intro t h; have := nodes_pos t; omega
  | succ N ih =>
    intro t hN hok p r w hst hS h
    have hbw := h.lt
    have HNL := Lib.hid (show nodesL t.l ≤ N by rw [nodes_l] at hN; omega)
    have HOKL := Lib.hid (okT_l hok)
    clear hN
    obtain ⟨tk, ta, tl⟩ := t
    simp only [F.l] at HNL HOKL
    rcases single_cases hok.1 with ⟨rfl, h1, h2, rfl⟩ | ⟨rfl, rfl, t, rfl⟩ | ⟨hk, rfl, hl⟩ | ⟨hk, rfl, rfl⟩
    · rw [show txt (nd 1 ta []) = 120 :: dgs ta from by rw [txt, if_pos rfl]] at hS h ⊢
      rw [List.cons_append] at hS h ⊢
      have HV := Lib.hid (fun w' (h : RdAt w' b ((p ++ [120]) ++ (dgs ta ++ r)) (p ++ [120]).length) => fvariable_any b (p ++ [120]) r ta w' h1 h2 hst (by simpa using hS) h)
      have hpl : p.length + 1 ≤ 1000000 := by simp only [List.length_append, List.length_cons] at hS; omega
      have hb0 := byteAt_app p (120 :: (dgs ta ++ r)) 0
      rw [show byteAt (120 :: (dgs ta ++ r)) 0 = 120 from rfl, Nat.add_zero] at hb0
      have HN0 := Lib.hid (fun w' (h : RdAt w' b (p ++ (120 :: (dgs ta ++ r))) p.length) => next_any b (p ++ (120 :: (dgs ta ++ r))) p.length w' h hS (by omega))
      rw [hb0, show ((120 : UInt8).toNat : Int) = 120 from rfl] at HN0
      have HR := Lib.hid h
      clear h hb0
      go_enter Tryz.func84, Tryz.ntmps84
      go_wp2_with fail
      refine (HN0.out _ (HR.out.of (by (repeat' (first | (with_reducible first | exact Below.refl _ _ | exact Nat.le_refl _ | refine Below.bel ?_ ?_ | refine Below.alloc ?_ ?_ _ | refine Below.drew ?_ | refine Below.drawsN ?_ _ | refine Below.setCell ?_ ?_ _ | refine le_bel ?_ | refine le_alloc ?_ | refine le_setCell ?_ | refine le_drew ?_ | refine le_drawsN ?_) | (dsimp only; with_reducible first | refine le_bel ?_ | refine Nat.le_refl _ | refine le_bel_add ?_) | (with_reducible assumption) | omega | (dsimp only; omega)))))).mono ?_
      rintro _ _ ⟨rfl, y1, rfl⟩
      have hs1 := y1.size_le
      simp at hs1
      have hr1 := HR.out.of (by (repeat' (first | (with_reducible first | exact Below.refl _ _ | exact Nat.le_refl _ | refine Below.bel ?_ ?_ | refine Below.alloc ?_ ?_ _ | refine Below.drew ?_ | refine Below.drawsN ?_ _ | refine Below.setCell ?_ ?_ _ | refine le_bel ?_ | refine le_alloc ?_ | refine le_setCell ?_ | refine le_drew ?_ | refine le_drawsN ?_) | (dsimp only; with_reducible first | refine le_bel ?_ | refine Nat.le_refl _ | refine le_bel_add ?_) | (with_reducible assumption) | omega | (dsimp only; omega))) : Below w.heap.size w y1.w)
      obtain ⟨g0, g1, g2, g3⟩ := box2 hr1
      have hm := hr1.move (p.length + 1)
      rw [show ((p.length + 1 : Nat) : Int) = (p.length : Int) + 1 by omega] at hm
      have HM := Lib.hid hm
      have hres := obj_ne (c := b) (i := 1) (.int .i64 ((p.length : Int) + 1)) (by omega) (obj_bel y1 (World.alloc_heap_new w (.cells #[.int .i64 0, .int .i64 0, .slice none 0 0] 26)))
      have HRS := Lib.hid hres
      have HRK := Lib.hid ((RK.bel (by (repeat' (first | (with_reducible first | exact Below.refl _ _ | exact Nat.le_refl _ | refine Below.bel ?_ ?_ | refine Below.alloc ?_ ?_ _ | refine Below.drew ?_ | refine Below.drawsN ?_ _ | refine Below.setCell ?_ ?_ _ | refine le_bel ?_ | refine le_alloc ?_ | refine le_setCell ?_ | refine le_drew ?_ | refine le_drawsN ?_) | (dsimp only; with_reducible first | refine le_bel ?_ | refine Nat.le_refl _ | refine le_bel_add ?_) | (with_reducible assumption) | omega | (dsimp only; omega))) : Below w.heap.size w y1.w) (by omega : b ≤ w.heap.size)).trans (RK.set (i := 1) (.int .i64 ((p.length : Int) + 1))))
      clear hr1 hm hres
      dsimp only
      go_wp2_with fail
      refine (HV.out _ (by
        have h := HM.out
        rw [show p ++ (120 :: (dgs ta ++ r)) = (p ++ [120]) ++ (dgs ta ++ r) by simp, show p.length + 1 = (p ++ [120]).length by simp] at h
        exact h)).mono ?_
      rintro _ w2 ⟨v2, rfl, ⟨ad5, cap5, rfl, hi5⟩, hrd2, hrk2⟩
      have hres2 := hrk2.2 w.heap.size _ HRS.out (by omega)
      obtain ⟨r0, r1, r2⟩ := box3 hres2
      obtain ⟨q0, q1, q2⟩ := box3f hres2
      have HX := Lib.hid (And.intro hrd2 (HRK.out.trans hrk2))
      clear hi5 hrd2 hrk2
      simp only [F.k, F.a, F.l, List.length_nil]
      go_wp2
      have hR := obj_set3 (.int .i64 1) (.int .i64 ta) (.slice ad5 0 cap5) hres2
      obtain ⟨s0, s1, s2⟩ := box3 hR
      refine bodyPost_ret (v := .tuple #[.agg #[.int .i64 1, .int .i64 ta, .slice ad5 0 cap5], .bool true]) (by simp [results, Tryz.results84, go_sem, s0, s1, s2]) rfl ⟨_, rfl, ⟨ad5, cap5, rfl, insF_nil _ _ _⟩, ?_, ?_⟩
      · refine obj_ne _ (by omega) (obj_ne _ (by omega) (obj_ne _ (by omega) ?_))
        have h := HX.out.1
        have e : (p ++ [120]).length + (dgs ta).length = p.length + (120 :: dgs ta).length := by
          simp only [List.length_append, List.length_cons, List.length_nil]
          omega
        rw [show (p ++ [120]) ++ (dgs ta ++ r) = p ++ (120 :: (dgs ta ++ r)) by simp, e] at h
        exact h
      · exact ((HX.out.2.setNew (by omega) (by omega) _).setNew (by omega) (by omega) _).setNew (by omega) (by omega) _
    · -- a negation
      have ht : txt (nd 2 0 [t]) = 33 :: txt t := by simp [txt, txtH]
      rw [ht] at hS h ⊢
      rw [List.cons_append] at hS h ⊢
      have hnt : nodes t ≤ N := by have := HNL.out; have := nodesL_mem (List.mem_singleton_self t); omega
      have hot := okL_mem HOKL.out (List.mem_singleton_self t)
      have HV : ∀ w', RdAt w' b ((p ++ [33]) ++ (txt t ++ r)) (p ++ [33]).length → Calls Tryz.prog 84 #[.pointer (some ⟨b, 0, none⟩)] w' (RdRet b ((p ++ [33]) ++ (txt t ++ r)) ((p ++ [33]).length + (txt t).length) t w') := fun w' h' => ih t hnt hot (p ++ [33]) r w' hst (by simpa using hS) h'
      rw [show (p ++ [33]) ++ (txt t ++ r) = p ++ (33 :: (txt t ++ r)) from by simp, show (List.length (p ++ [33])) = p.length + 1 from by rw [List.length_append]; rfl] at HV
      have HVV := Lib.hid HV
      clear HV
      have hpl : p.length + 1 ≤ 1000000 := by simp only [List.length_append, List.length_cons] at hS; omega
      have hb0 := byteAt_app p (33 :: (txt t ++ r)) 0
      rw [show byteAt (33 :: (txt t ++ r)) 0 = 33 from rfl, Nat.add_zero] at hb0
      have HN0 := Lib.hid (fun w' (h : RdAt w' b (p ++ (33 :: (txt t ++ r))) p.length) => next_any b (p ++ (33 :: (txt t ++ r))) p.length w' h hS (by omega))
      rw [hb0, show ((33 : UInt8).toNat : Int) = 33 from rfl] at HN0
      have HR := Lib.hid h
      clear h hb0
      go_enter Tryz.func84, Tryz.ntmps84
      go_wp2_with fail
      refine (HN0.out _ (HR.out.of (by (repeat' (first | (with_reducible first | exact Below.refl _ _ | exact Nat.le_refl _ | refine Below.bel ?_ ?_ | refine Below.alloc ?_ ?_ _ | refine Below.drew ?_ | refine Below.drawsN ?_ _ | refine Below.setCell ?_ ?_ _ | refine le_bel ?_ | refine le_alloc ?_ | refine le_setCell ?_ | refine le_drew ?_ | refine le_drawsN ?_) | (dsimp only; with_reducible first | refine le_bel ?_ | refine Nat.le_refl _ | refine le_bel_add ?_) | (with_reducible assumption) | omega | (dsimp only; omega)))))).mono ?_
      rintro _ _ ⟨rfl, y1, rfl⟩
      have hs1 := y1.size_le
      simp at hs1
      have hr1 := HR.out.of (by (repeat' (first | (with_reducible first | exact Below.refl _ _ | exact Nat.le_refl _ | refine Below.bel ?_ ?_ | refine Below.alloc ?_ ?_ _ | refine Below.drew ?_ | refine Below.drawsN ?_ _ | refine Below.setCell ?_ ?_ _ | refine le_bel ?_ | refine le_alloc ?_ | refine le_setCell ?_ | refine le_drew ?_ | refine le_drawsN ?_) | (dsimp only; with_reducible first | refine le_bel ?_ | refine Nat.le_refl _ | refine le_bel_add ?_) | (with_reducible assumption) | omega | (dsimp only; omega))) : Below w.heap.size w y1.w)
      obtain ⟨g0, g1, g2, g3⟩ := box2 hr1
      have hm := hr1.move (p.length + 1)
      rw [show ((p.length + 1 : Nat) : Int) = (p.length : Int) + 1 by omega] at hm
      have HM := Lib.hid hm
      have hres := obj_ne (c := b) (i := 1) (.int .i64 ((p.length : Int) + 1)) (by omega) (obj_bel y1 (World.alloc_heap_new w (.cells #[.int .i64 0, .int .i64 0, .slice none 0 0] 26)))
      have HRS := Lib.hid hres
      have HRK := Lib.hid ((RK.bel (by (repeat' (first | (with_reducible first | exact Below.refl _ _ | exact Nat.le_refl _ | refine Below.bel ?_ ?_ | refine Below.alloc ?_ ?_ _ | refine Below.drew ?_ | refine Below.drawsN ?_ _ | refine Below.setCell ?_ ?_ _ | refine le_bel ?_ | refine le_alloc ?_ | refine le_setCell ?_ | refine le_drew ?_ | refine le_drawsN ?_) | (dsimp only; with_reducible first | refine le_bel ?_ | refine Nat.le_refl _ | refine le_bel_add ?_) | (with_reducible assumption) | omega | (dsimp only; omega))) : Below w.heap.size w y1.w) (by omega : b ≤ w.heap.size)).trans (RK.set (i := 1) (.int .i64 ((p.length : Int) + 1))))
      clear hr1 hm hres
      dsimp only
      have key := Lib.hid (fun W (hW : Below (y1.w.setCell ⟨b, 1, none⟩ (.int .i64 ((p.length : Int) + 1))).heap.size (y1.w.setCell ⟨b, 1, none⟩ (.int .i64 ((p.length : Int) + 1))) W) =>
        show Calls Tryz.prog 84 #[.pointer (some ⟨b, 0, none⟩)] W (fun e w2 => RdRet b (p ++ (33 :: (txt t ++ r))) (p.length + 1 + (txt t).length) t W e w2 ∧ w2.heap[w.heap.size]? = some (Obj.cells #[.int .i64 0, .int .i64 0, .slice none 0 0] 26) ∧ RK b w w2 ∧ w.heap.size + 1 ≤ W.heap.size) from
        (HVV.out W (HM.out.of hW)).mono (fun _ w2 hr => ⟨hr, by
          obtain ⟨_, _, _, _, hrk2⟩ := hr
          have hsz := hW.size
          simp at hsz
          exact ⟨hrk2.2 w.heap.size _ (obj_below hW (by simp; omega) HRS.out) (by omega), (RK.grow HRK.out hW (by simp; omega) (by simp; omega)).trans hrk2, by omega⟩⟩))
      clear HVV HM HRS HRK
      go_wp2_with fail
      refine (key.out _ (by (repeat' (first | (with_reducible first | exact Below.refl _ _ | exact Nat.le_refl _ | refine Below.bel ?_ ?_ | refine Below.alloc ?_ ?_ _ | refine Below.drew ?_ | refine Below.drawsN ?_ _ | refine Below.setCell ?_ ?_ _ | refine le_bel ?_ | refine le_alloc ?_ | refine le_setCell ?_ | refine le_drew ?_ | refine le_drawsN ?_) | (dsimp only; with_reducible first | refine le_bel ?_ | refine Nat.le_refl _ | refine le_bel_add ?_) | (with_reducible assumption) | omega | (dsimp only; omega))))).mono ?_
      rintro _ w2 ⟨⟨v2, rfl, ⟨ad5, cap5, rfl, hi5⟩, hrd2, -⟩, hres2, hrk2, hWs⟩
      have HX := Lib.hid (And.intro hrd2 hrk2)
      clear hrd2 hrk2 key
      obtain ⟨r0, r1, r2⟩ := box3 hres2
      obtain ⟨q0, q1, q2⟩ := box3f hres2
      obtain ⟨uk, ua, ul⟩ := t
      simp only [F.k, F.a, F.l] at hi5 ⊢
      go_wp2
      have hB : Below w2.heap.size w2 ((w2.alloc (Obj.cells #[.int .i64 uk, .int .i64 ua, .slice ad5 ul.length cap5] 26)).alloc (Obj.cells #[.int .i64 uk, .int .i64 ua, .slice ad5 ul.length cap5] 26)) := by (repeat' (first | (with_reducible first | exact Below.refl _ _ | exact Nat.le_refl _ | refine Below.bel ?_ ?_ | refine Below.alloc ?_ ?_ _ | refine Below.drew ?_ | refine Below.drawsN ?_ _ | refine Below.setCell ?_ ?_ _ | refine le_bel ?_ | refine le_alloc ?_ | refine le_setCell ?_ | refine le_drew ?_ | refine le_drawsN ?_) | (dsimp only; with_reducible first | refine le_bel ?_ | refine Nat.le_refl _ | refine le_bel_add ?_) | (with_reducible assumption) | omega | (dsimp only; omega)))
      have hrow : ((w2.alloc (Obj.cells #[.int .i64 uk, .int .i64 ua, .slice ad5 ul.length cap5] 26)).alloc (Obj.cells #[.int .i64 uk, .int .i64 ua, .slice ad5 ul.length cap5] 26)).heap[w2.heap.size + 1]? = some (Obj.cells #[.int .i64 uk, .int .i64 ua, .slice ad5 ul.length cap5] 26) := by
        have := World.alloc_heap_new (w2.alloc (Obj.cells #[.int .i64 uk, .int .i64 ua, .slice ad5 ul.length cap5] 26)) (Obj.cells #[.int .i64 uk, .int .i64 ua, .slice ad5 ul.length cap5] 26)
        simpa using this
      have hlt2 : w.heap.size < w2.heap.size := (Array.getElem?_eq_some_iff.1 hres2).1
      have hres3 := obj_below hB hlt2 hres2
      have hR := obj_set3 (.int .i64 2) (.int .i64 0) (.slice (some ⟨w2.heap.size + 1, 0, none⟩) 1 1) hres3
      obtain ⟨s0, s1, s2⟩ := box3 hR
      have hrow2 := obj_ne (c := w.heap.size) (i := 2) (.slice (some ⟨w2.heap.size + 1, 0, none⟩) 1 1) (by omega) (obj_ne (c := w.heap.size) (i := 1) (.int .i64 0) (by omega) (obj_ne (c := w.heap.size) (i := 0) (.int .i64 2) (by omega) hrow))
      obtain ⟨c0, c1, c2⟩ := box3 hrow2
      refine bodyPost_ret (v := .tuple #[.agg #[.int .i64 2, .int .i64 0, .slice (some ⟨w2.heap.size + 1, 0, none⟩) 1 1], .bool true]) (by simp [results, Tryz.results84, go_sem, s0, s1, s2]) rfl ⟨_, rfl, ⟨_, 1, rfl, insF_mk (show w.heap.size ≤ w2.heap.size + 1 by omega) ?_⟩, ?_, ?_⟩
      · intro j u hj
        cases j with
        | succ j => cases hj
        | zero =>
          cases hj
          refine cellF_mk (ad := ad5) (cap := cap5) c0 c1 c2 ?_
          refine hi5.move (fun c off u hp hu => ?_) (fun c _ hp => Nat.le_trans (by omega) hp)
          have hp' := Nat.le_trans hWs hp
          have hlt : c < w2.heap.size := World.block_lt_of_cell? w2 _ hu
          obtain ⟨o, ho⟩ : ∃ o, w2.heap[c]? = some o := ⟨_, Array.getElem?_eq_getElem hlt⟩
          have hne : c ≠ w.heap.size := by omega
          rw [World.cell?_of_block ((obj_ne _ hne (obj_ne _ hne (obj_ne _ hne (obj_below hB hlt ho)))).trans ho.symm)]
          exact hu
      · refine obj_ne _ (by omega) (obj_ne _ (by omega) (obj_ne _ (by omega) (obj_below hB (by omega) ?_)))
        have h := HX.out.1
        rw [show p.length + 1 + (txt (nd uk ua ul)).length = p.length + ((txt (nd uk ua ul)).length + 1) by omega] at h
        exact h
      · exact (((HX.out.2.grow hB (Nat.le_of_lt hlt2) (by omega)).setNew (by omega) (by omega) _).setNew (by omega) (by omega) _).setNew (by omega) (by omega) _
    · -- a join
      rcases hk with rfl | rfl
      · have ht : txt (nd 3 0 tl) = 38 :: 40 :: (txtL tl ++ [41]) := by simp [txt]
        rw [ht] at hS h ⊢
        rw [List.cons_append, List.cons_append, List.append_assoc, List.singleton_append] at hS h ⊢
        have HF : ReadsF b tl := fun u hu p r w => ih u (by have := HNL.out; have := nodesL_mem hu; omega) (okL_mem HOKL.out hu) p r w
        have HV : ∀ w', RdAt w' b ((p ++ [38]) ++ (40 :: (txtL tl ++ (41 :: r)))) (p ++ [38]).length → Calls Tryz.prog 112 #[.pointer (some ⟨b, 0, none⟩), .agg #[.int .i64 3, .int .i64 0, .slice none 0 0]] w' (RdRet b ((p ++ [38]) ++ (40 :: (txtL tl ++ (41 :: r)))) ((p ++ [38]).length + (txtL tl).length + 2) (nd 3 0 tl) w') := by
          intro w' h'
          by_cases he : tl = []
          · subst he
            have := list_nil b 3 (p ++ [38]) r w' (by simpa [txtL] using hS) (by simpa [txtL] using h')
            simpa [txtL] using this
          · exact list_some b 3 tl (p ++ [38]) r w' he HOKL.out (by omega) HF (by simpa using hS) h'
        rw [show (p ++ [38]) ++ (40 :: (txtL tl ++ (41 :: r))) = p ++ (38 :: 40 :: (txtL tl ++ (41 :: r))) from by simp, show (List.length (p ++ [38])) = p.length + 1 from by rw [List.length_append]; rfl] at HV
        have HVV := Lib.hid HV
        clear HV HF
        have hpl : p.length + 1 ≤ 1000000 := by simp only [List.length_append, List.length_cons] at hS; omega
        have hb0 := byteAt_app p (38 :: (40 :: (txtL tl ++ (41 :: r)))) 0
        rw [show byteAt (38 :: (40 :: (txtL tl ++ (41 :: r)))) 0 = 38 from rfl, Nat.add_zero] at hb0
        have HN0 := Lib.hid (fun w' (h : RdAt w' b (p ++ (38 :: (40 :: (txtL tl ++ (41 :: r))))) p.length) => next_any b (p ++ (38 :: (40 :: (txtL tl ++ (41 :: r))))) p.length w' h hS (by omega))
        rw [hb0, show ((38 : UInt8).toNat : Int) = 38 from rfl] at HN0
        have HR := Lib.hid h
        clear h hb0
        go_enter Tryz.func84, Tryz.ntmps84
        go_wp2_with fail
        refine (HN0.out _ (HR.out.of (by (repeat' (first | (with_reducible first | exact Below.refl _ _ | exact Nat.le_refl _ | refine Below.bel ?_ ?_ | refine Below.alloc ?_ ?_ _ | refine Below.drew ?_ | refine Below.drawsN ?_ _ | refine Below.setCell ?_ ?_ _ | refine le_bel ?_ | refine le_alloc ?_ | refine le_setCell ?_ | refine le_drew ?_ | refine le_drawsN ?_) | (dsimp only; with_reducible first | refine le_bel ?_ | refine Nat.le_refl _ | refine le_bel_add ?_) | (with_reducible assumption) | omega | (dsimp only; omega)))))).mono ?_
        rintro _ _ ⟨rfl, y1, rfl⟩
        have hs1 := y1.size_le
        simp at hs1
        have hr1 := HR.out.of (by (repeat' (first | (with_reducible first | exact Below.refl _ _ | exact Nat.le_refl _ | refine Below.bel ?_ ?_ | refine Below.alloc ?_ ?_ _ | refine Below.drew ?_ | refine Below.drawsN ?_ _ | refine Below.setCell ?_ ?_ _ | refine le_bel ?_ | refine le_alloc ?_ | refine le_setCell ?_ | refine le_drew ?_ | refine le_drawsN ?_) | (dsimp only; with_reducible first | refine le_bel ?_ | refine Nat.le_refl _ | refine le_bel_add ?_) | (with_reducible assumption) | omega | (dsimp only; omega))) : Below w.heap.size w y1.w)
        obtain ⟨g0, g1, g2, g3⟩ := box2 hr1
        have hm := hr1.move (p.length + 1)
        rw [show ((p.length + 1 : Nat) : Int) = (p.length : Int) + 1 by omega] at hm
        have HM := Lib.hid hm
        have hres := obj_ne (c := b) (i := 1) (.int .i64 ((p.length : Int) + 1)) (by omega) (obj_bel y1 (World.alloc_heap_new w (.cells #[.int .i64 0, .int .i64 0, .slice none 0 0] 26)))
        have HRS := Lib.hid hres
        have HRK := Lib.hid ((RK.bel (by (repeat' (first | (with_reducible first | exact Below.refl _ _ | exact Nat.le_refl _ | refine Below.bel ?_ ?_ | refine Below.alloc ?_ ?_ _ | refine Below.drew ?_ | refine Below.drawsN ?_ _ | refine Below.setCell ?_ ?_ _ | refine le_bel ?_ | refine le_alloc ?_ | refine le_setCell ?_ | refine le_drew ?_ | refine le_drawsN ?_) | (dsimp only; with_reducible first | refine le_bel ?_ | refine Nat.le_refl _ | refine le_bel_add ?_) | (with_reducible assumption) | omega | (dsimp only; omega))) : Below w.heap.size w y1.w) (by omega : b ≤ w.heap.size)).trans (RK.set (i := 1) (.int .i64 ((p.length : Int) + 1))))
        clear hr1 hm hres
        dsimp only
        have key := Lib.hid (fun W (hW : Below (y1.w.setCell ⟨b, 1, none⟩ (.int .i64 ((p.length : Int) + 1))).heap.size (y1.w.setCell ⟨b, 1, none⟩ (.int .i64 ((p.length : Int) + 1))) W) =>
          show Calls Tryz.prog 112 #[.pointer (some ⟨b, 0, none⟩), .agg #[.int .i64 3, .int .i64 0, .slice none 0 0]] W (fun e w2 => RdRet b (p ++ (38 :: 40 :: (txtL tl ++ (41 :: r)))) (p.length + 1 + (txtL tl).length + 2) (nd 3 0 tl) W e w2 ∧ w2.heap[w.heap.size]? = some (Obj.cells #[.int .i64 0, .int .i64 0, .slice none 0 0] 26) ∧ RK b w w2 ∧ w.heap.size + 1 ≤ W.heap.size) from
          (HVV.out W (HM.out.of hW)).mono (fun _ w2 hr => ⟨hr, by
            obtain ⟨_, _, _, _, hrk2⟩ := hr
            have hsz := hW.size
            simp at hsz
            exact ⟨hrk2.2 w.heap.size _ (obj_below hW (by simp; omega) HRS.out) (by omega), (RK.grow HRK.out hW (by simp; omega) (by simp; omega)).trans hrk2, by omega⟩⟩))
        clear HVV HM HRS HRK
        go_wp2_with fail
        refine (key.out _ (by (repeat' (first | (with_reducible first | exact Below.refl _ _ | exact Nat.le_refl _ | refine Below.bel ?_ ?_ | refine Below.alloc ?_ ?_ _ | refine Below.drew ?_ | refine Below.drawsN ?_ _ | refine Below.setCell ?_ ?_ _ | refine le_bel ?_ | refine le_alloc ?_ | refine le_setCell ?_ | refine le_drew ?_ | refine le_drawsN ?_) | (dsimp only; with_reducible first | refine le_bel ?_ | refine Nat.le_refl _ | refine le_bel_add ?_) | (with_reducible assumption) | omega | (dsimp only; omega))))).mono ?_
        rintro _ w2 ⟨⟨v2, rfl, ⟨ad5, cap5, rfl, hi5⟩, hrd2, -⟩, hres2, hrk2, hWs⟩
        have HX := Lib.hid (And.intro hrd2 hrk2)
        clear hrd2 hrk2 key
        obtain ⟨r0, r1, r2⟩ := box3 hres2
        obtain ⟨q0, q1, q2⟩ := box3f hres2
        simp only [F.k, F.a, F.l]
        go_wp2
        have hR := obj_set3 (.int .i64 3) (.int .i64 0) (.slice ad5 tl.length cap5) hres2
        obtain ⟨s0, s1, s2⟩ := box3 hR
        refine bodyPost_ret (v := .tuple #[.agg #[.int .i64 3, .int .i64 0, .slice ad5 tl.length cap5], .bool true]) (by simp [results, Tryz.results84, go_sem, s0, s1, s2]) rfl ⟨_, rfl, ⟨ad5, cap5, rfl, ?_⟩, ?_, ?_⟩
        · refine hi5.move (fun c off u hp hu => ?_) (fun c _ hp => Nat.le_trans (by omega) hp)
          have hp' := Nat.le_trans hWs hp
          obtain ⟨o, ho⟩ : ∃ o, w2.heap[c]? = some o := ⟨_, Array.getElem?_eq_getElem (World.block_lt_of_cell? w2 _ hu)⟩
          rw [World.cell?_of_block ((obj_ne _ (by omega) (obj_ne _ (by omega) (obj_ne _ (by omega) ho))).trans ho.symm)]
          exact hu
        · refine obj_ne _ (by omega) (obj_ne _ (by omega) (obj_ne _ (by omega) ?_))
          have h := HX.out.1
          rw [show p.length + 1 + (txtL tl).length + 2 = p.length + ((txtL tl ++ [41]).length + 1 + 1) by simp only [List.length_append, List.length_cons, List.length_nil]; omega] at h
          exact h
        · exact ((HX.out.2.setNew (by omega) (by omega) _).setNew (by omega) (by omega) _).setNew (by omega) (by omega) _
      · have ht : txt (nd 4 0 tl) = 124 :: 40 :: (txtL tl ++ [41]) := by simp [txt]
        rw [ht] at hS h ⊢
        rw [List.cons_append, List.cons_append, List.append_assoc, List.singleton_append] at hS h ⊢
        have HF : ReadsF b tl := fun u hu p r w => ih u (by have := HNL.out; have := nodesL_mem hu; omega) (okL_mem HOKL.out hu) p r w
        have HV : ∀ w', RdAt w' b ((p ++ [124]) ++ (40 :: (txtL tl ++ (41 :: r)))) (p ++ [124]).length → Calls Tryz.prog 112 #[.pointer (some ⟨b, 0, none⟩), .agg #[.int .i64 4, .int .i64 0, .slice none 0 0]] w' (RdRet b ((p ++ [124]) ++ (40 :: (txtL tl ++ (41 :: r)))) ((p ++ [124]).length + (txtL tl).length + 2) (nd 4 0 tl) w') := by
          intro w' h'
          by_cases he : tl = []
          · subst he
            have := list_nil b 4 (p ++ [124]) r w' (by simpa [txtL] using hS) (by simpa [txtL] using h')
            simpa [txtL] using this
          · exact list_some b 4 tl (p ++ [124]) r w' he HOKL.out (by omega) HF (by simpa using hS) h'
        rw [show (p ++ [124]) ++ (40 :: (txtL tl ++ (41 :: r))) = p ++ (124 :: 40 :: (txtL tl ++ (41 :: r))) from by simp, show (List.length (p ++ [124])) = p.length + 1 from by rw [List.length_append]; rfl] at HV
        have HVV := Lib.hid HV
        clear HV HF
        have hpl : p.length + 1 ≤ 1000000 := by simp only [List.length_append, List.length_cons] at hS; omega
        have hb0 := byteAt_app p (124 :: (40 :: (txtL tl ++ (41 :: r)))) 0
        rw [show byteAt (124 :: (40 :: (txtL tl ++ (41 :: r)))) 0 = 124 from rfl, Nat.add_zero] at hb0
        have HN0 := Lib.hid (fun w' (h : RdAt w' b (p ++ (124 :: (40 :: (txtL tl ++ (41 :: r))))) p.length) => next_any b (p ++ (124 :: (40 :: (txtL tl ++ (41 :: r))))) p.length w' h hS (by omega))
        rw [hb0, show ((124 : UInt8).toNat : Int) = 124 from rfl] at HN0
        have HR := Lib.hid h
        clear h hb0
        go_enter Tryz.func84, Tryz.ntmps84
        go_wp2_with fail
        refine (HN0.out _ (HR.out.of (by (repeat' (first | (with_reducible first | exact Below.refl _ _ | exact Nat.le_refl _ | refine Below.bel ?_ ?_ | refine Below.alloc ?_ ?_ _ | refine Below.drew ?_ | refine Below.drawsN ?_ _ | refine Below.setCell ?_ ?_ _ | refine le_bel ?_ | refine le_alloc ?_ | refine le_setCell ?_ | refine le_drew ?_ | refine le_drawsN ?_) | (dsimp only; with_reducible first | refine le_bel ?_ | refine Nat.le_refl _ | refine le_bel_add ?_) | (with_reducible assumption) | omega | (dsimp only; omega)))))).mono ?_
        rintro _ _ ⟨rfl, y1, rfl⟩
        have hs1 := y1.size_le
        simp at hs1
        have hr1 := HR.out.of (by (repeat' (first | (with_reducible first | exact Below.refl _ _ | exact Nat.le_refl _ | refine Below.bel ?_ ?_ | refine Below.alloc ?_ ?_ _ | refine Below.drew ?_ | refine Below.drawsN ?_ _ | refine Below.setCell ?_ ?_ _ | refine le_bel ?_ | refine le_alloc ?_ | refine le_setCell ?_ | refine le_drew ?_ | refine le_drawsN ?_) | (dsimp only; with_reducible first | refine le_bel ?_ | refine Nat.le_refl _ | refine le_bel_add ?_) | (with_reducible assumption) | omega | (dsimp only; omega))) : Below w.heap.size w y1.w)
        obtain ⟨g0, g1, g2, g3⟩ := box2 hr1
        have hm := hr1.move (p.length + 1)
        rw [show ((p.length + 1 : Nat) : Int) = (p.length : Int) + 1 by omega] at hm
        have HM := Lib.hid hm
        have hres := obj_ne (c := b) (i := 1) (.int .i64 ((p.length : Int) + 1)) (by omega) (obj_bel y1 (World.alloc_heap_new w (.cells #[.int .i64 0, .int .i64 0, .slice none 0 0] 26)))
        have HRS := Lib.hid hres
        have HRK := Lib.hid ((RK.bel (by (repeat' (first | (with_reducible first | exact Below.refl _ _ | exact Nat.le_refl _ | refine Below.bel ?_ ?_ | refine Below.alloc ?_ ?_ _ | refine Below.drew ?_ | refine Below.drawsN ?_ _ | refine Below.setCell ?_ ?_ _ | refine le_bel ?_ | refine le_alloc ?_ | refine le_setCell ?_ | refine le_drew ?_ | refine le_drawsN ?_) | (dsimp only; with_reducible first | refine le_bel ?_ | refine Nat.le_refl _ | refine le_bel_add ?_) | (with_reducible assumption) | omega | (dsimp only; omega))) : Below w.heap.size w y1.w) (by omega : b ≤ w.heap.size)).trans (RK.set (i := 1) (.int .i64 ((p.length : Int) + 1))))
        clear hr1 hm hres
        dsimp only
        have key := Lib.hid (fun W (hW : Below (y1.w.setCell ⟨b, 1, none⟩ (.int .i64 ((p.length : Int) + 1))).heap.size (y1.w.setCell ⟨b, 1, none⟩ (.int .i64 ((p.length : Int) + 1))) W) =>
          show Calls Tryz.prog 112 #[.pointer (some ⟨b, 0, none⟩), .agg #[.int .i64 4, .int .i64 0, .slice none 0 0]] W (fun e w2 => RdRet b (p ++ (124 :: 40 :: (txtL tl ++ (41 :: r)))) (p.length + 1 + (txtL tl).length + 2) (nd 4 0 tl) W e w2 ∧ w2.heap[w.heap.size]? = some (Obj.cells #[.int .i64 0, .int .i64 0, .slice none 0 0] 26) ∧ RK b w w2 ∧ w.heap.size + 1 ≤ W.heap.size) from
          (HVV.out W (HM.out.of hW)).mono (fun _ w2 hr => ⟨hr, by
            obtain ⟨_, _, _, _, hrk2⟩ := hr
            have hsz := hW.size
            simp at hsz
            exact ⟨hrk2.2 w.heap.size _ (obj_below hW (by simp; omega) HRS.out) (by omega), (RK.grow HRK.out hW (by simp; omega) (by simp; omega)).trans hrk2, by omega⟩⟩))
        clear HVV HM HRS HRK
        go_wp2_with fail
        refine (key.out _ (by (repeat' (first | (with_reducible first | exact Below.refl _ _ | exact Nat.le_refl _ | refine Below.bel ?_ ?_ | refine Below.alloc ?_ ?_ _ | refine Below.drew ?_ | refine Below.drawsN ?_ _ | refine Below.setCell ?_ ?_ _ | refine le_bel ?_ | refine le_alloc ?_ | refine le_setCell ?_ | refine le_drew ?_ | refine le_drawsN ?_) | (dsimp only; with_reducible first | refine le_bel ?_ | refine Nat.le_refl _ | refine le_bel_add ?_) | (with_reducible assumption) | omega | (dsimp only; omega))))).mono ?_
        rintro _ w2 ⟨⟨v2, rfl, ⟨ad5, cap5, rfl, hi5⟩, hrd2, -⟩, hres2, hrk2, hWs⟩
        have HX := Lib.hid (And.intro hrd2 hrk2)
        clear hrd2 hrk2 key
        obtain ⟨r0, r1, r2⟩ := box3 hres2
        obtain ⟨q0, q1, q2⟩ := box3f hres2
        simp only [F.k, F.a, F.l]
        go_wp2
        have hR := obj_set3 (.int .i64 4) (.int .i64 0) (.slice ad5 tl.length cap5) hres2
        obtain ⟨s0, s1, s2⟩ := box3 hR
        refine bodyPost_ret (v := .tuple #[.agg #[.int .i64 4, .int .i64 0, .slice ad5 tl.length cap5], .bool true]) (by simp [results, Tryz.results84, go_sem, s0, s1, s2]) rfl ⟨_, rfl, ⟨ad5, cap5, rfl, ?_⟩, ?_, ?_⟩
        · refine hi5.move (fun c off u hp hu => ?_) (fun c _ hp => Nat.le_trans (by omega) hp)
          have hp' := Nat.le_trans hWs hp
          obtain ⟨o, ho⟩ : ∃ o, w2.heap[c]? = some o := ⟨_, Array.getElem?_eq_getElem (World.block_lt_of_cell? w2 _ hu)⟩
          rw [World.cell?_of_block ((obj_ne _ (by omega) (obj_ne _ (by omega) (obj_ne _ (by omega) ho))).trans ho.symm)]
          exact hu
        · refine obj_ne _ (by omega) (obj_ne _ (by omega) (obj_ne _ (by omega) ?_))
          have h := HX.out.1
          rw [show p.length + 1 + (txtL tl).length + 2 = p.length + ((txtL tl ++ [41]).length + 1 + 1) by simp only [List.length_append, List.length_cons, List.length_nil]; omega] at h
          exact h
        · exact ((HX.out.2.setNew (by omega) (by omega) _).setNew (by omega) (by omega) _).setNew (by omega) (by omega) _
    · -- a constant
      rcases hk with rfl | rfl
      · rw [show txt (nd 5 0 []) = [48] from rfl] at hS h ⊢
        rw [List.singleton_append] at hS h ⊢
        have HV := Lib.hid (constant_any false)
        have hpl : p.length + 1 ≤ 1000000 := by simp only [List.length_append, List.length_cons] at hS; omega
        have hb0 := byteAt_app p (48 :: r) 0
        rw [show byteAt (48 :: r) 0 = 48 from rfl, Nat.add_zero] at hb0
        have HN0 := Lib.hid (fun w' (h : RdAt w' b (p ++ (48 :: r)) p.length) => next_any b (p ++ (48 :: r)) p.length w' h hS (by omega))
        rw [hb0, show ((48 : UInt8).toNat : Int) = 48 from rfl] at HN0
        have HR := Lib.hid h
        clear h hb0
        go_enter Tryz.func84, Tryz.ntmps84
        go_wp2_with fail
        refine (HN0.out _ (HR.out.of (by (repeat' (first | (with_reducible first | exact Below.refl _ _ | exact Nat.le_refl _ | refine Below.bel ?_ ?_ | refine Below.alloc ?_ ?_ _ | refine Below.drew ?_ | refine Below.drawsN ?_ _ | refine Below.setCell ?_ ?_ _ | refine le_bel ?_ | refine le_alloc ?_ | refine le_setCell ?_ | refine le_drew ?_ | refine le_drawsN ?_) | (dsimp only; with_reducible first | refine le_bel ?_ | refine Nat.le_refl _ | refine le_bel_add ?_) | (with_reducible assumption) | omega | (dsimp only; omega)))))).mono ?_
        rintro _ _ ⟨rfl, y1, rfl⟩
        have hs1 := y1.size_le
        simp at hs1
        have hr1 := HR.out.of (by (repeat' (first | (with_reducible first | exact Below.refl _ _ | exact Nat.le_refl _ | refine Below.bel ?_ ?_ | refine Below.alloc ?_ ?_ _ | refine Below.drew ?_ | refine Below.drawsN ?_ _ | refine Below.setCell ?_ ?_ _ | refine le_bel ?_ | refine le_alloc ?_ | refine le_setCell ?_ | refine le_drew ?_ | refine le_drawsN ?_) | (dsimp only; with_reducible first | refine le_bel ?_ | refine Nat.le_refl _ | refine le_bel_add ?_) | (with_reducible assumption) | omega | (dsimp only; omega))) : Below w.heap.size w y1.w)
        obtain ⟨g0, g1, g2, g3⟩ := box2 hr1
        have hm := hr1.move (p.length + 1)
        rw [show ((p.length + 1 : Nat) : Int) = (p.length : Int) + 1 by omega] at hm
        have HM := Lib.hid hm
        have hres := obj_ne (c := b) (i := 1) (.int .i64 ((p.length : Int) + 1)) (by omega) (obj_bel y1 (World.alloc_heap_new w (.cells #[.int .i64 0, .int .i64 0, .slice none 0 0] 26)))
        have HRS := Lib.hid hres
        have HRK := Lib.hid ((RK.bel (by (repeat' (first | (with_reducible first | exact Below.refl _ _ | exact Nat.le_refl _ | refine Below.bel ?_ ?_ | refine Below.alloc ?_ ?_ _ | refine Below.drew ?_ | refine Below.drawsN ?_ _ | refine Below.setCell ?_ ?_ _ | refine le_bel ?_ | refine le_alloc ?_ | refine le_setCell ?_ | refine le_drew ?_ | refine le_drawsN ?_) | (dsimp only; with_reducible first | refine le_bel ?_ | refine Nat.le_refl _ | refine le_bel_add ?_) | (with_reducible assumption) | omega | (dsimp only; omega))) : Below w.heap.size w y1.w) (by omega : b ≤ w.heap.size)).trans (RK.set (i := 1) (.int .i64 ((p.length : Int) + 1))))
        clear hr1 hm hres
        dsimp only
        go_wp2_with fail
        refine (HV.out _).mono ?_
        rintro _ _ ⟨v2, rfl, y2, rfl, ad5, cap5, rfl, hi5⟩
        have hres2 := obj_bel y2 HRS.out
        obtain ⟨r0, r1, r2⟩ := box3 hres2
        obtain ⟨q0, q1, q2⟩ := box3f hres2
        simp only [cst, F.k, F.a, F.l, List.length_nil, if_true, Bool.false_eq_true, if_false]
        go_wp2
        have hR := obj_set3 (.int .i64 5) (.int .i64 0) (.slice ad5 0 cap5) hres2
        obtain ⟨s0, s1, s2⟩ := box3 hR
        refine bodyPost_ret (v := .tuple #[.agg #[.int .i64 5, .int .i64 0, .slice ad5 0 cap5], .bool true]) (by simp [results, Tryz.results84, go_sem, s0, s1, s2]) rfl ⟨_, rfl, ⟨ad5, cap5, rfl, insF_nil _ _ _⟩, ?_, ?_⟩
        · exact obj_ne _ (by omega) (obj_ne _ (by omega) (obj_ne _ (by omega) (HM.out.of y2.below)))
        · exact (((HRK.out.trans (RK.bel y2.below (by simp; omega))).setNew (by omega) (by omega) _).setNew (by omega) (by omega) _).setNew (by omega) (by omega) _
      · rw [show txt (nd 6 0 []) = [49] from rfl] at hS h ⊢
        rw [List.singleton_append] at hS h ⊢
        have HV := Lib.hid (constant_any true)
        have hpl : p.length + 1 ≤ 1000000 := by simp only [List.length_append, List.length_cons] at hS; omega
        have hb0 := byteAt_app p (49 :: r) 0
        rw [show byteAt (49 :: r) 0 = 49 from rfl, Nat.add_zero] at hb0
        have HN0 := Lib.hid (fun w' (h : RdAt w' b (p ++ (49 :: r)) p.length) => next_any b (p ++ (49 :: r)) p.length w' h hS (by omega))
        rw [hb0, show ((49 : UInt8).toNat : Int) = 49 from rfl] at HN0
        have HR := Lib.hid h
        clear h hb0
        go_enter Tryz.func84, Tryz.ntmps84
        go_wp2_with fail
        refine (HN0.out _ (HR.out.of (by (repeat' (first | (with_reducible first | exact Below.refl _ _ | exact Nat.le_refl _ | refine Below.bel ?_ ?_ | refine Below.alloc ?_ ?_ _ | refine Below.drew ?_ | refine Below.drawsN ?_ _ | refine Below.setCell ?_ ?_ _ | refine le_bel ?_ | refine le_alloc ?_ | refine le_setCell ?_ | refine le_drew ?_ | refine le_drawsN ?_) | (dsimp only; with_reducible first | refine le_bel ?_ | refine Nat.le_refl _ | refine le_bel_add ?_) | (with_reducible assumption) | omega | (dsimp only; omega)))))).mono ?_
        rintro _ _ ⟨rfl, y1, rfl⟩
        have hs1 := y1.size_le
        simp at hs1
        have hr1 := HR.out.of (by (repeat' (first | (with_reducible first | exact Below.refl _ _ | exact Nat.le_refl _ | refine Below.bel ?_ ?_ | refine Below.alloc ?_ ?_ _ | refine Below.drew ?_ | refine Below.drawsN ?_ _ | refine Below.setCell ?_ ?_ _ | refine le_bel ?_ | refine le_alloc ?_ | refine le_setCell ?_ | refine le_drew ?_ | refine le_drawsN ?_) | (dsimp only; with_reducible first | refine le_bel ?_ | refine Nat.le_refl _ | refine le_bel_add ?_) | (with_reducible assumption) | omega | (dsimp only; omega))) : Below w.heap.size w y1.w)
        obtain ⟨g0, g1, g2, g3⟩ := box2 hr1
        have hm := hr1.move (p.length + 1)
        rw [show ((p.length + 1 : Nat) : Int) = (p.length : Int) + 1 by omega] at hm
        have HM := Lib.hid hm
        have hres := obj_ne (c := b) (i := 1) (.int .i64 ((p.length : Int) + 1)) (by omega) (obj_bel y1 (World.alloc_heap_new w (.cells #[.int .i64 0, .int .i64 0, .slice none 0 0] 26)))
        have HRS := Lib.hid hres
        have HRK := Lib.hid ((RK.bel (by (repeat' (first | (with_reducible first | exact Below.refl _ _ | exact Nat.le_refl _ | refine Below.bel ?_ ?_ | refine Below.alloc ?_ ?_ _ | refine Below.drew ?_ | refine Below.drawsN ?_ _ | refine Below.setCell ?_ ?_ _ | refine le_bel ?_ | refine le_alloc ?_ | refine le_setCell ?_ | refine le_drew ?_ | refine le_drawsN ?_) | (dsimp only; with_reducible first | refine le_bel ?_ | refine Nat.le_refl _ | refine le_bel_add ?_) | (with_reducible assumption) | omega | (dsimp only; omega))) : Below w.heap.size w y1.w) (by omega : b ≤ w.heap.size)).trans (RK.set (i := 1) (.int .i64 ((p.length : Int) + 1))))
        clear hr1 hm hres
        dsimp only
        go_wp2_with fail
        refine (HV.out _).mono ?_
        rintro _ _ ⟨v2, rfl, y2, rfl, ad5, cap5, rfl, hi5⟩
        have hres2 := obj_bel y2 HRS.out
        obtain ⟨r0, r1, r2⟩ := box3 hres2
        obtain ⟨q0, q1, q2⟩ := box3f hres2
        simp only [cst, F.k, F.a, F.l, List.length_nil, if_true, Bool.false_eq_true, if_false]
        go_wp2
        have hR := obj_set3 (.int .i64 6) (.int .i64 0) (.slice ad5 0 cap5) hres2
        obtain ⟨s0, s1, s2⟩ := box3 hR
        refine bodyPost_ret (v := .tuple #[.agg #[.int .i64 6, .int .i64 0, .slice ad5 0 cap5], .bool true]) (by simp [results, Tryz.results84, go_sem, s0, s1, s2]) rfl ⟨_, rfl, ⟨ad5, cap5, rfl, insF_nil _ _ _⟩, ?_, ?_⟩
        · exact obj_ne _ (by omega) (obj_ne _ (by omega) (obj_ne _ (by omega) (HM.out.of y2.below)))
        · exact (((HRK.out.trans (RK.bel y2.below (by simp; omega))).setNew (by omega) (by omega) _).setNew (by omega) (by omega) _).setNew (by omega) (by omega) _
end Go.Proofs.YtkdmhjlcgpnjpaaGreatDoor

namespace Go.Proofs.YtkdmhjlcgpnjpaaGreatDoor
set_option linter.unusedVariables false
set_option linter.unusedSimpArgs false
open Go.RowKit Go.Shelf F
attribute [local go_sem low] Bel.cell Bel.frozen alloc_cell alloc_frozen

set_option maxRecDepth 100000 in
set_option maxHeartbeats 6400000 in
theorem Parse_ok (t : F) (w : World) (hok : okT t) (hn : nodes t ≤ 10000) (hl : levels t ≤ 100) (hlen : (txt t).length ≤ 65536) : Calls Tryz.prog 43 #[.string ⟨(txt t).toArray⟩] w (RetFE t w) := by
  have HF := Lib.hid (fun (b : Nat) (w' : World) (h : RdAt w' b (txt t) 0) => show Calls Tryz.prog 84 #[.pointer (some ⟨b, 0, none⟩)] w' (RdRet b (txt t) (txt t).length t w') from by
    have := formula_any b (nodes t) t (Nat.le_refl _) hok [] [] w' rfl (by simp; omega) (by simpa using h)
    simpa using this)
  have hc0 : checkF t = 0 := checkF_ok.2 ⟨decide_eq_true (by omega), hok⟩
  have HC := Lib.hid (fun (P : Nat → Prop) ad cap w' (h : InsF P w' ad t.l) => check_any P t ad cap w' h (by omega))
  rw [hc0] at HC
  obtain ⟨S, hS⟩ : ∃ S, txt t = S := ⟨_, rfl⟩
  rw [hS] at HF hlen ⊢
  have f0 : decide ((65536 : Int) < (S.length : Int)) = false := decide_eq_false (by omega)
  clear hS hc0
  go_enter Tryz.func43, Tryz.ntmps43
  go_wp2_with fail
  refine (HF.out (w.heap.size + 1) _ (heap2_1 w (.cells #[.int .i64 0, .int .i64 0, .slice none 0 0] 26) (.cells #[.string ⟨S.toArray⟩, .int .i64 0] 128))).mono ?_
  rintro _ w2 ⟨v2, rfl, ⟨ad5, cap5, rfl, hi5⟩, hrd2, hrk2⟩
  have hres2 := hrk2.2 w.heap.size _ (heap2_0 w (.cells #[.int .i64 0, .int .i64 0, .slice none 0 0] 26) (.cells #[.string ⟨S.toArray⟩, .int .i64 0] 128)) (by omega)
  obtain ⟨g0, g1, g2, g3⟩ := box2 hrd2
  have f1 : ((S.length : Int) != (S.length : Int)) = false := by simp
  have hbw : Below w.heap.size w w2 := Below.trans (by (repeat' (first | (with_reducible first | exact Below.refl _ _ | exact Nat.le_refl _ | refine Below.bel ?_ ?_ | refine Below.alloc ?_ ?_ _ | refine Below.drew ?_ | refine Below.drawsN ?_ _ | refine Below.setCell ?_ ?_ _ | refine le_bel ?_ | refine le_alloc ?_ | refine le_setCell ?_ | refine le_drew ?_ | refine le_drawsN ?_) | (dsimp only; with_reducible first | refine le_bel ?_ | refine Nat.le_refl _ | refine le_bel_add ?_) | (with_reducible assumption) | omega | (dsimp only; omega)))) (hrk2.1.mono (by omega))
  have hs2 := hbw.size
  have HI5 := Lib.hid hi5
  clear hi5 hrd2 hrk2 HF
  dsimp only
  go_wp2_with fail
  refine (HC.out _ _ _ _ (HI5.out.of (by (repeat' (first | (with_reducible first | exact Below.refl _ _ | exact Nat.le_refl _ | refine Below.bel ?_ ?_ | refine Below.alloc ?_ ?_ _ | refine Below.drew ?_ | refine Below.drawsN ?_ _ | refine Below.setCell ?_ ?_ _ | refine le_bel ?_ | refine le_alloc ?_ | refine le_setCell ?_ | refine le_drew ?_ | refine le_drawsN ?_) | (dsimp only; with_reducible first | refine le_bel ?_ | refine Nat.le_refl _ | refine le_bel_add ?_) | (with_reducible assumption) | omega | (dsimp only; omega)))))).mono ?_
  rintro _ _ ⟨rfl, y1, rfl⟩
  have hs1 := y1.size_le
  simp at hs1
  have hres3 := obj_bel ⟨y1.w, (by (repeat' (first | (with_reducible first | exact Below.refl _ _ | exact Nat.le_refl _ | refine Below.bel ?_ ?_ | refine Below.alloc ?_ ?_ _ | refine Below.drew ?_ | refine Below.drawsN ?_ _ | refine Below.setCell ?_ ?_ _ | refine le_bel ?_ | refine le_alloc ?_ | refine le_setCell ?_ | refine le_drew ?_ | refine le_drawsN ?_) | (dsimp only; with_reducible first | refine le_bel ?_ | refine Nat.le_refl _ | refine le_bel_add ?_) | (with_reducible assumption) | omega | (dsimp only; omega))) : Below w2.heap.size w2 y1.w)⟩ hres2
  obtain ⟨r0, r1, r2⟩ := box3 hres3
  obtain ⟨q0, q1, q2⟩ := box3f hres3
  have HY := Lib.hid (show Below w2.heap.size w2 y1.w by (repeat' (first | (with_reducible first | exact Below.refl _ _ | exact Nat.le_refl _ | refine Below.bel ?_ ?_ | refine Below.alloc ?_ ?_ _ | refine Below.drew ?_ | refine Below.drawsN ?_ _ | refine Below.setCell ?_ ?_ _ | refine le_bel ?_ | refine le_alloc ?_ | refine le_setCell ?_ | refine le_drew ?_ | refine le_drawsN ?_) | (dsimp only; with_reducible first | refine le_bel ?_ | refine Nat.le_refl _ | refine le_bel_add ?_) | (with_reducible assumption) | omega | (dsimp only; omega))))
  dsimp only
  go_wp2
  have hR := obj_set3 (.int .i64 t.k) (.int .i64 t.a) (.slice ad5 t.l.length cap5) hres3
  obtain ⟨s0, s1, s2⟩ := box3 hR
  refine bodyPost_ret (v := .tuple #[.agg #[.int .i64 t.k, .int .i64 t.a, .slice ad5 t.l.length cap5], .int .i64 0]) (by simp [results, Tryz.results43, go_sem, s0, s1, s2]) rfl (RetFE.mk ad5 cap5 rfl (by (repeat' (first | (with_reducible first | exact Below.refl _ _ | exact Nat.le_refl _ | refine Below.bel ?_ ?_ | refine Below.alloc ?_ ?_ _ | refine Below.drew ?_ | refine Below.drawsN ?_ _ | refine Below.setCell ?_ ?_ _ | refine le_bel ?_ | refine le_alloc ?_ | refine le_setCell ?_ | refine le_drew ?_ | refine le_drawsN ?_) | (dsimp only; with_reducible first | refine le_bel ?_ | refine Nat.le_refl _ | refine le_bel_add ?_) | (with_reducible assumption) | omega | (dsimp only; omega)))) ?_)
  refine ((HI5.out.of HY.out).move (fun c o u hc hu => ?_) (fun b _ h => h)).imp (fun b _ h => by simp at h; omega)
  have hne : c ≠ w.heap.size := by simp at hc; omega
  rw [World.cell?_of_block (Below.heap_setCell _ _ _ c hne), World.cell?_of_block (Below.heap_setCell _ _ _ c hne), World.cell?_of_block (Below.heap_setCell _ _ _ c hne)]
  exact hu
end Go.Proofs.YtkdmhjlcgpnjpaaGreatDoor
