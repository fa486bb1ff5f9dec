/- The reader of formulas: its next byte. The reader of formulas: a variable. -/
import Derived.Test.YtkbellmhanpocaaGreatDoorH3
import Derived.Lib.SmallJoins
namespace Go.Proofs.YtkbellmhanpocaaGreatDoor
set_option linter.unusedVariables false
set_option linter.unusedSimpArgs false
open Go.RowKit Go.Shelf F
attribute [local go_sem low] Bel.cell Bel.frozen alloc_cell alloc_frozen

/-- The reader at block b. -/
def RdAt (w : World) (b : Nat) (S : List UInt8) (at_ : Nat) : Prop := w.heap[b]? = some (.cells #[.string ⟨S.toArray⟩, .int .i64 (at_ : Int)] 81 (0, 0))
theorem box2 {W : World} {b : Nat} {x y : Value} {e : TypeId} (h : W.heap[b]? = some (.cells #[x, y] e (0, 0))) : W.cell? ⟨b, 0, none⟩ = some x ∧ W.cell? ⟨b, 1, none⟩ = some y ∧ W.frozen? ⟨b, 0, none⟩ = false ∧ W.frozen? ⟨b, 1, none⟩ = false := by
  refine ⟨?_, ?_, ?_, ?_⟩ <;> simp [World.cell?, World.frozen?, h]
/-- All but the object at b lies as it lay. -/
def RK (b : Nat) (w w' : World) : Prop := Below b w w' ∧ ∀ k o, w.heap[k]? = some o → k ≠ b → w'.heap[k]? = some o
theorem RK.refl (b : Nat) (w : World) : RK b w w := ⟨Below.refl _ _, fun _ _ h _ => h⟩
theorem RK.trans {b : Nat} {w w1 w2 : World} (h : RK b w w1) (k : RK b w1 w2) : RK b w w2 := ⟨h.1.trans k.1, fun i o hi hn => k.2 i o (h.2 i o hi hn) hn⟩
theorem RK.bel {b : Nat} {w w' : World} (h : Below w.heap.size w w') (hb : b ≤ w.heap.size) : RK b w w' := ⟨h.mono hb, fun _ _ hi _ => obj_bel ⟨w', h⟩ hi⟩
theorem RK.set {b i : Nat} {w : World} (v : Value) : RK b w (w.setCell ⟨b, i, none⟩ v) := ⟨(Below.refl _ _).setCell (p := ⟨b, i, none⟩) (Nat.le_refl _) _, fun _ _ hi hn => obj_ne _ hn hi⟩
/-- The byte at a place; 0 behind the end. -/
def byteAt (S : List UInt8) (k : Nat) : UInt8 := S.getD k 0
set_option maxRecDepth 100000 in
set_option maxHeartbeats 3200000 in
theorem next_any (b : Nat) (S : List UInt8) (at_ : Nat) (w : World) (h : RdAt w b S at_) (hS : S.length ≤ 1000000) (ha : at_ ≤ 1000000) :
    Calls Tryz.prog 59 #[.pointer (some ⟨b, 0, none⟩)] w (Ret (.int .u8 ((byteAt S at_).toNat : Int)) w) := by
  obtain ⟨c0, c1, _, _⟩ := box2 h
  unfold byteAt
  by_cases hlt : at_ < S.length
  · have f0 : decide ((at_ : Int) < (S.length : Int)) = true := decide_eq_true (by omega)
    obtain ⟨c, hc⟩ := some_at hlt
    rw [List.getD_eq_getElem?_getD, hc]
    have HIX := Lib.hid (show ∀ h : at_ < (ByteArray.mk S.toArray).size, (ByteArray.mk S.toArray)[at_]'h = c from fun h => by
      obtain ⟨h1, h2⟩ := List.getElem?_eq_some_iff.1 hc
      show S.toArray[at_] = c
      rw [List.getElem_toArray]
      exact h2)
    go_enter Tryz.func59, Tryz.ntmps59
    go_wp2_with fail
    refine wp_region_bel (by kernel_rfl) (by kernel_rfl) ?_
    repeat (go_big_quiet_step (fail))
    refine wpQuiet_nil ?_
    rintro _ ⟨x, rfl⟩
    go_wp2_with fail
    refine wp_region_bel (by kernel_rfl) (by kernel_rfl) ?_
    repeat (go_big_quiet_step (fail))
    refine wpQuiet_nil ?_
    rintro _ ⟨y, rfl⟩
    go_wp2
    go_ret
    exact Ret.mk (by (have := HIX.out; simp [this])) (by (repeat' (first | (with_reducible exact Below.refl _ _) | (with_reducible exact Nat.le_refl _) | (with_reducible refine Below.bel ?_ ?_) | (with_reducible refine Below.alloc ?_ ?_ _) | (with_reducible refine Below.drew ?_) | (with_reducible refine Below.drawsN ?_ _) | (with_reducible refine Below.setCell ?_ ?_ _) | (with_reducible refine le_bel ?_) | (with_reducible refine le_alloc ?_) | (with_reducible refine le_setCell ?_) | (with_reducible refine le_drew ?_) | (with_reducible refine le_drawsN ?_) | (dsimp only; with_reducible refine le_bel ?_) | (dsimp only; with_reducible refine Nat.le_refl _) | (dsimp only; with_reducible refine le_bel_add ?_) | (with_reducible assumption) | omega | (dsimp only; omega))))
  · have f0 : decide ((at_ : Int) < (S.length : Int)) = false := decide_eq_false (by omega)
    rw [List.getD_eq_getElem?_getD, List.getElem?_eq_none (by omega)]
    go_enter Tryz.func59, Tryz.ntmps59
    go_wp2_with fail
    refine wp_region_bel (by kernel_rfl) (by kernel_rfl) ?_
    repeat (go_big_quiet_step (fail))
    refine wpQuiet_nil ?_
    rintro _ ⟨x, rfl⟩
    go_wp2
    go_ret
    exact Ret.mk (by rfl) (by (repeat' (first | (with_reducible exact Below.refl _ _) | (with_reducible exact Nat.le_refl _) | (with_reducible refine Below.bel ?_ ?_) | (with_reducible refine Below.alloc ?_ ?_ _) | (with_reducible refine Below.drew ?_) | (with_reducible refine Below.drawsN ?_ _) | (with_reducible refine Below.setCell ?_ ?_ _) | (with_reducible refine le_bel ?_) | (with_reducible refine le_alloc ?_) | (with_reducible refine le_setCell ?_) | (with_reducible refine le_drew ?_) | (with_reducible refine le_drawsN ?_) | (dsimp only; with_reducible refine le_bel ?_) | (dsimp only; with_reducible refine Nat.le_refl _) | (dsimp only; with_reducible refine le_bel_add ?_) | (with_reducible assumption) | omega | (dsimp only; omega))))
end Go.Proofs.YtkbellmhanpocaaGreatDoor

namespace Go.Proofs.YtkbellmhanpocaaGreatDoor
set_option linter.unusedVariables false
set_option linter.unusedSimpArgs false
open Go.RowKit Go.Shelf F
attribute [local go_sem low] Bel.cell Bel.frozen alloc_cell alloc_frozen

theorem byteAt_mid {p d r : List UInt8} {k : Nat} (h : k < d.length) : byteAt (p ++ (d ++ r)) (p.length + k) = d[k] := by
  unfold byteAt
  rw [List.getD_eq_getElem?_getD, List.getElem?_append_right (by omega), Nat.add_sub_cancel_left, List.getElem?_append_left h, List.getElem?_eq_getElem h]
  rfl
theorem byteAt_end {p d r : List UInt8} : byteAt (p ++ (d ++ r)) (p.length + d.length) = byteAt r 0 := by
  unfold byteAt
  rw [List.getD_eq_getElem?_getD, List.getElem?_append_right (by omega), Nat.add_sub_cancel_left, List.getElem?_append_right (by omega), Nat.sub_self, List.getD_eq_getElem?_getD]
theorem stop_byte {r : List UInt8} (h : stopD r = true) : (byteAt r 0).toNat < 48 ∨ (48 ≤ (byteAt r 0).toNat ∧ 57 < (byteAt r 0).toNat) := by
  cases r with
  | nil => left; decide
  | cons c r =>
    show c.toNat < 48 ∨ (48 ≤ c.toNat ∧ 57 < c.toNat)
    unfold stopD isDg at h
    rw [Bool.not_eq_true', Bool.and_eq_false_iff, decide_eq_false_iff_not, decide_eq_false_iff_not] at h
    omega
theorem dig_byte {a : Int} {k : Nat} (h : k < (dgs a).length) : 48 ≤ (dgs a)[k].toNat ∧ (dgs a)[k].toNat ≤ 57 := by
  have := dec_all a.toNat _ (List.getElem_mem h)
  unfold isDg at this
  rw [Bool.and_eq_true, decide_eq_true_eq, decide_eq_true_eq] at this
  exact this
theorem extract_mid (p d r : List UInt8) : (ByteArray.mk (p ++ (d ++ r)).toArray).extract p.length (p.length + d.length) = ⟨d.toArray⟩ := by
  refine ByteArray.ext ?_
  rw [ByteArray.data_extract, List.extract_toArray, List.extract_eq_take_drop, List.drop_left, Nat.add_sub_cancel_left, List.take_left]
theorem dec_head0 (u : Nat) : ∀ c r, Go.Lib.decDigits u = c :: r → r ≠ [] → c.toNat ≠ 48 := by
  induction u using Nat.strongRecOn with
  | ind u ih =>
    intro c r hc hr
    by_cases h : u < 10
    · rw [Go.Lib.decDigits_one h] at hc
      injection hc with _ h2
      exact absurd h2.symm hr
    · rw [Go.Lib.decDigits, dif_neg h] at hc
      by_cases h2 : u / 10 < 10
      · rw [Go.Lib.decDigits_one h2] at hc
        injection hc with h3 _
        rw [← h3, dv h2]
        omega
      · cases hd : Go.Lib.decDigits (u / 10) with
        | nil => rw [hd] at hc; injection hc with _ h3; exact absurd h3.symm hr
        | cons x y =>
          rw [hd] at hc
          injection hc with h3 _
          rw [← h3]
          refine ih (u / 10) (by omega) x y hd (fun e => ?_)
          have hl := Go.Lib.decDigits_length (u / 10)
          rw [hd, e] at hl
          rw [Go.Lib.decDigits, dif_neg h2] at hd
          have := congrArg List.length hd
          rw [List.length_append, e] at this
          have hp := Go.Lib.nDigits_pos (u / 10 / 10)
          rw [← Go.Lib.decDigits_length] at hp
          simp only [List.length_cons, List.length_nil] at this
          omega
/-- Digits are read as their number. -/
theorem puint_dgs : ∀ (l : List UInt8) (acc : Nat), (∀ c ∈ l, isDg c = true) → l.foldl (fun a c => 10 * a + (c.toNat - 48)) acc < 18446744073709551616 → Lib.parseUint10 acc l = .ok (l.foldl (fun a c => 10 * a + (c.toNat - 48)) acc)
  | [], acc, _, _ => rfl
  | c :: r, acc, hd, h => by
    have hc := hd c (List.mem_cons_self ..)
    unfold isDg at hc
    rw [Bool.and_eq_true, decide_eq_true_eq, decide_eq_true_eq] at hc
    have hge : ∀ (r : List UInt8) (x : Nat), x ≤ r.foldl (fun a c => 10 * a + (c.toNat - 48)) x := by
      intro r
      induction r with
      | nil => intro x; exact Nat.le_refl _
      | cons y z ih => intro x; rw [List.foldl_cons]; exact Nat.le_trans (by omega) (ih _)
    rw [List.foldl_cons] at h ⊢
    have := hge r (10 * acc + (c.toNat - 48))
    have ih := puint_dgs r _ (fun x hx => hd x (List.mem_cons_of_mem _ hx)) h
    rw [Lib.parseUint10, if_pos hc, if_neg (by omega), if_neg (by omega), show acc * 10 + (c.toNat - 48) = 10 * acc + (c.toNat - 48) by omega]
    exact ih
theorem atoi_dgs {a : Int} (h0 : 0 ≤ a) (h1 : a < 4096) : Lib.atoiAll (dgs a) = .ok a := by
  have hd := dec_all a.toNat
  have hv := dec_val a.toNat
  have hne := dgs_ne a
  unfold dgs at hne ⊢
  unfold dval at hv
  cases hl : Go.Lib.decDigits a.toNat with
  | nil => exact absurd hl hne
  | cons c r =>
    rw [hl] at hd hv
    have hc := hd c (List.mem_cons_self ..)
    unfold isDg at hc
    rw [Bool.and_eq_true, decide_eq_true_eq, decide_eq_true_eq] at hc
    rw [Lib.atoiAll_plain c r (by omega) (by omega)]
    unfold Lib.parseMag
    rw [if_neg (by simp), puint_dgs (c :: r) 0 hd (by rw [hv]; omega), hv]
    show (if _ then _ else _) = _
    rw [if_neg (by omega)]
    congr 1
    omega
theorem atoi_any (a : Int) (w : World) (h0 : 0 ≤ a) (h1 : a < 4096) : Calls Tryz.prog 68 #[.string ⟨(dgs a).toArray⟩] w (Ret (.tuple #[.int .i64 a, .nilIface]) w) :=
  (Tryz.strconv_Atoi_ok ⟨(dgs a).toArray⟩ (by
    have : (dgs a).length ≤ 4 := dec_lenk 3 a.toNat (by omega)
    show (dgs a).toArray.size ≤ _
    simp
    omega) a (atoi_dgs h0 h1) w).mono fun e w' ⟨he, hw⟩ => ⟨he, by
    rcases hw with hw | ⟨t, hw⟩
    · exact ⟨⟨w, Below.refl _ _⟩, hw⟩
    · exact ⟨⟨_, Go.Joins.below_bytesWorld w.heap.size w 5 t (Nat.le_refl _)⟩, hw⟩⟩
end Go.Proofs.YtkbellmhanpocaaGreatDoor
