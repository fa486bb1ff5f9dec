/- Note. -/
import Derived.Test.YtjojdkdpdlmahaaDoorPc
import Derived.Lib.IndexBytes
namespace Go.Proofs.YtjojdkdpdlmahaaDoor
open Go.RowKit
attribute [local go_sem low] Bel.cell Bel.frozen alloc_cell alloc_frozen
attribute [local go_sem] calmOp chainOp yieldsC grows

/-- The variables of strconv lie in the world. -/
structure Errs (w : World) : Prop where
  syn : ∃ tp p, w.var? Tryd.prog "strconv.ErrSyntax" = some #[.iface tp p]
  rng : ∃ tp p, w.var? Tryd.prog "strconv.ErrRange" = some #[.iface tp p]
theorem gSyn : Tryd.prog.globalNamed "strconv.ErrSyntax" = some 2 := by kernel_rfl
theorem gRng : Tryd.prog.globalNamed "strconv.ErrRange" = some 3 := by kernel_rfl
theorem var_of {w w' : World} {n : String} {g : Nat} {cs : Array Value} (hg : Tryd.prog.globalNamed n = some g) (h : w.var? Tryd.prog n = some cs) (hb : Below w.heap.size w w') : w'.var? Tryd.prog n = some cs := by
  have hlt : g < w.heap.size := by
    have h' := h
    unfold World.var? at h'
    simp only [hg, Option.bind_some] at h'
    refine Nat.lt_of_not_le fun h0 => ?_
    rw [Array.getElem?_eq_none h0] at h'
    cases h'
  exact var?_below hb hg hlt h
theorem Errs.of {w w' : World} (h : Errs w) (hb : Below w.heap.size w w') : Errs w' := by
  obtain ⟨⟨t, p, h1⟩, ⟨t', p', h2⟩⟩ := h
  exact ⟨⟨t, p, var_of gSyn h1 hb⟩, ⟨t', p', var_of gRng h2 hb⟩⟩

theorem bytesWorld_below (w : World) (t : TypeId) (s : ByteArray) : Below w.heap.size w (Lib.bytesWorld w t s) :=
  ⟨rfl, rfl, rfl, by rw [Lib.bytesWorld_size]; omega, fun j hj => Lib.bytesWorld_at_old w t s j hj⟩
/-- Atoi at any text: a number and no error, or an error. -/
theorem atoi_any (s : ByteArray) (w : World) (hs : s.size ≤ 281474976710656) (hE : Errs w) :
    Calls Tryd.prog 48 #[.string s] w fun e w' => (∃ y : Bel w, w' = y.w) ∧ ((∃ v, Lib.atoiAll s.data.toList = .ok v ∧ e = .returned (.tuple #[.int .i64 v, .nilIface])) ∨
      ((∀ v, Lib.atoiAll s.data.toList ≠ .ok v) ∧ ∃ v t p, e = .returned (.tuple #[.int .i64 v, .iface t p]))) := by
  obtain ⟨⟨t, p, h1⟩, ⟨t', p', h2⟩⟩ := hE
  cases h : Lib.atoiAll s.data.toList with
  | ok v =>
    refine (Tryd.strconv_Atoi_ok s (by omega) v h w).mono fun e w' ⟨he, hw⟩ => ⟨?_, .inl ⟨v, rfl, he⟩⟩
    rcases hw with rfl | ⟨t, rfl⟩
    · exact ⟨⟨w', Below.refl _ _⟩, rfl⟩
    · exact ⟨⟨_, bytesWorld_below _ _ _⟩, rfl⟩
  | range =>
    exact (Tryd.strconv_Atoi_range_var s hs h t' p' w h2).mono fun e w' ⟨N, he, _, _, hb⟩ => ⟨⟨⟨w', hb⟩, rfl⟩, .inr ⟨fun v hv => (by cases hv), _, _, _, he⟩⟩
  | _ =>
    exact (Tryd.strconv_Atoi_syntax_var s hs ⟨fun v hv => (by rw [h] at hv; cases hv), fun hv => (by rw [h] at hv; cases hv)⟩ t p w h1).mono fun e w' ⟨N, he, _, _, hb⟩ => ⟨⟨⟨w', hb⟩, rfl⟩, .inr ⟨fun v hv => (by cases hv), _, _, _, he⟩⟩
theorem twelve_getD {j : Nat} (h : j < 12) : twelveS.getD j ByteArray.empty = ⟨(letterL j).toArray⟩ := by
  rw [List.getD_eq_getElem?_getD, twelveS_get h]; rfl
theorem idx_any (a : List UInt8) (b : Nat) (w : World) (h : Twelve w b) :
    Calls Tryd.prog 47 #[.slice (some ⟨b, 0, none⟩) 12 12, .string ⟨a.toArray⟩] w fun e w' => e = .returned (.int .i64 (Lib.idxOfS twelveS ⟨a.toArray⟩)) ∧ w = w' := by
  have hl : twelveS.length = 12 := by unfold twelveS; simp
  refine (Tryd.slices_Index_string b 0 12 12 twelveS ⟨a.toArray⟩ w (by omega) (by omega) (fun j hj => ?_)).mono fun e w' ⟨he, hw⟩ => ⟨?_, hw.symm⟩
  · rw [Nat.zero_add, h j (by omega), twelve_getD (by omega)]
  · rw [he, List.take_of_length_le (by omega)]
/-- IndexAny at a text: what Note needs of it. -/
def IxC (l : List UInt8) : Prop := ∀ w : World, Calls Tryd.prog 46 #[.string ⟨l.toArray⟩, .string ⟨#[45, 48, 49, 50, 51, 52, 53, 54, 55, 56, 57]⟩] w fun e w' =>
    ∃ r : Int, e = .returned (.int .i64 r) ∧ (l ≠ [] → Idx l r) ∧ (l = [] → r = -1) ∧ ∃ y : Bel w, w' = y.w
theorem ix_ascii (l : List UInt8) (hl : l.length < 4294967281) (ha : ∀ b ∈ l, b.toNat < 128) : IxC l := fun w => by
  refine (Tryd.strings_IndexAny_laid ⟨l.toArray⟩ ⟨#[45, 48, 49, 50, 51, 52, 53, 54, 55, 56, 57]⟩ w (by show l.toArray.size < _; simpa using hl) (by decide) (fun j b hb => ha b (List.mem_of_getElem? hb)) (fun j b hb => ?_)).mono fun e w' ⟨he, hb⟩ => ⟨Lib.indexAny l digitL, he, fun h0 => ?_, fun h0 => by rw [h0]; rfl, ⟨w', hb⟩, rfl⟩
  · have h : ∀ b ∈ digitL, b.toNat < 128 := by decide
    exact h b (List.mem_of_getElem? hb)
  · rcases idx_ascii (s := l) with h | h
    · exact h
    · exact absurd h h0
/-- What Note returns. -/
def noteV (l : List UInt8) : Value := match noteOf l with
  | some n => .tuple #[.int .i64 (n : Int), .int .i64 0]
  | none => .tuple #[.int .i64 0, .int .i64 8]
theorem noteV_none {l : List UInt8} (h : noteOf l = none) : Value.tuple #[.int .i64 0, .int .i64 8] = noteV l := by unfold noteV; rw [h]
theorem noteV_some {l : List UInt8} {n : Nat} {z : Int} (h : noteOf l = some n) (hz : z = n) : Value.tuple #[.int .i64 z, .int .i64 0] = noteV l := by unfold noteV; rw [h, hz]

set_option maxRecDepth 100000 in
set_option maxHeartbeats 6400000 in
theorem note_any (l : List UInt8) (w : World) (hx : IxC l) (hl : l.length ≤ 140737488355328) (hT : Tab w) (hE : Errs w) : Calls Tryd.prog 15 #[.string ⟨l.toArray⟩] w (Ret (noteV l) w) := by
  have HT := Lib.hid hT
  have HE := Lib.hid hE
  have HXC := Lib.hid hx
  clear hT hE hx
  go_enter Tryd.func15, Tryd.ntmps15
  go_wp2_with fail
  refine (HXC.out _).mono ?_
  rintro _ _ ⟨r, rfl, hi, hi0, x1, rfl⟩
  by_cases h0 : l = []
  · have HN := Lib.hid (noteV_none (show noteOf l = none by rw [h0]; decide +kernel))
    rw [hi0 h0]
    clear hi hi0 h0
    go_wp2
    go_ret2
    exact Ret.mk HN.out (by (repeat' (first | (with_reducible exact Below.refl _ _) | (with_reducible exact Nat.le_refl _) | (with_reducible refine Below.bel ?_ ?_) | (with_reducible refine Below.alloc ?_ ?_ _) | (with_reducible refine Below.drew ?_) | (with_reducible refine Below.drawsN ?_ _) | (with_reducible refine Below.setCell ?_ ?_ _) | (with_reducible refine le_bel ?_) | (with_reducible refine le_alloc ?_) | (with_reducible refine le_setCell ?_) | (with_reducible refine le_drew ?_) | (with_reducible refine le_drawsN ?_) | (dsimp only; with_reducible refine le_bel ?_) | (dsimp only; with_reducible refine Nat.le_refl _) | (dsimp only; with_reducible refine le_bel_add ?_) | (with_reducible assumption) | omega | (dsimp only; omega))))
  have hix := hi h0
  clear hi hi0
  by_cases hr : r < 0
  · have HN := Lib.hid (noteV_none (idx_neg hix hr))
    have e1 : decide (r < 0) = true := by simpa using hr
    clear hix
    go_wp2
    go_ret2
    exact Ret.mk HN.out (by (repeat' (first | (with_reducible exact Below.refl _ _) | (with_reducible exact Nat.le_refl _) | (with_reducible refine Below.bel ?_ ?_) | (with_reducible refine Below.alloc ?_ ?_ _) | (with_reducible refine Below.drew ?_) | (with_reducible refine Below.drawsN ?_ _) | (with_reducible refine Below.setCell ?_ ?_ _) | (with_reducible refine le_bel ?_) | (with_reducible refine le_alloc ?_) | (with_reducible refine le_setCell ?_) | (with_reducible refine le_drew ?_) | (with_reducible refine le_drawsN ?_) | (dsimp only; with_reducible refine le_bel ?_) | (dsimp only; with_reducible refine Nat.le_refl _) | (dsimp only; with_reducible refine le_bel_add ?_) | (with_reducible assumption) | omega | (dsimp only; omega))))
  obtain ⟨r, rfl⟩ := Int.eq_ofNat_of_zero_le (show 0 ≤ r by omega)
  have hrl := hix.2.1
  have hr1 : (r : Int) ≤ (l.length : Int) := by omega
  have s1 := extract_take l r
  have s2 := extract_drop l r
  obtain ⟨A, hA⟩ : ∃ A, l.take r = A := ⟨_, rfl⟩
  obtain ⟨B, hB⟩ : ∃ B, l.drop r = B := ⟨_, rfl⟩
  have hBl : B.length ≤ 140737488355328 := by rw [← hB, List.length_drop]; omega
  rw [hA] at s1
  rw [hB] at s2
  have HX := Lib.hid hix
  have HA := Lib.hid (And.intro hA hB)
  clear hA hB hix hrl h0
  go_wp2_with fail
  refine wp_region_plan 5 (.calm 1 (.calm 2 (.calm 3 (.fork 0 (.calm 4 .tail) .none)))) (by kernel_rfl) (by kernel_rfl) ?_
  simp only [Plan.walk, operAt, List.getElem?_cons_succ, List.getElem?_cons_zero, Option.getD_some, List.drop_succ_cons, List.drop_zero]
  repeat (refine wpX_calm (fun K hK => ?_); go_simp; first | (refine hK _ _ ?_; clear hK K) | (apply Exists.intro; refine ⟨fun _ => ?_, hK _ _ ?_⟩; (fail); clear hK K))
  refine wpX_only (fun K hK => ?_)
  go_simp
  intro x
  refine (octave_any _).mono ?_
  rintro _ _ ⟨rfl, y, rfl, hc⟩
  refine ⟨_, rfl, y.below, hK _ _ ?_⟩
  clear hK K
  have HC := Lib.hid hc
  clear hc
  repeat (refine wpX_calm (fun K hK => ?_); go_simp; first | (refine hK _ _ ?_; clear hK K) | (apply Exists.intro; refine ⟨fun _ => ?_, hK _ _ ?_⟩; (go_at_call 47; exact ret_of_same (idx_any _ _ _ (HC.out.bel _))); clear hK K))
  refine wpX_tail ?_
  intro z1
  go_wp2_with fail
  refine (atoi_any ⟨B.toArray⟩ _ (by show B.toArray.size ≤ _; simp; omega) (HE.out.of (by (repeat' (first | (with_reducible exact Below.refl _ _) | (with_reducible exact Nat.le_refl _) | (with_reducible refine Below.bel ?_ ?_) | (with_reducible refine Below.alloc ?_ ?_ _) | (with_reducible refine Below.drew ?_) | (with_reducible refine Below.drawsN ?_ _) | (with_reducible refine Below.setCell ?_ ?_ _) | (with_reducible refine le_bel ?_) | (with_reducible refine le_alloc ?_) | (with_reducible refine le_setCell ?_) | (with_reducible refine le_drew ?_) | (with_reducible refine le_drawsN ?_) | (dsimp only; with_reducible refine le_bel ?_) | (dsimp only; with_reducible refine Nat.le_refl _) | (dsimp only; with_reducible refine le_bel_add ?_) | (with_reducible assumption) | omega | (dsimp only; omega)))))).mono ?_
  rintro _ _ ⟨⟨y2, rfl⟩, hat⟩
  rcases twelve_idx A with ⟨hkk, hno⟩ | ⟨k, hk12, hkk, hk⟩
  · rw [hkk]
    have HN := Lib.hid (noteV_none (none_letter HX.out HA.out hno))
    clear hno hkk
    rcases hat with ⟨v, hv, rfl⟩ | ⟨hv, v, t, p, rfl⟩
    all_goals
      clear hv
      go_wp2_with fail
      refine wp_region_bel (by kernel_rfl) (by kernel_rfl) ?_
      repeat (go_big_quiet_step (fail))
      refine wpQuiet_nil ?_
      rintro _ ⟨z2, rfl⟩
      go_wp2
      go_ret2
      exact Ret.mk HN.out (by (repeat' (first | (with_reducible exact Below.refl _ _) | (with_reducible exact Nat.le_refl _) | (with_reducible refine Below.bel ?_ ?_) | (with_reducible refine Below.alloc ?_ ?_ _) | (with_reducible refine Below.drew ?_) | (with_reducible refine Below.drawsN ?_ _) | (with_reducible refine Below.setCell ?_ ?_ _) | (with_reducible refine le_bel ?_) | (with_reducible refine le_alloc ?_) | (with_reducible refine le_setCell ?_) | (with_reducible refine le_drew ?_) | (with_reducible refine le_drawsN ?_) | (dsimp only; with_reducible refine le_bel ?_) | (dsimp only; with_reducible refine Nat.le_refl _) | (dsimp only; with_reducible refine le_bel_add ?_) | (with_reducible assumption) | omega | (dsimp only; omega))))
  rw [hkk]
  have HK := Lib.hid hk
  clear hk hkk
  have hkz : decide ((k : Int) < 0) = false := by simp
  rcases hat with ⟨v, hv, rfl⟩ | ⟨hv, v, t, p, rfl⟩
  rotate_left
  · have HN := Lib.hid (noteV_none (none_atoi HX.out HA.out hv))
    clear hv
    go_wp2_with fail
    refine wp_region_bel (by kernel_rfl) (by kernel_rfl) ?_
    repeat (go_big_quiet_step (fail))
    refine wpQuiet_nil ?_
    rintro _ ⟨z2, rfl⟩
    go_wp2
    go_ret2
    exact Ret.mk HN.out (by (repeat' (first | (with_reducible exact Below.refl _ _) | (with_reducible exact Nat.le_refl _) | (with_reducible refine Below.bel ?_ ?_) | (with_reducible refine Below.alloc ?_ ?_ _) | (with_reducible refine Below.drew ?_) | (with_reducible refine Below.drawsN ?_ _) | (with_reducible refine Below.setCell ?_ ?_ _) | (with_reducible refine le_bel ?_) | (with_reducible refine le_alloc ?_) | (with_reducible refine le_setCell ?_) | (with_reducible refine le_drew ?_) | (with_reducible refine le_drawsN ?_) | (dsimp only; with_reducible refine le_bel ?_) | (dsimp only; with_reducible refine Nat.le_refl _) | (dsimp only; with_reducible refine le_bel_add ?_) | (with_reducible assumption) | omega | (dsimp only; omega))))
  have hvb := atoi_bounds hv
  by_cases hi : Lib.itoa v = B
  rotate_left
  · have HN := Lib.hid (noteV_none (none_itoa HX.out HA.out hv hi))
    have hie : (Lib.itoa v == B) = false := by simpa using hi
    clear hv hi
    go_wp2_with fail
    refine wp_region_bel (by kernel_rfl) (by kernel_rfl) ?_
    repeat (go_big_quiet_step ((go_at_call 45; exact bel_of (itoa_any _ _ (by omega) (by omega) (HT.out.of (by (repeat' (first | (with_reducible exact Below.refl _ _) | (with_reducible exact Nat.le_refl _) | (with_reducible refine Below.bel ?_ ?_) | (with_reducible refine Below.alloc ?_ ?_ _) | (with_reducible refine Below.drew ?_) | (with_reducible refine Below.drawsN ?_ _) | (with_reducible refine Below.setCell ?_ ?_ _) | (with_reducible refine le_bel ?_) | (with_reducible refine le_alloc ?_) | (with_reducible refine le_setCell ?_) | (with_reducible refine le_drew ?_) | (with_reducible refine le_drawsN ?_) | (dsimp only; with_reducible refine le_bel ?_) | (dsimp only; with_reducible refine Nat.le_refl _) | (dsimp only; with_reducible refine le_bel_add ?_) | (with_reducible assumption) | omega | (dsimp only; omega)))))))))
    refine wpQuiet_nil ?_
    rintro _ ⟨z2, rfl⟩
    go_wp2
    go_ret2
    exact Ret.mk HN.out (by (repeat' (first | (with_reducible exact Below.refl _ _) | (with_reducible exact Nat.le_refl _) | (with_reducible refine Below.bel ?_ ?_) | (with_reducible refine Below.alloc ?_ ?_ _) | (with_reducible refine Below.drew ?_) | (with_reducible refine Below.drawsN ?_ _) | (with_reducible refine Below.setCell ?_ ?_ _) | (with_reducible refine le_bel ?_) | (with_reducible refine le_alloc ?_) | (with_reducible refine le_setCell ?_) | (with_reducible refine le_drew ?_) | (with_reducible refine le_drawsN ?_) | (dsimp only; with_reducible refine le_bel ?_) | (dsimp only; with_reducible refine Nat.le_refl _) | (dsimp only; with_reducible refine le_bel_add ?_) | (with_reducible assumption) | omega | (dsimp only; omega))))
  have hie : (Lib.itoa v == B) = true := by simpa using hi
  by_cases h1 : v < -1
  · have HN := Lib.hid (noteV_none (none_range HX.out HA.out hv (.inl h1)))
    have d1 : decide (v < -1) = true := by simpa using h1
    clear hv hi
    go_wp2_with fail
    refine wp_region_bel (by kernel_rfl) (by kernel_rfl) ?_
    repeat (go_big_quiet_step ((go_at_call 45; exact bel_of (itoa_any _ _ (by omega) (by omega) (HT.out.of (by (repeat' (first | (with_reducible exact Below.refl _ _) | (with_reducible exact Nat.le_refl _) | (with_reducible refine Below.bel ?_ ?_) | (with_reducible refine Below.alloc ?_ ?_ _) | (with_reducible refine Below.drew ?_) | (with_reducible refine Below.drawsN ?_ _) | (with_reducible refine Below.setCell ?_ ?_ _) | (with_reducible refine le_bel ?_) | (with_reducible refine le_alloc ?_) | (with_reducible refine le_setCell ?_) | (with_reducible refine le_drew ?_) | (with_reducible refine le_drawsN ?_) | (dsimp only; with_reducible refine le_bel ?_) | (dsimp only; with_reducible refine Nat.le_refl _) | (dsimp only; with_reducible refine le_bel_add ?_) | (with_reducible assumption) | omega | (dsimp only; omega)))))))))
    refine wpQuiet_nil ?_
    rintro _ ⟨z2, rfl⟩
    go_wp2
    go_ret2
    exact Ret.mk HN.out (by (repeat' (first | (with_reducible exact Below.refl _ _) | (with_reducible exact Nat.le_refl _) | (with_reducible refine Below.bel ?_ ?_) | (with_reducible refine Below.alloc ?_ ?_ _) | (with_reducible refine Below.drew ?_) | (with_reducible refine Below.drawsN ?_ _) | (with_reducible refine Below.setCell ?_ ?_ _) | (with_reducible refine le_bel ?_) | (with_reducible refine le_alloc ?_) | (with_reducible refine le_setCell ?_) | (with_reducible refine le_drew ?_) | (with_reducible refine le_drawsN ?_) | (dsimp only; with_reducible refine le_bel ?_) | (dsimp only; with_reducible refine Nat.le_refl _) | (dsimp only; with_reducible refine le_bel_add ?_) | (with_reducible assumption) | omega | (dsimp only; omega))))
  have d1 : decide (v < -1) = false := by simpa using h1
  by_cases h2 : 9 < v
  · have HN := Lib.hid (noteV_none (none_range HX.out HA.out hv (.inr h2)))
    have d2 : decide (9 < v) = true := by simpa using h2
    clear hv hi
    go_wp2_with fail
    refine wp_region_bel (by kernel_rfl) (by kernel_rfl) ?_
    repeat (go_big_quiet_step ((go_at_call 45; exact bel_of (itoa_any _ _ (by omega) (by omega) (HT.out.of (by (repeat' (first | (with_reducible exact Below.refl _ _) | (with_reducible exact Nat.le_refl _) | (with_reducible refine Below.bel ?_ ?_) | (with_reducible refine Below.alloc ?_ ?_ _) | (with_reducible refine Below.drew ?_) | (with_reducible refine Below.drawsN ?_ _) | (with_reducible refine Below.setCell ?_ ?_ _) | (with_reducible refine le_bel ?_) | (with_reducible refine le_alloc ?_) | (with_reducible refine le_setCell ?_) | (with_reducible refine le_drew ?_) | (with_reducible refine le_drawsN ?_) | (dsimp only; with_reducible refine le_bel ?_) | (dsimp only; with_reducible refine Nat.le_refl _) | (dsimp only; with_reducible refine le_bel_add ?_) | (with_reducible assumption) | omega | (dsimp only; omega)))))))))
    refine wpQuiet_nil ?_
    rintro _ ⟨z2, rfl⟩
    go_wp2
    go_ret2
    exact Ret.mk HN.out (by (repeat' (first | (with_reducible exact Below.refl _ _) | (with_reducible exact Nat.le_refl _) | (with_reducible refine Below.bel ?_ ?_) | (with_reducible refine Below.alloc ?_ ?_ _) | (with_reducible refine Below.drew ?_) | (with_reducible refine Below.drawsN ?_ _) | (with_reducible refine Below.setCell ?_ ?_ _) | (with_reducible refine le_bel ?_) | (with_reducible refine le_alloc ?_) | (with_reducible refine le_setCell ?_) | (with_reducible refine le_drew ?_) | (with_reducible refine le_drawsN ?_) | (dsimp only; with_reducible refine le_bel ?_) | (dsimp only; with_reducible refine Nat.le_refl _) | (dsimp only; with_reducible refine le_bel_add ?_) | (with_reducible assumption) | omega | (dsimp only; omega))))
  have d2 : decide (9 < v) = false := by simpa using h2
  by_cases h3 : 127 < 12 * (v + 1) + k
  · have HN := Lib.hid (noteV_none (none_over HX.out HA.out hv HK.out hk12 h3))
    have d3 : decide (0 ≤ 12 * (v + 1) + (k : Int) ∧ 12 * (v + 1) + (k : Int) ≤ 127) = false := by simp; omega
    have D3 := Lib.hid d3
    clear hv hi d3
    go_wp2_with fail
    refine wp_region_bel (by kernel_rfl) (by kernel_rfl) ?_
    repeat (go_big_quiet_step ((go_at_call 45; exact bel_of (itoa_any _ _ (by omega) (by omega) (HT.out.of (by (repeat' (first | (with_reducible exact Below.refl _ _) | (with_reducible exact Nat.le_refl _) | (with_reducible refine Below.bel ?_ ?_) | (with_reducible refine Below.alloc ?_ ?_ _) | (with_reducible refine Below.drew ?_) | (with_reducible refine Below.drawsN ?_ _) | (with_reducible refine Below.setCell ?_ ?_ _) | (with_reducible refine le_bel ?_) | (with_reducible refine le_alloc ?_) | (with_reducible refine le_setCell ?_) | (with_reducible refine le_drew ?_) | (with_reducible refine le_drawsN ?_) | (dsimp only; with_reducible refine le_bel ?_) | (dsimp only; with_reducible refine Nat.le_refl _) | (dsimp only; with_reducible refine le_bel_add ?_) | (with_reducible assumption) | omega | (dsimp only; omega)))))))))
    refine wpQuiet_nil ?_
    rintro _ ⟨z2, rfl⟩
    go_wp2_with fail
    (with_reducible refine (isNote_any _ _).mono ?_)
    rintro _ _ ⟨rfl, rfl⟩
    rw [D3.out]
    go_wp2
    go_ret2
    exact Ret.mk HN.out (by (repeat' (first | (with_reducible exact Below.refl _ _) | (with_reducible exact Nat.le_refl _) | (with_reducible refine Below.bel ?_ ?_) | (with_reducible refine Below.alloc ?_ ?_ _) | (with_reducible refine Below.drew ?_) | (with_reducible refine Below.drawsN ?_ _) | (with_reducible refine Below.setCell ?_ ?_ _) | (with_reducible refine le_bel ?_) | (with_reducible refine le_alloc ?_) | (with_reducible refine le_setCell ?_) | (with_reducible refine le_drew ?_) | (with_reducible refine le_drawsN ?_) | (dsimp only; with_reducible refine le_bel ?_) | (dsimp only; with_reducible refine Nat.le_refl _) | (dsimp only; with_reducible refine le_bel_add ?_) | (with_reducible assumption) | omega | (dsimp only; omega))))
  · obtain ⟨n, hn1, hn2⟩ := some_of HA.out hi HK.out hk12 (by omega) (by omega)
    have HN := Lib.hid (noteV_some hn1 hn2)
    have d3 : decide (0 ≤ 12 * (v + 1) + (k : Int) ∧ 12 * (v + 1) + (k : Int) ≤ 127) = true := by simp; omega
    have D3 := Lib.hid d3
    clear hv hi d3 hn1 hn2
    go_wp2_with fail
    refine wp_region_bel (by kernel_rfl) (by kernel_rfl) ?_
    repeat (go_big_quiet_step ((go_at_call 45; exact bel_of (itoa_any _ _ (by omega) (by omega) (HT.out.of (by (repeat' (first | (with_reducible exact Below.refl _ _) | (with_reducible exact Nat.le_refl _) | (with_reducible refine Below.bel ?_ ?_) | (with_reducible refine Below.alloc ?_ ?_ _) | (with_reducible refine Below.drew ?_) | (with_reducible refine Below.drawsN ?_ _) | (with_reducible refine Below.setCell ?_ ?_ _) | (with_reducible refine le_bel ?_) | (with_reducible refine le_alloc ?_) | (with_reducible refine le_setCell ?_) | (with_reducible refine le_drew ?_) | (with_reducible refine le_drawsN ?_) | (dsimp only; with_reducible refine le_bel ?_) | (dsimp only; with_reducible refine Nat.le_refl _) | (dsimp only; with_reducible refine le_bel_add ?_) | (with_reducible assumption) | omega | (dsimp only; omega)))))))))
    refine wpQuiet_nil ?_
    rintro _ ⟨z2, rfl⟩
    go_wp2_with fail
    (with_reducible refine (isNote_any _ _).mono ?_)
    rintro _ _ ⟨rfl, rfl⟩
    rw [D3.out]
    go_wp2
    go_ret2
    exact Ret.mk HN.out (by (repeat' (first | (with_reducible exact Below.refl _ _) | (with_reducible exact Nat.le_refl _) | (with_reducible refine Below.bel ?_ ?_) | (with_reducible refine Below.alloc ?_ ?_ _) | (with_reducible refine Below.drew ?_) | (with_reducible refine Below.drawsN ?_ _) | (with_reducible refine Below.setCell ?_ ?_ _) | (with_reducible refine le_bel ?_) | (with_reducible refine le_alloc ?_) | (with_reducible refine le_setCell ?_) | (with_reducible refine le_drew ?_) | (with_reducible refine le_drawsN ?_) | (dsimp only; with_reducible refine le_bel ?_) | (dsimp only; with_reducible refine Nat.le_refl _) | (dsimp only; with_reducible refine le_bel_add ?_) | (with_reducible assumption) | omega | (dsimp only; omega))))
end Go.Proofs.YtjojdkdpdlmahaaDoor
