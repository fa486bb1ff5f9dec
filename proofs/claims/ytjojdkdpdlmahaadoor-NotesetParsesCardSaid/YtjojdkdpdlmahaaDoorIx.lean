/- IndexAny of the digits at every text. -/
import Derived.Test.YtjojdkdpdlmahaaDoorC
import Derived.Test.YtjojdkdpdlmahaaDoorSeq
import Derived.Shelf.Strings.IndexAnyAll
import Derived.Laws.RangeAny
import Derived.Lib.OthersKept
import Derived.Laws.Runes
import Derived.Lib.IndexLaws
import Derived.Deep.LoopGhost
namespace Go.Proofs.YtjojdkdpdlmahaaDoor
open Go.RowKit Go.Shelf
attribute [local go_sem low] Bel.cell Bel.frozen alloc_cell alloc_frozen

theorem Tryd.setInfo : (Tryd.prog.info? 79).map (fun i => (i.zero, i.size)) = some (some (.agg (Array.replicate 256 (.bool false))), 256) := by kernel_rfl
theorem mkset_any (w : World) : Calls Tryd.prog 60 #[.string ⟨#[45, 48, 49, 50, 51, 52, 53, 54, 55, 56, 57]⟩] w fun e w' => e = .returned (.tuple #[.agg (Lib.setCells digitL), .bool true]) ∧ w' = w.alloc (.cells (Lib.setCells digitL) 79) :=
  Any.strings_makeASCIISet { Tryd.lays153 with } (zero_of_info Tryd.setInfo).1 (zero_of_info Tryd.setInfo).2 ⟨#[45, 48, 49, 50, 51, 52, 53, 54, 55, 56, 57]⟩ w (by decide) (fun j b hb => by
    have h : ∀ b ∈ digitL, b.toNat < 128 := by decide
    exact h b (List.mem_of_getElem? hb))
theorem setHas_any (b : Nat) (x : UInt8) (v : Bool) (w : World) (hc : w.cell? ⟨b, x.toNat, none⟩ = some (.bool v)) :
    Calls Tryd.prog 61 #[.pointer (some ⟨b, 0, none⟩), .int .u8 x.toNat] w fun e w' => e = .returned (.bool v) ∧ w' = w := Any.asciiSet_contains { Tryd.lays153 with } b x v w hc
theorem useSet_any (n : Int) (w : World) : Calls Tryd.prog 59 #[.int .i64 n] w fun e w' => e = .returned (.bool (decide (8 < n))) ∧ w' = w := Any.strings_shouldUseASCIISet { Tryd.lays153 with } n w
theorem firstByte_any (s : ByteArray) (c : Int) (w : World) : Calls Tryd.prog 73 #[.string s, .int .u8 c] w fun e w' => e = .returned (.int .i64 (Lib.indexByte s.data.toList c.toNat.toUInt8)) ∧ w' = w := Tryd.strings_IndexByte s c w
theorem tail_none (m : Nat) (c : UInt8) (h : 128 ≤ c.toNat) : Lib.indexByte (digitL.drop m) c = -1 := by
  have hge := Lib.indexByte_ge (digitL.drop m) c
  refine Classical.byContradiction fun hn => ?_
  obtain ⟨o, ho⟩ : ∃ o : Nat, Lib.indexByte (digitL.drop m) c = o := ⟨(Lib.indexByte (digitL.drop m) c).toNat, by omega⟩
  have h1 := (Lib.indexByte_some ho).1
  have h2 := List.mem_of_mem_drop (List.mem_of_getElem? h1)
  have h3 : ∀ b ∈ digitL, b.toNat < 128 := by decide
  have := h3 c h2
  omega
set_option maxRecDepth 100000 in
set_option maxHeartbeats 4000000 in
theorem rune_none (r : Int) (w : World) (h1 : 128 ≤ r) (h2 : r ≤ 2147483647) (hne : r ≠ 65533) : Calls Tryd.prog 58 #[.string ⟨#[45, 48, 49, 50, 51, 52, 53, 54, 55, 56, 57]⟩, .int .i32 r] w (Ret (.int .i64 (-1)) w) := by
  have e1 : decide (r < 128) = false := decide_eq_false (by omega)
  have e2 : (r == 65533) = false := by simp; omega
  cases hv : Lib.validRune r
  · have HV := Lib.hid hv
    clear hv
    go_enter Tryd.func58, Tryd.ntmps58
    go_wp2_with fail
    (with_reducible refine (Tryd.utf8_ValidRune _ _).mono ?_)
    rintro _ _ ⟨rfl, rfl⟩
    rw [HV.out]
    go_wp2
    go_ret
    exact Ret.mk (by rfl) (by (repeat' (first | (with_reducible exact Below.refl _ _) | (with_reducible exact Nat.le_refl _) | (with_reducible refine Below.bel ?_ ?_) | (with_reducible refine Below.alloc ?_ ?_ _) | (with_reducible refine Below.drew ?_) | (with_reducible refine Below.drawsN ?_ _) | (with_reducible refine Below.setCell ?_ ?_ _) | (with_reducible refine le_bel ?_) | (with_reducible refine le_alloc ?_) | (with_reducible refine le_setCell ?_) | (with_reducible refine le_drew ?_) | (with_reducible refine le_drawsN ?_) | (dsimp only; with_reducible refine le_bel ?_) | (dsimp only; with_reducible refine Nat.le_refl _) | (dsimp only; with_reducible refine le_bel_add ?_) | (with_reducible assumption) | omega | (dsimp only; omega))))
  · have hvv : Utf8.valid r = true := by rw [validRune_eq]; exact hv
    obtain ⟨f1, f2, f3⟩ := encode_facts r hvv h1
    have HV := Lib.hid hv
    clear hv hvv
    obtain ⟨rs, hrs⟩ : ∃ rs, Utf8.encode r = rs := ⟨_, rfl⟩
    rw [hrs] at f1 f2 f3
    obtain ⟨c, hc⟩ : ∃ c : UInt8, rs[rs.size - 1]'(by omega) = c := ⟨_, rfl⟩
    have hc128 : 128 ≤ c.toNat := by rw [← hc]; exact f3 (by omega)
    clear f3
    rcases (show rs.size = 2 ∨ rs.size = 3 ∨ rs.size = 4 by omega) with hsz | hsz | hsz
    · have hc' : rs[1]'(by omega) = c := by rw [← hc]; congr 1; omega
      have hq : ((48 : Int) != (c.toNat : Int)) = true := by simp; omega
      have hdg : (ByteArray.mk #[45, 48, 49, 50, 51, 52, 53, 54, 55, 56, 57])[1].toNat = 48 := rfl
      have HT := Lib.hid (show Lib.indexByte ((ByteArray.mk #[45, 48, 49, 50, 51, 52, 53, 54, 55, 56, 57]).extract 2 11).data.toList (c.toNat : Int).toNat.toUInt8 = -1 by
        rw [show ((ByteArray.mk #[45, 48, 49, 50, 51, 52, 53, 54, 55, 56, 57]).extract 2 11).data.toList = digitL.drop 2 from rfl, show (c.toNat : Int).toNat.toUInt8 = c by simp]
        exact tail_none 2 c hc128)
      have HTC := Lib.hid (fun w : World => show Calls Tryd.prog 73 #[.string ((ByteArray.mk #[45, 48, 49, 50, 51, 52, 53, 54, 55, 56, 57]).extract 2 11), .int .u8 (c.toNat : Int)] w (fun e w' => e = .returned (.int .i64 (-1)) ∧ w = w') from (firstByte_any _ _ w).mono fun e w' ⟨he, hw⟩ => ⟨by rw [he, HT.out], hw.symm⟩)
      clear hc f1 f2
      go_enter Tryd.func58, Tryd.ntmps58
      go_wp2_with fail
      (with_reducible refine (Tryd.utf8_ValidRune _ _).mono ?_)
      rintro _ _ ⟨rfl, rfl⟩
      rw [HV.out]
      go_wp2_with fail
      go_step3
      go_wp2_with fail
      refine wp_loop_rounds 1 ?_
      rw [rounds_succ]
      go_wp2_with fail
      try go_step3
      go_wp2_with fail
      refine wp_region_bel (by kernel_rfl) (by kernel_rfl) ?_
      repeat (go_big_quiet_step (fail))
      refine wpQuiet_nil ?_
      rintro _ ⟨z, rfl⟩
      go_wp2_with fail
      refine wp_region_bel (by kernel_rfl) (by kernel_rfl) ?_
      repeat (go_big_quiet_step ((go_at_call 73; exact bel_of_same (HTC.out _))))
      refine wpQuiet_nil ?_
      rintro _ ⟨z2, rfl⟩
      go_wp2
      go_ret
      exact Ret.mk (by rfl) (by (repeat' (first | (with_reducible exact Below.refl _ _) | (with_reducible exact Nat.le_refl _) | (with_reducible refine Below.bel ?_ ?_) | (with_reducible refine Below.alloc ?_ ?_ _) | (with_reducible refine Below.drew ?_) | (with_reducible refine Below.drawsN ?_ _) | (with_reducible refine Below.setCell ?_ ?_ _) | (with_reducible refine le_bel ?_) | (with_reducible refine le_alloc ?_) | (with_reducible refine le_setCell ?_) | (with_reducible refine le_drew ?_) | (with_reducible refine le_drawsN ?_) | (dsimp only; with_reducible refine le_bel ?_) | (dsimp only; with_reducible refine Nat.le_refl _) | (dsimp only; with_reducible refine le_bel_add ?_) | (with_reducible assumption) | omega | (dsimp only; omega))))
    · have hc' : rs[2]'(by omega) = c := by rw [← hc]; congr 1; omega
      have hq : ((49 : Int) != (c.toNat : Int)) = true := by simp; omega
      have hdg : (ByteArray.mk #[45, 48, 49, 50, 51, 52, 53, 54, 55, 56, 57])[2].toNat = 49 := rfl
      have HT := Lib.hid (show Lib.indexByte ((ByteArray.mk #[45, 48, 49, 50, 51, 52, 53, 54, 55, 56, 57]).extract 3 11).data.toList (c.toNat : Int).toNat.toUInt8 = -1 by
        rw [show ((ByteArray.mk #[45, 48, 49, 50, 51, 52, 53, 54, 55, 56, 57]).extract 3 11).data.toList = digitL.drop 3 from rfl, show (c.toNat : Int).toNat.toUInt8 = c by simp]
        exact tail_none 3 c hc128)
      have HTC := Lib.hid (fun w : World => show Calls Tryd.prog 73 #[.string ((ByteArray.mk #[45, 48, 49, 50, 51, 52, 53, 54, 55, 56, 57]).extract 3 11), .int .u8 (c.toNat : Int)] w (fun e w' => e = .returned (.int .i64 (-1)) ∧ w = w') from (firstByte_any _ _ w).mono fun e w' ⟨he, hw⟩ => ⟨by rw [he, HT.out], hw.symm⟩)
      clear hc f1 f2
      go_enter Tryd.func58, Tryd.ntmps58
      go_wp2_with fail
      (with_reducible refine (Tryd.utf8_ValidRune _ _).mono ?_)
      rintro _ _ ⟨rfl, rfl⟩
      rw [HV.out]
      go_wp2_with fail
      go_step3
      go_wp2_with fail
      refine wp_loop_rounds 1 ?_
      rw [rounds_succ]
      go_wp2_with fail
      try go_step3
      go_wp2_with fail
      refine wp_region_bel (by kernel_rfl) (by kernel_rfl) ?_
      repeat (go_big_quiet_step (fail))
      refine wpQuiet_nil ?_
      rintro _ ⟨z, rfl⟩
      go_wp2_with fail
      refine wp_region_bel (by kernel_rfl) (by kernel_rfl) ?_
      repeat (go_big_quiet_step ((go_at_call 73; exact bel_of_same (HTC.out _))))
      refine wpQuiet_nil ?_
      rintro _ ⟨z2, rfl⟩
      go_wp2
      go_ret
      exact Ret.mk (by rfl) (by (repeat' (first | (with_reducible exact Below.refl _ _) | (with_reducible exact Nat.le_refl _) | (with_reducible refine Below.bel ?_ ?_) | (with_reducible refine Below.alloc ?_ ?_ _) | (with_reducible refine Below.drew ?_) | (with_reducible refine Below.drawsN ?_ _) | (with_reducible refine Below.setCell ?_ ?_ _) | (with_reducible refine le_bel ?_) | (with_reducible refine le_alloc ?_) | (with_reducible refine le_setCell ?_) | (with_reducible refine le_drew ?_) | (with_reducible refine le_drawsN ?_) | (dsimp only; with_reducible refine le_bel ?_) | (dsimp only; with_reducible refine Nat.le_refl _) | (dsimp only; with_reducible refine le_bel_add ?_) | (with_reducible assumption) | omega | (dsimp only; omega))))
    · have hc' : rs[3]'(by omega) = c := by rw [← hc]; congr 1; omega
      have hq : ((50 : Int) != (c.toNat : Int)) = true := by simp; omega
      have hdg : (ByteArray.mk #[45, 48, 49, 50, 51, 52, 53, 54, 55, 56, 57])[3].toNat = 50 := rfl
      have HT := Lib.hid (show Lib.indexByte ((ByteArray.mk #[45, 48, 49, 50, 51, 52, 53, 54, 55, 56, 57]).extract 4 11).data.toList (c.toNat : Int).toNat.toUInt8 = -1 by
        rw [show ((ByteArray.mk #[45, 48, 49, 50, 51, 52, 53, 54, 55, 56, 57]).extract 4 11).data.toList = digitL.drop 4 from rfl, show (c.toNat : Int).toNat.toUInt8 = c by simp]
        exact tail_none 4 c hc128)
      have HTC := Lib.hid (fun w : World => show Calls Tryd.prog 73 #[.string ((ByteArray.mk #[45, 48, 49, 50, 51, 52, 53, 54, 55, 56, 57]).extract 4 11), .int .u8 (c.toNat : Int)] w (fun e w' => e = .returned (.int .i64 (-1)) ∧ w = w') from (firstByte_any _ _ w).mono fun e w' ⟨he, hw⟩ => ⟨by rw [he, HT.out], hw.symm⟩)
      clear hc f1 f2
      go_enter Tryd.func58, Tryd.ntmps58
      go_wp2_with fail
      (with_reducible refine (Tryd.utf8_ValidRune _ _).mono ?_)
      rintro _ _ ⟨rfl, rfl⟩
      rw [HV.out]
      go_wp2_with fail
      go_step3
      go_wp2_with fail
      refine wp_loop_rounds 1 ?_
      rw [rounds_succ]
      go_wp2_with fail
      try go_step3
      go_wp2_with fail
      refine wp_region_bel (by kernel_rfl) (by kernel_rfl) ?_
      repeat (go_big_quiet_step (fail))
      refine wpQuiet_nil ?_
      rintro _ ⟨z, rfl⟩
      go_wp2_with fail
      refine wp_region_bel (by kernel_rfl) (by kernel_rfl) ?_
      repeat (go_big_quiet_step ((go_at_call 73; exact bel_of_same (HTC.out _))))
      refine wpQuiet_nil ?_
      rintro _ ⟨z2, rfl⟩
      go_wp2
      go_ret
      exact Ret.mk (by rfl) (by (repeat' (first | (with_reducible exact Below.refl _ _) | (with_reducible exact Nat.le_refl _) | (with_reducible refine Below.bel ?_ ?_) | (with_reducible refine Below.alloc ?_ ?_ _) | (with_reducible refine Below.drew ?_) | (with_reducible refine Below.drawsN ?_ _) | (with_reducible refine Below.setCell ?_ ?_ _) | (with_reducible refine le_bel ?_) | (with_reducible refine le_alloc ?_) | (with_reducible refine le_setCell ?_) | (with_reducible refine le_drew ?_) | (with_reducible refine le_drawsN ?_) | (dsimp only; with_reducible refine le_bel ?_) | (dsimp only; with_reducible refine Nat.le_refl _) | (dsimp only; with_reducible refine le_bel_add ?_) | (with_reducible assumption) | omega | (dsimp only; omega))))

theorem digs_at (i : Nat) (hi : i < 11) : ∃ x : UInt8, (ByteArray.mk #[45, 48, 49, 50, 51, 52, 53, 54, 55, 56, 57])[i]'hi = x ∧ x.toNat < 128 := by
  have h : ∀ k : Fin 11, ((ByteArray.mk #[45, 48, 49, 50, 51, 52, 53, 54, 55, 56, 57])[k.val]'k.isLt).toNat < 128 := by decide
  exact ⟨_, rfl, h ⟨i, hi⟩⟩
set_option maxRecDepth 100000 in
set_option maxHeartbeats 4000000 in
theorem rune_bad (w : World) : Calls Tryd.prog 58 #[.string ⟨#[45, 48, 49, 50, 51, 52, 53, 54, 55, 56, 57]⟩, .int .i32 65533] w (Ret (.int .i64 (-1)) w) := by
  go_enter Tryd.func58, Tryd.ntmps58
  go_wp2
  go_loopg [5, 6] 11 (fun g _ _ wx => ∃ i : Nat, i + g = 11 ∧ wx = w.iter ⟨#[45, 48, 49, 50, 51, 52, 53, 54, 55, 56, 57]⟩ i)
  case atStart => exact ⟨0, by omega, rfl⟩
  case round =>
    obtain ⟨i, hig, rfl⟩ := hrel
    cases gk with
    | zero =>
      obtain rfl : i = 11 := by omega
      have hnx := run_next_end (P := Tryd.prog) w ⟨#[45, 48, 49, 50, 51, 52, 53, 54, 55, 56, 57]⟩ 11
      go_wp2
      go_ret
      exact Ret.mk rfl ((Below.refl _ _).alloc (Nat.le_refl _) _)
    | succ g =>
      have hi : i < 11 := by omega
      obtain ⟨x, hx, hx1⟩ := digs_at i hi
      have hnx := fun ty => run_next_ascii (P := Tryd.prog) w ⟨#[45, 48, 49, 50, 51, 52, 53, 54, 55, 56, 57]⟩ i ty hi (by rw [hx]; exact hx1)
      rw [hx] at hnx
      have hx2 : ((x.toNat : Int) == 65533) = false := by simp; omega
      clear hx
      go_wp2
      go_roundg g
      case measure => omega
      case rel => exact ⟨i + 1, by omega, rfl⟩
/-- IndexRune of the digits at any rune that no byte is. -/
theorem rune_any (r : Int) (w : World) (h1 : 128 ≤ r) (h2 : r ≤ 2147483647) : Calls Tryd.prog 58 #[.string ⟨#[45, 48, 49, 50, 51, 52, 53, 54, 55, 56, 57]⟩, .int .i32 r] w (Ret (.int .i64 (-1)) w) := by
  by_cases h : r = 65533
  · rw [h]; exact rune_bad w
  · exact rune_none r w h1 h2 h
theorem byte_any (x : UInt8) (w : World) (h : x.toNat < 128) : Calls Tryd.prog 58 #[.string ⟨#[45, 48, 49, 50, 51, 52, 53, 54, 55, 56, 57]⟩, .int .i32 (x.toNat : Int)] w (Ret (.int .i64 (Lib.indexByte digitL x)) w) := by
  refine (Tryd.strings_IndexRune_ascii ⟨#[45, 48, 49, 50, 51, 52, 53, 54, 55, 56, 57]⟩ x.toNat w (by omega) (by omega)).mono fun e w' ⟨he, hw⟩ => ⟨?_, ⟨w', by rw [hw]; exact Below.refl _ _⟩, rfl⟩
  rw [he, show ((x.toNat : Int)).toNat.toUInt8 = x by simp]; rfl

set_option maxRecDepth 1000000 in
set_option maxHeartbeats 8000000 in
/-- A text of more than eight bytes, whatever they are. -/
theorem ix_set (s : ByteArray) (w : World) (h8 : 8 < s.size) (hs : s.size ≤ 140737488355328) :
    Calls Tryd.prog 46 #[.string s, .string ⟨#[45, 48, 49, 50, 51, 52, 53, 54, 55, 56, 57]⟩] w (Ret (.int .i64 (Lib.indexAny s.data.toList digitL)) w) := by
  have hM := mkset_any w
  have h8z : decide ((8 : Int) < (s.size : Int)) = true := decide_eq_true (by omega)
  have hsc : (storeCells ⟨w.heap.size + 1, 0, none⟩ (Lib.setCells digitL).toList 0).run Tryd.prog ((w.alloc (.cells (Lib.setCells digitL) 79)).alloc (.cells (Array.replicate 256 (.bool false)) 79)) = .ok () ((w.alloc (.cells (Lib.setCells digitL) 79)).alloc (.cells (Lib.setCells digitL) 79)) := by
    have := run_storeCells_new (P := Tryd.prog) (w.alloc (.cells (Lib.setCells digitL) 79)) 79 (Array.replicate 256 (.bool false)) (Lib.setCells digitL) (by rw [Lib.setCells_size]; exact (zero_of_info Tryd.setInfo).2) (by rw [Lib.setCells_size, Array.size_replicate]) (Lib.setCells_one _)
    simpa using this
  have hsz := Lib.setCells_size digitL
  have HC := Lib.hid (show ∀ x : UInt8, ((w.alloc (.cells (Lib.setCells digitL) 79)).alloc (.cells (Lib.setCells digitL) 79)).cell? ⟨w.heap.size + 1, x.toNat, none⟩ = some (.bool (digitL.contains x)) from fun x => by
    rw [World.cell?_alloc_at _ _ _ _ (by simp), Lib.setCells_at])
  obtain ⟨S, hS⟩ : ∃ S, Lib.setCells digitL = S := ⟨_, rfl⟩
  rw [hS] at hM hsc hsz HC
  clear hS
  have hBw : Below w.heap.size w ((w.alloc (.cells S 79)).alloc (.cells S 79)) := by (repeat' (first | (with_reducible exact Below.refl _ _) | (with_reducible exact Nat.le_refl _) | (with_reducible refine Below.bel ?_ ?_) | (with_reducible refine Below.alloc ?_ ?_ _) | (with_reducible refine Below.drew ?_) | (with_reducible refine Below.drawsN ?_ _) | (with_reducible refine Below.setCell ?_ ?_ _) | (with_reducible refine le_bel ?_) | (with_reducible refine le_alloc ?_) | (with_reducible refine le_setCell ?_) | (with_reducible refine le_drew ?_) | (with_reducible refine le_drawsN ?_) | (dsimp only; with_reducible refine le_bel ?_) | (dsimp only; with_reducible refine Nat.le_refl _) | (dsimp only; with_reducible refine le_bel_add ?_) | (with_reducible assumption) | omega | (dsimp only; omega)))
  have HB := Lib.hid hBw
  clear hBw
  go_enter Tryd.func46, Tryd.ntmps46
  go_wp2_with (first
    | (go_at_call 59; refine (useSet_any _ _).mono ?_; rintro e w' ⟨rfl, hw⟩; rw [hw, h8z])
    | (go_at_call 60; refine hM.mono ?_; rintro e w' ⟨rfl, hw⟩; rw [hw]))
  rw [show Tryd.zeroCells79 = Array.replicate 256 (.bool false) by kernel_rfl]
  simp only [Result.andThen, hsc]
  rw [Oper.upon_skip]
  go_wp2
  clear hM hsc
  go_loopg [8] s.size (fun g s8 wx => ∃ i : Nat, i + g = s.size ∧ s8 = .int .i64 i ∧ wx = ((w.alloc (.cells S 79)).alloc (.cells S 79)) ∧ Lib.NoAny s.data.toList digitL i)
  case atStart => exact ⟨0, by omega, rfl, rfl, Lib.NoAny.zero _ _⟩
  case round =>
    obtain ⟨i, hig, rfl, rfl, hno⟩ := hrel
    have HN := Lib.hid hno
    clear hno
    cases gk with
    | zero =>
      obtain rfl : i = s.size := by omega
      have hiz : ¬ ((s.size : Int) < (s.size : Int)) := by omega
      go_wp2
      go_ret
      exact Ret.mk (by rw [Lib.indexAny_none (by rw [← Lib.size_eq]; exact HN.out)]; rfl) HB.out
    | succ g =>
      have hi : i < s.size := by omega
      have hiz : (i : Int) < (s.size : Int) := by omega
      obtain ⟨x, hx⟩ : ∃ x : UInt8, s[i]'hi = x := ⟨_, rfl⟩
      have Hx := Lib.hid (show s.data.toList[i]? = some x by rw [← hx]; exact Lib.data_getElem? s i hi)
      have hcx := HC.out x
      cases hin : digitL.contains x <;> rw [hin] at hcx
      · go_wp2_with (go_at_call 61; refine (setHas_any _ x _ _ hcx).mono ?_; rintro e w' ⟨rfl, hw⟩; rw [hw])
        go_roundg g
        case measure => omega
        case rel => exact ⟨i + 1, by omega, by first | rfl | simp, rfl, HN.out.succ Hx.out hin⟩
      · go_wp2_with (go_at_call 61; refine (setHas_any _ x _ _ hcx).mono ?_; rintro e w' ⟨rfl, hw⟩; rw [hw])
        go_ret
        exact Ret.mk (by rw [Lib.indexAny_hit HN.out Hx.out hin]; rfl) HB.out
theorem below_iterAt {B : Nat} {w W : World} {k : Nat} {s : ByteArray} {p : Nat} (h : Below B w W) (hk : B ≤ k) : Below B w (W.iterAt k s p) :=
  ⟨h.os, h.tape, h.output, by show w.heap.size ≤ (W.heap.setIfInBounds k (.stringIter s p)).size; rw [Array.size_setIfInBounds]; exact h.size, fun j hj => by
    show (W.heap.setIfInBounds k (.stringIter s p))[j]? = _
    rw [Array.getElem?_setIfInBounds_ne (by omega)]
    exact h.block j hj⟩
/-- A text of at most eight bytes: a place in it, or none. -/
theorem ix_small (s : ByteArray) (w : World) (h8 : s.size ≤ 8) :
    Calls Tryd.prog 46 #[.string s, .string ⟨#[45, 48, 49, 50, 51, 52, 53, 54, 55, 56, 57]⟩] w fun e w' => ∃ r : Int, e = .returned (.int .i64 r) ∧ (-1 ≤ r ∧ (r < s.size ∨ s.size = 0 ∧ r = -1)) ∧ ∃ y : Bel w, w' = y.w := by
  have h8z : decide ((8 : Int) < (s.size : Int)) = false := decide_eq_false (by omega)
  go_enter Tryd.func46, Tryd.ntmps46
  go_wp2_with (go_at_call 59; refine (useSet_any _ _).mono ?_; rintro e w' ⟨rfl, hw⟩; rw [hw, h8z])
  go_loopg [9, 10] s.size (fun g _ _ wx => ∃ i : Nat, s.size ≤ i + g ∧ wx.heap[w.heap.size]? = some (.stringIter s i) ∧ Below w.heap.size w wx)
  case atStart => exact ⟨0, by omega, by show (w.heap.push _)[w.heap.size]? = _; simp, (Below.refl _ _).alloc (Nat.le_refl _) _⟩
  case round =>
    obtain ⟨i, hig, hit, hb⟩ := hrel
    have hbs := hb.size
    by_cases hi : i < s.size
    · obtain ⟨g, rfl⟩ : ∃ g, gk = g + 1 := ⟨gk - 1, by omega⟩
      obtain ⟨x, hx⟩ : ∃ x : UInt8, s[i]'hi = x := ⟨_, rfl⟩
      by_cases ha : x.toNat < 128
      · have hnx := fun ty => Lib.run_next_ascii_at (P := Tryd.prog) _ _ s i ty hit hi (by rw [hx]; exact ha)
        rw [hx] at hnx
        have hit2 := Lib.iterAt_heap _ _ s i (i + 1) hit
        have hb2 := below_iterAt (s := s) (p := i + 1) hb (Nat.le_refl _)
        clear hit hb hx
        have hge := Lib.indexByte_ge digitL x
        by_cases hr : 0 ≤ Lib.indexByte digitL x
        · go_wp2_with fail
          (with_reducible refine (byte_any x _ ha).mono ?_)
          rintro _ _ ⟨rfl, y, rfl⟩
          generalize Lib.indexByte digitL x = r at *
          go_wp2
          go_ret
          exact ⟨i, rfl, ⟨by omega, .inl (by omega)⟩, ⟨y.w, hb2.trans (y.below.mono hb2.size)⟩, rfl⟩
        · go_wp2_with fail
          (with_reducible refine (byte_any x _ ha).mono ?_)
          rintro _ _ ⟨rfl, y, rfl⟩
          generalize Lib.indexByte digitL x = r at *
          have hr' : decide (0 ≤ r) = false := decide_eq_false (by omega)
          go_wp2
          go_roundg g
          case measure => omega
          case rel => exact ⟨i + 1, by omega, bel_heap y hit2, hb2.trans (y.below.mono hb2.size)⟩
      · have hnx := fun ty => Lib.run_next_any_at (P := Tryd.prog) _ _ s i ty hit hi
        obtain ⟨c1, c2⟩ := decode_high s i hi (by rw [hx]; omega)
        have c3 := decode_le s i
        generalize (Utf8.decode s i).1 = c at *
        generalize (Utf8.decode s i).2 = d at *
        have hit2 := Lib.iterAt_heap _ _ s i (i + d) hit
        have hb2 := below_iterAt (s := s) (p := i + d) hb (Nat.le_refl _)
        clear hit hb hx
        go_wp2_with fail
        (with_reducible refine (rune_any c _ (by omega) (by omega)).mono ?_)
        rintro _ _ ⟨rfl, y, rfl⟩
        go_wp2
        go_roundg g
        case measure => omega
        case rel => exact ⟨i + d, by omega, bel_heap y hit2, hb2.trans (y.below.mono hb2.size)⟩
    · have hnx := fun ty => Lib.run_next_end_at (P := Tryd.prog) _ _ s i ty hit hi
      go_wp2
      go_ret
      exact ⟨-1, rfl, ⟨by omega, by omega⟩, ⟨_, hb⟩, rfl⟩

/-- IndexAny of the digits at every text. -/
theorem ix_all (l : List UInt8) (hl : l.length ≤ 140737488355328) : IxC l := by
  by_cases ha : ∀ b ∈ l, b.toNat < 128
  · by_cases h8 : 8 < l.length
    · intro w
      refine (ix_set ⟨l.toArray⟩ w (by show 8 < l.toArray.size; simpa using h8) (by show l.toArray.size ≤ _; simpa using hl)).mono fun e w' ⟨he, y, hy⟩ => ⟨_, he, fun h0 => ?_, fun h0 => by rw [h0] at h8; simp at h8, y, hy⟩
      rcases idx_ascii (s := l) with h | h
      · exact h
      · exact absurd h h0
    · exact ix_ascii l (by omega) ha
  · obtain ⟨b, hb, hb1⟩ : ∃ b ∈ l, 128 ≤ b.toNat := by
      refine Classical.byContradiction fun hn => ha fun b hb => Nat.lt_of_not_le fun h => hn ⟨b, hb, h⟩
    have hno : ∀ n, n < 128 → nameL n = l → False := fun n hn he => by
      have h1 := name_ascii ⟨n, hn⟩
      rw [List.all_eq_true] at h1
      have h2 := h1 b (by rw [he]; exact hb)
      rw [decide_eq_true_iff] at h2
      omega
    have hne : l ≠ [] := fun h => by rw [h] at hb; cases hb
    have hpos := List.length_pos_iff.2 hne
    intro w
    by_cases h8 : 8 < l.length
    · refine (ix_set ⟨l.toArray⟩ w (by show 8 < l.toArray.size; simpa using h8) (by show l.toArray.size ≤ _; simpa using hl)).mono fun e w' ⟨he, y, hy⟩ => ⟨_, he, fun h0 => ?_, fun h0 => absurd h0 hne, y, hy⟩
      rcases idx_ascii (s := l) with h | h
      · exact h
      · exact absurd h h0
    · refine (ix_small ⟨l.toArray⟩ w (by show l.toArray.size ≤ 8; simp; omega)).mono fun e w' ⟨r, he, ⟨h1, h2⟩, y, hy⟩ => ⟨r, he, fun _ => ⟨h1, ?_, fun n hn he => (hno n hn he).elim⟩, fun h0 => absurd h0 hne, y, hy⟩
      have hsz : (ByteArray.mk l.toArray).size = l.length := by show l.toArray.size = _; simp
      rw [hsz] at h2
      omega
end Go.Proofs.YtjojdkdpdlmahaaDoor
