/- The library's builder of texts, and FormatUint. FormatUint. The text of a magnitude. -/
import Derived.Test.YtehgeoipbgpocaaGreatDoorProg
import Derived.Test.YtehgeoipbgpocaaGreatDoorShelf
import Derived.Sort.Grow
import Derived.Lib.OthersKept
import Derived.Lib.OwnKind
import Derived.Shelf.Strconv.Itoa3
import Derived.Test.YtehgeoipbgpocaaGreatDoorIn1
namespace Go.Proofs.YtehgeoipbgpocaaGreatDoor.I
set_option linter.unusedVariables false
set_option linter.unusedSimpArgs false
open Go.RowKit Go.Shelf
attribute [local go_sem low] Bel.cell Bel.frozen alloc_cell alloc_frozen

theorem bSize : (Tryz.prog.info? 336).map (·.size) = some 2 := by kernel_rfl
theorem bLies : liesAt Tryz.prog Tryz.prog.depth 336 (2 / Tryz.prog.cellsOf 336) 0 336 1 = true := by kernel_rfl
theorem bByte : (Tryz.prog.info? 5).map (fun i => (i.zero, i.size, i.bytes)) = some (some (.int .u8 0), 1, 1) := by kernel_rfl
set_option maxRecDepth 1000000 in
set_option maxHeartbeats 1000000 in
theorem copyUsed (b : Nat) (w : World) (h0 : w.cell? ⟨b, 0, none⟩ = some (.pointer (some ⟨b, 0, none⟩))) :
    Calls Tryz.prog 265 #[.pointer (some ⟨b, 0, none⟩)] w fun e w' => e = .returned (.tuple #[]) ∧ w' = w := by
  obtain ⟨j, hj, _⟩ := Option.map_eq_some_iff.1 bSize
  go_enter Tryz.func265, Tryz.ntmps265
  go_wp2
  rw [Lib.run_neq_ptr_same w _ Tryz.underlying334 hj]
  go_wp2
  go_end0
  exact ⟨rfl, rfl⟩
set_option maxRecDepth 1000000 in
set_option maxHeartbeats 1000000 in
theorem copyFresh (b : Nat) (w : World) (h0 : w.cell? ⟨b, 0, none⟩ = some (.pointer none)) (hsh : w.shape? b = some (336, 2)) (hfz : w.frozen? ⟨b, 0, none⟩ = false) :
    Calls Tryz.prog 265 #[.pointer (some ⟨b, 0, none⟩)] w fun e w' => e = .returned (.tuple #[]) ∧ w' = w.setCell ⟨b, 0, none⟩ (.pointer (some ⟨b, 0, none⟩)) := by
  obtain ⟨j, hj, hjs⟩ := Option.map_eq_some_iff.1 bSize
  go_enter Tryz.func265, Tryz.ntmps265
  go_wp2
  rw [Lib.run_to_unsafe w ⟨b, 0, none⟩ Tryz.underlying334 Tryz.underlying414 hj (by rw [hjs]; decide) hsh (Nat.zero_lt_succ 1)]
  simp only [Result.andThen]
  rw [Oper.upon_value]
  go_wp2
  rw [run_callFunc_extern Tryz.func292 (by kernel_rfl) (by kernel_rfl) (by kernel_rfl) (e := Extern.AbiNoEscape.same) (by kernel_rfl)]
  rw [Lib.run_noEscape]
  simp only [Result.andThen]
  rw [Oper.upon_value]
  go_wp2
  rw [Lib.run_from_unsafe w ⟨b, 0, none⟩ Tryz.underlying414 Tryz.underlying334 hj hsh bLies]
  simp only [Result.andThen]
  rw [Oper.upon_value]
  go_wp2
  go_end0
  exact ⟨rfl, rfl⟩
abbrev IsB (B b : Nat) (l : List UInt8) (w : World) : Prop := Lib.IsBuilder 336 5 B b (Lib.byteCells l) w
theorem copyCheck_any (B b : Nat) (bs : List Value) (w : World) (h : Lib.IsBuilder 336 5 B b bs w) :
    Calls Tryz.prog 265 #[.pointer (some ⟨b, 0, none⟩)] w fun e w' => e = .returned (.tuple #[]) ∧ (Lib.BuilderAt 336 5 B b (.pointer (some ⟨b, 0, none⟩)) bs w' ∧ Below B w w' ∧ Lib.OthersKept 5 (some b) w w') := by
  rcases h with h | h
  · refine (copyFresh b w h.cell0 h.shape h.frozen0).mono ?_
    rintro e w' ⟨rfl, rfl⟩
    exact ⟨rfl, h.used _, (Below.refl B w).setCell (p := ⟨b, 0, none⟩) h.1 _, (Lib.OthersKept.refl _ _ w).setCell ⟨b, 0, none⟩ rfl _⟩
  · refine (copyUsed b w h.cell0).mono ?_
    rintro e w' ⟨rfl, rfl⟩
    exact ⟨rfl, h, Below.refl B _, Lib.OthersKept.refl _ _ _⟩
set_option maxRecDepth 1000000 in
set_option maxHeartbeats 2000000 in
theorem writeB_any (B b : Nat) (l s : List UInt8) (w : World) (h : IsB B b l w) (hlen : l.length + s.length ≤ 140737488355328) (hBw : B ≤ w.heap.size) :
    Calls Tryz.prog 212 #[.pointer (some ⟨b, 0, none⟩), .string ⟨s.toArray⟩] w fun e w' => e = .returned (.tuple #[.int .i64 s.length, .nilIface]) ∧ IsB B b (l ++ s) w' ∧ Below B w w' ∧ Lib.OthersKept 5 (some b) w w' := by
  obtain ⟨i0, hi, hz0, hz1, hz2⟩ := info_parts bByte
  have hcl : (Lib.byteCells l).length = l.length := by simp [Lib.byteCells]
  have hsz : (ByteArray.mk s.toArray).size = s.length := by show s.toArray.size = _; simp
  go_enter Tryz.func212, Tryz.ntmps212
  go_wp2_with (go_at_call 265; refine (copyCheck_any B b _ _ h).mono ?_)
  rintro e w1 ⟨rfl, h1, hb1, hok1⟩
  obtain ⟨hB, v, hbk, hown, hne⟩ := h1
  have c0 : w1.cell? ⟨b, 0, none⟩ = some (.pointer (some ⟨b, 0, none⟩)) := by rw [Lib.cell_of_heap hbk]; rfl
  have c1 : w1.cell? ⟨b, 1, none⟩ = some v := by rw [Lib.cell_of_heap hbk]; rfl
  go_wp2_with (at_builtin; refine Lib.wpList_append_own_string _ rfl _ _ 196 9 rfl B 5 i0 Tryz.underlying196 Tryz.underlying9 hi hz0 hz1 hz2 _ _ _ rfl hown ⟨s.toArray⟩ rfl ?c3 ?c4 ?c5 ?_)
  case c3 => unfold maxLen; omega
  case c4 => omega
  case c5 => have := hb1.size; omega
  intro v' w2 hown' hgrow _
  have hlt : b < w1.heap.size := by
    rcases Nat.lt_or_ge b w1.heap.size with h' | h'
    · exact h'
    · simp [Array.getElem?_eq_none h'] at hbk
  have hb2 : w2.heap[b]? = some (.cells #[.pointer (some ⟨b, 0, none⟩), v] 336 (0, 0)) := by
    rw [hgrow.block b hlt (fun e => hne e.symm)]
    exact hbk
  have d0 : w2.cell? ⟨b, 0, none⟩ = some (.pointer (some ⟨b, 0, none⟩)) := by rw [Lib.cell_of_heap hb2]; rfl
  have d1 : w2.cell? ⟨b, 1, none⟩ = some v := by rw [Lib.cell_of_heap hb2]; rfl
  have f1 : w2.frozen? ⟨b, 1, none⟩ = false := Lib.frozen_of_heap hb2 1
  obtain ⟨ao, n', cap, rfl⟩ : ∃ ao n' cap, v' = .slice ao n' cap := by
    rcases hown'.2 with ⟨hv, _⟩ | ⟨g, cap, cur, hv, _⟩
    · exact ⟨_, _, _, hv⟩
    · exact ⟨_, _, _, hv⟩
  go_wp2
  go_ret2
  have hsc : Lib.byteCells l ++ Lib.strCells ⟨s.toArray⟩ = Lib.byteCells (l ++ s) := by simp [Lib.byteCells, Lib.strCells]
  refine ⟨rfl, .inr ?_, ?_, ?_⟩
  · have hl2 : (Lib.byteCells l ++ Lib.strCells ⟨s.toArray⟩).length = l.length + s.length := by rw [List.length_append, hcl, Lib.strCells_length, hsz]
    rw [← hsc]
    exact Lib.BuilderAt.put (T := 336) (e := 5) hB hb2 (bs' := Lib.byteCells l ++ Lib.strCells ⟨s.toArray⟩) (by rw [hl2]; exact hown') (by decide)
  · exact (hb1.grown hgrow (by have := hb1.size; omega) (fun k hk => (hown.lt k hk).1)).setCell (p := ⟨b, 1, none⟩) hB _
  · exact (hok1.grown hgrow (Lib.ownsRow_kind hown)).setCell ⟨b, 1, none⟩ rfl _
theorem readB_any (B b : Nat) (l : List UInt8) (w : World) (h : IsB B b l w) (hBw : B ≤ w.heap.size) :
    Calls Tryz.prog 214 #[.pointer (some ⟨b, 0, none⟩)] w fun e w' => e = .returned (.string ⟨l.toArray⟩) ∧ Below B w w' := Tryz.Builder_String_any B b l w h hBw
end Go.Proofs.YtehgeoipbgpocaaGreatDoor.I

namespace Go.Proofs.YtehgeoipbgpocaaGreatDoor.I
set_option linter.unusedVariables false
set_option linter.unusedSimpArgs false
open Go.RowKit Go.Shelf Go.Sort
attribute [local go_sem low] Bel.cell Bel.frozen alloc_cell alloc_frozen

/-- The library's table of powers lies in the world. -/
def Tab (w : World) : Prop := Lib.TabIs Tryz.prog w "internal/strconv.uint64pow10" .u64 Lib.pow10Tab
theorem gTab : Tryz.prog.globalNamed "internal/strconv.uint64pow10" = some 1 := by kernel_rfl
theorem Tab.of {w w' : World} (h : Tab w) (hb : Below w.heap.size w w') : Tab w' := by
  have hlt : 1 < w.heap.size := by
    have h' := h
    unfold Tab Lib.TabIs World.var? at h'
    simp only [gTab, Option.bind_some] at h'
    refine Nat.lt_of_not_le fun h0 => ?_
    rw [Array.getElem?_eq_none h0] at h'
    cases h'
  exact var?_below hb gTab hlt h
theorem below_grow (w : World) (k : Nat) (os : Array Obj) : Below w.heap.size w (Sort.grow (w.drewN k) os) :=
  ⟨rfl, rfl, rfl, by simp [Sort.grow], fun i hi => by
    show (w.heap ++ os)[i]? = _
    rw [Array.getElem?_append, if_pos hi]⟩
theorem itoa_any (n : Int) (w : World) (h0 : -9223372036854775808 ≤ n) (h1 : n ≤ 9223372036854775807) (hT : Tab w) :
    Calls Tryz.prog 204 #[.int .i64 n] w (Ret (.string ⟨(Lib.itoa n).toArray⟩) w) :=
  (Tryz.strconv_Itoa n h0 h1 w hT).mono fun _ _ ⟨he, k, os, hw⟩ => ⟨he, ⟨_, below_grow w k os⟩, hw⟩
theorem small_any (i : Nat) (h : i < 100) (w : World) : Calls Tryz.prog 288 #[.int .i64 i] w fun e w' => e = .returned (.string ⟨(Lib.decDigits i).toArray⟩) ∧ w' = w :=
  Any.internal_strconv_small { Tryz.laysM171 with } i h w
theorem numDigits_any (u : Nat) (h1 : 1 ≤ u) (h2 : u < 18446744073709551616) (w : World) (hT : Tab w) : Calls Tryz.prog 289 #[.int .u64 u] w fun e w' => e = .returned (.int .i64 (Lib.nDigits u)) ∧ w' = w :=
  Any.internal_strconv_numDigits { Tryz.laysM171 with } u h1 h2 w hT
theorem holds_zero0 (w : World) (T : TypeId) (nd : Nat) (hs : nd ≤ 24) : Holds (fun (b : UInt8) => Value.int .u8 (b.toNat : Int)) (w.alloc (.cells Lib.zeros24 T)) w.heap.size 0 (Array.replicate nd (0 : UInt8)) := fun j hj => by
  have hj' : j < nd := by simpa using hj
  refine ⟨?_, World.frozen?_alloc_new _ _ _ _⟩
  rw [World.cell?_alloc_new, Lib.zeros24_at _ (by omega), getElem!_pos _ j hj]
  simp
theorem fin_at (w : World) (o : Obj) (dk : Array UInt8) (k : Nat) : ∃ os, (putRow (fun (b : UInt8) => Value.int .u8 (b.toNat : Int)) (w.alloc o) w.heap.size 0 dk).drewN k = grow (w.drewN k) os := by
  rw [Sort.alloc_eq_grow]
  obtain ⟨os', _, e⟩ := putRow_grow_new (fun (b : UInt8) => Value.int .u8 (b.toNat : Int)) w #[o] w.heap.size 0 dk (Nat.le_refl _)
  exact ⟨os', by rw [e]; rfl⟩
set_option maxRecDepth 100000 in
set_option maxHeartbeats 6400000 in
theorem fmtIn_any (u : Nat) (w : World) (hu64 : u < 18446744073709551616) (hT : Tab w) : Calls Tryz.prog 264 #[.int .u64 (u : Int), .int .i64 10] w (Ret (.string ⟨(Lib.decDigits u).toArray⟩) w) := by
  by_cases hs : u < 100
  · have hs' : (u : Int) < 100 := by omega
    have hw : IntKind.i64.wrap (u : Int) = (u : Int) := IntWalk.i64_in _ (by omega)
    go_enter Tryz.func264, Tryz.ntmps264
    go_wp2_with (go_at_call 288; refine (small_any u hs _).mono ?_; rintro e w' ⟨rfl, rfl⟩)
    go_ret
    exact Ret.mk (by rfl) (by (repeat' (first | (with_reducible first | apply Zl1 | apply Zl2 | apply Zl3 | apply Zl4 | apply Zl5 | apply Zl6 | apply Zl7 | apply Zl8 | apply Zl9 | apply Zla | apply Zlb | apply Zlc) | (dsimp only; with_reducible first | apply Zl8 | apply Zl2 | apply Zld) | with_reducible assumption | omega | (dsimp only; omega))))
  · have hs' : decide ((u : Int) < 100) = false := decide_eq_false (by omega)
    have hu1 : 1 ≤ u := by omega
    have hnd20 : Lib.nDigits u ≤ 20 := by have := Lib.numDigits_eq u hu1 hu64; split at this <;> omega
    have hal : Tryz.prog.arrayLen 410 = 24 := by kernel_rfl
    have hsl : ∀ W, (Instr.sliceAt 410 (.pointer (some ⟨w.heap.size, 0, none⟩)) none (some (.int .i64 (Lib.nDigits u : Int))) none).run Tryz.prog W = .ok (.slice (some ⟨w.heap.size, 0, none⟩) (Lib.nDigits u) 24) W := fun W => by
      rw [run_sliceAt_array_h W 410 ⟨w.heap.size, 0, none⟩ (by kernel_rfl) .i64 (Lib.nDigits u : Int) (by omega) (by rw [hal]; omega)]
      go_simp
    have hH0 := holds_zero0 w 410 (Lib.nDigits u) (by omega)
    have hfmt := Any.internal_strconv_formatBase10 { Tryz.laysM171 with } w.heap.size 0 24 u (Array.replicate (Lib.nDigits u) 0) (w.alloc (.cells Lib.zeros24 410)) hH0 (by rw [Array.size_replicate]; exact Lib.lt_pow_nDigits u) hu64 (by rw [Array.size_replicate]; omega)
    rw [Array.size_replicate] at hfmt
    have HH0 := Lib.hid hH0
    clear hH0 hal
    go_enter Tryz.func264, Tryz.ntmps264
    go_wp2_with (first
      | (go_at_call 289; refine (numDigits_any u hu1 hu64 _ (Lib.tabIs_alloc hT _)).mono ?_; rintro e w' ⟨rfl, rfl⟩))
    go_at_call 290
    refine hfmt.mono ?_
    rintro e w' ⟨rfl, k, v', dk, rfl, hF⟩
    have hcv : (convert 196 9 (.slice (some ⟨w.heap.size, 0, none⟩) (Lib.nDigits u) 24)).run Tryz.prog ((putRow (fun (b : UInt8) => Value.int .u8 (b.toNat : Int)) (w.alloc (.cells Lib.zeros24 410)) w.heap.size 0 dk).drewN k) = .ok (.string ⟨(Lib.decDigits u).toArray⟩) ((putRow (fun (b : UInt8) => Value.int .u8 (b.toNat : Int)) (w.alloc (.cells Lib.zeros24 410)) w.heap.size 0 dk).drewN k) := by
      have h := run_convert_bytes_back (P := Tryz.prog) ((putRow (fun (b : UInt8) => Value.int .u8 (b.toNat : Int)) (w.alloc (.cells Lib.zeros24 410)) w.heap.size 0 dk).drewN k) 196 9 5 ⟨w.heap.size, 0, none⟩ 24 (Lib.decDigits u) Tryz.underlying196 Tryz.underlying5 Tryz.underlying9 (fun j hj => by
        rw [Lib.row_is_numeral hF j hj, Lib.add_plain, World.cell?_drewN]
        exact cell?_putRow (fun (b : UInt8) => Value.int .u8 (b.toNat : Int)) _ w.heap.size 0 _ dk HH0.out (by rw [hF.size, Array.size_replicate]) j (by rw [hF.size]; rw [Lib.decDigits_length] at hj; exact hj))
      rw [Lib.decDigits_length] at h
      exact h
    go_wp2
    go_ret
    obtain ⟨os, eo⟩ := fin_at w (.cells Lib.zeros24 410) dk k
    exact ⟨rfl, ⟨_, below_grow w k os⟩, eo⟩
theorem fmt_any (u : Nat) (w : World) (hu64 : u < 18446744073709551616) (hT : Tab w) : Calls Tryz.prog 211 #[.int .u64 (u : Int), .int .i64 10] w (Ret (.string ⟨(Lib.decDigits u).toArray⟩) w) := by
  have H := Lib.hid (fmtIn_any u w hu64 hT)
  go_enter Tryz.func211, Tryz.ntmps211
  go_wp2_with fail
  (with_reducible refine H.out.mono ?_)
  rintro _ _ ⟨rfl, y, rfl⟩
  go_wp2
  go_ret
  exact Ret.mk (by rfl) (by (repeat' (first | (with_reducible first | apply Zl1 | apply Zl2 | apply Zl3 | apply Zl4 | apply Zl5 | apply Zl6 | apply Zl7 | apply Zl8 | apply Zl9 | apply Zla | apply Zlb | apply Zlc) | (dsimp only; with_reducible first | apply Zl8 | apply Zl2 | apply Zld) | with_reducible assumption | omega | (dsimp only; omega))))
end Go.Proofs.YtehgeoipbgpocaaGreatDoor.I

namespace Go.Proofs.YtehgeoipbgpocaaGreatDoor.I
set_option linter.unusedVariables false
set_option linter.unusedSimpArgs false
open Go.RowKit Go.Shelf
attribute [local go_sem low] Bel.cell Bel.frozen alloc_cell alloc_frozen
attribute [local go_sem] Oper.semAt_some

/-- An index and a limb. -/
abbrev Lb := { p : Nat × Nat // p.1 ≤ 100000 ∧ p.2 < 1000000000 }
def encLb (x : Lb) : Array Value := #[.int .i64 (x.val.1 : Int), .int .u64 (x.val.2 : Int)]
/-- What a round keeps that the iterator reads. -/
def KpB (n₀ Bn : Nat) (W W' : World) : Prop := Below n₀ W W' ∧ W'.cell? ⟨Bn, 0, none⟩ = W.cell? ⟨Bn, 0, none⟩
/-- The limbs lie below n₀. -/
def LimbsB (n₀ : Nat) (w : World) (a : Option Addr) (l : List Nat) : Prop := 0 < l.length → ∃ b off, a = some ⟨b, off, none⟩ ∧ b < n₀ ∧ ∀ (j x : Nat), l[j]? = some x → w.cell? ⟨b, off + j, none⟩ = some (.int .u64 (x : Int))
theorem limbsB_of {n₀ : Nat} {w w' : World} {a : Option Addr} {l : List Nat} (h : LimbsB n₀ w a l) (hb : Below n₀ w w') : LimbsB n₀ w' a l := fun h0 => by
  obtain ⟨b, off, ha, hlt, hc⟩ := h h0
  exact ⟨b, off, ha, hlt, fun j x hj => by rw [hb.cell (p := ⟨b, off + j, none⟩) hlt]; exact hc j x hj⟩
theorem limbsB_mk {w : World} {a : Option Addr} {l : List Nat} (h : Limbs w a l) : LimbsB w.heap.size w a l := fun h0 => by
  obtain ⟨b, off, ha, hc⟩ := h h0
  refine ⟨b, off, ha, ?_, hc⟩
  obtain ⟨x, hx⟩ : ∃ x, l[0]? = some x := ⟨_, List.getElem?_eq_getElem h0⟩
  exact World.block_lt_of_cell? w _ (hc 0 x hx)
set_option maxRecDepth 100000 in
set_option maxHeartbeats 4000000 in
theorem back1_in (n : Nat) (hn : 1 ≤ n) (l Bn n₀ : Nat) (a : Option Addr) (cap : Nat) (L : List Nat) (hLl : L.length ≤ 10000) (hL9 : ∀ x ∈ L, x < 1000000000) (J Jx : List Lb → World → Prop)
    (hY : ∀ pre x W, J pre W → pre.length < L.length → YieldAt Fence.wide (n - 1) Tryz.prog l (encLb x) W fun e W' =>
      (e = .returned (.bool true) ∧ J (pre ++ [x]) W' ∧ KpB n₀ Bn W W') ∨ (e = .returned (.bool false) ∧ Jx (pre ++ [x]) W'))
    (W : World) (hc0 : W.cell? ⟨Bn, 0, none⟩ = some (.slice a L.length cap)) (hL : LimbsB n₀ W a L) (h0 : J [] W) :
    CallsIn Fence.wide n Tryz.prog 263 #[.func (.yield l) #[] #[], .pointer (some ⟨Bn, 0, none⟩)] W fun e W' => (∃ v, e = .returned v) ∧
      ((∃ ys : List Lb, ys.map (·.val) = bkL L L.length ∧ J ys W') ∨ (∃ pre : List Lb, True ∧ Jx pre W')) := by
  have t1 : IntKind.i64.wrap ((L.length : Int) - 1) = (L.length : Int) - 1 := IntWalk.i64_in _ (by omega)
  refine callsIn_wide.2 ?_
  go_enter Tryz.func263, Tryz.ntmps263
  go_wp2
  refine (wpIn_wide (n := n)).1 ?_
  gi_loopw [3] (fun p wr => ∃ (k : Nat) (pre : List Lb), p = .int .i64 ((k : Int) - 1) ∧ k ≤ L.length ∧ pre.map (·.val) ++ bkL L k = bkL L L.length ∧ pre.length + k = L.length ∧ J pre wr ∧ wr.cell? ⟨Bn, 0, none⟩ = some (.slice a L.length cap) ∧ LimbsB n₀ wr a L) (fun p _ => (intOf p + 1).toNat)
  case atStart => exact ⟨L.length, [], rfl, by omega, rfl, by simp, h0, hc0, hL⟩
  case round =>
    clear t1
    obtain ⟨k, pre, rfl, hk, hpre, hpl, hJs, hc, hl⟩ := hrel
    by_cases hk0 : k = 0
    · subst hk0
      have HP := Lib.hid hpre
      clear hpre
      gi_wp2
      go_end0
      exact ⟨⟨_, rfl⟩, .inl ⟨pre, by rw [← HP.out, bkL, List.append_nil], hJs⟩⟩
    · obtain ⟨j, rfl⟩ : ∃ j, k = j + 1 := ⟨k - 1, by omega⟩
      obtain ⟨b, off, rfl, hb0, hcc⟩ := hl (by omega)
      obtain ⟨x, hx⟩ : ∃ x, L[j]? = some x := ⟨_, List.getElem?_eq_getElem (by omega)⟩
      have hx9 := hL9 x (List.mem_of_getElem? hx)
      have hg : L.getD j 0 = x := by rw [List.getD_eq_getElem?_getD, hx]; rfl
      have hc1 := hcc j x hx
      obtain ⟨fn, tmps, assign, body, hy, hR⟩ := hY pre ⟨(j, x), by dsimp only; omega, hx9⟩ wr hJs (by omega)
      dsimp only [encLb] at hy
      have HP := Lib.hid (show (pre ++ [(⟨(j, x), by dsimp only; omega, hx9⟩ : Lb)]).map (·.val) ++ bkL L j = bkL L L.length by rw [← hpre, List.map_append, bkL, hg]; simp)
      have t3 : ((j + 1 : Nat) : Int) - 1 = (j : Int) := by omega
      have t2 : IntKind.i64.wrap ((j : Int) - 1) = (j : Int) - 1 := IntWalk.i64_in _ (by omega)
      have hjl : (j : Int) < (L.length : Int) := by omega
      have HL := Lib.hid (show LimbsB n₀ wr (some ⟨b, off, none⟩) L from fun _ => ⟨b, off, rfl, hb0, hcc⟩)
      rw [t3]
      clear hpre hcc hl hg hx t3
      gi_wp2
      refine hR.mono ?_
      rintro e W3 (⟨rfl, hJ3, hk3, hk4⟩ | ⟨rfl, hJx3⟩)
      · have hc3 := hk4.trans hc
        gi_wp2
        go_roundw
        case rel => exact ⟨j, pre ++ [_], rfl, by omega, HP.out, by simp; omega, hJ3, hc3, limbsB_of HL.out hk3⟩
        case measure => simp [intOf] <;> omega
      · gi_wp2
        refine bodyPost_ret (results_none rfl _ _ _) rfl ?_
        exact ⟨⟨_, rfl⟩, .inr ⟨pre ++ [_], trivial, hJx3⟩⟩
theorem back_stops (n : Nat) (hn : 1 ≤ n) (Bn n₀ : Nat) (a : Option Addr) (cap : Nat) (L : List Nat) (w : World) (hLl : L.length ≤ 10000) (hL9 : ∀ x ∈ L, x < 1000000000) (hBn : Bn < w.heap.size) (hn0 : n₀ ≤ w.heap.size)
    (hc0 : w.cell? ⟨Bn, 0, none⟩ = some (.slice a L.length cap)) (hL : LimbsB n₀ w a L) :
    SeqStopsK Fence.wide n Tryz.prog 263 #[.pointer (some ⟨Bn, 0, none⟩)] encLb (KpB n₀ Bn) (fun ys : List Lb => ys.map (·.val) = bkL L L.length) (fun _ => True) L.length w := fun l J Jx W hW hJ _ hY h0 =>
  back1_in n hn l Bn n₀ a cap L hLl hL9 J Jx hY W ((hW.cell (p := ⟨Bn, 0, none⟩) hBn).trans hc0) (limbsB_of hL (hW.mono hn0)) h0
theorem backF_any (v : Value) (hv : ∃ a n c, v = .slice a n c) (w : World) : Calls Tryz.prog 210 #[v] w fun e w' => e = .returned (.func (.func 263) #[] #[.pointer (some ⟨w.heap.size, 0, none⟩)]) ∧ w' = w.alloc (.cells #[v] 260) := by
  obtain ⟨a, n, c, rfl⟩ := hv
  go_enter Tryz.func210, Tryz.ntmps210
  go_wp2
  go_ret
  exact ⟨rfl, rfl⟩
theorem isB_kept {A B : World} {k b : Nat} {l : List UInt8} {row : Option Nat} (h : IsB k b l A) (hg : A.grownBy B row) (hr : ∀ r, row = some r → ∃ o : Obj, A.heap[r]? = some o ∧ o.isCells = false) : IsB k b l B := by
  have one : ∀ p, Lib.BuilderAt 336 5 k b p (Lib.byteCells l) A → Lib.BuilderAt 336 5 k b p (Lib.byteCells l) B := fun p ⟨h1, v, h2, h3, h4⟩ => by
    refine ⟨h1, v, (grownBy_keeps_cells hg hr h2 rfl).trans h2, World.ownsRow.kept h3 hg ?_, h4⟩
    cases hv : v.ownBlock with
    | none => exact .inl rfl
    | some g =>
      right
      intro e
      obtain ⟨o, ho, hoc⟩ := hr g e.symm
      obtain ⟨c, fz, hc⟩ := Lib.ownsRow_kind h3 g hv
      rw [hc] at ho
      cases ho
      cases hoc
  rcases h with h | h
  · exact .inl (one _ h)
  · exact .inr (one _ h)
theorem isB_new (w : World) (k : Nat) (hk : k ≤ w.heap.size) : IsB k w.heap.size [] (w.alloc (.cells #[.pointer none, .slice none 0 0] 336)) := by
  refine .inl ⟨hk, .slice none 0 0, ?_, World.ownsRow_nil _ _ _ _, by simp [Value.ownBlock]⟩
  show (w.heap.push _)[w.heap.size]? = _
  simp
theorem others_of {b : Nat} {w w' : World} (h : Lib.OthersKept 5 (some b) w w') (hs : w.heap.size ≤ w'.heap.size) {k : Nat} {l : List UInt8} (hb : IsB k b l w) : KeepsOthers w w' := by
  refine ⟨hs, fun i o hi ho => h i o hi ?_ ?_⟩
  · intro e
    obtain ⟨v, hv⟩ : ∃ cs, w.heap[b]? = some (.cells cs 336 (0, 0)) := by
      rcases hb with ⟨_, v, h2, _⟩ | ⟨_, v, h2, _⟩
      · exact ⟨_, h2⟩
      · exact ⟨_, h2⟩
    cases e
    rw [hv] at hi
    cases hi
    cases ho
  · intro c fz e
    rw [e] at ho
    cases ho
/-- The slice lies in the block. -/
def HasM (v : Value) (i : Nat) (W : World) : Prop := W.heap[i]? = some (.cells #[v] 260 (0, 0))
theorem HasM.cell {v : Value} {i : Nat} {W : World} (h : HasM v i W) : W.cell? ⟨i, 0, none⟩ = some v := by rw [Lib.cell_of_heap h]; rfl
theorem HasM.kept {v : Value} {i : Nat} {A B : World} {row : Option Nat} (h : HasM v i A) (hg : A.grownBy B row) (hr : ∀ r, row = some r → ∃ o : Obj, A.heap[r]? = some o ∧ o.isCells = false) : HasM v i B := (grownBy_keeps_cells hg hr h rfl).trans h
theorem HasM.others {v : Value} {i b : Nat} {A B : World} (h : HasM v i A) (hk : Lib.OthersKept 5 (some b) A B) (hi : i ≠ b) : HasM v i B :=
  hk i _ h (fun e => hi (Option.some.inj e)) (fun c fz e => by cases e)
theorem hasM_new (v : Value) (w : World) : HasM v w.heap.size (w.alloc (.cells #[v] 260)) := by
  show (w.heap.push _)[w.heap.size]? = _
  simp
theorem HasM.alloc {v : Value} {i : Nat} {w : World} (h : HasM v i w) (o : Obj) : HasM v i (w.alloc o) := h.kept (World.grownBy_alloc w o none) (fun r e => by cases e)
theorem repeat_any (c : Nat) (hc : c ≤ 1000) (rp : List UInt8) (hrp : rp = List.replicate c 48) (w : World) : Calls Tryz.prog 213 #[.string ⟨#[48]⟩, .int .i64 (c : Int)] w (Ret (.string ⟨rp.toArray⟩) w) := by
  subst hrp
  refine (Tryz.strings_Repeat ⟨#[48]⟩ c w (by omega) (by show 1 * c ≤ _; omega)).mono fun e w' ⟨he, hb⟩ => ⟨?_, ⟨w', hb⟩, rfl⟩
  rw [he]
  have : ∀ k : Nat, Lib.repeatL [(48 : UInt8)] k = List.replicate k 48 := fun k => by
    induction k with
    | zero => rfl
    | succ k ih => rw [show Lib.repeatL [(48 : UInt8)] (k + 1) = [48] ++ Lib.repeatL [48] k from rfl, ih]; rfl
  have h2 := this c
  show _ = Ending.returned (.string ⟨(List.replicate c 48).toArray⟩)
  rw [← h2]
theorem freeze_le (w : World) (a : Addr) (n : Nat) : w.heap.size ≤ (w.drew.freeze a n).heap.size := by
  unfold World.freeze
  split
  · exact Nat.le_refl _
  · exact Nat.le_of_eq Array.size_modify.symm
theorem bCells : Tryz.prog.cellsOf 5 = 1 := by kernel_rfl
set_option maxHeartbeats 2000000 in
set_option maxRecDepth 100000 in
theorem readB1_any (B b : Nat) (l : List UInt8) (w : World) (h : IsB B b l w) (h0 : l ≠ []) :
    Calls Tryz.prog 214 #[.pointer (some ⟨b, 0, none⟩)] w fun e w' => e = .returned (.string ⟨l.toArray⟩) ∧ Below B w w' ∧ Lib.OthersKept 5 (some b) w w' ∧ w.heap.size ≤ w'.heap.size := by
  obtain ⟨p, hB, v, hbk, hown, hne⟩ : ∃ p, Lib.BuilderAt 336 5 B b p (Lib.byteCells l) w := by
    rcases h with h | h
    · exact ⟨_, h⟩
    · exact ⟨_, h⟩
  have hl0 : l.length ≠ 0 := by simpa using h0
  rw [Lib.byteCells_length] at hown
  obtain ⟨g, cap, cur, rfl, hbg, hg, hnc, hcm, hcs, htake⟩ : ∃ g cap cur, v = .slice (some ⟨g, 0, none⟩) l.length cap ∧ B ≤ g ∧ w.heap[g]? = some (.cells cur 5 (0, 0)) ∧ l.length ≤ cap ∧ cap ≤ maxLen ∧ cur.size = cap * 1 ∧ cur.toList.take (l.length * 1) = Lib.byteCells l := by
    rcases hown.2 with ⟨_, hz⟩ | ⟨g, cap, cur, hv, r⟩
    · exact absurd hz hl0
    · exact ⟨g, cap, cur, hv, r⟩
  have c1 : w.drew.cell? ⟨b, 1, none⟩ = some (.slice (some ⟨g, 0, none⟩) l.length cap) := by
    have : w.drew.heap[b]? = some (.cells #[p, .slice (some ⟨g, 0, none⟩) l.length cap] 336 (0, 0)) := hbk
    rw [Lib.cell_of_heap this]; rfl
  have hSD : (Builtin.unsafeSliceData_ #[196] 394 #[.slice (some ⟨g, 0, none⟩) l.length cap]).run Tryz.prog w.drew = .ok (.pointer (some ⟨g, 0, none⟩)) w.drew :=
    Lib.run_unsafeSliceData_row _ _ _ _ _ _ (by omega)
  have hUS : (Builtin.unsafeString_ #[394, 3] 9 #[.pointer (some ⟨g, 0, none⟩), .int .i64 l.length]).run Tryz.prog w.drew = .ok (.string ⟨l.toArray⟩) (w.drew.freeze ⟨g, 0, none⟩ l.length) := by
    refine Lib.run_unsafeString_row w.drew 394 3 9 5 Tryz.underlying394 bCells g cur.size (by have hg' : w.drew.heap[g]? = some (.cells cur 5 (0, 0)) := hg; simp [World.shape?, hg']) l h0 (by omega) (by unfold maxLen at hcm; omega) ?_
    intro j x hx
    have := hown.cells (g := g) rfl j (.int .u8 x.toNat) (by simp [Lib.byteCells, hx])
    exact this
  have mixed : Tryz.prog.follows Departure.mixedOrders = true := by kernel_rfl
  go_enter Tryz.func214, Tryz.ntmps214
  go_wp2
  go_region_o
  all_goals (go_wp2; go_ret; exact ⟨rfl, Lib.below_freeze (Below.drew (Below.refl B w)) (p := ⟨g, 0, none⟩) hbg _, (Lib.OthersKept.refl _ _ w).drew.freeze ⟨g, 0, none⟩ l.length ⟨_, _, hg⟩, freeze_le w _ _⟩)
set_option maxRecDepth 100000 in
set_option maxHeartbeats 4000000 in
theorem text_any (a : Option Addr) (cap n : Nat) (w : World) (hL : Limbs w a (lim n)) (hl : (lim n).length ≤ 10000) (hT : Tab w) :
    Calls Tryz.prog 151 #[.slice a (lim n).length cap] w (Ret (.string ⟨(Lib.decDigits n).toArray⟩) w) := by
  by_cases hn : n = 0
  · subst hn
    have h0 : lim 0 = [] := limbs_zero _
    rw [h0]
    have h48 : Lib.decDigits 0 = [48] := by rw [dec_small (by decide)]; rfl
    go_enter Tryz.func151, Tryz.ntmps151
    go_wp2
    go_ret
    exact Ret.mk (by rw [h48]; rfl) (by (repeat' (first | (with_reducible first | apply Zl1 | apply Zl2 | apply Zl3 | apply Zl4 | apply Zl5 | apply Zl6 | apply Zl7 | apply Zl8 | apply Zl9 | apply Zla | apply Zlb | apply Zlc) | (dsimp only; with_reducible first | apply Zl8 | apply Zl2 | apply Zld) | with_reducible assumption | omega | (dsimp only; omega))))
  · have hlen0 : (lim n).length ≠ 0 := fun h => hn ((limbs_nil (by decide)).1 (List.length_eq_zero_iff.1 h))
    have hne : (((lim n).length : Int) == 0) = false := beq_eq_false_iff_ne.2 (by omega)
    have HTX := Lib.hid (txt_all n hn)
    have hL9 := lim_lt n
    generalize lim n = L at *
    have t1 : IntKind.i64.wrap ((L.length : Int) - 1) = (L.length : Int) - 1 := IntWalk.i64_in _ (by omega)
    refine (callsIn_wide (n := 3)).1 ?_
    refine callsIn_of_wp_marks Tryz.func151 rfl trivial ?_ rfl
    simp only [Tryz.ntmps151, List.size_toArray, List.length_cons, List.length_nil, Nat.reduceAdd, Nat.reduceSub, Array.replicate_succ, Array.replicate_zero, List.push_toArray, List.append_toArray, List.nil_append, List.cons_append]
    gi_wp2_with (refine ⟨trivial, ?_⟩; gi_at_call 210; refine (callsIn_wide.2 (backF_any _ ⟨_, _, _, rfl⟩ _)).mono ?_; rintro _ _ ⟨rfl, rfl⟩)
    have ib0 : IsB (w.heap.size + 1) (w.heap.size + 1) [] ((w.alloc (.cells #[.slice a L.length cap] 260)).alloc (.cells #[.pointer none, .slice none 0 0] 336)) := by
      have := isB_new (w.alloc (.cells #[.slice a L.length cap] 260)) (w.heap.size + 1) (by simp)
      simpa using this
    have ib1 := isB_kept ib0 (World.grownBy_alloc _ (.cells #[.slice a L.length cap] 260) none) (fun r e => by cases e)
    have hB0 : Below w.heap.size w (((w.alloc (.cells #[.slice a L.length cap] 260)).alloc (.cells #[.pointer none, .slice none 0 0] 336)).alloc (.cells #[.slice a L.length cap] 260)) := by (repeat' (first | (with_reducible first | apply Zl1 | apply Zl2 | apply Zl3 | apply Zl4 | apply Zl5 | apply Zl6 | apply Zl7 | apply Zl8 | apply Zl9 | apply Zla | apply Zlb | apply Zlc) | (dsimp only; with_reducible first | apply Zl8 | apply Zl2 | apply Zld) | with_reducible assumption | omega | (dsimp only; omega)))
    refine wpIn_rangeFunc_ownG rfl (by omega : 1 ≤ 3) (gf := 263) (lb := #[.pointer (some ⟨w.heap.size + 1 + 1, 0, none⟩)]) rfl trivial (enters_of Tryz.func263 (by kernel_rfl) rfl)
      (back_stops (3 - 1) (by omega) (w.heap.size + 1 + 1) w.heap.size a cap L _ hl hL9 (by simp) (by simp; omega) (by simp [go_sem]) (limbsB_of (limbsB_mk hL) hB0)) (fun h k => ⟨h.1.trans k.1, k.2.trans h.2⟩) (fun W l o o' h1 h2 h3 h4 => ⟨belowK_b (by simp; omega) W l o o' h1 h2 h3 h4, World.cell?_of_block (World.putObj_heap_other (show w.heap.size + 1 + 1 ≠ l by simp at h1; omega))⟩) (Below.refl _ _) (fun _ => rfl)
      (fun (pre : List Lb) W => ((HasM (.slice a L.length cap) w.heap.size W ∧ HasM (.slice a L.length cap) (w.heap.size + 1 + 1) W) ∧ IsB (w.heap.size + 1) (w.heap.size + 1) (txt L.length (pre.map (·.val))) W) ∧ Below w.heap.size w W)
      (fun _ _ _ => False)
      (OwnFrom.and (Own.from (fun s A B row hs hg hr => ⟨⟨hs.1.1.kept hg hr, hs.1.2.kept hg hr⟩, isB_kept hs.2 hg hr⟩) _) (ownFrom_below (Nat.le_refl _) (by simp; omega)))
      (fun _ _ _ _ _ hs _ _ => hs)
      ⟨⟨⟨((hasM_new _ w).alloc _).alloc _, by simpa using hasM_new (.slice a L.length cap) ((w.alloc (.cells #[.slice a L.length cap] 260)).alloc (.cells #[.pointer none, .slice none 0 0] 336))⟩, ib1⟩, hB0⟩
      (fun x => { tmps := #[.slice a L.length cap, .pointer (some ⟨w.heap.size, 0, none⟩), .string ⟨#[]⟩, .pointer (some ⟨w.heap.size + 1, 0, none⟩), .int .i64 (x.val.1 : Int), .int .u64 (x.val.2 : Int), undef, .slice a L.length cap, .int .i64 L.length, .bool false, .slice a L.length cap, .func (.func 263) #[] #[.pointer (some ⟨w.heap.size + 1 + 1, 0, none⟩)], .int .i64 (x.val.1 : Int), .int .u64 (x.val.2 : Int), undef, undef, undef, undef, undef, undef, undef, undef, undef, undef, undef, undef, undef, undef, undef], defers := [] }) ?assign ?body ?done ?stop
    case assign =>
      intro l x W K hK
      dsimp only [encLb]
      gi_wp2
      exact hK
    case body =>
      rintro l pre ⟨⟨i, x⟩, hi, hx⟩ W ⟨⟨⟨hm1, hm2⟩, hib⟩, hB⟩ hlt
      dsimp only at hi hx ⊢
      have hBs := hB.size
      have hBs2 : w.heap.size + 1 + 1 < W.heap.size := (Array.getElem?_eq_some_iff.1 hm2).1
      have hdl := nDig9 hx
      have htl := txt_len L.length (pre.map (·.val)) (fun p hp => by
        obtain ⟨q, _, rfl⟩ := List.mem_map.1 hp
        exact q.2.2)
      rw [List.length_map] at htl
      have HTS := Lib.hid (txt_snoc L.length (pre.map (·.val)) (i, x))
      have HF := Lib.hid (fun w' (hT : Tab w') => fmt_any x w' (by omega) hT)
      have HTB := Lib.hid (hT.of hB)
      obtain ⟨rp, hrp⟩ : ∃ rp : List UInt8, rp = List.replicate (9 - (Lib.decDigits x).length) 48 := ⟨_, rfl⟩
      have hrl : rp.length ≤ 9 := by rw [hrp]; simp
      have HPD := Lib.hid (show rp ++ Lib.decDigits x = pad9 x by rw [hrp]; rfl)
      have HRP := Lib.hid (fun w' => repeat_any (9 - (Lib.decDigits x).length) (by omega) rp hrp w')
      clear hrp
      by_cases hil : i + 1 < L.length
      · have hil' : decide ((i : Int) < (L.length : Int) - 1) = true := decide_eq_true (by omega)
        have HNX := Lib.hid (show txt L.length (pre.map (·.val)) ++ pad9 x = txt L.length (pre.map (·.val) ++ [(i, x)]) by rw [HTS.out]; dsimp only; rw [if_pos hil])
        have t2 : IntKind.i64.wrap (9 - ((Lib.decDigits x).length : Int)) = ((9 - (Lib.decDigits x).length : Nat) : Int) := by rw [IntWalk.i64_in _ (by omega)]; omega
        have hsz : ((⟨(Lib.decDigits x).toArray⟩ : ByteArray).size : Int) = ((Lib.decDigits x).length : Int) := rfl
        generalize hTX : txt L.length (pre.map (·.val)) = tx at *
        gi_wp2_with (refine ⟨trivial, ?_⟩; gi_at_call 211; refine (CallsIn.inRound l (callsIn_wide.2 (HF.out _ HTB.out))).mono ?_; rintro _ _ ⟨rfl, y, rfl⟩; have hy1 := hm1.kept (bel_grown y) (fun r e => by cases e); have hy2 := hm2.kept (bel_grown y) (fun r e => by cases e); have hyb := isB_kept hib (bel_grown y) (fun r e => by cases e); have hc1 := hy1.cell; have hys := y.size_le)
        gi_wp2_with (refine ⟨trivial, ?_⟩; gi_at_call 213; refine (CallsIn.inRound l (callsIn_wide.2 (HRP.out _))).mono ?_; rintro _ _ ⟨rfl, z, rfl⟩; have hz1 := hy1.kept (bel_grown z) (fun r e => by cases e); have hz2 := hy2.kept (bel_grown z) (fun r e => by cases e); have hzb := isB_kept hyb (bel_grown z) (fun r e => by cases e); have hzs := z.size_le)
        gi_wp2_with (refine ⟨trivial, ?_⟩; gi_at_call 212; refine (CallsIn.inRound l (callsIn_wide.2 (writeB_any _ _ _ _ _ hzb (by omega) (by omega)))).mono ?_)
        rintro _ w3 ⟨rfl, h3b, h3B, h3O⟩
        dsimp only
        have h3s := h3B.size
        have k1 := hz1.others h3O (by omega)
        have k2 := hz2.others h3O (by omega)
        have k3 := others_of h3O (Nat.le_trans (by omega) h3s) hzb
        gi_wp2_with (refine ⟨trivial, ?_⟩; gi_at_call 212; refine (CallsIn.inRound l (callsIn_wide.2 (writeB_any _ _ _ _ _ h3b (by simp; omega) (by omega)))).mono ?_)
        rintro _ w4 ⟨rfl, h4b, h4B, h4O⟩
        dsimp only
        have h4s := h4B.size
        have q1 := k1.others h4O (by omega)
        have q2 := k2.others h4O (by omega)
        have q3 := others_of h4O (Nat.le_trans (by omega) h4s) h3b
        gi_wp2
        rw [List.append_assoc, HPD.out, HNX.out] at h4b
        have hbW : Below w.heap.size W w4 := (((y.below.mono hBs).trans (z.below.mono (by omega))).trans (h3B.mono (by omega))).trans (h4B.mono (by omega))
        exact ⟨((((bel_keeps y).trans (bel_keeps z)).trans k3).trans q3).from _, ⟨hbW, q2.cell.trans hm2.cell.symm⟩, ⟨⟨q1, q2⟩, by rw [List.map_append]; exact h4b⟩, hB.trans hbW⟩
      · have hil' : decide ((i : Int) < (L.length : Int) - 1) = false := decide_eq_false (by omega)
        have HNX := Lib.hid (show txt L.length (pre.map (·.val)) ++ Lib.decDigits x = txt L.length (pre.map (·.val) ++ [(i, x)]) by rw [HTS.out]; dsimp only; rw [if_neg hil])
        generalize hTX : txt L.length (pre.map (·.val)) = tx at *
        gi_wp2_with (refine ⟨trivial, ?_⟩; gi_at_call 211; refine (CallsIn.inRound l (callsIn_wide.2 (HF.out _ HTB.out))).mono ?_; rintro _ _ ⟨rfl, y, rfl⟩; have hy1 := hm1.kept (bel_grown y) (fun r e => by cases e); have hy2 := hm2.kept (bel_grown y) (fun r e => by cases e); have hyb := isB_kept hib (bel_grown y) (fun r e => by cases e); have hc1 := hy1.cell; have hys := y.size_le)
        gi_wp2_with (refine ⟨trivial, ?_⟩; gi_at_call 212; refine (CallsIn.inRound l (callsIn_wide.2 (writeB_any _ _ _ _ _ hyb (by omega) (by omega)))).mono ?_)
        rintro _ w4 ⟨rfl, h4b, h4B, h4O⟩
        dsimp only
        have h4s := h4B.size
        have q1 := hy1.others h4O (by omega)
        have q2 := hy2.others h4O (by omega)
        have q3 := others_of h4O (Nat.le_trans (by omega) h4s) hyb
        gi_wp2
        rw [HNX.out] at h4b
        have hbW : Below w.heap.size W w4 := (y.below.mono hBs).trans (h4B.mono (by omega))
        exact ⟨((bel_keeps y).trans q3).from _, ⟨hbW, q2.cell.trans hm2.cell.symm⟩, ⟨⟨q1, q2⟩, by rw [List.map_append]; exact h4b⟩, hB.trans hbW⟩
    case done =>
      rintro D' ys W hD hys ⟨⟨⟨hm1, hm2⟩, hib⟩, hB⟩ hK
      rw [hys, HTX.out] at hib
      have hs2 : w.heap.size + 1 + 1 < W.heap.size := (Array.getElem?_eq_some_iff.1 hm2).1
      gi_wp2_with (refine ⟨trivial, ?_⟩; gi_at_call 214; refine (callsIn_wide.2 (readB1_any _ _ _ _ hib (fun e => absurd (congrArg List.length e) (Nat.pos_iff_ne_zero.1 (dec_pos n))))).mono ?_)
      rintro _ w3 ⟨rfl, h3B, h3O, h3s⟩
      dsimp only
      have hK3 := (others_of h3O h3s hib).same _ _ hK rfl
      gi_wp2
      have hbW : Below w.heap.size W w3 := h3B.mono (by omega)
      refine ⟨by simp, .inl ⟨_, _, rfl, run_takeDeferred hK3, ?_⟩⟩
      exact ⟨_, results_tmp rfl _ _ _, Ret.mk rfl ((hB.trans hbW).trans (belowK_b (w := w) (Nat.le_refl _) w3 D' _ _ (by simp at hD; omega) hK3 rfl rfl))⟩
    case stop =>
      rintro D' c pre W _ _ h _
      exact h.elim
end Go.Proofs.YtehgeoipbgpocaaGreatDoor.I
