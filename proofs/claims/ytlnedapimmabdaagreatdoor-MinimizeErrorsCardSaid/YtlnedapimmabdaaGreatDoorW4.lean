/- Texts of numbers; minimize.key. The law's same and small. The law's find. The law's gate. -/
import Derived.Sort.Grow
import Derived.Shelf.Strconv.Itoa3
import Derived.Test.YtlnedapimmabdaaGreatDoorW3
import Derived.Test.YtlnedapimmabdaaGreatDoorNA
namespace Go.Proofs.YtlnedapimmabdaaGreatDoor
set_option linter.unusedVariables false
set_option linter.unusedSimpArgs false
open Go.RowKit Go.Shelf Go.Sort
attribute [local go_sem low] Bel.cell Bel.frozen alloc_cell alloc_frozen

def Tab (w : World) : Prop := Lib.TabIs Tryz.prog w "internal/strconv.uint64pow10" .u64 Lib.pow10Tab
theorem gTab : Tryz.prog.globalNamed "internal/strconv.uint64pow10" = some 0 := by kernel_rfl
theorem Tab.of {w w' : World} (h : Tab w) (hb : Below w.heap.size w w') : Tab w' := by
  have hlt : 0 < w.heap.size := by
    have h' := h
    unfold Tab Lib.TabIs World.var? at h'
    simp only [gTab, Option.bind_some] at h'
    refine Nat.lt_of_not_le fun h0 => ?_
    rw [Array.getElem?_eq_none h0] at h'
    cases h'
  exact var?_below hb gTab hlt h
theorem below_grow (w : World) (k : Nat) (os : Array Obj) : Below w.heap.size w (Sort.grow (w.drewN k) os) :=
  ⟨rfl, rfl, rfl, by simp [Sort.grow], fun i hi => by
    show (w.heap ++ os)[i]? = _
    rw [Array.getElem?_append, if_pos hi]⟩
def dgB (k : Nat) : ByteArray := ⟨(dg1 k).toArray⟩
theorem itoaN_any (k : Nat) (w : World) (hk : k < 1000000000000000) (hT : Tab w) : Calls Tryz.prog 66 #[.int .i64 (k : Int)] w (Ret (.string (dgB k)) w) := by
  refine (Tryz.strconv_Itoa (k : Int) (by omega) (by omega) w hT).mono ?_
  rintro _ _ ⟨he, j, os, hw⟩
  refine ⟨?_, ⟨_, below_grow w j os⟩, hw⟩
  rw [he, dg1_itoa]
  rfl
theorem dgB_size {k : Nat} (hk : k < 1000000000000000) : (dgB k).size ≤ 20 := by
  show (dg1 k).length ≤ 20
  unfold dg1
  rcases Nat.eq_zero_or_pos k with h | h
  · subst h
    rw [Lib.decDigits_one (by decide)]
    decide
  · rw [Lib.decDigits_length]
    have := Lib.numDigits_eq k h (by omega)
    split at this <;> omega
theorem flat3_take {N : List (Nat × Nat × Nat)} {k : Nat} {x : Nat × Nat × Nat} (h : N[k]? = some x) : flat3 (N.take (k + 1)) = flat3 (N.take k) ++ [x.1, x.2.1, x.2.2] := by
  rw [List.take_add_one, h, flat3_app]
  rfl
theorem keyB_snoc (c : UInt8) (a : Nat) (l : List Nat) (x : Nat) : (⟨(keyT c a (l ++ [x])).toArray⟩ : ByteArray) = ⟨(keyT c a l).toArray⟩ ++ (⟨#[c]⟩ ++ dgB x) := by
  unfold keyT dgB
  rw [show (⟨#[c]⟩ : ByteArray) = ⟨[c].toArray⟩ from rfl, bytes_app, bytes_app, sepT_app, sepT, sepT]
  simp
set_option maxRecDepth 100000 in
set_option maxHeartbeats 6400000 in
theorem key_any (N : List (Nat × Nat × Nat)) (r : Nat) (ad : Option Addr) (cap : Nat) (w : World) (hi : InD w.heap.size w ad (N.map z3)) (hl : N.length ≤ 1000000) (hr : r < 1000000000000000) (hN : ∀ x ∈ N, x.1 < 1000000000000000 ∧ x.2.1 < 1000000000000000 ∧ x.2.2 < 1000000000000000) (hT : Tab w) :
    Calls Tryz.prog 40 #[.agg #[.slice ad N.length cap, .int .i64 (r : Int)]] w (Ret (.string ⟨(diagT N r).toArray⟩) w) := by
  have HI := Lib.hid hi
  have HT := Lib.hid hT
  have HN := Lib.hid hN
  have HIT := Lib.hid (fun (k : Nat) (hk : k < 1000000000000000) (w' : World) (hb : Below w.heap.size w w') => itoaN_any k w' hk (hT.of hb))
  clear hi hT hN
  go_enter Tryz.func40, Tryz.ntmps40
  go_wp2_with fail
  refine (HIT.out r hr _ (by (repeat' (first | (with_reducible first | apply Zl1 | apply Zl2 | apply Zl3 | apply Zl4 | apply Zl5 | apply Zl6 | apply Zl7 | apply Zl8 | apply Zl9 | apply Zla | apply Zlb | apply Zlc) | (dsimp only; with_reducible first | apply Zl8 | apply Zl2 | apply Zld) | with_reducible assumption | omega | (dsimp only; omega))))).mono ?_
  rintro _ _ ⟨rfl, y, rfl⟩
  dsimp only
  have hby : Below w.heap.size w y.w := by (repeat' (first | (with_reducible first | apply Zl1 | apply Zl2 | apply Zl3 | apply Zl4 | apply Zl5 | apply Zl6 | apply Zl7 | apply Zl8 | apply Zl9 | apply Zla | apply Zlb | apply Zlc) | (dsimp only; with_reducible first | apply Zl8 | apply Zl2 | apply Zld) | with_reducible assumption | omega | (dsimp only; omega)))
  obtain ⟨d0, d1, -⟩ := cells2 (obj_in y.below (World.alloc_heap_new w (.cells #[.slice ad N.length cap, .int .i64 (r : Int)] 63 (0, 0))))
  have HBY := Lib.hid hby
  have hszr := dgB_size hr
  clear hby
  go_wp2_with fail
  go_loopw [3, 12] (fun sv iv wr => ∃ (k : Nat) (s : ByteArray), iv = .int .i64 (k : Int) ∧ k ≤ N.length ∧ sv = .string s ∧ s = ⟨(keyT 32 r (flat3 (N.take k))).toArray⟩ ∧ s.size ≤ 20 + 63 * k ∧ Below w.heap.size w wr) (fun _ iv _ => N.length - (intOf iv).toNat)
  case atStart => exact ⟨0, dgB r, rfl, by omega, rfl, by simp [keyT, flat3, sepT, dgB], by omega, HBY.out⟩
  case round =>
    obtain ⟨k, s, rfl, hk, rfl, hs, hsz, hbe⟩ := hrel
    have HS := Lib.hid hs
    clear hs
    rcases Nat.lt_or_ge k N.length with hkl | hkl
    · obtain ⟨x, hx⟩ : ∃ x, N[k]? = some x := ⟨_, List.getElem?_eq_getElem hkl⟩
      obtain ⟨g, off, hadd, hg, hcs⟩ := (HI.out.of hbe) (by rw [List.length_map]; omega)
      subst hadd
      obtain ⟨x0, x1, x2⟩ := hcs k (z3 x) (by rw [List.getElem?_map, hx]; rfl)
      dsimp only [z3] at x0 x1 x2
      obtain ⟨n0, n1, n2⟩ := HN.out x (List.mem_of_getElem? hx)
      have f0 : decide ((k : Int) < (N.length : Int)) = true := decide_eq_true (by omega)
      have hib : (0 ≤ (k : Int) ∧ (k : Int) < (N.length : Int)) := ⟨by omega, by omega⟩
      have HX := Lib.hid hx
      obtain ⟨xa, xn, xy⟩ := x
      dsimp only at x0 x1 x2 n0 n1 n2
      have s0 := dgB_size n0
      have s1 := dgB_size n1
      have s2 := dgB_size n2
      have HBE := Lib.hid hbe
      have hws := hbe.size
      have I0 := Lib.hid (HIT.out xa n0)
      have I1 := Lib.hid (HIT.out xn n1)
      have I2 := Lib.hid (HIT.out xy n2)
      clear hcs hx
      go_wp2_with fail
      refine wp_region_bel (by kernel_rfl) (by kernel_rfl) ?_
      repeat (go_big_quiet_step ((first | (go_at_call 66; with_reducible refine bel_of (I0.out _ ?_); exact HBE.out.trans (Below.mono (show Below wr.heap.size wr _ by (repeat' (first | (with_reducible first | apply Zl1 | apply Zl2 | apply Zl3 | apply Zl4 | apply Zl5 | apply Zl6 | apply Zl7 | apply Zl8 | apply Zl9 | apply Zla | apply Zlb | apply Zlc) | (dsimp only; with_reducible first | apply Zl8 | apply Zl2 | apply Zld) | with_reducible assumption | omega | (dsimp only; omega)))) hws)) | (go_at_call 66; with_reducible refine bel_of (I1.out _ ?_); exact HBE.out.trans (Below.mono (show Below wr.heap.size wr _ by (repeat' (first | (with_reducible first | apply Zl1 | apply Zl2 | apply Zl3 | apply Zl4 | apply Zl5 | apply Zl6 | apply Zl7 | apply Zl8 | apply Zl9 | apply Zla | apply Zlb | apply Zlc) | (dsimp only; with_reducible first | apply Zl8 | apply Zl2 | apply Zld) | with_reducible assumption | omega | (dsimp only; omega)))) hws)) | (go_at_call 66; with_reducible refine bel_of (I2.out _ ?_); exact HBE.out.trans (Below.mono (show Below wr.heap.size wr _ by (repeat' (first | (with_reducible first | apply Zl1 | apply Zl2 | apply Zl3 | apply Zl4 | apply Zl5 | apply Zl6 | apply Zl7 | apply Zl8 | apply Zl9 | apply Zla | apply Zlb | apply Zlc) | (dsimp only; with_reducible first | apply Zl8 | apply Zl2 | apply Zld) | with_reducible assumption | omega | (dsimp only; omega)))) hws)))))
      refine wpQuiet_nil ?_
      rintro _ ⟨z9, rfl⟩
      go_wp2
      go_roundw
      case rel =>
        refine ⟨k + 1, _, by go_num, by omega, rfl, ?_, ?_, HBE.out.trans (Below.mono (show Below wr.heap.size wr _ by (repeat' (first | (with_reducible first | apply Zl1 | apply Zl2 | apply Zl3 | apply Zl4 | apply Zl5 | apply Zl6 | apply Zl7 | apply Zl8 | apply Zl9 | apply Zla | apply Zlb | apply Zlc) | (dsimp only; with_reducible first | apply Zl8 | apply Zl2 | apply Zld) | with_reducible assumption | omega | (dsimp only; omega)))) hws)⟩
        · rw [HS.out, flat3_take HX.out, show flat3 (N.take k) ++ [xa, xn, xy] = ((flat3 (N.take k) ++ [xa]) ++ [xn]) ++ [xy] by simp, keyB_snoc, keyB_snoc, keyB_snoc]
          simp [ByteArray.append_assoc]
        · have hb1 : (⟨#[32]⟩ : ByteArray).size = 1 := rfl
          simp only [ByteArray.size_append, hb1]
          omega
      case measure => simp [intOf]; omega
    · have hke : k = N.length := by omega
      subst hke
      have f0 : decide ((N.length : Int) < (N.length : Int)) = false := decide_eq_false (by omega)
      go_wp2
      go_ret
      exact Ret.mk (by (rw [HS.out, List.take_length]; rfl)) (by (repeat' (first | (with_reducible first | apply Zl1 | apply Zl2 | apply Zl3 | apply Zl4 | apply Zl5 | apply Zl6 | apply Zl7 | apply Zl8 | apply Zl9 | apply Zla | apply Zlb | apply Zlc) | (dsimp only; with_reducible first | apply Zl8 | apply Zl2 | apply Zld) | with_reducible assumption | omega | (dsimp only; omega))))
end Go.Proofs.YtlnedapimmabdaaGreatDoor

namespace Go.Proofs.YtlnedapimmabdaaGreatDoor
set_option linter.unusedVariables false
set_option linter.unusedSimpArgs false
open Go.RowKit
attribute [local go_sem low] Bel.cell Bel.frozen alloc_cell alloc_frozen

end Go.Proofs.YtlnedapimmabdaaGreatDoor

namespace Go.Proofs.YtlnedapimmabdaaGreatDoor
set_option linter.unusedVariables false
set_option linter.unusedSimpArgs false
open Go.RowKit
attribute [local go_sem low] Bel.cell Bel.frozen alloc_cell alloc_frozen

def KeepX (v : Value) (w w' : World) : Prop := ∀ b, b < w.heap.size → v.ownBlock ≠ some b → w'.heap[b]? = w.heap[b]?
variable {Pc : Nat → Prop}
theorem Tryz.infoG : (Tryz.prog.info? 45).map (fun i => (i.zero, i.size, i.bytes)) = some (some (.agg #[.int .i64 0, .int .i64 0, .slice none 0 0]), 3, 40) := by kernel_rfl
end Go.Proofs.YtlnedapimmabdaaGreatDoor

namespace Go.Proofs.YtlnedapimmabdaaGreatDoor
set_option linter.unusedVariables false
set_option linter.unusedSimpArgs false
open Go.RowKit
attribute [local go_sem low] Bel.cell Bel.frozen alloc_cell alloc_frozen

theorem mkGate_any (k a : Int) (ad : Option Addr) (n c : Nat) (w : World) : Calls Tryz.prog 30 #[.int .i64 k, .int .i64 a, .slice ad n c] w (Ret (.agg #[.int .i64 k, .int .i64 a, .slice ad n c]) w) := by
  go_enter Tryz.func30, Tryz.ntmps30
  go_wp2
  refine bodyPost_ret (v := .agg #[.int .i64 k, .int .i64 a, .slice ad n c]) (by simp [results, Tryz.results30, go_sem]) rfl (Ret.mk rfl (by (repeat' (first | (with_reducible first | apply Zl1 | apply Zl2 | apply Zl3 | apply Zl4 | apply Zl5 | apply Zl6 | apply Zl7 | apply Zl8 | apply Zl9 | apply Zla | apply Zlb | apply Zlc) | (dsimp only; with_reducible first | apply Zl8 | apply Zl2 | apply Zld) | with_reducible assumption | omega | (dsimp only; omega)))))
end Go.Proofs.YtlnedapimmabdaaGreatDoor
