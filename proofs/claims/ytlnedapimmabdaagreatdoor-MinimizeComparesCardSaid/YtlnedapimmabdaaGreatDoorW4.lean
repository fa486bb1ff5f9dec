/- Texts of numbers; minimize.key. The law's same and small. The law's find. The law's gate. -/
import Derived.Sort.Grow
import Derived.Shelf.Strconv.Itoa3
import Derived.Test.YtlnedapimmabdaaGreatDoorW3
import Derived.Test.YtlnedapimmabdaaGreatDoorNA
namespace Go.Proofs.YtlnedapimmabdaaGreatDoor
set_option linter.unusedVariables false
set_option linter.unusedSimpArgs false
open Go.RowKit Go.Shelf Go.Sort
attribute [local go_sem low] Bel.cell Bel.frozen alloc_cell alloc_frozen

def Tab (w : World) : Prop := Lib.TabIs Tryz.prog w "internal/strconv.uint64pow10" .u64 Lib.pow10Tab
theorem gTab : Tryz.prog.globalNamed "internal/strconv.uint64pow10" = some 0 := by kernel_rfl
theorem Tab.of {w w' : World} (h : Tab w) (hb : Below w.heap.size w w') : Tab w' := by
  have hlt : 0 < w.heap.size := by
    have h' := h
    unfold Tab Lib.TabIs World.var? at h'
    simp only [gTab, Option.bind_some] at h'
    refine Nat.lt_of_not_le fun h0 => ?_
    rw [Array.getElem?_eq_none h0] at h'
    cases h'
  exact var?_below hb gTab hlt h
theorem below_grow (w : World) (k : Nat) (os : Array Obj) : Below w.heap.size w (Sort.grow (w.drewN k) os) :=
  ⟨rfl, rfl, rfl, by simp [Sort.grow], fun i hi => by
    show (w.heap ++ os)[i]? = _
    rw [Array.getElem?_append, if_pos hi]⟩
def dgB (k : Nat) : ByteArray := ⟨(dg1 k).toArray⟩
theorem itoaN_any (k : Nat) (w : World) (hk : k < 1000000000000000) (hT : Tab w) : Calls Tryz.prog 66 #[.int .i64 (k : Int)] w (Ret (.string (dgB k)) w) := by
  refine (Tryz.strconv_Itoa (k : Int) (by omega) (by omega) w hT).mono ?_
  rintro _ _ ⟨he, j, os, hw⟩
  refine ⟨?_, ⟨_, below_grow w j os⟩, hw⟩
  rw [he, dg1_itoa]
  rfl
theorem dgB_size {k : Nat} (hk : k < 1000000000000000) : (dgB k).size ≤ 20 := by
  show (dg1 k).length ≤ 20
  unfold dg1
  rcases Nat.eq_zero_or_pos k with h | h
  · subst h
    rw [Lib.decDigits_one (by decide)]
    decide
  · rw [Lib.decDigits_length]
    have := Lib.numDigits_eq k h (by omega)
    split at this <;> omega
theorem flat3_take {N : List (Nat × Nat × Nat)} {k : Nat} {x : Nat × Nat × Nat} (h : N[k]? = some x) : flat3 (N.take (k + 1)) = flat3 (N.take k) ++ [x.1, x.2.1, x.2.2] := by
  rw [List.take_add_one, h, flat3_app]
  rfl
theorem keyB_snoc (c : UInt8) (a : Nat) (l : List Nat) (x : Nat) : (⟨(keyT c a (l ++ [x])).toArray⟩ : ByteArray) = ⟨(keyT c a l).toArray⟩ ++ (⟨#[c]⟩ ++ dgB x) := by
  unfold keyT dgB
  rw [show (⟨#[c]⟩ : ByteArray) = ⟨[c].toArray⟩ from rfl, bytes_app, bytes_app, sepT_app, sepT, sepT]
  simp
set_option maxRecDepth 100000 in
set_option maxHeartbeats 6400000 in
theorem key_any (N : List (Nat × Nat × Nat)) (r : Nat) (ad : Option Addr) (cap : Nat) (w : World) (hi : InD w.heap.size w ad (N.map z3)) (hl : N.length ≤ 1000000) (hr : r < 1000000000000000) (hN : ∀ x ∈ N, x.1 < 1000000000000000 ∧ x.2.1 < 1000000000000000 ∧ x.2.2 < 1000000000000000) (hT : Tab w) :
    Calls Tryz.prog 40 #[.agg #[.slice ad N.length cap, .int .i64 (r : Int)]] w (Ret (.string ⟨(diagT N r).toArray⟩) w) := by
  have HI := Lib.hid hi
  have HT := Lib.hid hT
  have HN := Lib.hid hN
  have HIT := Lib.hid (fun (k : Nat) (hk : k < 1000000000000000) (w' : World) (hb : Below w.heap.size w w') => itoaN_any k w' hk (hT.of hb))
  clear hi hT hN
  go_enter Tryz.func40, Tryz.ntmps40
  go_wp2_with fail
  refine (HIT.out r hr _ (by (repeat' (first | (with_reducible first | apply Zl1 | apply Zl2 | apply Zl3 | apply Zl4 | apply Zl5 | apply Zl6 | apply Zl7 | apply Zl8 | apply Zl9 | apply Zla | apply Zlb | apply Zlc) | (dsimp only; with_reducible first | apply Zl8 | apply Zl2 | apply Zld) | with_reducible assumption | omega | (dsimp only; omega))))).mono ?_
  rintro _ _ ⟨rfl, y, rfl⟩
  dsimp only
  have hby : Below w.heap.size w y.w := by (repeat' (first | (with_reducible first | apply Zl1 | apply Zl2 | apply Zl3 | apply Zl4 | apply Zl5 | apply Zl6 | apply Zl7 | apply Zl8 | apply Zl9 | apply Zla | apply Zlb | apply Zlc) | (dsimp only; with_reducible first | apply Zl8 | apply Zl2 | apply Zld) | with_reducible assumption | omega | (dsimp only; omega)))
  obtain ⟨d0, d1, -⟩ := cells2 (obj_in y.below (World.alloc_heap_new w (.cells #[.slice ad N.length cap, .int .i64 (r : Int)] 63 (0, 0))))
  have HBY := Lib.hid hby
  have hszr := dgB_size hr
  clear hby
  go_wp2_with fail
  go_loopw [3, 12] (fun sv iv wr => ∃ (k : Nat) (s : ByteArray), iv = .int .i64 (k : Int) ∧ k ≤ N.length ∧ sv = .string s ∧ s = ⟨(keyT 32 r (flat3 (N.take k))).toArray⟩ ∧ s.size ≤ 20 + 63 * k ∧ Below w.heap.size w wr) (fun _ iv _ => N.length - (intOf iv).toNat)
  case atStart => exact ⟨0, dgB r, rfl, by omega, rfl, by simp [keyT, flat3, sepT, dgB], by omega, HBY.out⟩
  case round =>
    obtain ⟨k, s, rfl, hk, rfl, hs, hsz, hbe⟩ := hrel
    have HS := Lib.hid hs
    clear hs
    rcases Nat.lt_or_ge k N.length with hkl | hkl
    · obtain ⟨x, hx⟩ : ∃ x, N[k]? = some x := ⟨_, List.getElem?_eq_getElem hkl⟩
      obtain ⟨g, off, hadd, hg, hcs⟩ := (HI.out.of hbe) (by rw [List.length_map]; omega)
      subst hadd
      obtain ⟨x0, x1, x2⟩ := hcs k (z3 x) (by rw [List.getElem?_map, hx]; rfl)
      dsimp only [z3] at x0 x1 x2
      obtain ⟨n0, n1, n2⟩ := HN.out x (List.mem_of_getElem? hx)
      have f0 : decide ((k : Int) < (N.length : Int)) = true := decide_eq_true (by omega)
      have hib : (0 ≤ (k : Int) ∧ (k : Int) < (N.length : Int)) := ⟨by omega, by omega⟩
      have HX := Lib.hid hx
      obtain ⟨xa, xn, xy⟩ := x
      dsimp only at x0 x1 x2 n0 n1 n2
      have s0 := dgB_size n0
      have s1 := dgB_size n1
      have s2 := dgB_size n2
      have HBE := Lib.hid hbe
      have hws := hbe.size
      have I0 := Lib.hid (HIT.out xa n0)
      have I1 := Lib.hid (HIT.out xn n1)
      have I2 := Lib.hid (HIT.out xy n2)
      clear hcs hx
      go_wp2_with fail
      refine wp_region_bel (by kernel_rfl) (by kernel_rfl) ?_
      repeat (go_big_quiet_step ((first | (go_at_call 66; with_reducible refine bel_of (I0.out _ ?_); exact HBE.out.trans (Below.mono (show Below wr.heap.size wr _ by (repeat' (first | (with_reducible first | apply Zl1 | apply Zl2 | apply Zl3 | apply Zl4 | apply Zl5 | apply Zl6 | apply Zl7 | apply Zl8 | apply Zl9 | apply Zla | apply Zlb | apply Zlc) | (dsimp only; with_reducible first | apply Zl8 | apply Zl2 | apply Zld) | with_reducible assumption | omega | (dsimp only; omega)))) hws)) | (go_at_call 66; with_reducible refine bel_of (I1.out _ ?_); exact HBE.out.trans (Below.mono (show Below wr.heap.size wr _ by (repeat' (first | (with_reducible first | apply Zl1 | apply Zl2 | apply Zl3 | apply Zl4 | apply Zl5 | apply Zl6 | apply Zl7 | apply Zl8 | apply Zl9 | apply Zla | apply Zlb | apply Zlc) | (dsimp only; with_reducible first | apply Zl8 | apply Zl2 | apply Zld) | with_reducible assumption | omega | (dsimp only; omega)))) hws)) | (go_at_call 66; with_reducible refine bel_of (I2.out _ ?_); exact HBE.out.trans (Below.mono (show Below wr.heap.size wr _ by (repeat' (first | (with_reducible first | apply Zl1 | apply Zl2 | apply Zl3 | apply Zl4 | apply Zl5 | apply Zl6 | apply Zl7 | apply Zl8 | apply Zl9 | apply Zla | apply Zlb | apply Zlc) | (dsimp only; with_reducible first | apply Zl8 | apply Zl2 | apply Zld) | with_reducible assumption | omega | (dsimp only; omega)))) hws)))))
      refine wpQuiet_nil ?_
      rintro _ ⟨z9, rfl⟩
      go_wp2
      go_roundw
      case rel =>
        refine ⟨k + 1, _, by go_num, by omega, rfl, ?_, ?_, HBE.out.trans (Below.mono (show Below wr.heap.size wr _ by (repeat' (first | (with_reducible first | apply Zl1 | apply Zl2 | apply Zl3 | apply Zl4 | apply Zl5 | apply Zl6 | apply Zl7 | apply Zl8 | apply Zl9 | apply Zla | apply Zlb | apply Zlc) | (dsimp only; with_reducible first | apply Zl8 | apply Zl2 | apply Zld) | with_reducible assumption | omega | (dsimp only; omega)))) hws)⟩
        · rw [HS.out, flat3_take HX.out, show flat3 (N.take k) ++ [xa, xn, xy] = ((flat3 (N.take k) ++ [xa]) ++ [xn]) ++ [xy] by simp, keyB_snoc, keyB_snoc, keyB_snoc]
          simp [ByteArray.append_assoc]
        · have hb1 : (⟨#[32]⟩ : ByteArray).size = 1 := rfl
          simp only [ByteArray.size_append, hb1]
          omega
      case measure => simp [intOf]; omega
    · have hke : k = N.length := by omega
      subst hke
      have f0 : decide ((N.length : Int) < (N.length : Int)) = false := decide_eq_false (by omega)
      go_wp2
      go_ret
      exact Ret.mk (by (rw [HS.out, List.take_length]; rfl)) (by (repeat' (first | (with_reducible first | apply Zl1 | apply Zl2 | apply Zl3 | apply Zl4 | apply Zl5 | apply Zl6 | apply Zl7 | apply Zl8 | apply Zl9 | apply Zla | apply Zlb | apply Zlc) | (dsimp only; with_reducible first | apply Zl8 | apply Zl2 | apply Zld) | with_reducible assumption | omega | (dsimp only; omega))))
end Go.Proofs.YtlnedapimmabdaaGreatDoor

namespace Go.Proofs.YtlnedapimmabdaaGreatDoor
set_option linter.unusedVariables false
set_option linter.unusedSimpArgs false
open Go.RowKit
attribute [local go_sem low] Bel.cell Bel.frozen alloc_cell alloc_frozen

set_option maxRecDepth 100000 in
set_option maxHeartbeats 6400000 in
theorem same_any (L M : List Int) (P Q : Nat → Prop) (a1 a2 : Option Addr) (c1 c2 : Nat) (w : World) (h1 : InS P w a1 L) (h2 : InS Q w a2 M) (hl : L.length ≤ 9223372036854775807) (hm : M.length ≤ 9223372036854775807) :
    Calls Tryz.prog 60 #[.slice a1 L.length c1, .slice a2 M.length c2] w (Ret (.bool (decide (L = M))) w) := by
  by_cases hlm : L.length = M.length
  · have HEQ := Lib.hid hlm
    have H1 := Lib.hid h1
    have H2 := Lib.hid h2
    have f0 : ((L.length : Int) != (M.length : Int)) = false := by simp; omega
    obtain ⟨q, hq⟩ : ∃ q, decide (L = M) = q := ⟨_, rfl⟩
    rw [hq]
    have HQ := Lib.hid hq
    clear h1 h2 hlm hq
    go_enter Tryz.func60, Tryz.ntmps60
    go_wp2
    go_loopw [5] (fun iv wr => ∃ k : Nat, iv = .int .i64 (k : Int) ∧ k ≤ L.length ∧ L.take k = M.take k ∧ ∃ y : Bel w, wr = y.w) (fun iv _ => L.length - (intOf iv).toNat)
    case atStart => exact ⟨0, rfl, by omega, by simp, ⟨w, Below.refl _ _⟩, rfl⟩
    case round =>
      obtain ⟨k, rfl, hk, htk, y, rfl⟩ := hrel
      have HTK := Lib.hid htk
      clear htk
      rcases Nat.lt_or_ge k L.length with hkl | hkl
      · have hkm : k < M.length := by have := HEQ.out; omega
        obtain ⟨x, hx⟩ : ∃ x, L[k]? = some x := ⟨_, List.getElem?_eq_getElem hkl⟩
        obtain ⟨z, hz⟩ : ∃ z, M[k]? = some z := ⟨_, List.getElem?_eq_getElem hkm⟩
        obtain ⟨b1, o1, e1, hb1, x0⟩ := (H1.out.of y.below).at hx
        obtain ⟨b2, o2, e2, hb2, z0⟩ := (H2.out.of y.below).at hz
        subst e1 e2
        have f1 : decide ((k : Int) < (L.length : Int)) = true := decide_eq_true (by omega)
        have hib : (0 ≤ (k : Int) ∧ (k : Int) < (L.length : Int)) := ⟨by omega, by omega⟩
        have hib2 : (0 ≤ (k : Int) ∧ (k : Int) < (M.length : Int)) := ⟨by omega, by omega⟩
        have HX := Lib.hid (And.intro hx hz)
        clear hx hz
        by_cases he : x = z
        · have f2 : (x != z) = false := by simp [he]
          have HE := Lib.hid he
          clear he
          go_wp2_with fail
          refine wp_region_bel (by kernel_rfl) (by kernel_rfl) ?_
          repeat (go_big_quiet_step (fail))
          refine wpQuiet_nil ?_
          rintro _ ⟨z9, rfl⟩
          go_wp2
          go_roundw
          case rel =>
            refine ⟨k + 1, by go_num, by omega, ?_, ⟨z9.w, y.below.trans (z9.below.mono y.below.size)⟩, rfl⟩
            rw [List.take_add_one, List.take_add_one, HX.out.1, HX.out.2, HTK.out, HE.out]
          case measure => simp [intOf]; omega
        · have f2 : (x != z) = true := by simp [he]
          have hq0 : q = false := by
            rw [← HQ.out]
            refine decide_eq_false fun e => ?_
            have h1 := HX.out.1
            rw [e, HX.out.2] at h1
            injection h1 with h1
            exact he h1.symm
          subst hq0
          clear he
          go_wp2_with fail
          refine wp_region_bel (by kernel_rfl) (by kernel_rfl) ?_
          repeat (go_big_quiet_step (fail))
          refine wpQuiet_nil ?_
          rintro _ ⟨z9, rfl⟩
          go_wp2
          go_ret
          exact Ret.mk (by rfl) (by (repeat' (first | (with_reducible first | apply Zl1 | apply Zl2 | apply Zl3 | apply Zl4 | apply Zl5 | apply Zl6 | apply Zl7 | apply Zl8 | apply Zl9 | apply Zla | apply Zlb | apply Zlc) | (dsimp only; with_reducible first | apply Zl8 | apply Zl2 | apply Zld) | with_reducible assumption | omega | (dsimp only; omega))))
      · have hke : k = L.length := by omega
        subst hke
        have f1 : decide ((L.length : Int) < (L.length : Int)) = false := decide_eq_false (by omega)
        have hq1 : q = true := by
          rw [← HQ.out]
          have h := HTK.out
          rw [List.take_length, HEQ.out, List.take_length] at h
          exact decide_eq_true h
        subst hq1
        go_wp2
        go_ret
        exact Ret.mk (by rfl) (by (repeat' (first | (with_reducible first | apply Zl1 | apply Zl2 | apply Zl3 | apply Zl4 | apply Zl5 | apply Zl6 | apply Zl7 | apply Zl8 | apply Zl9 | apply Zla | apply Zlb | apply Zlc) | (dsimp only; with_reducible first | apply Zl8 | apply Zl2 | apply Zld) | with_reducible assumption | omega | (dsimp only; omega))))
  · have f0 : ((L.length : Int) != (M.length : Int)) = true := by simp; omega
    rw [decide_eq_false (fun e => hlm (by rw [e]))]
    clear h1 h2 hlm
    go_enter Tryz.func60, Tryz.ntmps60
    go_wp2
    go_ret
    exact Ret.mk (by rfl) (by (repeat' (first | (with_reducible first | apply Zl1 | apply Zl2 | apply Zl3 | apply Zl4 | apply Zl5 | apply Zl6 | apply Zl7 | apply Zl8 | apply Zl9 | apply Zla | apply Zlb | apply Zlc) | (dsimp only; with_reducible first | apply Zl8 | apply Zl2 | apply Zld) | with_reducible assumption | omega | (dsimp only; omega))))
def smallB (L : List GZ) (O : List Int) : Bool := decide (L.length ≤ 16) && decide (O.length ≤ 8) && decide (nErr L O 6 = 0) && L.all fun x => decide (x.2.2.length ≤ 8)
set_option maxRecDepth 100000 in
set_option maxHeartbeats 6400000 in
theorem small_any (L : List GZ) (O : List Int) (P : Nat → Prop) (ga oa : Option Addr) (gc oc : Nat) (w : World) (hg : InGt P w ga L) (ho : InS P w oa O) (hl : L.length ≤ 1000000000) (hcl : ∀ x ∈ L, x.2.2.length ≤ 9223372036854775807) (hol : O.length ≤ 9223372036854775807) :
    Calls Tryz.prog 12 #[nV ga L.length gc oa O.length oc] w (Ret (.bool (smallB L O)) w) := by
  have HCK := Lib.hid (fun w' (hb : Below w.heap.size w w') => check_any L O 6 P ga oa gc oc w' (hg.of hb) (ho.of hb) hl hcl hol)
  have HG := Lib.hid hg
  unfold nV smallB
  clear hg ho hcl
  by_cases h1 : L.length ≤ 16
  case neg =>
    have f0 : decide (16 < (L.length : Int)) = true := decide_eq_true (by omega)
    rw [decide_eq_false h1]
    clear h1
    go_enter Tryz.func12, Tryz.ntmps12
    go_wp2
    go_ret
    exact Ret.mk (by rfl) (by (repeat' (first | (with_reducible first | apply Zl1 | apply Zl2 | apply Zl3 | apply Zl4 | apply Zl5 | apply Zl6 | apply Zl7 | apply Zl8 | apply Zl9 | apply Zla | apply Zlb | apply Zlc) | (dsimp only; with_reducible first | apply Zl8 | apply Zl2 | apply Zld) | with_reducible assumption | omega | (dsimp only; omega))))
  have f0 : decide (16 < (L.length : Int)) = false := decide_eq_false (by omega)
  by_cases h2 : O.length ≤ 8
  case neg =>
    have f1 : decide (8 < (O.length : Int)) = true := decide_eq_true (by omega)
    rw [decide_eq_false h2, Bool.and_false]
    clear h2
    go_enter Tryz.func12, Tryz.ntmps12
    go_wp2
    go_ret
    exact Ret.mk (by rfl) (by (repeat' (first | (with_reducible first | apply Zl1 | apply Zl2 | apply Zl3 | apply Zl4 | apply Zl5 | apply Zl6 | apply Zl7 | apply Zl8 | apply Zl9 | apply Zla | apply Zlb | apply Zlc) | (dsimp only; with_reducible first | apply Zl8 | apply Zl2 | apply Zld) | with_reducible assumption | omega | (dsimp only; omega))))
  have f1 : decide (8 < (O.length : Int)) = false := decide_eq_false (by omega)
  rw [decide_eq_true h1, decide_eq_true h2, Bool.true_and, Bool.true_and]
  obtain ⟨e, he⟩ : ∃ e, nErr L O 6 = e := ⟨_, rfl⟩
  rw [he] at HCK ⊢
  have HE := Lib.hid he
  clear he h1 h2
  by_cases h3 : e = 0
  case neg =>
    have f2 : ((e : Int) != 0) = true := by simp; omega
    rw [decide_eq_false h3]
    clear h3
    go_enter Tryz.func12, Tryz.ntmps12
    go_wp2_with fail
    refine (HCK.out _ (by (repeat' (first | (with_reducible first | apply Zl1 | apply Zl2 | apply Zl3 | apply Zl4 | apply Zl5 | apply Zl6 | apply Zl7 | apply Zl8 | apply Zl9 | apply Zla | apply Zlb | apply Zlc) | (dsimp only; with_reducible first | apply Zl8 | apply Zl2 | apply Zld) | with_reducible assumption | omega | (dsimp only; omega))))).mono ?_
    rintro _ _ ⟨rfl, y, rfl⟩
    dsimp only
    go_wp2
    go_ret
    exact Ret.mk (by rfl) (by (repeat' (first | (with_reducible first | apply Zl1 | apply Zl2 | apply Zl3 | apply Zl4 | apply Zl5 | apply Zl6 | apply Zl7 | apply Zl8 | apply Zl9 | apply Zla | apply Zlb | apply Zlc) | (dsimp only; with_reducible first | apply Zl8 | apply Zl2 | apply Zld) | with_reducible assumption | omega | (dsimp only; omega))))
  subst h3
  rw [decide_eq_true rfl, Bool.true_and]
  obtain ⟨q, hq⟩ : ∃ q, (L.all fun x => decide (x.2.2.length ≤ 8)) = q := ⟨_, rfl⟩
  rw [hq]
  have HQ := Lib.hid hq
  clear hq
  go_enter Tryz.func12, Tryz.ntmps12
  go_wp2_with fail
  refine (HCK.out _ (by (repeat' (first | (with_reducible first | apply Zl1 | apply Zl2 | apply Zl3 | apply Zl4 | apply Zl5 | apply Zl6 | apply Zl7 | apply Zl8 | apply Zl9 | apply Zla | apply Zlb | apply Zlc) | (dsimp only; with_reducible first | apply Zl8 | apply Zl2 | apply Zld) | with_reducible assumption | omega | (dsimp only; omega))))).mono ?_
  rintro _ _ ⟨rfl, y, rfl⟩
  have hby : Below w.heap.size w y.w := by (repeat' (first | (with_reducible first | apply Zl1 | apply Zl2 | apply Zl3 | apply Zl4 | apply Zl5 | apply Zl6 | apply Zl7 | apply Zl8 | apply Zl9 | apply Zla | apply Zlb | apply Zlc) | (dsimp only; with_reducible first | apply Zl8 | apply Zl2 | apply Zld) | with_reducible assumption | omega | (dsimp only; omega)))
  have ho0 := obj_in y.below (World.alloc_heap_new w (.cells #[.slice ga L.length gc, .slice oa O.length oc] 25 (0, 0)))
  obtain ⟨y0, y1, -⟩ := box2 ho0
  have HO0 := Lib.hid ho0
  have HBY := Lib.hid hby
  have hys := y.size_le
  clear ho0 hby
  dsimp only
  go_wp2_with fail
  go_loopw [3] (fun iv wr => ∃ k : Nat, iv = .int .i64 (k : Int) ∧ k ≤ L.length ∧ ((L.take k).all fun x => decide (x.2.2.length ≤ 8)) = true ∧ Below y.w.heap.size y.w wr) (fun iv _ => L.length - (intOf iv).toNat)
  case atStart => exact ⟨0, rfl, by omega, rfl, Below.refl _ _⟩
  case round =>
    obtain ⟨k, rfl, hk, hA, hb⟩ := hrel
    have HA := Lib.hid hA
    have hbw := HBY.out.trans (hb.mono HBY.out.size)
    obtain ⟨c0, c1, -⟩ := box2 (obj_in hb HO0.out)
    have HBW := Lib.hid hbw
    have HB := Lib.hid hb
    clear hA y0 y1 hb
    rcases Nat.lt_or_ge k L.length with hkl | hkl
    · obtain ⟨x, hx⟩ := some_at hkl
      obtain ⟨b0, off, hadd, hb0, ax, cx, x0, x1, x2, -⟩ := (HG.out.of hbw).at hx
      subst hadd
      have f2 : decide ((k : Int) < (L.length : Int)) = true := decide_eq_true (by omega)
      have hib : (0 ≤ (k : Int) ∧ (k : Int) < (L.length : Int)) := ⟨by omega, by omega⟩
      have HX := Lib.hid hx
      clear hx hbw
      by_cases h8 : x.2.2.length ≤ 8
      · have f3 : decide (8 < (x.2.2.length : Int)) = false := decide_eq_false (by omega)
        have H8 := Lib.hid h8
        clear h8
        go_wp2
        go_roundw
        case rel =>
          refine ⟨k + 1, by go_num, by omega, ?_, HB.out⟩
          rw [List.take_add_one, HX.out, List.all_append, HA.out]
          simp [H8.out]
        case measure => simp [intOf]; omega
      · have f3 : decide (8 < (x.2.2.length : Int)) = true := decide_eq_true (by omega)
        have hq0 : q = false := by
          rw [← HQ.out, List.all_eq_false]
          exact ⟨x, List.mem_of_getElem? HX.out, by simpa using h8⟩
        subst hq0
        clear h8
        have hw1 := HBW.out
        go_wp2
        go_ret
        exact Ret.mk (by rfl) (by (repeat' (first | (with_reducible first | apply Zl1 | apply Zl2 | apply Zl3 | apply Zl4 | apply Zl5 | apply Zl6 | apply Zl7 | apply Zl8 | apply Zl9 | apply Zla | apply Zlb | apply Zlc) | (dsimp only; with_reducible first | apply Zl8 | apply Zl2 | apply Zld) | with_reducible assumption | omega | (dsimp only; omega))))
    · have hke : k = L.length := by omega
      subst hke
      have f2 : decide ((L.length : Int) < (L.length : Int)) = false := decide_eq_false (by omega)
      have h := HA.out
      rw [List.take_length] at h
      have hq1 : q = true := by rw [← HQ.out, h]
      subst hq1
      clear h
      go_wp2
      go_ret
      exact Ret.mk (by rfl) (by (repeat' (first | (with_reducible first | apply Zl1 | apply Zl2 | apply Zl3 | apply Zl4 | apply Zl5 | apply Zl6 | apply Zl7 | apply Zl8 | apply Zl9 | apply Zla | apply Zlb | apply Zlc) | (dsimp only; with_reducible first | apply Zl8 | apply Zl2 | apply Zld) | with_reducible assumption | omega | (dsimp only; omega))))
end Go.Proofs.YtlnedapimmabdaaGreatDoor

namespace Go.Proofs.YtlnedapimmabdaaGreatDoor
set_option linter.unusedVariables false
set_option linter.unusedSimpArgs false
open Go.RowKit
attribute [local go_sem low] Bel.cell Bel.frozen alloc_cell alloc_frozen

def KeepX (v : Value) (w w' : World) : Prop := ∀ b, b < w.heap.size → v.ownBlock ≠ some b → w'.heap[b]? = w.heap[b]?
variable {Pc : Nat → Prop}
theorem wpList_appZ2 {P : Program} {ops : Array Oper} {rest : List Oper} {o : Oper} {a : Act} {Q : Exit → Act → World → Prop} (hgd : o.guard = none) (s x : Operand) (T E : TypeId)
    (ho : o.op = .call { callee := .builtin .append, args := #[s, x], argTypes := #[T, T] }) (i : TypeInfo) (ht : P.underlying T = some (.slice E)) (hi : P.info? E = some i)
    (hz : i.zero = some (.agg #[.int .i64 0, .int .i64 0, .slice none 0 0])) (hsize : i.size = 3) (hby : i.bytes = 40) (W : World) (base : Nat) (v : Value) (L : List GZ) (u : GZ) (ad : Option Addr) (cap g0 : Nat)
    (hs : a.eval s = v) (hown : OwnZ Pc W base E v L) (hch : InS (fun b => Pc b ∧ v.ownBlock ≠ some b) W ad u.2.2) (hx : a.eval x = .slice (some ⟨g0, 0, none⟩) 1 1) (hsrc : W.heap[g0]? = some (.cells #[.int .i64 u.1, .int .i64 u.2.1, .slice ad u.2.2.length cap] E (0, 0))) (hn : L.length ≤ 100000000) (hbase : base ≤ W.heap.size)
    (h : ∀ g c w1, OwnZ Pc w1 base E (.slice (some ⟨g, 0, none⟩) (L.length + 1) c) (L ++ [u]) → Below base W w1 → W.heap.size ≤ w1.heap.size → KeepX v W w1 → (v.ownBlock = some g ∨ g = W.heap.size) → wpList P ops Q rest (a.put o.dst (.slice (some ⟨g, 0, none⟩) (L.length + 1) c)) w1) :
    wpList P ops Q (o :: rest) a W := by
  have hob := fun b => ownZ_block (b := b) hown
  obtain ⟨us, h1, h2, h3⟩ := hown
  have hlen : us.length = L.length := by rw [← h1, List.length_map]
  rw [← hlen] at h2
  refine wpList_append_own_at _ hgd s x T ho base E i _ 3 40 ht hi hz hsize hby rfl (by decide) v us.length (cellsZ us) hs h2 ⟨g0, 0, none⟩ 1 1 [.int .i64 u.1, .int .i64 u.2.1, .slice ad u.2.2.length cap] hx rfl ?_ ?_ (by unfold maxLen; omega) (by omega) hbase ?_
  · intro j z hj
    match j, hj with
    | 0, hj => simp at hj; subst hj; simp [Addr.add, World.cell?, hsrc]
    | 1, hj => simp at hj; subst hj; simp [Addr.add, World.cell?, hsrc]
    | 2, hj => simp at hj; subst hj; simp [Addr.add, World.cell?, hsrc]
  · intro z hz
    simp at hz
    rcases hz with rfl | rfl | rfl <;> rfl
  · intro v' w1 hrow hg hnil h5
    have hof := ownZ_app h2 h3 hch hrow hg h5
    rw [h1] at hof
    obtain ⟨g, c, rfl⟩ : ∃ g c, v' = .slice (some ⟨g, 0, none⟩) (L.length + 1) c := by
      rcases hrow.2 with ⟨_, h0⟩ | ⟨g, cp, cur, hv, _⟩
      · omega
      · exact ⟨g, cp, by rw [hv, hlen]⟩
    refine h g c w1 hof ((Below.refl _ W).grown hg hbase (fun k hk => (hob k hk).1)) hg.size (fun b hb hne => hg.block b hb (fun e => hne e.symm)) ?_
    rcases h5 with h5 | h5
    · exact .inl h5.symm
    · right
      injection h5
theorem idxOf_at {g : Gt} : ∀ {l : List Gt} {k : Nat}, l[k]? = some g → (∀ j, j < k → l[j]? ≠ some g) → l.idxOf g = k
  | [], k, h, _ => by simp at h
  | x :: r, 0, h, _ => by
    injection h with h
    rw [h, List.idxOf_cons_self]
  | x :: r, k + 1, h, hn => by
    have hx : x ≠ g := fun e => hn 0 (Nat.succ_pos _) (by rw [e]; rfl)
    rw [List.idxOf_cons, beq_eq_false_iff_ne.2 hx, cond_false, idxOf_at (l := r) h fun j hj => hn (j + 1) (by omega)]
def FindR (Pc : Nat → Prop) (L : List Gt) (g : Gt) (base : Nat) (v : Value) (w : World) (e : Ending) (w' : World) : Prop := ∃ v', e = .returned (.tuple #[v', .int .i64 ((findG L g).2 : Int)]) ∧ OwnZ Pc w' base 45 v' ((findG L g).1.map gz) ∧ Below base w w' ∧ w.heap.size ≤ w'.heap.size ∧ KeepX v w w' ∧ (∀ b, v'.ownBlock = some b → v.ownBlock = some b ∨ w.heap.size ≤ b)
theorem Tryz.infoG : (Tryz.prog.info? 45).map (fun i => (i.zero, i.size, i.bytes)) = some (some (.agg #[.int .i64 0, .int .i64 0, .slice none 0 0]), 3, 40) := by kernel_rfl
set_option maxRecDepth 100000 in
set_option maxHeartbeats 6400000 in
theorem find_any (L : List Gt) (g : Gt) (base : Nat) (v : Value) (ga : Option Addr) (gc : Nat) (w : World) (hb : base ≤ w.heap.size) (hown : OwnZ Pc w base 45 v (L.map gz)) (hg : InS (fun b => Pc b ∧ v.ownBlock ≠ some b) w ga (intsN g.2.2)) (hl : L.length ≤ 1000000) (hLl : ∀ x ∈ L, x.2.2.length ≤ 1000000) (hgl : g.2.2.length ≤ 1000000) :
    Calls Tryz.prog 36 #[v, gV (gz g) ga gc] w (FindR Pc L g base v w) := by
  obtain ⟨i0, hi0, hz0, hz1, hz2⟩ := info_parts Tryz.infoG
  have HZ := Lib.hid (And.intro hi0 (And.intro hz0 (And.intro hz1 hz2)))
  clear hi0 hz0 hz1 hz2
  obtain ⟨a, c, hv⟩ := ownZ_val hown
  rw [List.length_map] at hv
  subst hv
  obtain ⟨ad, cap, hv2, hin⟩ := ownZ_in hown
  injection hv2 with hv2 hv3 hv4
  subst hv2 hv4
  clear hv3
  have HIN := Lib.hid hin
  have HOW := Lib.hid hown
  have HG := Lib.hid hg
  have HLL := Lib.hid hLl
  clear hown hg hin hLl
  unfold gV gz
  dsimp only
  rw [List.length_map]
  have hbx : (w.alloc (.cells #[.int .i64 (g.1 : Int), .int .i64 (g.2.1 : Int), .slice ga g.2.2.length gc] 45 (0, 0))).heap[w.heap.size]? = some (.cells #[.int .i64 (g.1 : Int), .int .i64 (g.2.1 : Int), .slice ga g.2.2.length gc] 45 (0, 0)) := World.alloc_heap_new ..
  have HBX := Lib.hid hbx
  clear hbx
  go_enter Tryz.func36, Tryz.ntmps36
  go_wp2_with fail
  go_loopw [6] (fun iv wr => ∃ k : Nat, iv = .int .i64 (k : Int) ∧ k ≤ L.length ∧ (∀ j, j < k → L[j]? ≠ some g) ∧ Below (w.heap.size + 1) (w.alloc (.cells #[.int .i64 (g.1 : Int), .int .i64 (g.2.1 : Int), .slice ga g.2.2.length gc] 45 (0, 0))) wr) (fun iv _ => L.length - (intOf iv).toNat)
  case atStart => exact ⟨0, rfl, by omega, fun j h => by omega, Below.refl _ _⟩
  case round =>
    obtain ⟨k, rfl, hk, hA, hbe⟩ := hrel
    have HA := Lib.hid hA
    have hws : w.heap.size + 1 ≤ wr.heap.size := by have := hbe.size; simp at this; omega
    have hbw : Below w.heap.size w wr := ((Below.refl _ w).alloc (Nat.le_refl _) _).trans (hbe.mono (by omega))
    obtain ⟨c0, c1, c2⟩ := box3 (obj_below hbe (by omega) HBX.out)
    have HBW := Lib.hid hbw
    have HBE := Lib.hid hbe
    clear hA hbe
    rcases Nat.lt_or_ge k L.length with hkl | hkl
    · obtain ⟨x, hx⟩ := some_at hkl
      obtain ⟨b0, off, hadd, hb0, ax, cx, x0, x1, x2, hix⟩ := (HIN.out.of hbw).at (show (L.map gz)[k]? = some (gz x) by rw [List.getElem?_map, hx]; rfl)
      subst hadd
      have hgl2 := HLL.out x (List.mem_of_getElem? hx)
      have f1 : decide ((k : Int) < (L.length : Int)) = true := decide_eq_true (by omega)
      have hib : (0 ≤ (k : Int) ∧ (k : Int) < (L.length : Int)) := ⟨by omega, by omega⟩
      have HX := Lib.hid hx
      dsimp only [gz] at x0 x1 x2 hix
      rw [List.length_map] at x2
      have HSM := Lib.hid (fun w' (h : Below wr.heap.size wr w') => (show Calls Tryz.prog 60 #[.slice ax x.2.2.length cx, .slice ga g.2.2.length gc] w' (Ret (.bool (decide (x.2.2 = g.2.2))) w') from by
        have := same_any (intsN x.2.2) (intsN g.2.2) _ _ ax ga cx gc w' (hix.of h) ((HG.out.of hbw).of h) (by unfold intsN; rw [List.length_map]; omega) (by unfold intsN; rw [List.length_map]; omega)
        have e : decide (intsN x.2.2 = intsN g.2.2) = decide (x.2.2 = g.2.2) := decide_eq_decide.2 ⟨fun h => (List.map_inj_right (fun a b h => by omega)).1 h, fun h => by rw [h]⟩
        rw [e] at this
        unfold intsN at this
        rwa [List.length_map, List.length_map] at this))
      clear hx hix hbw
      by_cases hk1 : x.1 = g.1
      · have f2 : ((x.1 : Int) == (g.1 : Int)) = true := by simp [hk1]
        by_cases hk2 : x.2.1 = g.2.1
        · have f3 : ((x.2.1 : Int) == (g.2.1 : Int)) = true := by simp [hk2]
          obtain ⟨q, hq⟩ : ∃ q, decide (x.2.2 = g.2.2) = q := ⟨_, rfl⟩
          rw [hq] at HSM
          cases q
          · have hne : x ≠ g := fun e => of_decide_eq_false hq (by rw [e])
            have HNE := Lib.hid hne
            clear hk1 hk2 hq hne
            go_wp2_with fail
            refine wp_region_bel (by kernel_rfl) (by kernel_rfl) ?_
            repeat (go_big_quiet_step ((go_at_call 60; with_reducible refine bel_of (HSM.out _ ?_); (repeat' (first | (with_reducible first | apply Zl1 | apply Zl2 | apply Zl3 | apply Zl4 | apply Zl5 | apply Zl6 | apply Zl7 | apply Zl8 | apply Zl9 | apply Zla | apply Zlb | apply Zlc) | (dsimp only; with_reducible first | apply Zl8 | apply Zl2 | apply Zld) | with_reducible assumption | omega | (dsimp only; omega))))))
            refine wpQuiet_nil ?_
            rintro _ ⟨z9, rfl⟩
            go_wp2
            go_roundw
            case rel =>
              refine ⟨k + 1, by go_num, by omega, fun j hj => ?_, HBE.out.trans (z9.below.mono hws)⟩
              rcases Nat.lt_or_ge j k with h | h
              · exact HA.out j h
              · obtain rfl : j = k := by omega
                rw [HX.out]
                intro e
                injection e with e
                exact HNE.out e
            case measure => simp [intOf]; omega
          · have heq : x = g := Prod.ext hk1 (Prod.ext hk2 (of_decide_eq_true hq))
            have HEQ := Lib.hid heq
            clear hk1 hk2 hq heq
            go_wp2_with fail
            refine wp_region_bel (by kernel_rfl) (by kernel_rfl) ?_
            repeat (go_big_quiet_step ((go_at_call 60; with_reducible refine bel_of (HSM.out _ ?_); (repeat' (first | (with_reducible first | apply Zl1 | apply Zl2 | apply Zl3 | apply Zl4 | apply Zl5 | apply Zl6 | apply Zl7 | apply Zl8 | apply Zl9 | apply Zla | apply Zlb | apply Zlc) | (dsimp only; with_reducible first | apply Zl8 | apply Zl2 | apply Zld) | with_reducible assumption | omega | (dsimp only; omega))))))
            refine wpQuiet_nil ?_
            rintro _ ⟨z9, rfl⟩
            go_wp2
            have hbz : Below w.heap.size w z9.w := HBW.out.trans (z9.below.mono (by omega))
            have hm : g ∈ L := by rw [← HEQ.out]; exact List.mem_of_getElem? HX.out
            have hix2 : L.idxOf g = k := idxOf_at (by rw [HX.out, HEQ.out]) HA.out
            refine bodyPost_ret (v := .tuple #[.slice (some ⟨b0, off, none⟩) L.length c, .int .i64 (k : Int)]) (by simp [results, Tryz.results36, go_sem]) rfl ⟨.slice (some ⟨b0, off, none⟩) L.length c, ?_, ?_, hbz.mono hb, hbz.size, fun b hlt _ => hbz.block b hlt, fun b h => .inl h⟩
            · rw [findG, if_pos hm, hix2]
            · rw [findG, if_pos hm]
              exact ownZ_bel HOW.out hbz
        · have f3 : ((x.2.1 : Int) == (g.2.1 : Int)) = false := by simp; omega
          have HNE := Lib.hid (show x ≠ g from fun e => hk2 (by rw [e]))
          clear hk1 hk2 HSM
          go_wp2_with fail
          refine wp_region_bel (by kernel_rfl) (by kernel_rfl) ?_
          repeat (go_big_quiet_step (fail))
          refine wpQuiet_nil ?_
          rintro _ ⟨z9, rfl⟩
          go_wp2
          go_roundw
          case rel =>
            refine ⟨k + 1, by go_num, by omega, fun j hj => ?_, HBE.out.trans (z9.below.mono hws)⟩
            rcases Nat.lt_or_ge j k with h | h
            · exact HA.out j h
            · obtain rfl : j = k := by omega
              rw [HX.out]
              intro e
              injection e with e
              exact HNE.out e
          case measure => simp [intOf]; omega
      · have f2 : ((x.1 : Int) == (g.1 : Int)) = false := by simp; omega
        have HNE := Lib.hid (show x ≠ g from fun e => hk1 (by rw [e]))
        clear hk1 HSM
        go_wp2_with fail
        refine wp_region_bel (by kernel_rfl) (by kernel_rfl) ?_
        repeat (go_big_quiet_step (fail))
        refine wpQuiet_nil ?_
        rintro _ ⟨z9, rfl⟩
        go_wp2
        go_roundw
        case rel =>
          refine ⟨k + 1, by go_num, by omega, fun j hj => ?_, HBE.out.trans (z9.below.mono hws)⟩
          rcases Nat.lt_or_ge j k with h | h
          · exact HA.out j h
          · obtain rfl : j = k := by omega
            rw [HX.out]
            intro e
            injection e with e
            exact HNE.out e
        case measure => simp [intOf]; omega
    · have hke : k = L.length := by omega
      subst hke
      have f1 : decide ((L.length : Int) < (L.length : Int)) = false := decide_eq_false (by omega)
      have hm : ¬ g ∈ L := fun h => by
        obtain ⟨j, hj⟩ := List.mem_iff_getElem?.1 h
        exact HA.out j (List.getElem?_eq_some_iff.1 hj).1 hj
      have HM := Lib.hid hm
      have hYb : Below wr.heap.size wr (wr.alloc (.cells #[.int .i64 (g.1 : Int), .int .i64 (g.2.1 : Int), .slice ga g.2.2.length gc] 45 (0, 0))) := (Below.refl _ wr).alloc (Nat.le_refl _) _
      have HY := Lib.hid hYb
      clear hm hYb hbw
      go_wp2_with (at_builtin; refine wpList_appZ2 rfl _ _ 22 45 rfl i0 Tryz.underlying22 HZ.out.1 HZ.out.2.1 HZ.out.2.2.1 HZ.out.2.2.2 _ base (.slice a L.length c) (L.map gz) (gz g) ga gc wr.heap.size rfl (ownZ_bel HOW.out (HBW.out.trans (HY.out.mono (by omega)))) (HG.out.of (HBW.out.trans (HY.out.mono (by omega)))) rfl (by rw [show (gz g).2.2.length = g.2.2.length from List.length_map ..]; exact World.alloc_heap_new wr _) (by rw [List.length_map]; omega) (by simp; omega) ?_; intro g1 c1 w1 ho1 hb1 hs1 hk1 hg1; rw [List.length_map])
      have hws2 : (wr.alloc (.cells #[.int .i64 (g.1 : Int), .int .i64 (g.2.1 : Int), .slice ga g.2.2.length gc] 45 (0, 0))).heap.size = wr.heap.size + 1 := World.size_alloc ..
      refine bodyPost_ret (v := .tuple #[.slice (some ⟨g1, 0, none⟩) (L.length + 1) c1, .int .i64 (L.length : Int)]) (by simp [results, Tryz.results36, go_sem]) rfl ⟨.slice (some ⟨g1, 0, none⟩) (L.length + 1) c1, ?_, ?_, ?_, ?_, fun b hlt hne => ?_, fun b h => ?_⟩
      · rw [findG, if_neg HM.out]
      · rw [findG, if_neg HM.out, List.map_append]
        rw [List.length_map] at ho1
        exact ho1
      · exact (HBW.out.mono hb).trans ((HY.out.mono (by omega)).trans hb1)
      · have := HBW.out.size
        omega
      · have e1 := hk1 b (by omega) hne
        rw [e1, HY.out.block b (by omega), HBW.out.block b hlt]
      · have hb2 : g1 = b := by simpa [Value.ownBlock] using h
        subst hb2
        rcases hg1 with h | h
        · exact .inl h
        · right
          omega
end Go.Proofs.YtlnedapimmabdaaGreatDoor

namespace Go.Proofs.YtlnedapimmabdaaGreatDoor
set_option linter.unusedVariables false
set_option linter.unusedSimpArgs false
open Go.RowKit
attribute [local go_sem low] Bel.cell Bel.frozen alloc_cell alloc_frozen

theorem mkGate_any (k a : Int) (ad : Option Addr) (n c : Nat) (w : World) : Calls Tryz.prog 30 #[.int .i64 k, .int .i64 a, .slice ad n c] w (Ret (.agg #[.int .i64 k, .int .i64 a, .slice ad n c]) w) := by
  go_enter Tryz.func30, Tryz.ntmps30
  go_wp2
  refine bodyPost_ret (v := .agg #[.int .i64 k, .int .i64 a, .slice ad n c]) (by simp [results, Tryz.results30, go_sem]) rfl (Ret.mk rfl (by (repeat' (first | (with_reducible first | apply Zl1 | apply Zl2 | apply Zl3 | apply Zl4 | apply Zl5 | apply Zl6 | apply Zl7 | apply Zl8 | apply Zl9 | apply Zla | apply Zlb | apply Zlc) | (dsimp only; with_reducible first | apply Zl8 | apply Zl2 | apply Zld) | with_reducible assumption | omega | (dsimp only; omega)))))
end Go.Proofs.YtlnedapimmabdaaGreatDoor
