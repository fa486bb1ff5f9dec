/- Itoa and Text. -/
import Derived.Test.YtoncbkkhfblpdaaDoorBase
import Derived.Test.YtoncbkkhfblpdaaDoorShelf
import Derived.Test.YtoncbkkhfblpdaaDoorC
import Derived.Sort.Grow
import Derived.WalkSmall
import Derived.Lib.ItoaLen
namespace Go.Proofs.YtoncbkkhfblpdaaDoor
open Go.RowKit
attribute [local go_sem] Bel.cell Bel.frozen
attribute [local go_sem low] alloc_cell alloc_frozen

/-- The library's table of powers lies in the world. -/
def Tab (w : World) : Prop := Lib.TabIs Tryd.prog w "internal/strconv.uint64pow10" .u64 Lib.pow10Tab
theorem gTab : Tryd.prog.globalNamed "internal/strconv.uint64pow10" = some 0 := by kernel_rfl
theorem Tab.of {w w' : World} (h : Tab w) (hb : Below w.heap.size w w') : Tab w' := by
  have hlt : 0 < w.heap.size := by
    have h' := h
    unfold Tab Lib.TabIs World.var? at h'
    simp only [gTab, Option.bind_some] at h'
    refine Nat.pos_of_ne_zero fun h0 => ?_
    rw [Array.getElem?_eq_none (by omega)] at h'
    cases h'
  exact var?_below hb gTab hlt h

def str (l : List UInt8) : Value := .string ⟨l.toArray⟩
theorem below_grow (w : World) (k : Nat) (os : Array Obj) : Below w.heap.size w (Sort.grow (w.drewN k) os) :=
  ⟨rfl, rfl, rfl, by simp [Sort.grow], fun i hi => by
    show (w.heap ++ os)[i]? = _
    rw [Array.getElem?_append, if_pos hi]⟩
theorem itoa_any (n : Int) (w : World) (h0 : -9223372036854775808 ≤ n) (h1 : n ≤ 9223372036854775807) (hT : Tab w) :
    Calls Tryd.prog 51 #[.int .i64 n] w (Ret (.string ⟨(Lib.itoa n).toArray⟩) w) :=
  (Tryd.strconv_Itoa n h0 h1 w hT).mono fun _ _ ⟨he, k, os, hw⟩ => ⟨he, ⟨_, below_grow w k os⟩, hw⟩

/-- The text of a fraction. -/
def textL (n d : Int) : List UInt8 :=
  (if n < 0 then [45] else []) ++
  (if (n.natAbs : Int) % d = 0 then Lib.itoa (n.natAbs / d)
   else if (n.natAbs : Int) / d = 0 then Lib.itoa (n.natAbs % d) ++ [47] ++ Lib.itoa d
   else Lib.itoa (n.natAbs / d) ++ [32] ++ Lib.itoa (n.natAbs % d) ++ [47] ++ Lib.itoa d)

theorem textL_zero {n d m q r : Int} (s : List UInt8) (hs : s = if n < 0 then [45] else []) (hm : m = n.natAbs) (hq : m / d = q) (hr : m % d = r) (h : r = 0) : s ++ Lib.itoa q = textL n d := by
  subst hs; rw [hm] at hq hr; unfold textL; rw [hq, hr, if_pos h]
theorem textL_part {n d m q r : Int} (s : List UInt8) (hs : s = if n < 0 then [45] else []) (hm : m = n.natAbs) (hq : m / d = q) (hr : m % d = r) (h : ¬ r = 0) (h0 : q = 0) : s ++ (Lib.itoa r ++ (47 :: Lib.itoa d)) = textL n d := by
  subst hs; rw [hm] at hq hr; unfold textL; rw [hq, hr, if_neg h, if_pos h0]; simp
theorem textL_full {n d m q r : Int} (s : List UInt8) (hs : s = if n < 0 then [45] else []) (hm : m = n.natAbs) (hq : m / d = q) (hr : m % d = r) (h : ¬ r = 0) (h0 : ¬ q = 0) : s ++ (Lib.itoa q ++ (32 :: (Lib.itoa r ++ (47 :: Lib.itoa d)))) = textL n d := by
  subst hs; rw [hm] at hq hr; unfold textL; rw [hq, hr, if_neg h, if_neg h0]; simp
theorem strB_eq {x : ByteArray} {m : List UInt8} (h : x.data.toList = m) : Value.tuple #[.string x, .int .i64 0] = .tuple #[.string ⟨m.toArray⟩, .int .i64 0] := by
  subst h; rfl
theorem str_eq {l m : List UInt8} (h : l = m) : Value.tuple #[.string ⟨l.toArray⟩, .int .i64 0] = .tuple #[.string ⟨m.toArray⟩, .int .i64 0] := by rw [h]

set_option maxHeartbeats 3200000 in
theorem text_any (n d : Int) (w : World) (hr : right n d = true) (hT : Tab w) :
    Calls Tryd.prog 25 #[.agg #[.int .i64 n, .int .i64 d]] w (Ret (.tuple #[.string ⟨(textL n d).toArray⟩, .int .i64 0]) w) := by
  have hr' := hr
  rw [right, decide_eq_true_iff] at hr'
  obtain ⟨r1, r2, r3, r4, _⟩ := hr'
  have hc := Lib.hid (chk_ok hr)
  have HT := Lib.hid hT
  clear hr hT
  have hd0 : ¬ (d = 0) := by omega
  by_cases hn : n < 0
  · skip
    go_enter Tryd.func25, Tryd.ntmps25
    go_wp2_with fail
    (with_reducible refine (check_any _ _ _).mono ?_)
    rintro _ _ ⟨rfl, x1, rfl⟩
    rw [hc.out]
    go_wp2_with fail
    refine wp_region_bel (by kernel_rfl) (by kernel_rfl) ?_
    repeat (go_big_quiet_step (fail))
    refine wpQuiet_nil ?_
    rintro _ ⟨x2, rfl⟩
    go_wp2_with fail
    obtain ⟨m, hm⟩ : ∃ m : Int, -n = m := ⟨_, rfl⟩
    rw [hm]
    have hma : m = n.natAbs := by omega
    have hs : [45] = if n < 0 then [45] else ([] : List UInt8) := by rw [if_pos hn]
    have hm0 : 0 ≤ m := by omega
    have hm1 : m ≤ 1000000 := by omega
    have HM := Lib.hid hma
    clear hma hm
    have HS := Lib.hid hs
    clear hs
    refine wp_region_bel (by kernel_rfl) (by kernel_rfl) ?_
    repeat (go_big_quiet_step (fail))
    refine wpQuiet_nil ?_
    rintro _ ⟨x3, rfl⟩
    go_wp2_with fail
    have q0 : 0 ≤ m / d := Int.ediv_nonneg (by omega) (by omega)
    have q1 : m / d ≤ m := Int.ediv_le_self _ (by omega)
    have p0 : 0 ≤ m % d := Int.emod_nonneg _ hd0
    have p1 : m % d < d := Int.emod_lt_of_pos _ (by omega)
    generalize hq : m / d = q at *
    generalize hr : m % d = r at *
    have lq := Lib.itoa_length_le q (by omega) (by omega)
    have lr := Lib.itoa_length_le r (by omega) (by omega)
    have ld := Lib.itoa_length_le d (by omega) (by omega)
    have HQ := Lib.hid hq
    have HR := Lib.hid hr
    clear hq hr
    refine wp_region_bel (by kernel_rfl) (by kernel_rfl) ?_
    repeat (go_big_quiet_step ((go_at_call 51; exact bel_of (itoa_any _ _ (by omega) (by omega) (HT.out.of (by (repeat' (first | (with_reducible exact Below.refl _ _) | (with_reducible exact Nat.le_refl _) | (with_reducible refine Below.bel ?_ ?_) | (with_reducible refine Below.alloc ?_ ?_ _) | (with_reducible refine Below.drew ?_) | (with_reducible refine Below.drawsN ?_ _) | (with_reducible refine Below.setCell ?_ ?_ _) | (with_reducible refine le_bel ?_) | (with_reducible refine le_alloc ?_) | (with_reducible refine le_setCell ?_) | (with_reducible refine le_drew ?_) | (with_reducible refine le_drawsN ?_) | (dsimp only; with_reducible refine le_bel ?_) | (dsimp only; with_reducible refine Nat.le_refl _) | (dsimp only; with_reducible refine le_bel_add ?_) | (with_reducible assumption) | omega | (dsimp only; omega)))))))))
    refine wpQuiet_nil ?_
    rintro _ ⟨x4, rfl⟩
    by_cases hr0 : r = 0
    · have e1 : (r == 0) = true := by simpa using hr0
      have HZ := Lib.hid hr0
      clear hr0
      go_wp2_with fail
      (with_reducible refine (itoa_any _ _ (by omega) (by omega) (HT.out.of (by (repeat' (first | (with_reducible exact Below.refl _ _) | (with_reducible exact Nat.le_refl _) | (with_reducible refine Below.bel ?_ ?_) | (with_reducible refine Below.alloc ?_ ?_ _) | (with_reducible refine Below.drew ?_) | (with_reducible refine Below.drawsN ?_ _) | (with_reducible refine Below.setCell ?_ ?_ _) | (with_reducible refine le_bel ?_) | (with_reducible refine le_alloc ?_) | (with_reducible refine le_setCell ?_) | (with_reducible refine le_drew ?_) | (with_reducible refine le_drawsN ?_) | (dsimp only; with_reducible refine le_bel ?_) | (dsimp only; with_reducible refine Nat.le_refl _) | (dsimp only; with_reducible refine le_bel_add ?_) | (with_reducible assumption) | omega | (dsimp only; omega)))))).mono ?_)
      rintro _ _ ⟨rfl, x5, rfl⟩
      go_wp2
      go_ret2
      exact Ret.mk (str_eq (textL_zero [45] HS.out HM.out HQ.out HR.out HZ.out)) (by (repeat' (first | (with_reducible exact Below.refl _ _) | (with_reducible exact Nat.le_refl _) | (with_reducible refine Below.bel ?_ ?_) | (with_reducible refine Below.alloc ?_ ?_ _) | (with_reducible refine Below.drew ?_) | (with_reducible refine Below.drawsN ?_ _) | (with_reducible refine Below.setCell ?_ ?_ _) | (with_reducible refine le_bel ?_) | (with_reducible refine le_alloc ?_) | (with_reducible refine le_setCell ?_) | (with_reducible refine le_drew ?_) | (with_reducible refine le_drawsN ?_) | (dsimp only; with_reducible refine le_bel ?_) | (dsimp only; with_reducible refine Nat.le_refl _) | (dsimp only; with_reducible refine le_bel_add ?_) | (with_reducible assumption) | omega | (dsimp only; omega))))
    have e1 : (r == 0) = false := by simpa using hr0
    have HZ := Lib.hid hr0
    clear hr0
    by_cases hq0 : q = 0
    · have e2 : (q == 0) = true := by simpa using hq0
      have HZ2 := Lib.hid hq0
      clear hq0
      go_wp2
      go_ret2
      exact Ret.mk (strB_eq (by rw [← textL_part [45] HS.out HM.out HQ.out HR.out HZ.out HZ2.out]; simp [ByteArray.data_append])) (by (repeat' (first | (with_reducible exact Below.refl _ _) | (with_reducible exact Nat.le_refl _) | (with_reducible refine Below.bel ?_ ?_) | (with_reducible refine Below.alloc ?_ ?_ _) | (with_reducible refine Below.drew ?_) | (with_reducible refine Below.drawsN ?_ _) | (with_reducible refine Below.setCell ?_ ?_ _) | (with_reducible refine le_bel ?_) | (with_reducible refine le_alloc ?_) | (with_reducible refine le_setCell ?_) | (with_reducible refine le_drew ?_) | (with_reducible refine le_drawsN ?_) | (dsimp only; with_reducible refine le_bel ?_) | (dsimp only; with_reducible refine Nat.le_refl _) | (dsimp only; with_reducible refine le_bel_add ?_) | (with_reducible assumption) | omega | (dsimp only; omega))))
    have e2 : (q == 0) = false := by simpa using hq0
    have HZ2 := Lib.hid hq0
    clear hq0
    go_wp2_with fail
    (with_reducible refine (itoa_any _ _ (by omega) (by omega) (HT.out.of (by (repeat' (first | (with_reducible exact Below.refl _ _) | (with_reducible exact Nat.le_refl _) | (with_reducible refine Below.bel ?_ ?_) | (with_reducible refine Below.alloc ?_ ?_ _) | (with_reducible refine Below.drew ?_) | (with_reducible refine Below.drawsN ?_ _) | (with_reducible refine Below.setCell ?_ ?_ _) | (with_reducible refine le_bel ?_) | (with_reducible refine le_alloc ?_) | (with_reducible refine le_setCell ?_) | (with_reducible refine le_drew ?_) | (with_reducible refine le_drawsN ?_) | (dsimp only; with_reducible refine le_bel ?_) | (dsimp only; with_reducible refine Nat.le_refl _) | (dsimp only; with_reducible refine le_bel_add ?_) | (with_reducible assumption) | omega | (dsimp only; omega)))))).mono ?_)
    rintro _ _ ⟨rfl, x5, rfl⟩
    go_wp2
    go_ret2
    exact Ret.mk (strB_eq (by rw [← textL_full [45] HS.out HM.out HQ.out HR.out HZ.out HZ2.out]; simp [ByteArray.data_append])) (by (repeat' (first | (with_reducible exact Below.refl _ _) | (with_reducible exact Nat.le_refl _) | (with_reducible refine Below.bel ?_ ?_) | (with_reducible refine Below.alloc ?_ ?_ _) | (with_reducible refine Below.drew ?_) | (with_reducible refine Below.drawsN ?_ _) | (with_reducible refine Below.setCell ?_ ?_ _) | (with_reducible refine le_bel ?_) | (with_reducible refine le_alloc ?_) | (with_reducible refine le_setCell ?_) | (with_reducible refine le_drew ?_) | (with_reducible refine le_drawsN ?_) | (dsimp only; with_reducible refine le_bel ?_) | (dsimp only; with_reducible refine Nat.le_refl _) | (dsimp only; with_reducible refine le_bel_add ?_) | (with_reducible assumption) | omega | (dsimp only; omega))))
  · have HS := Lib.hid (show [] = if n < 0 then [45] else ([] : List UInt8) by rw [if_neg hn])
    go_enter Tryd.func25, Tryd.ntmps25
    go_wp2_with fail
    (with_reducible refine (check_any _ _ _).mono ?_)
    rintro _ _ ⟨rfl, x1, rfl⟩
    rw [hc.out]
    go_wp2_with fail
    refine wp_region_bel (by kernel_rfl) (by kernel_rfl) ?_
    repeat (go_big_quiet_step (fail))
    refine wpQuiet_nil ?_
    rintro _ ⟨x2, rfl⟩
    go_wp2_with fail
    obtain ⟨m, hm⟩ : ∃ m : Int, n = m := ⟨_, rfl⟩
    have hma : m = n.natAbs := by omega
    have hma' : n = n.natAbs := by omega
    have hm0 : 0 ≤ m := by omega
    have hm1 : m ≤ 1000000 := by omega
    have HM := Lib.hid hma'
    clear hma hm hma' hm0 hm1
    clear m
    have hn0 : 0 ≤ n := by omega
    refine wp_region_bel (by kernel_rfl) (by kernel_rfl) ?_
    repeat (go_big_quiet_step (fail))
    refine wpQuiet_nil ?_
    rintro _ ⟨x3, rfl⟩
    go_wp2_with fail
    have q0 : 0 ≤ n / d := Int.ediv_nonneg (by omega) (by omega)
    have q1 : n / d ≤ n := Int.ediv_le_self _ (by omega)
    have p0 : 0 ≤ n % d := Int.emod_nonneg _ hd0
    have p1 : n % d < d := Int.emod_lt_of_pos _ (by omega)
    generalize hq : n / d = q at *
    generalize hr : n % d = r at *
    have lq := Lib.itoa_length_le q (by omega) (by omega)
    have lr := Lib.itoa_length_le r (by omega) (by omega)
    have ld := Lib.itoa_length_le d (by omega) (by omega)
    have HQ := Lib.hid hq
    have HR := Lib.hid hr
    clear hq hr
    refine wp_region_bel (by kernel_rfl) (by kernel_rfl) ?_
    repeat (go_big_quiet_step ((go_at_call 51; exact bel_of (itoa_any _ _ (by omega) (by omega) (HT.out.of (by (repeat' (first | (with_reducible exact Below.refl _ _) | (with_reducible exact Nat.le_refl _) | (with_reducible refine Below.bel ?_ ?_) | (with_reducible refine Below.alloc ?_ ?_ _) | (with_reducible refine Below.drew ?_) | (with_reducible refine Below.drawsN ?_ _) | (with_reducible refine Below.setCell ?_ ?_ _) | (with_reducible refine le_bel ?_) | (with_reducible refine le_alloc ?_) | (with_reducible refine le_setCell ?_) | (with_reducible refine le_drew ?_) | (with_reducible refine le_drawsN ?_) | (dsimp only; with_reducible refine le_bel ?_) | (dsimp only; with_reducible refine Nat.le_refl _) | (dsimp only; with_reducible refine le_bel_add ?_) | (with_reducible assumption) | omega | (dsimp only; omega)))))))))
    refine wpQuiet_nil ?_
    rintro _ ⟨x4, rfl⟩
    by_cases hr0 : r = 0
    · have e1 : (r == 0) = true := by simpa using hr0
      have HZ := Lib.hid hr0
      clear hr0
      go_wp2_with fail
      (with_reducible refine (itoa_any _ _ (by omega) (by omega) (HT.out.of (by (repeat' (first | (with_reducible exact Below.refl _ _) | (with_reducible exact Nat.le_refl _) | (with_reducible refine Below.bel ?_ ?_) | (with_reducible refine Below.alloc ?_ ?_ _) | (with_reducible refine Below.drew ?_) | (with_reducible refine Below.drawsN ?_ _) | (with_reducible refine Below.setCell ?_ ?_ _) | (with_reducible refine le_bel ?_) | (with_reducible refine le_alloc ?_) | (with_reducible refine le_setCell ?_) | (with_reducible refine le_drew ?_) | (with_reducible refine le_drawsN ?_) | (dsimp only; with_reducible refine le_bel ?_) | (dsimp only; with_reducible refine Nat.le_refl _) | (dsimp only; with_reducible refine le_bel_add ?_) | (with_reducible assumption) | omega | (dsimp only; omega)))))).mono ?_)
      rintro _ _ ⟨rfl, x5, rfl⟩
      go_wp2
      go_ret2
      exact Ret.mk (str_eq (textL_zero [] HS.out HM.out HQ.out HR.out HZ.out)) (by (repeat' (first | (with_reducible exact Below.refl _ _) | (with_reducible exact Nat.le_refl _) | (with_reducible refine Below.bel ?_ ?_) | (with_reducible refine Below.alloc ?_ ?_ _) | (with_reducible refine Below.drew ?_) | (with_reducible refine Below.drawsN ?_ _) | (with_reducible refine Below.setCell ?_ ?_ _) | (with_reducible refine le_bel ?_) | (with_reducible refine le_alloc ?_) | (with_reducible refine le_setCell ?_) | (with_reducible refine le_drew ?_) | (with_reducible refine le_drawsN ?_) | (dsimp only; with_reducible refine le_bel ?_) | (dsimp only; with_reducible refine Nat.le_refl _) | (dsimp only; with_reducible refine le_bel_add ?_) | (with_reducible assumption) | omega | (dsimp only; omega))))
    have e1 : (r == 0) = false := by simpa using hr0
    have HZ := Lib.hid hr0
    clear hr0
    by_cases hq0 : q = 0
    · have e2 : (q == 0) = true := by simpa using hq0
      have HZ2 := Lib.hid hq0
      clear hq0
      go_wp2
      go_ret2
      exact Ret.mk (strB_eq (by rw [← textL_part [] HS.out HM.out HQ.out HR.out HZ.out HZ2.out]; simp [ByteArray.data_append])) (by (repeat' (first | (with_reducible exact Below.refl _ _) | (with_reducible exact Nat.le_refl _) | (with_reducible refine Below.bel ?_ ?_) | (with_reducible refine Below.alloc ?_ ?_ _) | (with_reducible refine Below.drew ?_) | (with_reducible refine Below.drawsN ?_ _) | (with_reducible refine Below.setCell ?_ ?_ _) | (with_reducible refine le_bel ?_) | (with_reducible refine le_alloc ?_) | (with_reducible refine le_setCell ?_) | (with_reducible refine le_drew ?_) | (with_reducible refine le_drawsN ?_) | (dsimp only; with_reducible refine le_bel ?_) | (dsimp only; with_reducible refine Nat.le_refl _) | (dsimp only; with_reducible refine le_bel_add ?_) | (with_reducible assumption) | omega | (dsimp only; omega))))
    have e2 : (q == 0) = false := by simpa using hq0
    have HZ2 := Lib.hid hq0
    clear hq0
    go_wp2_with fail
    (with_reducible refine (itoa_any _ _ (by omega) (by omega) (HT.out.of (by (repeat' (first | (with_reducible exact Below.refl _ _) | (with_reducible exact Nat.le_refl _) | (with_reducible refine Below.bel ?_ ?_) | (with_reducible refine Below.alloc ?_ ?_ _) | (with_reducible refine Below.drew ?_) | (with_reducible refine Below.drawsN ?_ _) | (with_reducible refine Below.setCell ?_ ?_ _) | (with_reducible refine le_bel ?_) | (with_reducible refine le_alloc ?_) | (with_reducible refine le_setCell ?_) | (with_reducible refine le_drew ?_) | (with_reducible refine le_drawsN ?_) | (dsimp only; with_reducible refine le_bel ?_) | (dsimp only; with_reducible refine Nat.le_refl _) | (dsimp only; with_reducible refine le_bel_add ?_) | (with_reducible assumption) | omega | (dsimp only; omega)))))).mono ?_)
    rintro _ _ ⟨rfl, x5, rfl⟩
    go_wp2
    go_ret2
    exact Ret.mk (strB_eq (by rw [← textL_full [] HS.out HM.out HQ.out HR.out HZ.out HZ2.out]; simp [ByteArray.data_append])) (by (repeat' (first | (with_reducible exact Below.refl _ _) | (with_reducible exact Nat.le_refl _) | (with_reducible refine Below.bel ?_ ?_) | (with_reducible refine Below.alloc ?_ ?_ _) | (with_reducible refine Below.drew ?_) | (with_reducible refine Below.drawsN ?_ _) | (with_reducible refine Below.setCell ?_ ?_ _) | (with_reducible refine le_bel ?_) | (with_reducible refine le_alloc ?_) | (with_reducible refine le_setCell ?_) | (with_reducible refine le_drew ?_) | (with_reducible refine le_drawsN ?_) | (dsimp only; with_reducible refine le_bel ?_) | (dsimp only; with_reducible refine Nat.le_refl _) | (dsimp only; with_reducible refine le_bel_add ?_) | (with_reducible assumption) | omega | (dsimp only; omega))))
end Go.Proofs.YtoncbkkhfblpdaaDoor
