/- The walk of NotesetReturns. -/
import Derived.Test.YtjojdkdpdlmahaaDoorK
import Derived.Test.YtjojdkdpdlmahaaDoorE3
import Derived.Test.YtjojdkdpdlmahaaDoorE6
namespace Go.Proofs.YtjojdkdpdlmahaaDoor
open Go.RowKit
attribute [local go_sem low] Bel.cell Bel.frozen alloc_cell alloc_frozen

theorem back_has {z : Int} {lo hi n : Nat} (hn : n ∈ mems lo hi) : memI (back z lo hi).1 (back z lo hi).2 (n : Int) = decide (0 ≤ (n : Int) + z ∧ (n : Int) + z ≤ 127) := by
  obtain ⟨h1, h2⟩ := mem_mems.1 hn
  rw [memI_nat, mem_back h1, h2, Bool.true_and]
theorem back_sub {z : Int} {lo hi : Nat} (h1 : lo < 18446744073709551616) (h2 : hi < 18446744073709551616) : sub (back z lo hi).1 (back z lo hi).2 lo hi = true := by
  rw [sub_iff (back_lt _ _ _).1 (back_lt _ _ _).2 h1 h2]
  intro n hn hm
  rw [mem_back hn, Bool.and_eq_true] at hm
  exact hm.1
set_option maxRecDepth 100000 in
set_option maxHeartbeats 3200000 in
theorem lawReturns_far (lo hi : Nat) (z : Int) (w : World) (hL : Lib3 w) (h : z < -200 ∨ 200 < z) :
    Calls Tryd.prog 9 #[.agg #[.int .u64 (lo : Int), .int .u64 (hi : Int)], .int .i64 z] w (Ret (.bool true) w) := by
  have HL := Lib.hid hL
  clear hL
  by_cases h1 : z < -200
  · have e1 : decide (z < -200) = true := decide_eq_true h1
    go_enter Tryd.func9, Tryd.ntmps9
    go_wp2_with fail
    (with_reducible refine (known_any _ (HL.out.of (by (repeat' (first | (with_reducible exact Below.refl _ _) | (with_reducible exact Nat.le_refl _) | (with_reducible refine Below.bel ?_ ?_) | (with_reducible refine Below.alloc ?_ ?_ _) | (with_reducible refine Below.drew ?_) | (with_reducible refine Below.drawsN ?_ _) | (with_reducible refine Below.setCell ?_ ?_ _) | (with_reducible refine le_bel ?_) | (with_reducible refine le_alloc ?_) | (with_reducible refine le_setCell ?_) | (with_reducible refine le_drew ?_) | (with_reducible refine le_drawsN ?_) | (dsimp only; with_reducible refine le_bel ?_) | (dsimp only; with_reducible refine Nat.le_refl _) | (dsimp only; with_reducible refine le_bel_add ?_) | (with_reducible assumption) | omega | (dsimp only; omega)))))).mono ?_)
    rintro _ _ ⟨rfl, x, rfl⟩
    have hxs := x.size_le
    simp at hxs
    go_wp2_with fail
    (with_reducible refine (known_any _ (HL.out.of (by (repeat' (first | (with_reducible exact Below.refl _ _) | (with_reducible exact Nat.le_refl _) | (with_reducible refine Below.bel ?_ ?_) | (with_reducible refine Below.alloc ?_ ?_ _) | (with_reducible refine Below.drew ?_) | (with_reducible refine Below.drawsN ?_ _) | (with_reducible refine Below.setCell ?_ ?_ _) | (with_reducible refine le_bel ?_) | (with_reducible refine le_alloc ?_) | (with_reducible refine le_setCell ?_) | (with_reducible refine le_drew ?_) | (with_reducible refine le_drawsN ?_) | (dsimp only; with_reducible refine le_bel ?_) | (dsimp only; with_reducible refine Nat.le_refl _) | (dsimp only; with_reducible refine le_bel_add ?_) | (with_reducible assumption) | omega | (dsimp only; omega)))))).mono ?_)
    rintro _ _ ⟨rfl, y, rfl⟩
    go_wp2
    go_ret
    exact Ret.mk (by rfl) (by (repeat' (first | (with_reducible exact Below.refl _ _) | (with_reducible exact Nat.le_refl _) | (with_reducible refine Below.bel ?_ ?_) | (with_reducible refine Below.alloc ?_ ?_ _) | (with_reducible refine Below.drew ?_) | (with_reducible refine Below.drawsN ?_ _) | (with_reducible refine Below.setCell ?_ ?_ _) | (with_reducible refine le_bel ?_) | (with_reducible refine le_alloc ?_) | (with_reducible refine le_setCell ?_) | (with_reducible refine le_drew ?_) | (with_reducible refine le_drawsN ?_) | (dsimp only; with_reducible refine le_bel ?_) | (dsimp only; with_reducible refine Nat.le_refl _) | (dsimp only; with_reducible refine le_bel_add ?_) | (with_reducible assumption) | omega | (dsimp only; omega))))
  · have e1 : decide (z < -200) = false := decide_eq_false h1
    have e2 : decide (200 < z) = true := decide_eq_true (by omega)
    go_enter Tryd.func9, Tryd.ntmps9
    go_wp2_with fail
    (with_reducible refine (known_any _ (HL.out.of (by (repeat' (first | (with_reducible exact Below.refl _ _) | (with_reducible exact Nat.le_refl _) | (with_reducible refine Below.bel ?_ ?_) | (with_reducible refine Below.alloc ?_ ?_ _) | (with_reducible refine Below.drew ?_) | (with_reducible refine Below.drawsN ?_ _) | (with_reducible refine Below.setCell ?_ ?_ _) | (with_reducible refine le_bel ?_) | (with_reducible refine le_alloc ?_) | (with_reducible refine le_setCell ?_) | (with_reducible refine le_drew ?_) | (with_reducible refine le_drawsN ?_) | (dsimp only; with_reducible refine le_bel ?_) | (dsimp only; with_reducible refine Nat.le_refl _) | (dsimp only; with_reducible refine le_bel_add ?_) | (with_reducible assumption) | omega | (dsimp only; omega)))))).mono ?_)
    rintro _ _ ⟨rfl, x, rfl⟩
    have hxs := x.size_le
    simp at hxs
    go_wp2_with fail
    (with_reducible refine (known_any _ (HL.out.of (by (repeat' (first | (with_reducible exact Below.refl _ _) | (with_reducible exact Nat.le_refl _) | (with_reducible refine Below.bel ?_ ?_) | (with_reducible refine Below.alloc ?_ ?_ _) | (with_reducible refine Below.drew ?_) | (with_reducible refine Below.drawsN ?_ _) | (with_reducible refine Below.setCell ?_ ?_ _) | (with_reducible refine le_bel ?_) | (with_reducible refine le_alloc ?_) | (with_reducible refine le_setCell ?_) | (with_reducible refine le_drew ?_) | (with_reducible refine le_drawsN ?_) | (dsimp only; with_reducible refine le_bel ?_) | (dsimp only; with_reducible refine Nat.le_refl _) | (dsimp only; with_reducible refine le_bel_add ?_) | (with_reducible assumption) | omega | (dsimp only; omega)))))).mono ?_)
    rintro _ _ ⟨rfl, y, rfl⟩
    go_wp2
    go_ret
    exact Ret.mk (by rfl) (by (repeat' (first | (with_reducible exact Below.refl _ _) | (with_reducible exact Nat.le_refl _) | (with_reducible refine Below.bel ?_ ?_) | (with_reducible refine Below.alloc ?_ ?_ _) | (with_reducible refine Below.drew ?_) | (with_reducible refine Below.drawsN ?_ _) | (with_reducible refine Below.setCell ?_ ?_ _) | (with_reducible refine le_bel ?_) | (with_reducible refine le_alloc ?_) | (with_reducible refine le_setCell ?_) | (with_reducible refine le_drew ?_) | (with_reducible refine le_drawsN ?_) | (dsimp only; with_reducible refine le_bel ?_) | (dsimp only; with_reducible refine Nat.le_refl _) | (dsimp only; with_reducible refine le_bel_add ?_) | (with_reducible assumption) | omega | (dsimp only; omega))))
set_option maxRecDepth 100000 in
set_option maxHeartbeats 3200000 in
theorem lawReturns_any (lo hi : Nat) (z : Int) (w : World) (hL : Lib3 w) (h1 : lo < 18446744073709551616) (h2 : hi < 18446744073709551616) (hz1 : -200 ≤ z) (hz2 : z ≤ 200) :
    Calls Tryd.prog 9 #[.agg #[.int .u64 (lo : Int), .int .u64 (hi : Int)], .int .i64 z] w (Ret (.bool true) w) := by
  have HL := Lib.hid hL
  clear hL
  have e1 : decide (z < -200) = false := decide_eq_false (by omega)
  have e2 : decide (200 < z) = false := decide_eq_false (by omega)
  obtain ⟨s1, s2⟩ := shS_lt z lo hi
  obtain ⟨t1, t2⟩ := back_lt z lo hi
  have HS := Lib.hid (fun w' (hT : Tz w') => shift_any lo hi z w' h1 h2 (by omega) (by omega) hT)
  have HR := Lib.hid (fun w' (hT : Tz w') => shift_any (shS z lo hi).1 (shS z lo hi).2 (-z) w' s1 s2 (by omega) (by omega) hT)
  have HB := Lib.hid (fun (n : Nat) (hn : n ∈ mems lo hi) => back_has (z := z) hn)
  have HW := Lib.hid (fun w' => within_any (back z lo hi).1 (back z lo hi).2 lo hi w' t1 t2 h1 h2)
  have HW2 := Lib.hid (back_sub (z := z) h1 h2)
  have hz : IntKind.i64.wrap (-z) = -z := IntWalk.i64_in _ (by omega)
  unfold back at HB HW HW2 t1 t2
  generalize (shS (-z) (shS z lo hi).1 (shS z lo hi).2).1 = c at *
  generalize (shS (-z) (shS z lo hi).1 (shS z lo hi).2).2 = d at *
  generalize (shS z lo hi).1 = a at *
  generalize (shS z lo hi).2 = b at *
  go_enter Tryd.func9, Tryd.ntmps9
  go_wp2_with fail
  (with_reducible refine (known_any _ (HL.out.of (by (repeat' (first | (with_reducible exact Below.refl _ _) | (with_reducible exact Nat.le_refl _) | (with_reducible refine Below.bel ?_ ?_) | (with_reducible refine Below.alloc ?_ ?_ _) | (with_reducible refine Below.drew ?_) | (with_reducible refine Below.drawsN ?_ _) | (with_reducible refine Below.setCell ?_ ?_ _) | (with_reducible refine le_bel ?_) | (with_reducible refine le_alloc ?_) | (with_reducible refine le_setCell ?_) | (with_reducible refine le_drew ?_) | (with_reducible refine le_drawsN ?_) | (dsimp only; with_reducible refine le_bel ?_) | (dsimp only; with_reducible refine Nat.le_refl _) | (dsimp only; with_reducible refine le_bel_add ?_) | (with_reducible assumption) | omega | (dsimp only; omega)))))).mono ?_)
  rintro _ _ ⟨rfl, x, rfl⟩
  have hxs := x.size_le
  simp at hxs
  go_wp2_with fail
  (with_reducible refine (HS.out _ (HL.out.of (by (repeat' (first | (with_reducible exact Below.refl _ _) | (with_reducible exact Nat.le_refl _) | (with_reducible refine Below.bel ?_ ?_) | (with_reducible refine Below.alloc ?_ ?_ _) | (with_reducible refine Below.drew ?_) | (with_reducible refine Below.drawsN ?_ _) | (with_reducible refine Below.setCell ?_ ?_ _) | (with_reducible refine le_bel ?_) | (with_reducible refine le_alloc ?_) | (with_reducible refine le_setCell ?_) | (with_reducible refine le_drew ?_) | (with_reducible refine le_drawsN ?_) | (dsimp only; with_reducible refine le_bel ?_) | (dsimp only; with_reducible refine Nat.le_refl _) | (dsimp only; with_reducible refine le_bel_add ?_) | (with_reducible assumption) | omega | (dsimp only; omega))))).tz).mono ?_)
  rintro _ _ ⟨rfl, y, rfl⟩
  have hys := y.size_le
  go_wp2_with fail
  (with_reducible refine (HR.out _ (HL.out.of (by (repeat' (first | (with_reducible exact Below.refl _ _) | (with_reducible exact Nat.le_refl _) | (with_reducible refine Below.bel ?_ ?_) | (with_reducible refine Below.alloc ?_ ?_ _) | (with_reducible refine Below.drew ?_) | (with_reducible refine Below.drawsN ?_ _) | (with_reducible refine Below.setCell ?_ ?_ _) | (with_reducible refine le_bel ?_) | (with_reducible refine le_alloc ?_) | (with_reducible refine le_setCell ?_) | (with_reducible refine le_drew ?_) | (with_reducible refine le_drawsN ?_) | (dsimp only; with_reducible refine le_bel ?_) | (dsimp only; with_reducible refine Nat.le_refl _) | (dsimp only; with_reducible refine le_bel_add ?_) | (with_reducible assumption) | omega | (dsimp only; omega))))).tz).mono ?_)
  rintro _ _ ⟨rfl, u, rfl⟩
  have hus := u.size_le
  go_wp2_with fail
  (with_reducible refine (members_any lo hi _ h1 h2 (HL.out.of (by (repeat' (first | (with_reducible exact Below.refl _ _) | (with_reducible exact Nat.le_refl _) | (with_reducible refine Below.bel ?_ ?_) | (with_reducible refine Below.alloc ?_ ?_ _) | (with_reducible refine Below.drew ?_) | (with_reducible refine Below.drawsN ?_ _) | (with_reducible refine Below.setCell ?_ ?_ _) | (with_reducible refine le_bel ?_) | (with_reducible refine le_alloc ?_) | (with_reducible refine le_setCell ?_) | (with_reducible refine le_drew ?_) | (with_reducible refine le_drawsN ?_) | (dsimp only; with_reducible refine le_bel ?_) | (dsimp only; with_reducible refine Nat.le_refl _) | (dsimp only; with_reducible refine le_bel_add ?_) | (with_reducible assumption) | omega | (dsimp only; omega))))).tz).mono ?_)
  rintro _ _ ⟨v, rfl, m, rfl, hv⟩
  have hms := m.size_le
  have hlen : (mems lo hi).length ≤ 128 := by
    have := memF_len lo hi
    rw [← memF_val, List.length_map]; exact this
  obtain ⟨pa, cap, rfl, hcc⟩ := showsV_at (ownV_shows hv)
  rw [natVs_len] at hcc ⊢
  have HC := Lib.hid hcc
  clear hv hcc
  have HO1 := Lib.hid (show Own2 m.w w.heap.size (.int .u64 (lo : Int)) (.int .u64 (hi : Int)) by unfold Own2; simp [go_sem])
  have HO2 := Lib.hid (show Own2 m.w u.w.heap.size (.int .u64 (c : Int)) (.int .u64 (d : Int)) by unfold Own2; simp [go_sem])
  have HBm := Lib.hid (show Below w.heap.size w m.w by (repeat' (first | (with_reducible exact Below.refl _ _) | (with_reducible exact Nat.le_refl _) | (with_reducible refine Below.bel ?_ ?_) | (with_reducible refine Below.alloc ?_ ?_ _) | (with_reducible refine Below.drew ?_) | (with_reducible refine Below.drawsN ?_ _) | (with_reducible refine Below.setCell ?_ ?_ _) | (with_reducible refine le_bel ?_) | (with_reducible refine le_alloc ?_) | (with_reducible refine le_setCell ?_) | (with_reducible refine le_drew ?_) | (with_reducible refine le_drawsN ?_) | (dsimp only; with_reducible refine le_bel ?_) | (dsimp only; with_reducible refine Nat.le_refl _) | (dsimp only; with_reducible refine le_bel_add ?_) | (with_reducible assumption) | omega | (dsimp only; omega))))
  dsimp only
  go_wp2
  go_loopw [28] (fun i wr => ∃ k : Nat, i = .int .i64 (k : Int) ∧ k ≤ (mems lo hi).length ∧ Below m.w.heap.size m.w wr) (fun i _ => (mems lo hi).length - (intOf i).toNat)
  case atStart => exact ⟨0, rfl, by omega, Below.refl _ _⟩
  case round =>
    obtain ⟨k, rfl, hk, hb⟩ := hrel
    have hbs := hb.size
    obtain ⟨o1, o2, _, _⟩ := HO1.out
    obtain ⟨o3, o4, _, _⟩ := HO2.out
    have p1 := cell_carry hb o1
    have p2 := cell_carry hb o2
    have p3 := cell_carry hb o3
    have p4 := cell_carry hb o4
    clear o1 o2 o3 o4
    by_cases hkl : k < (mems lo hi).length
    · have hki : (k : Int) < ((mems lo hi).length : Int) := by omega
      obtain ⟨q, off, rfl, hqc⟩ := HC.out (by omega)
      obtain ⟨n, hn⟩ : ∃ n, (mems lo hi)[k]? = some n := ⟨_, List.getElem?_eq_getElem hkl⟩
      have g1 := cell_carry hb (hqc k _ (natVs_get hn))
      have hmem := List.mem_of_getElem? hn
      have hn128 : n < 128 := (mem_mems.1 hmem).1
      have HM := Lib.hid (HB.out n hmem)
      have HH := Lib.hid (fun w' => has_any c d (n : Int) w' t1 t2)
      have tw : IntKind.i64.wrap ((n : Int) + z) = (n : Int) + z := IntWalk.i64_in _ (by omega)
      clear hqc hn hmem HC
      by_cases q0 : 0 ≤ (n : Int) + z
      · by_cases q1 : (n : Int) + z ≤ 127
        · have r0 : decide (0 ≤ (n : Int) + z) = true := decide_eq_true q0
          have r1 : decide ((n : Int) + z ≤ 127) = true := decide_eq_true q1
          have HM2 := Lib.hid (show memI c d (n : Int) = true by rw [HM.out, decide_eq_true ⟨q0, q1⟩])
          go_wp2_with fail
          (with_reducible refine (HH.out _).mono ?_)
          rintro _ _ ⟨rfl, f, rfl⟩
          rw [HM2.out]
          go_wp2
          go_roundw
          case rel => exact ⟨k + 1, by go_num, by omega, by (repeat' (first | (with_reducible exact Below.refl _ _) | (with_reducible exact Nat.le_refl _) | (with_reducible refine Below.bel ?_ ?_) | (with_reducible refine Below.alloc ?_ ?_ _) | (with_reducible refine Below.drew ?_) | (with_reducible refine Below.drawsN ?_ _) | (with_reducible refine Below.setCell ?_ ?_ _) | (with_reducible refine le_bel ?_) | (with_reducible refine le_alloc ?_) | (with_reducible refine le_setCell ?_) | (with_reducible refine le_drew ?_) | (with_reducible refine le_drawsN ?_) | (dsimp only; with_reducible refine le_bel ?_) | (dsimp only; with_reducible refine Nat.le_refl _) | (dsimp only; with_reducible refine le_bel_add ?_) | (with_reducible assumption) | omega | (dsimp only; omega)))⟩
          case measure => simp [intOf]; omega
        · have r0 : decide (0 ≤ (n : Int) + z) = true := decide_eq_true q0
          have r1 : decide ((n : Int) + z ≤ 127) = false := decide_eq_false q1
          have HM2 := Lib.hid (show memI c d (n : Int) = false by rw [HM.out, decide_eq_false (fun h => q1 h.2)])
          go_wp2_with fail
          (with_reducible refine (HH.out _).mono ?_)
          rintro _ _ ⟨rfl, f, rfl⟩
          rw [HM2.out]
          go_wp2
          go_roundw
          case rel => exact ⟨k + 1, by go_num, by omega, by (repeat' (first | (with_reducible exact Below.refl _ _) | (with_reducible exact Nat.le_refl _) | (with_reducible refine Below.bel ?_ ?_) | (with_reducible refine Below.alloc ?_ ?_ _) | (with_reducible refine Below.drew ?_) | (with_reducible refine Below.drawsN ?_ _) | (with_reducible refine Below.setCell ?_ ?_ _) | (with_reducible refine le_bel ?_) | (with_reducible refine le_alloc ?_) | (with_reducible refine le_setCell ?_) | (with_reducible refine le_drew ?_) | (with_reducible refine le_drawsN ?_) | (dsimp only; with_reducible refine le_bel ?_) | (dsimp only; with_reducible refine Nat.le_refl _) | (dsimp only; with_reducible refine le_bel_add ?_) | (with_reducible assumption) | omega | (dsimp only; omega)))⟩
          case measure => simp [intOf]; omega
      · have r0 : decide (0 ≤ (n : Int) + z) = false := decide_eq_false q0
        have HM2 := Lib.hid (show memI c d (n : Int) = false by rw [HM.out, decide_eq_false (fun h => q0 h.1)])
        go_wp2_with fail
        (with_reducible refine (HH.out _).mono ?_)
        rintro _ _ ⟨rfl, f, rfl⟩
        rw [HM2.out]
        go_wp2
        go_roundw
        case rel => exact ⟨k + 1, by go_num, by omega, by (repeat' (first | (with_reducible exact Below.refl _ _) | (with_reducible exact Nat.le_refl _) | (with_reducible refine Below.bel ?_ ?_) | (with_reducible refine Below.alloc ?_ ?_ _) | (with_reducible refine Below.drew ?_) | (with_reducible refine Below.drawsN ?_ _) | (with_reducible refine Below.setCell ?_ ?_ _) | (with_reducible refine le_bel ?_) | (with_reducible refine le_alloc ?_) | (with_reducible refine le_setCell ?_) | (with_reducible refine le_drew ?_) | (with_reducible refine le_drawsN ?_) | (dsimp only; with_reducible refine le_bel ?_) | (dsimp only; with_reducible refine Nat.le_refl _) | (dsimp only; with_reducible refine le_bel_add ?_) | (with_reducible assumption) | omega | (dsimp only; omega)))⟩
        case measure => simp [intOf]; omega
    · obtain rfl : k = (mems lo hi).length := by omega
      go_wp2_with fail
      (with_reducible refine (HW.out _).mono ?_)
      rintro _ _ ⟨rfl, f, rfl⟩
      rw [HW2.out]
      go_wp2
      have hb3 : Below w.heap.size w wr := HBm.out.trans (hb.mono HBm.out.size)
      have hb4 := hb3.size
      go_ret
      exact Ret.mk (by rfl) (by (repeat' (first | (with_reducible exact Below.refl _ _) | (with_reducible exact Nat.le_refl _) | (with_reducible refine Below.bel ?_ ?_) | (with_reducible refine Below.alloc ?_ ?_ _) | (with_reducible refine Below.drew ?_) | (with_reducible refine Below.drawsN ?_ _) | (with_reducible refine Below.setCell ?_ ?_ _) | (with_reducible refine le_bel ?_) | (with_reducible refine le_alloc ?_) | (with_reducible refine le_setCell ?_) | (with_reducible refine le_drew ?_) | (with_reducible refine le_drawsN ?_) | (dsimp only; with_reducible refine le_bel ?_) | (dsimp only; with_reducible refine Nat.le_refl _) | (dsimp only; with_reducible refine le_bel_add ?_) | (with_reducible assumption) | omega | (dsimp only; omega))))
end Go.Proofs.YtjojdkdpdlmahaaDoor
