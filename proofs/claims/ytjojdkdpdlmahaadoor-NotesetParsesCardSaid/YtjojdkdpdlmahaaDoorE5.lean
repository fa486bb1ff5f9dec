/- The reference's List and Same. -/
import Derived.Test.YtjojdkdpdlmahaaDoorE4
import Derived.Test.YtjojdkdpdlmahaaDoorOwnL
namespace Go.Proofs.YtjojdkdpdlmahaaDoor
open Go.RowKit
attribute [local go_sem low] Bel.cell Bel.frozen alloc_cell alloc_frozen

theorem Tryd.infoInt : (Tryd.prog.info? 3).map (fun i => (i.zero, i.size, i.bytes)) = some (some (.int .i64 0), 1, 8) := by kernel_rfl
def natVs (l : List Nat) : List Value := l.map fun n : Nat => Value.int .i64 (n : Int)
theorem natVs_len (l : List Nat) : (natVs l).length = l.length := List.length_map _
theorem natVs_snoc (l : List Nat) (n : Nat) : natVs l ++ [.int .i64 (n : Int)] = natVs (l ++ [n]) := by unfold natVs; rw [List.map_append]; rfl
theorem natVs_get {l : List Nat} {j n : Nat} (h : l[j]? = some n) : (natVs l)[j]? = some (.int .i64 (n : Int)) := by unfold natVs; rw [List.getElem?_map, h]; rfl
set_option maxHeartbeats 3200000 in
theorem reflist_any (lo hi : Nat) (w : World) (h1 : lo < 18446744073709551616) (h2 : hi < 18446744073709551616) :
    Calls Tryd.prog 34 #[.agg #[.int .u64 (lo : Int), .int .u64 (hi : Int)]] w fun e w' => ∃ v, e = .returned v ∧ ∃ y : Bel w, w' = y.w ∧ OwnV y.w w.heap.size 3 v (natVs (mems lo hi)) := by
  obtain ⟨i0, hi0, hz0, hz1, hz2⟩ := info_parts Tryd.infoInt
  go_enter Tryd.func34, Tryd.ntmps34
  go_wp2
  go_loopw [3, 4] (fun v i wr => ∃ (k : Nat), k ≤ 128 ∧ i = .int .i64 (k : Int) ∧ OwnV wr (w.heap.size + 1) 3 v (natVs (upto lo hi k)) ∧
    Own2 wr w.heap.size (.int .u64 (lo : Int)) (.int .u64 (hi : Int)) ∧ Below w.heap.size w wr ∧ w.heap.size + 1 ≤ wr.heap.size) (fun v i _ => 128 - (intOf i).toNat)
  case atStart =>
    refine ⟨0, by omega, rfl, ownV_nil _ _ _, ?_, by (repeat' (first | (with_reducible exact Below.refl _ _) | (with_reducible exact Nat.le_refl _) | (with_reducible refine Below.bel ?_ ?_) | (with_reducible refine Below.alloc ?_ ?_ _) | (with_reducible refine Below.drew ?_) | (with_reducible refine Below.drawsN ?_ _) | (with_reducible refine Below.setCell ?_ ?_ _) | (with_reducible refine le_bel ?_) | (with_reducible refine le_alloc ?_) | (with_reducible refine le_setCell ?_) | (with_reducible refine le_drew ?_) | (with_reducible refine le_drawsN ?_) | (dsimp only; with_reducible refine le_bel ?_) | (dsimp only; with_reducible refine Nat.le_refl _) | (dsimp only; with_reducible refine le_bel_add ?_) | (with_reducible assumption) | omega | (dsimp only; omega))), by simp⟩
    unfold Own2; simp [go_sem]
  case round =>
    obtain ⟨k, hk, rfl, hown, ⟨c1, c2, c3, c4⟩, hb, hsz⟩ := hrel
    have hbs := hb.size
    by_cases hlt : k ≤ 127
    · have hlt' : (k : Int) ≤ 127 := by omega
      have hul := upto_len lo hi k
      cases hm : mem lo hi k
      · have hmI := Lib.hid (memI_nat.trans hm)
        have HS := Lib.hid (show upto lo hi (k + 1) = upto lo hi k by rw [upto_succ, if_neg (by rw [hm]; decide)])
        have HO := Lib.hid hown
        clear hown hm
        go_wp2_with fail
        (with_reducible refine (refhas_any _ _ _ _ h1 h2 (by omega) (by omega)).mono ?_)
        rintro _ _ ⟨rfl, y, rfl⟩
        rw [hmI.out]
        have hys := y.size_le
        go_wp2
        go_roundw
        case rel =>
          refine ⟨k + 1, by omega, by go_num, by rw [HS.out]; exact ownV_bel HO.out y, ?_, by (repeat' (first | (with_reducible exact Below.refl _ _) | (with_reducible exact Nat.le_refl _) | (with_reducible refine Below.bel ?_ ?_) | (with_reducible refine Below.alloc ?_ ?_ _) | (with_reducible refine Below.drew ?_) | (with_reducible refine Below.drawsN ?_ _) | (with_reducible refine Below.setCell ?_ ?_ _) | (with_reducible refine le_bel ?_) | (with_reducible refine le_alloc ?_) | (with_reducible refine le_setCell ?_) | (with_reducible refine le_drew ?_) | (with_reducible refine le_drawsN ?_) | (dsimp only; with_reducible refine le_bel ?_) | (dsimp only; with_reducible refine Nat.le_refl _) | (dsimp only; with_reducible refine le_bel_add ?_) | (with_reducible assumption) | omega | (dsimp only; omega))), by first | omega | (simp; omega)⟩
          unfold Own2; simp [go_sem, c1, c2, c3, c4]
        case measure => simp [intOf]; omega
      · have hmI := Lib.hid (memI_nat.trans hm)
        have HS := Lib.hid (show upto lo hi (k + 1) = upto lo hi k ++ [k] by rw [upto_succ, if_pos hm])
        have HO := Lib.hid hown
        clear hown hm
        go_wp2_with fail
        (with_reducible refine (refhas_any _ _ _ _ h1 h2 (by omega) (by omega)).mono ?_)
        rintro _ _ ⟨rfl, y, rfl⟩
        rw [hmI.out]
        have hys := y.size_le
        have HY := Lib.hid (ownV_bel HO.out y)
        have hvl := natVs_len (upto lo hi k)
        go_wp2_with (at_builtin; refine wpList_append_own _ rfl _ _ 31 rfl (w.heap.size + 1) 3 i0 (.int .i64 0) 1 8 Tryd.underlying31 hi0 hz0 hz1 hz2 rfl (by decide) _ _ _ rfl (World.ownsRow.alloc HY.out _) ⟨y.w.heap.size, 0, none⟩ 1 1 [.int .i64 (k : Int)] rfl rfl (cell_one_new _ _ _) (by simp [Value.oneCell']) (by unfold maxLen; omega) (by omega) (by simp; omega) ?_; intro v' w1 hown' hgrow _; obtain ⟨g', cap', rfl⟩ := ownsRow_succ hown'; obtain ⟨ho1, hb1⟩ := ownV_app HY.out ((Below.refl _ _).alloc (by omega) _) (by simp) (by omega) rfl hown' hgrow)
        have hb2 : Below w.heap.size w w1 := (Below.bel hb hbs).trans (hb1.mono (by omega))
        have d1 := hb1.cell (p := ⟨w.heap.size, 0, none⟩) (by simp)
        have d2 := hb1.cell (p := ⟨w.heap.size, 1, none⟩) (by simp)
        have d3 := hb1.frozen (p := ⟨w.heap.size, 0, none⟩) (by simp)
        have d4 := hb1.frozen (p := ⟨w.heap.size, 1, none⟩) (by simp)
        go_roundw
        case rel =>
          refine ⟨k + 1, by omega, by go_num, by rw [HS.out, ← natVs_snoc, ← hvl]; exact ho1, ?_, hb2, by have := hb1.size; omega⟩
          unfold Own2; simp [go_sem, d1, d2, d3, d4, c1, c2, c3, c4]
        case measure => simp [intOf]; omega
    · obtain rfl : k = 128 := by omega
      go_wp2
      go_ret
      exact ⟨_, rfl, ⟨_, hb⟩, rfl, ownV_mono hown (by omega)⟩

set_option maxHeartbeats 1600000 in
theorem refsame_any (v u : Value) (l m : List Nat) (w : World) (hv : ShowsV w v (natVs l)) (hu : ShowsV w u (natVs m)) (hl : l.length ≤ 1000000) (hm : m.length ≤ 1000000) :
    Calls Tryd.prog 37 #[v, u] w (Ret (.bool (decide (l = m))) w) := by
  obtain ⟨a, cap, rfl, hva⟩ := showsV_at hv
  obtain ⟨b, cap', rfl, hub⟩ := showsV_at hu
  rw [natVs_len] at hva hub ⊢
  rw [natVs_len]
  by_cases hlm : l.length = m.length
  · have hne : ((l.length : Int) != (m.length : Int)) = false := by simp; omega
    have hlm' : l.length = m.length := hlm
    go_enter Tryd.func37, Tryd.ntmps37
    go_wp2
    go_loopw [5] (fun i wr => ∃ (k : Nat), k ≤ l.length ∧ i = .int .i64 (k : Int) ∧ l.take k = m.take k ∧ Below w.heap.size w wr) (fun i _ => l.length - (intOf i).toNat)
    case atStart => exact ⟨0, by omega, rfl, rfl, by (repeat' (first | (with_reducible exact Below.refl _ _) | (with_reducible exact Nat.le_refl _) | (with_reducible refine Below.bel ?_ ?_) | (with_reducible refine Below.alloc ?_ ?_ _) | (with_reducible refine Below.drew ?_) | (with_reducible refine Below.drawsN ?_ _) | (with_reducible refine Below.setCell ?_ ?_ _) | (with_reducible refine le_bel ?_) | (with_reducible refine le_alloc ?_) | (with_reducible refine le_setCell ?_) | (with_reducible refine le_drew ?_) | (with_reducible refine le_drawsN ?_) | (dsimp only; with_reducible refine le_bel ?_) | (dsimp only; with_reducible refine Nat.le_refl _) | (dsimp only; with_reducible refine le_bel_add ?_) | (with_reducible assumption) | omega | (dsimp only; omega)))⟩
    case round =>
      obtain ⟨k, hk, rfl, ht, hb⟩ := hrel
      have hbs := hb.size
      by_cases hlt : k < l.length
      · have hlt1 : (k : Int) < (l.length : Int) := by omega
        have hlt2 : (k : Int) < (m.length : Int) := by omega
        obtain ⟨b1, o1, rfl, hc1⟩ := hva (by omega)
        obtain ⟨b2, o2, rfl, hc2⟩ := hub (by omega)
        obtain ⟨x, hx⟩ : ∃ x, l[k]? = some x := ⟨_, List.getElem?_eq_getElem hlt⟩
        obtain ⟨y, hy⟩ : ∃ y, m[k]? = some y := ⟨_, List.getElem?_eq_getElem (by omega)⟩
        have g1 := cell_carry hb (hc1 k _ (natVs_get hx))
        have g2 := cell_carry hb (hc2 k _ (natVs_get hy))
        have e1 : l.take (k + 1) = l.take k ++ [x] := by rw [List.take_add_one, hx]; rfl
        have e2 : m.take (k + 1) = m.take k ++ [y] := by rw [List.take_add_one, hy]; rfl
        by_cases hxy : x = y
        · have HT := Lib.hid (show l.take (k + 1) = m.take (k + 1) by rw [e1, e2, ht, hxy])
          subst hxy
          clear ht e1 e2 hc1 hc2 hva hub hx hy hv hu
          go_wp2_with fail
          refine wp_region_bel (by kernel_rfl) (by kernel_rfl) ?_
          repeat (go_big_quiet_step (fail))
          refine wpQuiet_nil ?_
          rintro _ ⟨z, rfl⟩
          go_wp2
          go_roundw
          case rel => exact ⟨k + 1, by omega, by go_num, HT.out, by (repeat' (first | (with_reducible exact Below.refl _ _) | (with_reducible exact Nat.le_refl _) | (with_reducible refine Below.bel ?_ ?_) | (with_reducible refine Below.alloc ?_ ?_ _) | (with_reducible refine Below.drew ?_) | (with_reducible refine Below.drawsN ?_ _) | (with_reducible refine Below.setCell ?_ ?_ _) | (with_reducible refine le_bel ?_) | (with_reducible refine le_alloc ?_) | (with_reducible refine le_setCell ?_) | (with_reducible refine le_drew ?_) | (with_reducible refine le_drawsN ?_) | (dsimp only; with_reducible refine le_bel ?_) | (dsimp only; with_reducible refine Nat.le_refl _) | (dsimp only; with_reducible refine le_bel_add ?_) | (with_reducible assumption) | omega | (dsimp only; omega)))⟩
          case measure => simp [intOf]; omega
        · have HN := Lib.hid (show l ≠ m from fun h => hxy (by rw [h, hy] at hx; exact (Option.some.inj hx).symm))
          have hxy' : ((x : Int) != (y : Int)) = true := by simp; omega
          clear ht e1 e2 hc1 hc2 hva hub hx hy hv hu
          go_wp2_with fail
          refine wp_region_bel (by kernel_rfl) (by kernel_rfl) ?_
          repeat (go_big_quiet_step (fail))
          refine wpQuiet_nil ?_
          rintro _ ⟨z, rfl⟩
          go_wp2
          go_ret
          exact Ret.mk (by exact val_bool (decide_eq_false HN.out).symm) (by (repeat' (first | (with_reducible exact Below.refl _ _) | (with_reducible exact Nat.le_refl _) | (with_reducible refine Below.bel ?_ ?_) | (with_reducible refine Below.alloc ?_ ?_ _) | (with_reducible refine Below.drew ?_) | (with_reducible refine Below.drawsN ?_ _) | (with_reducible refine Below.setCell ?_ ?_ _) | (with_reducible refine le_bel ?_) | (with_reducible refine le_alloc ?_) | (with_reducible refine le_setCell ?_) | (with_reducible refine le_drew ?_) | (with_reducible refine le_drawsN ?_) | (dsimp only; with_reducible refine le_bel ?_) | (dsimp only; with_reducible refine Nat.le_refl _) | (dsimp only; with_reducible refine le_bel_add ?_) | (with_reducible assumption) | omega | (dsimp only; omega))))
      · obtain rfl : k = l.length := by omega
        have HT := Lib.hid (show l = m by rw [List.take_of_length_le (by omega), List.take_of_length_le (by omega)] at ht; exact ht)
        clear ht
        go_wp2
        go_ret
        exact Ret.mk (by exact val_bool (decide_eq_true HT.out).symm) (by (repeat' (first | (with_reducible exact Below.refl _ _) | (with_reducible exact Nat.le_refl _) | (with_reducible refine Below.bel ?_ ?_) | (with_reducible refine Below.alloc ?_ ?_ _) | (with_reducible refine Below.drew ?_) | (with_reducible refine Below.drawsN ?_ _) | (with_reducible refine Below.setCell ?_ ?_ _) | (with_reducible refine le_bel ?_) | (with_reducible refine le_alloc ?_) | (with_reducible refine le_setCell ?_) | (with_reducible refine le_drew ?_) | (with_reducible refine le_drawsN ?_) | (dsimp only; with_reducible refine le_bel ?_) | (dsimp only; with_reducible refine Nat.le_refl _) | (dsimp only; with_reducible refine le_bel_add ?_) | (with_reducible assumption) | omega | (dsimp only; omega))))
  · have hne : ((l.length : Int) != (m.length : Int)) = true := by simp; omega
    have HN := Lib.hid (show l ≠ m from fun h => hlm (by rw [h]))
    go_enter Tryd.func37, Tryd.ntmps37
    go_wp2
    go_ret
    exact Ret.mk (by exact val_bool (decide_eq_false HN.out).symm) (by (repeat' (first | (with_reducible exact Below.refl _ _) | (with_reducible exact Nat.le_refl _) | (with_reducible refine Below.bel ?_ ?_) | (with_reducible refine Below.alloc ?_ ?_ _) | (with_reducible refine Below.drew ?_) | (with_reducible refine Below.drawsN ?_ _) | (with_reducible refine Below.setCell ?_ ?_ _) | (with_reducible refine le_bel ?_) | (with_reducible refine le_alloc ?_) | (with_reducible refine le_setCell ?_) | (with_reducible refine le_drew ?_) | (with_reducible refine le_drawsN ?_) | (dsimp only; with_reducible refine le_bel ?_) | (dsimp only; with_reducible refine Nat.le_refl _) | (dsimp only; with_reducible refine le_bel_add ?_) | (with_reducible assumption) | omega | (dsimp only; omega))))
end Go.Proofs.YtjojdkdpdlmahaaDoor
