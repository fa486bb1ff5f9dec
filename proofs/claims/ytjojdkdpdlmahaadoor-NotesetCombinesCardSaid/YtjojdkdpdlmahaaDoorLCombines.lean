/- The walk of NotesetCombines. -/
import Derived.Test.YtjojdkdpdlmahaaDoorK
import Derived.Test.YtjojdkdpdlmahaaDoorE4
import Derived.Test.YtjojdkdpdlmahaaDoorFloat2
import Derived.Test.YtjojdkdpdlmahaaDoorTwo
namespace Go.Proofs.YtjojdkdpdlmahaaDoor
open Go.RowKit
attribute [local go_sem low] Bel.cell Bel.frozen alloc_cell alloc_frozen
attribute [local go_sem] floatOp Oper.floats Oper.calm yieldsR

theorem run_allocC (o : Oper) (t : TypeId) (ho : o.op = .alloc t) (ht : t ∈ [34]) (a : Act) (w : World) : (execOp a.eval o).run Tryd.prog w = .ok (.value (ptr w.heap.size)) (w.alloc ((fun _ => .cells #[.int .u64 0, .int .u64 0] 34 : TypeId → Obj) t)) := by
  obtain rfl : t = 34 := by simpa using ht
  unfold execOp
  rw [ho]
  simp [go_sem, ptr]
/-- All notes below k of the first set are in the second. -/
def subTo (lo hi a b k : Nat) : Bool := (List.range k).all fun n => !mem lo hi n || mem a b n
theorem subTo_succ (lo hi a b k : Nat) : subTo lo hi a b (k + 1) = (subTo lo hi a b k && (!mem lo hi k || mem a b k)) := by
  unfold subTo; rw [List.range_succ, List.all_append]; simp
theorem subTo_all {lo hi a b : Nat} (h1 : lo < 18446744073709551616) (h2 : hi < 18446744073709551616) (h3 : a < 18446744073709551616) (h4 : b < 18446744073709551616) : sub lo hi a b = subTo lo hi a b 128 := by
  rw [Bool.eq_iff_iff, sub_iff h1 h2 h3 h4]
  unfold subTo
  rw [List.all_eq_true]
  constructor
  · intro h n hn
    have := h n (List.mem_range.1 hn)
    cases hm : mem lo hi n
    · rfl
    · rw [this hm]; rfl
  · intro h n hn hm
    have := h n (List.mem_range.2 hn)
    rw [hm] at this
    simpa using this
theorem memI_union (lo hi a b : Nat) (n : Int) : memI (lo ||| a) (hi ||| b) n = (memI lo hi n || memI a b n) := by
  unfold memI; rw [mem_union]; cases decide (0 ≤ n) <;> simp
theorem refhas_val {lo hi : Nat} {n : Int} {v : Bool} (h1 : lo < 18446744073709551616) (h2 : hi < 18446744073709551616) (b1 : -9223372036854775808 ≤ n) (b2 : n ≤ 9223372036854775807) (h : memI lo hi n = v) (w : World) :
    Calls Tryd.prog 25 #[.agg #[.int .u64 (lo : Int), .int .u64 (hi : Int)], .int .i64 n] w (Ret (.bool v) w) := by rw [← h]; exact refhas_any lo hi n w h1 h2 b1 b2
set_option maxRecDepth 100000 in
set_option maxHeartbeats 12800000 in
theorem lawCombines_any (lo hi a b : Nat) (n : Int) (w : World) (hL : Lib3 w) (h1 : lo < 18446744073709551616) (h2 : hi < 18446744073709551616) (h3 : a < 18446744073709551616) (h4 : b < 18446744073709551616)
    (hn1 : -9223372036854775808 ≤ n) (hn2 : n ≤ 9223372036854775807) :
    Calls Tryd.prog 6 #[.agg #[.int .u64 (lo : Int), .int .u64 (hi : Int)], .agg #[.int .u64 (a : Int), .int .u64 (b : Int)], .int .i64 n] w (Ret (.bool true) w) := by
  have HL := Lib.hid hL
  clear hL
  have q1 : dif lo a < 18446744073709551616 := dif_lt h1
  have q2 : dif hi b < 18446744073709551616 := dif_lt h2
  have q3 : lo &&& a < 18446744073709551616 := and_lt h1
  have q4 : hi &&& b < 18446744073709551616 := and_lt h2
  have q5 := or_lt h1 h3
  have q6 := or_lt h2 h4
  have HU := Lib.hid (fun w => union_any lo hi a b w h1 h2 h3 h4)
  have HB := Lib.hid (fun w => both_any lo hi a b w h1 h2 h3 h4)
  have HW := Lib.hid (fun w => without_any lo hi a b w h1 h2 h3 h4)
  have HI := Lib.hid (fun w => within_any lo hi a b w h1 h2 h3 h4)
  have HIE := Lib.hid (subTo_all h1 h2 h3 h4)
  have MU := Lib.hid (fun k : Nat => mem_union lo hi a b k)
  have MB := Lib.hid (fun k : Nat => mem_both lo hi a b k)
  have MW := Lib.hid (fun k : Nat => mem_dif h1 h2 h3 h4 k)
  have HE := Lib.hid (memI_union lo hi a b n)
  have HR := Lib.hid (fun (v : Bool) (h : memI (lo ||| a) (hi ||| b) n = v) (w : World) => (show Calls Tryd.prog 26 #[.agg #[.int .u64 ((lo ||| a : Nat) : Int), .int .u64 ((hi ||| b : Nat) : Int)], .int .i64 n] w (Ret (.bool v) w) by rw [← h]; exact has_any (lo ||| a) (hi ||| b) n w q5 q6))
  have HN := Lib.hid (fun w => has_any (lo ||| a) (hi ||| b) n w q5 q6)
  generalize dif lo a = p1 at *
  generalize dif hi b = p2 at *
  generalize lo &&& a = p3 at *
  generalize hi &&& b = p4 at *
  generalize lo ||| a = p5 at *
  generalize hi ||| b = p6 at *
  go_enter Tryd.func6, Tryd.ntmps6
  go_wp2_with fail
  (with_reducible refine (known_any _ (HL.out.of (by (repeat' (first | (with_reducible exact Below.refl _ _) | (with_reducible exact Nat.le_refl _) | (with_reducible refine Below.bel ?_ ?_) | (with_reducible refine Below.alloc ?_ ?_ _) | (with_reducible refine Below.drew ?_) | (with_reducible refine Below.drawsN ?_ _) | (with_reducible refine Below.setCell ?_ ?_ _) | (with_reducible refine le_bel ?_) | (with_reducible refine le_alloc ?_) | (with_reducible refine le_setCell ?_) | (with_reducible refine le_drew ?_) | (with_reducible refine le_drawsN ?_) | (dsimp only; with_reducible refine le_bel ?_) | (dsimp only; with_reducible refine Nat.le_refl _) | (dsimp only; with_reducible refine le_bel_add ?_) | (with_reducible assumption) | omega | (dsimp only; omega)))))).mono ?_)
  rintro _ _ ⟨rfl, x, rfl⟩
  have hxs := x.size_le
  simp at hxs
  go_wp2_with fail
  refine wp_region_vars 12 [9, 10, 11] [34] (fun _ => .cells #[.int .u64 0, .int .u64 0] 34) (by kernel_rfl) (by kernel_rfl) (by kernel_rfl) (by kernel_rfl) (by decide) (by kernel_rfl) run_allocC ?_
  simp only [List.take_succ_cons, List.take_zero, List.drop_succ_cons, List.drop_zero]
  repeat (refine wpFloat_step (fun K hK => ?_); go_simp; first | (refine hK _ ?_; clear hK K) | (apply Exists.intro; refine ⟨fun _ => ?_, hK _ ?_⟩; (first | (go_at_call 20; exact HW.out _) | (go_at_call 21; exact HB.out _) | (go_at_call 22; exact HU.out _)); clear hK K))
  refine wpFloat_nil ?_
  rintro B v ⟨hM, hA⟩
  obtain ⟨vl9, vm9⟩ := hM 9 (by decide)
  obtain ⟨vl10, vm10⟩ := hM 10 (by decide)
  obtain ⟨vl11, vm11⟩ := hM 11 (by decide)
  have vn9_10 := hA 9 (by decide) 10 (by decide) (by decide)
  have vn10_9 := Ne.symm vn9_10
  have vn9_11 := hA 9 (by decide) 11 (by decide) (by decide)
  have vn11_9 := Ne.symm vn9_11
  have vn10_11 := hA 10 (by decide) 11 (by decide) (by decide)
  have vn11_10 := Ne.symm vn10_11
  clear hM hA
  simp only [puts, binds, dstAt, ptr, List.map_cons, List.map_nil, List.foldl_cons, List.foldl_nil]
  generalize B 9 = vb9 at *
  generalize B 10 = vb10 at *
  generalize B 11 = vb11 at *
  have vc9_0 : v.w.cell? ⟨vb9, 0, none⟩ = some (.int .u64 0) := (made_cell vm9 0).1
  have vf9_0 : v.w.frozen? ⟨vb9, 0, none⟩ = false := (made_cell vm9 0).2
  have vc9_1 : v.w.cell? ⟨vb9, 1, none⟩ = some (.int .u64 0) := (made_cell vm9 1).1
  have vf9_1 : v.w.frozen? ⟨vb9, 1, none⟩ = false := (made_cell vm9 1).2
  have vc10_0 : v.w.cell? ⟨vb10, 0, none⟩ = some (.int .u64 0) := (made_cell vm10 0).1
  have vf10_0 : v.w.frozen? ⟨vb10, 0, none⟩ = false := (made_cell vm10 0).2
  have vc10_1 : v.w.cell? ⟨vb10, 1, none⟩ = some (.int .u64 0) := (made_cell vm10 1).1
  have vf10_1 : v.w.frozen? ⟨vb10, 1, none⟩ = false := (made_cell vm10 1).2
  have vc11_0 : v.w.cell? ⟨vb11, 0, none⟩ = some (.int .u64 0) := (made_cell vm11 0).1
  have vf11_0 : v.w.frozen? ⟨vb11, 0, none⟩ = false := (made_cell vm11 0).2
  have vc11_1 : v.w.cell? ⟨vb11, 1, none⟩ = some (.int .u64 0) := (made_cell vm11 1).1
  have vf11_1 : v.w.frozen? ⟨vb11, 1, none⟩ = false := (made_cell vm11 1).2
  clear vm9 vm10 vm11
  have vs := v.size_le
  go_wp2_with fail
  have hvs := v.size_le
  have hv0 : Below w.heap.size w v.w := by (repeat' (first | (with_reducible exact Below.refl _ _) | (with_reducible exact Nat.le_refl _) | (with_reducible refine Below.bel ?_ ?_) | (with_reducible refine Below.alloc ?_ ?_ _) | (with_reducible refine Below.drew ?_) | (with_reducible refine Below.drawsN ?_ _) | (with_reducible refine Below.setCell ?_ ?_ _) | (with_reducible refine le_bel ?_) | (with_reducible refine le_alloc ?_) | (with_reducible refine le_setCell ?_) | (with_reducible refine le_drew ?_) | (with_reducible refine le_drawsN ?_) | (dsimp only; with_reducible refine le_bel ?_) | (dsimp only; with_reducible refine Nat.le_refl _) | (dsimp only; with_reducible refine le_bel_add ?_) | (with_reducible assumption) | omega | (dsimp only; omega)))
  go_loopw [10, 11] (fun s i wr => ∃ k : Nat, k ≤ 128 ∧ i = .int .i64 (k : Int) ∧ s = .bool (subTo lo hi a b k) ∧ Own2 wr w.heap.size (.int .u64 (lo : Int)) (.int .u64 (hi : Int)) ∧ Own2 wr (w.heap.size + 1) (.int .u64 (a : Int)) (.int .u64 (b : Int)) ∧
    Own2 wr vb9 (.int .u64 (p5 : Int)) (.int .u64 (p6 : Int)) ∧ Own2 wr vb10 (.int .u64 (p3 : Int)) (.int .u64 (p4 : Int)) ∧ Own2 wr vb11 (.int .u64 (p1 : Int)) (.int .u64 (p2 : Int)) ∧ Below w.heap.size w wr) (fun _ i _ => 128 - (intOf i).toNat)
  case atStart =>
    have ow : w.heap.size + 2 ≤ x.w.heap.size := by omega
    have o1 : Own2 v.w w.heap.size (.int .u64 (lo : Int)) (.int .u64 (hi : Int)) := by unfold Own2; simp [go_sem]
    have o2 : Own2 v.w (w.heap.size + 1) (.int .u64 (a : Int)) (.int .u64 (b : Int)) := by unfold Own2; simp [go_sem]
    have o3 : Own2 v.w vb9 (.int .u64 0) (.int .u64 0) := ⟨vc9_0, vc9_1, vf9_0, vf9_1⟩
    have o4 : Own2 v.w vb10 (.int .u64 0) (.int .u64 0) := ⟨vc10_0, vc10_1, vf10_0, vf10_1⟩
    have o5 : Own2 v.w vb11 (.int .u64 0) (.int .u64 0) := ⟨vc11_0, vc11_1, vf11_0, vf11_1⟩
    refine ⟨0, by omega, rfl, rfl, ?_, ?_, ?_, ?_, ?_, by (repeat' (first | (with_reducible exact Below.refl _ _) | (with_reducible exact Nat.le_refl _) | (with_reducible refine Below.bel ?_ ?_) | (with_reducible refine Below.alloc ?_ ?_ _) | (with_reducible refine Below.drew ?_) | (with_reducible refine Below.drawsN ?_ _) | (with_reducible refine Below.setCell ?_ ?_ _) | (with_reducible refine le_bel ?_) | (with_reducible refine le_alloc ?_) | (with_reducible refine le_setCell ?_) | (with_reducible refine le_drew ?_) | (with_reducible refine le_drawsN ?_) | (dsimp only; with_reducible refine le_bel ?_) | (dsimp only; with_reducible refine Nat.le_refl _) | (dsimp only; with_reducible refine le_bel_add ?_) | (with_reducible assumption) | omega | (dsimp only; omega)))⟩
    · repeat (refine own2_other ?_ (by dsimp only; omega))
      exact o1
    · repeat (refine own2_other ?_ (by dsimp only; omega))
      exact o2
    · refine own2_other (own2_other (own2_other (own2_other (own2_put o3) ?_) ?_) ?_) ?_ <;> (dsimp only; omega)
    · refine own2_other (own2_other (own2_put (own2_other (own2_other o4 ?_) ?_)) ?_) ?_ <;> (dsimp only; omega)
    · refine own2_put (own2_other (own2_other (own2_other (own2_other o5 ?_) ?_) ?_) ?_) <;> (dsimp only; omega)
  case round =>
    clear vc9_0 vc9_1 vf9_0 vf9_1 vc10_0 vc10_1 vf10_0 vf10_1 vc11_0 vc11_1 vf11_0 vf11_1
    obtain ⟨k, hk, rfl, rfl, O1, O2, O3, O4, O5, hb⟩ := hrel
    have hbs := hb.size
    have HO := Lib.hid (And.intro O1 (And.intro O2 (And.intro O3 (And.intro O4 O5))))
    obtain ⟨a1, a2, a3, a4⟩ := O1
    obtain ⟨b1, b2, b3, b4⟩ := O2
    obtain ⟨c1, c2, c3, c4⟩ := O3
    obtain ⟨d1, d2, d3, d4⟩ := O4
    obtain ⟨e1, e2, e3, e4⟩ := O5
    by_cases hkl : k ≤ 127
    · have hki : (k : Int) ≤ 127 := by omega
      have HSU := Lib.hid (subTo_succ lo hi a b k)
      obtain ⟨s, hs⟩ : ∃ s, subTo lo hi a b k = s := ⟨_, rfl⟩
      obtain ⟨x1, hx1⟩ : ∃ s, mem lo hi k = s := ⟨_, rfl⟩
      obtain ⟨y1, hy1⟩ : ∃ s, mem a b k = s := ⟨_, rfl⟩
      have F1 := Lib.hid (refhas_val h1 h2 (by omega) (by omega) (memI_nat.trans hx1))
      have F2 := Lib.hid (refhas_val h3 h4 (by omega) (by omega) (memI_nat.trans hy1))
      have F3 := Lib.hid (refhas_val q5 q6 (by omega) (by omega) (memI_nat.trans (MU.out k)))
      have F4 := Lib.hid (refhas_val q3 q4 (by omega) (by omega) (memI_nat.trans (MB.out k)))
      have F5 := Lib.hid (refhas_val q1 q2 (by omega) (by omega) (memI_nat.trans (MW.out k)))
      rw [hx1, hy1] at HSU F3 F4 F5
      rw [hs] at HSU ⊢
      clear hs hx1 hy1
      cases s <;> cases x1 <;> cases y1
      · go_wp2_with fail
        refine wp_region_bel (by kernel_rfl) (by kernel_rfl) ?_
        repeat (go_big_quiet_step ((first | (go_at_call 25; with_reducible exact bel_of (F1.out _)) | (go_at_call 25; with_reducible exact bel_of (F2.out _)))))
        refine wpQuiet_nil ?_
        rintro _ ⟨z, rfl⟩
        have hzs := z.size_le
        go_wp2_with fail
        (with_reducible refine (F3.out _).mono ?_)
        rintro _ _ ⟨rfl, z3, rfl⟩
        have hz3 := z3.size_le
        go_wp2_with fail
        (with_reducible refine (F4.out _).mono ?_)
        rintro _ _ ⟨rfl, z4, rfl⟩
        have hz4 := z4.size_le
        go_wp2_with fail
        (with_reducible refine (F5.out _).mono ?_)
        rintro _ _ ⟨rfl, z5, rfl⟩
        go_wp2
        go_roundw
        case rel =>
          have hbz : Below wr.heap.size wr z5.w := by (repeat' (first | (with_reducible exact Below.refl _ _) | (with_reducible exact Nat.le_refl _) | (with_reducible refine Below.bel ?_ ?_) | (with_reducible refine Below.alloc ?_ ?_ _) | (with_reducible refine Below.drew ?_) | (with_reducible refine Below.drawsN ?_ _) | (with_reducible refine Below.setCell ?_ ?_ _) | (with_reducible refine le_bel ?_) | (with_reducible refine le_alloc ?_) | (with_reducible refine le_setCell ?_) | (with_reducible refine le_drew ?_) | (with_reducible refine le_drawsN ?_) | (dsimp only; with_reducible refine le_bel ?_) | (dsimp only; with_reducible refine Nat.le_refl _) | (dsimp only; with_reducible refine le_bel_add ?_) | (with_reducible assumption) | omega | (dsimp only; omega)))
          obtain ⟨O1, O2, O3, O4, O5⟩ := HO.out
          exact ⟨k + 1, by omega, by go_num, by rw [HSU.out]; rfl, own2_of O1 hbz, own2_of O2 hbz, own2_of O3 hbz, own2_of O4 hbz, own2_of O5 hbz, hb.trans (hbz.mono hbs)⟩
        case measure => simp [intOf]; omega
      · go_wp2_with fail
        refine wp_region_bel (by kernel_rfl) (by kernel_rfl) ?_
        repeat (go_big_quiet_step ((first | (go_at_call 25; with_reducible exact bel_of (F1.out _)) | (go_at_call 25; with_reducible exact bel_of (F2.out _)))))
        refine wpQuiet_nil ?_
        rintro _ ⟨z, rfl⟩
        have hzs := z.size_le
        go_wp2_with fail
        (with_reducible refine (F3.out _).mono ?_)
        rintro _ _ ⟨rfl, z3, rfl⟩
        have hz3 := z3.size_le
        go_wp2_with fail
        (with_reducible refine (F4.out _).mono ?_)
        rintro _ _ ⟨rfl, z4, rfl⟩
        have hz4 := z4.size_le
        go_wp2_with fail
        (with_reducible refine (F5.out _).mono ?_)
        rintro _ _ ⟨rfl, z5, rfl⟩
        go_wp2
        go_roundw
        case rel =>
          have hbz : Below wr.heap.size wr z5.w := by (repeat' (first | (with_reducible exact Below.refl _ _) | (with_reducible exact Nat.le_refl _) | (with_reducible refine Below.bel ?_ ?_) | (with_reducible refine Below.alloc ?_ ?_ _) | (with_reducible refine Below.drew ?_) | (with_reducible refine Below.drawsN ?_ _) | (with_reducible refine Below.setCell ?_ ?_ _) | (with_reducible refine le_bel ?_) | (with_reducible refine le_alloc ?_) | (with_reducible refine le_setCell ?_) | (with_reducible refine le_drew ?_) | (with_reducible refine le_drawsN ?_) | (dsimp only; with_reducible refine le_bel ?_) | (dsimp only; with_reducible refine Nat.le_refl _) | (dsimp only; with_reducible refine le_bel_add ?_) | (with_reducible assumption) | omega | (dsimp only; omega)))
          obtain ⟨O1, O2, O3, O4, O5⟩ := HO.out
          exact ⟨k + 1, by omega, by go_num, by rw [HSU.out]; rfl, own2_of O1 hbz, own2_of O2 hbz, own2_of O3 hbz, own2_of O4 hbz, own2_of O5 hbz, hb.trans (hbz.mono hbs)⟩
        case measure => simp [intOf]; omega
      · go_wp2_with fail
        refine wp_region_bel (by kernel_rfl) (by kernel_rfl) ?_
        repeat (go_big_quiet_step ((first | (go_at_call 25; with_reducible exact bel_of (F1.out _)) | (go_at_call 25; with_reducible exact bel_of (F2.out _)))))
        refine wpQuiet_nil ?_
        rintro _ ⟨z, rfl⟩
        have hzs := z.size_le
        go_wp2_with fail
        (with_reducible refine (F3.out _).mono ?_)
        rintro _ _ ⟨rfl, z3, rfl⟩
        have hz3 := z3.size_le
        go_wp2_with fail
        (with_reducible refine (F4.out _).mono ?_)
        rintro _ _ ⟨rfl, z4, rfl⟩
        have hz4 := z4.size_le
        go_wp2_with fail
        (with_reducible refine (F5.out _).mono ?_)
        rintro _ _ ⟨rfl, z5, rfl⟩
        go_wp2
        go_roundw
        case rel =>
          have hbz : Below wr.heap.size wr z5.w := by (repeat' (first | (with_reducible exact Below.refl _ _) | (with_reducible exact Nat.le_refl _) | (with_reducible refine Below.bel ?_ ?_) | (with_reducible refine Below.alloc ?_ ?_ _) | (with_reducible refine Below.drew ?_) | (with_reducible refine Below.drawsN ?_ _) | (with_reducible refine Below.setCell ?_ ?_ _) | (with_reducible refine le_bel ?_) | (with_reducible refine le_alloc ?_) | (with_reducible refine le_setCell ?_) | (with_reducible refine le_drew ?_) | (with_reducible refine le_drawsN ?_) | (dsimp only; with_reducible refine le_bel ?_) | (dsimp only; with_reducible refine Nat.le_refl _) | (dsimp only; with_reducible refine le_bel_add ?_) | (with_reducible assumption) | omega | (dsimp only; omega)))
          obtain ⟨O1, O2, O3, O4, O5⟩ := HO.out
          exact ⟨k + 1, by omega, by go_num, by rw [HSU.out]; rfl, own2_of O1 hbz, own2_of O2 hbz, own2_of O3 hbz, own2_of O4 hbz, own2_of O5 hbz, hb.trans (hbz.mono hbs)⟩
        case measure => simp [intOf]; omega
      · go_wp2_with fail
        refine wp_region_bel (by kernel_rfl) (by kernel_rfl) ?_
        repeat (go_big_quiet_step ((first | (go_at_call 25; with_reducible exact bel_of (F1.out _)) | (go_at_call 25; with_reducible exact bel_of (F2.out _)))))
        refine wpQuiet_nil ?_
        rintro _ ⟨z, rfl⟩
        have hzs := z.size_le
        go_wp2_with fail
        (with_reducible refine (F3.out _).mono ?_)
        rintro _ _ ⟨rfl, z3, rfl⟩
        have hz3 := z3.size_le
        go_wp2_with fail
        (with_reducible refine (F4.out _).mono ?_)
        rintro _ _ ⟨rfl, z4, rfl⟩
        have hz4 := z4.size_le
        go_wp2_with fail
        (with_reducible refine (F5.out _).mono ?_)
        rintro _ _ ⟨rfl, z5, rfl⟩
        go_wp2
        go_roundw
        case rel =>
          have hbz : Below wr.heap.size wr z5.w := by (repeat' (first | (with_reducible exact Below.refl _ _) | (with_reducible exact Nat.le_refl _) | (with_reducible refine Below.bel ?_ ?_) | (with_reducible refine Below.alloc ?_ ?_ _) | (with_reducible refine Below.drew ?_) | (with_reducible refine Below.drawsN ?_ _) | (with_reducible refine Below.setCell ?_ ?_ _) | (with_reducible refine le_bel ?_) | (with_reducible refine le_alloc ?_) | (with_reducible refine le_setCell ?_) | (with_reducible refine le_drew ?_) | (with_reducible refine le_drawsN ?_) | (dsimp only; with_reducible refine le_bel ?_) | (dsimp only; with_reducible refine Nat.le_refl _) | (dsimp only; with_reducible refine le_bel_add ?_) | (with_reducible assumption) | omega | (dsimp only; omega)))
          obtain ⟨O1, O2, O3, O4, O5⟩ := HO.out
          exact ⟨k + 1, by omega, by go_num, by rw [HSU.out]; rfl, own2_of O1 hbz, own2_of O2 hbz, own2_of O3 hbz, own2_of O4 hbz, own2_of O5 hbz, hb.trans (hbz.mono hbs)⟩
        case measure => simp [intOf]; omega
      · go_wp2_with fail
        refine wp_region_bel (by kernel_rfl) (by kernel_rfl) ?_
        repeat (go_big_quiet_step ((first | (go_at_call 25; with_reducible exact bel_of (F1.out _)) | (go_at_call 25; with_reducible exact bel_of (F2.out _)))))
        refine wpQuiet_nil ?_
        rintro _ ⟨z, rfl⟩
        have hzs := z.size_le
        go_wp2_with fail
        (with_reducible refine (F3.out _).mono ?_)
        rintro _ _ ⟨rfl, z3, rfl⟩
        have hz3 := z3.size_le
        go_wp2_with fail
        (with_reducible refine (F4.out _).mono ?_)
        rintro _ _ ⟨rfl, z4, rfl⟩
        have hz4 := z4.size_le
        go_wp2_with fail
        (with_reducible refine (F5.out _).mono ?_)
        rintro _ _ ⟨rfl, z5, rfl⟩
        go_wp2
        go_roundw
        case rel =>
          have hbz : Below wr.heap.size wr z5.w := by (repeat' (first | (with_reducible exact Below.refl _ _) | (with_reducible exact Nat.le_refl _) | (with_reducible refine Below.bel ?_ ?_) | (with_reducible refine Below.alloc ?_ ?_ _) | (with_reducible refine Below.drew ?_) | (with_reducible refine Below.drawsN ?_ _) | (with_reducible refine Below.setCell ?_ ?_ _) | (with_reducible refine le_bel ?_) | (with_reducible refine le_alloc ?_) | (with_reducible refine le_setCell ?_) | (with_reducible refine le_drew ?_) | (with_reducible refine le_drawsN ?_) | (dsimp only; with_reducible refine le_bel ?_) | (dsimp only; with_reducible refine Nat.le_refl _) | (dsimp only; with_reducible refine le_bel_add ?_) | (with_reducible assumption) | omega | (dsimp only; omega)))
          obtain ⟨O1, O2, O3, O4, O5⟩ := HO.out
          exact ⟨k + 1, by omega, by go_num, by rw [HSU.out]; rfl, own2_of O1 hbz, own2_of O2 hbz, own2_of O3 hbz, own2_of O4 hbz, own2_of O5 hbz, hb.trans (hbz.mono hbs)⟩
        case measure => simp [intOf]; omega
      · go_wp2_with fail
        refine wp_region_bel (by kernel_rfl) (by kernel_rfl) ?_
        repeat (go_big_quiet_step ((first | (go_at_call 25; with_reducible exact bel_of (F1.out _)) | (go_at_call 25; with_reducible exact bel_of (F2.out _)))))
        refine wpQuiet_nil ?_
        rintro _ ⟨z, rfl⟩
        have hzs := z.size_le
        go_wp2_with fail
        (with_reducible refine (F3.out _).mono ?_)
        rintro _ _ ⟨rfl, z3, rfl⟩
        have hz3 := z3.size_le
        go_wp2_with fail
        (with_reducible refine (F4.out _).mono ?_)
        rintro _ _ ⟨rfl, z4, rfl⟩
        have hz4 := z4.size_le
        go_wp2_with fail
        (with_reducible refine (F5.out _).mono ?_)
        rintro _ _ ⟨rfl, z5, rfl⟩
        go_wp2
        go_roundw
        case rel =>
          have hbz : Below wr.heap.size wr z5.w := by (repeat' (first | (with_reducible exact Below.refl _ _) | (with_reducible exact Nat.le_refl _) | (with_reducible refine Below.bel ?_ ?_) | (with_reducible refine Below.alloc ?_ ?_ _) | (with_reducible refine Below.drew ?_) | (with_reducible refine Below.drawsN ?_ _) | (with_reducible refine Below.setCell ?_ ?_ _) | (with_reducible refine le_bel ?_) | (with_reducible refine le_alloc ?_) | (with_reducible refine le_setCell ?_) | (with_reducible refine le_drew ?_) | (with_reducible refine le_drawsN ?_) | (dsimp only; with_reducible refine le_bel ?_) | (dsimp only; with_reducible refine Nat.le_refl _) | (dsimp only; with_reducible refine le_bel_add ?_) | (with_reducible assumption) | omega | (dsimp only; omega)))
          obtain ⟨O1, O2, O3, O4, O5⟩ := HO.out
          exact ⟨k + 1, by omega, by go_num, by rw [HSU.out]; rfl, own2_of O1 hbz, own2_of O2 hbz, own2_of O3 hbz, own2_of O4 hbz, own2_of O5 hbz, hb.trans (hbz.mono hbs)⟩
        case measure => simp [intOf]; omega
      · go_wp2_with fail
        refine wp_region_bel (by kernel_rfl) (by kernel_rfl) ?_
        repeat (go_big_quiet_step ((first | (go_at_call 25; with_reducible exact bel_of (F1.out _)) | (go_at_call 25; with_reducible exact bel_of (F2.out _)))))
        refine wpQuiet_nil ?_
        rintro _ ⟨z, rfl⟩
        have hzs := z.size_le
        go_wp2_with fail
        (with_reducible refine (F3.out _).mono ?_)
        rintro _ _ ⟨rfl, z3, rfl⟩
        have hz3 := z3.size_le
        go_wp2_with fail
        (with_reducible refine (F4.out _).mono ?_)
        rintro _ _ ⟨rfl, z4, rfl⟩
        have hz4 := z4.size_le
        go_wp2_with fail
        (with_reducible refine (F5.out _).mono ?_)
        rintro _ _ ⟨rfl, z5, rfl⟩
        go_wp2
        go_roundw
        case rel =>
          have hbz : Below wr.heap.size wr z5.w := by (repeat' (first | (with_reducible exact Below.refl _ _) | (with_reducible exact Nat.le_refl _) | (with_reducible refine Below.bel ?_ ?_) | (with_reducible refine Below.alloc ?_ ?_ _) | (with_reducible refine Below.drew ?_) | (with_reducible refine Below.drawsN ?_ _) | (with_reducible refine Below.setCell ?_ ?_ _) | (with_reducible refine le_bel ?_) | (with_reducible refine le_alloc ?_) | (with_reducible refine le_setCell ?_) | (with_reducible refine le_drew ?_) | (with_reducible refine le_drawsN ?_) | (dsimp only; with_reducible refine le_bel ?_) | (dsimp only; with_reducible refine Nat.le_refl _) | (dsimp only; with_reducible refine le_bel_add ?_) | (with_reducible assumption) | omega | (dsimp only; omega)))
          obtain ⟨O1, O2, O3, O4, O5⟩ := HO.out
          exact ⟨k + 1, by omega, by go_num, by rw [HSU.out]; rfl, own2_of O1 hbz, own2_of O2 hbz, own2_of O3 hbz, own2_of O4 hbz, own2_of O5 hbz, hb.trans (hbz.mono hbs)⟩
        case measure => simp [intOf]; omega
      · go_wp2_with fail
        refine wp_region_bel (by kernel_rfl) (by kernel_rfl) ?_
        repeat (go_big_quiet_step ((first | (go_at_call 25; with_reducible exact bel_of (F1.out _)) | (go_at_call 25; with_reducible exact bel_of (F2.out _)))))
        refine wpQuiet_nil ?_
        rintro _ ⟨z, rfl⟩
        have hzs := z.size_le
        go_wp2_with fail
        (with_reducible refine (F3.out _).mono ?_)
        rintro _ _ ⟨rfl, z3, rfl⟩
        have hz3 := z3.size_le
        go_wp2_with fail
        (with_reducible refine (F4.out _).mono ?_)
        rintro _ _ ⟨rfl, z4, rfl⟩
        have hz4 := z4.size_le
        go_wp2_with fail
        (with_reducible refine (F5.out _).mono ?_)
        rintro _ _ ⟨rfl, z5, rfl⟩
        go_wp2
        go_roundw
        case rel =>
          have hbz : Below wr.heap.size wr z5.w := by (repeat' (first | (with_reducible exact Below.refl _ _) | (with_reducible exact Nat.le_refl _) | (with_reducible refine Below.bel ?_ ?_) | (with_reducible refine Below.alloc ?_ ?_ _) | (with_reducible refine Below.drew ?_) | (with_reducible refine Below.drawsN ?_ _) | (with_reducible refine Below.setCell ?_ ?_ _) | (with_reducible refine le_bel ?_) | (with_reducible refine le_alloc ?_) | (with_reducible refine le_setCell ?_) | (with_reducible refine le_drew ?_) | (with_reducible refine le_drawsN ?_) | (dsimp only; with_reducible refine le_bel ?_) | (dsimp only; with_reducible refine Nat.le_refl _) | (dsimp only; with_reducible refine le_bel_add ?_) | (with_reducible assumption) | omega | (dsimp only; omega)))
          obtain ⟨O1, O2, O3, O4, O5⟩ := HO.out
          exact ⟨k + 1, by omega, by go_num, by rw [HSU.out]; rfl, own2_of O1 hbz, own2_of O2 hbz, own2_of O3 hbz, own2_of O4 hbz, own2_of O5 hbz, hb.trans (hbz.mono hbs)⟩
        case measure => simp [intOf]; omega
    · obtain rfl : k = 128 := by omega
      obtain ⟨s, hs⟩ : ∃ s, subTo lo hi a b 128 = s := ⟨_, rfl⟩
      have G1 := Lib.hid (show ∀ w, Calls Tryd.prog 23 #[.agg #[.int .u64 (lo : Int), .int .u64 (hi : Int)], .agg #[.int .u64 (a : Int), .int .u64 (b : Int)]] w (Ret (.bool s) w) from fun w => by rw [← hs, ← HIE.out]; exact HI.out w)
      obtain ⟨A, hA⟩ : ∃ s, memI lo hi n = s := ⟨_, rfl⟩
      obtain ⟨B, hB⟩ : ∃ s, memI a b n = s := ⟨_, rfl⟩
      have F1 := Lib.hid (refhas_val h1 h2 hn1 hn2 hA)
      have F2 := Lib.hid (refhas_val h3 h4 hn1 hn2 hB)
      have F3 := Lib.hid (HR.out _ HE.out)
      rw [hA, hB] at F3
      rw [hs]
      clear hs hA hB
      cases s <;> cases A <;> cases B
      · go_wp2_with fail
        refine wp_region_bel (by kernel_rfl) (by kernel_rfl) ?_
        repeat (go_big_quiet_step ((first | (go_at_call 23; with_reducible exact bel_of (G1.out _)) | (go_at_call 25; with_reducible exact bel_of (F1.out _)) | (go_at_call 25; with_reducible exact bel_of (F2.out _)) | (go_at_call 26; with_reducible exact bel_of (F3.out _)))))
        refine wpQuiet_nil ?_
        rintro _ ⟨z, rfl⟩
        go_wp2
        go_ret
        exact Ret.mk (by rfl) (by (repeat' (first | (with_reducible exact Below.refl _ _) | (with_reducible exact Nat.le_refl _) | (with_reducible refine Below.bel ?_ ?_) | (with_reducible refine Below.alloc ?_ ?_ _) | (with_reducible refine Below.drew ?_) | (with_reducible refine Below.drawsN ?_ _) | (with_reducible refine Below.setCell ?_ ?_ _) | (with_reducible refine le_bel ?_) | (with_reducible refine le_alloc ?_) | (with_reducible refine le_setCell ?_) | (with_reducible refine le_drew ?_) | (with_reducible refine le_drawsN ?_) | (dsimp only; with_reducible refine le_bel ?_) | (dsimp only; with_reducible refine Nat.le_refl _) | (dsimp only; with_reducible refine le_bel_add ?_) | (with_reducible assumption) | omega | (dsimp only; omega))))
      · go_wp2_with fail
        refine wp_region_bel (by kernel_rfl) (by kernel_rfl) ?_
        repeat (go_big_quiet_step ((first | (go_at_call 23; with_reducible exact bel_of (G1.out _)) | (go_at_call 25; with_reducible exact bel_of (F1.out _)) | (go_at_call 25; with_reducible exact bel_of (F2.out _)) | (go_at_call 26; with_reducible exact bel_of (F3.out _)))))
        refine wpQuiet_nil ?_
        rintro _ ⟨z, rfl⟩
        go_wp2
        go_ret
        exact Ret.mk (by rfl) (by (repeat' (first | (with_reducible exact Below.refl _ _) | (with_reducible exact Nat.le_refl _) | (with_reducible refine Below.bel ?_ ?_) | (with_reducible refine Below.alloc ?_ ?_ _) | (with_reducible refine Below.drew ?_) | (with_reducible refine Below.drawsN ?_ _) | (with_reducible refine Below.setCell ?_ ?_ _) | (with_reducible refine le_bel ?_) | (with_reducible refine le_alloc ?_) | (with_reducible refine le_setCell ?_) | (with_reducible refine le_drew ?_) | (with_reducible refine le_drawsN ?_) | (dsimp only; with_reducible refine le_bel ?_) | (dsimp only; with_reducible refine Nat.le_refl _) | (dsimp only; with_reducible refine le_bel_add ?_) | (with_reducible assumption) | omega | (dsimp only; omega))))
      · go_wp2_with fail
        refine wp_region_bel (by kernel_rfl) (by kernel_rfl) ?_
        repeat (go_big_quiet_step ((first | (go_at_call 23; with_reducible exact bel_of (G1.out _)) | (go_at_call 25; with_reducible exact bel_of (F1.out _)) | (go_at_call 25; with_reducible exact bel_of (F2.out _)) | (go_at_call 26; with_reducible exact bel_of (F3.out _)))))
        refine wpQuiet_nil ?_
        rintro _ ⟨z, rfl⟩
        go_wp2
        go_ret
        exact Ret.mk (by rfl) (by (repeat' (first | (with_reducible exact Below.refl _ _) | (with_reducible exact Nat.le_refl _) | (with_reducible refine Below.bel ?_ ?_) | (with_reducible refine Below.alloc ?_ ?_ _) | (with_reducible refine Below.drew ?_) | (with_reducible refine Below.drawsN ?_ _) | (with_reducible refine Below.setCell ?_ ?_ _) | (with_reducible refine le_bel ?_) | (with_reducible refine le_alloc ?_) | (with_reducible refine le_setCell ?_) | (with_reducible refine le_drew ?_) | (with_reducible refine le_drawsN ?_) | (dsimp only; with_reducible refine le_bel ?_) | (dsimp only; with_reducible refine Nat.le_refl _) | (dsimp only; with_reducible refine le_bel_add ?_) | (with_reducible assumption) | omega | (dsimp only; omega))))
      · go_wp2_with fail
        refine wp_region_bel (by kernel_rfl) (by kernel_rfl) ?_
        repeat (go_big_quiet_step ((first | (go_at_call 23; with_reducible exact bel_of (G1.out _)) | (go_at_call 25; with_reducible exact bel_of (F1.out _)) | (go_at_call 25; with_reducible exact bel_of (F2.out _)) | (go_at_call 26; with_reducible exact bel_of (F3.out _)))))
        refine wpQuiet_nil ?_
        rintro _ ⟨z, rfl⟩
        go_wp2
        go_ret
        exact Ret.mk (by rfl) (by (repeat' (first | (with_reducible exact Below.refl _ _) | (with_reducible exact Nat.le_refl _) | (with_reducible refine Below.bel ?_ ?_) | (with_reducible refine Below.alloc ?_ ?_ _) | (with_reducible refine Below.drew ?_) | (with_reducible refine Below.drawsN ?_ _) | (with_reducible refine Below.setCell ?_ ?_ _) | (with_reducible refine le_bel ?_) | (with_reducible refine le_alloc ?_) | (with_reducible refine le_setCell ?_) | (with_reducible refine le_drew ?_) | (with_reducible refine le_drawsN ?_) | (dsimp only; with_reducible refine le_bel ?_) | (dsimp only; with_reducible refine Nat.le_refl _) | (dsimp only; with_reducible refine le_bel_add ?_) | (with_reducible assumption) | omega | (dsimp only; omega))))
      · go_wp2_with fail
        refine wp_region_bel (by kernel_rfl) (by kernel_rfl) ?_
        repeat (go_big_quiet_step ((first | (go_at_call 23; with_reducible exact bel_of (G1.out _)) | (go_at_call 25; with_reducible exact bel_of (F1.out _)) | (go_at_call 25; with_reducible exact bel_of (F2.out _)) | (go_at_call 26; with_reducible exact bel_of (F3.out _)))))
        refine wpQuiet_nil ?_
        rintro _ ⟨z, rfl⟩
        go_wp2
        go_ret
        exact Ret.mk (by rfl) (by (repeat' (first | (with_reducible exact Below.refl _ _) | (with_reducible exact Nat.le_refl _) | (with_reducible refine Below.bel ?_ ?_) | (with_reducible refine Below.alloc ?_ ?_ _) | (with_reducible refine Below.drew ?_) | (with_reducible refine Below.drawsN ?_ _) | (with_reducible refine Below.setCell ?_ ?_ _) | (with_reducible refine le_bel ?_) | (with_reducible refine le_alloc ?_) | (with_reducible refine le_setCell ?_) | (with_reducible refine le_drew ?_) | (with_reducible refine le_drawsN ?_) | (dsimp only; with_reducible refine le_bel ?_) | (dsimp only; with_reducible refine Nat.le_refl _) | (dsimp only; with_reducible refine le_bel_add ?_) | (with_reducible assumption) | omega | (dsimp only; omega))))
      · go_wp2_with fail
        refine wp_region_bel (by kernel_rfl) (by kernel_rfl) ?_
        repeat (go_big_quiet_step ((first | (go_at_call 23; with_reducible exact bel_of (G1.out _)) | (go_at_call 25; with_reducible exact bel_of (F1.out _)) | (go_at_call 25; with_reducible exact bel_of (F2.out _)) | (go_at_call 26; with_reducible exact bel_of (F3.out _)))))
        refine wpQuiet_nil ?_
        rintro _ ⟨z, rfl⟩
        go_wp2
        go_ret
        exact Ret.mk (by rfl) (by (repeat' (first | (with_reducible exact Below.refl _ _) | (with_reducible exact Nat.le_refl _) | (with_reducible refine Below.bel ?_ ?_) | (with_reducible refine Below.alloc ?_ ?_ _) | (with_reducible refine Below.drew ?_) | (with_reducible refine Below.drawsN ?_ _) | (with_reducible refine Below.setCell ?_ ?_ _) | (with_reducible refine le_bel ?_) | (with_reducible refine le_alloc ?_) | (with_reducible refine le_setCell ?_) | (with_reducible refine le_drew ?_) | (with_reducible refine le_drawsN ?_) | (dsimp only; with_reducible refine le_bel ?_) | (dsimp only; with_reducible refine Nat.le_refl _) | (dsimp only; with_reducible refine le_bel_add ?_) | (with_reducible assumption) | omega | (dsimp only; omega))))
      · go_wp2_with fail
        refine wp_region_bel (by kernel_rfl) (by kernel_rfl) ?_
        repeat (go_big_quiet_step ((first | (go_at_call 23; with_reducible exact bel_of (G1.out _)) | (go_at_call 25; with_reducible exact bel_of (F1.out _)) | (go_at_call 25; with_reducible exact bel_of (F2.out _)) | (go_at_call 26; with_reducible exact bel_of (F3.out _)))))
        refine wpQuiet_nil ?_
        rintro _ ⟨z, rfl⟩
        go_wp2
        go_ret
        exact Ret.mk (by rfl) (by (repeat' (first | (with_reducible exact Below.refl _ _) | (with_reducible exact Nat.le_refl _) | (with_reducible refine Below.bel ?_ ?_) | (with_reducible refine Below.alloc ?_ ?_ _) | (with_reducible refine Below.drew ?_) | (with_reducible refine Below.drawsN ?_ _) | (with_reducible refine Below.setCell ?_ ?_ _) | (with_reducible refine le_bel ?_) | (with_reducible refine le_alloc ?_) | (with_reducible refine le_setCell ?_) | (with_reducible refine le_drew ?_) | (with_reducible refine le_drawsN ?_) | (dsimp only; with_reducible refine le_bel ?_) | (dsimp only; with_reducible refine Nat.le_refl _) | (dsimp only; with_reducible refine le_bel_add ?_) | (with_reducible assumption) | omega | (dsimp only; omega))))
      · go_wp2_with fail
        refine wp_region_bel (by kernel_rfl) (by kernel_rfl) ?_
        repeat (go_big_quiet_step ((first | (go_at_call 23; with_reducible exact bel_of (G1.out _)) | (go_at_call 25; with_reducible exact bel_of (F1.out _)) | (go_at_call 25; with_reducible exact bel_of (F2.out _)) | (go_at_call 26; with_reducible exact bel_of (F3.out _)))))
        refine wpQuiet_nil ?_
        rintro _ ⟨z, rfl⟩
        go_wp2
        go_ret
        exact Ret.mk (by rfl) (by (repeat' (first | (with_reducible exact Below.refl _ _) | (with_reducible exact Nat.le_refl _) | (with_reducible refine Below.bel ?_ ?_) | (with_reducible refine Below.alloc ?_ ?_ _) | (with_reducible refine Below.drew ?_) | (with_reducible refine Below.drawsN ?_ _) | (with_reducible refine Below.setCell ?_ ?_ _) | (with_reducible refine le_bel ?_) | (with_reducible refine le_alloc ?_) | (with_reducible refine le_setCell ?_) | (with_reducible refine le_drew ?_) | (with_reducible refine le_drawsN ?_) | (dsimp only; with_reducible refine le_bel ?_) | (dsimp only; with_reducible refine Nat.le_refl _) | (dsimp only; with_reducible refine le_bel_add ?_) | (with_reducible assumption) | omega | (dsimp only; omega))))
end Go.Proofs.YtjojdkdpdlmahaaDoor
