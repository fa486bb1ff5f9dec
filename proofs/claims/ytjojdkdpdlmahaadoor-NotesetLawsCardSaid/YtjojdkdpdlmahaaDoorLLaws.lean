/- The walk of NotesetLaws. -/
import Derived.Test.YtjojdkdpdlmahaaDoorK
import Derived.Test.YtjojdkdpdlmahaaDoorFloat2
namespace Go.Proofs.YtjojdkdpdlmahaaDoor
open Go.RowKit
attribute [local go_sem low] Bel.cell Bel.frozen alloc_cell alloc_frozen
attribute [local go_sem] floatOp Oper.floats Oper.calm yieldsR

theorem run_allocS (o : Oper) (t : TypeId) (ho : o.op = .alloc t) (ht : t ∈ [34]) (a : Act) (w : World) : (execOp a.eval o).run Tryd.prog w = .ok (.value (ptr w.heap.size)) (w.alloc ((fun _ => .cells #[.int .u64 0, .int .u64 0] 34 : TypeId → Obj) t)) := by
  obtain rfl : t = 34 := by simpa using ht
  unfold execOp
  rw [ho]
  simp [go_sem, ptr]
theorem dif_or_and {a b : Nat} (ha : a < 18446744073709551616) (hb : b < 18446744073709551616) : dif a b ||| (a &&& b) = a := by
  refine Nat.eq_of_testBit_eq fun i => ?_
  rw [Nat.testBit_or, testBit_dif ha hb, Nat.testBit_and]
  cases a.testBit i <;> cases b.testBit i <;> rfl
theorem dif_and_and {a b : Nat} (ha : a < 18446744073709551616) (hb : b < 18446744073709551616) : dif a b &&& (a &&& b) = 0 := by
  refine Nat.eq_of_testBit_eq fun i => ?_
  rw [Nat.testBit_and, testBit_dif ha hb, Nat.testBit_and, Nat.zero_testBit]
  cases a.testBit i <;> cases b.testBit i <;> rfl
theorem dif_zero {a b : Nat} (ha : a < 18446744073709551616) (hb : b < 18446744073709551616) (h : ∀ i, a.testBit i = true → b.testBit i = true) : dif a b = 0 := by
  refine Nat.eq_of_testBit_eq fun i => ?_
  rw [testBit_dif ha hb, Nat.zero_testBit]
  cases h1 : a.testBit i
  · rfl
  · rw [h i h1]; rfl
theorem sub_of {lo hi a b : Nat} (h1 : lo < 18446744073709551616) (h2 : hi < 18446744073709551616) (h3 : a < 18446744073709551616) (h4 : b < 18446744073709551616)
    (h : ∀ i, lo.testBit i = true → a.testBit i = true) (h' : ∀ i, hi.testBit i = true → b.testBit i = true) : sub lo hi a b = true := by
  unfold sub
  rw [dif_zero h1 h3 h, dif_zero h2 h4 h']; rfl
theorem popc_add (a b : Nat) : popc (a ||| b) + popc (a &&& b) = popc a + popc b := by
  unfold popc
  have gen : ∀ (f a b : Nat), Lib.popAux f (a ||| b) + Lib.popAux f (a &&& b) = Lib.popAux f a + Lib.popAux f b := by
    intro f
    induction f with
    | zero => intro a b; rfl
    | succ f ih =>
      intro a b
      have h := ih (a / 2) (b / 2)
      have e1 : (a ||| b) / 2 = a / 2 ||| b / 2 := by
        refine Nat.eq_of_testBit_eq fun i => ?_
        rw [← Nat.testBit_succ, Nat.testBit_or, Nat.testBit_or, Nat.testBit_succ, Nat.testBit_succ]
      have e2 : (a &&& b) / 2 = a / 2 &&& b / 2 := by
        refine Nat.eq_of_testBit_eq fun i => ?_
        rw [← Nat.testBit_succ, Nat.testBit_and, Nat.testBit_and, Nat.testBit_succ, Nat.testBit_succ]
      have e3 : (a ||| b) % 2 + (a &&& b) % 2 = a % 2 + b % 2 := by
        have t1 := @Nat.or_mod_two_eq_one a b
        have t2 := @Nat.and_mod_two_eq_one a b
        omega
      simp only [Lib.popAux]
      rw [e1, e2]
      omega
  exact gen 64 a b
set_option maxRecDepth 100000 in
set_option maxHeartbeats 3200000 in
theorem lawLaws_any (lo hi a b : Nat) (w : World) (hL : Lib3 w) (h1 : lo < 18446744073709551616) (h2 : hi < 18446744073709551616) (h3 : a < 18446744073709551616) (h4 : b < 18446744073709551616) :
    Calls Tryd.prog 5 #[.agg #[.int .u64 (lo : Int), .int .u64 (hi : Int)], .agg #[.int .u64 (a : Int), .int .u64 (b : Int)]] w (Ret (.bool true) w) := by
  have HL := Lib.hid hL
  clear hL
  have E1 := Lib.hid (dif_or_and h1 h3)
  have E2 := Lib.hid (dif_or_and h2 h4)
  have E3 := Lib.hid (dif_and_and h1 h3)
  have E4 := Lib.hid (dif_and_and h2 h4)
  have q1 : dif lo a < 18446744073709551616 := dif_lt h1
  have q2 : dif hi b < 18446744073709551616 := dif_lt h2
  have q3 : lo &&& a < 18446744073709551616 := and_lt h1
  have q4 : hi &&& b < 18446744073709551616 := and_lt h2
  have q5 := or_lt h1 h3
  have q6 := or_lt h2 h4
  have S1 := Lib.hid (sub_of q3 q4 h1 h2 (fun i h => by rw [Nat.testBit_and, Bool.and_eq_true] at h; exact h.1) (fun i h => by rw [Nat.testBit_and, Bool.and_eq_true] at h; exact h.1))
  have S2 := Lib.hid (sub_of q3 q4 h3 h4 (fun i h => by rw [Nat.testBit_and, Bool.and_eq_true] at h; exact h.2) (fun i h => by rw [Nat.testBit_and, Bool.and_eq_true] at h; exact h.2))
  have S3 := Lib.hid (sub_of h1 h2 q5 q6 (fun i h => by rw [Nat.testBit_or, h]; rfl) (fun i h => by rw [Nat.testBit_or, h]; rfl))
  have P1 := popc_add lo a
  have P2 := popc_add hi b
  have U1 := fun w => union_any (dif lo a) (dif hi b) (lo &&& a) (hi &&& b) w q1 q2 q3 q4
  have B1 := fun w => both_any (dif lo a) (dif hi b) (lo &&& a) (hi &&& b) w q1 q2 q3 q4
  have W1 := fun w => within_any (lo &&& a) (hi &&& b) lo hi w q3 q4 h1 h2
  have W2 := fun w => within_any (lo &&& a) (hi &&& b) a b w q3 q4 h3 h4
  have U2 := fun w => union_any lo hi a b w h1 h2 h3 h4
  have W3 := fun w => within_any lo hi (lo ||| a) (hi ||| b) w h1 h2 q5 q6
  have C1 := fun w => count_any (lo ||| a) (hi ||| b) w q5 q6
  have C2 := fun w => count_any (lo &&& a) (hi &&& b) w q3 q4
  have C3 := fun w => count_any lo hi w h1 h2
  have C4 := fun w => count_any a b w h3 h4
  have D1 := fun w => without_any lo hi a b w h1 h2 h3 h4
  have D2 := fun w => both_any lo hi a b w h1 h2 h3 h4
  simp only [E1.out, E2.out] at U1
  simp only [E3.out, E4.out] at B1
  simp only [S1.out] at W1
  simp only [S2.out] at W2
  simp only [S3.out] at W3
  have l1 := popc_le (lo ||| a)
  have l2 := popc_le (hi ||| b)
  have l3 := popc_le (lo &&& a)
  have l4 := popc_le (hi &&& b)
  have l5 := popc_le lo
  have l6 := popc_le hi
  have l7 := popc_le a
  have l8 := popc_le b
  generalize popc (lo ||| a) = n1 at *
  generalize popc (hi ||| b) = n2 at *
  generalize popc (lo &&& a) = n3 at *
  generalize popc (hi &&& b) = n4 at *
  generalize popc lo = n5 at *
  generalize popc hi = n6 at *
  generalize popc a = n7 at *
  generalize popc b = n8 at *
  generalize dif lo a = p1 at *
  generalize dif hi b = p2 at *
  generalize lo &&& a = p3 at *
  generalize hi &&& b = p4 at *
  generalize lo ||| a = p5 at *
  generalize hi ||| b = p6 at *
  have HP := Lib.hid (show (((n1 : Int) + n2 + (n3 + n4) == n5 + n6 + (n7 + n8)) = true) by rw [beq_iff_eq]; omega)
  have HU1 := Lib.hid U1
  have HB1 := Lib.hid B1
  have HW1 := Lib.hid W1
  have HW2 := Lib.hid W2
  have HU2 := Lib.hid U2
  have HW3 := Lib.hid W3
  have HC1 := Lib.hid C1
  have HC2 := Lib.hid C2
  have HC3 := Lib.hid C3
  have HC4 := Lib.hid C4
  have HD1 := Lib.hid D1
  have HD2 := Lib.hid D2
  clear U1 B1 W1 W2 U2 W3 C1 C2 C3 C4 D1 D2 P1 P2 E1 E2 E3 E4 S1 S2 S3 q1 q2 q3 q4 q5 q6 h1 h2 h3 h4
  go_enter Tryd.func5, Tryd.ntmps5
  go_wp2_with fail
  (with_reducible refine (known_any _ (HL.out.of (by (repeat' (first | (with_reducible exact Below.refl _ _) | (with_reducible exact Nat.le_refl _) | (with_reducible refine Below.bel ?_ ?_) | (with_reducible refine Below.alloc ?_ ?_ _) | (with_reducible refine Below.drew ?_) | (with_reducible refine Below.drawsN ?_ _) | (with_reducible refine Below.setCell ?_ ?_ _) | (with_reducible refine le_bel ?_) | (with_reducible refine le_alloc ?_) | (with_reducible refine le_setCell ?_) | (with_reducible refine le_drew ?_) | (with_reducible refine le_drawsN ?_) | (dsimp only; with_reducible refine le_bel ?_) | (dsimp only; with_reducible refine Nat.le_refl _) | (dsimp only; with_reducible refine le_bel_add ?_) | (with_reducible assumption) | omega | (dsimp only; omega)))))).mono ?_)
  rintro _ _ ⟨rfl, x, rfl⟩
  have hxs := x.size_le
  simp at hxs
  go_wp2_with fail
  refine wp_region_vars 8 [6, 7] [34] (fun _ => .cells #[.int .u64 0, .int .u64 0] 34) (by kernel_rfl) (by kernel_rfl) (by kernel_rfl) (by kernel_rfl) (by decide) (by kernel_rfl) run_allocS ?_
  simp only [List.take_succ_cons, List.take_zero, List.drop_succ_cons, List.drop_zero]
  repeat (refine wpFloat_step (fun K hK => ?_); go_simp; first | (refine hK _ ?_; clear hK K) | (apply Exists.intro; refine ⟨fun _ => ?_, hK _ ?_⟩; (first | (go_at_call 20; exact HD1.out _) | (go_at_call 21; exact HD2.out _)); clear hK K))
  refine wpFloat_nil ?_
  rintro B v ⟨hM, hA⟩
  obtain ⟨vl6, vm6⟩ := hM 6 (by decide)
  obtain ⟨vl7, vm7⟩ := hM 7 (by decide)
  have vn6_7 := hA 6 (by decide) 7 (by decide) (by decide)
  have vn7_6 := Ne.symm vn6_7
  clear hM hA
  simp only [puts, binds, dstAt, ptr, List.map_cons, List.map_nil, List.foldl_cons, List.foldl_nil]
  generalize B 6 = vb6 at *
  generalize B 7 = vb7 at *
  have vc6_0 : v.w.cell? ⟨vb6, 0, none⟩ = some (.int .u64 0) := (made_cell vm6 0).1
  have vf6_0 : v.w.frozen? ⟨vb6, 0, none⟩ = false := (made_cell vm6 0).2
  have vc6_1 : v.w.cell? ⟨vb6, 1, none⟩ = some (.int .u64 0) := (made_cell vm6 1).1
  have vf6_1 : v.w.frozen? ⟨vb6, 1, none⟩ = false := (made_cell vm6 1).2
  have vc7_0 : v.w.cell? ⟨vb7, 0, none⟩ = some (.int .u64 0) := (made_cell vm7 0).1
  have vf7_0 : v.w.frozen? ⟨vb7, 0, none⟩ = false := (made_cell vm7 0).2
  have vc7_1 : v.w.cell? ⟨vb7, 1, none⟩ = some (.int .u64 0) := (made_cell vm7 1).1
  have vf7_1 : v.w.frozen? ⟨vb7, 1, none⟩ = false := (made_cell vm7 1).2
  clear vm6 vm7
  have vs := v.size_le
  go_wp2_with fail
  refine wp_region_bel (by kernel_rfl) (by kernel_rfl) ?_
  repeat (go_big_quiet_step ((first | (go_at_call 22; with_reducible exact bel_of (HU1.out _)) | (go_at_call 22; with_reducible exact bel_of (HU2.out _)) | (go_at_call 21; with_reducible exact bel_of (HB1.out _)) | (go_at_call 23; with_reducible exact bel_of (HW1.out _)) | (go_at_call 23; with_reducible exact bel_of (HW2.out _)) | (go_at_call 23; with_reducible exact bel_of (HW3.out _)))))
  refine wpQuiet_nil ?_
  rintro _ ⟨z, rfl⟩
  go_wp2_with fail
  refine wp_region_bel (by kernel_rfl) (by kernel_rfl) ?_
  repeat (go_big_quiet_step ((first | (go_at_call 22; with_reducible exact bel_of (HU2.out _)) | (go_at_call 24; with_reducible exact bel_of (HC1.out _)) | (go_at_call 24; with_reducible exact bel_of (HC2.out _)) | (go_at_call 24; with_reducible exact bel_of (HC3.out _)) | (go_at_call 24; with_reducible exact bel_of (HC4.out _)))))
  refine wpQuiet_nil ?_
  rintro _ ⟨u, rfl⟩
  go_wp2
  go_ret
  exact Ret.mk (by exact val_bool (by exact HP.out)) (by (repeat' (first | (with_reducible exact Below.refl _ _) | (with_reducible exact Nat.le_refl _) | (with_reducible refine Below.bel ?_ ?_) | (with_reducible refine Below.alloc ?_ ?_ _) | (with_reducible refine Below.drew ?_) | (with_reducible refine Below.drawsN ?_ _) | (with_reducible refine Below.setCell ?_ ?_ _) | (with_reducible refine le_bel ?_) | (with_reducible refine le_alloc ?_) | (with_reducible refine le_setCell ?_) | (with_reducible refine le_drew ?_) | (with_reducible refine le_drawsN ?_) | (dsimp only; with_reducible refine le_bel ?_) | (dsimp only; with_reducible refine Nat.le_refl _) | (dsimp only; with_reducible refine le_bel_add ?_) | (with_reducible assumption) | omega | (dsimp only; omega))))
end Go.Proofs.YtjojdkdpdlmahaaDoor
