/- The walk of FractionLaws. -/
import Derived.Test.YtoncbkkhfblpdaaDoorT2
import Derived.Test.YtoncbkkhfblpdaaDoorFloat2
namespace Go.Proofs.YtoncbkkhfblpdaaDoor
open Go.RowKit
attribute [local go_sem low] Bel.cell Bel.frozen alloc_cell alloc_frozen
attribute [local go_sem] floatOp Oper.floats Oper.calm yieldsR

set_option maxRecDepth 100000 in
set_option maxHeartbeats 3200000 in
theorem fractionLaws_any (n d m e p q : Int) (w : World) (hT : Tab w) (h1 : -32768 ≤ n) (h2 : n ≤ 32767) (h3 : 0 ≤ d) (h4 : d ≤ 255) (k1 : -32768 ≤ m) (k2 : m ≤ 32767) (k3 : 0 ≤ e) (k4 : e ≤ 255)
    (l1 : -32768 ≤ p) (l2 : p ≤ 32767) (l3 : 0 ≤ q) (l4 : q ≤ 255) :
    Calls Tryd.prog 12 #[.agg #[.int .i16 n, .int .u8 d], .agg #[.int .i16 m, .int .u8 e], .agg #[.int .i16 p, .int .u8 q]] w (Ret (.bool true) w) := by
  have HT := Lib.hid hT
  have H1 := Lib.hid (small_right n d h1 h2 h3 h4)
  have H2 := Lib.hid (small_right m e k1 k2 k3 k4)
  have H3 := Lib.hid (small_right p q l1 l2 l3 l4)
  have B1 := small_bd n d h1 h2 h3
  have B2 := small_bd m e k1 k2 k3
  clear hT
  go_enter Tryd.func12, Tryd.ntmps12
  go_wp2_with fail
  (with_reducible refine (known_any _ (HT.out.of (by (repeat' (first | (with_reducible exact Below.refl _ _) | (with_reducible exact Nat.le_refl _) | (with_reducible refine Below.bel ?_ ?_) | (with_reducible refine Below.alloc ?_ ?_ _) | (with_reducible refine Below.drew ?_) | (with_reducible refine Below.drawsN ?_ _) | (with_reducible refine Below.setCell ?_ ?_ _) | (with_reducible refine le_bel ?_) | (with_reducible refine le_alloc ?_) | (with_reducible refine le_setCell ?_) | (with_reducible refine le_drew ?_) | (with_reducible refine le_drawsN ?_) | (dsimp only; with_reducible refine le_bel ?_) | (dsimp only; with_reducible refine Nat.le_refl _) | (dsimp only; with_reducible refine le_bel_add ?_) | (with_reducible assumption) | omega | (dsimp only; omega)))))).mono ?_)
  rintro _ _ ⟨rfl, x1, rfl⟩
  go_wp2_with fail
  refine wp_region_vars 9 [6, 7, 8] [24] (fun _ => .cells #[.int .i64 0, .int .i64 0] 24) (by kernel_rfl) (by kernel_rfl) (by kernel_rfl) (by kernel_rfl) (by decide) (by kernel_rfl) run_alloc24 ?_
  simp only [List.take_succ_cons, List.take_zero, List.drop_succ_cons, List.drop_zero]
  repeat (refine wpFloat_step (fun K hK => ?_); go_simp; first | (refine hK _ ?_; clear hK K) | (apply Exists.intro; refine ⟨fun _ => ?_, hK _ ?_⟩; (go_at_call 19; exact small_any _ _ _ (by omega) (by omega) (by omega) (by omega)); clear hK K))
  refine wpFloat_nil ?_
  rintro B x ⟨hM, hA⟩
  obtain ⟨xl6, xm6⟩ := hM 6 (by decide)
  obtain ⟨xl7, xm7⟩ := hM 7 (by decide)
  obtain ⟨xl8, xm8⟩ := hM 8 (by decide)
  have xn6_7 := hA 6 (by decide) 7 (by decide) (by decide)
  have xn7_6 := Ne.symm xn6_7
  have xn6_8 := hA 6 (by decide) 8 (by decide) (by decide)
  have xn8_6 := Ne.symm xn6_8
  have xn7_8 := hA 7 (by decide) 8 (by decide) (by decide)
  have xn8_7 := Ne.symm xn7_8
  clear hM hA
  simp only [puts, binds, dstAt, ptr, List.map_cons, List.map_nil, List.foldl_cons, List.foldl_nil]
  generalize B 6 = xb6 at *
  generalize B 7 = xb7 at *
  generalize B 8 = xb8 at *
  have xc6_0 : x.w.cell? ⟨xb6, 0, none⟩ = some (.int .i64 0) := (made_cell xm6 0).1
  have xf6_0 : x.w.frozen? ⟨xb6, 0, none⟩ = false := (made_cell xm6 0).2
  have xc6_1 : x.w.cell? ⟨xb6, 1, none⟩ = some (.int .i64 0) := (made_cell xm6 1).1
  have xf6_1 : x.w.frozen? ⟨xb6, 1, none⟩ = false := (made_cell xm6 1).2
  have xc7_0 : x.w.cell? ⟨xb7, 0, none⟩ = some (.int .i64 0) := (made_cell xm7 0).1
  have xf7_0 : x.w.frozen? ⟨xb7, 0, none⟩ = false := (made_cell xm7 0).2
  have xc7_1 : x.w.cell? ⟨xb7, 1, none⟩ = some (.int .i64 0) := (made_cell xm7 1).1
  have xf7_1 : x.w.frozen? ⟨xb7, 1, none⟩ = false := (made_cell xm7 1).2
  have xc8_0 : x.w.cell? ⟨xb8, 0, none⟩ = some (.int .i64 0) := (made_cell xm8 0).1
  have xf8_0 : x.w.frozen? ⟨xb8, 0, none⟩ = false := (made_cell xm8 0).2
  have xc8_1 : x.w.cell? ⟨xb8, 1, none⟩ = some (.int .i64 0) := (made_cell xm8 1).1
  have xf8_1 : x.w.frozen? ⟨xb8, 1, none⟩ = false := (made_cell xm8 1).2
  clear xm6 xm7 xm8
  have xs := x.size_le
  have hx1 := x1.size_le
  simp at hx1
  generalize smN n d = N at *
  generalize smD n d = D at *
  generalize smN m e = M at *
  generalize smD m e = E at *
  generalize smN p q = P at *
  generalize smD p q = Q at *
  clear h1 h2 h3 h4 k1 k2 k3 k4 l1 l2 l3 l4
  go_wp2_with fail
  (with_reducible refine (add_any _ _ _ _ _ H1.out H2.out).mono ?_)
  rintro _ _ ⟨rfl, y1, rfl⟩
  go_wp2_with fail
  (with_reducible refine (add_any _ _ _ _ _ H2.out H1.out).mono ?_)
  rintro _ _ ⟨rfl, y2, rfl⟩
  rw [show M * D + N * E = N * E + M * D from Int.add_comm _ _, Int.mul_comm E D]
  go_wp2_with fail
  (with_reducible refine (mul_any _ _ _ _ _ H1.out H2.out).mono ?_)
  rintro _ _ ⟨rfl, y3, rfl⟩
  go_wp2_with fail
  (with_reducible refine (mul_any _ _ _ _ _ H2.out H1.out).mono ?_)
  rintro _ _ ⟨rfl, y4, rfl⟩
  rw [Int.mul_comm M N, Int.mul_comm E D]
  obtain ⟨b1, b2, b3, hsub, hb⟩ := back_sub H1.out H2.out
  obtain ⟨d1, d2, d3, hdiv, hd⟩ := back_div H1.out H2.out
  obtain ⟨z1, z2, z3, hbest, hz⟩ := best_den H1.out H2.out H3.out
  obtain ⟨r1, _⟩ := right_spec H1.out
  have HF := floor_near N D r1
  obtain ⟨f1, f2⟩ := small_fl N D B1.1 B1.2 r1
  obtain ⟨F, hF⟩ : ∃ F, N / D = F := ⟨_, rfl⟩
  rw [hF] at HF f1 f2
  have HFd := Lib.hid hF
  clear hF
  obtain ⟨m1, m2, m3, m4⟩ := whole_mk F (by omega) (by omega)
  obtain ⟨m5, m6, m7, m8⟩ := whole_mk (F + 1) (by omega) (by omega)
  have c1 := cmp_le HF.1
  have c2 := cmp_lt HF.2
  have M1 := Lib.hid (And.intro m1 (And.intro m2 m3))
  have M2 := Lib.hid m4
  have M3 := Lib.hid (And.intro m5 (And.intro m6 m7))
  have M4 := Lib.hid m8
  have C1 := Lib.hid c1
  have C2 := Lib.hid c2
  have HS := Lib.hid hsub
  have HD := Lib.hid hdiv
  have HZ := Lib.hid hbest
  have SB := Lib.hid hb
  have SD := Lib.hid hd
  have SZ := Lib.hid hz
  clear HF m1 m2 m3 m4 m5 m6 m7 m8 c1 c2 hsub hdiv hbest hb hd hz
  generalize mk1 (N * E + M * D) (D * E) = a1 at *
  generalize mk2 (N * E + M * D) (D * E) = a2 at *
  generalize mk3 (N * E + M * D) (D * E) = a3 at *
  generalize mk1 (N * M) (D * E) = g1 at *
  generalize mk2 (N * M) (D * E) = g2 at *
  generalize mk3 (N * M) (D * E) = g3 at *
  go_wp2_with fail
  (with_reducible refine (HS.out _).mono ?_)
  rintro _ _ ⟨rfl, y5, rfl⟩
  rcases SB.out with hb | ⟨hb, rfl, rfl, rfl⟩
  all_goals go_wp2_with fail
  all_goals (with_reducible refine (HD.out _).mono ?_)
  all_goals rintro _ _ ⟨rfl, y6, rfl⟩
  all_goals rcases SD.out with hd | ⟨hd, hd'⟩ | ⟨hd, hd', rfl, rfl, rfl⟩
  all_goals go_wp2_with fail
  all_goals (with_reducible refine (floorF_any _ _ _ H1.out).mono ?_)
  all_goals rintro _ _ ⟨rfl, y7, rfl⟩
  all_goals rw [HFd.out]
  all_goals go_wp2_with fail
  all_goals (with_reducible refine (whole_any _ _ (by omega) (by omega)).mono ?_)
  all_goals rintro _ _ ⟨rfl, y8, rfl⟩
  all_goals rw [M1.out.1, M1.out.2.1, M1.out.2.2]
  all_goals go_wp2_with fail
  all_goals (with_reducible refine (whole_any _ _ (by omega) (by omega)).mono ?_)
  all_goals rintro _ _ ⟨rfl, y9, rfl⟩
  all_goals rw [M3.out.1, M3.out.2.1, M3.out.2.2]
  all_goals go_wp2_with fail
  all_goals (with_reducible refine (compare_any _ _ _ _ _ M2.out H1.out).mono ?_)
  all_goals rintro _ _ ⟨rfl, u1, rfl⟩
  all_goals generalize cmp F 1 N D = q1 at *
  all_goals go_wp2_with fail
  all_goals (with_reducible refine (compare_any _ _ _ _ _ H1.out M4.out).mono ?_)
  all_goals rintro _ _ ⟨rfl, u2, rfl⟩
  all_goals rw [C2.out]
  all_goals have hq1 := C1.out
  all_goals have hq2 : decide (0 < q1) = false := by simpa using hq1
  all_goals go_wp2_with fail
  all_goals (with_reducible refine (HZ.out _).mono ?_)
  all_goals rintro _ _ ⟨rfl, u3, rfl⟩
  all_goals go_wp2_with fail
  all_goals (with_reducible refine (compare_any _ _ _ _ _ H1.out H3.out).mono ?_)
  all_goals rintro _ _ ⟨rfl, u4, rfl⟩
  all_goals generalize cmp N D P Q = v1 at *
  all_goals go_wp2_with fail
  all_goals (with_reducible refine (compare_any _ _ _ _ _ H3.out H2.out).mono ?_)
  all_goals rintro _ _ ⟨rfl, u5, rfl⟩
  all_goals generalize cmp P Q M E = v2 at *
  all_goals rcases SZ.out with hz | ⟨hz, hz2⟩ | ⟨hz, hz2, hz3⟩ | ⟨hz, hz2, hz3, hz4⟩
  all_goals go_wp2_with fail
  all_goals (go_ret; exact Ret.mk (by simp) (by (repeat' (first | (with_reducible exact Below.refl _ _) | (with_reducible exact Nat.le_refl _) | (with_reducible refine Below.bel ?_ ?_) | (with_reducible refine Below.alloc ?_ ?_ _) | (with_reducible refine Below.drew ?_) | (with_reducible refine Below.drawsN ?_ _) | (with_reducible refine Below.setCell ?_ ?_ _) | (with_reducible refine le_bel ?_) | (with_reducible refine le_alloc ?_) | (with_reducible refine le_setCell ?_) | (with_reducible refine le_drew ?_) | (with_reducible refine le_drawsN ?_) | (dsimp only; with_reducible refine le_bel ?_) | (dsimp only; with_reducible refine Nat.le_refl _) | (dsimp only; with_reducible refine le_bel_add ?_) | (with_reducible assumption) | omega | (dsimp only; omega)))))
end Go.Proofs.YtoncbkkhfblpdaaDoor
