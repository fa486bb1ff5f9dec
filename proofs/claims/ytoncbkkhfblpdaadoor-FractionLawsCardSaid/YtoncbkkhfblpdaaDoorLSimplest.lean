/- The walk of FractionSimplest. -/
import Derived.Test.YtoncbkkhfblpdaaDoorK3
import Derived.Test.YtoncbkkhfblpdaaDoorFloat2
import Derived.Test.YtoncbkkhfblpdaaDoorG
namespace Go.Proofs.YtoncbkkhfblpdaaDoor
open Go.RowKit
attribute [local go_sem low] Bel.cell Bel.frozen alloc_cell alloc_frozen
attribute [local go_sem] floatOp Oper.floats Oper.calm yieldsR

theorem run_alloc24 (o : Oper) (t : TypeId) (ho : o.op = .alloc t) (ht : t ∈ [24]) (a : Act) (w : World) : (execOp a.eval o).run Tryd.prog w = .ok (.value (ptr w.heap.size)) (w.alloc ((fun _ => .cells #[.int .i64 0, .int .i64 0] 24 : TypeId → Obj) t)) := by
  obtain rfl : t = 24 := by simpa using ht
  unfold execOp
  rw [ho]
  simp [go_sem, ptr]

theorem smpV_self (n d : Int) (h : right n d = true) : smpV n d n d = (n, d) := by
  obtain ⟨r1, r2, r3, r4, hg⟩ := right_spec h
  have hle := smpV_low n d n d r1 r1 (Int.le_refl _)
  obtain ⟨g1, _, _, g4, g5⟩ := smpV_spec n d n d r1 r1 (Int.le_refl _)
  generalize hz : smpV n d n d = z at *
  obtain ⟨X, k⟩ := z
  dsimp only at *
  have w1 := (cei_le (x := cei n d k) (n := n) (k := k) r1).1 (Int.le_refl _)
  have w2 := (le_flo (x := cei n d k) (m := n) (k := k) r1).1 g4
  have w3 := (le_flo (x := flo n d k) (m := n) (k := k) r1).1 (Int.le_refl _)
  have w4 := (cei_le (x := flo n d k) (n := n) (k := k) r1).1 g4
  have e1 : n * k = cei n d k * d := by omega
  have e2 : n * k = flo n d k * d := by omega
  have hdk : d ≤ k := by
    have h1 : d ∣ n * k := ⟨cei n d k, by rw [e1, Int.mul_comm]⟩
    have h2 : d.natAbs ∣ n.natAbs * k.natAbs := by rw [← Int.natAbs_mul]; exact Int.natAbs_dvd_natAbs.2 h1
    have h3 : d.natAbs ∣ k.natAbs := Nat.Coprime.dvd_of_dvd_mul_left (by rw [Nat.coprime_comm]; exact hg) h2
    have := Nat.le_of_dvd (by omega) h3
    omega
  obtain rfl : k = d := by omega
  have e3 : cei n k k = n := (Int.eq_of_mul_eq_mul_right (by omega) e1).symm
  have e4 : flo n k k = n := (Int.eq_of_mul_eq_mul_right (by omega) e2).symm
  rcases g5 with ⟨_, h1⟩ | ⟨_, _, h1⟩ | ⟨h2, h3, h1⟩
  · rw [h1, e3]
  · rw [h1, e4]
  · cases h1
    have : n = 0 := by omega
    rw [this]

set_option maxHeartbeats 1600000 in
theorem fractionSimplest_any (n d m e : Int) (w : World) (hT : Tab w) (h1 : -32768 ≤ n) (h2 : n ≤ 32767) (h3 : 0 ≤ d) (h4 : d ≤ 255) (k1 : -32768 ≤ m) (k2 : m ≤ 32767) (k3 : 0 ≤ e) (k4 : e ≤ 255) :
    Calls Tryd.prog 9 #[.agg #[.int .i16 n, .int .u8 d], .agg #[.int .i16 m, .int .u8 e]] w (Ret (.bool true) w) := by
  have HT := Lib.hid hT
  have H1 := Lib.hid (small_right n d h1 h2 h3 h4)
  have H2 := Lib.hid (small_right m e k1 k2 k3 k4)
  clear hT
  go_enter Tryd.func9, Tryd.ntmps9
  go_wp2_with fail
  (with_reducible refine (known_any _ (HT.out.of (by (repeat' (first | (with_reducible exact Below.refl _ _) | (with_reducible exact Nat.le_refl _) | (with_reducible refine Below.bel ?_ ?_) | (with_reducible refine Below.alloc ?_ ?_ _) | (with_reducible refine Below.drew ?_) | (with_reducible refine Below.drawsN ?_ _) | (with_reducible refine Below.setCell ?_ ?_ _) | (with_reducible refine le_bel ?_) | (with_reducible refine le_alloc ?_) | (with_reducible refine le_setCell ?_) | (with_reducible refine le_drew ?_) | (with_reducible refine le_drawsN ?_) | (dsimp only; with_reducible refine le_bel ?_) | (dsimp only; with_reducible refine Nat.le_refl _) | (dsimp only; with_reducible refine le_bel_add ?_) | (with_reducible assumption) | omega | (dsimp only; omega)))))).mono ?_)
  rintro _ _ ⟨rfl, x1, rfl⟩
  go_wp2_with fail
  refine wp_region_vars 6 [4, 5] [24] (fun _ => .cells #[.int .i64 0, .int .i64 0] 24) (by kernel_rfl) (by kernel_rfl) (by kernel_rfl) (by kernel_rfl) (by decide) (by kernel_rfl) run_alloc24 ?_
  simp only [List.take_succ_cons, List.take_zero, List.drop_succ_cons, List.drop_zero]
  repeat (refine wpFloat_step (fun K hK => ?_); go_simp; first | (refine hK _ ?_; clear hK K) | (apply Exists.intro; refine ⟨fun _ => ?_, hK _ ?_⟩; (go_at_call 19; exact small_any _ _ _ (by omega) (by omega) (by omega) (by omega)); clear hK K))
  refine wpFloat_nil ?_
  rintro B x ⟨hM, hA⟩
  obtain ⟨xl4, xm4⟩ := hM 4 (by decide)
  obtain ⟨xl5, xm5⟩ := hM 5 (by decide)
  have xn4_5 := hA 4 (by decide) 5 (by decide) (by decide)
  have xn5_4 := Ne.symm xn4_5
  clear hM hA
  simp only [puts, binds, dstAt, ptr, List.map_cons, List.map_nil, List.foldl_cons, List.foldl_nil]
  generalize B 4 = xb4 at *
  generalize B 5 = xb5 at *
  have xc4_0 : x.w.cell? ⟨xb4, 0, none⟩ = some (.int .i64 0) := (made_cell xm4 0).1
  have xf4_0 : x.w.frozen? ⟨xb4, 0, none⟩ = false := (made_cell xm4 0).2
  have xc4_1 : x.w.cell? ⟨xb4, 1, none⟩ = some (.int .i64 0) := (made_cell xm4 1).1
  have xf4_1 : x.w.frozen? ⟨xb4, 1, none⟩ = false := (made_cell xm4 1).2
  have xc5_0 : x.w.cell? ⟨xb5, 0, none⟩ = some (.int .i64 0) := (made_cell xm5 0).1
  have xf5_0 : x.w.frozen? ⟨xb5, 0, none⟩ = false := (made_cell xm5 0).2
  have xc5_1 : x.w.cell? ⟨xb5, 1, none⟩ = some (.int .i64 0) := (made_cell xm5 1).1
  have xf5_1 : x.w.frozen? ⟨xb5, 1, none⟩ = false := (made_cell xm5 1).2
  clear xm4 xm5
  have xs := x.size_le
  have hx1 := x1.size_le
  simp at hx1
  by_cases hc : smN n d * smD m e ≤ smN m e * smD n d
  · have hself := smpV_self _ _ H1.out
    have hcmp : cmp (smN n d) (smD n d) (smN m e) (smD m e) ≤ 0 := by
      have := @cmp_pos (smN n d) (smD n d) (smN m e) (smD m e)
      omega
    have HC := Lib.hid hc
    have HS := Lib.hid hself
    clear hc hself
    generalize smN n d = N at *
    generalize smD n d = D at *
    generalize smN m e = M at *
    generalize smD m e = E at *
    go_wp2_with fail
    (with_reducible refine (simplestF_ok _ _ _ _ _ H1.out H2.out HC.out).mono ?_)
    rintro _ _ ⟨rfl, y1, rfl⟩
    go_wp2_with fail
    (with_reducible refine (simplestF_ok _ _ _ _ _ H1.out H1.out (Int.le_refl _)).mono ?_)
    rintro _ _ ⟨rfl, y2, rfl⟩
    rw [HS.out]
    go_wp2_with fail
    (with_reducible refine (refcompare_any _ _ _ _ _ H1.out H2.out).mono ?_)
    rintro _ _ ⟨rfl, y3, rfl⟩
    generalize cmp N D M E = c at *
    go_wp2_with fail
    refine wp_region_bel (by kernel_rfl) (by kernel_rfl) ?_
    repeat (go_big_quiet_step ((go_at_call 31; exact bel_of (refsimplest_any _ _ _ _ _ H1.out H2.out HC.out))))
    refine wpQuiet_nil ?_
    rintro _ ⟨y4, rfl⟩
    generalize smpV N D M E = z at *
    go_wp2
    go_ret
    exact Ret.mk (by simp) (by (repeat' (first | (with_reducible exact Below.refl _ _) | (with_reducible exact Nat.le_refl _) | (with_reducible refine Below.bel ?_ ?_) | (with_reducible refine Below.alloc ?_ ?_ _) | (with_reducible refine Below.drew ?_) | (with_reducible refine Below.drawsN ?_ _) | (with_reducible refine Below.setCell ?_ ?_ _) | (with_reducible refine le_bel ?_) | (with_reducible refine le_alloc ?_) | (with_reducible refine le_setCell ?_) | (with_reducible refine le_drew ?_) | (with_reducible refine le_drawsN ?_) | (dsimp only; with_reducible refine le_bel ?_) | (dsimp only; with_reducible refine Nat.le_refl _) | (dsimp only; with_reducible refine le_bel_add ?_) | (with_reducible assumption) | omega | (dsimp only; omega))))
  · have hself := smpV_self _ _ H1.out
    have hcmp : 0 < cmp (smN n d) (smD n d) (smN m e) (smD m e) := cmp_pos.2 (by omega)
    have HC := Lib.hid (show smN m e * smD n d < smN n d * smD m e by omega)
    have HS := Lib.hid hself
    clear hc hself
    generalize smN n d = N at *
    generalize smD n d = D at *
    generalize smN m e = M at *
    generalize smD m e = E at *
    go_wp2_with fail
    (with_reducible refine (simplestF_order _ _ _ _ _ H1.out H2.out HC.out).mono ?_)
    rintro _ _ ⟨rfl, y1, rfl⟩
    go_wp2_with fail
    (with_reducible refine (simplestF_ok _ _ _ _ _ H1.out H1.out (Int.le_refl _)).mono ?_)
    rintro _ _ ⟨rfl, y2, rfl⟩
    rw [HS.out]
    go_wp2_with fail
    (with_reducible refine (refcompare_any _ _ _ _ _ H1.out H2.out).mono ?_)
    rintro _ _ ⟨rfl, y3, rfl⟩
    generalize cmp N D M E = c at *
    go_wp2
    go_ret
    exact Ret.mk (by simp) (by (repeat' (first | (with_reducible exact Below.refl _ _) | (with_reducible exact Nat.le_refl _) | (with_reducible refine Below.bel ?_ ?_) | (with_reducible refine Below.alloc ?_ ?_ _) | (with_reducible refine Below.drew ?_) | (with_reducible refine Below.drawsN ?_ _) | (with_reducible refine Below.setCell ?_ ?_ _) | (with_reducible refine le_bel ?_) | (with_reducible refine le_alloc ?_) | (with_reducible refine le_setCell ?_) | (with_reducible refine le_drew ?_) | (with_reducible refine le_drawsN ?_) | (dsimp only; with_reducible refine le_bel ?_) | (dsimp only; with_reducible refine Nat.le_refl _) | (dsimp only; with_reducible refine le_bel_add ?_) | (with_reducible assumption) | omega | (dsimp only; omega))))
end Go.Proofs.YtoncbkkhfblpdaaDoor
