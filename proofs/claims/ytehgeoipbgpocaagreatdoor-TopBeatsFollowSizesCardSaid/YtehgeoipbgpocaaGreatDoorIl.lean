/- Sizes of intervals: Compare. -/
import Derived.Test.YtehgeoipbgpocaaGreatDoorIk
namespace Go.Proofs.YtehgeoipbgpocaaGreatDoor
set_option linter.unusedVariables false
set_option linter.unusedSimpArgs false
open Go.RowKit
attribute [local go_sem low] Bel.cell Bel.frozen alloc_cell alloc_frozen
attribute [local go_sem] calmOp chainOp yieldsC grows floatOp Oper.floats Oper.calm yieldsR

theorem lcI_bd {a b : Int} (ha : 1 ≤ a) (hb : 1 ≤ b) : lcI a b ≤ a * b ∧ lcI a b / a ≤ b ∧ lcI a b / b ≤ a := by
  have hg : 1 ≤ (Int.gcd a b : Int) := by have := Int.gcd_pos_of_ne_zero_left b (show a ≠ 0 by omega); omega
  have h1 : a / (Int.gcd a b : Int) ≤ a := Int.ediv_le_self _ (by omega)
  have h2 : lcI a b ≤ a * b := Int.mul_le_mul_of_nonneg_right h1 (by omega)
  refine ⟨h2, ?_, ?_⟩
  · have := Int.ediv_le_ediv (c := a) (by omega) h2
    rwa [Int.mul_ediv_cancel_left _ (by omega)] at this
  · have := Int.ediv_le_ediv (c := b) (by omega) h2
    rwa [Int.mul_ediv_cancel _ (by omega)] at this
def cmM (s t : Sz) : Int := lcI s.den t.den
def cmV (s t : Sz) (k : Nat) : Int := s.ov (cmM s t) k - t.ov (cmM s t) k
def cmS (s t : Sz) : Int := if both2 s t = 0 then sgP (cmV s t 0) (cmV s t 1) (cmV s t 2) else 0
theorem ov_small {s : Sz} (h : s.ok = true) {m : Int} (h0 : 0 ≤ m / s.den) (h1 : m / s.den ≤ 240) {k : Nat} (hk : k < 3) : -1440000 ≤ s.ov m k ∧ s.ov m k ≤ 1440000 := by
  obtain ⟨e1, e2⟩ := Sz.e_ok h k hk
  have e := Int.natAbs_mul (s.e k) (m / s.den)
  have h3 : (s.e k).natAbs * (m / s.den).natAbs ≤ 6000 * 240 := Nat.mul_le_mul (by omega) (by omega)
  unfold Sz.ov
  omega
theorem cm_bd {s t : Sz} (hs : s.ok = true) (ht : t.ok = true) : 1 ≤ cmM s t ∧ cmM s t ≤ 57600 ∧ ∀ k, k < 3 → (-1440000 ≤ s.ov (cmM s t) k ∧ s.ov (cmM s t) k ≤ 1440000) ∧ (-1440000 ≤ t.ov (cmM s t) k ∧ t.ov (cmM s t) k ≤ 1440000) := by
  have a0 : 1 ≤ s.den := s.dn_pos (Sz.ok_rt hs) 3
  have a1 : s.den ≤ 240 := (s.fit_spec (Sz.ok_fit hs)).1
  have b0 : 1 ≤ t.den := t.dn_pos (Sz.ok_rt ht) 3
  have b1 : t.den ≤ 240 := (t.fit_spec (Sz.ok_fit ht)).1
  obtain ⟨c1, c2, c3⟩ := lcI_bd a0 b0
  obtain ⟨d1, _⟩ := lcI_spec a0 b0
  have e1 : s.den * t.den ≤ 240 * 240 := Int.mul_le_mul a1 b1 (by omega) (by omega)
  unfold cmM
  refine ⟨by omega, by omega, fun k hk => ⟨ov_small hs (Int.ediv_nonneg (by omega) (by omega)) (by omega) hk, ov_small ht (Int.ediv_nonneg (by omega) (by omega)) (by omega) hk⟩⟩
theorem negI_mul {g x : Int} (hg : 1 ≤ g) : negI (g * x) = g * negI x := by
  unfold negI
  by_cases h : 0 < x
  · rw [if_pos h, if_pos (Int.mul_pos (by omega) h), Int.mul_zero]
  · rw [if_neg h, if_neg]
    intro h'
    have := Int.mul_le_mul_of_nonneg_left (show x ≤ 0 by omega) (show 0 ≤ g by omega)
    omega
theorem sgP_mul {g x y z : Int} (hg : 1 ≤ g) : sgP (g * x) (g * y) (g * z) = sgP x y z := by
  unfold sgP
  by_cases h : x = 0 ∧ y = 0 ∧ z = 0
  · rw [if_pos h, h.1, h.2.1, h.2.2, if_pos (by simp)]
  · rw [if_neg h, if_neg (by simp only [Int.mul_eq_zero, show g ≠ 0 by omega, false_or]; exact h)]
    have e : bdL (g * x) (g * y) (g * z) = g * bdL x y z := by
      unfold bdL bdM
      rw [negI_mul hg, negI_mul hg]
      simp only [Int.mul_add, Int.mul_assoc]
    rw [e, Int.sign_mul, Int.sign_eq_one_of_pos (by omega), Int.one_mul]
theorem tdiv_mul {g q : Int} (hg : 1 ≤ g) : Int.tdiv (g * q) g = q := Int.mul_tdiv_cancel_left _ (by omega)
theorem gcd3 (x y z : Int) : ∃ a b c : Int, x = (Int.gcd (Int.gcd x y : Int) z : Int) * a ∧ y = (Int.gcd (Int.gcd x y : Int) z : Int) * b ∧ z = (Int.gcd (Int.gcd x y : Int) z : Int) * c := by
  have h1 : ((Int.gcd (Int.gcd x y : Int) z : Nat) : Int) ∣ ((Int.gcd x y : Nat) : Int) := Int.gcd_dvd_left ..
  obtain ⟨a, ha⟩ := Int.dvd_trans h1 (Int.gcd_dvd_left (a := x) (b := y))
  obtain ⟨b, hb⟩ := Int.dvd_trans h1 (Int.gcd_dvd_right (a := x) (b := y))
  obtain ⟨c, hc⟩ := Int.gcd_dvd_right (a := (Int.gcd x y : Int)) (b := z)
  exact ⟨a, b, c, ha, hb, hc⟩
theorem fac_bd {g q x n : Int} (hg : 1 ≤ g) (h : x = g * q) (h1 : -n ≤ x) (h2 : x ≤ n) : -n ≤ q ∧ q ≤ n := by
  have e := Int.natAbs_mul g q
  have h3 : 1 * q.natAbs ≤ g.natAbs * q.natAbs := Nat.mul_le_mul_right _ (by omega)
  rw [← h] at e
  omega
theorem run_alloc3 (o : Oper) (t : TypeId) (ho : o.op = .alloc t) (ht : t ∈ [116]) (a : Act) (w : World) : (execOp a.eval o).run Tryz.prog w = .ok (.value (ptr w.heap.size)) (w.alloc ((fun _ => .cells #[.int .i64 0, .int .i64 0, .int .i64 0] 116 : TypeId → Obj) t)) := by
  obtain rfl : t = 116 := by simpa using ht
  unfold execOp
  rw [ho]
  simp [go_sem, ptr]
set_option maxRecDepth 100000 in
set_option maxHeartbeats 6400000 in
theorem icmp_any (s t : Sz) (w : World) (hT : I.Tab w) : Calls Tryz.prog 95 #[s.V, t.V] w (Ret (.tuple #[.int .i64 (cmS s t), .int .i64 (both2 s t)]) w) := by
  have HT := Lib.hid hT
  clear hT
  have HB := Lib.hid (fun w' => iboth_any s t w')
  have hV : ∀ s : Sz, s.V = .agg #[.int .i64 s.a.n, .int .i64 s.a.d, .int .i64 s.b.n, .int .i64 s.b.d, .int .i64 s.c.n, .int .i64 s.c.d] := fun _ => rfl
  by_cases h0 : both2 s t = 0
  · obtain ⟨hs, ht⟩ := both_rt h0
    have HPS := Lib.hid (fun w' => parts_ok s w' (Sz.ok_rt hs) (Sz.ok_fit hs))
    have HPT := Lib.hid (fun w' => parts_ok t w' (Sz.ok_rt ht) (Sz.ok_fit ht))
    obtain ⟨m1, m2, m3⟩ := cm_bd hs ht
    have HM3 := Lib.hid m3
    have HOS := Lib.hid (fun w' => over_ok s (cmM s t) w' hs (by omega) m2)
    have HOT := Lib.hid (fun w' => over_ok t (cmM s t) w' ht (by omega) m2)
    have a0 : 1 ≤ s.den := s.dn_pos (Sz.ok_rt hs) 3
    have a1 : s.den ≤ 240 := (s.fit_spec (Sz.ok_fit hs)).1
    have b0 : 1 ≤ t.den := t.dn_pos (Sz.ok_rt ht) 3
    have b1 : t.den ≤ 240 := (t.fit_spec (Sz.ok_fit ht)).1
    have hg1 := (lcI_spec a0 b0).2.2.2.2
    have hg0 : 1 ≤ (Int.gcd s.den t.den : Int) := by have := Int.gcd_pos_of_ne_zero_left t.den (show s.den ≠ 0 by omega); omega
    have hmm : s.den / (Int.gcd s.den t.den : Int) * t.den = cmM s t := rfl
    have HMM := Lib.hid hmm
    have HG := Lib.hid (fun w' => igcd_any s.den t.den w' (by omega) (by omega) (by omega) (by omega))
    have HSG := Lib.hid (show cmS s t = sgP (s.ov (cmM s t) 0 - t.ov (cmM s t) 0) (s.ov (cmM s t) 1 - t.ov (cmM s t) 1) (s.ov (cmM s t) 2 - t.ov (cmM s t) 2) from if_pos h0)
    rw [h0] at HB ⊢
    rw [hV s, hV t] at HB
    rw [hV s] at HPS HOS
    rw [hV t] at HPT HOT
    rw [hV s, hV t]
    obtain ⟨o1, o2⟩ := m3 0 (by decide)
    obtain ⟨o3, o4⟩ := m3 1 (by decide)
    obtain ⟨o5, o6⟩ := m3 2 (by decide)
    clear hV h0 hs ht m3 hmm HM3
    generalize cmS s t = sg at *
    generalize s.ov (cmM s t) 0 = x0 at *
    generalize s.ov (cmM s t) 1 = x1 at *
    generalize s.ov (cmM s t) 2 = x2 at *
    generalize t.ov (cmM s t) 0 = y0 at *
    generalize t.ov (cmM s t) 1 = y1 at *
    generalize t.ov (cmM s t) 2 = y2 at *
    generalize cmM s t = m at *
    generalize s.e 0 = u0 at *
    generalize s.e 1 = u1 at *
    generalize s.e 2 = u2 at *
    generalize t.e 0 = v0 at *
    generalize t.e 1 = v1 at *
    generalize t.e 2 = v2 at *
    generalize s.den = d at *
    generalize t.den = d' at *
    have hmb := HMM.out
    go_enter Tryz.func95, Tryz.ntmps95
    go_wp2_with fail
    (with_reducible refine (HB.out _).mono ?_)
    rintro _ _ ⟨rfl, x, rfl⟩
    go_wp2_with fail
    (with_reducible refine (HPS.out _).mono ?_)
    rintro _ _ ⟨rfl, y, rfl⟩
    go_wp2_with fail
    (with_reducible refine (HPT.out _).mono ?_)
    rintro _ _ ⟨rfl, z, rfl⟩
    have hxs := x.size_le
    have hys := y.size_le
    have hzs := z.size_le
    go_wp2_with fail
    (with_reducible refine (HG.out _).mono ?_)
    rintro _ _ ⟨rfl, g, rfl⟩
    have hgs := g.size_le
    dsimp only
    go_wp2_with fail
    clear hmb hg1 hg0 a0 a1 b0 b1 HMM HG HPS HPT HB m1 m2
    have hbG : Below w.heap.size w g.w := by (repeat' (first | (with_reducible first | apply Zl1 | apply Zl2 | apply Zl3 | apply Zl4 | apply Zl5 | apply Zl6 | apply Zl7 | apply Zl8 | apply Zl9 | apply Zla | apply Zlb | apply Zlc) | (dsimp only; with_reducible first | apply Zl8 | apply Zl2 | apply Zld) | with_reducible assumption | omega | (dsimp only; omega)))
    refine wp_region_vars 8 [6, 7] [116] (fun _ => .cells #[.int .i64 0, .int .i64 0, .int .i64 0] 116) (by kernel_rfl) (by kernel_rfl) (by kernel_rfl) (by kernel_rfl) (by decide) (by kernel_rfl) run_alloc3 ?_
    simp only [List.take_succ_cons, List.take_zero, List.drop_succ_cons, List.drop_zero]
    repeat (refine wpFloat_step (fun K hK => ?_); go_simp; first | (refine hK _ ?_; clear hK K) | (apply Exists.intro; refine ⟨fun _ => ?_, hK _ ?_⟩; (first | (go_at_call 157; with_reducible exact HOS.out _) | (go_at_call 157; with_reducible exact HOT.out _)); clear hK K))
    refine wpFloat_nil ?_
    rintro B v ⟨hM, hA⟩
    obtain ⟨vl6, vm6⟩ := hM 6 (by decide)
    obtain ⟨vl7, vm7⟩ := hM 7 (by decide)
    have vn6_7 := hA 6 (by decide) 7 (by decide) (by decide)
    have vn7_6 := Ne.symm vn6_7
    clear hM hA
    simp only [puts, binds, dstAt, ptr, List.map_cons, List.map_nil, List.foldl_cons, List.foldl_nil]
    generalize B 6 = vb6 at *
    generalize B 7 = vb7 at *
    have vc6_0 : v.w.cell? ⟨vb6, 0, none⟩ = some (.int .i64 0) := (made_cell vm6 0).1
    have vf6_0 : v.w.frozen? ⟨vb6, 0, none⟩ = false := (made_cell vm6 0).2
    have vc6_1 : v.w.cell? ⟨vb6, 1, none⟩ = some (.int .i64 0) := (made_cell vm6 1).1
    have vf6_1 : v.w.frozen? ⟨vb6, 1, none⟩ = false := (made_cell vm6 1).2
    have vc6_2 : v.w.cell? ⟨vb6, 2, none⟩ = some (.int .i64 0) := (made_cell vm6 2).1
    have vf6_2 : v.w.frozen? ⟨vb6, 2, none⟩ = false := (made_cell vm6 2).2
    have vc7_0 : v.w.cell? ⟨vb7, 0, none⟩ = some (.int .i64 0) := (made_cell vm7 0).1
    have vf7_0 : v.w.frozen? ⟨vb7, 0, none⟩ = false := (made_cell vm7 0).2
    have vc7_1 : v.w.cell? ⟨vb7, 1, none⟩ = some (.int .i64 0) := (made_cell vm7 1).1
    have vf7_1 : v.w.frozen? ⟨vb7, 1, none⟩ = false := (made_cell vm7 1).2
    have vc7_2 : v.w.cell? ⟨vb7, 2, none⟩ = some (.int .i64 0) := (made_cell vm7 2).1
    have vf7_2 : v.w.frozen? ⟨vb7, 2, none⟩ = false := (made_cell vm7 2).2
    have vo6 := Lib.hid vm6
    have vo7 := Lib.hid vm7
    clear vm6 vm7
    have vs := v.size_le
    have hl6 := obj_lt vo6.out
    have hl7 := obj_lt vo7.out
    have q6 : (((((v.w.setCell ⟨vb6, 0, none⟩ (.int .i64 x0)).setCell ⟨vb6, 1, none⟩ (.int .i64 x1)).setCell ⟨vb6, 2, none⟩ (.int .i64 x2)).setCell ⟨vb7, 0, none⟩ (.int .i64 y0)).setCell ⟨vb7, 1, none⟩ (.int .i64 y1)).setCell ⟨vb7, 2, none⟩ (.int .i64 y2) |>.heap[vb6]? = some (.cells #[.int .i64 x0, .int .i64 x1, .int .i64 x2] 116) :=
      obj_ne _ vn6_7 (obj_ne _ vn6_7 (obj_ne _ vn6_7 (obj_set (i := 2) _ (obj_set (i := 1) _ (obj_set (i := 0) _ vo6.out)))))
    have q7 : (((((v.w.setCell ⟨vb6, 0, none⟩ (.int .i64 x0)).setCell ⟨vb6, 1, none⟩ (.int .i64 x1)).setCell ⟨vb6, 2, none⟩ (.int .i64 x2)).setCell ⟨vb7, 0, none⟩ (.int .i64 y0)).setCell ⟨vb7, 1, none⟩ (.int .i64 y1)).setCell ⟨vb7, 2, none⟩ (.int .i64 y2) |>.heap[vb7]? = some (.cells #[.int .i64 y0, .int .i64 y1, .int .i64 y2] 116) :=
      obj_set (i := 2) _ (obj_set (i := 1) _ (obj_set (i := 0) _ (obj_ne _ vn7_6 (obj_ne _ vn7_6 (obj_ne _ vn7_6 vo7.out)))))
    have hw6 : w.heap.size ≤ vb6 := Nat.le_trans hbG.size vl6
    have hw7 : w.heap.size ≤ vb7 := Nat.le_trans hbG.size vl7
    have qb : Below w.heap.size w ((((((v.w.setCell ⟨vb6, 0, none⟩ (.int .i64 x0)).setCell ⟨vb6, 1, none⟩ (.int .i64 x1)).setCell ⟨vb6, 2, none⟩ (.int .i64 x2)).setCell ⟨vb7, 0, none⟩ (.int .i64 y0)).setCell ⟨vb7, 1, none⟩ (.int .i64 y1)).setCell ⟨vb7, 2, none⟩ (.int .i64 y2)) :=
      (((((((hbG.trans (v.below.mono hbG.size)).setCell hw6 _).setCell hw6 _).setCell hw6 _).setCell hw7 _).setCell hw7 _).setCell hw7 _)
    have Q6 := Lib.hid q6
    have Q7 := Lib.hid q7
    have QB := Lib.hid qb
    clear q6 q7 qb HOS HOT
    go_wp2_with fail
    go_loopw [50] (fun i wr => ∃ k : Nat, k ≤ 3 ∧ i = .int .i64 (k : Int) ∧ Below w.heap.size w wr ∧ wr.heap[vb7]? = some (.cells #[.int .i64 y0, .int .i64 y1, .int .i64 y2] 116) ∧
      wr.heap[vb6]? = some (.cells #[.int .i64 (if 0 < k then x0 - y0 else x0), .int .i64 (if 1 < k then x1 - y1 else x1), .int .i64 (if 2 < k then x2 - y2 else x2)] 116)) (fun i _ => 3 - (intOf i).toNat)
    case atStart => exact ⟨0, by omega, rfl, QB.out, Q7.out, Q6.out⟩
    case round =>
      obtain ⟨k, hk, rfl, hBl, ho4, ho5⟩ := hrel
      have hbs := hBl.size
      have hw5 := obj_lt ho5
      have HO4 := Lib.hid ho4
      have HO5 := Lib.hid ho5
      clear vo6 vo7 Q6 Q7 QB
      by_cases hk3 : k < 3
      · obtain ⟨f0, f1, f2⟩ := froz3 ho5
        obtain ⟨e0, e1, e2⟩ := cells3 ho5
        obtain ⟨d0, d1, d2⟩ := cells3 ho4
        clear ho4 ho5
        rcases (show k = 0 ∨ k = 1 ∨ k = 2 by omega) with rfl | rfl | rfl
        · clear hk3 hk
          simp only [show (0 < 0) = False from by simp, show (1 < 0) = False from by simp, show (2 < 0) = False from by simp, if_true, if_false] at e0 e1 e2
          go_wp2_with fail
          refine wp_region_belT 8 (by kernel_rfl) (by kernel_rfl) ?_
          simp only [List.take_succ_cons, List.take_zero, List.drop_succ_cons, List.drop_zero]
          repeat (go_big_quiet_step (fail))
          refine wpQuiet_nil ?_
          rintro _ ⟨r, rfl⟩
          have hrs := r.size_le
          have HZ4 := Lib.hid (obj_bel r HO4.out)
          have HZ5 := Lib.hid (obj_bel r HO5.out)
          clear e0 e1 e2 f0 f1 f2 d0 d1 d2
          obtain ⟨f0, f1, f2⟩ := froz3 HZ5.out
          obtain ⟨e0, e1, e2⟩ := cells3 HZ5.out
          go_wp2_with fail
          go_roundw
          case rel => exact ⟨0 + 1, by omega, rfl, by (repeat' (first | (with_reducible first | apply Zl1 | apply Zl2 | apply Zl3 | apply Zl4 | apply Zl5 | apply Zl6 | apply Zl7 | apply Zl8 | apply Zl9 | apply Zla | apply Zlb | apply Zlc) | (dsimp only; with_reducible first | apply Zl8 | apply Zl2 | apply Zld) | with_reducible assumption | omega | (dsimp only; omega))), obj_ne _ vn7_6 HZ4.out, obj_set _ HZ5.out⟩
          case measure => simp [intOf]
        · clear hk3 hk
          simp only [show (0 < 1) = True from by simp, show (1 < 1) = False from by simp, show (2 < 1) = False from by simp, if_true, if_false] at e0 e1 e2
          go_wp2_with fail
          refine wp_region_belT 8 (by kernel_rfl) (by kernel_rfl) ?_
          simp only [List.take_succ_cons, List.take_zero, List.drop_succ_cons, List.drop_zero]
          repeat (go_big_quiet_step (fail))
          refine wpQuiet_nil ?_
          rintro _ ⟨r, rfl⟩
          have hrs := r.size_le
          have HZ4 := Lib.hid (obj_bel r HO4.out)
          have HZ5 := Lib.hid (obj_bel r HO5.out)
          clear e0 e1 e2 f0 f1 f2 d0 d1 d2
          obtain ⟨f0, f1, f2⟩ := froz3 HZ5.out
          obtain ⟨e0, e1, e2⟩ := cells3 HZ5.out
          go_wp2_with fail
          go_roundw
          case rel => exact ⟨1 + 1, by omega, rfl, by (repeat' (first | (with_reducible first | apply Zl1 | apply Zl2 | apply Zl3 | apply Zl4 | apply Zl5 | apply Zl6 | apply Zl7 | apply Zl8 | apply Zl9 | apply Zla | apply Zlb | apply Zlc) | (dsimp only; with_reducible first | apply Zl8 | apply Zl2 | apply Zld) | with_reducible assumption | omega | (dsimp only; omega))), obj_ne _ vn7_6 HZ4.out, obj_set _ HZ5.out⟩
          case measure => simp [intOf]
        · clear hk3 hk
          simp only [show (0 < 2) = True from by simp, show (1 < 2) = True from by simp, show (2 < 2) = False from by simp, if_true, if_false] at e0 e1 e2
          go_wp2_with fail
          refine wp_region_belT 8 (by kernel_rfl) (by kernel_rfl) ?_
          simp only [List.take_succ_cons, List.take_zero, List.drop_succ_cons, List.drop_zero]
          repeat (go_big_quiet_step (fail))
          refine wpQuiet_nil ?_
          rintro _ ⟨r, rfl⟩
          have hrs := r.size_le
          have HZ4 := Lib.hid (obj_bel r HO4.out)
          have HZ5 := Lib.hid (obj_bel r HO5.out)
          clear e0 e1 e2 f0 f1 f2 d0 d1 d2
          obtain ⟨f0, f1, f2⟩ := froz3 HZ5.out
          obtain ⟨e0, e1, e2⟩ := cells3 HZ5.out
          go_wp2_with fail
          go_roundw
          case rel => exact ⟨2 + 1, by omega, rfl, by (repeat' (first | (with_reducible first | apply Zl1 | apply Zl2 | apply Zl3 | apply Zl4 | apply Zl5 | apply Zl6 | apply Zl7 | apply Zl8 | apply Zl9 | apply Zla | apply Zlb | apply Zlc) | (dsimp only; with_reducible first | apply Zl8 | apply Zl2 | apply Zld) | with_reducible assumption | omega | (dsimp only; omega))), obj_ne _ vn7_6 HZ4.out, obj_set _ HZ5.out⟩
          case measure => simp [intOf]
      · obtain rfl : k = 3 := by omega
        have z0 : -2880000 ≤ x0 - y0 ∧ x0 - y0 ≤ 2880000 := by omega
        have z1 : -2880000 ≤ x1 - y1 ∧ x1 - y1 ≤ 2880000 := by omega
        have z2 : -2880000 ≤ x2 - y2 ∧ x2 - y2 ≤ 2880000 := by omega
        obtain ⟨e0, e1, e2⟩ := cells3 ho5
        simp only [show (0 < 3) = True from by simp, show (1 < 3) = True from by simp, show (2 < 3) = True from by simp, if_true] at e0 e1 e2 HO5
        clear hk3 hk ho4 ho5 o1 o2 o3 o4 o5 o6
        generalize x0 - y0 = p0 at *
        generalize x1 - y1 = p1 at *
        generalize x2 - y2 = p2 at *
        have g12 : (0 : Int) ≤ (Int.gcd p0 p1 : Int) ∧ (Int.gcd p0 p1 : Int) ≤ 4000000000 := by
          rcases Decidable.em (p0 = 0) with h | h
          · rw [h, Int.gcd_zero_left]; omega
          · have := Nat.le_of_dvd (by omega) (Int.gcd_dvd_natAbs_left p0 p1); omega
        obtain ⟨qa, qb, qc, ha, hb, hc⟩ := gcd3 p0 p1 p2
        have HA := Lib.hid ha
        have HBB := Lib.hid hb
        have HC := Lib.hid hc
        clear ha hb hc
        go_wp2_with fail
        refine wp_region_bel (by kernel_rfl) (by kernel_rfl) ?_
        repeat (go_big_quiet_step ((first | (go_at_call 88; with_reducible exact bel_of (igcd_any p0 p1 _ (by omega) (by omega) (by omega) (by omega))) | (go_at_call 88; with_reducible exact bel_of (igcd_any (Int.gcd p0 p1 : Int) p2 _ (by omega) (by omega) (by omega) (by omega))))))
        refine wpQuiet_nil ?_
        rintro _ ⟨gg, rfl⟩
        have hggs := gg.size_le
        have HG4 := Lib.hid (obj_bel gg HO5.out)
        have hbg : Below w.heap.size w gg.w := by (repeat' (first | (with_reducible first | apply Zl1 | apply Zl2 | apply Zl3 | apply Zl4 | apply Zl5 | apply Zl6 | apply Zl7 | apply Zl8 | apply Zl9 | apply Zla | apply Zlb | apply Zlc) | (dsimp only; with_reducible first | apply Zl8 | apply Zl2 | apply Zld) | with_reducible assumption | omega | (dsimp only; omega)))
        have HBG := Lib.hid hbg
        clear e0 e1 e2 HO5 g12
        have HGZ := Lib.hid (show (0 : Int) ≤ (Int.gcd (Int.gcd p0 p1 : Int) p2 : Int) by omega)
        generalize (Int.gcd (Int.gcd p0 p1 : Int) p2 : Int) = G at *
        by_cases hG : 1 < G
        · obtain ⟨b0, b0'⟩ := fac_bd (by omega) HA.out z0.1 z0.2
          obtain ⟨b1, b1'⟩ := fac_bd (by omega) HBB.out z1.1 z1.2
          obtain ⟨b2, b2'⟩ := fac_bd (by omega) HC.out z2.1 z2.2
          have HSN := Lib.hid (fun w' hT => isgn_any qa qb qc w' (by omega) (by omega) (by omega) (by omega) (by omega) (by omega) hT)
          have HSG2 := Lib.hid (show sg = sgP qa qb qc by rw [HSG.out, HA.out, HBB.out, HC.out, sgP_mul (by omega)])
          have t0 : Int.tdiv p0 G = qa := by rw [HA.out, tdiv_mul (by omega)]
          have t1 : Int.tdiv p1 G = qb := by rw [HBB.out, tdiv_mul (by omega)]
          have t2 : Int.tdiv p2 G = qc := by rw [HC.out, tdiv_mul (by omega)]
          go_wp2_with fail
          go_loopw [72] (fun i wr' => ∃ k : Nat, k ≤ 3 ∧ i = .int .i64 (k : Int) ∧ Below w.heap.size w wr' ∧
            wr'.heap[vb6]? = some (.cells #[.int .i64 (if 0 < k then qa else p0), .int .i64 (if 1 < k then qb else p1), .int .i64 (if 2 < k then qc else p2)] 116)) (fun i _ => 3 - (intOf i).toNat)
          case atStart => exact ⟨0, by omega, rfl, HBG.out, HG4.out⟩
          case round =>
            obtain ⟨k, hk, rfl, hBl2, ho5⟩ := hrel
            have hbs2 := hBl2.size
            have hw52 := obj_lt ho5
            have HO5 := Lib.hid ho5
            clear HG4 HBG hbg
            by_cases hk3 : k < 3
            · obtain ⟨f0, f1, f2⟩ := froz3 ho5
              obtain ⟨e0, e1, e2⟩ := cells3 ho5
              clear ho5
              rcases (show k = 0 ∨ k = 1 ∨ k = 2 by omega) with rfl | rfl | rfl
              · clear hk3 hk
                simp only [show (0 < 0) = False from by simp, show (1 < 0) = False from by simp, show (2 < 0) = False from by simp, if_true, if_false] at e0 e1 e2
                go_wp2_with fail
                go_roundw
                case rel => exact ⟨0 + 1, by omega, rfl, by (repeat' (first | (with_reducible first | apply Zl1 | apply Zl2 | apply Zl3 | apply Zl4 | apply Zl5 | apply Zl6 | apply Zl7 | apply Zl8 | apply Zl9 | apply Zla | apply Zlb | apply Zlc) | (dsimp only; with_reducible first | apply Zl8 | apply Zl2 | apply Zld) | with_reducible assumption | omega | (dsimp only; omega))), obj_set _ HO5.out⟩
                case measure => simp [intOf]
              · clear hk3 hk
                simp only [show (0 < 1) = True from by simp, show (1 < 1) = False from by simp, show (2 < 1) = False from by simp, if_true, if_false] at e0 e1 e2
                go_wp2_with fail
                go_roundw
                case rel => exact ⟨1 + 1, by omega, rfl, by (repeat' (first | (with_reducible first | apply Zl1 | apply Zl2 | apply Zl3 | apply Zl4 | apply Zl5 | apply Zl6 | apply Zl7 | apply Zl8 | apply Zl9 | apply Zla | apply Zlb | apply Zlc) | (dsimp only; with_reducible first | apply Zl8 | apply Zl2 | apply Zld) | with_reducible assumption | omega | (dsimp only; omega))), obj_set _ HO5.out⟩
                case measure => simp [intOf]
              · clear hk3 hk
                simp only [show (0 < 2) = True from by simp, show (1 < 2) = True from by simp, show (2 < 2) = False from by simp, if_true, if_false] at e0 e1 e2
                go_wp2_with fail
                go_roundw
                case rel => exact ⟨2 + 1, by omega, rfl, by (repeat' (first | (with_reducible first | apply Zl1 | apply Zl2 | apply Zl3 | apply Zl4 | apply Zl5 | apply Zl6 | apply Zl7 | apply Zl8 | apply Zl9 | apply Zla | apply Zlb | apply Zlc) | (dsimp only; with_reducible first | apply Zl8 | apply Zl2 | apply Zld) | with_reducible assumption | omega | (dsimp only; omega))), obj_set _ HO5.out⟩
                case measure => simp [intOf]
            · obtain rfl : k = 3 := by omega
              obtain ⟨e0, e1, e2⟩ := cells3 ho5
              simp only [show (0 < 3) = True from by simp, show (1 < 3) = True from by simp, show (2 < 3) = True from by simp, if_true] at e0 e1 e2
              clear hk3 hk ho5 HO5 t0 t1 t2
              go_wp2_with fail
              (with_reducible refine (HSN.out _ (HT.out.of (by (repeat' (first | (with_reducible first | apply Zl1 | apply Zl2 | apply Zl3 | apply Zl4 | apply Zl5 | apply Zl6 | apply Zl7 | apply Zl8 | apply Zl9 | apply Zla | apply Zlb | apply Zlc) | (dsimp only; with_reducible first | apply Zl8 | apply Zl2 | apply Zld) | with_reducible assumption | omega | (dsimp only; omega)))))).mono ?_)
              rintro _ _ ⟨rfl, r, rfl⟩
              dsimp only
              go_wp2
              go_ret2
              exact Ret.mk (show Value.tuple #[.int .i64 (sgP qa qb qc), .int .i64 0] = _ by rw [HSG2.out]) (by (repeat' (first | (with_reducible first | apply Zl1 | apply Zl2 | apply Zl3 | apply Zl4 | apply Zl5 | apply Zl6 | apply Zl7 | apply Zl8 | apply Zl9 | apply Zla | apply Zlb | apply Zlc) | (dsimp only; with_reducible first | apply Zl8 | apply Zl2 | apply Zld) | with_reducible assumption | omega | (dsimp only; omega))))
        · have HSN := Lib.hid (fun w' hT => isgn_any p0 p1 p2 w' (by omega) (by omega) (by omega) (by omega) (by omega) (by omega) hT)
          obtain ⟨e0, e1, e2⟩ := cells3 HG4.out
          go_wp2_with fail
          (with_reducible refine (HSN.out _ (HT.out.of (by (repeat' (first | (with_reducible first | apply Zl1 | apply Zl2 | apply Zl3 | apply Zl4 | apply Zl5 | apply Zl6 | apply Zl7 | apply Zl8 | apply Zl9 | apply Zla | apply Zlb | apply Zlc) | (dsimp only; with_reducible first | apply Zl8 | apply Zl2 | apply Zld) | with_reducible assumption | omega | (dsimp only; omega)))))).mono ?_)
          rintro _ _ ⟨rfl, r, rfl⟩
          dsimp only
          go_wp2
          go_ret2
          exact Ret.mk (show Value.tuple #[.int .i64 (sgP p0 p1 p2), .int .i64 0] = _ by rw [HSG.out]) (by (repeat' (first | (with_reducible first | apply Zl1 | apply Zl2 | apply Zl3 | apply Zl4 | apply Zl5 | apply Zl6 | apply Zl7 | apply Zl8 | apply Zl9 | apply Zla | apply Zlb | apply Zlc) | (dsimp only; with_reducible first | apply Zl8 | apply Zl2 | apply Zld) | with_reducible assumption | omega | (dsimp only; omega))))
  · rw [show cmS s t = 0 from if_neg h0]
    generalize both2 s t = e at *
    have f0 : (e != 0) = true := by simpa using h0
    rw [hV s, hV t] at HB ⊢
    clear hV h0
    go_enter Tryz.func95, Tryz.ntmps95
    go_wp2_with fail
    (with_reducible refine (HB.out _).mono ?_)
    rintro _ _ ⟨rfl, x, rfl⟩
    go_wp2
    go_ret2
    exact Ret.mk rfl (by (repeat' (first | (with_reducible first | apply Zl1 | apply Zl2 | apply Zl3 | apply Zl4 | apply Zl5 | apply Zl6 | apply Zl7 | apply Zl8 | apply Zl9 | apply Zla | apply Zlb | apply Zlc) | (dsimp only; with_reducible first | apply Zl8 | apply Zl2 | apply Zld) | with_reducible assumption | omega | (dsimp only; omega))))
end Go.Proofs.YtehgeoipbgpocaaGreatDoor
