/- Beats: the question of a ratio. Beats: compare, Ratio. -/
import Derived.Test.YtehgeoipbgpocaaGreatDoorBA
import Derived.Test.YtehgeoipbgpocaaGreatDoorTo
import Derived.Test.YtehgeoipbgpocaaGreatDoorTQ
namespace Go.Proofs.YtehgeoipbgpocaaGreatDoor
set_option linter.unusedVariables false
set_option linter.unusedSimpArgs false
open Go.RowKit
attribute [local go_sem low] Bel.cell Bel.frozen alloc_cell alloc_frozen
attribute [local go_sem] calmOp chainOp yieldsC grows

theorem lc_alt {a b : Int} (ha : 1 ≤ a) (hb : 1 ≤ b) : a * (b / (Int.gcd a b : Int)) = lcI a b ∧ 1 ≤ b / (Int.gcd a b : Int) ∧ b / (Int.gcd a b : Int) ≤ b := by
  have hg : 0 < Int.gcd a b := Int.gcd_pos_of_ne_zero_left _ (by omega)
  obtain ⟨x, hx⟩ := Int.gcd_dvd_left (a := a) (b := b)
  obtain ⟨y, hy⟩ := Int.gcd_dvd_right (a := a) (b := b)
  have e1 : b / (Int.gcd a b : Int) = y := by rw [Int.ediv_eq_of_eq_mul_right (by omega) hy]
  have e2 : a / (Int.gcd a b : Int) = x := by rw [Int.ediv_eq_of_eq_mul_right (by omega) hx]
  have hy0 : 0 < y := Int.lt_of_mul_lt_mul_left (a := (Int.gcd a b : Int)) (by rw [Int.mul_zero, ← hy]; omega) (by omega)
  refine ⟨?_, by omega, Int.ediv_le_self _ (by omega)⟩
  unfold lcI
  rw [e1, e2]
  generalize (Int.gcd a b : Int) = g at *
  rw [hx, hy]
  grind
/-- What the question's regions keep. -/
structure KeepQ (w : World) (e1 e2 : Obj) (c0 c1 : Value) (V : World) : Prop where
  bl : Below w.heap.size w V
  o1 : V.heap[w.heap.size + 1]? = some e1
  o2 : V.heap[w.heap.size + 2]? = some e2
  o3 : ∃ x, V.heap[w.heap.size + 3]? = some (.cells #[c0, c1, x] 275)
theorem KeepQ.bel {w : World} {e1 e2 : Obj} {c0 c1 : Value} {V : World} (z : Bel V) (h : KeepQ w e1 e2 c0 c1 V) : KeepQ w e1 e2 c0 c1 z.w :=
  ⟨Below.bel h.bl h.bl.size, obj_bel z h.o1, obj_bel z h.o2, by obtain ⟨c, hc⟩ := h.o3; exact ⟨c, obj_bel z hc⟩⟩
theorem KeepQ.drew {w : World} {e1 e2 : Obj} {c0 c1 : Value} {V : World} (h : KeepQ w e1 e2 c0 c1 V) : KeepQ w e1 e2 c0 c1 V.drew := ⟨h.bl.drew, h.o1, h.o2, h.o3⟩
theorem KeepQ.set {w : World} {e1 e2 : Obj} {c0 c1 : Value} {V : World} (v : Value) (h : KeepQ w e1 e2 c0 c1 V) : KeepQ w e1 e2 c0 c1 (V.setCell ⟨w.heap.size + 3, 2, none⟩ v) :=
  ⟨h.bl.setCell (by show w.heap.size ≤ w.heap.size + 3; omega) _, obj_ne _ (by omega) h.o1, obj_ne _ (by omega) h.o2, by obtain ⟨c, hc⟩ := h.o3; exact ⟨v, obj_set (i := 2) v hc⟩⟩
theorem strE {a b : Int} (h : a = b) : (⟨(I.iT a).toArray⟩ : ByteArray) = ⟨(I.iT b).toArray⟩ := by rw [h]
theorem iT_one : I.iT 1 = [49] := by decide +kernel

set_option maxRecDepth 100000 in
set_option maxHeartbeats 6400000 in
theorem ask_any (s : Sz) (w : World) (hs : s.ok = true) (hT : I.Tab w) :
    Calls Tryz.prog 158 #[s.V] w (Ret (.agg #[.int .i64 s.den, .string ⟨(I.iT (askL s 3)).toArray⟩, .string ⟨(I.iT (askR s 3)).toArray⟩]) w) := by
  have HT := Lib.hid hT
  have HD := Lib.hid (fun k => s.dn_pos (Sz.ok_rt hs) k)
  have HDN := Lib.hid (den_bd hs)
  have HL := Lib.hid (fun (k : Nat) (hk : k < 3) => (⟨rt_spec (s.rt_q (Sz.ok_rt hs) k), Int.le_trans (s.d_den (Sz.ok_rt hs) hk) (den_bd hs).2, Int.le_trans (s.dn_den (Sz.ok_rt hs) (show k ≤ 3 by omega)) (den_bd hs).2, Int.le_trans (s.dn_den (Sz.ok_rt hs) (show k + 1 ≤ 3 by omega)) (den_bd hs).2⟩ : (_ ∧ _) ∧ _ ∧ _ ∧ _))
  have HE := Lib.hid (fun k hk => Sz.e_ok hs k hk)
  have HN := Lib.hid (fun k hk => @ask_nd s hs k hk)
  have HP := Lib.hid (fun k hk => @prm_pw s hs k hk)
  have h0 : s.dn 0 = 1 := rfl
  rw [szV]
  clear hT hs
  go_enter Tryz.func158, Tryz.ntmps158
  go_wp2_with fail
  go_loopw [22] (fun iv wr => ∃ k : Nat, k ≤ 3 ∧ iv = .int .i64 (k : Int) ∧ Below w.heap.size w wr ∧ wr.heap[w.heap.size + 1]? = some (.cells #[.int .i64 0, .string ⟨#[]⟩, .string ⟨#[]⟩] 275) ∧
    wr.heap[w.heap.size + 2]? = some (.cells #[.int .i64 s.a.n, .int .i64 s.a.d, .int .i64 s.b.n, .int .i64 s.b.d, .int .i64 s.c.n, .int .i64 s.c.d] 32) ∧
    wr.heap[w.heap.size + 3]? = some (.cells #[.int .i64 (s.dn k), .string ⟨#[49]⟩, .string ⟨#[]⟩] 275)) (fun iv _ => 3 - (intOf iv).toNat)
  case atStart => exact ⟨0, by omega, rfl, by (repeat' (first | (with_reducible first | apply Zl1 | apply Zl2 | apply Zl3 | apply Zl4 | apply Zl5 | apply Zl6 | apply Zl7 | apply Zl8 | apply Zl9 | apply Zla | apply Zlb | apply Zlc) | (dsimp only; with_reducible first | apply Zl8 | apply Zl2 | apply Zld) | with_reducible assumption | omega | (dsimp only; omega))), obj_alloc _ (obj_alloc _ (obj_new1 _ _ _)), obj_alloc _ (obj_new2 _ _ _ _), obj_new3 _ _ _ _ _⟩
  case round =>
    obtain ⟨k, hk, rfl, hB, ho1, ho2, ho3⟩ := hrel
    have hbs := hB.size
    have hw3 := obj_lt ho3
    have HO1 := Lib.hid ho1
    have HO2 := Lib.hid ho2
    have HO3 := Lib.hid ho3
    clear ho1 ho2 ho3 h0
    by_cases hk3 : k < 3
    · have hki : (k : Int) < 3 := by omega
      obtain ⟨g0, g1, g2, g3, g4, g5⟩ := cells6 HO2.out
      rcases (show k = 0 ∨ k = 1 ∨ k = 2 by omega) with rfl | rfl | rfl
      · clear hk3 hk hki
        obtain ⟨⟨q1, q2, q3, q4, _⟩, l1, l2, l3⟩ : (1 ≤ (s.a).d ∧ (s.a).d ≤ 1000000 ∧ -1000000 ≤ (s.a).n ∧ (s.a).n ≤ 1000000 ∧ _) ∧ (s.a).d ≤ 240 ∧ s.dn 0 ≤ 240 ∧ s.dn 1 ≤ 240 := HL.out 0 (by decide)
        have p1 : 1 ≤ s.dn 0 := HD.out 0
        have p2 : 1 ≤ s.dn 1 := HD.out 1
        obtain ⟨m1, m2, m3⟩ := lc_alt p1 q1
        have hn : s.dn 0 * ((s.a).d / (Int.gcd (s.dn 0) (s.a).d : Int)) = s.dn 1 := m1
        have hg0 : 0 < (Int.gcd (s.dn 0) (s.a).d : Int) := by have := Int.gcd_pos_of_ne_zero_left (s.a).d (show s.dn 0 ≠ 0 by omega); omega
        clear m1
        generalize hEq : s.dn 1 = E at *
        generalize (s.a).d = d at *
        generalize s.dn 0 = D at *
        have HQ := Lib.hid hEq
        clear hEq
        obtain ⟨e0, e1, e2⟩ := cells3 HO3.out
        obtain ⟨f0, f1, f2⟩ := froz3 HO3.out
        go_wp2_with fail
        refine wp_region_belT 12 (by kernel_rfl) (by kernel_rfl) ?_
        simp only [List.take_succ_cons, List.take_zero, List.drop_succ_cons, List.drop_zero]
        repeat (go_big_quiet_step ((go_at_call 218; exact bel_of (bgcd_any _ _ _ (by omega) (by omega) (by omega) (by omega)))))
        refine wpQuiet_nil ?_
        rintro _ ⟨z, rfl⟩
        have hzs := z.size_le
        have HZ3 := Lib.hid (obj_bel z (obj_alloc _ HO3.out))
        clear e0 e1 e2 f0 f1 f2
        obtain ⟨e0, e1, e2⟩ := cells3 HZ3.out
        obtain ⟨f0, f1, f2⟩ := froz3 HZ3.out
        go_wp2_with fail
        go_roundw
        case rel => exact ⟨1, by omega, rfl, by (repeat' (first | (with_reducible first | apply Zl1 | apply Zl2 | apply Zl3 | apply Zl4 | apply Zl5 | apply Zl6 | apply Zl7 | apply Zl8 | apply Zl9 | apply Zla | apply Zlb | apply Zlc) | (dsimp only; with_reducible first | apply Zl8 | apply Zl2 | apply Zld) | with_reducible assumption | omega | (dsimp only; omega))), obj_ne _ (by omega) (obj_bel z (obj_alloc _ HO1.out)), obj_ne _ (by omega) (obj_bel z (obj_alloc _ HO2.out)), by rw [HQ.out]; exact obj_set (i := 0) _ HZ3.out⟩
        case measure => simp [intOf]
      · clear hk3 hk hki
        obtain ⟨⟨q1, q2, q3, q4, _⟩, l1, l2, l3⟩ : (1 ≤ (s.b).d ∧ (s.b).d ≤ 1000000 ∧ -1000000 ≤ (s.b).n ∧ (s.b).n ≤ 1000000 ∧ _) ∧ (s.b).d ≤ 240 ∧ s.dn 1 ≤ 240 ∧ s.dn 2 ≤ 240 := HL.out 1 (by decide)
        have p1 : 1 ≤ s.dn 1 := HD.out 1
        have p2 : 1 ≤ s.dn 2 := HD.out 2
        obtain ⟨m1, m2, m3⟩ := lc_alt p1 q1
        have hn : s.dn 1 * ((s.b).d / (Int.gcd (s.dn 1) (s.b).d : Int)) = s.dn 2 := m1
        have hg0 : 0 < (Int.gcd (s.dn 1) (s.b).d : Int) := by have := Int.gcd_pos_of_ne_zero_left (s.b).d (show s.dn 1 ≠ 0 by omega); omega
        clear m1
        generalize hEq : s.dn 2 = E at *
        generalize (s.b).d = d at *
        generalize s.dn 1 = D at *
        have HQ := Lib.hid hEq
        clear hEq
        obtain ⟨e0, e1, e2⟩ := cells3 HO3.out
        obtain ⟨f0, f1, f2⟩ := froz3 HO3.out
        go_wp2_with fail
        refine wp_region_belT 12 (by kernel_rfl) (by kernel_rfl) ?_
        simp only [List.take_succ_cons, List.take_zero, List.drop_succ_cons, List.drop_zero]
        repeat (go_big_quiet_step ((go_at_call 218; exact bel_of (bgcd_any _ _ _ (by omega) (by omega) (by omega) (by omega)))))
        refine wpQuiet_nil ?_
        rintro _ ⟨z, rfl⟩
        have hzs := z.size_le
        have HZ3 := Lib.hid (obj_bel z (obj_alloc _ HO3.out))
        clear e0 e1 e2 f0 f1 f2
        obtain ⟨e0, e1, e2⟩ := cells3 HZ3.out
        obtain ⟨f0, f1, f2⟩ := froz3 HZ3.out
        go_wp2_with fail
        go_roundw
        case rel => exact ⟨2, by omega, rfl, by (repeat' (first | (with_reducible first | apply Zl1 | apply Zl2 | apply Zl3 | apply Zl4 | apply Zl5 | apply Zl6 | apply Zl7 | apply Zl8 | apply Zl9 | apply Zla | apply Zlb | apply Zlc) | (dsimp only; with_reducible first | apply Zl8 | apply Zl2 | apply Zld) | with_reducible assumption | omega | (dsimp only; omega))), obj_ne _ (by omega) (obj_bel z (obj_alloc _ HO1.out)), obj_ne _ (by omega) (obj_bel z (obj_alloc _ HO2.out)), by rw [HQ.out]; exact obj_set (i := 0) _ HZ3.out⟩
        case measure => simp [intOf]
      · clear hk3 hk hki
        obtain ⟨⟨q1, q2, q3, q4, _⟩, l1, l2, l3⟩ : (1 ≤ (s.c).d ∧ (s.c).d ≤ 1000000 ∧ -1000000 ≤ (s.c).n ∧ (s.c).n ≤ 1000000 ∧ _) ∧ (s.c).d ≤ 240 ∧ s.dn 2 ≤ 240 ∧ s.dn 3 ≤ 240 := HL.out 2 (by decide)
        have p1 : 1 ≤ s.dn 2 := HD.out 2
        have p2 : 1 ≤ s.dn 3 := HD.out 3
        obtain ⟨m1, m2, m3⟩ := lc_alt p1 q1
        have hn : s.dn 2 * ((s.c).d / (Int.gcd (s.dn 2) (s.c).d : Int)) = s.dn 3 := m1
        have hg0 : 0 < (Int.gcd (s.dn 2) (s.c).d : Int) := by have := Int.gcd_pos_of_ne_zero_left (s.c).d (show s.dn 2 ≠ 0 by omega); omega
        clear m1
        generalize hEq : s.dn 3 = E at *
        generalize (s.c).d = d at *
        generalize s.dn 2 = D at *
        have HQ := Lib.hid hEq
        clear hEq
        obtain ⟨e0, e1, e2⟩ := cells3 HO3.out
        obtain ⟨f0, f1, f2⟩ := froz3 HO3.out
        go_wp2_with fail
        refine wp_region_belT 12 (by kernel_rfl) (by kernel_rfl) ?_
        simp only [List.take_succ_cons, List.take_zero, List.drop_succ_cons, List.drop_zero]
        repeat (go_big_quiet_step ((go_at_call 218; exact bel_of (bgcd_any _ _ _ (by omega) (by omega) (by omega) (by omega)))))
        refine wpQuiet_nil ?_
        rintro _ ⟨z, rfl⟩
        have hzs := z.size_le
        have HZ3 := Lib.hid (obj_bel z (obj_alloc _ HO3.out))
        clear e0 e1 e2 f0 f1 f2
        obtain ⟨e0, e1, e2⟩ := cells3 HZ3.out
        obtain ⟨f0, f1, f2⟩ := froz3 HZ3.out
        go_wp2_with fail
        go_roundw
        case rel => exact ⟨3, by omega, rfl, by (repeat' (first | (with_reducible first | apply Zl1 | apply Zl2 | apply Zl3 | apply Zl4 | apply Zl5 | apply Zl6 | apply Zl7 | apply Zl8 | apply Zl9 | apply Zla | apply Zlb | apply Zlc) | (dsimp only; with_reducible first | apply Zl8 | apply Zl2 | apply Zld) | with_reducible assumption | omega | (dsimp only; omega))), obj_ne _ (by omega) (obj_bel z (obj_alloc _ HO1.out)), obj_ne _ (by omega) (obj_bel z (obj_alloc _ HO2.out)), by rw [HQ.out]; exact obj_set (i := 0) _ HZ3.out⟩
        case measure => simp [intOf]
    · obtain rfl : k = 3 := by omega
      clear hk3 hk
      have hd1 : s.den ≤ 240 := HDN.out.2
      have hd0 : 1 ≤ s.den := HDN.out.1
      rw [show s.dn 3 = s.den from rfl] at HO3
      obtain ⟨D, hD⟩ : ∃ D : Nat, s.den = (D : Int) := ⟨s.den.toNat, by omega⟩
      have HDD := Lib.hid hD
      have hpd := nd_pow 1000000 D
      rw [nd_E6] at hpd
      have HOF := Lib.hid (fun w' hT => I.of_any 1000000 w' (by omega) (by omega) hT)
      have HPW := Lib.hid (fun w' hT => I.power_any 1000000 D w' (by rw [nd_E6]; decide) (by omega) (by rw [nd_E6]; omega) hT)
      have hR0 : askR s 0 = 1000000 ^ D := by show (1000000 : Int) ^ s.den.toNat = _; rw [hD]; rfl
      rw [← hR0] at HPW
      rw [hD] at HO3
      have HR0 := Lib.hid hR0
      clear hpd hR0 hD
      generalize I.iT 1000000 = tE at *
      obtain ⟨tR, htR⟩ : ∃ t, I.iT (askR s 0) = t := ⟨_, rfl⟩
      rw [htR] at HPW
      have HTR := Lib.hid htR
      clear htR
      obtain ⟨KE, hKE⟩ : ∃ KE : World → Prop, KE = KeepQ w (.cells #[.int .i64 0, .string ⟨#[]⟩, .string ⟨#[]⟩] 275) (.cells #[.int .i64 s.a.n, .int .i64 s.a.d, .int .i64 s.b.n, .int .i64 s.b.d, .int .i64 s.c.n, .int .i64 s.c.d] 32) (.int .i64 (D : Int)) (.string ⟨#[49]⟩) := ⟨_, rfl⟩
      have hK0 : KE wr := by rw [hKE]; exact ⟨hB, HO1.out, HO2.out, ⟨_, HO3.out⟩⟩
      have KB := Lib.hid (show ∀ (V : World) (z : Bel V), KE V → KE z.w from fun V z h => by rw [hKE] at h ⊢; exact h.bel z)
      have KD := Lib.hid (show ∀ (V : World), KE V → KE V.drew from fun V h => by rw [hKE] at h ⊢; exact h.drew)
      have KS := Lib.hid (show ∀ (V : World) (v : Value), KE V → KE (V.setCell ⟨w.heap.size + 3, 2, none⟩ v) from fun V v h => by rw [hKE] at h ⊢; exact h.set v)
      have KT := Lib.hid (show ∀ (V : World), KE V → I.Tab V from fun V h => by rw [hKE] at h; exact HT.out.of h.bl)
      have KR := Lib.hid (show ∀ (V : World), KE V → KeepQ w (.cells #[.int .i64 0, .string ⟨#[]⟩, .string ⟨#[]⟩] 275) (.cells #[.int .i64 s.a.n, .int .i64 s.a.d, .int .i64 s.b.n, .int .i64 s.b.d, .int .i64 s.c.n, .int .i64 s.c.d] 32) (.int .i64 (D : Int)) (.string ⟨#[49]⟩) V from fun V h => by rw [hKE] at h; exact h)
      have SK := Lib.hid (show ∀ V : World, KE V → V.cell? ⟨w.heap.size + 3, 0, none⟩ = some (.int .i64 (D : Int)) ∧ KE V from fun V h => by
        obtain ⟨x, hx⟩ := (KR.out V h).o3
        exact ⟨(made_cell hx 0).1, h⟩)
      obtain ⟨e0, _⟩ := SK.out wr hK0
      clear hKE HO1 HO2 HO3
      go_wp2_with fail
      go_region_held3 (fun V => V.cell? ⟨w.heap.size + 3, 0, none⟩ = some (.int .i64 (D : Int)) ∧ KE V)
        (exact SK.out _ (by (repeat' (first | with_reducible assumption | apply And.intro | (with_reducible apply KD.out) | (with_reducible apply KB.out) | (with_reducible apply KS.out)))))
        (first
          | (go_at_call 147; refine (HOF.out _ (KT.out _ (by (repeat' (first | with_reducible assumption | (with_reducible apply KD.out) | (with_reducible apply KB.out) | (with_reducible apply KS.out)))))).mono ?_; rintro _ _ ⟨rfl, u, rfl⟩; have hus := u.size_le)
          | (go_at_call 91; refine (HPW.out _ (KT.out _ (by (repeat' (first | with_reducible assumption | (with_reducible apply KD.out) | (with_reducible apply KB.out) | (with_reducible apply KS.out)))))).mono ?_; rintro _ _ ⟨rfl, z, rfl⟩; have hzs := z.size_le; have hKz := KB.out _ z (by (repeat' (first | with_reducible assumption | (with_reducible apply KD.out) | (with_reducible apply KB.out)))); obtain ⟨x2, hO3⟩ := (KR.out _ hKz).o3; obtain ⟨f0, f1, f2⟩ := froz3 hO3; obtain ⟨e0, e1, e2⟩ := cells3 hO3; have HO3 := Lib.hid hO3; clear hO3))
      all_goals
        rename_i hHeld
        have hE := KR.out _ hHeld.2
        have hN3 := obj_set (i := 2) (.string ⟨tR.toArray⟩) HO3.out
        have hN1 : (z.w.setCell ⟨w.heap.size + 1 + 1 + 1, 2, none⟩ (.string ⟨tR.toArray⟩)).heap[w.heap.size + 1]? = _ := hE.o1
        have hN2 : (z.w.setCell ⟨w.heap.size + 1 + 1 + 1, 2, none⟩ (.string ⟨tR.toArray⟩)).heap[w.heap.size + 2]? = _ := hE.o2
        have hNB : Below w.heap.size w (z.w.setCell ⟨w.heap.size + 1 + 1 + 1, 2, none⟩ (.string ⟨tR.toArray⟩)) := hE.bl
        clear hHeld hE e0 e1 e2 f0 f1 f2 KB KD KS KT KR SK hK0 HO3 hKz hus
        generalize z.w.setCell ⟨w.heap.size + 1 + 1 + 1, 2, none⟩ (.string ⟨tR.toArray⟩) = WO at *
        have hwo := obj_lt hN3
        have HN1 := Lib.hid hN1
        have HN2 := Lib.hid hN2
        have HN3 := Lib.hid hN3
        have HNB := Lib.hid hNB
        clear hN1 hN2 hN3 HOF HPW hbs hw3 hB
        go_wp2_with fail
        go_loopw [49] (fun iv wr => ∃ k : Nat, k ≤ 3 ∧ iv = .int .i64 (k : Int) ∧ Below w.heap.size w wr ∧ wr.heap[w.heap.size + 1]? = some (.cells #[.int .i64 0, .string ⟨#[]⟩, .string ⟨#[]⟩] 275) ∧
          wr.heap[w.heap.size + 2]? = some (.cells #[.int .i64 s.a.n, .int .i64 s.a.d, .int .i64 s.b.n, .int .i64 s.b.d, .int .i64 s.c.n, .int .i64 s.c.d] 32) ∧
          wr.heap[w.heap.size + 3]? = some (.cells #[.int .i64 (D : Int), .string ⟨(I.iT (askL s k)).toArray⟩, .string ⟨(I.iT (askR s k)).toArray⟩] 275) ∧
          wr.heap[WO.heap.size]? = some (.cells #[.int .i64 2, .int .i64 3, .int .i64 5] 3)) (fun iv _ => 3 - (intOf iv).toNat)
        case atStart => exact ⟨0, by omega, rfl, by (repeat' (first | (with_reducible first | apply Zl1 | apply Zl2 | apply Zl3 | apply Zl4 | apply Zl5 | apply Zl6 | apply Zl7 | apply Zl8 | apply Zl9 | apply Zla | apply Zlb | apply Zlc) | (dsimp only; with_reducible first | apply Zl8 | apply Zl2 | apply Zld) | with_reducible assumption | omega | (dsimp only; omega))), obj_alloc _ HN1.out, obj_alloc _ HN2.out, by rw [show I.iT (askL s 0) = [49] from iT_one, HTR.out]; exact obj_alloc _ HN3.out, obj_new _ _⟩
        case round =>
          clear hNB
          obtain ⟨k, hk, rfl, hB, ho1, ho2, ho3, ho4⟩ := hrel
          have hbs := hB.size
          have hw4 := obj_lt ho4
          have HO1 := Lib.hid ho1
          have HO2 := Lib.hid ho2
          have HO3 := Lib.hid ho3
          have HO4 := Lib.hid ho4
          clear ho1 ho2 ho3 ho4 HN1 HN2 HN3
          by_cases hk3 : k < 3
          · have hki : (k : Int) < 3 := by omega
            rcases (show k = 0 ∨ k = 1 ∨ k = 2 by omega) with rfl | rfl | rfl
            · clear hk3 hk hki
              obtain ⟨g0, g1, g2, g3, g4, g5⟩ := cells6 HO2.out
              obtain ⟨r0, r1, r2⟩ := cells3 HO4.out
              obtain ⟨e0, e1, e2⟩ := cells3 HO3.out
              obtain ⟨f0, f1, f2⟩ := froz3 HO3.out
              have q1 : 1 ≤ (s.a).d := (HL.out 0 (by decide)).1.1
              obtain ⟨b1, b2⟩ : -6000 ≤ s.e 0 ∧ s.e 0 ≤ 6000 := HE.out 0 (by decide)
              have he : (s.a).n * ((D : Int) / (s.a).d) = s.e 0 := by rw [← HDD.out]; rfl
              obtain ⟨v1, v2⟩ : 0 ≤ (D : Int) / (s.a).d ∧ (D : Int) / (s.a).d ≤ 240 := ⟨Int.ediv_nonneg (by omega) (by omega), Int.le_trans (Int.ediv_le_self _ (by omega)) (by rw [HDD.out] at hd1; exact hd1)⟩
              obtain ⟨p1, p2, p3⟩ := HP.out 0 (by decide)
              obtain ⟨n1, n2⟩ := HN.out 0 (by decide)
              have HOF := Lib.hid (fun w' hT => I.of_any 2 w' (by omega) (by omega) hT)
              have HPW := Lib.hid (fun w' hT => I.power_any 2 (s.e 0).natAbs w' (by rw [show (2 : Int) = prm 0 from rfl, nd_prm]; decide) p1 p2 hT)
              have HML := Lib.hid (fun w' hT => I.mul_any (askL s 0) (2 ^ (s.e 0).natAbs) w' (by omega) (Nat.le_trans p3 (by decide)) hT)
              have HMR := Lib.hid (fun w' hT => I.mul_any (askR s 0) (2 ^ (s.e 0).natAbs) w' (by omega) (Nat.le_trans p3 (by decide)) hT)
              by_cases hneg : s.e 0 < 0
              · have hl : askL s 1 = askL s 0 * 2 ^ (s.e 0).natAbs := if_pos hneg
                have hr : askR s 1 = askR s 0 := if_pos hneg
                rw [← hl] at HML
                have HHR := Lib.hid (congrArg I.iT hr)
                rw [show (((s.e 0).natAbs : Nat) : Int) = -(s.e 0) by omega] at HPW
                clear hl hr HMR p1 p2 p3 n1 n2
                generalize s.e 0 = ee at *
                generalize I.iT (2 ^ ee.natAbs) = tx at *
                generalize I.iT 2 = tb at *
                generalize hq1 : I.iT (askL s 1) = tl1 at *
                generalize hq2 : I.iT (askR s 1) = tr1 at *
                have HQ1 := Lib.hid hq1
                have HQ2 := Lib.hid hq2
                clear hq1 hq2
                generalize I.iT (askL s 0) = tl0 at *
                generalize I.iT (askR s 0) = tr0 at *
                have m1 : max ee (-ee) = -ee := by omega
                go_wp2_with fail
                refine wp_region_belT 14 (by kernel_rfl) (by kernel_rfl) ?_
                simp only [List.take_succ_cons, List.take_zero, List.drop_succ_cons, List.drop_zero]
                repeat (go_big_quiet_step (fail))
                refine wpQuiet_nil ?_
                rintro _ ⟨z, rfl⟩
                have hzs := z.size_le
                go_wp2_with fail
                (with_reducible refine (HOF.out _ (HT.out.of (by (repeat' (first | (with_reducible first | apply Zl1 | apply Zl2 | apply Zl3 | apply Zl4 | apply Zl5 | apply Zl6 | apply Zl7 | apply Zl8 | apply Zl9 | apply Zla | apply Zlb | apply Zlc) | (dsimp only; with_reducible first | apply Zl8 | apply Zl2 | apply Zld) | with_reducible assumption | omega | (dsimp only; omega)))))).mono ?_)
                rintro _ _ ⟨rfl, x, rfl⟩
                have hxs := x.size_le
                dsimp only
                go_wp2_with fail
                (with_reducible refine (HPW.out _ (HT.out.of (by (repeat' (first | (with_reducible first | apply Zl1 | apply Zl2 | apply Zl3 | apply Zl4 | apply Zl5 | apply Zl6 | apply Zl7 | apply Zl8 | apply Zl9 | apply Zla | apply Zlb | apply Zlc) | (dsimp only; with_reducible first | apply Zl8 | apply Zl2 | apply Zld) | with_reducible assumption | omega | (dsimp only; omega)))))).mono ?_)
                rintro _ _ ⟨rfl, y, rfl⟩
                have hys := y.size_le
                dsimp only
                go_wp2_with fail
                (with_reducible refine (HML.out _ (HT.out.of (by (repeat' (first | (with_reducible first | apply Zl1 | apply Zl2 | apply Zl3 | apply Zl4 | apply Zl5 | apply Zl6 | apply Zl7 | apply Zl8 | apply Zl9 | apply Zla | apply Zlb | apply Zlc) | (dsimp only; with_reducible first | apply Zl8 | apply Zl2 | apply Zld) | with_reducible assumption | omega | (dsimp only; omega)))))).mono ?_)
                rintro _ _ ⟨rfl, u, rfl⟩
                have hus := u.size_le
                dsimp only
                have HU := Lib.hid (show Below wr.heap.size wr u.w by (repeat' (first | (with_reducible first | apply Zl1 | apply Zl2 | apply Zl3 | apply Zl4 | apply Zl5 | apply Zl6 | apply Zl7 | apply Zl8 | apply Zl9 | apply Zla | apply Zlb | apply Zlc) | (dsimp only; with_reducible first | apply Zl8 | apply Zl2 | apply Zld) | with_reducible assumption | omega | (dsimp only; omega))))
                have HU1 := Lib.hid (obj_below HU.out (by omega) HO1.out)
                have HU2 := Lib.hid (obj_below HU.out (by omega) HO2.out)
                have HU3 := Lib.hid (obj_below HU.out (by omega) HO3.out)
                have HU4 := Lib.hid (obj_below HU.out (by omega) HO4.out)
                clear e0 e1 e2 f0 f1 f2
                obtain ⟨e0, e1, e2⟩ := cells3 HU3.out
                obtain ⟨f0, f1, f2⟩ := froz3 HU3.out
                go_wp2_with fail
                go_roundw
                case rel => exact ⟨1, by omega, rfl, by (repeat' (first | (with_reducible first | apply Zl1 | apply Zl2 | apply Zl3 | apply Zl4 | apply Zl5 | apply Zl6 | apply Zl7 | apply Zl8 | apply Zl9 | apply Zla | apply Zlb | apply Zlc) | (dsimp only; with_reducible first | apply Zl8 | apply Zl2 | apply Zld) | with_reducible assumption | omega | (dsimp only; omega))), obj_ne _ (by omega) HU1.out, obj_ne _ (by omega) HU2.out, by rw [HQ1.out, HQ2.out, HHR.out]; exact obj_set (i := 1) _ HU3.out, obj_ne _ (by omega) HU4.out⟩
                case measure => simp [intOf]
              · have hl : askR s 1 = askR s 0 * 2 ^ (s.e 0).natAbs := if_neg hneg
                have hr : askL s 1 = askL s 0 := if_neg hneg
                rw [← hl] at HMR
                have HHR := Lib.hid (congrArg I.iT hr)
                rw [show (((s.e 0).natAbs : Nat) : Int) = s.e 0 by omega] at HPW
                clear hl hr HML p1 p2 p3 n1 n2
                generalize s.e 0 = ee at *
                generalize I.iT (2 ^ ee.natAbs) = tx at *
                generalize I.iT 2 = tb at *
                generalize hq1 : I.iT (askL s 1) = tl1 at *
                generalize hq2 : I.iT (askR s 1) = tr1 at *
                have HQ1 := Lib.hid hq1
                have HQ2 := Lib.hid hq2
                clear hq1 hq2
                generalize I.iT (askL s 0) = tl0 at *
                generalize I.iT (askR s 0) = tr0 at *
                have m1 : max ee (-ee) = ee := by omega
                go_wp2_with fail
                refine wp_region_belT 14 (by kernel_rfl) (by kernel_rfl) ?_
                simp only [List.take_succ_cons, List.take_zero, List.drop_succ_cons, List.drop_zero]
                repeat (go_big_quiet_step (fail))
                refine wpQuiet_nil ?_
                rintro _ ⟨z, rfl⟩
                have hzs := z.size_le
                go_wp2_with fail
                (with_reducible refine (HOF.out _ (HT.out.of (by (repeat' (first | (with_reducible first | apply Zl1 | apply Zl2 | apply Zl3 | apply Zl4 | apply Zl5 | apply Zl6 | apply Zl7 | apply Zl8 | apply Zl9 | apply Zla | apply Zlb | apply Zlc) | (dsimp only; with_reducible first | apply Zl8 | apply Zl2 | apply Zld) | with_reducible assumption | omega | (dsimp only; omega)))))).mono ?_)
                rintro _ _ ⟨rfl, x, rfl⟩
                have hxs := x.size_le
                dsimp only
                go_wp2_with fail
                (with_reducible refine (HPW.out _ (HT.out.of (by (repeat' (first | (with_reducible first | apply Zl1 | apply Zl2 | apply Zl3 | apply Zl4 | apply Zl5 | apply Zl6 | apply Zl7 | apply Zl8 | apply Zl9 | apply Zla | apply Zlb | apply Zlc) | (dsimp only; with_reducible first | apply Zl8 | apply Zl2 | apply Zld) | with_reducible assumption | omega | (dsimp only; omega)))))).mono ?_)
                rintro _ _ ⟨rfl, y, rfl⟩
                have hys := y.size_le
                dsimp only
                go_wp2_with fail
                (with_reducible refine (HMR.out _ (HT.out.of (by (repeat' (first | (with_reducible first | apply Zl1 | apply Zl2 | apply Zl3 | apply Zl4 | apply Zl5 | apply Zl6 | apply Zl7 | apply Zl8 | apply Zl9 | apply Zla | apply Zlb | apply Zlc) | (dsimp only; with_reducible first | apply Zl8 | apply Zl2 | apply Zld) | with_reducible assumption | omega | (dsimp only; omega)))))).mono ?_)
                rintro _ _ ⟨rfl, u, rfl⟩
                have hus := u.size_le
                dsimp only
                have HU := Lib.hid (show Below wr.heap.size wr u.w by (repeat' (first | (with_reducible first | apply Zl1 | apply Zl2 | apply Zl3 | apply Zl4 | apply Zl5 | apply Zl6 | apply Zl7 | apply Zl8 | apply Zl9 | apply Zla | apply Zlb | apply Zlc) | (dsimp only; with_reducible first | apply Zl8 | apply Zl2 | apply Zld) | with_reducible assumption | omega | (dsimp only; omega))))
                have HU1 := Lib.hid (obj_below HU.out (by omega) HO1.out)
                have HU2 := Lib.hid (obj_below HU.out (by omega) HO2.out)
                have HU3 := Lib.hid (obj_below HU.out (by omega) HO3.out)
                have HU4 := Lib.hid (obj_below HU.out (by omega) HO4.out)
                clear e0 e1 e2 f0 f1 f2
                obtain ⟨e0, e1, e2⟩ := cells3 HU3.out
                obtain ⟨f0, f1, f2⟩ := froz3 HU3.out
                go_wp2_with fail
                go_roundw
                case rel => exact ⟨1, by omega, rfl, by (repeat' (first | (with_reducible first | apply Zl1 | apply Zl2 | apply Zl3 | apply Zl4 | apply Zl5 | apply Zl6 | apply Zl7 | apply Zl8 | apply Zl9 | apply Zla | apply Zlb | apply Zlc) | (dsimp only; with_reducible first | apply Zl8 | apply Zl2 | apply Zld) | with_reducible assumption | omega | (dsimp only; omega))), obj_ne _ (by omega) HU1.out, obj_ne _ (by omega) HU2.out, by rw [HQ1.out, HQ2.out, HHR.out]; exact obj_set (i := 2) _ HU3.out, obj_ne _ (by omega) HU4.out⟩
                case measure => simp [intOf]
            · clear hk3 hk hki
              obtain ⟨g0, g1, g2, g3, g4, g5⟩ := cells6 HO2.out
              obtain ⟨r0, r1, r2⟩ := cells3 HO4.out
              obtain ⟨e0, e1, e2⟩ := cells3 HO3.out
              obtain ⟨f0, f1, f2⟩ := froz3 HO3.out
              have q1 : 1 ≤ (s.b).d := (HL.out 1 (by decide)).1.1
              obtain ⟨b1, b2⟩ : -6000 ≤ s.e 1 ∧ s.e 1 ≤ 6000 := HE.out 1 (by decide)
              have he : (s.b).n * ((D : Int) / (s.b).d) = s.e 1 := by rw [← HDD.out]; rfl
              obtain ⟨v1, v2⟩ : 0 ≤ (D : Int) / (s.b).d ∧ (D : Int) / (s.b).d ≤ 240 := ⟨Int.ediv_nonneg (by omega) (by omega), Int.le_trans (Int.ediv_le_self _ (by omega)) (by rw [HDD.out] at hd1; exact hd1)⟩
              obtain ⟨p1, p2, p3⟩ := HP.out 1 (by decide)
              obtain ⟨n1, n2⟩ := HN.out 1 (by decide)
              have HOF := Lib.hid (fun w' hT => I.of_any 3 w' (by omega) (by omega) hT)
              have HPW := Lib.hid (fun w' hT => I.power_any 3 (s.e 1).natAbs w' (by rw [show (3 : Int) = prm 1 from rfl, nd_prm]; decide) p1 p2 hT)
              have HML := Lib.hid (fun w' hT => I.mul_any (askL s 1) (3 ^ (s.e 1).natAbs) w' (by omega) (Nat.le_trans p3 (by decide)) hT)
              have HMR := Lib.hid (fun w' hT => I.mul_any (askR s 1) (3 ^ (s.e 1).natAbs) w' (by omega) (Nat.le_trans p3 (by decide)) hT)
              by_cases hneg : s.e 1 < 0
              · have hl : askL s 2 = askL s 1 * 3 ^ (s.e 1).natAbs := if_pos hneg
                have hr : askR s 2 = askR s 1 := if_pos hneg
                rw [← hl] at HML
                have HHR := Lib.hid (congrArg I.iT hr)
                rw [show (((s.e 1).natAbs : Nat) : Int) = -(s.e 1) by omega] at HPW
                clear hl hr HMR p1 p2 p3 n1 n2
                generalize s.e 1 = ee at *
                generalize I.iT (3 ^ ee.natAbs) = tx at *
                generalize I.iT 3 = tb at *
                generalize hq1 : I.iT (askL s 2) = tl1 at *
                generalize hq2 : I.iT (askR s 2) = tr1 at *
                have HQ1 := Lib.hid hq1
                have HQ2 := Lib.hid hq2
                clear hq1 hq2
                generalize I.iT (askL s 1) = tl0 at *
                generalize I.iT (askR s 1) = tr0 at *
                have m1 : max ee (-ee) = -ee := by omega
                go_wp2_with fail
                refine wp_region_belT 14 (by kernel_rfl) (by kernel_rfl) ?_
                simp only [List.take_succ_cons, List.take_zero, List.drop_succ_cons, List.drop_zero]
                repeat (go_big_quiet_step (fail))
                refine wpQuiet_nil ?_
                rintro _ ⟨z, rfl⟩
                have hzs := z.size_le
                go_wp2_with fail
                (with_reducible refine (HOF.out _ (HT.out.of (by (repeat' (first | (with_reducible first | apply Zl1 | apply Zl2 | apply Zl3 | apply Zl4 | apply Zl5 | apply Zl6 | apply Zl7 | apply Zl8 | apply Zl9 | apply Zla | apply Zlb | apply Zlc) | (dsimp only; with_reducible first | apply Zl8 | apply Zl2 | apply Zld) | with_reducible assumption | omega | (dsimp only; omega)))))).mono ?_)
                rintro _ _ ⟨rfl, x, rfl⟩
                have hxs := x.size_le
                dsimp only
                go_wp2_with fail
                (with_reducible refine (HPW.out _ (HT.out.of (by (repeat' (first | (with_reducible first | apply Zl1 | apply Zl2 | apply Zl3 | apply Zl4 | apply Zl5 | apply Zl6 | apply Zl7 | apply Zl8 | apply Zl9 | apply Zla | apply Zlb | apply Zlc) | (dsimp only; with_reducible first | apply Zl8 | apply Zl2 | apply Zld) | with_reducible assumption | omega | (dsimp only; omega)))))).mono ?_)
                rintro _ _ ⟨rfl, y, rfl⟩
                have hys := y.size_le
                dsimp only
                go_wp2_with fail
                (with_reducible refine (HML.out _ (HT.out.of (by (repeat' (first | (with_reducible first | apply Zl1 | apply Zl2 | apply Zl3 | apply Zl4 | apply Zl5 | apply Zl6 | apply Zl7 | apply Zl8 | apply Zl9 | apply Zla | apply Zlb | apply Zlc) | (dsimp only; with_reducible first | apply Zl8 | apply Zl2 | apply Zld) | with_reducible assumption | omega | (dsimp only; omega)))))).mono ?_)
                rintro _ _ ⟨rfl, u, rfl⟩
                have hus := u.size_le
                dsimp only
                have HU := Lib.hid (show Below wr.heap.size wr u.w by (repeat' (first | (with_reducible first | apply Zl1 | apply Zl2 | apply Zl3 | apply Zl4 | apply Zl5 | apply Zl6 | apply Zl7 | apply Zl8 | apply Zl9 | apply Zla | apply Zlb | apply Zlc) | (dsimp only; with_reducible first | apply Zl8 | apply Zl2 | apply Zld) | with_reducible assumption | omega | (dsimp only; omega))))
                have HU1 := Lib.hid (obj_below HU.out (by omega) HO1.out)
                have HU2 := Lib.hid (obj_below HU.out (by omega) HO2.out)
                have HU3 := Lib.hid (obj_below HU.out (by omega) HO3.out)
                have HU4 := Lib.hid (obj_below HU.out (by omega) HO4.out)
                clear e0 e1 e2 f0 f1 f2
                obtain ⟨e0, e1, e2⟩ := cells3 HU3.out
                obtain ⟨f0, f1, f2⟩ := froz3 HU3.out
                go_wp2_with fail
                go_roundw
                case rel => exact ⟨2, by omega, rfl, by (repeat' (first | (with_reducible first | apply Zl1 | apply Zl2 | apply Zl3 | apply Zl4 | apply Zl5 | apply Zl6 | apply Zl7 | apply Zl8 | apply Zl9 | apply Zla | apply Zlb | apply Zlc) | (dsimp only; with_reducible first | apply Zl8 | apply Zl2 | apply Zld) | with_reducible assumption | omega | (dsimp only; omega))), obj_ne _ (by omega) HU1.out, obj_ne _ (by omega) HU2.out, by rw [HQ1.out, HQ2.out, HHR.out]; exact obj_set (i := 1) _ HU3.out, obj_ne _ (by omega) HU4.out⟩
                case measure => simp [intOf]
              · have hl : askR s 2 = askR s 1 * 3 ^ (s.e 1).natAbs := if_neg hneg
                have hr : askL s 2 = askL s 1 := if_neg hneg
                rw [← hl] at HMR
                have HHR := Lib.hid (congrArg I.iT hr)
                rw [show (((s.e 1).natAbs : Nat) : Int) = s.e 1 by omega] at HPW
                clear hl hr HML p1 p2 p3 n1 n2
                generalize s.e 1 = ee at *
                generalize I.iT (3 ^ ee.natAbs) = tx at *
                generalize I.iT 3 = tb at *
                generalize hq1 : I.iT (askL s 2) = tl1 at *
                generalize hq2 : I.iT (askR s 2) = tr1 at *
                have HQ1 := Lib.hid hq1
                have HQ2 := Lib.hid hq2
                clear hq1 hq2
                generalize I.iT (askL s 1) = tl0 at *
                generalize I.iT (askR s 1) = tr0 at *
                have m1 : max ee (-ee) = ee := by omega
                go_wp2_with fail
                refine wp_region_belT 14 (by kernel_rfl) (by kernel_rfl) ?_
                simp only [List.take_succ_cons, List.take_zero, List.drop_succ_cons, List.drop_zero]
                repeat (go_big_quiet_step (fail))
                refine wpQuiet_nil ?_
                rintro _ ⟨z, rfl⟩
                have hzs := z.size_le
                go_wp2_with fail
                (with_reducible refine (HOF.out _ (HT.out.of (by (repeat' (first | (with_reducible first | apply Zl1 | apply Zl2 | apply Zl3 | apply Zl4 | apply Zl5 | apply Zl6 | apply Zl7 | apply Zl8 | apply Zl9 | apply Zla | apply Zlb | apply Zlc) | (dsimp only; with_reducible first | apply Zl8 | apply Zl2 | apply Zld) | with_reducible assumption | omega | (dsimp only; omega)))))).mono ?_)
                rintro _ _ ⟨rfl, x, rfl⟩
                have hxs := x.size_le
                dsimp only
                go_wp2_with fail
                (with_reducible refine (HPW.out _ (HT.out.of (by (repeat' (first | (with_reducible first | apply Zl1 | apply Zl2 | apply Zl3 | apply Zl4 | apply Zl5 | apply Zl6 | apply Zl7 | apply Zl8 | apply Zl9 | apply Zla | apply Zlb | apply Zlc) | (dsimp only; with_reducible first | apply Zl8 | apply Zl2 | apply Zld) | with_reducible assumption | omega | (dsimp only; omega)))))).mono ?_)
                rintro _ _ ⟨rfl, y, rfl⟩
                have hys := y.size_le
                dsimp only
                go_wp2_with fail
                (with_reducible refine (HMR.out _ (HT.out.of (by (repeat' (first | (with_reducible first | apply Zl1 | apply Zl2 | apply Zl3 | apply Zl4 | apply Zl5 | apply Zl6 | apply Zl7 | apply Zl8 | apply Zl9 | apply Zla | apply Zlb | apply Zlc) | (dsimp only; with_reducible first | apply Zl8 | apply Zl2 | apply Zld) | with_reducible assumption | omega | (dsimp only; omega)))))).mono ?_)
                rintro _ _ ⟨rfl, u, rfl⟩
                have hus := u.size_le
                dsimp only
                have HU := Lib.hid (show Below wr.heap.size wr u.w by (repeat' (first | (with_reducible first | apply Zl1 | apply Zl2 | apply Zl3 | apply Zl4 | apply Zl5 | apply Zl6 | apply Zl7 | apply Zl8 | apply Zl9 | apply Zla | apply Zlb | apply Zlc) | (dsimp only; with_reducible first | apply Zl8 | apply Zl2 | apply Zld) | with_reducible assumption | omega | (dsimp only; omega))))
                have HU1 := Lib.hid (obj_below HU.out (by omega) HO1.out)
                have HU2 := Lib.hid (obj_below HU.out (by omega) HO2.out)
                have HU3 := Lib.hid (obj_below HU.out (by omega) HO3.out)
                have HU4 := Lib.hid (obj_below HU.out (by omega) HO4.out)
                clear e0 e1 e2 f0 f1 f2
                obtain ⟨e0, e1, e2⟩ := cells3 HU3.out
                obtain ⟨f0, f1, f2⟩ := froz3 HU3.out
                go_wp2_with fail
                go_roundw
                case rel => exact ⟨2, by omega, rfl, by (repeat' (first | (with_reducible first | apply Zl1 | apply Zl2 | apply Zl3 | apply Zl4 | apply Zl5 | apply Zl6 | apply Zl7 | apply Zl8 | apply Zl9 | apply Zla | apply Zlb | apply Zlc) | (dsimp only; with_reducible first | apply Zl8 | apply Zl2 | apply Zld) | with_reducible assumption | omega | (dsimp only; omega))), obj_ne _ (by omega) HU1.out, obj_ne _ (by omega) HU2.out, by rw [HQ1.out, HQ2.out, HHR.out]; exact obj_set (i := 2) _ HU3.out, obj_ne _ (by omega) HU4.out⟩
                case measure => simp [intOf]
            · clear hk3 hk hki
              obtain ⟨g0, g1, g2, g3, g4, g5⟩ := cells6 HO2.out
              obtain ⟨r0, r1, r2⟩ := cells3 HO4.out
              obtain ⟨e0, e1, e2⟩ := cells3 HO3.out
              obtain ⟨f0, f1, f2⟩ := froz3 HO3.out
              have q1 : 1 ≤ (s.c).d := (HL.out 2 (by decide)).1.1
              obtain ⟨b1, b2⟩ : -6000 ≤ s.e 2 ∧ s.e 2 ≤ 6000 := HE.out 2 (by decide)
              have he : (s.c).n * ((D : Int) / (s.c).d) = s.e 2 := by rw [← HDD.out]; rfl
              obtain ⟨v1, v2⟩ : 0 ≤ (D : Int) / (s.c).d ∧ (D : Int) / (s.c).d ≤ 240 := ⟨Int.ediv_nonneg (by omega) (by omega), Int.le_trans (Int.ediv_le_self _ (by omega)) (by rw [HDD.out] at hd1; exact hd1)⟩
              obtain ⟨p1, p2, p3⟩ := HP.out 2 (by decide)
              obtain ⟨n1, n2⟩ := HN.out 2 (by decide)
              have HOF := Lib.hid (fun w' hT => I.of_any 5 w' (by omega) (by omega) hT)
              have HPW := Lib.hid (fun w' hT => I.power_any 5 (s.e 2).natAbs w' (by rw [show (5 : Int) = prm 2 from rfl, nd_prm]; decide) p1 p2 hT)
              have HML := Lib.hid (fun w' hT => I.mul_any (askL s 2) (5 ^ (s.e 2).natAbs) w' (by omega) (Nat.le_trans p3 (by decide)) hT)
              have HMR := Lib.hid (fun w' hT => I.mul_any (askR s 2) (5 ^ (s.e 2).natAbs) w' (by omega) (Nat.le_trans p3 (by decide)) hT)
              by_cases hneg : s.e 2 < 0
              · have hl : askL s 3 = askL s 2 * 5 ^ (s.e 2).natAbs := if_pos hneg
                have hr : askR s 3 = askR s 2 := if_pos hneg
                rw [← hl] at HML
                have HHR := Lib.hid (congrArg I.iT hr)
                rw [show (((s.e 2).natAbs : Nat) : Int) = -(s.e 2) by omega] at HPW
                clear hl hr HMR p1 p2 p3 n1 n2
                generalize s.e 2 = ee at *
                generalize I.iT (5 ^ ee.natAbs) = tx at *
                generalize I.iT 5 = tb at *
                generalize hq1 : I.iT (askL s 3) = tl1 at *
                generalize hq2 : I.iT (askR s 3) = tr1 at *
                have HQ1 := Lib.hid hq1
                have HQ2 := Lib.hid hq2
                clear hq1 hq2
                generalize I.iT (askL s 2) = tl0 at *
                generalize I.iT (askR s 2) = tr0 at *
                have m1 : max ee (-ee) = -ee := by omega
                go_wp2_with fail
                refine wp_region_belT 14 (by kernel_rfl) (by kernel_rfl) ?_
                simp only [List.take_succ_cons, List.take_zero, List.drop_succ_cons, List.drop_zero]
                repeat (go_big_quiet_step (fail))
                refine wpQuiet_nil ?_
                rintro _ ⟨z, rfl⟩
                have hzs := z.size_le
                go_wp2_with fail
                (with_reducible refine (HOF.out _ (HT.out.of (by (repeat' (first | (with_reducible first | apply Zl1 | apply Zl2 | apply Zl3 | apply Zl4 | apply Zl5 | apply Zl6 | apply Zl7 | apply Zl8 | apply Zl9 | apply Zla | apply Zlb | apply Zlc) | (dsimp only; with_reducible first | apply Zl8 | apply Zl2 | apply Zld) | with_reducible assumption | omega | (dsimp only; omega)))))).mono ?_)
                rintro _ _ ⟨rfl, x, rfl⟩
                have hxs := x.size_le
                dsimp only
                go_wp2_with fail
                (with_reducible refine (HPW.out _ (HT.out.of (by (repeat' (first | (with_reducible first | apply Zl1 | apply Zl2 | apply Zl3 | apply Zl4 | apply Zl5 | apply Zl6 | apply Zl7 | apply Zl8 | apply Zl9 | apply Zla | apply Zlb | apply Zlc) | (dsimp only; with_reducible first | apply Zl8 | apply Zl2 | apply Zld) | with_reducible assumption | omega | (dsimp only; omega)))))).mono ?_)
                rintro _ _ ⟨rfl, y, rfl⟩
                have hys := y.size_le
                dsimp only
                go_wp2_with fail
                (with_reducible refine (HML.out _ (HT.out.of (by (repeat' (first | (with_reducible first | apply Zl1 | apply Zl2 | apply Zl3 | apply Zl4 | apply Zl5 | apply Zl6 | apply Zl7 | apply Zl8 | apply Zl9 | apply Zla | apply Zlb | apply Zlc) | (dsimp only; with_reducible first | apply Zl8 | apply Zl2 | apply Zld) | with_reducible assumption | omega | (dsimp only; omega)))))).mono ?_)
                rintro _ _ ⟨rfl, u, rfl⟩
                have hus := u.size_le
                dsimp only
                have HU := Lib.hid (show Below wr.heap.size wr u.w by (repeat' (first | (with_reducible first | apply Zl1 | apply Zl2 | apply Zl3 | apply Zl4 | apply Zl5 | apply Zl6 | apply Zl7 | apply Zl8 | apply Zl9 | apply Zla | apply Zlb | apply Zlc) | (dsimp only; with_reducible first | apply Zl8 | apply Zl2 | apply Zld) | with_reducible assumption | omega | (dsimp only; omega))))
                have HU1 := Lib.hid (obj_below HU.out (by omega) HO1.out)
                have HU2 := Lib.hid (obj_below HU.out (by omega) HO2.out)
                have HU3 := Lib.hid (obj_below HU.out (by omega) HO3.out)
                have HU4 := Lib.hid (obj_below HU.out (by omega) HO4.out)
                clear e0 e1 e2 f0 f1 f2
                obtain ⟨e0, e1, e2⟩ := cells3 HU3.out
                obtain ⟨f0, f1, f2⟩ := froz3 HU3.out
                go_wp2_with fail
                go_roundw
                case rel => exact ⟨3, by omega, rfl, by (repeat' (first | (with_reducible first | apply Zl1 | apply Zl2 | apply Zl3 | apply Zl4 | apply Zl5 | apply Zl6 | apply Zl7 | apply Zl8 | apply Zl9 | apply Zla | apply Zlb | apply Zlc) | (dsimp only; with_reducible first | apply Zl8 | apply Zl2 | apply Zld) | with_reducible assumption | omega | (dsimp only; omega))), obj_ne _ (by omega) HU1.out, obj_ne _ (by omega) HU2.out, by rw [HQ1.out, HQ2.out, HHR.out]; exact obj_set (i := 1) _ HU3.out, obj_ne _ (by omega) HU4.out⟩
                case measure => simp [intOf]
              · have hl : askR s 3 = askR s 2 * 5 ^ (s.e 2).natAbs := if_neg hneg
                have hr : askL s 3 = askL s 2 := if_neg hneg
                rw [← hl] at HMR
                have HHR := Lib.hid (congrArg I.iT hr)
                rw [show (((s.e 2).natAbs : Nat) : Int) = s.e 2 by omega] at HPW
                clear hl hr HML p1 p2 p3 n1 n2
                generalize s.e 2 = ee at *
                generalize I.iT (5 ^ ee.natAbs) = tx at *
                generalize I.iT 5 = tb at *
                generalize hq1 : I.iT (askL s 3) = tl1 at *
                generalize hq2 : I.iT (askR s 3) = tr1 at *
                have HQ1 := Lib.hid hq1
                have HQ2 := Lib.hid hq2
                clear hq1 hq2
                generalize I.iT (askL s 2) = tl0 at *
                generalize I.iT (askR s 2) = tr0 at *
                have m1 : max ee (-ee) = ee := by omega
                go_wp2_with fail
                refine wp_region_belT 14 (by kernel_rfl) (by kernel_rfl) ?_
                simp only [List.take_succ_cons, List.take_zero, List.drop_succ_cons, List.drop_zero]
                repeat (go_big_quiet_step (fail))
                refine wpQuiet_nil ?_
                rintro _ ⟨z, rfl⟩
                have hzs := z.size_le
                go_wp2_with fail
                (with_reducible refine (HOF.out _ (HT.out.of (by (repeat' (first | (with_reducible first | apply Zl1 | apply Zl2 | apply Zl3 | apply Zl4 | apply Zl5 | apply Zl6 | apply Zl7 | apply Zl8 | apply Zl9 | apply Zla | apply Zlb | apply Zlc) | (dsimp only; with_reducible first | apply Zl8 | apply Zl2 | apply Zld) | with_reducible assumption | omega | (dsimp only; omega)))))).mono ?_)
                rintro _ _ ⟨rfl, x, rfl⟩
                have hxs := x.size_le
                dsimp only
                go_wp2_with fail
                (with_reducible refine (HPW.out _ (HT.out.of (by (repeat' (first | (with_reducible first | apply Zl1 | apply Zl2 | apply Zl3 | apply Zl4 | apply Zl5 | apply Zl6 | apply Zl7 | apply Zl8 | apply Zl9 | apply Zla | apply Zlb | apply Zlc) | (dsimp only; with_reducible first | apply Zl8 | apply Zl2 | apply Zld) | with_reducible assumption | omega | (dsimp only; omega)))))).mono ?_)
                rintro _ _ ⟨rfl, y, rfl⟩
                have hys := y.size_le
                dsimp only
                go_wp2_with fail
                (with_reducible refine (HMR.out _ (HT.out.of (by (repeat' (first | (with_reducible first | apply Zl1 | apply Zl2 | apply Zl3 | apply Zl4 | apply Zl5 | apply Zl6 | apply Zl7 | apply Zl8 | apply Zl9 | apply Zla | apply Zlb | apply Zlc) | (dsimp only; with_reducible first | apply Zl8 | apply Zl2 | apply Zld) | with_reducible assumption | omega | (dsimp only; omega)))))).mono ?_)
                rintro _ _ ⟨rfl, u, rfl⟩
                have hus := u.size_le
                dsimp only
                have HU := Lib.hid (show Below wr.heap.size wr u.w by (repeat' (first | (with_reducible first | apply Zl1 | apply Zl2 | apply Zl3 | apply Zl4 | apply Zl5 | apply Zl6 | apply Zl7 | apply Zl8 | apply Zl9 | apply Zla | apply Zlb | apply Zlc) | (dsimp only; with_reducible first | apply Zl8 | apply Zl2 | apply Zld) | with_reducible assumption | omega | (dsimp only; omega))))
                have HU1 := Lib.hid (obj_below HU.out (by omega) HO1.out)
                have HU2 := Lib.hid (obj_below HU.out (by omega) HO2.out)
                have HU3 := Lib.hid (obj_below HU.out (by omega) HO3.out)
                have HU4 := Lib.hid (obj_below HU.out (by omega) HO4.out)
                clear e0 e1 e2 f0 f1 f2
                obtain ⟨e0, e1, e2⟩ := cells3 HU3.out
                obtain ⟨f0, f1, f2⟩ := froz3 HU3.out
                go_wp2_with fail
                go_roundw
                case rel => exact ⟨3, by omega, rfl, by (repeat' (first | (with_reducible first | apply Zl1 | apply Zl2 | apply Zl3 | apply Zl4 | apply Zl5 | apply Zl6 | apply Zl7 | apply Zl8 | apply Zl9 | apply Zla | apply Zlb | apply Zlc) | (dsimp only; with_reducible first | apply Zl8 | apply Zl2 | apply Zld) | with_reducible assumption | omega | (dsimp only; omega))), obj_ne _ (by omega) HU1.out, obj_ne _ (by omega) HU2.out, by rw [HQ1.out, HQ2.out, HHR.out]; exact obj_set (i := 2) _ HU3.out, obj_ne _ (by omega) HU4.out⟩
                case measure => simp [intOf]
          · obtain rfl : k = 3 := by omega
            clear hk3 hk
            obtain ⟨e0, e1, e2⟩ := cells3 HO3.out
            obtain ⟨c0, c1, c2⟩ := cells3 HO1.out
            obtain ⟨f0, f1, f2⟩ := froz3 HO1.out
            have HBL := Lib.hid hB
            go_wp2_with fail
            refine ret_obj (b := w.heap.size + 1) (vs := #[.int .i64 (D : Int), .string ⟨(I.iT (askL s 3)).toArray⟩, .string ⟨(I.iT (askR s 3)).toArray⟩]) (T := 275) (v := .agg #[.int .i64 (D : Int), .string ⟨(I.iT (askL s 3)).toArray⟩, .string ⟨(I.iT (askR s 3)).toArray⟩]) (obj_set (i := 2) _ (obj_set (i := 1) _ (obj_set (i := 0) _ HO1.out))) (fun W' hW' => ?_) rfl ?_
            · obtain ⟨a0, a1, a2⟩ := cells3 hW'
              simp [results, Tryz.results158, go_sem, a0, a1, a2]
            · exact Ret.mk (by rw [HDD.out]) (by (repeat' (first | (with_reducible first | apply Zl1 | apply Zl2 | apply Zl3 | apply Zl4 | apply Zl5 | apply Zl6 | apply Zl7 | apply Zl8 | apply Zl9 | apply Zla | apply Zlb | apply Zlc) | (dsimp only; with_reducible first | apply Zl8 | apply Zl2 | apply Zld) | with_reducible assumption | omega | (dsimp only; omega))))
end Go.Proofs.YtehgeoipbgpocaaGreatDoor

namespace Go.Proofs.YtehgeoipbgpocaaGreatDoor
set_option linter.unusedVariables false
set_option linter.unusedSimpArgs false
open Go.RowKit
attribute [local go_sem low] Bel.cell Bel.frozen alloc_cell alloc_frozen
attribute [local go_sem] calmOp chainOp yieldsC grows

set_option maxHeartbeats 3200000 in
theorem compare_any (n D : Nat) (L R : Int) (w : World) (hn : n ≤ 128000001) (hD : D ≤ 240) (hL : I.nd L ≤ 20000) (hR : I.nd R ≤ 80000) (hT : I.Tab w) :
    Calls Tryz.prog 159 #[.agg #[.int .i64 (D : Int), .string ⟨(I.iT L).toArray⟩, .string ⟨(I.iT R).toArray⟩], .int .i64 (n : Int)] w (Ret (.int .i64 (I.cmpI ((n : Int) ^ D * L) R)) w) := by
  have HT := Lib.hid hT
  have hnd := @cmp_nd (n : Int) D L (by omega) (by omega) hD hL
  have HOF := Lib.hid (fun w' hT => I.of_any (n : Int) w' (by omega) (by omega) hT)
  have HPW := Lib.hid (fun w' hT => I.power_any (n : Int) D w' (by have := @nd_le9 (n : Int) (by omega) (by omega); omega) (by omega) hnd.1 hT)
  have HML := Lib.hid (fun w' hT => I.mul_any ((n : Int) ^ D) L w' (by omega) (by omega) hT)
  have HCM := Lib.hid (fun w' => I.compareI_any ((n : Int) ^ D * L) R w' (by omega) (by omega))
  clear hT hnd hL hR
  generalize I.cmpI ((n : Int) ^ D * L) R = r at *
  generalize I.iT ((n : Int) ^ D * L) = t1 at *
  generalize I.iT ((n : Int) ^ D) = t2 at *
  generalize I.iT (n : Int) = t3 at *
  generalize I.iT L = t4 at *
  generalize I.iT R = t5 at *
  go_enter Tryz.func159, Tryz.ntmps159
  go_wp2_with fail
  refine wp_region_bel (by kernel_rfl) (by kernel_rfl) ?_
  repeat (go_big_quiet_step ((first | (go_at_call 147; exact bel_of (HOF.out _ (HT.out.of (by (repeat' (first | (with_reducible first | apply Zl1 | apply Zl2 | apply Zl3 | apply Zl4 | apply Zl5 | apply Zl6 | apply Zl7 | apply Zl8 | apply Zl9 | apply Zla | apply Zlb | apply Zlc) | (dsimp only; with_reducible first | apply Zl8 | apply Zl2 | apply Zld) | with_reducible assumption | omega | (dsimp only; omega))))))) | (go_at_call 91; exact bel_of (HPW.out _ (HT.out.of (by (repeat' (first | (with_reducible first | apply Zl1 | apply Zl2 | apply Zl3 | apply Zl4 | apply Zl5 | apply Zl6 | apply Zl7 | apply Zl8 | apply Zl9 | apply Zla | apply Zlb | apply Zlc) | (dsimp only; with_reducible first | apply Zl8 | apply Zl2 | apply Zld) | with_reducible assumption | omega | (dsimp only; omega))))))))))
  refine wpQuiet_nil ?_
  rintro _ ⟨x1, rfl⟩
  go_wp2_with fail
  refine wp_region_bel (by kernel_rfl) (by kernel_rfl) ?_
  repeat (go_big_quiet_step ((first | (go_at_call 92; exact bel_of (HML.out _ (HT.out.of (by (repeat' (first | (with_reducible first | apply Zl1 | apply Zl2 | apply Zl3 | apply Zl4 | apply Zl5 | apply Zl6 | apply Zl7 | apply Zl8 | apply Zl9 | apply Zla | apply Zlb | apply Zlc) | (dsimp only; with_reducible first | apply Zl8 | apply Zl2 | apply Zld) | with_reducible assumption | omega | (dsimp only; omega))))))) | (go_at_call 93; exact bel_of (HCM.out _)))))
  refine wpQuiet_nil ?_
  rintro _ ⟨x2, rfl⟩
  go_wp2
  go_ret
  exact Ret.mk (by rfl) (by (repeat' (first | (with_reducible first | apply Zl1 | apply Zl2 | apply Zl3 | apply Zl4 | apply Zl5 | apply Zl6 | apply Zl7 | apply Zl8 | apply Zl9 | apply Zla | apply Zlb | apply Zlc) | (dsimp only; with_reducible first | apply Zl8 | apply Zl2 | apply Zld) | with_reducible assumption | omega | (dsimp only; omega))))

/-! ### Ratio -/
def far (s : Sz) : Prop := cmS s (octS (-7)) = -1 ∨ cmS s (octS 7) = 1
def RetR (s : Sz) (w : World) (e : Ending) (w' : World) : Prop := (∃ x : Bel w, w' = x.w) ∧ ((far s ∧ e = .returned (.tuple #[.agg #[.int .i64 0, .int .i64 0], .int .i64 3])) ∨
  ∃ lo hi : Nat, Bnd s lo hi ∧ e = .returned (.tuple #[.agg #[.int .i64 (lo : Int), .int .i64 (hi : Int)], .int .i64 0]))
theorem RetR.no {s : Sz} {w w' : World} (h : far s) (hb : Below w.heap.size w w') : RetR s w (.returned (.tuple #[.agg #[.int .i64 0, .int .i64 0], .int .i64 3])) w' := ⟨⟨⟨w', hb⟩, rfl⟩, .inl ⟨h, rfl⟩⟩
theorem RetR.yes {s : Sz} {w w' : World} {lo hi : Nat} (h : Bnd s lo hi) (hb : Below w.heap.size w w') : RetR s w (.returned (.tuple #[.agg #[.int .i64 (lo : Int), .int .i64 (hi : Int)], .int .i64 0])) w' := ⟨⟨⟨w', hb⟩, rfl⟩, .inr ⟨lo, hi, h, rfl⟩⟩
def cR (s : Sz) (n : Nat) : Int := if n ^ s.den.toNat * nL s < 1000000 ^ s.den.toNat * nR s then -1 else if 1000000 ^ s.den.toNat * nR s < n ^ s.den.toNat * nL s then 1 else 0
theorem cR_le {s : Sz} {n : Nat} (h : cR s n ≤ 0) : n ^ s.den.toNat * nL s ≤ 1000000 ^ s.den.toNat * nR s := by
  unfold cR at h
  split at h
  · omega
  · split at h <;> omega
theorem cR_gt {s : Sz} {n : Nat} (h : ¬ cR s n ≤ 0) : 1000000 ^ s.den.toNat * nR s < n ^ s.den.toNat * nL s := by
  unfold cR at h
  split at h
  · omega
  · split at h <;> omega
theorem cR_eq {s : Sz} {n : Nat} (h : cR s n = 0) : n ^ s.den.toNat * nL s = 1000000 ^ s.den.toNat * nR s := by
  unfold cR at h
  split at h
  · omega
  · split at h <;> omega
theorem cR_of {s : Sz} {n : Nat} (h : n ^ s.den.toNat * nL s = 1000000 ^ s.den.toNat * nR s) : cR s n = 0 := by
  unfold cR
  rw [if_neg (by omega), if_neg (by omega)]
theorem Bnd.mkE {s : Sz} {lo : Nat} (h : lo ≤ 128000000) (he : lo ^ s.den.toNat * nL s = 1000000 ^ s.den.toNat * nR s) : Bnd s lo lo := ⟨h, .inl ⟨rfl, he⟩⟩
theorem Bnd.mkL {s : Sz} {lo : Nat} (h : lo ≤ 128000000) (h1 : lo ^ s.den.toNat * nL s ≤ 1000000 ^ s.den.toNat * nR s) (h2 : 1000000 ^ s.den.toNat * nR s < (lo + 1) ^ s.den.toNat * nL s) (hn : lo ^ s.den.toNat * nL s ≠ 1000000 ^ s.den.toNat * nR s) : Bnd s lo (lo + 1) :=
  ⟨h, .inr ⟨rfl, Nat.lt_of_le_of_ne h1 hn, h2⟩⟩
theorem den0 {d : Int} (h : 1 ≤ d) : 0 < d.toNat := by omega
theorem cmpR_any (s : Sz) (n : Nat) (w : World) (hs : s.ok = true) (hn : n ≤ 128000001) (hT : I.Tab w) :
    Calls Tryz.prog 159 #[.agg #[.int .i64 s.den, .string ⟨(I.iT (askL s 3)).toArray⟩, .string ⟨(I.iT (askR s 3)).toArray⟩], .int .i64 (n : Int)] w (Ret (.int .i64 (cR s n)) w) := by
  have hd := den_bd hs
  have hN := @ask_nd s hs 3 (by decide)
  have h := compare_any n s.den.toNat (askL s 3) (askR s 3) w hn (by omega) (by omega) (by omega) hT
  rw [show ((s.den.toNat : Nat) : Int) = s.den by omega] at h
  have e : I.cmpI ((n : Int) ^ s.den.toNat * askL s 3) (askR s 3) = cR s n := by
    rw [askL_end, askR_end, ← Int.natCast_pow, ← Int.natCast_mul, cmpI_nat]
    rfl
  rwa [e] at h
theorem oct_of (n : Int) (hn : resE (iS n 0 0) = 0) (w : World) : Calls Tryz.prog 37 #[.int .i64 n, .int .i64 0, .int .i64 0] w (Ret (.tuple #[(octS n).V, .int .i64 0]) w) := by
  have h := iof_any n 0 0 w
  rw [hn] at h
  exact h
theorem cmp_oct {s t : Sz} (hs : s.ok = true) (ht : t.ok = true) (w : World) (hT : I.Tab w) : Calls Tryz.prog 95 #[s.V, t.V] w (Ret (.tuple #[.int .i64 (cmS s t), .int .i64 0]) w) := by
  have h := icmp_any s t w hT
  rwa [both_ok hs ht] at h

set_option maxRecDepth 100000 in
set_option maxHeartbeats 6400000 in
theorem bRatio_any (s : Sz) (w : World) (hs : s.ok = true) (hT : I.Tab w) : Calls Tryz.prog 96 #[s.V] w (RetR s w) := by
  have HT := Lib.hid hT
  have HCK := Lib.hid (fun w' => icheck_any s w')
  rw [Sz.chk_ok hs] at HCK
  have HOA := Lib.hid (fun w' => oct_of (-7) (by decide +kernel) w')
  have HOB := Lib.hid (fun w' => oct_of 7 (by decide +kernel) w')
  have HCA := Lib.hid (fun w' hT => cmp_oct hs oct7.2.2 w' hT)
  have HCB := Lib.hid (fun w' hT => cmp_oct hs oct7.2.1 w' hT)
  have HAS := Lib.hid (fun w' hT => ask_any s w' hs hT)
  have HCM := Lib.hid (fun n w' (hn : n ≤ 128000001) hT => cmpR_any s n w' hs hn hT)
  have HFA := Lib.hid (show cmS s (octS (-7)) = -1 → far s from .inl)
  have HFB := Lib.hid (show cmS s (octS 7) = 1 → far s from .inr)
  have HTOP := Lib.hid (@top_bd s hs)
  have HDN := Lib.hid (den_bd hs)
  generalize cmS s (octS (-7)) = na at *
  generalize cmS s (octS 7) = nb at *
  generalize octS (-7) = oa at *
  generalize octS 7 = ob at *
  generalize I.iT (askL s 3) = tl at *
  generalize I.iT (askR s 3) = tr at *
  rw [szV] at HCK HOA HOB HAS
  simp only [szV] at HCA HCB
  rw [szV]
  clear hT hs
  go_enter Tryz.func96, Tryz.ntmps96
  go_wp2_with fail
  (with_reducible refine (HCK.out _).mono ?_)
  rintro _ _ ⟨rfl, x, rfl⟩
  have hxs := x.size_le
  go_wp2_with fail
  obtain ⟨W, hW⟩ : ∃ W, x.w = W := ⟨_, rfl⟩
  have hb0 : W.heap[w.heap.size]? = some (.cells #[.int .i64 s.a.n, .int .i64 s.a.d, .int .i64 s.b.n, .int .i64 s.b.d, .int .i64 s.c.n, .int .i64 s.c.d] 45) := by
    rw [← hW]
    exact obj_bel x (obj_alloc _ (obj_new _ _))
  have hb1 : W.heap[w.heap.size + 1]? = some (.cells #[.int .i64 0, .int .i64 0] 53) := by
    rw [← hW]
    exact obj_bel x (obj_new1 _ _ _)
  have hbx : Below w.heap.size w x.w := by (repeat' (first | (with_reducible first | apply Zl1 | apply Zl2 | apply Zl3 | apply Zl4 | apply Zl5 | apply Zl6 | apply Zl7 | apply Zl8 | apply Zl9 | apply Zla | apply Zlb | apply Zlc) | (dsimp only; with_reducible first | apply Zl8 | apply Zl2 | apply Zld) | with_reducible assumption | omega | (dsimp only; omega)))
  have hbW : Below w.heap.size w W := by rw [← hW]; exact hbx
  rw [hW]
  have hWs := hbW.size
  have hWl := obj_lt hb1
  have HB0 := Lib.hid hb0
  have HB1 := Lib.hid hb1
  clear hb0 hb1 hxs hW hbx
  clear x
  go_loopw [24] (fun iv wr => ∃ k : Nat, k ≤ 2 ∧ (1 < k → nb ≠ 1) ∧ iv = .int .i64 (k : Int) ∧ Below w.heap.size w wr ∧
    wr.heap[w.heap.size]? = some (.cells #[.int .i64 s.a.n, .int .i64 s.a.d, .int .i64 s.b.n, .int .i64 s.b.d, .int .i64 s.c.n, .int .i64 s.c.d] 45) ∧
    wr.heap[w.heap.size + 1]? = some (.cells #[.int .i64 0, .int .i64 0] 53) ∧
    wr.heap[W.heap.size]? = some (.cells #[.int .i64 (-7), .int .i64 (-1), .int .i64 7, .int .i64 1] 272)) (fun iv _ => 2 - (intOf iv).toNat)
  case atStart => exact ⟨0, by omega, fun h => absurd h (by decide), rfl, by (repeat' (first | (with_reducible first | apply Zl1 | apply Zl2 | apply Zl3 | apply Zl4 | apply Zl5 | apply Zl6 | apply Zl7 | apply Zl8 | apply Zl9 | apply Zla | apply Zlb | apply Zlc) | (dsimp only; with_reducible first | apply Zl8 | apply Zl2 | apply Zld) | with_reducible assumption | omega | (dsimp only; omega))), obj_alloc _ HB0.out, obj_alloc _ HB1.out, obj_new _ _⟩
  case round =>
    obtain ⟨k, hk, hnb, rfl, hB, ho0, ho1, ho2⟩ := hrel
    have hbs := hB.size
    have hw4 := obj_lt ho2
    have HO0 := Lib.hid ho0
    have HO1 := Lib.hid ho1
    have HO2 := Lib.hid ho2
    have HBW := Lib.hid hB
    clear ho0 ho1 ho2 HB0 HB1
    obtain ⟨g0, g1, g2, g3, g4, g5⟩ := cells6 HO0.out
    obtain ⟨r0, r1⟩ := cell2 HO1.out
    obtain ⟨t0, t1⟩ : wr.frozen? ⟨w.heap.size + 1, 0, none⟩ = false ∧ wr.frozen? ⟨w.heap.size + 1, 1, none⟩ = false := ⟨(made_cell HO1.out 0).2, (made_cell HO1.out 1).2⟩
    by_cases hk2 : k < 2
    · have hki : (k : Int) < 2 := by omega
      obtain ⟨e0, e1⟩ : wr.cell? ⟨W.heap.size, 0, none⟩ = some (.int .i64 (-7)) ∧ wr.cell? ⟨W.heap.size, 1, none⟩ = some (.int .i64 (-1)) := ⟨(made_cell HO2.out 0).1, (made_cell HO2.out 1).1⟩
      obtain ⟨e2, e3⟩ : wr.cell? ⟨W.heap.size, 2, none⟩ = some (.int .i64 7) ∧ wr.cell? ⟨W.heap.size, 3, none⟩ = some (.int .i64 1) := ⟨(made_cell HO2.out 2).1, (made_cell HO2.out 3).1⟩
      rcases (show k = 0 ∨ k = 1 by omega) with rfl | rfl
      · clear hk hk2 hki hnb
        go_wp2_with fail
        (with_reducible refine (HOA.out _).mono ?_)
        rintro _ _ ⟨rfl, y, rfl⟩
        have hys := y.size_le
        dsimp only
        go_wp2_with fail
        (with_reducible refine (HCA.out _ (HT.out.of (by (repeat' (first | (with_reducible first | apply Zl1 | apply Zl2 | apply Zl3 | apply Zl4 | apply Zl5 | apply Zl6 | apply Zl7 | apply Zl8 | apply Zl9 | apply Zla | apply Zlb | apply Zlc) | (dsimp only; with_reducible first | apply Zl8 | apply Zl2 | apply Zld) | with_reducible assumption | omega | (dsimp only; omega)))))).mono ?_)
        rintro _ _ ⟨rfl, z, rfl⟩
        have hzs := z.size_le
        dsimp only
        have hbz : Below wr.heap.size wr z.w := by (repeat' (first | (with_reducible first | apply Zl1 | apply Zl2 | apply Zl3 | apply Zl4 | apply Zl5 | apply Zl6 | apply Zl7 | apply Zl8 | apply Zl9 | apply Zla | apply Zlb | apply Zlc) | (dsimp only; with_reducible first | apply Zl8 | apply Zl2 | apply Zld) | with_reducible assumption | omega | (dsimp only; omega)))
        have HRO := Lib.hid (obj_below hbz (by omega) HO1.out)
        by_cases hn : na = (-1)
        · have HF := Lib.hid (HFA.out hn)
          have en : (na == (-1)) = true := by rw [hn]; rfl
          clear hn
          go_wp2_with fail
          refine ret_obj (b := w.heap.size + 1) (vs := #[.int .i64 0, .int .i64 0]) (T := 53) (v := .tuple #[.agg #[.int .i64 0, .int .i64 0], .int .i64 3]) (obj_set (i := 1) _ (obj_set (i := 0) _ HRO.out)) (fun W' hW' => ?_) rfl ?_
          · obtain ⟨a0, a1⟩ := cell2 hW'
            simp [results, Tryz.results96, go_sem, a0, a1]
          · exact RetR.no HF.out (by (repeat' (first | (with_reducible first | apply Zl1 | apply Zl2 | apply Zl3 | apply Zl4 | apply Zl5 | apply Zl6 | apply Zl7 | apply Zl8 | apply Zl9 | apply Zla | apply Zlb | apply Zlc) | (dsimp only; with_reducible first | apply Zl8 | apply Zl2 | apply Zld) | with_reducible assumption | omega | (dsimp only; omega))))
        · have HNB := Lib.hid hn
          have en : (na == (-1)) = false := by rw [beq_eq_false_iff_ne]; exact hn
          clear hn
          go_wp2_with fail
          go_roundw
          case rel =>
            exact ⟨0 + 1, by omega, (fun h => absurd h (by decide)), rfl, by (repeat' (first | (with_reducible first | apply Zl1 | apply Zl2 | apply Zl3 | apply Zl4 | apply Zl5 | apply Zl6 | apply Zl7 | apply Zl8 | apply Zl9 | apply Zla | apply Zlb | apply Zlc) | (dsimp only; with_reducible first | apply Zl8 | apply Zl2 | apply Zld) | with_reducible assumption | omega | (dsimp only; omega))), obj_below hbz (by omega) HO0.out, obj_below hbz (by omega) HO1.out, obj_below hbz (by omega) HO2.out⟩
          case measure => simp [intOf]
      · clear hk hk2 hki hnb
        go_wp2_with fail
        (with_reducible refine (HOB.out _).mono ?_)
        rintro _ _ ⟨rfl, y, rfl⟩
        have hys := y.size_le
        dsimp only
        go_wp2_with fail
        (with_reducible refine (HCB.out _ (HT.out.of (by (repeat' (first | (with_reducible first | apply Zl1 | apply Zl2 | apply Zl3 | apply Zl4 | apply Zl5 | apply Zl6 | apply Zl7 | apply Zl8 | apply Zl9 | apply Zla | apply Zlb | apply Zlc) | (dsimp only; with_reducible first | apply Zl8 | apply Zl2 | apply Zld) | with_reducible assumption | omega | (dsimp only; omega)))))).mono ?_)
        rintro _ _ ⟨rfl, z, rfl⟩
        have hzs := z.size_le
        dsimp only
        have hbz : Below wr.heap.size wr z.w := by (repeat' (first | (with_reducible first | apply Zl1 | apply Zl2 | apply Zl3 | apply Zl4 | apply Zl5 | apply Zl6 | apply Zl7 | apply Zl8 | apply Zl9 | apply Zla | apply Zlb | apply Zlc) | (dsimp only; with_reducible first | apply Zl8 | apply Zl2 | apply Zld) | with_reducible assumption | omega | (dsimp only; omega)))
        have HRO := Lib.hid (obj_below hbz (by omega) HO1.out)
        by_cases hn : nb = 1
        · have HF := Lib.hid (HFB.out hn)
          have en : (nb == 1) = true := by rw [hn]; rfl
          clear hn
          go_wp2_with fail
          refine ret_obj (b := w.heap.size + 1) (vs := #[.int .i64 0, .int .i64 0]) (T := 53) (v := .tuple #[.agg #[.int .i64 0, .int .i64 0], .int .i64 3]) (obj_set (i := 1) _ (obj_set (i := 0) _ HRO.out)) (fun W' hW' => ?_) rfl ?_
          · obtain ⟨a0, a1⟩ := cell2 hW'
            simp [results, Tryz.results96, go_sem, a0, a1]
          · exact RetR.no HF.out (by (repeat' (first | (with_reducible first | apply Zl1 | apply Zl2 | apply Zl3 | apply Zl4 | apply Zl5 | apply Zl6 | apply Zl7 | apply Zl8 | apply Zl9 | apply Zla | apply Zlb | apply Zlc) | (dsimp only; with_reducible first | apply Zl8 | apply Zl2 | apply Zld) | with_reducible assumption | omega | (dsimp only; omega))))
        · have HNB := Lib.hid hn
          have en : (nb == 1) = false := by rw [beq_eq_false_iff_ne]; exact hn
          clear hn
          go_wp2_with fail
          go_roundw
          case rel =>
            exact ⟨1 + 1, by omega, (fun _ => HNB.out), rfl, by (repeat' (first | (with_reducible first | apply Zl1 | apply Zl2 | apply Zl3 | apply Zl4 | apply Zl5 | apply Zl6 | apply Zl7 | apply Zl8 | apply Zl9 | apply Zla | apply Zlb | apply Zlc) | (dsimp only; with_reducible first | apply Zl8 | apply Zl2 | apply Zld) | with_reducible assumption | omega | (dsimp only; omega))), obj_below hbz (by omega) HO0.out, obj_below hbz (by omega) HO1.out, obj_below hbz (by omega) HO2.out⟩
          case measure => simp [intOf]
    · obtain rfl : k = 2 := by omega
      have HTP := Lib.hid (HTOP.out (hnb (by decide)))
      rw [show ((2 : Nat) : Int) = 2 from rfl]
      clear hk hk2 hnb HO2 HCA HCB HOA HOB HFA HFB
      go_wp2_with fail
      (with_reducible refine (HAS.out _ (HT.out.of (by (repeat' (first | (with_reducible first | apply Zl1 | apply Zl2 | apply Zl3 | apply Zl4 | apply Zl5 | apply Zl6 | apply Zl7 | apply Zl8 | apply Zl9 | apply Zla | apply Zlb | apply Zlc) | (dsimp only; with_reducible first | apply Zl8 | apply Zl2 | apply Zld) | with_reducible assumption | omega | (dsimp only; omega)))))).mono ?_)
      rintro _ _ ⟨rfl, z, rfl⟩
      have hzs := z.size_le
      dsimp only
      have hbz : Below wr.heap.size wr z.w := by (repeat' (first | (with_reducible first | apply Zl1 | apply Zl2 | apply Zl3 | apply Zl4 | apply Zl5 | apply Zl6 | apply Zl7 | apply Zl8 | apply Zl9 | apply Zla | apply Zlb | apply Zlc) | (dsimp only; with_reducible first | apply Zl8 | apply Zl2 | apply Zld) | with_reducible assumption | omega | (dsimp only; omega)))
      have hz1 := obj_below hbz (by omega) HO1.out
      have hbw : Below w.heap.size w z.w := by (repeat' (first | (with_reducible first | apply Zl1 | apply Zl2 | apply Zl3 | apply Zl4 | apply Zl5 | apply Zl6 | apply Zl7 | apply Zl8 | apply Zl9 | apply Zla | apply Zlb | apply Zlc) | (dsimp only; with_reducible first | apply Zl8 | apply Zl2 | apply Zld) | with_reducible assumption | omega | (dsimp only; omega)))
      obtain ⟨V, hV⟩ : ∃ V, z.w = V := ⟨_, rfl⟩
      rw [hV] at hz1 hbw ⊢
      have hvs := hbw.size
      have hv1 := obj_lt hz1
      have HZ1 := Lib.hid hz1
      clear hz1 hbz hV hzs r0 r1 t0 t1 g0 g1 g2 g3 g4 g5 HO0 HO1 HBW hB hbs hw4
      clear z
      go_wp2_with fail
      go_loopw [11, 12] (fun av bv wr => ∃ lo hi : Nat, av = .int .i64 (lo : Int) ∧ bv = .int .i64 (hi : Int) ∧ lo < hi ∧ hi ≤ 128000001 ∧ lo ^ s.den.toNat * nL s ≤ 1000000 ^ s.den.toNat * nR s ∧ 1000000 ^ s.den.toNat * nR s < hi ^ s.den.toNat * nL s ∧
        Below w.heap.size w wr ∧ wr.heap[w.heap.size + 1]? = some (.cells #[.int .i64 0, .int .i64 0] 53) ∧
        wr.heap[V.heap.size]? = some (.cells #[.int .i64 s.den, .string ⟨tl.toArray⟩, .string ⟨tr.toArray⟩] 275)) (fun a b _ => (intOf b - intOf a).toNat)
      case atStart => exact ⟨0, 128000001, rfl, rfl, by decide, by decide, by rw [Nat.zero_pow (den0 HDN.out.1), Nat.zero_mul]; exact Nat.zero_le _, HTP.out, by (repeat' (first | (with_reducible first | apply Zl1 | apply Zl2 | apply Zl3 | apply Zl4 | apply Zl5 | apply Zl6 | apply Zl7 | apply Zl8 | apply Zl9 | apply Zla | apply Zlb | apply Zlc) | (dsimp only; with_reducible first | apply Zl8 | apply Zl2 | apply Zld) | with_reducible assumption | omega | (dsimp only; omega))), obj_alloc _ HZ1.out, obj_new _ _⟩
      case round =>
        obtain ⟨lo, hi, rfl, rfl, hlh, hh, hlo, hhi, hB, ho1, ho2⟩ := hrel
        have hbs := hB.size
        have hw4 := obj_lt ho2
        have HO1 := Lib.hid ho1
        have HO2 := Lib.hid ho2
        have HLO := Lib.hid hlo
        have HHI := Lib.hid hhi
        obtain ⟨e0, e1, e2⟩ := cells3 ho2
        clear ho1 ho2 hlo hhi HTP
        by_cases hgt : 1 < (hi : Int) - (lo : Int)
        · obtain ⟨mid, hmid⟩ : ∃ m : Nat, ((lo : Int) + (hi : Int)) / 2 = (m : Int) := ⟨(lo + hi) / 2, by omega⟩
          have hm1 : lo < mid ∧ mid < hi := by omega
          by_cases hle : cR s mid ≤ 0
          · have HX := Lib.hid (cR_le hle)
            have HCV := Lib.hid (HCM.out mid)
            generalize cR s mid = cv at *
            go_wp2_with fail
            (with_reducible refine (HCV.out _ (by omega) (HT.out.of (by (repeat' (first | (with_reducible first | apply Zl1 | apply Zl2 | apply Zl3 | apply Zl4 | apply Zl5 | apply Zl6 | apply Zl7 | apply Zl8 | apply Zl9 | apply Zla | apply Zlb | apply Zlc) | (dsimp only; with_reducible first | apply Zl8 | apply Zl2 | apply Zld) | with_reducible assumption | omega | (dsimp only; omega)))))).mono ?_)
            rintro _ _ ⟨rfl, y, rfl⟩
            have hys := y.size_le
            dsimp only
            go_wp2_with fail
            go_roundw
            case rel => exact ⟨mid, hi, (by first | rfl | rw [hmid]), rfl, by omega, by omega, HX.out, HHI.out, by (repeat' (first | (with_reducible first | apply Zl1 | apply Zl2 | apply Zl3 | apply Zl4 | apply Zl5 | apply Zl6 | apply Zl7 | apply Zl8 | apply Zl9 | apply Zla | apply Zlb | apply Zlc) | (dsimp only; with_reducible first | apply Zl8 | apply Zl2 | apply Zld) | with_reducible assumption | omega | (dsimp only; omega))), obj_bel y HO1.out, obj_bel y HO2.out⟩
            case measure => simp only [intOf]; omega
          · have HX := Lib.hid (cR_gt hle)
            have HCV := Lib.hid (HCM.out mid)
            generalize cR s mid = cv at *
            go_wp2_with fail
            (with_reducible refine (HCV.out _ (by omega) (HT.out.of (by (repeat' (first | (with_reducible first | apply Zl1 | apply Zl2 | apply Zl3 | apply Zl4 | apply Zl5 | apply Zl6 | apply Zl7 | apply Zl8 | apply Zl9 | apply Zla | apply Zlb | apply Zlc) | (dsimp only; with_reducible first | apply Zl8 | apply Zl2 | apply Zld) | with_reducible assumption | omega | (dsimp only; omega)))))).mono ?_)
            rintro _ _ ⟨rfl, y, rfl⟩
            have hys := y.size_le
            dsimp only
            go_wp2_with fail
            go_roundw
            case rel => exact ⟨lo, mid, rfl, (by first | rfl | rw [hmid]), by omega, by omega, HLO.out, HX.out, by (repeat' (first | (with_reducible first | apply Zl1 | apply Zl2 | apply Zl3 | apply Zl4 | apply Zl5 | apply Zl6 | apply Zl7 | apply Zl8 | apply Zl9 | apply Zla | apply Zlb | apply Zlc) | (dsimp only; with_reducible first | apply Zl8 | apply Zl2 | apply Zld) | with_reducible assumption | omega | (dsimp only; omega))), obj_bel y HO1.out, obj_bel y HO2.out⟩
            case measure => simp only [intOf]; omega
        · have hl1 : hi = lo + 1 := by omega
          subst hl1
          obtain ⟨t0, t1⟩ : wr.frozen? ⟨w.heap.size + 1, 0, none⟩ = false ∧ wr.frozen? ⟨w.heap.size + 1, 1, none⟩ = false := ⟨(made_cell HO1.out 0).2, (made_cell HO1.out 1).2⟩
          obtain ⟨r0, r1⟩ := cell2 HO1.out
          by_cases heq : cR s lo = 0
          · have HBN := Lib.hid (show Bnd s lo lo from (Bnd.mkE (by omega) (cR_eq heq)))
            have HCV := Lib.hid (HCM.out lo)
            skip
            generalize cR s lo = cv at *
            clear HLO HHI HCM
            go_wp2_with fail
            (with_reducible refine (HCV.out _ (by omega) (HT.out.of (by (repeat' (first | (with_reducible first | apply Zl1 | apply Zl2 | apply Zl3 | apply Zl4 | apply Zl5 | apply Zl6 | apply Zl7 | apply Zl8 | apply Zl9 | apply Zla | apply Zlb | apply Zlc) | (dsimp only; with_reducible first | apply Zl8 | apply Zl2 | apply Zld) | with_reducible assumption | omega | (dsimp only; omega)))))).mono ?_)
            rintro _ _ ⟨rfl, y, rfl⟩
            have hys := y.size_le
            dsimp only
            go_wp2_with fail
            refine ret_obj (b := w.heap.size + 1) (vs := #[.int .i64 (lo : Int), .int .i64 ((lo : Nat) : Int)]) (T := 53) (v := .tuple #[.agg #[.int .i64 (lo : Int), .int .i64 ((lo : Nat) : Int)], .int .i64 0]) (obj_set (i := 1) _ (obj_set (i := 0) _ (obj_bel y HO1.out))) (fun W' hW' => ?_) rfl ?_
            · obtain ⟨a0, a1⟩ := cell2 hW'
              simp [results, Tryz.results96, go_sem, a0, a1]
            · exact RetR.yes HBN.out (by (repeat' (first | (with_reducible first | apply Zl1 | apply Zl2 | apply Zl3 | apply Zl4 | apply Zl5 | apply Zl6 | apply Zl7 | apply Zl8 | apply Zl9 | apply Zla | apply Zlb | apply Zlc) | (dsimp only; with_reducible first | apply Zl8 | apply Zl2 | apply Zld) | with_reducible assumption | omega | (dsimp only; omega))))
          · have HBN := Lib.hid (show Bnd s lo (lo + 1) from (Bnd.mkL (by omega) HLO.out HHI.out (fun h => heq (cR_of h))))
            have HCV := Lib.hid (HCM.out lo)
            (have en : (cR s lo == 0) = false := by rw [beq_eq_false_iff_ne]; exact heq)
            generalize cR s lo = cv at *
            clear HLO HHI HCM
            go_wp2_with fail
            (with_reducible refine (HCV.out _ (by omega) (HT.out.of (by (repeat' (first | (with_reducible first | apply Zl1 | apply Zl2 | apply Zl3 | apply Zl4 | apply Zl5 | apply Zl6 | apply Zl7 | apply Zl8 | apply Zl9 | apply Zla | apply Zlb | apply Zlc) | (dsimp only; with_reducible first | apply Zl8 | apply Zl2 | apply Zld) | with_reducible assumption | omega | (dsimp only; omega)))))).mono ?_)
            rintro _ _ ⟨rfl, y, rfl⟩
            have hys := y.size_le
            dsimp only
            go_wp2_with fail
            refine ret_obj (b := w.heap.size + 1) (vs := #[.int .i64 (lo : Int), .int .i64 (((lo + 1) : Nat) : Int)]) (T := 53) (v := .tuple #[.agg #[.int .i64 (lo : Int), .int .i64 (((lo + 1) : Nat) : Int)], .int .i64 0]) (obj_set (i := 1) _ (obj_set (i := 0) _ (obj_bel y HO1.out))) (fun W' hW' => ?_) rfl ?_
            · obtain ⟨a0, a1⟩ := cell2 hW'
              simp [results, Tryz.results96, go_sem, a0, a1]
            · exact RetR.yes HBN.out (by (repeat' (first | (with_reducible first | apply Zl1 | apply Zl2 | apply Zl3 | apply Zl4 | apply Zl5 | apply Zl6 | apply Zl7 | apply Zl8 | apply Zl9 | apply Zla | apply Zlb | apply Zlc) | (dsimp only; with_reducible first | apply Zl8 | apply Zl2 | apply Zld) | with_reducible assumption | omega | (dsimp only; omega))))
end Go.Proofs.YtehgeoipbgpocaaGreatDoor
