/- Sums, differences, products, quotients. -/
import Derived.Test.YtoncbkkhfblpdaaDoorC
namespace Go.Proofs.YtoncbkkhfblpdaaDoor
open Go.RowKit
attribute [local go_sem] Bel.cell Bel.frozen
attribute [local go_sem low] alloc_cell alloc_frozen

theorem right_spec {n d : Int} (h : right n d = true) : 1 ≤ d ∧ d ≤ 1000000 ∧ -1000000 ≤ n ∧ n ≤ 1000000 ∧ Int.gcd n d = 1 := by
  rw [right, decide_eq_true_iff] at h; exact h
theorem prod_bd {a b : Int} (h1 : -1000000 ≤ a) (h2 : a ≤ 1000000) (h3 : -1000000 ≤ b) (h4 : b ≤ 1000000) : -1000000000000 ≤ a * b ∧ a * b ≤ 1000000000000 := by
  have e := Int.natAbs_mul a b
  have h : a.natAbs * b.natAbs ≤ 1000000 * 1000000 := Nat.mul_le_mul (by omega) (by omega)
  omega

set_option maxHeartbeats 400000 in
theorem add_cl (n d m e : Int) (i j : Nat) (w : World) (r : right n d = true) (s : right m e = true)
    (h1 : w.cell? ⟨i, 0, none⟩ = some (.int .i64 n)) (h2 : w.cell? ⟨i, 0 + 1, none⟩ = some (.int .i64 d)) (h3 : w.cell? ⟨j, 0, none⟩ = some (.int .i64 m)) (h4 : w.cell? ⟨j, 0 + 1, none⟩ = some (.int .i64 e)) :
    Calls Tryd.prog 62 #[.pointer (some ⟨i, 0, none⟩), .pointer (some ⟨j, 0, none⟩)] w (Ret (.tuple #[.int .i64 (n * e + m * d), .int .i64 (d * e)]) w) := by
  obtain ⟨r1, r2, r3, r4, _⟩ := right_spec r
  obtain ⟨s1, s2, s3, s4, _⟩ := right_spec s
  clear r s
  have p1 := prod_bd r3 r4 (by omega : -1000000 ≤ e) s2
  have p2 := prod_bd s3 s4 (by omega : -1000000 ≤ d) r2
  have p3 := prod_bd (by omega : -1000000 ≤ d) r2 (by omega : -1000000 ≤ e) s2
  have p4 := prod_bd r3 r4 s3 s4
  have p5 := prod_bd (by omega : -1000000 ≤ d) r2 s3 s4
  go_enter Tryd.func62, Tryd.ntmps62
  go_wp2_with fail
  refine wp_region_bel (by kernel_rfl) (by kernel_rfl) ?_
  repeat (go_big_quiet_step (fail))
  refine wpQuiet_nil ?_
  rintro _ ⟨x1, rfl⟩
  go_wp2
  go_ret2
  exact Ret.mk rfl (by (repeat' (first | (with_reducible exact Below.refl _ _) | (with_reducible exact Nat.le_refl _) | (with_reducible refine Below.bel ?_ ?_) | (with_reducible refine Below.alloc ?_ ?_ _) | (with_reducible refine Below.drew ?_) | (with_reducible refine Below.drawsN ?_ _) | (with_reducible refine Below.setCell ?_ ?_ _) | (with_reducible refine le_bel ?_) | (with_reducible refine le_alloc ?_) | (with_reducible refine le_setCell ?_) | (with_reducible refine le_drew ?_) | (with_reducible refine le_drawsN ?_) | (dsimp only; with_reducible refine le_bel ?_) | (dsimp only; with_reducible refine Nat.le_refl _) | (dsimp only; with_reducible refine le_bel_add ?_) | (with_reducible assumption) | omega | (dsimp only; omega))))

set_option maxHeartbeats 400000 in
theorem sub_cl (n d m e : Int) (i j : Nat) (w : World) (r : right n d = true) (s : right m e = true)
    (h1 : w.cell? ⟨i, 0, none⟩ = some (.int .i64 n)) (h2 : w.cell? ⟨i, 0 + 1, none⟩ = some (.int .i64 d)) (h3 : w.cell? ⟨j, 0, none⟩ = some (.int .i64 m)) (h4 : w.cell? ⟨j, 0 + 1, none⟩ = some (.int .i64 e)) :
    Calls Tryd.prog 64 #[.pointer (some ⟨i, 0, none⟩), .pointer (some ⟨j, 0, none⟩)] w (Ret (.tuple #[.int .i64 (n * e - m * d), .int .i64 (d * e)]) w) := by
  obtain ⟨r1, r2, r3, r4, _⟩ := right_spec r
  obtain ⟨s1, s2, s3, s4, _⟩ := right_spec s
  clear r s
  have p1 := prod_bd r3 r4 (by omega : -1000000 ≤ e) s2
  have p2 := prod_bd s3 s4 (by omega : -1000000 ≤ d) r2
  have p3 := prod_bd (by omega : -1000000 ≤ d) r2 (by omega : -1000000 ≤ e) s2
  have p4 := prod_bd r3 r4 s3 s4
  have p5 := prod_bd (by omega : -1000000 ≤ d) r2 s3 s4
  go_enter Tryd.func64, Tryd.ntmps64
  go_wp2_with fail
  refine wp_region_bel (by kernel_rfl) (by kernel_rfl) ?_
  repeat (go_big_quiet_step (fail))
  refine wpQuiet_nil ?_
  rintro _ ⟨x1, rfl⟩
  go_wp2
  go_ret2
  exact Ret.mk rfl (by (repeat' (first | (with_reducible exact Below.refl _ _) | (with_reducible exact Nat.le_refl _) | (with_reducible refine Below.bel ?_ ?_) | (with_reducible refine Below.alloc ?_ ?_ _) | (with_reducible refine Below.drew ?_) | (with_reducible refine Below.drawsN ?_ _) | (with_reducible refine Below.setCell ?_ ?_ _) | (with_reducible refine le_bel ?_) | (with_reducible refine le_alloc ?_) | (with_reducible refine le_setCell ?_) | (with_reducible refine le_drew ?_) | (with_reducible refine le_drawsN ?_) | (dsimp only; with_reducible refine le_bel ?_) | (dsimp only; with_reducible refine Nat.le_refl _) | (dsimp only; with_reducible refine le_bel_add ?_) | (with_reducible assumption) | omega | (dsimp only; omega))))

set_option maxHeartbeats 400000 in
theorem mul_cl (n d m e : Int) (i j : Nat) (w : World) (r : right n d = true) (s : right m e = true)
    (h1 : w.cell? ⟨i, 0, none⟩ = some (.int .i64 n)) (h2 : w.cell? ⟨i, 0 + 1, none⟩ = some (.int .i64 d)) (h3 : w.cell? ⟨j, 0, none⟩ = some (.int .i64 m)) (h4 : w.cell? ⟨j, 0 + 1, none⟩ = some (.int .i64 e)) :
    Calls Tryd.prog 63 #[.pointer (some ⟨i, 0, none⟩), .pointer (some ⟨j, 0, none⟩)] w (Ret (.tuple #[.int .i64 (n * m), .int .i64 (d * e)]) w) := by
  obtain ⟨r1, r2, r3, r4, _⟩ := right_spec r
  obtain ⟨s1, s2, s3, s4, _⟩ := right_spec s
  clear r s
  have p1 := prod_bd r3 r4 (by omega : -1000000 ≤ e) s2
  have p2 := prod_bd s3 s4 (by omega : -1000000 ≤ d) r2
  have p3 := prod_bd (by omega : -1000000 ≤ d) r2 (by omega : -1000000 ≤ e) s2
  have p4 := prod_bd r3 r4 s3 s4
  have p5 := prod_bd (by omega : -1000000 ≤ d) r2 s3 s4
  go_enter Tryd.func63, Tryd.ntmps63
  go_wp2_with fail
  refine wp_region_bel (by kernel_rfl) (by kernel_rfl) ?_
  repeat (go_big_quiet_step (fail))
  refine wpQuiet_nil ?_
  rintro _ ⟨x1, rfl⟩
  go_wp2
  go_ret2
  exact Ret.mk rfl (by (repeat' (first | (with_reducible exact Below.refl _ _) | (with_reducible exact Nat.le_refl _) | (with_reducible refine Below.bel ?_ ?_) | (with_reducible refine Below.alloc ?_ ?_ _) | (with_reducible refine Below.drew ?_) | (with_reducible refine Below.drawsN ?_ _) | (with_reducible refine Below.setCell ?_ ?_ _) | (with_reducible refine le_bel ?_) | (with_reducible refine le_alloc ?_) | (with_reducible refine le_setCell ?_) | (with_reducible refine le_drew ?_) | (with_reducible refine le_drawsN ?_) | (dsimp only; with_reducible refine le_bel ?_) | (dsimp only; with_reducible refine Nat.le_refl _) | (dsimp only; with_reducible refine le_bel_add ?_) | (with_reducible assumption) | omega | (dsimp only; omega))))

set_option maxHeartbeats 400000 in
theorem div_cl (n d m e : Int) (i j : Nat) (w : World) (r : right n d = true) (s : right m e = true)
    (h1 : w.cell? ⟨i, 0, none⟩ = some (.int .i64 n)) (h2 : w.cell? ⟨i, 0 + 1, none⟩ = some (.int .i64 d)) (h3 : w.cell? ⟨j, 0, none⟩ = some (.int .i64 m)) (h4 : w.cell? ⟨j, 0 + 1, none⟩ = some (.int .i64 e)) :
    Calls Tryd.prog 65 #[.pointer (some ⟨i, 0, none⟩), .pointer (some ⟨j, 0, none⟩)] w (Ret (.tuple #[.int .i64 (n * e), .int .i64 (d * m)]) w) := by
  obtain ⟨r1, r2, r3, r4, _⟩ := right_spec r
  obtain ⟨s1, s2, s3, s4, _⟩ := right_spec s
  clear r s
  have p1 := prod_bd r3 r4 (by omega : -1000000 ≤ e) s2
  have p2 := prod_bd s3 s4 (by omega : -1000000 ≤ d) r2
  have p3 := prod_bd (by omega : -1000000 ≤ d) r2 (by omega : -1000000 ≤ e) s2
  have p4 := prod_bd r3 r4 s3 s4
  have p5 := prod_bd (by omega : -1000000 ≤ d) r2 s3 s4
  go_enter Tryd.func65, Tryd.ntmps65
  go_wp2_with fail
  refine wp_region_bel (by kernel_rfl) (by kernel_rfl) ?_
  repeat (go_big_quiet_step (fail))
  refine wpQuiet_nil ?_
  rintro _ ⟨x1, rfl⟩
  go_wp2
  go_ret2
  exact Ret.mk rfl (by (repeat' (first | (with_reducible exact Below.refl _ _) | (with_reducible exact Nat.le_refl _) | (with_reducible refine Below.bel ?_ ?_) | (with_reducible refine Below.alloc ?_ ?_ _) | (with_reducible refine Below.drew ?_) | (with_reducible refine Below.drawsN ?_ _) | (with_reducible refine Below.setCell ?_ ?_ _) | (with_reducible refine le_bel ?_) | (with_reducible refine le_alloc ?_) | (with_reducible refine le_setCell ?_) | (with_reducible refine le_drew ?_) | (with_reducible refine le_drawsN ?_) | (dsimp only; with_reducible refine le_bel ?_) | (dsimp only; with_reducible refine Nat.le_refl _) | (dsimp only; with_reducible refine le_bel_add ?_) | (with_reducible assumption) | omega | (dsimp only; omega))))

theorem max_ok {n d m e : Int} (h1 : right n d = true) (h2 : right m e = true) : max (chk n d) (chk m e) = 0 := by rw [chk_ok h1, chk_ok h2]; rfl
theorem max_no {n d m e : Int} (h : right n d = false ∨ right m e = false) : max (chk n d) (chk m e) = 2 := by
  unfold chk
  rcases h with h | h <;> rw [h] <;> cases right _ _ <;> rfl

set_option maxHeartbeats 800000 in
theorem lowest_ok (c : Nat) (p q : Value) (n d m e N D : Int) (w : World) (h1 : right n d = true) (h2 : right m e = true)
    (b1 : -9223372036854775808 ≤ N) (b2 : N ≤ 9223372036854775807) (b3 : -9223372036854775808 ≤ D) (b4 : D ≤ 9223372036854775807)
    (hcf : ∀ v : World, Sem.run Tryd.prog (callFunc c #[p, q]) v = .ok (.enter c #[p, q]) v)
    (hcl : ∀ x : Bel w, Calls Tryd.prog c #[p, q] x.w (Ret (.tuple #[.int .i64 N, .int .i64 D]) x.w)) :
    Calls Tryd.prog 61 #[.agg #[.int .i64 n, .int .i64 d], .agg #[.int .i64 m, .int .i64 e], .func (.func c) #[] #[p, q]] w (Ret (.tuple #[.agg #[.int .i64 (mk1 N D), .int .i64 (mk2 N D)], .int .i64 (mk3 N D)]) w) := by
  have H := Lib.hid (max_ok h1 h2)
  have HC := Lib.hid hcl
  clear h1 h2 hcl
  go_enter Tryd.func61, Tryd.ntmps61
  go_wp2_with fail
  (with_reducible refine (both_any _ _ _ _ _).mono ?_)
  rintro _ _ ⟨rfl, x1, rfl⟩
  rw [H.out]
  go_wp2_with fail
  have hc := HC.out ⟨x1.w, by (repeat' (first | (with_reducible exact Below.refl _ _) | (with_reducible exact Nat.le_refl _) | (with_reducible refine Below.bel ?_ ?_) | (with_reducible refine Below.alloc ?_ ?_ _) | (with_reducible refine Below.drew ?_) | (with_reducible refine Below.drawsN ?_ _) | (with_reducible refine Below.setCell ?_ ?_ _) | (with_reducible refine le_bel ?_) | (with_reducible refine le_alloc ?_) | (with_reducible refine le_setCell ?_) | (with_reducible refine le_drew ?_) | (with_reducible refine le_drawsN ?_) | (dsimp only; with_reducible refine le_bel ?_) | (dsimp only; with_reducible refine Nat.le_refl _) | (dsimp only; with_reducible refine le_bel_add ?_) | (with_reducible assumption) | omega | (dsimp only; omega)))⟩
  dsimp only at hc
  (with_reducible refine hc.mono ?_)
  clear hc
  rintro _ _ ⟨rfl, x2, rfl⟩
  go_wp2_with fail
  (with_reducible refine (make_val _ _ _ b1 b2 b3 b4).mono ?_)
  rintro _ _ ⟨rfl, x3, rfl⟩
  generalize mk1 N D = a1 at *
  generalize mk2 N D = a2 at *
  generalize mk3 N D = a3 at *
  go_wp2
  refine bodyPost_ret (v := .tuple #[.agg #[.int .i64 a1, .int .i64 a2], .int .i64 a3]) (by simp [results, Tryd.results61, go_sem]) rfl (Ret.mk (by rfl) (by (repeat' (first | (with_reducible exact Below.refl _ _) | (with_reducible exact Nat.le_refl _) | (with_reducible refine Below.bel ?_ ?_) | (with_reducible refine Below.alloc ?_ ?_ _) | (with_reducible refine Below.drew ?_) | (with_reducible refine Below.drawsN ?_ _) | (with_reducible refine Below.setCell ?_ ?_ _) | (with_reducible refine le_bel ?_) | (with_reducible refine le_alloc ?_) | (with_reducible refine le_setCell ?_) | (with_reducible refine le_drew ?_) | (with_reducible refine le_drawsN ?_) | (dsimp only; with_reducible refine le_bel ?_) | (dsimp only; with_reducible refine Nat.le_refl _) | (dsimp only; with_reducible refine le_bel_add ?_) | (with_reducible assumption) | omega | (dsimp only; omega)))))

set_option maxHeartbeats 800000 in
theorem lowest_no (c : Nat) (p q : Value) (n d m e : Int) (w : World) (h : right n d = false ∨ right m e = false) :
    Calls Tryd.prog 61 #[.agg #[.int .i64 n, .int .i64 d], .agg #[.int .i64 m, .int .i64 e], .func (.func c) #[] #[p, q]] w (Ret (.tuple #[.agg #[.int .i64 0, .int .i64 0], .int .i64 2]) w) := by
  have H := Lib.hid (max_no h)
  clear h
  go_enter Tryd.func61, Tryd.ntmps61
  go_wp2_with fail
  (with_reducible refine (both_any _ _ _ _ _).mono ?_)
  rintro _ _ ⟨rfl, x1, rfl⟩
  rw [H.out]
  go_wp2
  refine bodyPost_ret (v := .tuple #[.agg #[.int .i64 0, .int .i64 0], .int .i64 2]) (by simp [results, Tryd.results61, go_sem]) rfl (Ret.mk (by rfl) (by (repeat' (first | (with_reducible exact Below.refl _ _) | (with_reducible exact Nat.le_refl _) | (with_reducible refine Below.bel ?_ ?_) | (with_reducible refine Below.alloc ?_ ?_ _) | (with_reducible refine Below.drew ?_) | (with_reducible refine Below.drawsN ?_ _) | (with_reducible refine Below.setCell ?_ ?_ _) | (with_reducible refine le_bel ?_) | (with_reducible refine le_alloc ?_) | (with_reducible refine le_setCell ?_) | (with_reducible refine le_drew ?_) | (with_reducible refine le_drawsN ?_) | (dsimp only; with_reducible refine le_bel ?_) | (dsimp only; with_reducible refine Nat.le_refl _) | (dsimp only; with_reducible refine le_bel_add ?_) | (with_reducible assumption) | omega | (dsimp only; omega)))))

theorem refboth_any (n d m e : Int) (w : World) :
    Calls Tryd.prog 67 #[.agg #[.int .i64 n, .int .i64 d], .agg #[.int .i64 m, .int .i64 e]] w (Ret (.int .i64 (max (chk n d) (chk m e))) w) := by
  cases h1 : right n d
  · have H1 := Lib.hid h1
    have HM := Lib.hid (max_no (.inl h1 : right n d = false ∨ right m e = false))
    clear h1
    go_enter Tryd.func67, Tryd.ntmps67
    go_wp2_with fail
    (with_reducible refine (right_any _ _ _).mono ?_)
    rintro _ _ ⟨rfl, x1, rfl⟩
    rw [H1.out]
    go_wp2_with fail
    all_goals go_wp2
    go_ret
    exact Ret.mk (by exact val_i64 HM.out.symm) (by (repeat' (first | (with_reducible exact Below.refl _ _) | (with_reducible exact Nat.le_refl _) | (with_reducible refine Below.bel ?_ ?_) | (with_reducible refine Below.alloc ?_ ?_ _) | (with_reducible refine Below.drew ?_) | (with_reducible refine Below.drawsN ?_ _) | (with_reducible refine Below.setCell ?_ ?_ _) | (with_reducible refine le_bel ?_) | (with_reducible refine le_alloc ?_) | (with_reducible refine le_setCell ?_) | (with_reducible refine le_drew ?_) | (with_reducible refine le_drawsN ?_) | (dsimp only; with_reducible refine le_bel ?_) | (dsimp only; with_reducible refine Nat.le_refl _) | (dsimp only; with_reducible refine le_bel_add ?_) | (with_reducible assumption) | omega | (dsimp only; omega))))
  · cases h2 : right m e
    · have H1 := Lib.hid h1
      have H2 := Lib.hid h2
      have HM := Lib.hid (max_no (.inr h2 : right n d = false ∨ right m e = false))
      clear h1 h2
      go_enter Tryd.func67, Tryd.ntmps67
      go_wp2_with fail
      (with_reducible refine (right_any _ _ _).mono ?_)
      rintro _ _ ⟨rfl, x1, rfl⟩
      rw [H1.out]
      go_wp2_with fail
      (with_reducible refine (right_any _ _ _).mono ?_)
      rintro _ _ ⟨rfl, x2, rfl⟩
      rw [H2.out]
      go_wp2
      go_ret
      exact Ret.mk (by exact val_i64 HM.out.symm) (by (repeat' (first | (with_reducible exact Below.refl _ _) | (with_reducible exact Nat.le_refl _) | (with_reducible refine Below.bel ?_ ?_) | (with_reducible refine Below.alloc ?_ ?_ _) | (with_reducible refine Below.drew ?_) | (with_reducible refine Below.drawsN ?_ _) | (with_reducible refine Below.setCell ?_ ?_ _) | (with_reducible refine le_bel ?_) | (with_reducible refine le_alloc ?_) | (with_reducible refine le_setCell ?_) | (with_reducible refine le_drew ?_) | (with_reducible refine le_drawsN ?_) | (dsimp only; with_reducible refine le_bel ?_) | (dsimp only; with_reducible refine Nat.le_refl _) | (dsimp only; with_reducible refine le_bel_add ?_) | (with_reducible assumption) | omega | (dsimp only; omega))))
    · have H1 := Lib.hid h1
      have H2 := Lib.hid h2
      have HM := Lib.hid (max_ok h1 h2)
      clear h1 h2
      go_enter Tryd.func67, Tryd.ntmps67
      go_wp2_with fail
      (with_reducible refine (right_any _ _ _).mono ?_)
      rintro _ _ ⟨rfl, x1, rfl⟩
      rw [H1.out]
      go_wp2_with fail
      (with_reducible refine (right_any _ _ _).mono ?_)
      rintro _ _ ⟨rfl, x2, rfl⟩
      rw [H2.out]
      go_wp2
      go_ret
      exact Ret.mk (by exact val_i64 HM.out.symm) (by (repeat' (first | (with_reducible exact Below.refl _ _) | (with_reducible exact Nat.le_refl _) | (with_reducible refine Below.bel ?_ ?_) | (with_reducible refine Below.alloc ?_ ?_ _) | (with_reducible refine Below.drew ?_) | (with_reducible refine Below.drawsN ?_ _) | (with_reducible refine Below.setCell ?_ ?_ _) | (with_reducible refine le_bel ?_) | (with_reducible refine le_alloc ?_) | (with_reducible refine le_setCell ?_) | (with_reducible refine le_drew ?_) | (with_reducible refine le_drawsN ?_) | (dsimp only; with_reducible refine le_bel ?_) | (dsimp only; with_reducible refine Nat.le_refl _) | (dsimp only; with_reducible refine le_bel_add ?_) | (with_reducible assumption) | omega | (dsimp only; omega))))

theorem add_bd {n d m e : Int} (r : right n d = true) (s : right m e = true) : -9223372036854775808 ≤ n * e + m * d ∧ n * e + m * d ≤ 9223372036854775807 ∧ -9223372036854775808 ≤ d * e ∧ d * e ≤ 9223372036854775807 := by
  obtain ⟨r1, r2, r3, r4, _⟩ := right_spec r
  obtain ⟨s1, s2, s3, s4, _⟩ := right_spec s
  have p1 := prod_bd r3 r4 (by omega : -1000000 ≤ e) s2
  have p2 := prod_bd s3 s4 (by omega : -1000000 ≤ d) r2
  have p3 := prod_bd (by omega : -1000000 ≤ d) r2 (by omega : -1000000 ≤ e) s2
  have p4 := prod_bd r3 r4 s3 s4
  have p5 := prod_bd (by omega : -1000000 ≤ d) r2 s3 s4
  omega
set_option maxHeartbeats 800000 in
theorem add_any (n d m e : Int) (w : World) (h1 : right n d = true) (h2 : right m e = true) :
    Calls Tryd.prog 39 #[.agg #[.int .i64 n, .int .i64 d], .agg #[.int .i64 m, .int .i64 e]] w (Ret (.tuple #[.agg #[.int .i64 (mk1 (n * e + m * d) (d * e)), .int .i64 (mk2 (n * e + m * d) (d * e))], .int .i64 (mk3 (n * e + m * d) (d * e))]) w) := by
  have H1 := Lib.hid h1
  have H2 := Lib.hid h2
  have HB := Lib.hid (add_bd h1 h2)
  clear h1 h2
  go_enter Tryd.func39, Tryd.ntmps39
  go_wp2_with fail
  (with_reducible refine (lowest_ok 62 _ _ _ _ _ _ (n * e + m * d) (d * e) _ H1.out H2.out HB.out.1 HB.out.2.1 HB.out.2.2.1 HB.out.2.2.2 (fun v => by kernel_rfl) (fun x => add_cl n d m e _ _ _ H1.out H2.out (by simp [go_sem]) (by simp [go_sem]) (by simp [go_sem]) (by simp [go_sem]))).mono ?_)
  rintro _ _ ⟨rfl, x1, rfl⟩
  generalize mk1 (n * e + m * d) (d * e) = a1 at *
  generalize mk2 (n * e + m * d) (d * e) = a2 at *
  generalize mk3 (n * e + m * d) (d * e) = a3 at *
  go_wp2
  refine bodyPost_ret (v := .tuple #[.agg #[.int .i64 a1, .int .i64 a2], .int .i64 a3]) (by simp [results, Tryd.results39, go_sem]) rfl (Ret.mk (by rfl) (by (repeat' (first | (with_reducible exact Below.refl _ _) | (with_reducible exact Nat.le_refl _) | (with_reducible refine Below.bel ?_ ?_) | (with_reducible refine Below.alloc ?_ ?_ _) | (with_reducible refine Below.drew ?_) | (with_reducible refine Below.drawsN ?_ _) | (with_reducible refine Below.setCell ?_ ?_ _) | (with_reducible refine le_bel ?_) | (with_reducible refine le_alloc ?_) | (with_reducible refine le_setCell ?_) | (with_reducible refine le_drew ?_) | (with_reducible refine le_drawsN ?_) | (dsimp only; with_reducible refine le_bel ?_) | (dsimp only; with_reducible refine Nat.le_refl _) | (dsimp only; with_reducible refine le_bel_add ?_) | (with_reducible assumption) | omega | (dsimp only; omega)))))
set_option maxHeartbeats 800000 in
theorem add_no (n d m e : Int) (w : World) (h : right n d = false ∨ right m e = false) :
    Calls Tryd.prog 39 #[.agg #[.int .i64 n, .int .i64 d], .agg #[.int .i64 m, .int .i64 e]] w (Ret (.tuple #[.agg #[.int .i64 0, .int .i64 0], .int .i64 2]) w) := by
  have H := Lib.hid h
  clear h
  go_enter Tryd.func39, Tryd.ntmps39
  go_wp2_with fail
  (with_reducible refine (lowest_no _ _ _ _ _ _ _ _ H.out).mono ?_)
  rintro _ _ ⟨rfl, x1, rfl⟩
  go_wp2
  refine bodyPost_ret (v := .tuple #[.agg #[.int .i64 0, .int .i64 0], .int .i64 2]) (by simp [results, Tryd.results39, go_sem]) rfl (Ret.mk (by rfl) (by (repeat' (first | (with_reducible exact Below.refl _ _) | (with_reducible exact Nat.le_refl _) | (with_reducible refine Below.bel ?_ ?_) | (with_reducible refine Below.alloc ?_ ?_ _) | (with_reducible refine Below.drew ?_) | (with_reducible refine Below.drawsN ?_ _) | (with_reducible refine Below.setCell ?_ ?_ _) | (with_reducible refine le_bel ?_) | (with_reducible refine le_alloc ?_) | (with_reducible refine le_setCell ?_) | (with_reducible refine le_drew ?_) | (with_reducible refine le_drawsN ?_) | (dsimp only; with_reducible refine le_bel ?_) | (dsimp only; with_reducible refine Nat.le_refl _) | (dsimp only; with_reducible refine le_bel_add ?_) | (with_reducible assumption) | omega | (dsimp only; omega)))))
set_option maxHeartbeats 800000 in
theorem refadd_any (n d m e : Int) (w : World) (h1 : right n d = true) (h2 : right m e = true) :
    Calls Tryd.prog 47 #[.agg #[.int .i64 n, .int .i64 d], .agg #[.int .i64 m, .int .i64 e]] w (Ret (.tuple #[.agg #[.int .i64 (mk1 (n * e + m * d) (d * e)), .int .i64 (mk2 (n * e + m * d) (d * e))], .int .i64 (mk3 (n * e + m * d) (d * e))]) w) := by
  have HB := Lib.hid (add_bd h1 h2)
  have H := Lib.hid (max_ok h1 h2)
  obtain ⟨r1, r2, r3, r4, _⟩ := right_spec h1
  obtain ⟨s1, s2, s3, s4, _⟩ := right_spec h2
  clear h1 h2
  have p1 := prod_bd r3 r4 (by omega : -1000000 ≤ e) s2
  have p2 := prod_bd s3 s4 (by omega : -1000000 ≤ d) r2
  have p3 := prod_bd (by omega : -1000000 ≤ d) r2 (by omega : -1000000 ≤ e) s2
  have p4 := prod_bd r3 r4 s3 s4
  have p5 := prod_bd (by omega : -1000000 ≤ d) r2 s3 s4
  go_enter Tryd.func47, Tryd.ntmps47
  go_wp2_with fail
  (with_reducible refine (refboth_any _ _ _ _ _).mono ?_)
  rintro _ _ ⟨rfl, x1, rfl⟩
  rw [H.out]
  go_wp2_with fail
  (with_reducible refine (refmake_any (n * e + m * d) (d * e) _ HB.out.1 HB.out.2.1 HB.out.2.2.1 HB.out.2.2.2).mono ?_)
  rintro _ _ ⟨rfl, x2, rfl⟩
  generalize mk1 (n * e + m * d) (d * e) = a1 at *
  generalize mk2 (n * e + m * d) (d * e) = a2 at *
  generalize mk3 (n * e + m * d) (d * e) = a3 at *
  go_wp2
  refine bodyPost_ret (v := .tuple #[.agg #[.int .i64 a1, .int .i64 a2], .int .i64 a3]) (by simp [results, Tryd.results47, go_sem]) rfl (Ret.mk (by rfl) (by (repeat' (first | (with_reducible exact Below.refl _ _) | (with_reducible exact Nat.le_refl _) | (with_reducible refine Below.bel ?_ ?_) | (with_reducible refine Below.alloc ?_ ?_ _) | (with_reducible refine Below.drew ?_) | (with_reducible refine Below.drawsN ?_ _) | (with_reducible refine Below.setCell ?_ ?_ _) | (with_reducible refine le_bel ?_) | (with_reducible refine le_alloc ?_) | (with_reducible refine le_setCell ?_) | (with_reducible refine le_drew ?_) | (with_reducible refine le_drawsN ?_) | (dsimp only; with_reducible refine le_bel ?_) | (dsimp only; with_reducible refine Nat.le_refl _) | (dsimp only; with_reducible refine le_bel_add ?_) | (with_reducible assumption) | omega | (dsimp only; omega)))))

theorem sub_bd {n d m e : Int} (r : right n d = true) (s : right m e = true) : -9223372036854775808 ≤ n * e - m * d ∧ n * e - m * d ≤ 9223372036854775807 ∧ -9223372036854775808 ≤ d * e ∧ d * e ≤ 9223372036854775807 := by
  obtain ⟨r1, r2, r3, r4, _⟩ := right_spec r
  obtain ⟨s1, s2, s3, s4, _⟩ := right_spec s
  have p1 := prod_bd r3 r4 (by omega : -1000000 ≤ e) s2
  have p2 := prod_bd s3 s4 (by omega : -1000000 ≤ d) r2
  have p3 := prod_bd (by omega : -1000000 ≤ d) r2 (by omega : -1000000 ≤ e) s2
  have p4 := prod_bd r3 r4 s3 s4
  have p5 := prod_bd (by omega : -1000000 ≤ d) r2 s3 s4
  omega
set_option maxHeartbeats 800000 in
theorem sub_any (n d m e : Int) (w : World) (h1 : right n d = true) (h2 : right m e = true) :
    Calls Tryd.prog 41 #[.agg #[.int .i64 n, .int .i64 d], .agg #[.int .i64 m, .int .i64 e]] w (Ret (.tuple #[.agg #[.int .i64 (mk1 (n * e - m * d) (d * e)), .int .i64 (mk2 (n * e - m * d) (d * e))], .int .i64 (mk3 (n * e - m * d) (d * e))]) w) := by
  have H1 := Lib.hid h1
  have H2 := Lib.hid h2
  have HB := Lib.hid (sub_bd h1 h2)
  clear h1 h2
  go_enter Tryd.func41, Tryd.ntmps41
  go_wp2_with fail
  (with_reducible refine (lowest_ok 64 _ _ _ _ _ _ (n * e - m * d) (d * e) _ H1.out H2.out HB.out.1 HB.out.2.1 HB.out.2.2.1 HB.out.2.2.2 (fun v => by kernel_rfl) (fun x => sub_cl n d m e _ _ _ H1.out H2.out (by simp [go_sem]) (by simp [go_sem]) (by simp [go_sem]) (by simp [go_sem]))).mono ?_)
  rintro _ _ ⟨rfl, x1, rfl⟩
  generalize mk1 (n * e - m * d) (d * e) = a1 at *
  generalize mk2 (n * e - m * d) (d * e) = a2 at *
  generalize mk3 (n * e - m * d) (d * e) = a3 at *
  go_wp2
  refine bodyPost_ret (v := .tuple #[.agg #[.int .i64 a1, .int .i64 a2], .int .i64 a3]) (by simp [results, Tryd.results41, go_sem]) rfl (Ret.mk (by rfl) (by (repeat' (first | (with_reducible exact Below.refl _ _) | (with_reducible exact Nat.le_refl _) | (with_reducible refine Below.bel ?_ ?_) | (with_reducible refine Below.alloc ?_ ?_ _) | (with_reducible refine Below.drew ?_) | (with_reducible refine Below.drawsN ?_ _) | (with_reducible refine Below.setCell ?_ ?_ _) | (with_reducible refine le_bel ?_) | (with_reducible refine le_alloc ?_) | (with_reducible refine le_setCell ?_) | (with_reducible refine le_drew ?_) | (with_reducible refine le_drawsN ?_) | (dsimp only; with_reducible refine le_bel ?_) | (dsimp only; with_reducible refine Nat.le_refl _) | (dsimp only; with_reducible refine le_bel_add ?_) | (with_reducible assumption) | omega | (dsimp only; omega)))))
set_option maxHeartbeats 800000 in
theorem sub_no (n d m e : Int) (w : World) (h : right n d = false ∨ right m e = false) :
    Calls Tryd.prog 41 #[.agg #[.int .i64 n, .int .i64 d], .agg #[.int .i64 m, .int .i64 e]] w (Ret (.tuple #[.agg #[.int .i64 0, .int .i64 0], .int .i64 2]) w) := by
  have H := Lib.hid h
  clear h
  go_enter Tryd.func41, Tryd.ntmps41
  go_wp2_with fail
  (with_reducible refine (lowest_no _ _ _ _ _ _ _ _ H.out).mono ?_)
  rintro _ _ ⟨rfl, x1, rfl⟩
  go_wp2
  refine bodyPost_ret (v := .tuple #[.agg #[.int .i64 0, .int .i64 0], .int .i64 2]) (by simp [results, Tryd.results41, go_sem]) rfl (Ret.mk (by rfl) (by (repeat' (first | (with_reducible exact Below.refl _ _) | (with_reducible exact Nat.le_refl _) | (with_reducible refine Below.bel ?_ ?_) | (with_reducible refine Below.alloc ?_ ?_ _) | (with_reducible refine Below.drew ?_) | (with_reducible refine Below.drawsN ?_ _) | (with_reducible refine Below.setCell ?_ ?_ _) | (with_reducible refine le_bel ?_) | (with_reducible refine le_alloc ?_) | (with_reducible refine le_setCell ?_) | (with_reducible refine le_drew ?_) | (with_reducible refine le_drawsN ?_) | (dsimp only; with_reducible refine le_bel ?_) | (dsimp only; with_reducible refine Nat.le_refl _) | (dsimp only; with_reducible refine le_bel_add ?_) | (with_reducible assumption) | omega | (dsimp only; omega)))))
set_option maxHeartbeats 800000 in
theorem refsub_any (n d m e : Int) (w : World) (h1 : right n d = true) (h2 : right m e = true) :
    Calls Tryd.prog 48 #[.agg #[.int .i64 n, .int .i64 d], .agg #[.int .i64 m, .int .i64 e]] w (Ret (.tuple #[.agg #[.int .i64 (mk1 (n * e - m * d) (d * e)), .int .i64 (mk2 (n * e - m * d) (d * e))], .int .i64 (mk3 (n * e - m * d) (d * e))]) w) := by
  have HB := Lib.hid (sub_bd h1 h2)
  have H := Lib.hid (max_ok h1 h2)
  obtain ⟨r1, r2, r3, r4, _⟩ := right_spec h1
  obtain ⟨s1, s2, s3, s4, _⟩ := right_spec h2
  clear h1 h2
  have p1 := prod_bd r3 r4 (by omega : -1000000 ≤ e) s2
  have p2 := prod_bd s3 s4 (by omega : -1000000 ≤ d) r2
  have p3 := prod_bd (by omega : -1000000 ≤ d) r2 (by omega : -1000000 ≤ e) s2
  have p4 := prod_bd r3 r4 s3 s4
  have p5 := prod_bd (by omega : -1000000 ≤ d) r2 s3 s4
  go_enter Tryd.func48, Tryd.ntmps48
  go_wp2_with fail
  (with_reducible refine (refboth_any _ _ _ _ _).mono ?_)
  rintro _ _ ⟨rfl, x1, rfl⟩
  rw [H.out]
  go_wp2_with fail
  (with_reducible refine (refmake_any (n * e - m * d) (d * e) _ HB.out.1 HB.out.2.1 HB.out.2.2.1 HB.out.2.2.2).mono ?_)
  rintro _ _ ⟨rfl, x2, rfl⟩
  generalize mk1 (n * e - m * d) (d * e) = a1 at *
  generalize mk2 (n * e - m * d) (d * e) = a2 at *
  generalize mk3 (n * e - m * d) (d * e) = a3 at *
  go_wp2
  refine bodyPost_ret (v := .tuple #[.agg #[.int .i64 a1, .int .i64 a2], .int .i64 a3]) (by simp [results, Tryd.results48, go_sem]) rfl (Ret.mk (by rfl) (by (repeat' (first | (with_reducible exact Below.refl _ _) | (with_reducible exact Nat.le_refl _) | (with_reducible refine Below.bel ?_ ?_) | (with_reducible refine Below.alloc ?_ ?_ _) | (with_reducible refine Below.drew ?_) | (with_reducible refine Below.drawsN ?_ _) | (with_reducible refine Below.setCell ?_ ?_ _) | (with_reducible refine le_bel ?_) | (with_reducible refine le_alloc ?_) | (with_reducible refine le_setCell ?_) | (with_reducible refine le_drew ?_) | (with_reducible refine le_drawsN ?_) | (dsimp only; with_reducible refine le_bel ?_) | (dsimp only; with_reducible refine Nat.le_refl _) | (dsimp only; with_reducible refine le_bel_add ?_) | (with_reducible assumption) | omega | (dsimp only; omega)))))

theorem mul_bd {n d m e : Int} (r : right n d = true) (s : right m e = true) : -9223372036854775808 ≤ n * m ∧ n * m ≤ 9223372036854775807 ∧ -9223372036854775808 ≤ d * e ∧ d * e ≤ 9223372036854775807 := by
  obtain ⟨r1, r2, r3, r4, _⟩ := right_spec r
  obtain ⟨s1, s2, s3, s4, _⟩ := right_spec s
  have p1 := prod_bd r3 r4 (by omega : -1000000 ≤ e) s2
  have p2 := prod_bd s3 s4 (by omega : -1000000 ≤ d) r2
  have p3 := prod_bd (by omega : -1000000 ≤ d) r2 (by omega : -1000000 ≤ e) s2
  have p4 := prod_bd r3 r4 s3 s4
  have p5 := prod_bd (by omega : -1000000 ≤ d) r2 s3 s4
  omega
set_option maxHeartbeats 800000 in
theorem mul_any (n d m e : Int) (w : World) (h1 : right n d = true) (h2 : right m e = true) :
    Calls Tryd.prog 40 #[.agg #[.int .i64 n, .int .i64 d], .agg #[.int .i64 m, .int .i64 e]] w (Ret (.tuple #[.agg #[.int .i64 (mk1 (n * m) (d * e)), .int .i64 (mk2 (n * m) (d * e))], .int .i64 (mk3 (n * m) (d * e))]) w) := by
  have H1 := Lib.hid h1
  have H2 := Lib.hid h2
  have HB := Lib.hid (mul_bd h1 h2)
  clear h1 h2
  go_enter Tryd.func40, Tryd.ntmps40
  go_wp2_with fail
  (with_reducible refine (lowest_ok 63 _ _ _ _ _ _ (n * m) (d * e) _ H1.out H2.out HB.out.1 HB.out.2.1 HB.out.2.2.1 HB.out.2.2.2 (fun v => by kernel_rfl) (fun x => mul_cl n d m e _ _ _ H1.out H2.out (by simp [go_sem]) (by simp [go_sem]) (by simp [go_sem]) (by simp [go_sem]))).mono ?_)
  rintro _ _ ⟨rfl, x1, rfl⟩
  generalize mk1 (n * m) (d * e) = a1 at *
  generalize mk2 (n * m) (d * e) = a2 at *
  generalize mk3 (n * m) (d * e) = a3 at *
  go_wp2
  refine bodyPost_ret (v := .tuple #[.agg #[.int .i64 a1, .int .i64 a2], .int .i64 a3]) (by simp [results, Tryd.results40, go_sem]) rfl (Ret.mk (by rfl) (by (repeat' (first | (with_reducible exact Below.refl _ _) | (with_reducible exact Nat.le_refl _) | (with_reducible refine Below.bel ?_ ?_) | (with_reducible refine Below.alloc ?_ ?_ _) | (with_reducible refine Below.drew ?_) | (with_reducible refine Below.drawsN ?_ _) | (with_reducible refine Below.setCell ?_ ?_ _) | (with_reducible refine le_bel ?_) | (with_reducible refine le_alloc ?_) | (with_reducible refine le_setCell ?_) | (with_reducible refine le_drew ?_) | (with_reducible refine le_drawsN ?_) | (dsimp only; with_reducible refine le_bel ?_) | (dsimp only; with_reducible refine Nat.le_refl _) | (dsimp only; with_reducible refine le_bel_add ?_) | (with_reducible assumption) | omega | (dsimp only; omega)))))
set_option maxHeartbeats 800000 in
theorem mul_no (n d m e : Int) (w : World) (h : right n d = false ∨ right m e = false) :
    Calls Tryd.prog 40 #[.agg #[.int .i64 n, .int .i64 d], .agg #[.int .i64 m, .int .i64 e]] w (Ret (.tuple #[.agg #[.int .i64 0, .int .i64 0], .int .i64 2]) w) := by
  have H := Lib.hid h
  clear h
  go_enter Tryd.func40, Tryd.ntmps40
  go_wp2_with fail
  (with_reducible refine (lowest_no _ _ _ _ _ _ _ _ H.out).mono ?_)
  rintro _ _ ⟨rfl, x1, rfl⟩
  go_wp2
  refine bodyPost_ret (v := .tuple #[.agg #[.int .i64 0, .int .i64 0], .int .i64 2]) (by simp [results, Tryd.results40, go_sem]) rfl (Ret.mk (by rfl) (by (repeat' (first | (with_reducible exact Below.refl _ _) | (with_reducible exact Nat.le_refl _) | (with_reducible refine Below.bel ?_ ?_) | (with_reducible refine Below.alloc ?_ ?_ _) | (with_reducible refine Below.drew ?_) | (with_reducible refine Below.drawsN ?_ _) | (with_reducible refine Below.setCell ?_ ?_ _) | (with_reducible refine le_bel ?_) | (with_reducible refine le_alloc ?_) | (with_reducible refine le_setCell ?_) | (with_reducible refine le_drew ?_) | (with_reducible refine le_drawsN ?_) | (dsimp only; with_reducible refine le_bel ?_) | (dsimp only; with_reducible refine Nat.le_refl _) | (dsimp only; with_reducible refine le_bel_add ?_) | (with_reducible assumption) | omega | (dsimp only; omega)))))
set_option maxHeartbeats 800000 in
theorem refmul_any (n d m e : Int) (w : World) (h1 : right n d = true) (h2 : right m e = true) :
    Calls Tryd.prog 49 #[.agg #[.int .i64 n, .int .i64 d], .agg #[.int .i64 m, .int .i64 e]] w (Ret (.tuple #[.agg #[.int .i64 (mk1 (n * m) (d * e)), .int .i64 (mk2 (n * m) (d * e))], .int .i64 (mk3 (n * m) (d * e))]) w) := by
  have HB := Lib.hid (mul_bd h1 h2)
  have H := Lib.hid (max_ok h1 h2)
  obtain ⟨r1, r2, r3, r4, _⟩ := right_spec h1
  obtain ⟨s1, s2, s3, s4, _⟩ := right_spec h2
  clear h1 h2
  have p1 := prod_bd r3 r4 (by omega : -1000000 ≤ e) s2
  have p2 := prod_bd s3 s4 (by omega : -1000000 ≤ d) r2
  have p3 := prod_bd (by omega : -1000000 ≤ d) r2 (by omega : -1000000 ≤ e) s2
  have p4 := prod_bd r3 r4 s3 s4
  have p5 := prod_bd (by omega : -1000000 ≤ d) r2 s3 s4
  go_enter Tryd.func49, Tryd.ntmps49
  go_wp2_with fail
  (with_reducible refine (refboth_any _ _ _ _ _).mono ?_)
  rintro _ _ ⟨rfl, x1, rfl⟩
  rw [H.out]
  go_wp2_with fail
  (with_reducible refine (refmake_any (n * m) (d * e) _ HB.out.1 HB.out.2.1 HB.out.2.2.1 HB.out.2.2.2).mono ?_)
  rintro _ _ ⟨rfl, x2, rfl⟩
  generalize mk1 (n * m) (d * e) = a1 at *
  generalize mk2 (n * m) (d * e) = a2 at *
  generalize mk3 (n * m) (d * e) = a3 at *
  go_wp2
  refine bodyPost_ret (v := .tuple #[.agg #[.int .i64 a1, .int .i64 a2], .int .i64 a3]) (by simp [results, Tryd.results49, go_sem]) rfl (Ret.mk (by rfl) (by (repeat' (first | (with_reducible exact Below.refl _ _) | (with_reducible exact Nat.le_refl _) | (with_reducible refine Below.bel ?_ ?_) | (with_reducible refine Below.alloc ?_ ?_ _) | (with_reducible refine Below.drew ?_) | (with_reducible refine Below.drawsN ?_ _) | (with_reducible refine Below.setCell ?_ ?_ _) | (with_reducible refine le_bel ?_) | (with_reducible refine le_alloc ?_) | (with_reducible refine le_setCell ?_) | (with_reducible refine le_drew ?_) | (with_reducible refine le_drawsN ?_) | (dsimp only; with_reducible refine le_bel ?_) | (dsimp only; with_reducible refine Nat.le_refl _) | (dsimp only; with_reducible refine le_bel_add ?_) | (with_reducible assumption) | omega | (dsimp only; omega)))))

theorem div_bd {n d m e : Int} (r : right n d = true) (s : right m e = true) : -9223372036854775808 ≤ n * e ∧ n * e ≤ 9223372036854775807 ∧ -9223372036854775808 ≤ d * m ∧ d * m ≤ 9223372036854775807 := by
  obtain ⟨r1, r2, r3, r4, _⟩ := right_spec r
  obtain ⟨s1, s2, s3, s4, _⟩ := right_spec s
  have p1 := prod_bd r3 r4 (by omega : -1000000 ≤ e) s2
  have p2 := prod_bd s3 s4 (by omega : -1000000 ≤ d) r2
  have p3 := prod_bd (by omega : -1000000 ≤ d) r2 (by omega : -1000000 ≤ e) s2
  have p4 := prod_bd r3 r4 s3 s4
  have p5 := prod_bd (by omega : -1000000 ≤ d) r2 s3 s4
  omega
set_option maxHeartbeats 800000 in
theorem div_any (n d m e : Int) (w : World) (h1 : right n d = true) (h2 : right m e = true) :
    Calls Tryd.prog 42 #[.agg #[.int .i64 n, .int .i64 d], .agg #[.int .i64 m, .int .i64 e]] w (Ret (.tuple #[.agg #[.int .i64 (mk1 (n * e) (d * m)), .int .i64 (mk2 (n * e) (d * m))], .int .i64 (mk3 (n * e) (d * m))]) w) := by
  have H1 := Lib.hid h1
  have H2 := Lib.hid h2
  have HB := Lib.hid (div_bd h1 h2)
  clear h1 h2
  go_enter Tryd.func42, Tryd.ntmps42
  go_wp2_with fail
  (with_reducible refine (lowest_ok 65 _ _ _ _ _ _ (n * e) (d * m) _ H1.out H2.out HB.out.1 HB.out.2.1 HB.out.2.2.1 HB.out.2.2.2 (fun v => by kernel_rfl) (fun x => div_cl n d m e _ _ _ H1.out H2.out (by simp [go_sem]) (by simp [go_sem]) (by simp [go_sem]) (by simp [go_sem]))).mono ?_)
  rintro _ _ ⟨rfl, x1, rfl⟩
  generalize mk1 (n * e) (d * m) = a1 at *
  generalize mk2 (n * e) (d * m) = a2 at *
  generalize mk3 (n * e) (d * m) = a3 at *
  go_wp2
  refine bodyPost_ret (v := .tuple #[.agg #[.int .i64 a1, .int .i64 a2], .int .i64 a3]) (by simp [results, Tryd.results42, go_sem]) rfl (Ret.mk (by rfl) (by (repeat' (first | (with_reducible exact Below.refl _ _) | (with_reducible exact Nat.le_refl _) | (with_reducible refine Below.bel ?_ ?_) | (with_reducible refine Below.alloc ?_ ?_ _) | (with_reducible refine Below.drew ?_) | (with_reducible refine Below.drawsN ?_ _) | (with_reducible refine Below.setCell ?_ ?_ _) | (with_reducible refine le_bel ?_) | (with_reducible refine le_alloc ?_) | (with_reducible refine le_setCell ?_) | (with_reducible refine le_drew ?_) | (with_reducible refine le_drawsN ?_) | (dsimp only; with_reducible refine le_bel ?_) | (dsimp only; with_reducible refine Nat.le_refl _) | (dsimp only; with_reducible refine le_bel_add ?_) | (with_reducible assumption) | omega | (dsimp only; omega)))))
set_option maxHeartbeats 800000 in
theorem div_no (n d m e : Int) (w : World) (h : right n d = false ∨ right m e = false) :
    Calls Tryd.prog 42 #[.agg #[.int .i64 n, .int .i64 d], .agg #[.int .i64 m, .int .i64 e]] w (Ret (.tuple #[.agg #[.int .i64 0, .int .i64 0], .int .i64 2]) w) := by
  have H := Lib.hid h
  clear h
  go_enter Tryd.func42, Tryd.ntmps42
  go_wp2_with fail
  (with_reducible refine (lowest_no _ _ _ _ _ _ _ _ H.out).mono ?_)
  rintro _ _ ⟨rfl, x1, rfl⟩
  go_wp2
  refine bodyPost_ret (v := .tuple #[.agg #[.int .i64 0, .int .i64 0], .int .i64 2]) (by simp [results, Tryd.results42, go_sem]) rfl (Ret.mk (by rfl) (by (repeat' (first | (with_reducible exact Below.refl _ _) | (with_reducible exact Nat.le_refl _) | (with_reducible refine Below.bel ?_ ?_) | (with_reducible refine Below.alloc ?_ ?_ _) | (with_reducible refine Below.drew ?_) | (with_reducible refine Below.drawsN ?_ _) | (with_reducible refine Below.setCell ?_ ?_ _) | (with_reducible refine le_bel ?_) | (with_reducible refine le_alloc ?_) | (with_reducible refine le_setCell ?_) | (with_reducible refine le_drew ?_) | (with_reducible refine le_drawsN ?_) | (dsimp only; with_reducible refine le_bel ?_) | (dsimp only; with_reducible refine Nat.le_refl _) | (dsimp only; with_reducible refine le_bel_add ?_) | (with_reducible assumption) | omega | (dsimp only; omega)))))
set_option maxHeartbeats 800000 in
theorem refdiv_any (n d m e : Int) (w : World) (h1 : right n d = true) (h2 : right m e = true) :
    Calls Tryd.prog 50 #[.agg #[.int .i64 n, .int .i64 d], .agg #[.int .i64 m, .int .i64 e]] w (Ret (.tuple #[.agg #[.int .i64 (mk1 (n * e) (d * m)), .int .i64 (mk2 (n * e) (d * m))], .int .i64 (mk3 (n * e) (d * m))]) w) := by
  have HB := Lib.hid (div_bd h1 h2)
  have H := Lib.hid (max_ok h1 h2)
  obtain ⟨r1, r2, r3, r4, _⟩ := right_spec h1
  obtain ⟨s1, s2, s3, s4, _⟩ := right_spec h2
  clear h1 h2
  have p1 := prod_bd r3 r4 (by omega : -1000000 ≤ e) s2
  have p2 := prod_bd s3 s4 (by omega : -1000000 ≤ d) r2
  have p3 := prod_bd (by omega : -1000000 ≤ d) r2 (by omega : -1000000 ≤ e) s2
  have p4 := prod_bd r3 r4 s3 s4
  have p5 := prod_bd (by omega : -1000000 ≤ d) r2 s3 s4
  go_enter Tryd.func50, Tryd.ntmps50
  go_wp2_with fail
  (with_reducible refine (refboth_any _ _ _ _ _).mono ?_)
  rintro _ _ ⟨rfl, x1, rfl⟩
  rw [H.out]
  go_wp2_with fail
  (with_reducible refine (refmake_any (n * e) (d * m) _ HB.out.1 HB.out.2.1 HB.out.2.2.1 HB.out.2.2.2).mono ?_)
  rintro _ _ ⟨rfl, x2, rfl⟩
  generalize mk1 (n * e) (d * m) = a1 at *
  generalize mk2 (n * e) (d * m) = a2 at *
  generalize mk3 (n * e) (d * m) = a3 at *
  go_wp2
  refine bodyPost_ret (v := .tuple #[.agg #[.int .i64 a1, .int .i64 a2], .int .i64 a3]) (by simp [results, Tryd.results50, go_sem]) rfl (Ret.mk (by rfl) (by (repeat' (first | (with_reducible exact Below.refl _ _) | (with_reducible exact Nat.le_refl _) | (with_reducible refine Below.bel ?_ ?_) | (with_reducible refine Below.alloc ?_ ?_ _) | (with_reducible refine Below.drew ?_) | (with_reducible refine Below.drawsN ?_ _) | (with_reducible refine Below.setCell ?_ ?_ _) | (with_reducible refine le_bel ?_) | (with_reducible refine le_alloc ?_) | (with_reducible refine le_setCell ?_) | (with_reducible refine le_drew ?_) | (with_reducible refine le_drawsN ?_) | (dsimp only; with_reducible refine le_bel ?_) | (dsimp only; with_reducible refine Nat.le_refl _) | (dsimp only; with_reducible refine le_bel_add ?_) | (with_reducible assumption) | omega | (dsimp only; omega)))))

end Go.Proofs.YtoncbkkhfblpdaaDoor
