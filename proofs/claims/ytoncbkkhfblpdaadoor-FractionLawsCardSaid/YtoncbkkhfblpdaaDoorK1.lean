/- The walks of Simplest. -/
import Derived.Test.YtoncbkkhfblpdaaDoorK
namespace Go.Proofs.YtoncbkkhfblpdaaDoor
open Go.RowKit
attribute [local go_sem low] Bel.cell Bel.frozen alloc_cell alloc_frozen

theorem smp_le {f : Nat} {p q r s : Int} (h : Pos p q r s) (hf : q + s ≤ f) : (smp f p q r s).1 ≤ p ∧ (smp f p q r s).2 ≤ q :=
  (smp_spec f p q r s h hf).2 p q h.hq ⟨Int.le_refl _, h.hle⟩
theorem pair_eq {a b c d : Int} (h1 : a = c) (h2 : b = d) : Value.agg #[.int .i64 a, .int .i64 b] = .agg #[.int .i64 c, .int .i64 d] := by rw [h1, h2]

theorem smp_succ (f : Nat) (p q r s : Int) : smp (f + 1) p q r s = if p / q * q = p then (p / q, 1) else if (p / q + 1) * s ≤ r then (p / q + 1, 1) else (p / q * (smp f s (r - p / q * s) q (p - p / q * q)).1 + (smp f s (r - p / q * s) q (p - p / q * q)).2, (smp f s (r - p / q * s) q (p - p / q * q)).1) := rfl

set_option maxHeartbeats 1600000 in
theorem simplest_any (f : Nat) : ∀ (p q r s : Int) (w : World), Pos p q r s → q + s ≤ f → p ≤ 1000000 → q ≤ 1000000 → r ≤ 1000000 → s ≤ 1000000 →
    Calls Tryd.prog 56 #[.agg #[.int .i64 p, .int .i64 q], .agg #[.int .i64 r, .int .i64 s]] w (Ret (.agg #[.int .i64 (smp f p q r s).1, .int .i64 (smp f p q r s).2]) w) := by
  induction f with
  | zero =>
    intro p q r s w h hf _ _ _ _
    have := h.hq
    have := h.hs
    omega
  | succ f ih =>
    intro p q r s w h hf bp bq br bs
    obtain ⟨a1, a2, a3⟩ := div_facts h.hp h.hq
    have bd := smp_le h hf
    have hq1 := h.hq
    have hp1 := h.hp
    have hr1 := h.hr
    have hs1 := h.hs
    have ha : p / q ≤ p := Int.ediv_le_self _ (by omega)
    have has : p / q * s ≤ 1000000000000 := (prod_bd (by omega) (by omega : p / q ≤ 1000000) (by omega) bs).2
    have has0 : 0 ≤ p / q * s := Int.mul_nonneg a1 (by omega)
    have haq0 : 0 ≤ p / q * q := Int.mul_nonneg a1 (by omega)
    have e5 : (p / q + 1) * s = p / q * s + s := by rw [Int.add_mul, Int.one_mul]
    by_cases h1 : p / q * q = p
    · have hs := Lib.hid (show smp (f + 1) p q r s = (p / q, 1) by rw [smp_succ, if_pos h1])
      have d1 : (p / q * q == p) = true := by simpa using h1
      clear h1 e5 bd a3
      go_enter Tryd.func56, Tryd.ntmps56
      go_wp2_with fail
      (with_reducible refine (floor_any _ _ _ (by omega) (by omega) (by omega) (by omega)).mono ?_)
      rintro _ _ ⟨rfl, rfl⟩
      generalize p / q = a at *
      go_wp2
      refine bodyPost_ret (v := .agg #[.int .i64 a, .int .i64 1]) (by simp [results, Tryd.results56, go_sem]) rfl (Ret.mk (by rw [hs.out]) (by (repeat' (first | (with_reducible exact Below.refl _ _) | (with_reducible exact Nat.le_refl _) | (with_reducible refine Below.bel ?_ ?_) | (with_reducible refine Below.alloc ?_ ?_ _) | (with_reducible refine Below.drew ?_) | (with_reducible refine Below.drawsN ?_ _) | (with_reducible refine Below.setCell ?_ ?_ _) | (with_reducible refine le_bel ?_) | (with_reducible refine le_alloc ?_) | (with_reducible refine le_setCell ?_) | (with_reducible refine le_drew ?_) | (with_reducible refine le_drawsN ?_) | (dsimp only; with_reducible refine le_bel ?_) | (dsimp only; with_reducible refine Nat.le_refl _) | (dsimp only; with_reducible refine le_bel_add ?_) | (with_reducible assumption) | omega | (dsimp only; omega)))))
    have d1 : (p / q * q == p) = false := by simpa using h1
    by_cases h2 : (p / q + 1) * s ≤ r
    · have hs := Lib.hid (show smp (f + 1) p q r s = (p / q + 1, 1) by rw [smp_succ, if_neg h1, if_pos h2])
      have d2 : decide ((p / q + 1) * s ≤ r) = true := by simpa using h2
      have e6 : (p / q + 1) * s ≤ 1000000000000 := by omega
      have e7 : 0 ≤ (p / q + 1) * s := by omega
      clear h1 h2 e5 bd a3
      go_enter Tryd.func56, Tryd.ntmps56
      go_wp2_with fail
      (with_reducible refine (floor_any _ _ _ (by omega) (by omega) (by omega) (by omega)).mono ?_)
      rintro _ _ ⟨rfl, rfl⟩
      generalize p / q = a at *
      go_wp2
      refine bodyPost_ret (v := .agg #[.int .i64 (a + 1), .int .i64 1]) (by simp [results, Tryd.results56, go_sem]) rfl (Ret.mk (by rw [hs.out]) (by (repeat' (first | (with_reducible exact Below.refl _ _) | (with_reducible exact Nat.le_refl _) | (with_reducible refine Below.bel ?_ ?_) | (with_reducible refine Below.alloc ?_ ?_ _) | (with_reducible refine Below.drew ?_) | (with_reducible refine Below.drawsN ?_ _) | (with_reducible refine Below.setCell ?_ ?_ _) | (with_reducible refine le_bel ?_) | (with_reducible refine le_alloc ?_) | (with_reducible refine le_setCell ?_) | (with_reducible refine le_drew ?_) | (with_reducible refine le_drawsN ?_) | (dsimp only; with_reducible refine le_bel ?_) | (dsimp only; with_reducible refine Nat.le_refl _) | (dsimp only; with_reducible refine le_bel_add ?_) | (with_reducible assumption) | omega | (dsimp only; omega)))))
    have d2 : decide ((p / q + 1) * s ≤ r) = false := by simpa using h2
    obtain ⟨hpos, hlt, l1, l2⟩ := h.next h1 h2
    have hs := Lib.hid (show smp (f + 1) p q r s = (p / q * (smp f s (r - p / q * s) q (p - p / q * q)).1 + (smp f s (r - p / q * s) q (p - p / q * q)).2, (smp f s (r - p / q * s) q (p - p / q * q)).1) by rw [smp_succ, if_neg h1, if_neg h2])
    obtain ⟨⟨x1, x2, _⟩, _⟩ := smp_spec f _ _ _ _ hpos (by omega)
    have hh := bd.1
    rw [hs.out] at hh
    dsimp only at hh
    have hy1 := hpos.hq
    have hy2 := hpos.hs
    have x3 : 0 ≤ p / q * (smp f s (r - p / q * s) q (p - p / q * q)).1 := Int.mul_nonneg a1 (by omega)
    have e6 : (p / q + 1) * s ≤ 1000000000000 := by omega
    have e7 : 0 ≤ (p / q + 1) * s := by omega
    have IH := Lib.hid (fun w' => ih s (r - p / q * s) q (p - p / q * q) w' hpos (by omega) bs (by omega) bq (by omega))
    clear h1 h2 e5 bd a3 hlt hpos
    go_enter Tryd.func56, Tryd.ntmps56
    go_wp2_with fail
    (with_reducible refine (floor_any _ _ _ (by omega) (by omega) (by omega) (by omega)).mono ?_)
    rintro _ _ ⟨rfl, rfl⟩
    generalize p / q = a at *
    go_wp2_with fail
    (with_reducible refine (IH.out _).mono ?_)
    rintro _ _ ⟨rfl, x, rfl⟩
    generalize smp f s (r - a * s) q (p - a * q) = z at *
    obtain ⟨X, Y⟩ := z
    dsimp only at *
    go_wp2
    refine bodyPost_ret (v := .agg #[.int .i64 (a * X + Y), .int .i64 X]) (by simp [results, Tryd.results56, go_sem]) rfl (Ret.mk (by rw [hs.out]) (by (repeat' (first | (with_reducible exact Below.refl _ _) | (with_reducible exact Nat.le_refl _) | (with_reducible refine Below.bel ?_ ?_) | (with_reducible refine Below.alloc ?_ ?_ _) | (with_reducible refine Below.drew ?_) | (with_reducible refine Below.drawsN ?_ _) | (with_reducible refine Below.setCell ?_ ?_ _) | (with_reducible refine le_bel ?_) | (with_reducible refine le_alloc ?_) | (with_reducible refine le_setCell ?_) | (with_reducible refine le_drew ?_) | (with_reducible refine le_drawsN ?_) | (dsimp only; with_reducible refine le_bel ?_) | (dsimp only; with_reducible refine Nat.le_refl _) | (dsimp only; with_reducible refine le_bel_add ?_) | (with_reducible assumption) | omega | (dsimp only; omega)))))
end Go.Proofs.YtoncbkkhfblpdaaDoor
