/- same. Not, And, Or, Choose of the diagrams of tables. Restrict and Exists of the diagrams of tables. Count and Witness of the diagrams of tables. Witness of the diagrams of tables. -/
import Derived.Test.YtlnedapimmabdaaGreatDoorX19
import Derived.Test.YtlnedapimmabdaaGreatDoorXF
import Derived.Test.YtlnedapimmabdaaGreatDoorXG
import Derived.Test.YtlnedapimmabdaaGreatDoorPl
import Derived.Test.YtlnedapimmabdaaGreatDoorXI
import Derived.Test.YtlnedapimmabdaaGreatDoorX25
namespace Go.Proofs.YtlnedapimmabdaaGreatDoor
set_option linter.unusedVariables false
set_option linter.unusedSimpArgs false
open Go.RowKit Go.Maps
attribute [local go_sem low] Bel.cell Bel.frozen alloc_cell alloc_frozen

end Go.Proofs.YtlnedapimmabdaaGreatDoor

namespace Go.Proofs.YtlnedapimmabdaaGreatDoor
set_option linter.unusedVariables false
set_option linter.unusedSimpArgs false

theorem rk6_le (v : Nat) : rk6 v ≤ 6 := by unfold rk6; omega
theorem bld_val {t : Nat} (ht : t < 2 ^ 64) (ρ : Nat → Bool) : val3 ρ (bldN t) (bldR t) = t.testBit (idx6 ρ) := (bld_ok ht).2.1.2 ρ
theorem dnB {t : Nat} (ht : t < 2 ^ 64) {w : World} {ad : Option Addr} {cap : Nat} (hi : InD w.heap.size w ad ((bldN t).map z3)) : DNok rk6 w (ad, cap, bldN t, bldR t) := dnok_bld rk6 (fun _ ha => varOk6 ha) ht hi
theorem bld_len {t : Nat} (ht : t < 2 ^ 64) : (bldN t).length < 64 := (bld_ok ht).2.2.1
theorem Not_tab (t : Nat) (ht : t < 2 ^ 64) (ad : Option Addr) (cap : Nat) (w : World) (hi : InD w.heap.size w ad ((bldN t).map z3)) :
    Calls Tryz.prog 43 #[dnV (ad, cap, bldN t, bldR t)] w (RetDg (bldN (notT t)) (bldR (notT t)) w) :=
  (Not_ok (K := 6) (c := 63) (by decide) rk6_le (ad, cap, bldN t, bldR t) w (dnB ht hi) (by have := bld_len ht; dsimp only; omega)).mono fun _ _ h => retC_table h (notT_lt t) (fun ρ => by dsimp only; rw [bld_val ht, notT_test ht (idx6_lt ρ)])
theorem And_tab (t u : Nat) (ht : t < 2 ^ 64) (hu : u < 2 ^ 64) (a1 a2 : Option Addr) (c1 c2 : Nat) (w : World) (h1 : InD w.heap.size w a1 ((bldN t).map z3)) (h2 : InD w.heap.size w a2 ((bldN u).map z3)) :
    Calls Tryz.prog 64 #[dnV (a1, c1, bldN t, bldR t), dnV (a2, c2, bldN u, bldR u)] w (RetDg (bldN (t &&& u)) (bldR (t &&& u)) w) :=
  (And_ok (K := 6) (c := 63) (by decide) rk6_le (a1, c1, bldN t, bldR t) (a2, c2, bldN u, bldR u) w (dnB ht h1) (dnB hu h2) (by have := bld_len ht; have := bld_len hu; dsimp only; omega)).mono fun _ _ h => retC_table h (Nat.and_lt_two_pow _ hu) (fun ρ => by dsimp only; rw [bld_val ht, bld_val hu, Nat.testBit_and])
theorem Or_tab (t u : Nat) (ht : t < 2 ^ 64) (hu : u < 2 ^ 64) (a1 a2 : Option Addr) (c1 c2 : Nat) (w : World) (h1 : InD w.heap.size w a1 ((bldN t).map z3)) (h2 : InD w.heap.size w a2 ((bldN u).map z3)) :
    Calls Tryz.prog 65 #[dnV (a1, c1, bldN t, bldR t), dnV (a2, c2, bldN u, bldR u)] w (RetDg (bldN (t ||| u)) (bldR (t ||| u)) w) :=
  (Or_ok (K := 6) (c := 63) (by decide) rk6_le (a1, c1, bldN t, bldR t) (a2, c2, bldN u, bldR u) w (dnB ht h1) (dnB hu h2) (by have := bld_len ht; have := bld_len hu; dsimp only; omega)).mono fun _ _ h => retC_table h (Nat.or_lt_two_pow ht hu) (fun ρ => by dsimp only; rw [bld_val ht, bld_val hu, Nat.testBit_or])
theorem Choose_tab (t u v : Nat) (ht : t < 2 ^ 64) (hu : u < 2 ^ 64) (hv : v < 2 ^ 64) (a1 a2 a3 : Option Addr) (c1 c2 c3 : Nat) (w : World) (h1 : InD w.heap.size w a1 ((bldN t).map z3)) (h2 : InD w.heap.size w a2 ((bldN u).map z3)) (h3 : InD w.heap.size w a3 ((bldN v).map z3)) :
    Calls Tryz.prog 44 #[dnV (a1, c1, bldN t, bldR t), dnV (a2, c2, bldN u, bldR u), dnV (a3, c3, bldN v, bldR v)] w (RetDg (bldN ((t &&& u) ||| (notT t &&& v))) (bldR ((t &&& u) ||| (notT t &&& v))) w) :=
  (Choose_ok (K := 6) (c := 63) (by decide) rk6_le (a1, c1, bldN t, bldR t) (a2, c2, bldN u, bldR u) (a3, c3, bldN v, bldR v) w (dnB ht h1) (dnB hu h2) (dnB hv h3) (by have := bld_len ht; have := bld_len hu; have := bld_len hv; dsimp only; omega)).mono fun _ _ h => retC_table h (Nat.or_lt_two_pow (Nat.and_lt_two_pow _ hu) (Nat.and_lt_two_pow _ hv)) (fun ρ => by
    dsimp only
    rw [bld_val ht, bld_val hu, bld_val hv, Nat.testBit_or, Nat.testBit_and, Nat.testBit_and, notT_test ht (idx6_lt ρ)]
    cases t.testBit (idx6 ρ) <;> simp)
end Go.Proofs.YtlnedapimmabdaaGreatDoor

namespace Go.Proofs.YtlnedapimmabdaaGreatDoor
set_option linter.unusedVariables false
set_option linter.unusedSimpArgs false

end Go.Proofs.YtlnedapimmabdaaGreatDoor

namespace Go.Proofs.YtlnedapimmabdaaGreatDoor
set_option linter.unusedVariables false
set_option linter.unusedSimpArgs false

theorem leastT_iff (t n : Nat) : ∀ K, leastT t K ≤ n ↔ ∀ v, v < K → dep6 t v = true → v < n
  | 0 => ⟨fun _ v hv => by omega, fun _ => Nat.zero_le _⟩
  | K + 1 => by
    rw [leastT]
    split
    · rename_i h
      exact ⟨fun hk v hv _ => by omega, fun hall => hall K (by omega) h⟩
    · rename_i h
      rw [leastT_iff t n K]
      refine ⟨fun hall v hv hd => ?_, fun hall v hv hd => hall v (by omega) hd⟩
      rcases Nat.lt_or_ge v K with hk | hk
      · exact hall v hk hd
      · exact absurd (show dep6 t K = true from by rwa [show K = v by omega]) h
theorem vars_least {t n : Nat} (ht : t < 2 ^ 64) : (∀ x ∈ bldN t, x.1 < n) ↔ leastT t 6 ≤ n := (vars_lt ht).trans (leastT_iff t n 6).symm
theorem enough_bld {t n : Nat} (ht : t < 2 ^ 64) : enoughD ((bldN t).map z3) (n : Int) = decide (leastT t 6 ≤ n) := by
  have h : enoughD ((bldN t).map z3) (n : Int) = true ↔ leastT t 6 ≤ n := by
    rw [enoughD_iff, ← vars_least ht]
    refine ⟨fun h x hx => ?_, fun h y hy => ?_⟩
    · have := h (z3 x) (List.mem_map.2 ⟨x, hx, rfl⟩)
      unfold z3 at this
      dsimp only at this
      omega
    · obtain ⟨x, hx, rfl⟩ := List.mem_map.1 hy
      have := h x hx
      unfold z3
      dsimp only
      omega
  by_cases hl : leastT t 6 ≤ n
  · rw [h.2 hl, decide_eq_true hl]
  · rw [decide_eq_false hl]
    exact Bool.eq_false_iff.2 fun e => hl (h.1 e)
end Go.Proofs.YtlnedapimmabdaaGreatDoor

namespace Go.Proofs.YtlnedapimmabdaaGreatDoor
set_option linter.unusedVariables false
set_option linter.unusedSimpArgs false

theorem bldR_zero {t : Nat} (ht : t < 2 ^ 64) : bldR t = 0 ↔ t = 0 := by
  obtain ⟨h1, h2, _⟩ := bld_ok ht
  exact rep3_zero h1.good h2 ht
theorem Witness_tab (t n : Nat) (ht : t < 2 ^ 64) (h0 : t ≠ 0) (hn : n ≤ 4096) (hl : leastT t 6 ≤ n) (ad : Option Addr) (cap : Nat) (w : World) (hi : InD w.heap.size w ad ((bldN t).map z3)) :
    Calls Tryz.prog 45 #[dnV (ad, cap, bldN t, bldR t), .int .i64 (n : Int)] w (RetWit (wantL t 0 (min n 6) ++ List.replicate (n - 6) false) w) := by
  have h := Witness_ok (ad, cap, bldN t, bldR t) n w (dnB ht hi) hn (by dsimp only; rw [enough_bld ht, decide_eq_true hl]) (fun e => h0 ((bldR_zero ht).1 e))
  dsimp only at h
  rw [witD_bld ht h0 ((vars_least ht).2 hl)] at h
  exact h
end Go.Proofs.YtlnedapimmabdaaGreatDoor
