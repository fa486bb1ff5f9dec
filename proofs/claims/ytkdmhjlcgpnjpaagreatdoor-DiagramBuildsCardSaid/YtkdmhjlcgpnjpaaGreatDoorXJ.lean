/- same. Not, And, Or, Choose of the diagrams of tables. Restrict and Exists of the diagrams of tables. Count and Witness of the diagrams of tables. Witness of the diagrams of tables. -/
import Derived.Test.YtkdmhjlcgpnjpaaGreatDoorX19
import Derived.Test.YtkdmhjlcgpnjpaaGreatDoorXF
import Derived.Test.YtkdmhjlcgpnjpaaGreatDoorXG
import Derived.Test.YtkdmhjlcgpnjpaaGreatDoorPl
import Derived.Test.YtkdmhjlcgpnjpaaGreatDoorXI
import Derived.Test.YtkdmhjlcgpnjpaaGreatDoorX27
namespace Go.Proofs.YtkdmhjlcgpnjpaaGreatDoor
set_option linter.unusedVariables false
set_option linter.unusedSimpArgs false
open Go.RowKit Go.Maps
attribute [local go_sem low] Bel.cell Bel.frozen alloc_cell alloc_frozen

set_option maxRecDepth 100000 in
set_option maxHeartbeats 6400000 in
theorem sameD_any (M : List (Nat × Nat × Nat)) (r : Nat) (a1 a2 : Option Addr) (c1 c2 : Nat) (w : World) (h1 : InD w.heap.size w a1 (M.map z3)) (h2 : InD w.heap.size w a2 (M.map z3)) (hl : M.length ≤ 1000000) :
    Calls Tryz.prog 16 #[.agg #[.slice a1 M.length c1, .int .i64 (r : Int)], .agg #[.slice a2 M.length c2, .int .i64 (r : Int)]] w (Ret (.bool true) w) := by
  have H1 := Lib.hid h1
  have H2 := Lib.hid h2
  clear h1 h2
  have f0 : ((r : Int) != (r : Int)) = false := by simp
  have f1 : ((M.length : Int) != (M.length : Int)) = false := by simp
  go_enter Tryz.func16, Tryz.ntmps16
  go_wp2
  obtain ⟨Z, hZ⟩ : ∃ Z, (w.alloc (.cells #[.slice a1 M.length c1, .int .i64 (r : Int)] 30)).alloc (.cells #[.slice a2 M.length c2, .int .i64 (r : Int)] 30) = Z := ⟨_, rfl⟩
  have p0 := obj_alloc (.cells #[.slice a2 M.length c2, .int .i64 (r : Int)] 30) (World.alloc_heap_new w (.cells #[.slice a1 M.length c1, .int .i64 (r : Int)] 30))
  have p1 : ((w.alloc (.cells #[.slice a1 M.length c1, .int .i64 (r : Int)] 30)).alloc (.cells #[.slice a2 M.length c2, .int .i64 (r : Int)] 30)).heap[w.heap.size + 1]? = some (.cells #[.slice a2 M.length c2, .int .i64 (r : Int)] 30 (0, 0)) := by
    have := World.alloc_heap_new (w.alloc (.cells #[.slice a1 M.length c1, .int .i64 (r : Int)] 30)) (.cells #[.slice a2 M.length c2, .int .i64 (r : Int)] 30)
    rwa [World.size_alloc] at this
  have hbZ : Below w.heap.size w Z := by rw [← hZ]; (repeat' (first | (with_reducible first | exact Below.refl _ _ | exact Nat.le_refl _ | refine Below.bel ?_ ?_ | refine Below.alloc ?_ ?_ _ | refine Below.drew ?_ | refine Below.drawsN ?_ _ | refine Below.setCell ?_ ?_ _ | refine le_bel ?_ | refine le_alloc ?_ | refine le_setCell ?_ | refine le_drew ?_ | refine le_drawsN ?_) | (dsimp only; with_reducible first | refine le_bel ?_ | refine Nat.le_refl _ | refine le_bel_add ?_) | (with_reducible assumption) | omega | (dsimp only; omega)))
  rw [hZ] at p0 p1
  first | rw [hZ] | skip
  have HP := Lib.hid (And.intro p0 p1)
  have HBZ := Lib.hid hbZ
  clear p0 p1 hbZ hZ
  go_loopw [5] (fun iv wr => ∃ k : Nat, iv = .int .i64 (k : Int) ∧ k ≤ M.length ∧ ∃ y : Bel Z, wr = y.w) (fun iv _ => M.length - (intOf iv).toNat)
  case atStart => first | exact ⟨0, rfl, Nat.zero_le _, ⟨Z, Below.refl _ _⟩, rfl⟩ | exact ⟨0, rfl, Nat.zero_le _, ⟨_, (Below.refl _ _).drew⟩, rfl⟩
  case round =>
    obtain ⟨k, rfl, hk, y, rfl⟩ := hrel
    obtain ⟨e0, e1, -⟩ := cells2 (obj_in y.below HP.out.1)
    obtain ⟨q0, q1, -⟩ := cells2 (obj_in y.below HP.out.2)
    have hzs := HBZ.out.size
    have hby : Below w.heap.size w y.w := HBZ.out.trans (y.below.mono hzs)
    rcases Nat.lt_or_ge k M.length with hkl | hkl
    · obtain ⟨x, hx⟩ : ∃ x, M[k]? = some x := ⟨_, List.getElem?_eq_getElem hkl⟩
      obtain ⟨g1, o1, hadd1, hg1, hcs1⟩ := (H1.out.of hby) (by rw [List.length_map]; omega)
      obtain ⟨g2, o2, hadd2, hg2, hcs2⟩ := (H2.out.of hby) (by rw [List.length_map]; omega)
      subst hadd1 hadd2
      obtain ⟨x0, x1, x2⟩ := hcs1 k (z3 x) (by rw [List.getElem?_map, hx]; rfl)
      obtain ⟨z0, z1, z2⟩ := hcs2 k (z3 x) (by rw [List.getElem?_map, hx]; rfl)
      dsimp only [z3] at x0 x1 x2 z0 z1 z2
      have f2 : decide ((k : Int) < (M.length : Int)) = true := decide_eq_true (by omega)
      have hib : (0 ≤ (k : Int) ∧ (k : Int) < (M.length : Int)) := ⟨by omega, by omega⟩
      obtain ⟨xa, xn, xy⟩ := x
      dsimp only at x0 x1 x2 z0 z1 z2
      have hcm := fun w => node_cmp (decide_eq_true (rfl : ((xa : Int), (xn : Int), (xy : Int)) = ((xa : Int), (xn : Int), (xy : Int)))) w
      have hgd := guard_node
      clear hcs1 hcs2 hx
      go_wp2_with fail
      refine wp_region_bel (by kernel_rfl) (by kernel_rfl) ?_
      repeat (go_big_quiet_step (fail))
      refine wpQuiet_nil ?_
      rintro _ ⟨z9, rfl⟩
      go_wp2
      go_roundw
      case rel => exact ⟨k + 1, by go_num, by omega, ⟨z9.w, y.below.trans (z9.below.mono y.below.size)⟩, rfl⟩
      case measure => simp [intOf]; omega
    · have hke : k = M.length := by omega
      subst hke
      have f2 : decide ((M.length : Int) < (M.length : Int)) = false := decide_eq_false (by omega)
      go_wp2
      go_ret
      exact Ret.mk rfl hby
end Go.Proofs.YtkdmhjlcgpnjpaaGreatDoor

namespace Go.Proofs.YtkdmhjlcgpnjpaaGreatDoor
set_option linter.unusedVariables false
set_option linter.unusedSimpArgs false

theorem rk6_le (v : Nat) : rk6 v ≤ 6 := by unfold rk6; omega
theorem bld_val {t : Nat} (ht : t < 2 ^ 64) (ρ : Nat → Bool) : val3 ρ (bldN t) (bldR t) = t.testBit (idx6 ρ) := (bld_ok ht).2.1.2 ρ
theorem dnB {t : Nat} (ht : t < 2 ^ 64) {w : World} {ad : Option Addr} {cap : Nat} (hi : InD w.heap.size w ad ((bldN t).map z3)) : DNok rk6 w (ad, cap, bldN t, bldR t) := dnok_bld rk6 (fun _ ha => varOk6 ha) ht hi
theorem bld_len {t : Nat} (ht : t < 2 ^ 64) : (bldN t).length < 64 := (bld_ok ht).2.2.1
end Go.Proofs.YtkdmhjlcgpnjpaaGreatDoor

namespace Go.Proofs.YtkdmhjlcgpnjpaaGreatDoor
set_option linter.unusedVariables false
set_option linter.unusedSimpArgs false

theorem put_tab {t x : Nat} (ht : t < 2 ^ 64) (hx : x < 6) (b : Bool) (ρ : Nat → Bool) : put3 (bldN t) (bldR t) x b ρ = (cof t x b).testBit (idx6 ρ) := rep3_side ρ (bld_ok ht).2.1 hx b
theorem put_far {t x : Nat} (ht : t < 2 ^ 64) (hx : 6 ≤ x) (b : Bool) (ρ : Nat → Bool) : put3 (bldN t) (bldR t) x b ρ = t.testBit (idx6 ρ) := by
  unfold put3
  rw [bld_val ht, idx6_congr (σ := ρ) (fun y hy => by unfold upd3; rw [if_neg (by omega)])]
theorem Restrict_tab (t x : Nat) (b : Bool) (ht : t < 2 ^ 64) (hx : x < 6) (ad : Option Addr) (cap : Nat) (w : World) (hi : InD w.heap.size w ad ((bldN t).map z3)) :
    Calls Tryz.prog 32 #[dnV (ad, cap, bldN t, bldR t), .int .i64 (x : Int), .bool b] w (RetDg (bldN (cof t x b)) (bldR (cof t x b)) w) :=
  (Restrict_ok (K := 6) (c := 63) (by decide) rk6_le (ad, cap, bldN t, bldR t) x b (by omega) w (dnB ht hi) (by have := bld_len ht; dsimp only; omega)).mono fun _ _ h => retC_table h (cof_lt t x b) (fun ρ => by dsimp only; rw [put_tab ht hx])
theorem Restrict_far (t x : Nat) (b : Bool) (ht : t < 2 ^ 64) (hx : 6 ≤ x) (hx2 : x < 4096) (ad : Option Addr) (cap : Nat) (w : World) (hi : InD w.heap.size w ad ((bldN t).map z3)) :
    Calls Tryz.prog 32 #[dnV (ad, cap, bldN t, bldR t), .int .i64 (x : Int), .bool b] w (RetDg (bldN t) (bldR t) w) :=
  (Restrict_ok (K := 6) (c := 63) (by decide) rk6_le (ad, cap, bldN t, bldR t) x b hx2 w (dnB ht hi) (by have := bld_len ht; dsimp only; omega)).mono fun _ _ h => retC_table h ht (fun ρ => by dsimp only; rw [put_far ht hx])
theorem Exists_tab (t x : Nat) (ht : t < 2 ^ 64) (hx : x < 6) (ad : Option Addr) (cap : Nat) (w : World) (hi : InD w.heap.size w ad ((bldN t).map z3)) :
    Calls Tryz.prog 33 #[dnV (ad, cap, bldN t, bldR t), .int .i64 (x : Int)] w (RetDg (bldN (cof t x false ||| cof t x true)) (bldR (cof t x false ||| cof t x true)) w) :=
  (Exists_ok (K := 6) (c := 63) (by decide) rk6_le (ad, cap, bldN t, bldR t) x (by omega) w (dnB ht hi) (by have := bld_len ht; dsimp only; omega)).mono fun _ _ h => retC_table h (Nat.or_lt_two_pow (cof_lt t x false) (cof_lt t x true)) (fun ρ => by dsimp only; rw [put_tab ht hx, put_tab ht hx, Nat.testBit_or])
theorem Exists_far (t x : Nat) (ht : t < 2 ^ 64) (hx : 6 ≤ x) (hx2 : x < 4096) (ad : Option Addr) (cap : Nat) (w : World) (hi : InD w.heap.size w ad ((bldN t).map z3)) :
    Calls Tryz.prog 33 #[dnV (ad, cap, bldN t, bldR t), .int .i64 (x : Int)] w (RetDg (bldN t) (bldR t) w) :=
  (Exists_ok (K := 6) (c := 63) (by decide) rk6_le (ad, cap, bldN t, bldR t) x hx2 w (dnB ht hi) (by have := bld_len ht; dsimp only; omega)).mono fun _ _ h => retC_table h ht (fun ρ => by dsimp only; rw [put_far ht hx, put_far ht hx, Bool.or_self])
end Go.Proofs.YtkdmhjlcgpnjpaaGreatDoor

namespace Go.Proofs.YtkdmhjlcgpnjpaaGreatDoor
set_option linter.unusedVariables false
set_option linter.unusedSimpArgs false

theorem leastT_iff (t n : Nat) : ∀ K, leastT t K ≤ n ↔ ∀ v, v < K → dep6 t v = true → v < n
  | 0 => ⟨fun _ v hv => by omega, fun _ => Nat.zero_le _⟩
  | K + 1 => by
    rw [leastT]
    split
    · rename_i h
      exact ⟨fun hk v hv _ => by omega, fun hall => hall K (by omega) h⟩
    · rename_i h
      rw [leastT_iff t n K]
      refine ⟨fun hall v hv hd => ?_, fun hall v hv hd => hall v (by omega) hd⟩
      rcases Nat.lt_or_ge v K with hk | hk
      · exact hall v hk hd
      · exact absurd (show dep6 t K = true from by rwa [show K = v by omega]) h
theorem vars_least {t n : Nat} (ht : t < 2 ^ 64) : (∀ x ∈ bldN t, x.1 < n) ↔ leastT t 6 ≤ n := (vars_lt ht).trans (leastT_iff t n 6).symm
theorem enough_bld {t n : Nat} (ht : t < 2 ^ 64) : enoughD ((bldN t).map z3) (n : Int) = decide (leastT t 6 ≤ n) := by
  have h : enoughD ((bldN t).map z3) (n : Int) = true ↔ leastT t 6 ≤ n := by
    rw [enoughD_iff, ← vars_least ht]
    refine ⟨fun h x hx => ?_, fun h y hy => ?_⟩
    · have := h (z3 x) (List.mem_map.2 ⟨x, hx, rfl⟩)
      unfold z3 at this
      dsimp only at this
      omega
    · obtain ⟨x, hx, rfl⟩ := List.mem_map.1 hy
      have := h x hx
      unfold z3
      dsimp only
      omega
  by_cases hl : leastT t 6 ≤ n
  · rw [h.2 hl, decide_eq_true hl]
  · rw [decide_eq_false hl]
    exact Bool.eq_false_iff.2 fun e => hl (h.1 e)
end Go.Proofs.YtkdmhjlcgpnjpaaGreatDoor

namespace Go.Proofs.YtkdmhjlcgpnjpaaGreatDoor
set_option linter.unusedVariables false
set_option linter.unusedSimpArgs false

end Go.Proofs.YtkdmhjlcgpnjpaaGreatDoor
