/- The reference's Terms. -/
import Derived.Test.YtoncbkkhfblpdaaDoorR
import Derived.Test.YtoncbkkhfblpdaaDoorH
import Derived.RangeFuncBox
import Derived.Maps.AppendAt
namespace Go.Proofs.YtoncbkkhfblpdaaDoor
open Go.RowKit
attribute [local go_sem low] Bel.cell Bel.frozen alloc_cell alloc_frozen

theorem Tryd.info3 : (Tryd.prog.info? 3).map (fun i => (i.zero, i.size, i.bytes)) = some (some (.int .i64 0), 1, 8) := by kernel_rfl
def intVs (l : List Int) : List Value := l.map (Value.int .i64)
/-- A slice that owns these ints. -/
def OwnI (w : World) (base : Nat) (v : Value) (l : List Int) : Prop := w.ownsRow base 3 1 v l.length (intVs l)
theorem ownI_nil (w : World) (base : Nat) : OwnI w base (.slice none 0 0) [] := World.ownsRow_nil _ _ _ _
theorem bel_grown {w : World} (x : Bel w) : w.grownBy x.w none := ⟨x.below.1, x.below.2, x.below.3, x.below.size, fun k hk _ => x.below.5 k hk⟩
theorem ownI_kept {w w' : World} {base : Nat} {v : Value} {l : List Int} (h : OwnI w base v l) (hg : w.grownBy w' none) : OwnI w' base v l :=
  World.ownsRow.kept h hg (by cases hv : v.ownBlock <;> simp)
theorem ownI_app {w w1 : World} {base : Nat} {v v' : Value} {l : List Int} {z : Int} {o : Obj} (h : OwnI w base v l) (hb : base ≤ w.heap.size)
    (h' : w1.ownsRow base 3 1 v' (l.length + 1) (intVs l ++ [.int .i64 z])) (hg : (w.alloc o).grownBy w1 v.ownBlock) : OwnI w1 base v' (l ++ [z]) ∧ Below base w w1 := by
  refine ⟨by unfold OwnI intVs; rw [List.length_append, List.map_append]; exact h', ?_⟩
  have hB : Below base w (w.alloc o) := (Below.refl _ _).alloc hb _
  refine hB.grown hg (by simp; omega) (fun k hk => ?_)
  rcases h.2 with ⟨rfl, _⟩ | ⟨g, cap, cur, rfl, hb, _⟩
  · cases hk
  · cases hk; exact hb

set_option maxHeartbeats 1600000 in
theorem refterms_any (n d : Int) (w : World) (hr : right n d = true) :
    Calls Tryd.prog 38 #[.agg #[.int .i64 n, .int .i64 d]] w fun e W' => ∃ v, e = .returned v ∧ OwnI W' w.heap.size v (termsL n d.toNat) ∧ Below w.heap.size w W' := by
  obtain ⟨r1, r2, r3, r4, r5⟩ := right_spec hr
  have hlen := (terms_value hr).2.2
  have hd : (d.toNat : Int) = d := by omega
  obtain ⟨i0, hi, hz0, hz1, hz2⟩ := info_parts Tryd.info3
  obtain ⟨T, hT⟩ : ∃ T, T = termsL n d.toNat := ⟨_, rfl⟩
  rw [← hT] at hlen ⊢
  clear hr r5
  go_enter Tryd.func38, Tryd.ntmps38
  go_wp2
  refine wp_region_bel (by kernel_rfl) (by kernel_rfl) ?_
  repeat (go_big_quiet_step (fail))
  refine wpQuiet_nil ?_
  rintro _ ⟨x, rfl⟩
  go_wp2
  have hxs := x.size_le
  have hxb := x.below
  go_loopw [3, 4, 5] (fun v p q wr => ∃ (pre : List Int) (n' : Int) (d' : Nat), pre ++ termsL n' d' = T ∧ p = .int .i64 n' ∧ q = .int .i64 (d' : Int) ∧ -1000000 ≤ n' ∧ n' ≤ 1000000 ∧ d' ≤ 1000000 ∧ OwnI wr w.heap.size v pre ∧ Below w.heap.size w wr) (fun v p q _ => (intOf q).toNat)
  case atStart => exact ⟨[], n, d.toNat, hT.symm, rfl, by rw [hd], r3, r4, by omega, ownI_nil _ _, by (repeat' (first | (with_reducible exact Below.refl _ _) | (with_reducible exact Nat.le_refl _) | (with_reducible refine Below.bel ?_ ?_) | (with_reducible refine Below.alloc ?_ ?_ _) | (with_reducible refine Below.drew ?_) | (with_reducible refine Below.drawsN ?_ _) | (with_reducible refine Below.setCell ?_ ?_ _) | (with_reducible refine le_bel ?_) | (with_reducible refine le_alloc ?_) | (with_reducible refine le_setCell ?_) | (with_reducible refine le_drew ?_) | (with_reducible refine le_drawsN ?_) | (dsimp only; with_reducible refine le_bel ?_) | (dsimp only; with_reducible refine Nat.le_refl _) | (dsimp only; with_reducible refine le_bel_add ?_) | (with_reducible assumption) | omega | (dsimp only; omega)))⟩
  case round =>
    obtain ⟨pre, n', d', hpre, rfl, rfl, b1, b2, b3, hown, hB⟩ := hrel
    have hbs := hB.size
    have hpl : pre.length + (termsL n' d').length ≤ 40 := by rw [← List.length_append, hpre]; exact hlen
    by_cases hd0 : d' = 0
    · have HP := Lib.hid hpre
      subst hd0
      clear hpre
      go_wp2
      go_ret
      exact ⟨_, rfl, by rw [← HP.out, termsL_zero, List.append_nil]; exact hown, hB⟩
    · have h1 : 1 ≤ pre.length + (termsL n' d').length - pre.length := by rw [termsL_pos _ hd0]; simp
      have hpl2 : pre.length + 1 ≤ 40 := by omega
      have HP := Lib.hid hpre
      have HO := Lib.hid hown
      clear hpre hown h1 hpl
      go_wp2_with fail
      (with_reducible refine (reffloor_any _ _ _ (by omega) (by omega) (by omega) (by omega)).mono ?_)
      rintro _ _ ⟨rfl, rfl⟩
      have hq1 : -1000001 ≤ n' / (d' : Int) ∧ n' / (d' : Int) ≤ 1000000 := by
        have := Int.natAbs_ediv_le_natAbs n' d'
        omega
      have hem := Int.ediv_mul_add_emod n' d'
      have hen := emod_nat (n := n') hd0
      have HR := Lib.hid (show pre ++ [n' / (d' : Int)] ++ termsL d' (n' % (d' : Int)).toNat = T by rw [← HP.out, termsL_pos n' hd0, List.append_assoc]; rfl)
      have HM := Lib.hid hem
      generalize n' / (d' : Int) = q' at *
      go_wp2_with (at_builtin; refine wpList_append_own _ rfl _ _ 36 rfl w.heap.size 3 i0 (.int .i64 0) 1 8 Tryd.underlying36 hi hz0 hz1 hz2 rfl (by decide) _ _ _ rfl (World.ownsRow.alloc HO.out _) ⟨wr.heap.size, 0, none⟩ 1 1 [.int .i64 q'] rfl rfl (cell_one_new _ _ _) (by simp [Value.oneCell']) (by unfold maxLen; omega) (by omega) (by simp; omega) ?_; intro v' w1 hown' hgrow _; obtain ⟨g', cap', rfl⟩ := ownsRow_succ hown'; obtain ⟨ho1, hb1⟩ := ownI_app HO.out hbs hown' hgrow)
      go_roundw
      case rel => exact ⟨pre ++ [q'], (d' : Int), (n' % (d' : Int)).toNat, HR.out, rfl, by go_num, by omega, by omega, by omega, ho1, hB.trans hb1⟩
      case measure => simp [intOf]; omega
end Go.Proofs.YtoncbkkhfblpdaaDoor
