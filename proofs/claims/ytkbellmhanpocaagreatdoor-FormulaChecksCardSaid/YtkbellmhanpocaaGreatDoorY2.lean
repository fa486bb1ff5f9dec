/- How deep a made formula can be; none. -/
import Derived.Test.YtkbellmhanpocaaGreatDoorQ4
namespace Go.Proofs.YtkbellmhanpocaaGreatDoor
set_option linter.unusedVariables false
set_option linter.unusedSimpArgs false
open Go.RowKit F
attribute [local go_sem low] Bel.cell Bel.frozen alloc_cell alloc_frozen

theorem levelsL_drop3 (l : List F) (n : Nat) : levelsL (l.drop n) ≤ levelsL l := by
  have h := levelsL_app (l.take n) (l.drop n)
  rw [List.take_append_drop] at h
  omega
theorem levels_topM (st : List F) (n : Nat) : levels (topM st n) ≤ max 1 (levelsL st) := by
  unfold topM
  split
  · rw [levels, levelsL]; omega
  · rename_i t r h
    have h1 := levelsL_drop3 st (st.length - 1)
    rw [h, levelsL] at h1
    omega
theorem levelsL_step (st : List F) (c : Nat) : levelsL (stepM st c) ≤ max (levelsL st + 1) 2 := by
  unfold stepM notM joinM
  split
  · rw [levelsL_app, levelsL_one, levels, levelsL]; omega
  · split
    · rw [levelsL_app, levelsL_one, levels, levelsL]; omega
    · split
      · have h1 := levels_topM st (c / 8)
        have h2 := levelsL_take3 st (st.length - 1)
        rw [levelsL_app, levelsL_one, levels, levelsL_one]; omega
      · have h1 := levelsL_drop3 st (cutM st (c / 8))
        have h2 := levelsL_take3 st (cutM st (c / 8))
        rw [levelsL_app, levelsL_one, levels]; omega
theorem levelsL_fold : ∀ (l : List UInt8) (st : List F) (n : Nat), levelsL st ≤ n → 1 ≤ n → levelsL (l.foldl (fun st c => stepM st c.toNat) st) ≤ n + l.length
  | [], st, n, h, _ => by simpa using h
  | c :: r, st, n, h, h1 => by
    rw [List.foldl_cons, List.length_cons]
    have := levelsL_fold r (stepM st c.toNat) (n + 1) (by have := levelsL_step st c.toNat; omega) (by omega)
    omega
theorem mkF_levels (code : List UInt8) : levels (mkF code) ≤ 32 := by
  have h := levelsL_fold (code.take 30) [] 1 (by rw [levelsL]; omega) (Nat.le_refl _)
  have hl : (code.take 30).length ≤ 30 := by rw [List.length_take]; omega
  have h2 : levelsL (runM (code.take 30)) ≤ 31 := by unfold runM; omega
  unfold mkF
  split
  · rename_i t ht
    rw [ht, levelsL_one] at h2
    omega
  · rw [levels]; omega
set_option maxRecDepth 100000 in
theorem none_any (w : World) : Calls Tryz.prog 9 #[.agg #[.int .i64 0, .int .i64 0, .slice none 0 0]] w (Ret (.bool true) w) := by
  go_enter Tryz.func9, Tryz.ntmps9
  go_wp2
  go_ret
  exact Ret.mk (by rfl) (by (repeat' (first | (with_reducible exact Below.refl _ _) | (with_reducible exact Nat.le_refl _) | (with_reducible refine Below.bel ?_ ?_) | (with_reducible refine Below.alloc ?_ ?_ _) | (with_reducible refine Below.drew ?_) | (with_reducible refine Below.drawsN ?_ _) | (with_reducible refine Below.setCell ?_ ?_ _) | (with_reducible refine le_bel ?_) | (with_reducible refine le_alloc ?_) | (with_reducible refine le_setCell ?_) | (with_reducible refine le_drew ?_) | (with_reducible refine le_drawsN ?_) | (dsimp only; with_reducible refine le_bel ?_) | (dsimp only; with_reducible refine Nat.le_refl _) | (dsimp only; with_reducible refine le_bel_add ?_) | (with_reducible assumption) | omega | (dsimp only; omega))))
end Go.Proofs.YtkbellmhanpocaaGreatDoor
