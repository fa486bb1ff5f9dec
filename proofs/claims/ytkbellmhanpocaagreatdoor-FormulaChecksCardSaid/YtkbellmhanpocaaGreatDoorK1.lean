/- The worked examples. -/
import Derived.Test.YtkbellmhanpocaaGreatDoorG11
import Derived.Test.YtkbellmhanpocaaGreatDoorJ1
import Derived.Test.YtkbellmhanpocaaGreatDoorV2
import Derived.Test.YtkbellmhanpocaaGreatDoorW2
namespace Go.Proofs.YtkbellmhanpocaaGreatDoor
set_option linter.unusedVariables false
set_option linter.unusedSimpArgs false
open Go.RowKit F
attribute [local go_sem low] Bel.cell Bel.frozen alloc_cell alloc_frozen

def t1 : F := nd 3 0 [nd 1 0 [], nd 2 0 [nd 1 1 []], nd 4 0 [nd 1 2 [], nd 1 0 []]]
def t2 : F := nd 2 0 [nd 3 0 [nd 1 0 [], nd 2 0 [nd 1 1 []], nd 6 0 []]]
def t3 : F := nd 4 0 [nd 2 0 [nd 1 0 []], nd 1 1 [], nd 5 0 []]
def t4 : F := nd 2 0 [nd 3 0 [nd 1 0 [], nd 2 0 [nd 1 1 []]]]
theorem t2_nrm : nrm t2 false = t3 := by rfl
theorem t2_smp : smp t2 = t4 := by rfl
theorem t1_ok : okT t1 := (okT_iff _).2 (by decide +kernel)
theorem t2_ok : okT t2 := (okT_iff _).2 (by decide +kernel)
theorem t3_ok : okT t3 := (okT_iff _).2 (by decide +kernel)
theorem t4_ok : okT t4 := (okT_iff _).2 (by decide +kernel)
theorem t1_enough : enough [true, false, false] t1 := fun x hx => by
  obtain ⟨u, hu, hk, rfl⟩ := ((supF_spec [t1]).2 x).1 hx
  have : ∀ u ∈ preL [t1], u.k = 1 → u.a < 3 := by decide +kernel
  exact this u hu hk
theorem shows_tff (w : World) : ShowsV (w.alloc (.cells #[.bool true, .bool false, .bool false] 4)) (.slice (some ⟨w.heap.size, 0, none⟩) 3 3) (boolsV [true, false, false]) := by
  refine .inr ⟨w.heap.size, 0, 3, rfl, by decide, fun j x hj => ?_⟩
  rw [Nat.zero_add]
  have hb := World.alloc_heap_new w (.cells #[.bool true, .bool false, .bool false] 4)
  match j, hj with
  | 0, hj => simp [boolsV] at hj; subst hj; simp only [World.cell?, hb]; rfl
  | 1, hj => simp [boolsV] at hj; subst hj; simp only [World.cell?, hb]; rfl
  | 2, hj => simp [boolsV] at hj; subst hj; simp only [World.cell?, hb]; rfl
  | j + 3, hj => simp [boolsV] at hj
set_option maxRecDepth 100000 in
set_option maxHeartbeats 12800000 in
theorem known_any (w : World) (hT : Tab w) : Calls Tryz.prog 5 #[] w (Ret (.bool true) w) := by
  have HT := Lib.hid hT
  have HP1 := Lib.hid (fun w' => Parse_ok t1 w' t1_ok (by decide +kernel) (by decide +kernel) (by decide +kernel))
  have HP2 := Lib.hid (fun w' => Parse_ok t2 w' t2_ok (by decide +kernel) (by decide +kernel) (by decide +kernel))
  rw [show txt t1 = [38, 40, 120, 48, 32, 33, 120, 49, 32, 124, 40, 120, 50, 32, 120, 48, 41, 41] from by decide +kernel] at HP1
  rw [show txt t2 = [33, 38, 40, 120, 48, 32, 33, 120, 49, 32, 49, 41] from by decide +kernel] at HP2
  have HSZ := Lib.hid (fun (P : Nat → Prop) ad cap w' hi => Size_ok P t1 ad cap w' hi t1_ok (by decide +kernel) (by decide +kernel))
  rw [show ((nodes t1 : Nat) : Int) = 7 from by decide +kernel, show ((levels t1 : Nat) : Int) = 3 from by decide +kernel] at HSZ
  have HV := Lib.hid (fun (P : Nat → Prop) ad cap w' va vc hi hs => show Calls Tryz.prog 23 #[_, .slice va 3 vc] _ _ from Value_ok P t1 ad cap w' [true, false, false] va vc hi t1_ok (by decide +kernel) (by decide +kernel) hs (by decide) t1_enough)
  rw [show val (envL [true, false, false]) t1 = true from by decide +kernel] at HV
  have HN := Lib.hid (fun (P : Nat → Prop) ad cap w' hi => Normal_ok P t2 ad cap w' hi t2_ok (by decide +kernel) (by decide +kernel))
  rw [t2_nrm] at HN
  have HS := Lib.hid (fun (P : Nat → Prop) ad cap w' hi hT => Simplify_ok P t2 ad cap w' hi t2_ok (by decide +kernel) (by decide +kernel) hT)
  rw [t2_smp] at HS
  have HX3 := Lib.hid (fun (P : Nat → Prop) ad cap w' hi hT => Text_ok P t3 ad cap w' hi t3_ok (by decide +kernel) (by decide +kernel) hT)
  have HX4 := Lib.hid (fun (P : Nat → Prop) ad cap w' hi hT => Text_ok P t4 ad cap w' hi t4_ok (by decide +kernel) (by decide +kernel) hT)
  rw [show txt t3 = [124, 40, 33, 120, 48, 32, 120, 49, 32, 48, 41] from by decide +kernel] at HX3
  rw [show txt t4 = [33, 38, 40, 120, 48, 32, 33, 120, 49, 41] from by decide +kernel] at HX4
  clear hT
  go_enter Tryz.func5, Tryz.ntmps5
  go_wp2_with fail
  refine (HP1.out _).mono ?_
  rintro _ _ ⟨_, rfl, y1, rfl, ad1, cap1, rfl, hi1⟩
  have HI1 := Lib.hid hi1
  have hs1 := y1.size_le
  clear hi1
  dsimp only
  go_wp2_with fail
  refine (HSZ.out _ _ _ _ (HI1.out.of (by (repeat' (first | (with_reducible exact Below.refl _ _) | (with_reducible exact Nat.le_refl _) | (with_reducible refine Below.bel ?_ ?_) | (with_reducible refine Below.alloc ?_ ?_ _) | (with_reducible refine Below.drew ?_) | (with_reducible refine Below.drawsN ?_ _) | (with_reducible refine Below.setCell ?_ ?_ _) | (with_reducible refine le_bel ?_) | (with_reducible refine le_alloc ?_) | (with_reducible refine le_setCell ?_) | (with_reducible refine le_drew ?_) | (with_reducible refine le_drawsN ?_) | (dsimp only; with_reducible refine le_bel ?_) | (dsimp only; with_reducible refine Nat.le_refl _) | (dsimp only; with_reducible refine le_bel_add ?_) | (with_reducible assumption) | omega | (dsimp only; omega)))))).mono ?_
  rintro _ _ ⟨rfl, y2, rfl⟩
  have hs2 := y2.size_le
  simp at hs2
  have hb1 := obj_bel y2 (World.alloc_heap_new y1.w (.cells #[.int .i64 t1.k, .int .i64 t1.a, .slice ad1 t1.l.length cap1] 26))
  obtain ⟨a0, a1, a2⟩ := box3 hb1
  dsimp only
  go_wp2_with fail
  refine (HV.out _ _ _ _ _ _ (HI1.out.of (by (repeat' (first | (with_reducible exact Below.refl _ _) | (with_reducible exact Nat.le_refl _) | (with_reducible refine Below.bel ?_ ?_) | (with_reducible refine Below.alloc ?_ ?_ _) | (with_reducible refine Below.drew ?_) | (with_reducible refine Below.drawsN ?_ _) | (with_reducible refine Below.setCell ?_ ?_ _) | (with_reducible refine le_bel ?_) | (with_reducible refine le_alloc ?_) | (with_reducible refine le_setCell ?_) | (with_reducible refine le_drew ?_) | (with_reducible refine le_drawsN ?_) | (dsimp only; with_reducible refine le_bel ?_) | (dsimp only; with_reducible refine Nat.le_refl _) | (dsimp only; with_reducible refine le_bel_add ?_) | (with_reducible assumption) | omega | (dsimp only; omega))))) (shows_tff y2.w)).mono ?_
  rintro _ _ ⟨rfl, y3, rfl⟩
  have hs3 := y3.size_le
  simp at hs3
  dsimp only
  go_wp2_with fail
  refine (HP2.out _).mono ?_
  rintro _ _ ⟨_, rfl, y4, rfl, ad4, cap4, rfl, hi4⟩
  have HI4 := Lib.hid hi4
  have hs4 := y4.size_le
  have hg4 := World.alloc_heap_new y4.w (.cells #[.int .i64 t2.k, .int .i64 t2.a, .slice ad4 t2.l.length cap4] 26)
  clear hi4
  dsimp only
  go_wp2_with fail
  refine (HN.out _ _ _ _ (HI4.out.of (by (repeat' (first | (with_reducible exact Below.refl _ _) | (with_reducible exact Nat.le_refl _) | (with_reducible refine Below.bel ?_ ?_) | (with_reducible refine Below.alloc ?_ ?_ _) | (with_reducible refine Below.drew ?_) | (with_reducible refine Below.drawsN ?_ _) | (with_reducible refine Below.setCell ?_ ?_ _) | (with_reducible refine le_bel ?_) | (with_reducible refine le_alloc ?_) | (with_reducible refine le_setCell ?_) | (with_reducible refine le_drew ?_) | (with_reducible refine le_drawsN ?_) | (dsimp only; with_reducible refine le_bel ?_) | (dsimp only; with_reducible refine Nat.le_refl _) | (dsimp only; with_reducible refine le_bel_add ?_) | (with_reducible assumption) | omega | (dsimp only; omega)))))).mono ?_
  rintro _ _ ⟨_, rfl, y5, rfl, ad5, cap5, rfl, hi5⟩
  have HI5 := Lib.hid hi5
  have hs5 := y5.size_le
  simp at hs5
  have hg5 := obj_bel y5 hg4
  have hg5' := obj_bel ⟨_, (by (repeat' (first | (with_reducible exact Below.refl _ _) | (with_reducible exact Nat.le_refl _) | (with_reducible refine Below.bel ?_ ?_) | (with_reducible refine Below.alloc ?_ ?_ _) | (with_reducible refine Below.drew ?_) | (with_reducible refine Below.drawsN ?_ _) | (with_reducible refine Below.setCell ?_ ?_ _) | (with_reducible refine le_bel ?_) | (with_reducible refine le_alloc ?_) | (with_reducible refine le_setCell ?_) | (with_reducible refine le_drew ?_) | (with_reducible refine le_drawsN ?_) | (dsimp only; with_reducible refine le_bel ?_) | (dsimp only; with_reducible refine Nat.le_refl _) | (dsimp only; with_reducible refine le_bel_add ?_) | (with_reducible assumption) | omega | (dsimp only; omega))) : Below y5.w.heap.size y5.w (y5.w.alloc (.cells #[.int .i64 t3.k, .int .i64 t3.a, .slice ad5 t3.l.length cap5] 26)))⟩ hg5
  obtain ⟨b0, b1, b2⟩ := box3 hg5'
  have hn5 := World.alloc_heap_new y5.w (.cells #[.int .i64 t3.k, .int .i64 t3.a, .slice ad5 t3.l.length cap5] 26)
  clear hi5
  dsimp only
  go_wp2_with fail
  refine (HS.out _ _ _ _ (HI4.out.of (by (repeat' (first | (with_reducible exact Below.refl _ _) | (with_reducible exact Nat.le_refl _) | (with_reducible refine Below.bel ?_ ?_) | (with_reducible refine Below.alloc ?_ ?_ _) | (with_reducible refine Below.drew ?_) | (with_reducible refine Below.drawsN ?_ _) | (with_reducible refine Below.setCell ?_ ?_ _) | (with_reducible refine le_bel ?_) | (with_reducible refine le_alloc ?_) | (with_reducible refine le_setCell ?_) | (with_reducible refine le_drew ?_) | (with_reducible refine le_drawsN ?_) | (dsimp only; with_reducible refine le_bel ?_) | (dsimp only; with_reducible refine Nat.le_refl _) | (dsimp only; with_reducible refine le_bel_add ?_) | (with_reducible assumption) | omega | (dsimp only; omega))))) (HT.out.of (by (repeat' (first | (with_reducible exact Below.refl _ _) | (with_reducible exact Nat.le_refl _) | (with_reducible refine Below.bel ?_ ?_) | (with_reducible refine Below.alloc ?_ ?_ _) | (with_reducible refine Below.drew ?_) | (with_reducible refine Below.drawsN ?_ _) | (with_reducible refine Below.setCell ?_ ?_ _) | (with_reducible refine le_bel ?_) | (with_reducible refine le_alloc ?_) | (with_reducible refine le_setCell ?_) | (with_reducible refine le_drew ?_) | (with_reducible refine le_drawsN ?_) | (dsimp only; with_reducible refine le_bel ?_) | (dsimp only; with_reducible refine Nat.le_refl _) | (dsimp only; with_reducible refine le_bel_add ?_) | (with_reducible assumption) | omega | (dsimp only; omega)))))).mono ?_
  rintro _ _ ⟨_, rfl, y6, rfl, ad6, cap6, rfl, hi6⟩
  have HI6 := Lib.hid hi6
  have hs6 := y6.size_le
  simp at hs6
  have hn6 := obj_bel y6 hn5
  have hn6' := obj_bel ⟨_, (by (repeat' (first | (with_reducible exact Below.refl _ _) | (with_reducible exact Nat.le_refl _) | (with_reducible refine Below.bel ?_ ?_) | (with_reducible refine Below.alloc ?_ ?_ _) | (with_reducible refine Below.drew ?_) | (with_reducible refine Below.drawsN ?_ _) | (with_reducible refine Below.setCell ?_ ?_ _) | (with_reducible refine le_bel ?_) | (with_reducible refine le_alloc ?_) | (with_reducible refine le_setCell ?_) | (with_reducible refine le_drew ?_) | (with_reducible refine le_drawsN ?_) | (dsimp only; with_reducible refine le_bel ?_) | (dsimp only; with_reducible refine Nat.le_refl _) | (dsimp only; with_reducible refine le_bel_add ?_) | (with_reducible assumption) | omega | (dsimp only; omega))) : Below y6.w.heap.size y6.w (y6.w.alloc (.cells #[.int .i64 t4.k, .int .i64 t4.a, .slice ad6 t4.l.length cap6] 26)))⟩ hn6
  obtain ⟨d0, d1, d2⟩ := box3 hn6'
  have hq6 := World.alloc_heap_new y6.w (.cells #[.int .i64 t4.k, .int .i64 t4.a, .slice ad6 t4.l.length cap6] 26)
  clear hi6
  dsimp only
  go_wp2_with fail
  refine (HX3.out _ _ _ _ (HI5.out.of (by (repeat' (first | (with_reducible exact Below.refl _ _) | (with_reducible exact Nat.le_refl _) | (with_reducible refine Below.bel ?_ ?_) | (with_reducible refine Below.alloc ?_ ?_ _) | (with_reducible refine Below.drew ?_) | (with_reducible refine Below.drawsN ?_ _) | (with_reducible refine Below.setCell ?_ ?_ _) | (with_reducible refine le_bel ?_) | (with_reducible refine le_alloc ?_) | (with_reducible refine le_setCell ?_) | (with_reducible refine le_drew ?_) | (with_reducible refine le_drawsN ?_) | (dsimp only; with_reducible refine le_bel ?_) | (dsimp only; with_reducible refine Nat.le_refl _) | (dsimp only; with_reducible refine le_bel_add ?_) | (with_reducible assumption) | omega | (dsimp only; omega))))) (HT.out.of (by (repeat' (first | (with_reducible exact Below.refl _ _) | (with_reducible exact Nat.le_refl _) | (with_reducible refine Below.bel ?_ ?_) | (with_reducible refine Below.alloc ?_ ?_ _) | (with_reducible refine Below.drew ?_) | (with_reducible refine Below.drawsN ?_ _) | (with_reducible refine Below.setCell ?_ ?_ _) | (with_reducible refine le_bel ?_) | (with_reducible refine le_alloc ?_) | (with_reducible refine le_setCell ?_) | (with_reducible refine le_drew ?_) | (with_reducible refine le_drawsN ?_) | (dsimp only; with_reducible refine le_bel ?_) | (dsimp only; with_reducible refine Nat.le_refl _) | (dsimp only; with_reducible refine le_bel_add ?_) | (with_reducible assumption) | omega | (dsimp only; omega)))))).mono ?_
  rintro _ _ ⟨rfl, y7, rfl⟩
  have hs7 := y7.size_le
  simp at hs7
  obtain ⟨e0, e1, e2⟩ := box3 (obj_bel y7 hq6)
  dsimp only
  go_wp2_with fail
  refine (HX4.out _ _ _ _ (HI6.out.of (by (repeat' (first | (with_reducible exact Below.refl _ _) | (with_reducible exact Nat.le_refl _) | (with_reducible refine Below.bel ?_ ?_) | (with_reducible refine Below.alloc ?_ ?_ _) | (with_reducible refine Below.drew ?_) | (with_reducible refine Below.drawsN ?_ _) | (with_reducible refine Below.setCell ?_ ?_ _) | (with_reducible refine le_bel ?_) | (with_reducible refine le_alloc ?_) | (with_reducible refine le_setCell ?_) | (with_reducible refine le_drew ?_) | (with_reducible refine le_drawsN ?_) | (dsimp only; with_reducible refine le_bel ?_) | (dsimp only; with_reducible refine Nat.le_refl _) | (dsimp only; with_reducible refine le_bel_add ?_) | (with_reducible assumption) | omega | (dsimp only; omega))))) (HT.out.of (by (repeat' (first | (with_reducible exact Below.refl _ _) | (with_reducible exact Nat.le_refl _) | (with_reducible refine Below.bel ?_ ?_) | (with_reducible refine Below.alloc ?_ ?_ _) | (with_reducible refine Below.drew ?_) | (with_reducible refine Below.drawsN ?_ _) | (with_reducible refine Below.setCell ?_ ?_ _) | (with_reducible refine le_bel ?_) | (with_reducible refine le_alloc ?_) | (with_reducible refine le_setCell ?_) | (with_reducible refine le_drew ?_) | (with_reducible refine le_drawsN ?_) | (dsimp only; with_reducible refine le_bel ?_) | (dsimp only; with_reducible refine Nat.le_refl _) | (dsimp only; with_reducible refine le_bel_add ?_) | (with_reducible assumption) | omega | (dsimp only; omega)))))).mono ?_
  rintro _ _ ⟨rfl, y8, rfl⟩
  dsimp only
  go_wp2
  go_ret
  exact Ret.mk (by rfl) (by (repeat' (first | (with_reducible exact Below.refl _ _) | (with_reducible exact Nat.le_refl _) | (with_reducible refine Below.bel ?_ ?_) | (with_reducible refine Below.alloc ?_ ?_ _) | (with_reducible refine Below.drew ?_) | (with_reducible refine Below.drawsN ?_ _) | (with_reducible refine Below.setCell ?_ ?_ _) | (with_reducible refine le_bel ?_) | (with_reducible refine le_alloc ?_) | (with_reducible refine le_setCell ?_) | (with_reducible refine le_drew ?_) | (with_reducible refine le_drawsN ?_) | (dsimp only; with_reducible refine le_bel ?_) | (dsimp only; with_reducible refine Nat.le_refl _) | (dsimp only; with_reducible refine le_bel_add ?_) | (with_reducible assumption) | omega | (dsimp only; omega))))
end Go.Proofs.YtkbellmhanpocaaGreatDoor