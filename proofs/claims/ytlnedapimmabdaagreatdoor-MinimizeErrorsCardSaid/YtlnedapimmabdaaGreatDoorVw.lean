/- The worked example of the law (printed by genvw.py). -/
import Derived.Test.YtlnedapimmabdaaGreatDoorV6
import Derived.Test.YtlnedapimmabdaaGreatDoorInv
import Derived.Deep.CutRange
import Derived.Deep.RegionHeld3
namespace Go.Proofs.YtlnedapimmabdaaGreatDoor
set_option linter.unusedVariables false
set_option linter.unusedSimpArgs false
open Go.RowKit Go.Maps
theorem drew_size (w : World) : w.drew.heap.size = w.heap.size := rfl
theorem known_eq1 {W : World} {c : NW} {g o a : Nat} (hc : NWs 2 W c) (e : c.1 = kG4) (hg : W.heap[g]? = some (.cells #[.int .i64 1, .int .i64 0, .slice none 0 0, .int .i64 1, .int .i64 1, .slice none 0 0, .int .i64 3, .int .i64 0, .slice (some ⟨a, 0, none⟩) 2 2] 45 (0, 0))) (ho : W.heap[o]? = some (.cells #[.int .i64 2] 3 (0, 0))) (ha : W.heap[a]? = some (.cells #[.int .i64 0, .int .i64 1] 3 (0, 0))) :
    Calls Tryz.prog 14 #[.agg #[.slice c.2.1 c.1.1.length c.2.2.1, .slice c.2.2.2.1 c.1.2.length c.2.2.2.2], .agg #[.slice (some ⟨g, 0, none⟩) 3 3, .slice (some ⟨o, 0, none⟩) 1 1]] W (Ret (.bool true) W) := by
  have hy : NWs 2 W (kG4, some ⟨g, 0, none⟩, 3, some ⟨o, 0, none⟩, 1) := nws_mem (W := W) (G := kG4.1) (O := kG4.2) (gc := 3) (oc := 1) [(((1 : Int), (0 : Int), ([] : List Int)), (none : Option Addr), 0), (((1 : Int), (1 : Int), ([] : List Int)), (none : Option Addr), 0), (((3 : Int), (0 : Int), ([0, 1] : List Int)), some ⟨a, 0, none⟩, 2)] rfl hg ho (fun u hu => by
    simp only [List.mem_cons, List.not_mem_nil, or_false] at hu
    rcases hu with rfl | rfl | rfl
    · exact inS_none
    · exact inS_none
    · exact inS_mem [0, 1] ha) kG4_ok (by decide) (by decide) (by decide) (by decide) (by decide)
  have h := relEq_nw c _ W hc hy
  rw [show decide (c.1 = kG4) = true from by rw [e]; decide] at h
  exact h
theorem known_eq2 {W : World} {c : NW} {g o : Nat} (hc : NWs 2 W c) (e : c.1 = kG2) (hy : NWs 2 W (kG2, some ⟨g, 0, none⟩, 4, some ⟨o, 0, none⟩, 1)) :
    Calls Tryz.prog 14 #[.agg #[.slice c.2.1 c.1.1.length c.2.2.1, .slice c.2.2.2.1 c.1.2.length c.2.2.2.2], .agg #[.slice (some ⟨g, 0, none⟩) 4 4, .slice (some ⟨o, 0, none⟩) 1 1]] W (Ret (.bool true) W) := by
  have h := relEq_nw c _ W hc hy
  rw [show decide (c.1 = kG2) = true from by rw [e]; decide] at h
  exact h
theorem cell_iv {W : World} {b i : Nat} {cur : Array Value} {t : TypeId} {v : Value} (h : W.heap[b]? = some (.cells cur t (0, 0))) (hi : cur[i]? = some v) : W.cell? ⟨b, i, none⟩ = some v := by
  simp [World.cell?, h, hi]
def known7F (c1 c2 c3 : NW) (gB bD gD capD b3 b5 b7 : Nat) : List (Tmp × Fact) := [
  (58, (.is (.int .i64 0))),
  (59, (.is (.bool true))),
  (60, (.is (.bool true))),
  (61, (.is (.agg #[.slice c1.2.1 c1.1.1.length c1.2.2.1, .slice c1.2.2.2.1 c1.1.2.length c1.2.2.2.2]))),
  (62, (.is (.agg #[.int .i64 1, .int .i64 0, .slice none 0 0]))),
  (63, (.is (.agg #[.int .i64 1, .int .i64 1, .slice none 0 0]))),
  (64, (.has (fun v w => ∃ a, v = .slice (some ⟨a, 0, none⟩) 2 2 ∧ w.heap[a]? = some (.cells #[.int .i64 0, .int .i64 1] 3 (0, 0))) (fun v w w' h hb => by obtain ⟨x0, e, h0⟩ := h; exact ⟨x0, e, obj_in hb h0⟩))),
  (65, (.has (fun v w => ∃ a, v = .agg #[.int .i64 3, .int .i64 0, .slice (some ⟨a, 0, none⟩) 2 2] ∧ w.heap[a]? = some (.cells #[.int .i64 0, .int .i64 1] 3 (0, 0))) (fun v w w' h hb => by obtain ⟨x0, e, h0⟩ := h; exact ⟨x0, e, obj_in hb h0⟩))),
  (66, (.has (fun v w => ∃ g a, v = .slice (some ⟨g, 0, none⟩) 3 3 ∧ w.heap[g]? = some (.cells #[.int .i64 1, .int .i64 0, .slice none 0 0, .int .i64 1, .int .i64 1, .slice none 0 0, .int .i64 3, .int .i64 0, .slice (some ⟨a, 0, none⟩) 2 2] 45 (0, 0)) ∧ w.heap[a]? = some (.cells #[.int .i64 0, .int .i64 1] 3 (0, 0))) (fun v w w' h hb => by obtain ⟨x0, x1, e, h0, h1⟩ := h; exact ⟨x0, x1, e, obj_in hb h0, obj_in hb h1⟩))),
  (67, (.has (fun v w => ∃ o, v = .slice (some ⟨o, 0, none⟩) 1 1 ∧ w.heap[o]? = some (.cells #[.int .i64 2] 3 (0, 0))) (fun v w w' h hb => by obtain ⟨x0, e, h0⟩ := h; exact ⟨x0, e, obj_in hb h0⟩))),
  (68, (.has (fun v w => ∃ g o a, v = .agg #[.slice (some ⟨g, 0, none⟩) 3 3, .slice (some ⟨o, 0, none⟩) 1 1] ∧ w.heap[g]? = some (.cells #[.int .i64 1, .int .i64 0, .slice none 0 0, .int .i64 1, .int .i64 1, .slice none 0 0, .int .i64 3, .int .i64 0, .slice (some ⟨a, 0, none⟩) 2 2] 45 (0, 0)) ∧ w.heap[o]? = some (.cells #[.int .i64 2] 3 (0, 0)) ∧ w.heap[a]? = some (.cells #[.int .i64 0, .int .i64 1] 3 (0, 0))) (fun v w w' h hb => by obtain ⟨x0, x1, x2, e, h0, h1, h2⟩ := h; exact ⟨x0, x1, x2, e, obj_in hb h0, obj_in hb h1, obj_in hb h2⟩))),
  (69, (.is (.bool true))),
  (70, (.is (.bool true))),
  (71, (.is (.bool true))),
  (72, (.is (.int .i64 0))),
  (73, (.is (.bool true))),
  (74, (.is (.bool true))),
  (75, (.is (.bool true))),
  (76, (.is (.agg #[.slice c2.2.1 c2.1.1.length c2.2.2.1, .slice c2.2.2.2.1 c2.1.2.length c2.2.2.2.2]))),
  (77, (.is (.agg #[.slice (some ⟨gB, 0, none⟩) 4 4, .slice (some ⟨gB + 1, 0, none⟩) 1 1]))),
  (78, (.is (.bool true))),
  (79, (.is (.bool true))),
  (80, (.is (.bool true))),
  (81, (.is (.int .i64 0))),
  (82, (.is (.bool true))),
  (83, (.is (.bool true))),
  (84, (.is (.bool true))),
  (85, (.is (.pointer (some ⟨b7, 0, none⟩)))),
  (86, (.is (.slice c3.2.1 1 c3.2.2.1))),
  (87, (.is (.int .i64 1))),
  (88, (.is (.bool true))),
  (89, (.is (.bool true))),
  (90, (.is (.bool true))),
  (91, (.is (.int .i64 0))),
  (92, (.is (.bool true))),
  (93, (.is (.bool true))),
  (94, (.is (.bool true))),
  (95, (.is (.bool true))),
  (96, (.is (.bool true))),
  (97, (.is (.bool true))),
  (98, (.is (.pointer (some ⟨bD, 0, none⟩)))),
  (99, (.is (.int .i64 0))),
  (100, (.is (.bool true))),
  (101, (.is (.bool true))),
  (102, (.is (.bool true))),
  (103, (.is (.pointer (some ⟨bD, 1, none⟩)))),
  (104, (.is (.slice (some ⟨gD, 0, none⟩) 2 capD))),
  (105, (.is (.int .i64 2))),
  (106, (.is (.bool true))),
  (107, (.is (.bool true))),
  (108, (.is (.bool true))),
  (109, (.is (.pointer (some ⟨bD, 1, none⟩)))),
  (110, (.is (.slice (some ⟨gD, 0, none⟩) 2 capD))),
  (111, (.is (.pointer (some ⟨gD, 0, none⟩)))),
  (112, (.is (.bool false))),
  (113, (.is (.bool true))),
  (114, (.is (.bool true))),
  (115, (.is (.bool true))),
  (116, (.is (.pointer (some ⟨bD, 1, none⟩)))),
  (117, (.is (.slice (some ⟨gD, 0, none⟩) 2 capD))),
  (118, (.is (.pointer (some ⟨gD, 1, none⟩)))),
  (119, (.is (.bool true))),
  (120, (.is (.bool true))),
  (0, (.is (.bool true)))]
def known7S (c1 c2 c3 : NW) (gB bD gD capD b3 b5 b7 : Nat) : List (Tmp × Value) := [(2, .pointer (some ⟨gB + 1 + 1, 0, none⟩)), (3, .pointer (some ⟨b3, 0, none⟩)), (4, .int .i64 0), (5, .pointer (some ⟨b5, 0, none⟩)), (6, .int .i64 0), (7, .pointer (some ⟨b7, 0, none⟩)), (8, .int .i64 0), (9, .pointer (some ⟨bD, 0, none⟩)), (10, .bool true), (11, .int .i64 0)]

attribute [local go_sem low] Bel.cell Bel.frozen alloc_cell alloc_frozen
attribute [local go_sem] calmOp chainOp yieldsC grows

theorem build3 (ρ : Operand → Value) (o : Oper) (ho : o.op = Op.buildSlice 22 3 #[(0, .tmp 62), (1, .tmp 63), (2, .tmp 65)]) (w : World) (a : Nat) (f : Fact) (d62 : ρ (.tmp 62) = .agg #[.int .i64 1, .int .i64 0, .slice none 0 0]) (d63 : ρ (.tmp 63) = .agg #[.int .i64 1, .int .i64 1, .slice none 0 0]) (d65 : ρ (.tmp 65) = .agg #[.int .i64 3, .int .i64 0, .slice (some ⟨a, 0, none⟩) 2 2])
    (hf : f.of (.slice (some ⟨w.heap.size, 0, none⟩) 3 3) (w.alloc (.cells #[.int .i64 1, .int .i64 0, .slice none 0 0, .int .i64 1, .int .i64 1, .slice none 0 0, .int .i64 3, .int .i64 0, .slice (some ⟨a, 0, none⟩) 2 2] 45 (0, 0)))) : grows Tryz.prog w f.of ((execOp ρ o).run Tryz.prog w) := by
  have HF := Lib.hid hf
  clear hf
  unfold execOp
  rw [ho]
  go_simp
  exact ⟨(Below.refl _ _).alloc (Nat.le_refl _) _, HF.out⟩
set_option maxRecDepth 100000 in
set_option maxHeartbeats 25600000 in
theorem known_any (w : World) (hT : Tab w) : Calls Tryz.prog 11 #[] w (Ret (.bool true) w) := by
  have HT := Lib.hid hT
  clear hT
  have hB : Below w.heap.size w w := Below.refl _ _
  go_enter Tryz.func11, Tryz.ntmps11
  go_wp2_with fail
  refine (mkGate_any _ _ _ _ _ _).mono ?_
  rintro _ _ ⟨rfl, y1, rfl⟩
  have hE : Below w.heap.size w w := (Below.refl w.heap.size w)
  have hY : Below w.heap.size w y1.w := hE.trans (y1.below.mono hE.size)
  clear hE
  replace hB := hB.trans (hY.mono hB.size)
  clear hY
  dsimp only
  go_wp2_with fail
  refine (mkGate_any _ _ _ _ _ _).mono ?_
  rintro _ _ ⟨rfl, y2, rfl⟩
  have hE : Below y1.w.heap.size y1.w y1.w := (Below.refl y1.w.heap.size y1.w)
  have hY : Below y1.w.heap.size y1.w y2.w := hE.trans (y2.below.mono hE.size)
  clear hE
  replace hB := hB.trans (hY.mono hB.size)
  clear hY
  dsimp only
  go_wp2_with fail
  refine (mkGate_any _ _ _ _ _ _).mono ?_
  rintro _ _ ⟨rfl, y3, rfl⟩
  have hE : Below y2.w.heap.size y2.w y2.w := (Below.refl y2.w.heap.size y2.w)
  have hY : Below y2.w.heap.size y2.w y3.w := hE.trans (y3.below.mono hE.size)
  clear hE
  replace hB := hB.trans (hY.mono hB.size)
  clear hY
  dsimp only
  go_wp2_with fail
  obtain ⟨b1, hb1⟩ : ∃ b, y3.w.heap.size = b := ⟨_, rfl⟩
  rw [hb1]
  refine (mkGate_any _ _ _ _ _ _).mono ?_
  rintro _ _ ⟨rfl, y4, rfl⟩
  have a1 := World.alloc_heap_new y3.w (.cells #[.int .i64 0, .int .i64 1] 3 (0, 0))
  have hE : Below y3.w.heap.size y3.w (y3.w.alloc (.cells #[.int .i64 0, .int .i64 1] 3 (0, 0))) := ((Below.refl y3.w.heap.size y3.w).alloc (Nat.le_refl _) _)
  have hY : Below y3.w.heap.size y3.w y4.w := hE.trans (y4.below.mono hE.size)
  replace a1 := obj_in y4.below a1
  clear hE
  replace hB := hB.trans (hY.mono hB.size)
  clear hY
  rw [hb1] at a1
  dsimp only
  go_wp2_with fail
  obtain ⟨b2, hb2⟩ : ∃ b, y4.w.heap.size = b := ⟨_, rfl⟩
  rw [hb2]
  refine (mkGate_any _ _ _ _ _ _).mono ?_
  rintro _ _ ⟨rfl, y5, rfl⟩
  replace a1 := obj_alloc (.cells #[.int .i64 1, .int .i64 2] 3 (0, 0)) a1
  have a2 := World.alloc_heap_new y4.w (.cells #[.int .i64 1, .int .i64 2] 3 (0, 0))
  have hE : Below y4.w.heap.size y4.w (y4.w.alloc (.cells #[.int .i64 1, .int .i64 2] 3 (0, 0))) := ((Below.refl y4.w.heap.size y4.w).alloc (Nat.le_refl _) _)
  have hY : Below y4.w.heap.size y4.w y5.w := hE.trans (y5.below.mono hE.size)
  replace a1 := obj_in y5.below a1
  replace a2 := obj_in y5.below a2
  clear hE
  replace hB := hB.trans (hY.mono hB.size)
  clear hY
  rw [hb2] at a2
  dsimp only
  go_wp2_with fail
  obtain ⟨b3, hb3⟩ : ∃ b, y5.w.heap.size = b := ⟨_, rfl⟩
  rw [hb3]
  refine (mkGate_any _ _ _ _ _ _).mono ?_
  rintro _ _ ⟨rfl, y6, rfl⟩
  replace a1 := obj_alloc (.cells #[.int .i64 3, .int .i64 4] 3 (0, 0)) a1
  replace a2 := obj_alloc (.cells #[.int .i64 3, .int .i64 4] 3 (0, 0)) a2
  have a3 := World.alloc_heap_new y5.w (.cells #[.int .i64 3, .int .i64 4] 3 (0, 0))
  have hE : Below y5.w.heap.size y5.w (y5.w.alloc (.cells #[.int .i64 3, .int .i64 4] 3 (0, 0))) := ((Below.refl y5.w.heap.size y5.w).alloc (Nat.le_refl _) _)
  have hY : Below y5.w.heap.size y5.w y6.w := hE.trans (y6.below.mono hE.size)
  replace a1 := obj_in y6.below a1
  replace a2 := obj_in y6.below a2
  replace a3 := obj_in y6.below a3
  clear hE
  replace hB := hB.trans (hY.mono hB.size)
  clear hY
  rw [hb3] at a3
  dsimp only
  go_wp2_with fail
  obtain ⟨gA, hgA⟩ : ∃ b, y6.w.heap.size = b := ⟨_, rfl⟩
  rw [hgA]
  refine (mkGate_any _ _ _ _ _ _).mono ?_
  rintro _ _ ⟨rfl, y7, rfl⟩
  replace a1 := obj_alloc (.cells #[.int .i64 1, .int .i64 0, .slice none 0 0, .int .i64 1, .int .i64 1, .slice none 0 0, .int .i64 1, .int .i64 0, .slice none 0 0, .int .i64 3, .int .i64 0, .slice (some ⟨b1, 0, none⟩) 2 2, .int .i64 3, .int .i64 0, .slice (some ⟨b2, 0, none⟩) 2 2, .int .i64 4, .int .i64 0, .slice (some ⟨b3, 0, none⟩) 2 2] 45 (0, 0)) a1
  replace a2 := obj_alloc (.cells #[.int .i64 1, .int .i64 0, .slice none 0 0, .int .i64 1, .int .i64 1, .slice none 0 0, .int .i64 1, .int .i64 0, .slice none 0 0, .int .i64 3, .int .i64 0, .slice (some ⟨b1, 0, none⟩) 2 2, .int .i64 3, .int .i64 0, .slice (some ⟨b2, 0, none⟩) 2 2, .int .i64 4, .int .i64 0, .slice (some ⟨b3, 0, none⟩) 2 2] 45 (0, 0)) a2
  replace a3 := obj_alloc (.cells #[.int .i64 1, .int .i64 0, .slice none 0 0, .int .i64 1, .int .i64 1, .slice none 0 0, .int .i64 1, .int .i64 0, .slice none 0 0, .int .i64 3, .int .i64 0, .slice (some ⟨b1, 0, none⟩) 2 2, .int .i64 3, .int .i64 0, .slice (some ⟨b2, 0, none⟩) 2 2, .int .i64 4, .int .i64 0, .slice (some ⟨b3, 0, none⟩) 2 2] 45 (0, 0)) a3
  have g1 := World.alloc_heap_new y6.w (.cells #[.int .i64 1, .int .i64 0, .slice none 0 0, .int .i64 1, .int .i64 1, .slice none 0 0, .int .i64 1, .int .i64 0, .slice none 0 0, .int .i64 3, .int .i64 0, .slice (some ⟨b1, 0, none⟩) 2 2, .int .i64 3, .int .i64 0, .slice (some ⟨b2, 0, none⟩) 2 2, .int .i64 4, .int .i64 0, .slice (some ⟨b3, 0, none⟩) 2 2] 45 (0, 0))
  replace a1 := obj_alloc (.cells #[.int .i64 5] 3 (0, 0)) a1
  replace a2 := obj_alloc (.cells #[.int .i64 5] 3 (0, 0)) a2
  replace a3 := obj_alloc (.cells #[.int .i64 5] 3 (0, 0)) a3
  replace g1 := obj_alloc (.cells #[.int .i64 5] 3 (0, 0)) g1
  have o1 := newAt1 y6.w (.cells #[.int .i64 1, .int .i64 0, .slice none 0 0, .int .i64 1, .int .i64 1, .slice none 0 0, .int .i64 1, .int .i64 0, .slice none 0 0, .int .i64 3, .int .i64 0, .slice (some ⟨b1, 0, none⟩) 2 2, .int .i64 3, .int .i64 0, .slice (some ⟨b2, 0, none⟩) 2 2, .int .i64 4, .int .i64 0, .slice (some ⟨b3, 0, none⟩) 2 2] 45 (0, 0)) (.cells #[.int .i64 5] 3 (0, 0))
  replace a1 := obj_alloc (.cells #[.slice (some ⟨gA, 0, none⟩) 6 6, .slice (some ⟨gA + 1, 0, none⟩) 1 1] 25 (0, 0)) a1
  replace a2 := obj_alloc (.cells #[.slice (some ⟨gA, 0, none⟩) 6 6, .slice (some ⟨gA + 1, 0, none⟩) 1 1] 25 (0, 0)) a2
  replace a3 := obj_alloc (.cells #[.slice (some ⟨gA, 0, none⟩) 6 6, .slice (some ⟨gA + 1, 0, none⟩) 1 1] 25 (0, 0)) a3
  replace g1 := obj_alloc (.cells #[.slice (some ⟨gA, 0, none⟩) 6 6, .slice (some ⟨gA + 1, 0, none⟩) 1 1] 25 (0, 0)) g1
  replace o1 := obj_alloc (.cells #[.slice (some ⟨gA, 0, none⟩) 6 6, .slice (some ⟨gA + 1, 0, none⟩) 1 1] 25 (0, 0)) o1
  have x1 := newAt2 y6.w (.cells #[.int .i64 1, .int .i64 0, .slice none 0 0, .int .i64 1, .int .i64 1, .slice none 0 0, .int .i64 1, .int .i64 0, .slice none 0 0, .int .i64 3, .int .i64 0, .slice (some ⟨b1, 0, none⟩) 2 2, .int .i64 3, .int .i64 0, .slice (some ⟨b2, 0, none⟩) 2 2, .int .i64 4, .int .i64 0, .slice (some ⟨b3, 0, none⟩) 2 2] 45 (0, 0)) (.cells #[.int .i64 5] 3 (0, 0)) (.cells #[.slice (some ⟨gA, 0, none⟩) 6 6, .slice (some ⟨gA + 1, 0, none⟩) 1 1] 25 (0, 0))
  have hE : Below y6.w.heap.size y6.w (((y6.w.alloc (.cells #[.int .i64 1, .int .i64 0, .slice none 0 0, .int .i64 1, .int .i64 1, .slice none 0 0, .int .i64 1, .int .i64 0, .slice none 0 0, .int .i64 3, .int .i64 0, .slice (some ⟨b1, 0, none⟩) 2 2, .int .i64 3, .int .i64 0, .slice (some ⟨b2, 0, none⟩) 2 2, .int .i64 4, .int .i64 0, .slice (some ⟨b3, 0, none⟩) 2 2] 45 (0, 0))).alloc (.cells #[.int .i64 5] 3 (0, 0))).alloc (.cells #[.slice (some ⟨gA, 0, none⟩) 6 6, .slice (some ⟨gA + 1, 0, none⟩) 1 1] 25 (0, 0))) := ((((Below.refl y6.w.heap.size y6.w).alloc (Nat.le_refl _) _).alloc (le_alloc (Nat.le_refl _)) _).alloc (le_alloc (le_alloc (Nat.le_refl _))) _)
  have hY : Below y6.w.heap.size y6.w y7.w := hE.trans (y7.below.mono hE.size)
  replace a1 := obj_in y7.below a1
  replace a2 := obj_in y7.below a2
  replace a3 := obj_in y7.below a3
  replace g1 := obj_in y7.below g1
  replace o1 := obj_in y7.below o1
  replace x1 := obj_in y7.below x1
  clear hE
  replace hB := hB.trans (hY.mono hB.size)
  clear hY
  rw [hgA] at g1 o1 x1
  have HN1 := Lib.hid (nws_mem (W := _) (G := kG1.1) (O := kG1.2) (gc := 6) (oc := 1) [(((1 : Int), (0 : Int), ([] : List Int)), (none : Option Addr), 0), (((1 : Int), (1 : Int), ([] : List Int)), (none : Option Addr), 0), (((1 : Int), (0 : Int), ([] : List Int)), (none : Option Addr), 0), (((3 : Int), (0 : Int), ([0, 1] : List Int)), some ⟨b1, 0, none⟩, 2), (((3 : Int), (0 : Int), ([1, 2] : List Int)), some ⟨b2, 0, none⟩, 2), (((4 : Int), (0 : Int), ([3, 4] : List Int)), some ⟨b3, 0, none⟩, 2)] rfl g1 o1 (fun u hu => by
    simp only [List.mem_cons, List.not_mem_nil, or_false] at hu
    rcases hu with rfl | rfl | rfl | rfl | rfl | rfl
    · exact inS_none
    · exact inS_none
    · exact inS_none
    · exact inS_mem [0, 1] a1
    · exact inS_mem [1, 2] a2
    · exact inS_mem [3, 4] a3
    ) kG1_ok (by decide) (by decide) (by decide) (by decide) (by decide))
  clear a1 a2 a3 g1 o1 hb1 hb2 hb3
  dsimp only
  go_wp2_with fail
  refine (mkGate_any _ _ _ _ _ _).mono ?_
  rintro _ _ ⟨rfl, y8, rfl⟩
  have hE : Below y7.w.heap.size y7.w y7.w := (Below.refl y7.w.heap.size y7.w)
  have hY : Below y7.w.heap.size y7.w y8.w := hE.trans (y8.below.mono hE.size)
  replace x1 := obj_in y8.below x1
  clear hE
  replace HN1 := Lib.hid (HN1.out.of hY)
  replace hB := hB.trans (hY.mono hB.size)
  clear hY
  dsimp only
  go_wp2_with fail
  obtain ⟨b4, hb4⟩ : ∃ b, y8.w.heap.size = b := ⟨_, rfl⟩
  rw [hb4]
  refine (mkGate_any _ _ _ _ _ _).mono ?_
  rintro _ _ ⟨rfl, y9, rfl⟩
  replace x1 := obj_alloc (.cells #[.int .i64 0, .int .i64 1] 3 (0, 0)) x1
  have a4 := World.alloc_heap_new y8.w (.cells #[.int .i64 0, .int .i64 1] 3 (0, 0))
  have hE : Below y8.w.heap.size y8.w (y8.w.alloc (.cells #[.int .i64 0, .int .i64 1] 3 (0, 0))) := ((Below.refl y8.w.heap.size y8.w).alloc (Nat.le_refl _) _)
  have hY : Below y8.w.heap.size y8.w y9.w := hE.trans (y9.below.mono hE.size)
  replace x1 := obj_in y9.below x1
  replace a4 := obj_in y9.below a4
  clear hE
  replace HN1 := Lib.hid (HN1.out.of hY)
  replace hB := hB.trans (hY.mono hB.size)
  clear hY
  rw [hb4] at a4
  dsimp only
  go_wp2_with fail
  obtain ⟨b5, hb5⟩ : ∃ b, y9.w.heap.size = b := ⟨_, rfl⟩
  rw [hb5]
  refine (mkGate_any _ _ _ _ _ _).mono ?_
  rintro _ _ ⟨rfl, y10, rfl⟩
  replace x1 := obj_alloc (.cells #[.int .i64 0, .int .i64 2] 3 (0, 0)) x1
  replace a4 := obj_alloc (.cells #[.int .i64 0, .int .i64 2] 3 (0, 0)) a4
  have a5 := World.alloc_heap_new y9.w (.cells #[.int .i64 0, .int .i64 2] 3 (0, 0))
  have hE : Below y9.w.heap.size y9.w (y9.w.alloc (.cells #[.int .i64 0, .int .i64 2] 3 (0, 0))) := ((Below.refl y9.w.heap.size y9.w).alloc (Nat.le_refl _) _)
  have hY : Below y9.w.heap.size y9.w y10.w := hE.trans (y10.below.mono hE.size)
  replace x1 := obj_in y10.below x1
  replace a4 := obj_in y10.below a4
  replace a5 := obj_in y10.below a5
  clear hE
  replace HN1 := Lib.hid (HN1.out.of hY)
  replace hB := hB.trans (hY.mono hB.size)
  clear hY
  rw [hb5] at a5
  obtain ⟨n1, n2, -⟩ := box2 x1
  dsimp only
  go_wp2_with fail
  clear n1 n2
  obtain ⟨gB, hgB⟩ : ∃ b, y10.w.heap.size = b := ⟨_, rfl⟩
  rw [hgB]
  replace x1 := obj_alloc (.cells #[.int .i64 1, .int .i64 0, .slice none 0 0, .int .i64 1, .int .i64 1, .slice none 0 0, .int .i64 3, .int .i64 0, .slice (some ⟨b4, 0, none⟩) 2 2, .int .i64 4, .int .i64 0, .slice (some ⟨b5, 0, none⟩) 2 2] 45 (0, 0)) x1
  replace a4 := obj_alloc (.cells #[.int .i64 1, .int .i64 0, .slice none 0 0, .int .i64 1, .int .i64 1, .slice none 0 0, .int .i64 3, .int .i64 0, .slice (some ⟨b4, 0, none⟩) 2 2, .int .i64 4, .int .i64 0, .slice (some ⟨b5, 0, none⟩) 2 2] 45 (0, 0)) a4
  replace a5 := obj_alloc (.cells #[.int .i64 1, .int .i64 0, .slice none 0 0, .int .i64 1, .int .i64 1, .slice none 0 0, .int .i64 3, .int .i64 0, .slice (some ⟨b4, 0, none⟩) 2 2, .int .i64 4, .int .i64 0, .slice (some ⟨b5, 0, none⟩) 2 2] 45 (0, 0)) a5
  have g2 := World.alloc_heap_new y10.w (.cells #[.int .i64 1, .int .i64 0, .slice none 0 0, .int .i64 1, .int .i64 1, .slice none 0 0, .int .i64 3, .int .i64 0, .slice (some ⟨b4, 0, none⟩) 2 2, .int .i64 4, .int .i64 0, .slice (some ⟨b5, 0, none⟩) 2 2] 45 (0, 0))
  replace x1 := obj_alloc (.cells #[.int .i64 3] 3 (0, 0)) x1
  replace a4 := obj_alloc (.cells #[.int .i64 3] 3 (0, 0)) a4
  replace a5 := obj_alloc (.cells #[.int .i64 3] 3 (0, 0)) a5
  replace g2 := obj_alloc (.cells #[.int .i64 3] 3 (0, 0)) g2
  have o2 := newAt1 y10.w (.cells #[.int .i64 1, .int .i64 0, .slice none 0 0, .int .i64 1, .int .i64 1, .slice none 0 0, .int .i64 3, .int .i64 0, .slice (some ⟨b4, 0, none⟩) 2 2, .int .i64 4, .int .i64 0, .slice (some ⟨b5, 0, none⟩) 2 2] 45 (0, 0)) (.cells #[.int .i64 3] 3 (0, 0))
  replace x1 := obj_alloc (.cells #[.slice (some ⟨gB, 0, none⟩) 4 4, .slice (some ⟨gB + 1, 0, none⟩) 1 1] 25 (0, 0)) x1
  replace a4 := obj_alloc (.cells #[.slice (some ⟨gB, 0, none⟩) 4 4, .slice (some ⟨gB + 1, 0, none⟩) 1 1] 25 (0, 0)) a4
  replace a5 := obj_alloc (.cells #[.slice (some ⟨gB, 0, none⟩) 4 4, .slice (some ⟨gB + 1, 0, none⟩) 1 1] 25 (0, 0)) a5
  replace g2 := obj_alloc (.cells #[.slice (some ⟨gB, 0, none⟩) 4 4, .slice (some ⟨gB + 1, 0, none⟩) 1 1] 25 (0, 0)) g2
  replace o2 := obj_alloc (.cells #[.slice (some ⟨gB, 0, none⟩) 4 4, .slice (some ⟨gB + 1, 0, none⟩) 1 1] 25 (0, 0)) o2
  have x2 := newAt2 y10.w (.cells #[.int .i64 1, .int .i64 0, .slice none 0 0, .int .i64 1, .int .i64 1, .slice none 0 0, .int .i64 3, .int .i64 0, .slice (some ⟨b4, 0, none⟩) 2 2, .int .i64 4, .int .i64 0, .slice (some ⟨b5, 0, none⟩) 2 2] 45 (0, 0)) (.cells #[.int .i64 3] 3 (0, 0)) (.cells #[.slice (some ⟨gB, 0, none⟩) 4 4, .slice (some ⟨gB + 1, 0, none⟩) 1 1] 25 (0, 0))
  have hE : Below y10.w.heap.size y10.w (((y10.w.alloc (.cells #[.int .i64 1, .int .i64 0, .slice none 0 0, .int .i64 1, .int .i64 1, .slice none 0 0, .int .i64 3, .int .i64 0, .slice (some ⟨b4, 0, none⟩) 2 2, .int .i64 4, .int .i64 0, .slice (some ⟨b5, 0, none⟩) 2 2] 45 (0, 0))).alloc (.cells #[.int .i64 3] 3 (0, 0))).alloc (.cells #[.slice (some ⟨gB, 0, none⟩) 4 4, .slice (some ⟨gB + 1, 0, none⟩) 1 1] 25 (0, 0))) := ((((Below.refl y10.w.heap.size y10.w).alloc (Nat.le_refl _) _).alloc (le_alloc (Nat.le_refl _)) _).alloc (le_alloc (le_alloc (Nat.le_refl _))) _)
  have hY := hE
  clear hE
  replace HN1 := Lib.hid (HN1.out.of hY)
  replace hB := hB.trans (hY.mono hB.size)
  clear hY
  rw [hgB] at g2 o2 x2
  have HN2 := Lib.hid (nws_mem (W := _) (G := kG2.1) (O := kG2.2) (gc := 4) (oc := 1) [(((1 : Int), (0 : Int), ([] : List Int)), (none : Option Addr), 0), (((1 : Int), (1 : Int), ([] : List Int)), (none : Option Addr), 0), (((3 : Int), (0 : Int), ([0, 1] : List Int)), some ⟨b4, 0, none⟩, 2), (((4 : Int), (0 : Int), ([0, 2] : List Int)), some ⟨b5, 0, none⟩, 2)] rfl g2 o2 (fun u hu => by
    simp only [List.mem_cons, List.not_mem_nil, or_false] at hu
    rcases hu with rfl | rfl | rfl | rfl
    · exact inS_none
    · exact inS_none
    · exact inS_mem [0, 1] a4
    · exact inS_mem [0, 2] a5
    ) kG2_ok (by decide) (by decide) (by decide) (by decide) (by decide))
  clear a4 a5 g2 o2 hb4 hb5
  obtain ⟨V0, hV⟩ : ∃ V0, (((y10.w.alloc (.cells #[.int .i64 1, .int .i64 0, .slice none 0 0, .int .i64 1, .int .i64 1, .slice none 0 0, .int .i64 3, .int .i64 0, .slice (some ⟨b4, 0, none⟩) 2 2, .int .i64 4, .int .i64 0, .slice (some ⟨b5, 0, none⟩) 2 2] 45 (0, 0))).alloc (.cells #[.int .i64 3] 3 (0, 0))).alloc (.cells #[.slice (some ⟨gB, 0, none⟩) 4 4, .slice (some ⟨gB + 1, 0, none⟩) 1 1] 25 (0, 0))) = V0 := ⟨_, rfl⟩
  rw [hV] at hB x1 x2 HN1 HN2 ⊢
  clear hV
  refine (Clean_nw (v := 2) (by decide) _ V0 HN1.out (HT.out.of hB)).mono ?_
  rintro _ W1 ⟨c1, hcc1, hnc1, rfl, hbk⟩
  replace x1 := obj_in hbk x1
  replace x2 := obj_in hbk x2
  replace HN1 := Lib.hid (HN1.out.of hbk)
  replace HN2 := Lib.hid (HN2.out.of hbk)
  replace hB := hB.trans (hbk.mono hB.size)
  have Hc1 := Lib.hid hnc1
  have HCc1 := Lib.hid hcc1
  clear hbk hnc1 hcc1
  unfold nwV nV
  dsimp only
  obtain ⟨n1, n2, -⟩ := box2 x2
  go_wp2_with fail
  clear n1 n2
  replace x1 := obj_alloc (.cells #[.slice c1.2.1 c1.1.1.length c1.2.2.1, .slice c1.2.2.2.1 c1.1.2.length c1.2.2.2.2] 25 (0, 0)) x1
  replace x2 := obj_alloc (.cells #[.slice c1.2.1 c1.1.1.length c1.2.2.1, .slice c1.2.2.2.1 c1.1.2.length c1.2.2.2.2] 25 (0, 0)) x2
  have x3 := World.alloc_heap_new W1 (.cells #[.slice c1.2.1 c1.1.1.length c1.2.2.1, .slice c1.2.2.2.1 c1.1.2.length c1.2.2.2.2] 25 (0, 0))
  have hE : Below W1.heap.size W1 (W1.alloc (.cells #[.slice c1.2.1 c1.1.1.length c1.2.2.1, .slice c1.2.2.2.1 c1.1.2.length c1.2.2.2.2] 25 (0, 0))) := ((Below.refl W1.heap.size W1).alloc (Nat.le_refl _) _)
  have hY := hE
  clear hE
  replace HN1 := Lib.hid (HN1.out.of hY)
  replace HN2 := Lib.hid (HN2.out.of hY)
  replace Hc1 := Lib.hid (Hc1.out.of hY)
  replace hB := hB.trans (hY.mono hB.size)
  clear hY
  obtain ⟨V1, hV⟩ : ∃ V1, (W1.alloc (.cells #[.slice c1.2.1 c1.1.1.length c1.2.2.1, .slice c1.2.2.2.1 c1.1.2.length c1.2.2.2.2] 25 (0, 0))) = V1 := ⟨_, rfl⟩
  rw [hV] at hB x1 x2 x3 HN1 HN2 Hc1 ⊢
  clear hV
  refine (Clean_nw (v := 2) (by decide) _ V1 HN2.out (HT.out.of hB)).mono ?_
  rintro _ W2 ⟨c2, hcc2, hnc2, rfl, hbk⟩
  replace x1 := obj_in hbk x1
  replace x2 := obj_in hbk x2
  replace x3 := obj_in hbk x3
  replace HN1 := Lib.hid (HN1.out.of hbk)
  replace HN2 := Lib.hid (HN2.out.of hbk)
  replace Hc1 := Lib.hid (Hc1.out.of hbk)
  replace hB := hB.trans (hbk.mono hB.size)
  have Hc2 := Lib.hid hnc2
  have HCc2 := Lib.hid hcc2
  clear hbk hnc2 hcc2
  unfold nwV nV
  dsimp only
  obtain ⟨n1, n2, -⟩ := box2 x2
  go_wp2_with fail
  clear n1 n2
  replace x1 := obj_alloc (.cells #[.slice c2.2.1 c2.1.1.length c2.2.2.1, .slice c2.2.2.2.1 c2.1.2.length c2.2.2.2.2] 25 (0, 0)) x1
  replace x2 := obj_alloc (.cells #[.slice c2.2.1 c2.1.1.length c2.2.2.1, .slice c2.2.2.2.1 c2.1.2.length c2.2.2.2.2] 25 (0, 0)) x2
  replace x3 := obj_alloc (.cells #[.slice c2.2.1 c2.1.1.length c2.2.2.1, .slice c2.2.2.2.1 c2.1.2.length c2.2.2.2.2] 25 (0, 0)) x3
  have x4 := World.alloc_heap_new W2 (.cells #[.slice c2.2.1 c2.1.1.length c2.2.2.1, .slice c2.2.2.2.1 c2.1.2.length c2.2.2.2.2] 25 (0, 0))
  have hE : Below W2.heap.size W2 (W2.alloc (.cells #[.slice c2.2.1 c2.1.1.length c2.2.2.1, .slice c2.2.2.2.1 c2.1.2.length c2.2.2.2.2] 25 (0, 0))) := ((Below.refl W2.heap.size W2).alloc (Nat.le_refl _) _)
  have hY := hE
  clear hE
  replace HN1 := Lib.hid (HN1.out.of hY)
  replace HN2 := Lib.hid (HN2.out.of hY)
  replace Hc1 := Lib.hid (Hc1.out.of hY)
  replace Hc2 := Lib.hid (Hc2.out.of hY)
  replace hB := hB.trans (hY.mono hB.size)
  clear hY
  obtain ⟨V2, hV⟩ : ∃ V2, (W2.alloc (.cells #[.slice c2.2.1 c2.1.1.length c2.2.2.1, .slice c2.2.2.2.1 c2.1.2.length c2.2.2.2.2] 25 (0, 0))) = V2 := ⟨_, rfl⟩
  rw [hV] at hB x1 x2 x3 x4 HN1 HN2 Hc1 Hc2 ⊢
  clear hV
  refine (Reduce_nw (v := 2) (by decide) _ V2 HN2.out (HT.out.of hB)).mono ?_
  rintro _ W3 ⟨c3, hcc3, hnc3, rfl, hbk⟩
  replace x1 := obj_in hbk x1
  replace x2 := obj_in hbk x2
  replace x3 := obj_in hbk x3
  replace x4 := obj_in hbk x4
  replace HN1 := Lib.hid (HN1.out.of hbk)
  replace HN2 := Lib.hid (HN2.out.of hbk)
  replace Hc1 := Lib.hid (Hc1.out.of hbk)
  replace Hc2 := Lib.hid (Hc2.out.of hbk)
  replace hB := hB.trans (hbk.mono hB.size)
  have Hc3 := Lib.hid hnc3
  have HCc3 := Lib.hid hcc3
  clear hbk hnc3 hcc3
  unfold nwV nV
  dsimp only
  obtain ⟨n1, n2, -⟩ := box2 x2
  go_wp2_with fail
  clear n1 n2
  replace x1 := obj_alloc (.cells #[.slice c3.2.1 c3.1.1.length c3.2.2.1, .slice c3.2.2.2.1 c3.1.2.length c3.2.2.2.2] 25 (0, 0)) x1
  replace x2 := obj_alloc (.cells #[.slice c3.2.1 c3.1.1.length c3.2.2.1, .slice c3.2.2.2.1 c3.1.2.length c3.2.2.2.2] 25 (0, 0)) x2
  replace x3 := obj_alloc (.cells #[.slice c3.2.1 c3.1.1.length c3.2.2.1, .slice c3.2.2.2.1 c3.1.2.length c3.2.2.2.2] 25 (0, 0)) x3
  replace x4 := obj_alloc (.cells #[.slice c3.2.1 c3.1.1.length c3.2.2.1, .slice c3.2.2.2.1 c3.1.2.length c3.2.2.2.2] 25 (0, 0)) x4
  have x5 := World.alloc_heap_new W3 (.cells #[.slice c3.2.1 c3.1.1.length c3.2.2.1, .slice c3.2.2.2.1 c3.1.2.length c3.2.2.2.2] 25 (0, 0))
  have hE : Below W3.heap.size W3 (W3.alloc (.cells #[.slice c3.2.1 c3.1.1.length c3.2.2.1, .slice c3.2.2.2.1 c3.1.2.length c3.2.2.2.2] 25 (0, 0))) := ((Below.refl W3.heap.size W3).alloc (Nat.le_refl _) _)
  have hY := hE
  clear hE
  replace HN1 := Lib.hid (HN1.out.of hY)
  replace HN2 := Lib.hid (HN2.out.of hY)
  replace Hc1 := Lib.hid (Hc1.out.of hY)
  replace Hc2 := Lib.hid (Hc2.out.of hY)
  replace Hc3 := Lib.hid (Hc3.out.of hY)
  replace hB := hB.trans (hY.mono hB.size)
  clear hY
  obtain ⟨V3, hV⟩ : ∃ V3, (W3.alloc (.cells #[.slice c3.2.1 c3.1.1.length c3.2.2.1, .slice c3.2.2.2.1 c3.1.2.length c3.2.2.2.2] 25 (0, 0))) = V3 := ⟨_, rfl⟩
  rw [hV] at hB x1 x2 x3 x4 x5 HN1 HN2 Hc1 Hc2 Hc3 ⊢
  clear hV
  obtain ⟨n1, n2, -⟩ := box2 x2
  have HX2 := Lib.hid x2
  have HCMP := Lib.hid (fun (W : World) (q1 q2 : Nat) (hb : Below V3.heap.size V3 W) (h1 : W.heap[q1]? = some (.cells #[.int .i64 1, .int .i64 1, .slice none 0 0] 45 (0, 0))) (h2 : W.heap[q2]? = some (.cells #[.int .i64 0] 3 (0, 0))) => known_cmp (W := W) (x := (kG2, some ⟨gB, 0, none⟩, 4, some ⟨gB + 1, 0, none⟩, 1)) (y := (kG3, some ⟨q1, 0, none⟩, 1, some ⟨q2, 0, none⟩, 1)) (HN2.out.of hb) (nws_mem (G := kG3.1) (O := kG3.2) [(((1 : Int), (1 : Int), ([] : List Int)), (none : Option Addr), 0)] rfl h1 h2 (fun u hu => by rw [List.mem_singleton.1 hu]; exact inS_none) kG3_ok (by decide) (by decide) (by decide) (by decide) (by decide)) rfl rfl)
  clear x2 hgA hgB
  rename_i K0 hK0
  have HK0 := Lib.hid hK0
  clear hK0
  have hRf : Below V3.heap.size V3 V3 := Below.refl _ _
  have SK := Lib.hid (show ∀ V : World, Below V3.heap.size V3 V → V.cell? ⟨gB + 1 + 1, 0, none⟩ = some (.slice (some ⟨gB, 0, none⟩) 4 4) ∧ V.cell? ⟨gB + 1 + 1, 1, none⟩ = some (.slice (some ⟨gB + 1, 0, none⟩) 1 1) ∧ Below V3.heap.size V3 V from fun V h => ⟨below_cell h _ _ _ n1, below_cell h _ _ _ n2, h⟩)
  go_cut [9, 10, 11] from 12 to 57 (fun v9 v10 v11 wx => ∃ b g cap cur, v9 = .pointer (some ⟨b, 0, none⟩) ∧ v10 = .bool true ∧ v11 = .int .i64 0 ∧ (wx.heap[g]? = some (.cells cur 4 (0, 0)) ∧ cur[0]? = some (.bool false) ∧ cur[1]? = some (.bool true)) ∧ wx.heap[b]? = some (.cells #[.int .i64 0, .slice (some ⟨g, 0, none⟩) 2 cap] 37 (0, 0)) ∧ Below V3.heap.size V3 wx)
  case first =>
    as_aux_lemma =>
      clear HK0 HX2 HT hB x1 x3 x4 x5 HN1 HN2 Hc1 Hc2 Hc3
      go_region_held3 (fun V => V.cell? ⟨gB + 1 + 1, 0, none⟩ = some (.slice (some ⟨gB, 0, none⟩) 4 4) ∧ V.cell? ⟨gB + 1 + 1, 1, none⟩ = some (.slice (some ⟨gB + 1, 0, none⟩) 1 1) ∧ Below V3.heap.size V3 V) (exact SK.out _ (by (repeat' (first | (with_reducible first | apply Zl1 | apply Zl2 | apply Zl3 | apply Zl4 | apply Zl5 | apply Zl6 | apply Zl7 | apply Zl8 | apply Zl9 | apply Zla | apply Zlb | apply Zlc) | (dsimp only; with_reducible first | apply Zl8 | apply Zl2 | apply Zld) | with_reducible assumption | omega | (dsimp only; omega))))) (first | (go_at_call 30; refine (mkGate_any _ _ _ _ _ _).mono ?_; rintro _ _ ⟨rfl, yg, rfl⟩; have hyg := yg.size_le; try simp only [World.size_alloc, drew_size] at hyg) | (go_at_call 19; refine (HCMP.out _ _ _ (by (repeat' (first | (with_reducible first | apply Zl1 | apply Zl2 | apply Zl3 | apply Zl4 | apply Zl5 | apply Zl6 | apply Zl7 | apply Zl8 | apply Zl9 | apply Zla | apply Zlb | apply Zlc) | (dsimp only; with_reducible first | apply Zl8 | apply Zl2 | apply Zld) | with_reducible assumption | omega | (dsimp only; omega)))) (by repeat' (with_reducible first | assumption | exact World.alloc_heap_new _ _ | exact newAt1 _ _ _ | exact newAt2 _ _ _ _ | refine obj_alloc _ ?_ | refine obj_bel _ ?_ | refine obj_drew ?_ | refine obSet2 _ _ ?_ | refine obj_neD _ (by omega) ?_)) (by repeat' (with_reducible first | assumption | exact World.alloc_heap_new _ _ | exact newAt1 _ _ _ | exact newAt2 _ _ _ _ | refine obj_alloc _ ?_ | refine obj_bel _ ?_ | refine obj_drew ?_ | refine obSet2 _ _ ?_ | refine obj_neD _ (by omega) ?_))).mono ?_; rintro _ W5 ⟨g5, cap5, cur5, rfl, ⟨ho5, hc50, hc51⟩, hg5, hb5⟩; obtain ⟨y5, rfl⟩ : ∃ y5 : Bel _, W5 = y5.w := ⟨⟨W5, hb5⟩, rfl⟩; have hy5 := y5.size_le; simp only [World.size_alloc, drew_size] at hy5 hg5; clear hb5; dsimp only))
      all_goals (rename_i hHeld; go_wp2_with fail; go_meet; case rel => (refine ⟨_, g5, cap5, cur5, rfl, rfl, rfl, ⟨?_, hc50, hc51⟩, ?_, hHeld.2.2⟩; all_goals (with_reducible first | exact obj_alloc _ ho5 | exact World.alloc_heap_new _ _ | exact obj_neD _ (by omega) (obj_neD _ (by omega) ho5) | (refine obSet2 (x := .int .i64 0) (y := .slice none 0 0) _ _ ?_; repeat' (first | exact World.alloc_heap_new _ _ | exact newAt1 _ _ _ | exact newAt2 _ _ _ _ | refine obj_alloc _ ?_ | refine obj_bel _ ?_ | refine obj_drew ?_)))))
  case rest =>
    as_aux_lemma =>
      obtain ⟨bD, gD, capD, curD, rfl, rfl, rfl, ⟨d1, d2, d3⟩, xD, hbz⟩ := hcut
      have x2 := obj_in hbz HX2.out
      replace x3 := obj_in hbz x3
      replace x4 := obj_in hbz x4
      replace x5 := obj_in hbz x5
      replace HN1 := Lib.hid (HN1.out.of hbz)
      replace HN2 := Lib.hid (HN2.out.of hbz)
      replace Hc1 := Lib.hid (Hc1.out.of hbz)
      replace Hc2 := Lib.hid (Hc2.out.of hbz)
      replace Hc3 := Lib.hid (Hc3.out.of hbz)
      replace hB := hB.trans (hbz.mono hB.size)
      have hl3 : c3.1.1.length = 1 := by rw [HCc3.out]; exact kR2
      rw [hl3] at x5
      have HE1 := Lib.hid (fun (W : World) (g o a : Nat) (hb : Below wc.heap.size wc W) => known_eq1 (W := W) (c := c1) (g := g) (o := o) (a := a) (Hc1.out.of hb) (HCc1.out.trans kC1))
      have HE2 := Lib.hid (fun (W : World) (hb : Below wc.heap.size wc W) => known_eq2 (W := W) (c := c2) (g := gB) (o := gB + 1) (Hc2.out.of hb) (HCc2.out.trans kC2) (HN2.out.of hb))
      clear hl3 HCc1 HCc2 HCc3 Hc1 Hc2 Hc3 HN1 HN2 HX2 HT SK HCMP hRf n1 n2 x1 hbz
      obtain ⟨p0, q0, -⟩ := cells2 x2
      obtain ⟨p1, q1, -⟩ := cells2 x3
      obtain ⟨p2, q2, -⟩ := cells2 x4
      obtain ⟨p3, q3, -⟩ := cells2 x5
      obtain ⟨p4, q4, -⟩ := cells2 xD
      have e0 := cell_iv d1 d2
      have e1 := cell_iv d1 d3
      have z2 := (Array.getElem?_eq_some_iff.1 x2).1
      have zx3 := (Array.getElem?_eq_some_iff.1 x3).1
      have zx4 := (Array.getElem?_eq_some_iff.1 x4).1
      have zx5 := (Array.getElem?_eq_some_iff.1 x5).1
      have zxD := (Array.getElem?_eq_some_iff.1 xD).1
      have zd1 := (Array.getElem?_eq_some_iff.1 d1).1
      clear x2 x3 x4 x5 xD d1 d2 d3
      refine HK0.out _ _ ?_
      clear HK0
      have hsf := hB.size
      have hRc : Below wc.heap.size wc wc := Below.refl _ _
      go_wp2_with fail
      have Hp0 := Lib.hid p0
      have Hq0 := Lib.hid q0
      have Hp1 := Lib.hid p1
      have Hq1 := Lib.hid q1
      have Hp2 := Lib.hid p2
      have Hq2 := Lib.hid q2
      have Hp3 := Lib.hid p3
      have Hq3 := Lib.hid q3
      have Hp4 := Lib.hid p4
      have Hq4 := Lib.hid q4
      have He0 := Lib.hid e0
      have He1 := Lib.hid e1
      clear p0 q0 p1 q1 p2 q2 p3 q3 p4 q4 e0 e1 z2 zx3 zx4 zx5 zxD zd1
      rename_i K1 hK1
      have HK1 := Lib.hid hK1
      clear hK1
      refine wp_region_inv (known7F c1 c2 c3 gB bD gD capD W1.heap.size W2.heap.size W3.heap.size) (known7S c1 c2 c3 gB bD gD capD W1.heap.size W2.heap.size W3.heap.size) (by kernel_rfl) (by kernel_rfl) (by kernel_rfl) ?hS ?hI ?hE
      case hS => exact SOk.cons rfl (SOk.cons rfl (SOk.cons rfl (SOk.cons rfl (SOk.cons rfl (SOk.cons rfl (SOk.cons rfl (SOk.cons rfl (SOk.cons rfl (SOk.cons rfl (SOk.nil))))))))))
      case hI =>
        refine InvAll.cons ?_ (InvAll.cons ?_ (InvAll.cons ?_ (InvAll.cons ?_ (InvAll.cons ?_ (InvAll.cons ?_ (InvAll.cons ?_ (InvAll.cons ?_ (InvAll.cons ?_ (InvAll.cons ?_ (InvAll.cons ?_ (InvAll.cons ?_ (InvAll.cons ?_ (InvAll.cons ?_ (InvAll.cons ?_ (InvAll.cons ?_ (InvAll.cons ?_ (InvAll.cons ?_ (InvAll.cons ?_ (InvAll.cons ?_ (InvAll.cons ?_ (InvAll.cons ?_ (InvAll.cons ?_ (InvAll.cons ?_ (InvAll.cons ?_ (InvAll.cons ?_ (InvAll.cons ?_ (InvAll.cons ?_ (InvAll.cons ?_ (InvAll.cons ?_ (InvAll.cons ?_ (InvAll.cons ?_ (InvAll.cons ?_ (InvAll.cons ?_ (InvAll.cons ?_ (InvAll.cons ?_ (InvAll.cons ?_ (InvAll.cons ?_ (InvAll.cons ?_ (InvAll.cons ?_ (InvAll.cons ?_ (InvAll.cons ?_ (InvAll.cons ?_ (InvAll.cons ?_ (InvAll.cons ?_ (InvAll.cons ?_ (InvAll.cons ?_ (InvAll.cons ?_ (InvAll.cons ?_ (InvAll.cons ?_ (InvAll.cons ?_ (InvAll.cons ?_ (InvAll.cons ?_ (InvAll.cons ?_ (InvAll.cons ?_ (InvAll.cons ?_ (InvAll.cons ?_ (InvAll.cons ?_ (InvAll.cons ?_ (InvAll.cons ?_ (InvAll.cons ?_ (InvAll.cons ?_ (InvAll.cons ?_ (InvAll.cons ?_ (InvAll.nil))))))))))))))))))))))))))))))))))))))))))))))))))))))))))))))))
        · as_aux_lemma =>
            refine InvOp.hide fun f HF ρ x hc hg hf hs hd => ?_
            have d4 := hs 2 _ rfl; dsimp only at d4
            clear hs hd
            go_simp
            exact ⟨Below.refl _ _, by rw [HF.out]; rfl⟩
        · as_aux_lemma =>
            refine InvOp.hide fun f HF ρ x hc hg hf hs hd => ?_
            have d58 := hd 0 (by decide) _ rfl; dsimp only [Fact.of] at d58
            clear hs hd
            go_simp
            exact ⟨Below.refl _ _, by rw [HF.out]; rfl⟩
        · as_aux_lemma =>
            refine InvOp.hide fun f HF ρ x hc hg hf hs hd => ?_
            have d59 := hd 1 (by decide) _ rfl; dsimp only [Fact.of] at d59
            clear hs hd
            go_simp
            exact ⟨Below.refl _ _, by rw [HF.out]; rfl⟩
        · as_aux_lemma =>
            refine InvOp.hide fun f HF ρ x hc hg hf hs hd => ?_
            have d3 := hs 1 _ rfl; dsimp only at d3
            clear hs hd
            have p1 := Hp1.out
            have q1 := Hq1.out
            go_simp
            exact ⟨Below.refl _ _, by rw [HF.out]; rfl⟩
        · as_aux_lemma =>
            refine InvOp.hide fun f HF ρ x hc hg hf hs hd => ?_
            clear hs hd
            go_simp
            refine (mkGate_any _ _ _ _ _ _).mono ?_
            rintro _ _ ⟨rfl, y, rfl⟩
            exact ⟨_, rfl, y.below, by rw [HF.out]; rfl⟩
        · as_aux_lemma =>
            refine InvOp.hide fun f HF ρ x hc hg hf hs hd => ?_
            clear hs hd
            go_simp
            refine (mkGate_any _ _ _ _ _ _).mono ?_
            rintro _ _ ⟨rfl, y, rfl⟩
            exact ⟨_, rfl, y.below, by rw [HF.out]; rfl⟩
        · as_aux_lemma =>
            refine InvOp.hide fun f HF ρ x hc hg hf hs hd => ?_
            clear hs hd
            go_simp
            refine ⟨(Below.refl _ _).alloc (Nat.le_refl _) _, ?_⟩
            rw [HF.out]
            exact Fact.of_has ⟨x.w.heap.size, rfl, World.alloc_heap_new _ _⟩
        · as_aux_lemma =>
            refine InvOp.hide fun f HF ρ x hc hg hf hs hd => ?_
            have d64 := hd 6 (by decide) _ rfl; dsimp only [Fact.of] at d64
            obtain ⟨a64, d64, h64⟩ := d64
            clear hs hd
            go_simp
            refine (mkGate_any _ _ _ _ _ _).mono ?_
            rintro _ _ ⟨rfl, y, rfl⟩
            refine ⟨_, rfl, y.below, ?_⟩
            rw [HF.out]
            exact Fact.of_has ⟨a64, rfl, obj_in y.below h64⟩
        · as_aux_lemma =>
            refine InvOp.hide fun f HF ρ x hc hg hf hs hd => ?_
            have d62 := hd 4 (by decide) _ rfl; dsimp only [Fact.of] at d62
            have d63 := hd 5 (by decide) _ rfl; dsimp only [Fact.of] at d63
            have d65 := hd 7 (by decide) _ rfl; dsimp only [Fact.of] at d65
            obtain ⟨a65, d65, h65⟩ := d65
            clear hs hd
            refine build3 ρ _ rfl x.w a65 f d62 d63 d65 ?_
            rw [HF.out]
            refine Fact.of_has ?_
            refine ⟨x.w.heap.size, a65, ?_, ?_, ?_⟩
            · rfl
            · exact World.alloc_heap_new _ _
            · exact obj_alloc _ h65
        · as_aux_lemma =>
            refine InvOp.hide fun f HF ρ x hc hg hf hs hd => ?_
            clear hs hd
            go_simp
            refine ⟨(Below.refl _ _).alloc (Nat.le_refl _) _, ?_⟩
            rw [HF.out]
            exact Fact.of_has ⟨x.w.heap.size, rfl, World.alloc_heap_new _ _⟩
        · as_aux_lemma =>
            refine InvOp.hide fun f HF ρ x hc hg hf hs hd => ?_
            have d66 := hd 8 (by decide) _ rfl; dsimp only [Fact.of] at d66
            obtain ⟨g66, a66, d66, h66, k66⟩ := d66
            have d67 := hd 9 (by decide) _ rfl; dsimp only [Fact.of] at d67
            obtain ⟨o67, d67, h67⟩ := d67
            clear hs hd
            go_simp
            refine ⟨Below.refl _ _, ?_⟩
            rw [HF.out]
            refine Fact.of_has ?_
            refine ⟨g66, o67, a66, ?_, h66, h67, k66⟩
            rfl
        · as_aux_lemma =>
            refine InvOp.hide fun f HF ρ x hc hg hf hs hd => ?_
            have d61 := hd 3 (by decide) _ rfl; dsimp only [Fact.of] at d61
            have d68 := hd 10 (by decide) _ rfl; dsimp only [Fact.of] at d68
            obtain ⟨g68, o68, a68, d68, h68, k68, l68⟩ := d68
            clear hs hd
            go_simp
            refine (HE1.out x.w g68 o68 a68 x.below h68 k68 l68).mono ?_
            rintro _ _ ⟨rfl, y, rfl⟩
            exact ⟨_, rfl, y.below, by rw [HF.out]; rfl⟩
        · as_aux_lemma =>
            refine InvOp.hide fun f HF ρ x hc hg hf hs hd => ?_
            have d60 := hd 2 (by decide) _ rfl; dsimp only [Fact.of] at d60
            have d69 := hd 11 (by decide) _ rfl; dsimp only [Fact.of] at d69
            clear hs hd
            go_simp
            exact ⟨Below.refl _ _, by rw [HF.out]; rfl⟩
        · as_aux_lemma =>
            refine InvOp.hide fun f HF ρ x hc hg hf hs hd => ?_
            have d70 := hd 12 (by decide) _ rfl; dsimp only [Fact.of] at d70
            clear hs hd
            go_simp
            exact ⟨Below.refl _ _, by rw [HF.out]; rfl⟩
        · as_aux_lemma =>
            refine InvOp.hide fun f HF ρ x hc hg hf hs hd => ?_
            have d6 := hs 4 _ rfl; dsimp only at d6
            clear hs hd
            go_simp
            exact ⟨Below.refl _ _, by rw [HF.out]; rfl⟩
        · as_aux_lemma =>
            refine InvOp.hide fun f HF ρ x hc hg hf hs hd => ?_
            have d72 := hd 14 (by decide) _ rfl; dsimp only [Fact.of] at d72
            clear hs hd
            go_simp
            exact ⟨Below.refl _ _, by rw [HF.out]; rfl⟩
        · as_aux_lemma =>
            refine InvOp.hide fun f HF ρ x hc hg hf hs hd => ?_
            have d71 := hd 13 (by decide) _ rfl; dsimp only [Fact.of] at d71
            have d73 := hd 15 (by decide) _ rfl; dsimp only [Fact.of] at d73
            clear hs hd
            go_simp
            exact ⟨Below.refl _ _, by rw [HF.out]; rfl⟩
        · as_aux_lemma =>
            refine InvOp.hide fun f HF ρ x hc hg hf hs hd => ?_
            have d74 := hd 16 (by decide) _ rfl; dsimp only [Fact.of] at d74
            clear hs hd
            go_simp
            exact ⟨Below.refl _ _, by rw [HF.out]; rfl⟩
        · as_aux_lemma =>
            refine InvOp.hide fun f HF ρ x hc hg hf hs hd => ?_
            have d5 := hs 3 _ rfl; dsimp only at d5
            clear hs hd
            have p2 := Hp2.out
            have q2 := Hq2.out
            go_simp
            exact ⟨Below.refl _ _, by rw [HF.out]; rfl⟩
        · as_aux_lemma =>
            refine InvOp.hide fun f HF ρ x hc hg hf hs hd => ?_
            have d2 := hs 0 _ rfl; dsimp only at d2
            clear hs hd
            have p0 := Hp0.out
            have q0 := Hq0.out
            go_simp
            exact ⟨Below.refl _ _, by rw [HF.out]; rfl⟩
        · as_aux_lemma =>
            refine InvOp.hide fun f HF ρ x hc hg hf hs hd => ?_
            have d76 := hd 18 (by decide) _ rfl; dsimp only [Fact.of] at d76
            have d77 := hd 19 (by decide) _ rfl; dsimp only [Fact.of] at d77
            clear hs hd
            go_simp
            refine (HE2.out x.w x.below).mono ?_
            rintro _ _ ⟨rfl, y, rfl⟩
            exact ⟨_, rfl, y.below, by rw [HF.out]; rfl⟩
        · as_aux_lemma =>
            refine InvOp.hide fun f HF ρ x hc hg hf hs hd => ?_
            have d75 := hd 17 (by decide) _ rfl; dsimp only [Fact.of] at d75
            have d78 := hd 20 (by decide) _ rfl; dsimp only [Fact.of] at d78
            clear hs hd
            go_simp
            exact ⟨Below.refl _ _, by rw [HF.out]; rfl⟩
        · as_aux_lemma =>
            refine InvOp.hide fun f HF ρ x hc hg hf hs hd => ?_
            have d79 := hd 21 (by decide) _ rfl; dsimp only [Fact.of] at d79
            clear hs hd
            go_simp
            exact ⟨Below.refl _ _, by rw [HF.out]; rfl⟩
        · as_aux_lemma =>
            refine InvOp.hide fun f HF ρ x hc hg hf hs hd => ?_
            have d8 := hs 6 _ rfl; dsimp only at d8
            clear hs hd
            go_simp
            exact ⟨Below.refl _ _, by rw [HF.out]; rfl⟩
        · as_aux_lemma =>
            refine InvOp.hide fun f HF ρ x hc hg hf hs hd => ?_
            have d81 := hd 23 (by decide) _ rfl; dsimp only [Fact.of] at d81
            clear hs hd
            go_simp
            exact ⟨Below.refl _ _, by rw [HF.out]; rfl⟩
        · as_aux_lemma =>
            refine InvOp.hide fun f HF ρ x hc hg hf hs hd => ?_
            have d80 := hd 22 (by decide) _ rfl; dsimp only [Fact.of] at d80
            have d82 := hd 24 (by decide) _ rfl; dsimp only [Fact.of] at d82
            clear hs hd
            go_simp
            exact ⟨Below.refl _ _, by rw [HF.out]; rfl⟩
        · as_aux_lemma =>
            refine InvOp.hide fun f HF ρ x hc hg hf hs hd => ?_
            have d83 := hd 25 (by decide) _ rfl; dsimp only [Fact.of] at d83
            clear hs hd
            go_simp
            exact ⟨Below.refl _ _, by rw [HF.out]; rfl⟩
        · as_aux_lemma =>
            refine InvOp.hide fun f HF ρ x hc hg hf hs hd => ?_
            have d7 := hs 5 _ rfl; dsimp only at d7
            clear hs hd
            go_simp
            exact ⟨Below.refl _ _, by rw [HF.out]; rfl⟩
        · as_aux_lemma =>
            refine InvOp.hide fun f HF ρ x hc hg hf hs hd => ?_
            have d85 := hd 27 (by decide) _ rfl; dsimp only [Fact.of] at d85
            clear hs hd
            have p3 := Hp3.out
            have q3 := Hq3.out
            go_simp
            exact ⟨Below.refl _ _, by rw [HF.out]; rfl⟩
        · as_aux_lemma =>
            refine InvOp.hide fun f HF ρ x hc hg hf hs hd => ?_
            have d86 := hd 28 (by decide) _ rfl; dsimp only [Fact.of] at d86
            clear hs hd
            go_simp
            exact ⟨Below.refl _ _, by rw [HF.out]; rfl⟩
        · as_aux_lemma =>
            refine InvOp.hide fun f HF ρ x hc hg hf hs hd => ?_
            have d87 := hd 29 (by decide) _ rfl; dsimp only [Fact.of] at d87
            clear hs hd
            go_simp
            exact ⟨Below.refl _ _, by rw [HF.out]; rfl⟩
        · as_aux_lemma =>
            refine InvOp.hide fun f HF ρ x hc hg hf hs hd => ?_
            have d84 := hd 26 (by decide) _ rfl; dsimp only [Fact.of] at d84
            have d88 := hd 30 (by decide) _ rfl; dsimp only [Fact.of] at d88
            clear hs hd
            go_simp
            exact ⟨Below.refl _ _, by rw [HF.out]; rfl⟩
        · as_aux_lemma =>
            refine InvOp.hide fun f HF ρ x hc hg hf hs hd => ?_
            have d89 := hd 31 (by decide) _ rfl; dsimp only [Fact.of] at d89
            clear hs hd
            go_simp
            exact ⟨Below.refl _ _, by rw [HF.out]; rfl⟩
        · as_aux_lemma =>
            refine InvOp.hide fun f HF ρ x hc hg hf hs hd => ?_
            have d11 := hs 9 _ rfl; dsimp only at d11
            clear hs hd
            go_simp
            exact ⟨Below.refl _ _, by rw [HF.out]; rfl⟩
        · as_aux_lemma =>
            refine InvOp.hide fun f HF ρ x hc hg hf hs hd => ?_
            have d91 := hd 33 (by decide) _ rfl; dsimp only [Fact.of] at d91
            clear hs hd
            go_simp
            exact ⟨Below.refl _ _, by rw [HF.out]; rfl⟩
        · as_aux_lemma =>
            refine InvOp.hide fun f HF ρ x hc hg hf hs hd => ?_
            have d90 := hd 32 (by decide) _ rfl; dsimp only [Fact.of] at d90
            have d92 := hd 34 (by decide) _ rfl; dsimp only [Fact.of] at d92
            clear hs hd
            go_simp
            exact ⟨Below.refl _ _, by rw [HF.out]; rfl⟩
        · as_aux_lemma =>
            refine InvOp.hide fun f HF ρ x hc hg hf hs hd => ?_
            have d93 := hd 35 (by decide) _ rfl; dsimp only [Fact.of] at d93
            clear hs hd
            go_simp
            exact ⟨Below.refl _ _, by rw [HF.out]; rfl⟩
        · as_aux_lemma =>
            refine InvOp.hide fun f HF ρ x hc hg hf hs hd => ?_
            have d10 := hs 8 _ rfl; dsimp only at d10
            clear hs hd
            go_simp
            exact ⟨Below.refl _ _, by rw [HF.out]; rfl⟩
        · as_aux_lemma =>
            refine InvOp.hide fun f HF ρ x hc hg hf hs hd => ?_
            have d94 := hd 36 (by decide) _ rfl; dsimp only [Fact.of] at d94
            have d95 := hd 37 (by decide) _ rfl; dsimp only [Fact.of] at d95
            clear hs hd
            go_simp
            exact ⟨Below.refl _ _, by rw [HF.out]; rfl⟩
        · as_aux_lemma =>
            refine InvOp.hide fun f HF ρ x hc hg hf hs hd => ?_
            have d96 := hd 38 (by decide) _ rfl; dsimp only [Fact.of] at d96
            clear hs hd
            go_simp
            exact ⟨Below.refl _ _, by rw [HF.out]; rfl⟩
        · as_aux_lemma =>
            refine InvOp.hide fun f HF ρ x hc hg hf hs hd => ?_
            have d9 := hs 7 _ rfl; dsimp only at d9
            clear hs hd
            go_simp
            exact ⟨Below.refl _ _, by rw [HF.out]; rfl⟩
        · as_aux_lemma =>
            refine InvOp.hide fun f HF ρ x hc hg hf hs hd => ?_
            have d98 := hd 40 (by decide) _ rfl; dsimp only [Fact.of] at d98
            clear hs hd
            have p4 := Hp4.out
            go_simp
            exact ⟨Below.refl _ _, by rw [HF.out]; rfl⟩
        · as_aux_lemma =>
            refine InvOp.hide fun f HF ρ x hc hg hf hs hd => ?_
            have d99 := hd 41 (by decide) _ rfl; dsimp only [Fact.of] at d99
            clear hs hd
            go_simp
            exact ⟨Below.refl _ _, by rw [HF.out]; rfl⟩
        · as_aux_lemma =>
            refine InvOp.hide fun f HF ρ x hc hg hf hs hd => ?_
            have d97 := hd 39 (by decide) _ rfl; dsimp only [Fact.of] at d97
            have d100 := hd 42 (by decide) _ rfl; dsimp only [Fact.of] at d100
            clear hs hd
            go_simp
            exact ⟨Below.refl _ _, by rw [HF.out]; rfl⟩
        · as_aux_lemma =>
            refine InvOp.hide fun f HF ρ x hc hg hf hs hd => ?_
            have d101 := hd 43 (by decide) _ rfl; dsimp only [Fact.of] at d101
            clear hs hd
            go_simp
            exact ⟨Below.refl _ _, by rw [HF.out]; rfl⟩
        · as_aux_lemma =>
            refine InvOp.hide fun f HF ρ x hc hg hf hs hd => ?_
            have d9 := hs 7 _ rfl; dsimp only at d9
            clear hs hd
            go_simp
            exact ⟨Below.refl _ _, by rw [HF.out]; rfl⟩
        · as_aux_lemma =>
            refine InvOp.hide fun f HF ρ x hc hg hf hs hd => ?_
            have d103 := hd 45 (by decide) _ rfl; dsimp only [Fact.of] at d103
            clear hs hd
            have q4 := Hq4.out
            go_simp
            exact ⟨Below.refl _ _, by rw [HF.out]; rfl⟩
        · as_aux_lemma =>
            refine InvOp.hide fun f HF ρ x hc hg hf hs hd => ?_
            have d104 := hd 46 (by decide) _ rfl; dsimp only [Fact.of] at d104
            clear hs hd
            go_simp
            exact ⟨Below.refl _ _, by rw [HF.out]; rfl⟩
        · as_aux_lemma =>
            refine InvOp.hide fun f HF ρ x hc hg hf hs hd => ?_
            have d105 := hd 47 (by decide) _ rfl; dsimp only [Fact.of] at d105
            clear hs hd
            go_simp
            exact ⟨Below.refl _ _, by rw [HF.out]; rfl⟩
        · as_aux_lemma =>
            refine InvOp.hide fun f HF ρ x hc hg hf hs hd => ?_
            have d102 := hd 44 (by decide) _ rfl; dsimp only [Fact.of] at d102
            have d106 := hd 48 (by decide) _ rfl; dsimp only [Fact.of] at d106
            clear hs hd
            go_simp
            exact ⟨Below.refl _ _, by rw [HF.out]; rfl⟩
        · as_aux_lemma =>
            refine InvOp.hide fun f HF ρ x hc hg hf hs hd => ?_
            have d107 := hd 49 (by decide) _ rfl; dsimp only [Fact.of] at d107
            clear hs hd
            go_simp
            exact ⟨Below.refl _ _, by rw [HF.out]; rfl⟩
        · as_aux_lemma =>
            refine InvOp.hide fun f HF ρ x hc hg hf hs hd => ?_
            have d9 := hs 7 _ rfl; dsimp only at d9
            clear hs hd
            go_simp
            exact ⟨Below.refl _ _, by rw [HF.out]; rfl⟩
        · as_aux_lemma =>
            refine InvOp.hide fun f HF ρ x hc hg hf hs hd => ?_
            have d109 := hd 51 (by decide) _ rfl; dsimp only [Fact.of] at d109
            clear hs hd
            have q4 := Hq4.out
            go_simp
            exact ⟨Below.refl _ _, by rw [HF.out]; rfl⟩
        · as_aux_lemma =>
            refine InvOp.hide fun f HF ρ x hc hg hf hs hd => ?_
            have d110 := hd 52 (by decide) _ rfl; dsimp only [Fact.of] at d110
            clear hs hd
            go_simp
            exact ⟨Below.refl _ _, by rw [HF.out]; rfl⟩
        · as_aux_lemma =>
            refine InvOp.hide fun f HF ρ x hc hg hf hs hd => ?_
            have d111 := hd 53 (by decide) _ rfl; dsimp only [Fact.of] at d111
            clear hs hd
            have e0 := He0.out
            go_simp
            exact ⟨Below.refl _ _, by rw [HF.out]; rfl⟩
        · as_aux_lemma =>
            refine InvOp.hide fun f HF ρ x hc hg hf hs hd => ?_
            have d112 := hd 54 (by decide) _ rfl; dsimp only [Fact.of] at d112
            clear hs hd
            go_simp
            exact ⟨Below.refl _ _, by rw [HF.out]; rfl⟩
        · as_aux_lemma =>
            refine InvOp.hide fun f HF ρ x hc hg hf hs hd => ?_
            have d108 := hd 50 (by decide) _ rfl; dsimp only [Fact.of] at d108
            have d113 := hd 55 (by decide) _ rfl; dsimp only [Fact.of] at d113
            clear hs hd
            go_simp
            exact ⟨Below.refl _ _, by rw [HF.out]; rfl⟩
        · as_aux_lemma =>
            refine InvOp.hide fun f HF ρ x hc hg hf hs hd => ?_
            have d114 := hd 56 (by decide) _ rfl; dsimp only [Fact.of] at d114
            clear hs hd
            go_simp
            exact ⟨Below.refl _ _, by rw [HF.out]; rfl⟩
        · as_aux_lemma =>
            refine InvOp.hide fun f HF ρ x hc hg hf hs hd => ?_
            have d9 := hs 7 _ rfl; dsimp only at d9
            clear hs hd
            go_simp
            exact ⟨Below.refl _ _, by rw [HF.out]; rfl⟩
        · as_aux_lemma =>
            refine InvOp.hide fun f HF ρ x hc hg hf hs hd => ?_
            have d116 := hd 58 (by decide) _ rfl; dsimp only [Fact.of] at d116
            clear hs hd
            have q4 := Hq4.out
            go_simp
            exact ⟨Below.refl _ _, by rw [HF.out]; rfl⟩
        · as_aux_lemma =>
            refine InvOp.hide fun f HF ρ x hc hg hf hs hd => ?_
            have d117 := hd 59 (by decide) _ rfl; dsimp only [Fact.of] at d117
            clear hs hd
            go_simp
            exact ⟨Below.refl _ _, by rw [HF.out]; rfl⟩
        · as_aux_lemma =>
            refine InvOp.hide fun f HF ρ x hc hg hf hs hd => ?_
            have d118 := hd 60 (by decide) _ rfl; dsimp only [Fact.of] at d118
            clear hs hd
            have e1 := He1.out
            go_simp
            exact ⟨Below.refl _ _, by rw [HF.out]; rfl⟩
        · as_aux_lemma =>
            refine InvOp.hide fun f HF ρ x hc hg hf hs hd => ?_
            have d115 := hd 57 (by decide) _ rfl; dsimp only [Fact.of] at d115
            have d119 := hd 61 (by decide) _ rfl; dsimp only [Fact.of] at d119
            clear hs hd
            go_simp
            exact ⟨Below.refl _ _, by rw [HF.out]; rfl⟩
        · as_aux_lemma =>
            refine InvOp.hide fun f HF ρ x hc hg hf hs hd => ?_
            have d120 := hd 62 (by decide) _ rfl; dsimp only [Fact.of] at d120
            clear hs hd
            go_simp
            exact ⟨Below.refl _ _, by rw [HF.out]; rfl⟩
      case hE =>
        intro T z hsz hsame hfacts
        have hT0 := hfacts 63 _ rfl
        dsimp only [Fact.of] at hT0
        clear hsame hfacts
        refine HK1.out _ _ ?_
        go_wp2_with fail
        refine bodyPost_ret (v := .bool true) (by rw [Array.getD_eq_getD_getElem?] at hT0; simp [results, Tryz.results11, go_sem, hT0]) rfl (Ret.mk rfl (hB.trans (z.below.mono hsf)))
end Go.Proofs.YtlnedapimmabdaaGreatDoor
