/- The function of Exists. Not, And, Or, Choose. Restrict, Exists, Implies. -/
import Derived.Test.YtkdmhjlcgpnjpaaGreatDoorXE
namespace Go.Proofs.YtkdmhjlcgpnjpaaGreatDoor
set_option linter.unusedVariables false
set_option linter.unusedSimpArgs false
open Go.RowKit Go.Maps
attribute [local go_sem low] Bel.cell Bel.frozen alloc_cell alloc_frozen
attribute [local go_sem] calmOp chainOp yieldsC grows
variable {rk : Nat → Nat}

end Go.Proofs.YtkdmhjlcgpnjpaaGreatDoor

namespace Go.Proofs.YtkdmhjlcgpnjpaaGreatDoor
set_option linter.unusedVariables false
set_option linter.unusedSimpArgs false
open Go.RowKit Go.Maps
attribute [local go_sem low] Bel.cell Bel.frozen alloc_cell alloc_frozen
attribute [local go_sem] calmOp chainOp yieldsC grows
variable {rk : Nat → Nat}

/-- The value of a diagram. -/
abbrev dnV (x : DN) : Value := .agg #[.slice x.1 x.2.2.1.length x.2.1, .int .i64 (x.2.2.2 : Int)]
abbrev diV (x : DI) : Value := .agg #[.slice x.1 x.2.2.1.length x.2.1, .int .i64 x.2.2.2]
theorem fin_dg {w w5 W1 : World} {M : List (Nat × Nat × Nat)} {r c b : Nat} {ad : Option Addr} (hb5 : Below w.heap.size w w5) (hbl : w.heap.size ≤ b) (hbu : b < w5.heap.size) (hi : InD W1.heap.size W1 ad (M.map z3)) (hf : ∀ g off k, ad = some ⟨g, off, k⟩ → w5.heap.size ≤ g) (hb : Below w5.heap.size w5 W1) (u1 u2 : Value) :
    RetDg M r w (.returned (.tuple #[.agg #[.slice ad M.length c, .int .i64 (r : Int)], .int .i64 0])) ((W1.setCell ⟨b, 0, none⟩ u1).setCell ⟨b, 1, none⟩ u2) := by
  have hs := hb5.size
  have hfr : ∀ g off k, ad = some ⟨g, off, k⟩ → b + 1 ≤ g := fun g off k h => by have := hf g off k h; omega
  refine ⟨ad, c, rfl, ?_, fun g off k h => by have := hf g off k h; omega, ?_⟩
  · have := (hi.set hfr (b := b) (i := 0) (x := u1) (by omega)).set hfr (b := b) (i := 1) (x := u2) (by omega)
    simpa using this
  · exact (((hb5.trans (hb.mono hs)).setCell (p := ⟨b, 0, none⟩) hbl u1).setCell (p := ⟨b, 1, none⟩) hbl u2)
theorem cells2 {W : World} {b : Nat} {x y : Value} {e : TypeId} (h : W.heap[b]? = some (.cells #[x, y] e (0, 0))) : W.cell? ⟨b, 0, none⟩ = some x ∧ W.cell? ⟨b, 1, none⟩ = some y ∧ W.frozen? ⟨b, 0, none⟩ = false ∧ W.frozen? ⟨b, 1, none⟩ = false := by
  refine ⟨?_, ?_, ?_, ?_⟩ <;> simp [World.cell?, World.frozen?, h]
theorem newAt1 (w : World) (a b : Obj) : ((w.alloc a).alloc b).heap[w.heap.size + 1]? = some b := by
  have := World.alloc_heap_new (w.alloc a) b
  rwa [World.size_alloc] at this
theorem newAt2 (w : World) (a b c : Obj) : (((w.alloc a).alloc b).alloc c).heap[w.heap.size + 1 + 1]? = some c := by
  have := World.alloc_heap_new ((w.alloc a).alloc b) c
  rwa [World.size_alloc, World.size_alloc] at this
theorem newAt3 (w : World) (a b c d : Obj) : ((((w.alloc a).alloc b).alloc c).alloc d).heap[w.heap.size + 1 + 1 + 1]? = some d := by
  have := World.alloc_heap_new (((w.alloc a).alloc b).alloc c) d
  rwa [World.size_alloc, World.size_alloc, World.size_alloc] at this
theorem newAt4 (w : World) (a b c d e : Obj) : (((((w.alloc a).alloc b).alloc c).alloc d).alloc e).heap[w.heap.size + 1 + 1 + 1 + 1]? = some e := by
  have := World.alloc_heap_new ((((w.alloc a).alloc b).alloc c).alloc d) e
  rwa [World.size_alloc, World.size_alloc, World.size_alloc, World.size_alloc] at this
/-! Errors. -/
theorem disB1 {w : World} {g : Nat} (x : DI) (h : w.heap[g]? = some (.cells #[.slice x.1 x.2.2.1.length x.2.1, .int .i64 x.2.2.2] 30 (0, 0))) : DIs w g 0 [x] := fun j y hj => by
  match j, hj with
  | 0, hj =>
    simp at hj
    subst hj
    refine ⟨?_, ?_⟩ <;> simp [World.cell?, h]
  | j + 1, hj => simp at hj
theorem disB2 {w : World} {g : Nat} (x y : DI) (h : w.heap[g]? = some (.cells #[.slice x.1 x.2.2.1.length x.2.1, .int .i64 x.2.2.2, .slice y.1 y.2.2.1.length y.2.1, .int .i64 y.2.2.2] 30 (0, 0))) : DIs w g 0 [x, y] := fun j z hj => by
  match j, hj with
  | 0, hj =>
    simp at hj
    subst hj
    refine ⟨?_, ?_⟩ <;> simp [World.cell?, h]
  | 1, hj =>
    simp at hj
    subst hj
    refine ⟨?_, ?_⟩ <;> simp [World.cell?, h]
  | j + 2, hj => simp at hj
theorem disB3 {w : World} {g : Nat} (x y u : DI) (h : w.heap[g]? = some (.cells #[.slice x.1 x.2.2.1.length x.2.1, .int .i64 x.2.2.2, .slice y.1 y.2.2.1.length y.2.1, .int .i64 y.2.2.2, .slice u.1 u.2.2.1.length u.2.1, .int .i64 u.2.2.2] 30 (0, 0))) : DIs w g 0 [x, y, u] := fun j z hj => by
  match j, hj with
  | 0, hj =>
    simp at hj
    subst hj
    refine ⟨?_, ?_⟩ <;> simp [World.cell?, h]
  | 1, hj =>
    simp at hj
    subst hj
    refine ⟨?_, ?_⟩ <;> simp [World.cell?, h]
  | 2, hj =>
    simp at hj
    subst hj
    refine ⟨?_, ?_⟩ <;> simp [World.cell?, h]
  | j + 3, hj => simp at hj
set_option maxRecDepth 100000 in
set_option maxHeartbeats 6400000 in
theorem Not_bad (x : DI) (w : World) (q : Nat) (hx : DIok w x) (hq : firstD [x] = q) (h0 : q ≠ 0) :
    Calls Tryz.prog 28 #[diV x] w (Ret (.tuple #[.agg #[.slice none 0 0, .int .i64 0], .int .i64 (q : Int)]) w) := by
  have HC := Lib.hid (fun w' g (hb : Below w.heap.size w w') (hd : w'.heap[g]? = some (.cells #[.slice x.1 x.2.2.1.length x.2.1, .int .i64 x.2.2.2] 30 (0, 0))) => combine_bad 59 #[] [x] g 0 1 w' (fun y hy => by rw [List.mem_singleton.1 hy]; exact hx.of hb) (disB1 x hd) (by simp) q hq h0)
  obtain ⟨ad, cap, M, r⟩ := x
  dsimp only at HC hx ⊢
  clear hx hq h0
  go_enter Tryz.func28, Tryz.ntmps28
  go_wp2_with fail
  refine (HC.out _ _ (by (repeat' (first | (with_reducible first | exact Below.refl _ _ | exact Nat.le_refl _ | refine Below.bel ?_ ?_ | refine Below.alloc ?_ ?_ _ | refine Below.drew ?_ | refine Below.drawsN ?_ _ | refine Below.setCell ?_ ?_ _ | refine le_bel ?_ | refine le_alloc ?_ | refine le_setCell ?_ | refine le_drew ?_ | refine le_drawsN ?_) | (dsimp only; with_reducible first | refine le_bel ?_ | refine Nat.le_refl _ | refine le_bel_add ?_) | (with_reducible assumption) | omega | (dsimp only; omega)))) ((newAt2 _ _ _ _))).mono ?_
  rintro _ _ ⟨rfl, y1, rfl⟩
  obtain ⟨d0, d1, d2, d3⟩ := cells2 (obj_in y1.below ((obj_alloc _ (newAt1 _ _ _))))
  dsimp only
  go_wp2
  refine bodyPost_ret (v := .tuple #[.agg #[.slice none 0 0, .int .i64 0], .int .i64 (q : Int)]) (by simp [results, Tryz.results28, go_sem, d0, d1]) rfl (Ret.mk rfl (by (repeat' (first | (with_reducible first | exact Below.refl _ _ | exact Nat.le_refl _ | refine Below.bel ?_ ?_ | refine Below.alloc ?_ ?_ _ | refine Below.drew ?_ | refine Below.drawsN ?_ _ | refine Below.setCell ?_ ?_ _ | refine le_bel ?_ | refine le_alloc ?_ | refine le_setCell ?_ | refine le_drew ?_ | refine le_drawsN ?_) | (dsimp only; with_reducible first | refine le_bel ?_ | refine Nat.le_refl _ | refine le_bel_add ?_) | (with_reducible assumption) | omega | (dsimp only; omega)))))
set_option maxRecDepth 100000 in
set_option maxHeartbeats 6400000 in
theorem And_bad (x y : DI) (w : World) (q : Nat) (hx : DIok w x) (hy : DIok w y) (hq : firstD [x, y] = q) (h0 : q ≠ 0) :
    Calls Tryz.prog 29 #[diV x, diV y] w (Ret (.tuple #[.agg #[.slice none 0 0, .int .i64 0], .int .i64 (q : Int)]) w) := by
  have HC := Lib.hid (fun w' g (hb : Below w.heap.size w w') (hd : w'.heap[g]? = some (.cells #[.slice x.1 x.2.2.1.length x.2.1, .int .i64 x.2.2.2, .slice y.1 y.2.2.1.length y.2.1, .int .i64 y.2.2.2] 30 (0, 0))) => combine_bad 61 #[] [x, y] g 0 2 w' (fun z hz => by
    rcases List.mem_cons.1 hz with rfl | hz
    · exact hx.of hb
    · rw [List.mem_singleton.1 hz]; exact hy.of hb) (disB2 x y hd) (by simp) q hq h0)
  obtain ⟨ad, cap, M, r⟩ := x
  obtain ⟨ad2, cap2, M2, r2⟩ := y
  dsimp only at HC hx hy ⊢
  clear hx hy hq h0
  go_enter Tryz.func29, Tryz.ntmps29
  go_wp2_with fail
  refine (HC.out _ _ (by (repeat' (first | (with_reducible first | exact Below.refl _ _ | exact Nat.le_refl _ | refine Below.bel ?_ ?_ | refine Below.alloc ?_ ?_ _ | refine Below.drew ?_ | refine Below.drawsN ?_ _ | refine Below.setCell ?_ ?_ _ | refine le_bel ?_ | refine le_alloc ?_ | refine le_setCell ?_ | refine le_drew ?_ | refine le_drawsN ?_) | (dsimp only; with_reducible first | refine le_bel ?_ | refine Nat.le_refl _ | refine le_bel_add ?_) | (with_reducible assumption) | omega | (dsimp only; omega)))) ((newAt3 _ _ _ _ _))).mono ?_
  rintro _ _ ⟨rfl, y1, rfl⟩
  obtain ⟨d0, d1, d2, d3⟩ := cells2 (obj_in y1.below ((obj_alloc _ (newAt2 _ _ _ _))))
  dsimp only
  go_wp2
  refine bodyPost_ret (v := .tuple #[.agg #[.slice none 0 0, .int .i64 0], .int .i64 (q : Int)]) (by simp [results, Tryz.results29, go_sem, d0, d1]) rfl (Ret.mk rfl (by (repeat' (first | (with_reducible first | exact Below.refl _ _ | exact Nat.le_refl _ | refine Below.bel ?_ ?_ | refine Below.alloc ?_ ?_ _ | refine Below.drew ?_ | refine Below.drawsN ?_ _ | refine Below.setCell ?_ ?_ _ | refine le_bel ?_ | refine le_alloc ?_ | refine le_setCell ?_ | refine le_drew ?_ | refine le_drawsN ?_) | (dsimp only; with_reducible first | refine le_bel ?_ | refine Nat.le_refl _ | refine le_bel_add ?_) | (with_reducible assumption) | omega | (dsimp only; omega)))))
set_option maxRecDepth 100000 in
set_option maxHeartbeats 6400000 in
theorem Or_bad (x y : DI) (w : World) (q : Nat) (hx : DIok w x) (hy : DIok w y) (hq : firstD [x, y] = q) (h0 : q ≠ 0) :
    Calls Tryz.prog 30 #[diV x, diV y] w (Ret (.tuple #[.agg #[.slice none 0 0, .int .i64 0], .int .i64 (q : Int)]) w) := by
  have HC := Lib.hid (fun w' g (hb : Below w.heap.size w w') (hd : w'.heap[g]? = some (.cells #[.slice x.1 x.2.2.1.length x.2.1, .int .i64 x.2.2.2, .slice y.1 y.2.2.1.length y.2.1, .int .i64 y.2.2.2] 30 (0, 0))) => combine_bad 62 #[] [x, y] g 0 2 w' (fun z hz => by
    rcases List.mem_cons.1 hz with rfl | hz
    · exact hx.of hb
    · rw [List.mem_singleton.1 hz]; exact hy.of hb) (disB2 x y hd) (by simp) q hq h0)
  obtain ⟨ad, cap, M, r⟩ := x
  obtain ⟨ad2, cap2, M2, r2⟩ := y
  dsimp only at HC hx hy ⊢
  clear hx hy hq h0
  go_enter Tryz.func30, Tryz.ntmps30
  go_wp2_with fail
  refine (HC.out _ _ (by (repeat' (first | (with_reducible first | exact Below.refl _ _ | exact Nat.le_refl _ | refine Below.bel ?_ ?_ | refine Below.alloc ?_ ?_ _ | refine Below.drew ?_ | refine Below.drawsN ?_ _ | refine Below.setCell ?_ ?_ _ | refine le_bel ?_ | refine le_alloc ?_ | refine le_setCell ?_ | refine le_drew ?_ | refine le_drawsN ?_) | (dsimp only; with_reducible first | refine le_bel ?_ | refine Nat.le_refl _ | refine le_bel_add ?_) | (with_reducible assumption) | omega | (dsimp only; omega)))) ((newAt3 _ _ _ _ _))).mono ?_
  rintro _ _ ⟨rfl, y1, rfl⟩
  obtain ⟨d0, d1, d2, d3⟩ := cells2 (obj_in y1.below ((obj_alloc _ (newAt2 _ _ _ _))))
  dsimp only
  go_wp2
  refine bodyPost_ret (v := .tuple #[.agg #[.slice none 0 0, .int .i64 0], .int .i64 (q : Int)]) (by simp [results, Tryz.results30, go_sem, d0, d1]) rfl (Ret.mk rfl (by (repeat' (first | (with_reducible first | exact Below.refl _ _ | exact Nat.le_refl _ | refine Below.bel ?_ ?_ | refine Below.alloc ?_ ?_ _ | refine Below.drew ?_ | refine Below.drawsN ?_ _ | refine Below.setCell ?_ ?_ _ | refine le_bel ?_ | refine le_alloc ?_ | refine le_setCell ?_ | refine le_drew ?_ | refine le_drawsN ?_) | (dsimp only; with_reducible first | refine le_bel ?_ | refine Nat.le_refl _ | refine le_bel_add ?_) | (with_reducible assumption) | omega | (dsimp only; omega)))))
set_option maxRecDepth 100000 in
set_option maxHeartbeats 6400000 in
theorem Choose_bad (x y u : DI) (w : World) (q : Nat) (hx : DIok w x) (hy : DIok w y) (hu : DIok w u) (hq : firstD [x, y, u] = q) (h0 : q ≠ 0) :
    Calls Tryz.prog 31 #[diV x, diV y, diV u] w (Ret (.tuple #[.agg #[.slice none 0 0, .int .i64 0], .int .i64 (q : Int)]) w) := by
  have HC := Lib.hid (fun w' g (hb : Below w.heap.size w w') (hd : w'.heap[g]? = some (.cells #[.slice x.1 x.2.2.1.length x.2.1, .int .i64 x.2.2.2, .slice y.1 y.2.2.1.length y.2.1, .int .i64 y.2.2.2, .slice u.1 u.2.2.1.length u.2.1, .int .i64 u.2.2.2] 30 (0, 0))) => combine_bad 63 #[] [x, y, u] g 0 3 w' (fun z hz => by
    rcases List.mem_cons.1 hz with rfl | hz
    · exact hx.of hb
    · rcases List.mem_cons.1 hz with rfl | hz
      · exact hy.of hb
      · rw [List.mem_singleton.1 hz]; exact hu.of hb) (disB3 x y u hd) (by simp) q hq h0)
  obtain ⟨ad, cap, M, r⟩ := x
  obtain ⟨ad2, cap2, M2, r2⟩ := y
  obtain ⟨ad3, cap3, M3, r3⟩ := u
  dsimp only at HC hx hy hu ⊢
  clear hx hy hu hq h0
  go_enter Tryz.func31, Tryz.ntmps31
  go_wp2_with fail
  refine (HC.out _ _ (by (repeat' (first | (with_reducible first | exact Below.refl _ _ | exact Nat.le_refl _ | refine Below.bel ?_ ?_ | refine Below.alloc ?_ ?_ _ | refine Below.drew ?_ | refine Below.drawsN ?_ _ | refine Below.setCell ?_ ?_ _ | refine le_bel ?_ | refine le_alloc ?_ | refine le_setCell ?_ | refine le_drew ?_ | refine le_drawsN ?_) | (dsimp only; with_reducible first | refine le_bel ?_ | refine Nat.le_refl _ | refine le_bel_add ?_) | (with_reducible assumption) | omega | (dsimp only; omega)))) ((newAt4 _ _ _ _ _ _))).mono ?_
  rintro _ _ ⟨rfl, y1, rfl⟩
  obtain ⟨d0, d1, d2, d3⟩ := cells2 (obj_in y1.below ((obj_alloc _ (newAt3 _ _ _ _ _))))
  dsimp only
  go_wp2
  refine bodyPost_ret (v := .tuple #[.agg #[.slice none 0 0, .int .i64 0], .int .i64 (q : Int)]) (by simp [results, Tryz.results31, go_sem, d0, d1]) rfl (Ret.mk rfl (by (repeat' (first | (with_reducible first | exact Below.refl _ _ | exact Nat.le_refl _ | refine Below.bel ?_ ?_ | refine Below.alloc ?_ ?_ _ | refine Below.drew ?_ | refine Below.drawsN ?_ _ | refine Below.setCell ?_ ?_ _ | refine le_bel ?_ | refine le_alloc ?_ | refine le_setCell ?_ | refine le_drew ?_ | refine le_drawsN ?_) | (dsimp only; with_reducible first | refine le_bel ?_ | refine Nat.le_refl _ | refine le_bel_add ?_) | (with_reducible assumption) | omega | (dsimp only; omega)))))
end Go.Proofs.YtkdmhjlcgpnjpaaGreatDoor

namespace Go.Proofs.YtkdmhjlcgpnjpaaGreatDoor
set_option linter.unusedVariables false
set_option linter.unusedSimpArgs false
open Go.RowKit Go.Maps
attribute [local go_sem low] Bel.cell Bel.frozen alloc_cell alloc_frozen
attribute [local go_sem] calmOp chainOp yieldsC grows
variable {rk : Nat → Nat}

set_option maxRecDepth 100000 in
set_option maxHeartbeats 6400000 in
theorem Restrict_bad (x : DI) (v : Int) (b : Bool) (w : World) (q : Nat) (hx : DIok w x) (hq : chkD x.2.2.1 x.2.2.2 = q) (h0 : q ≠ 0) :
    Calls Tryz.prog 32 #[diV x, .int .i64 v, .bool b] w (Ret (.tuple #[.agg #[.slice none 0 0, .int .i64 0], .int .i64 (q : Int)]) w) := by
  have HK := Lib.hid (fun w' (hb : Below w.heap.size w w') => (show Calls Tryz.prog 37 #[.agg #[.slice x.1 x.2.2.1.length x.2.1, .int .i64 x.2.2.2]] w' (Ret (.int .i64 (q : Int)) w') from by
    obtain ⟨o1, o2, o3, o4⟩ := hx.of hb
    have h := dCheck_any _ o2 o3 x.1 x.2.1 _ o4 w' o1
    rw [hq] at h
    exact h))
  have f0 : ((q : Int) != 0) = true := by simp; omega
  obtain ⟨ad, cap, M, r⟩ := x
  dsimp only at HK hx ⊢
  clear hx hq h0
  go_enter Tryz.func32, Tryz.ntmps32
  go_wp2_with fail
  refine (HK.out _ (by (repeat' (first | (with_reducible first | exact Below.refl _ _ | exact Nat.le_refl _ | refine Below.bel ?_ ?_ | refine Below.alloc ?_ ?_ _ | refine Below.drew ?_ | refine Below.drawsN ?_ _ | refine Below.setCell ?_ ?_ _ | refine le_bel ?_ | refine le_alloc ?_ | refine le_setCell ?_ | refine le_drew ?_ | refine le_drawsN ?_) | (dsimp only; with_reducible first | refine le_bel ?_ | refine Nat.le_refl _ | refine le_bel_add ?_) | (with_reducible assumption) | omega | (dsimp only; omega))))).mono ?_
  rintro _ _ ⟨rfl, y1, rfl⟩
  obtain ⟨d0, d1, d2, d3⟩ := cells2 (obj_in y1.below ((newAt3 _ _ _ _ _)))
  dsimp only
  go_wp2
  refine bodyPost_ret (v := .tuple #[.agg #[.slice none 0 0, .int .i64 0], .int .i64 (q : Int)]) (by simp [results, Tryz.results32, go_sem, d0, d1]) rfl (Ret.mk rfl (by (repeat' (first | (with_reducible first | exact Below.refl _ _ | exact Nat.le_refl _ | refine Below.bel ?_ ?_ | refine Below.alloc ?_ ?_ _ | refine Below.drew ?_ | refine Below.drawsN ?_ _ | refine Below.setCell ?_ ?_ _ | refine le_bel ?_ | refine le_alloc ?_ | refine le_setCell ?_ | refine le_drew ?_ | refine le_drawsN ?_) | (dsimp only; with_reducible first | refine le_bel ?_ | refine Nat.le_refl _ | refine le_bel_add ?_) | (with_reducible assumption) | omega | (dsimp only; omega)))))
set_option maxRecDepth 100000 in
set_option maxHeartbeats 6400000 in
theorem Exists_bad (x : DI) (v : Int) (w : World) (q : Nat) (hx : DIok w x) (hq : chkD x.2.2.1 x.2.2.2 = q) (h0 : q ≠ 0) :
    Calls Tryz.prog 33 #[diV x, .int .i64 v] w (Ret (.tuple #[.agg #[.slice none 0 0, .int .i64 0], .int .i64 (q : Int)]) w) := by
  have HK := Lib.hid (fun w' (hb : Below w.heap.size w w') => (show Calls Tryz.prog 37 #[.agg #[.slice x.1 x.2.2.1.length x.2.1, .int .i64 x.2.2.2]] w' (Ret (.int .i64 (q : Int)) w') from by
    obtain ⟨o1, o2, o3, o4⟩ := hx.of hb
    have h := dCheck_any _ o2 o3 x.1 x.2.1 _ o4 w' o1
    rw [hq] at h
    exact h))
  have f0 : ((q : Int) != 0) = true := by simp; omega
  obtain ⟨ad, cap, M, r⟩ := x
  dsimp only at HK hx ⊢
  clear hx hq h0
  go_enter Tryz.func33, Tryz.ntmps33
  go_wp2_with fail
  refine (HK.out _ (by (repeat' (first | (with_reducible first | exact Below.refl _ _ | exact Nat.le_refl _ | refine Below.bel ?_ ?_ | refine Below.alloc ?_ ?_ _ | refine Below.drew ?_ | refine Below.drawsN ?_ _ | refine Below.setCell ?_ ?_ _ | refine le_bel ?_ | refine le_alloc ?_ | refine le_setCell ?_ | refine le_drew ?_ | refine le_drawsN ?_) | (dsimp only; with_reducible first | refine le_bel ?_ | refine Nat.le_refl _ | refine le_bel_add ?_) | (with_reducible assumption) | omega | (dsimp only; omega))))).mono ?_
  rintro _ _ ⟨rfl, y1, rfl⟩
  obtain ⟨d0, d1, d2, d3⟩ := cells2 (obj_in y1.below ((newAt2 _ _ _ _)))
  dsimp only
  go_wp2
  refine bodyPost_ret (v := .tuple #[.agg #[.slice none 0 0, .int .i64 0], .int .i64 (q : Int)]) (by simp [results, Tryz.results33, go_sem, d0, d1]) rfl (Ret.mk rfl (by (repeat' (first | (with_reducible first | exact Below.refl _ _ | exact Nat.le_refl _ | refine Below.bel ?_ ?_ | refine Below.alloc ?_ ?_ _ | refine Below.drew ?_ | refine Below.drawsN ?_ _ | refine Below.setCell ?_ ?_ _ | refine le_bel ?_ | refine le_alloc ?_ | refine le_setCell ?_ | refine le_drew ?_ | refine le_drawsN ?_) | (dsimp only; with_reducible first | refine le_bel ?_ | refine Nat.le_refl _ | refine le_bel_add ?_) | (with_reducible assumption) | omega | (dsimp only; omega)))))
end Go.Proofs.YtkdmhjlcgpnjpaaGreatDoor
