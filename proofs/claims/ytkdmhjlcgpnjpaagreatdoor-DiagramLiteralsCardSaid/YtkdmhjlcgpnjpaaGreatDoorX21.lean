/- Literal, Constant, Implies. -/
import Derived.Test.YtkdmhjlcgpnjpaaGreatDoorX20
namespace Go.Proofs.YtkdmhjlcgpnjpaaGreatDoor
set_option linter.unusedVariables false
set_option linter.unusedSimpArgs false
open Go.RowKit Go.Maps
attribute [local go_sem low] Bel.cell Bel.frozen alloc_cell alloc_frozen
attribute [local go_sem] calmOp chainOp yieldsC grows
variable {rk : Nat → Nat}

set_option maxRecDepth 100000 in
theorem Constant_any (b : Bool) (w : World) : Calls Tryz.prog 27 #[.bool b] w (Ret (.agg #[.slice none 0 0, .int .i64 (if b then 1 else 0)]) w) := by
  cases b
  · go_enter Tryz.func27, Tryz.ntmps27
    go_wp2
    refine bodyPost_ret (v := .agg #[.slice none 0 0, .int .i64 0]) (by simp [results, Tryz.results27, go_sem]) rfl (Ret.mk rfl (by (repeat' (first | (with_reducible exact Below.refl _ _) | (with_reducible exact Nat.le_refl _) | (with_reducible refine Below.bel ?_ ?_) | (with_reducible refine Below.alloc ?_ ?_ _) | (with_reducible refine Below.drew ?_) | (with_reducible refine Below.drawsN ?_ _) | (with_reducible refine Below.setCell ?_ ?_ _) | (with_reducible refine le_bel ?_) | (with_reducible refine le_alloc ?_) | (with_reducible refine le_setCell ?_) | (with_reducible refine le_drew ?_) | (with_reducible refine le_drawsN ?_) | (dsimp only; with_reducible refine le_bel ?_) | (dsimp only; with_reducible refine Nat.le_refl _) | (dsimp only; with_reducible refine le_bel_add ?_) | (with_reducible assumption) | omega | (dsimp only; omega)))))
  · go_enter Tryz.func27, Tryz.ntmps27
    go_wp2
    refine bodyPost_ret (v := .agg #[.slice none 0 0, .int .i64 1]) (by simp [results, Tryz.results27, go_sem]) rfl (Ret.mk rfl (by (repeat' (first | (with_reducible exact Below.refl _ _) | (with_reducible exact Nat.le_refl _) | (with_reducible refine Below.bel ?_ ?_) | (with_reducible refine Below.alloc ?_ ?_ _) | (with_reducible refine Below.drew ?_) | (with_reducible refine Below.drawsN ?_ _) | (with_reducible refine Below.setCell ?_ ?_ _) | (with_reducible refine le_bel ?_) | (with_reducible refine le_alloc ?_) | (with_reducible refine le_setCell ?_) | (with_reducible refine le_drew ?_) | (with_reducible refine le_drawsN ?_) | (dsimp only; with_reducible refine le_bel ?_) | (dsimp only; with_reducible refine Nat.le_refl _) | (dsimp only; with_reducible refine le_bel_add ?_) | (with_reducible assumption) | omega | (dsimp only; omega)))))
/-- The nodes of a literal. -/
def litN (v : Nat) (b : Bool) : List (Nat × Nat × Nat) := if b then [(v, 0, 1)] else [(v, 1, 0)]
theorem inD_one {w : World} {g : Nat} {a b c : Nat} {e : TypeId} (h : w.heap[g]? = some (.cells #[.int .i64 (a : Int), .int .i64 (b : Int), .int .i64 (c : Int)] e (0, 0))) : InD w.heap.size w (some ⟨g, 0, none⟩) ([(a, b, c)].map z3) := fun _ => by
  refine ⟨g, 0, rfl, (Array.getElem?_eq_some_iff.1 h).1, fun j x hx => ?_⟩
  match j, hx with
  | 0, hx =>
    simp at hx
    subst hx
    refine ⟨?_, ?_, ?_⟩ <;> simp [World.cell?, h, z3]
  | j + 1, hx => simp at hx
set_option maxRecDepth 100000 in
theorem Literal_ok (v : Nat) (b : Bool) (hv : v < 4096) (w : World) : Calls Tryz.prog 26 #[.int .i64 (v : Int), .bool b] w (RetDg (litN v b) 2 w) := by
  have f1 : decide ((v : Int) < 0) = false := decide_eq_false (by omega)
  have f2 : decide ((4096 : Int) ≤ (v : Int)) = false := decide_eq_false (by omega)
  cases b
  · go_enter Tryz.func26, Tryz.ntmps26
    go_wp2
    refine bodyPost_ret (v := .tuple #[.agg #[.slice (some ⟨w.heap.size + 1, 0, none⟩) 1 1, .int .i64 2], .int .i64 0]) (by simp [results, Tryz.results26, go_sem]) rfl ⟨_, _, rfl, inD_one (newAt1 w _ (.cells #[.int .i64 (v : Int), .int .i64 1, .int .i64 0] 55 (0, 0))), fun g off k h => by injection h with h; injection h with h1 _ _; omega, by (repeat' (first | (with_reducible exact Below.refl _ _) | (with_reducible exact Nat.le_refl _) | (with_reducible refine Below.bel ?_ ?_) | (with_reducible refine Below.alloc ?_ ?_ _) | (with_reducible refine Below.drew ?_) | (with_reducible refine Below.drawsN ?_ _) | (with_reducible refine Below.setCell ?_ ?_ _) | (with_reducible refine le_bel ?_) | (with_reducible refine le_alloc ?_) | (with_reducible refine le_setCell ?_) | (with_reducible refine le_drew ?_) | (with_reducible refine le_drawsN ?_) | (dsimp only; with_reducible refine le_bel ?_) | (dsimp only; with_reducible refine Nat.le_refl _) | (dsimp only; with_reducible refine le_bel_add ?_) | (with_reducible assumption) | omega | (dsimp only; omega)))⟩
  · go_enter Tryz.func26, Tryz.ntmps26
    go_wp2
    refine bodyPost_ret (v := .tuple #[.agg #[.slice (some ⟨w.heap.size + 1, 0, none⟩) 1 1, .int .i64 2], .int .i64 0]) (by simp [results, Tryz.results26, go_sem]) rfl ⟨_, _, rfl, inD_one (newAt1 w _ (.cells #[.int .i64 (v : Int), .int .i64 0, .int .i64 1] 55 (0, 0))), fun g off k h => by injection h with h; injection h with h1 _ _; omega, by (repeat' (first | (with_reducible exact Below.refl _ _) | (with_reducible exact Nat.le_refl _) | (with_reducible refine Below.bel ?_ ?_) | (with_reducible refine Below.alloc ?_ ?_ _) | (with_reducible refine Below.drew ?_) | (with_reducible refine Below.drawsN ?_ _) | (with_reducible refine Below.setCell ?_ ?_ _) | (with_reducible refine le_bel ?_) | (with_reducible refine le_alloc ?_) | (with_reducible refine le_setCell ?_) | (with_reducible refine le_drew ?_) | (with_reducible refine le_drawsN ?_) | (dsimp only; with_reducible refine le_bel ?_) | (dsimp only; with_reducible refine Nat.le_refl _) | (dsimp only; with_reducible refine le_bel_add ?_) | (with_reducible assumption) | omega | (dsimp only; omega)))⟩
set_option maxRecDepth 100000 in
theorem Literal_range (v : Int) (b : Bool) (hv : v < 0 ∨ 4096 ≤ v) (w : World) : Calls Tryz.prog 26 #[.int .i64 v, .bool b] w (Ret (.tuple #[.agg #[.slice none 0 0, .int .i64 0], .int .i64 3]) w) := by
  by_cases h1 : v < 0
  · have f1 : decide (v < 0) = true := decide_eq_true h1
    clear hv
    go_enter Tryz.func26, Tryz.ntmps26
    go_wp2
    refine bodyPost_ret (v := .tuple #[.agg #[.slice none 0 0, .int .i64 0], .int .i64 3]) (by simp [results, Tryz.results26, go_sem]) rfl (Ret.mk rfl (by (repeat' (first | (with_reducible exact Below.refl _ _) | (with_reducible exact Nat.le_refl _) | (with_reducible refine Below.bel ?_ ?_) | (with_reducible refine Below.alloc ?_ ?_ _) | (with_reducible refine Below.drew ?_) | (with_reducible refine Below.drawsN ?_ _) | (with_reducible refine Below.setCell ?_ ?_ _) | (with_reducible refine le_bel ?_) | (with_reducible refine le_alloc ?_) | (with_reducible refine le_setCell ?_) | (with_reducible refine le_drew ?_) | (with_reducible refine le_drawsN ?_) | (dsimp only; with_reducible refine le_bel ?_) | (dsimp only; with_reducible refine Nat.le_refl _) | (dsimp only; with_reducible refine le_bel_add ?_) | (with_reducible assumption) | omega | (dsimp only; omega)))))
  · have f1 : decide (v < 0) = false := decide_eq_false h1
    have f2 : decide (4096 ≤ v) = true := decide_eq_true (by omega)
    clear hv
    go_enter Tryz.func26, Tryz.ntmps26
    go_wp2
    refine bodyPost_ret (v := .tuple #[.agg #[.slice none 0 0, .int .i64 0], .int .i64 3]) (by simp [results, Tryz.results26, go_sem]) rfl (Ret.mk rfl (by (repeat' (first | (with_reducible exact Below.refl _ _) | (with_reducible exact Nat.le_refl _) | (with_reducible refine Below.bel ?_ ?_) | (with_reducible refine Below.alloc ?_ ?_ _) | (with_reducible refine Below.drew ?_) | (with_reducible refine Below.drawsN ?_ _) | (with_reducible refine Below.setCell ?_ ?_ _) | (with_reducible refine le_bel ?_) | (with_reducible refine le_alloc ?_) | (with_reducible refine le_setCell ?_) | (with_reducible refine le_drew ?_) | (with_reducible refine le_drawsN ?_) | (dsimp only; with_reducible refine le_bel ?_) | (dsimp only; with_reducible refine Nat.le_refl _) | (dsimp only; with_reducible refine le_bel_add ?_) | (with_reducible assumption) | omega | (dsimp only; omega)))))
/-- What Implies returns. -/
def RetI (rk : Nat → Nat) (n : Nat) (S : (Nat → Bool) → Bool) (w : World) (e : Ending) (w' : World) : Prop :=
  ∃ (N : List (Nat × Nat × Nat)) (p : Nat), Good N ∧ N.length ≤ n ∧ (∀ x ∈ N, VarOk rk x.1) ∧ p < N.length + 2 ∧ (∀ ρ, val3 ρ N p = S ρ) ∧ e = .returned (.tuple #[.bool (decide ((canonD N p).2 = 1)), .int .i64 0]) ∧ Below w.heap.size w w'
set_option maxRecDepth 100000 in
set_option maxHeartbeats 6400000 in
theorem Implies_ok {K c : Nat} (hc : c + 1 = 2 ^ K) (hrk : ∀ v, rk v ≤ K) (x y : DN) (w : World) (hx : DNok rk w x) (hy : DNok rk w y) (hsum : x.2.2.1.length + y.2.2.1.length + c ≤ 50000) :
    Calls Tryz.prog 40 #[dnV x, dnV y] w (RetI rk (x.2.2.1.length + y.2.2.1.length + c) (fun ρ => !val3 ρ x.2.2.1 x.2.2.2 || val3 ρ y.2.2.1 y.2.2.2) w) := by
  have HC := Lib.hid (fun w' g (hb : Below w.heap.size w w') (hd : w'.heap[g]? = some (.cells #[.slice x.1 x.2.2.1.length x.2.1, .int .i64 (x.2.2.2 : Int), .slice y.1 y.2.2.1.length y.2.1, .int .i64 (y.2.2.2 : Int)] 30 (0, 0))) => combine_any rk 81 #[] egImplies [x, y] g 0 2 c _ w' (fun z hz => by
    rcases List.mem_cons.1 hz with rfl | hz
    · exact hx.of hb
    · rw [List.mem_singleton.1 hz]; exact hy.of hb) (dis2 x y hd) (mkImplies hc hrk w' x y) (by simp [sumN]; omega) (by simp))
  have hsn : sumN [x, y] = x.2.2.1.length + y.2.2.1.length := by simp [sumN]
  rw [hsn] at HC
  obtain ⟨ad, cap, M, r⟩ := x
  obtain ⟨ad2, cap2, M2, r2⟩ := y
  dsimp only at HC hsum hx hy ⊢
  clear hx hy hsn
  go_enter Tryz.func40, Tryz.ntmps40
  go_wp2_with fail
  refine (HC.out _ _ (by (repeat' (first | (with_reducible exact Below.refl _ _) | (with_reducible exact Nat.le_refl _) | (with_reducible refine Below.bel ?_ ?_) | (with_reducible refine Below.alloc ?_ ?_ _) | (with_reducible refine Below.drew ?_) | (with_reducible refine Below.drawsN ?_ _) | (with_reducible refine Below.setCell ?_ ?_ _) | (with_reducible refine le_bel ?_) | (with_reducible refine le_alloc ?_) | (with_reducible refine le_setCell ?_) | (with_reducible refine le_drew ?_) | (with_reducible refine le_drawsN ?_) | (dsimp only; with_reducible refine le_bel ?_) | (dsimp only; with_reducible refine Nat.le_refl _) | (dsimp only; with_reducible refine le_bel_add ?_) | (with_reducible assumption) | omega | (dsimp only; omega)))) (newAt2 _ _ _ _)).mono ?_
  rintro _ W1 ⟨N, p, hg, hl, hv, hp, hS, ad', c', rfl, hi', hf', hb'⟩
  obtain ⟨CM, hCM⟩ : ∃ x, (canonD N p).1 = x := ⟨_, rfl⟩
  obtain ⟨cr, hcr⟩ : ∃ x, (canonD N p).2 = x := ⟨_, rfl⟩
  rw [hCM] at hi' ⊢
  rw [hcr] at ⊢
  have HG := Lib.hid (And.intro hg (And.intro hl (And.intro hv (And.intro hp (And.intro hS (And.intro hCM hcr))))))
  have hbw : Below w.heap.size w W1 := (show Below w.heap.size w _ from by (repeat' (first | (with_reducible exact Below.refl _ _) | (with_reducible exact Nat.le_refl _) | (with_reducible refine Below.bel ?_ ?_) | (with_reducible refine Below.alloc ?_ ?_ _) | (with_reducible refine Below.drew ?_) | (with_reducible refine Below.drawsN ?_ _) | (with_reducible refine Below.setCell ?_ ?_ _) | (with_reducible refine le_bel ?_) | (with_reducible refine le_alloc ?_) | (with_reducible refine le_setCell ?_) | (with_reducible refine le_drew ?_) | (with_reducible refine le_drawsN ?_) | (dsimp only; with_reducible refine le_bel ?_) | (dsimp only; with_reducible refine Nat.le_refl _) | (dsimp only; with_reducible refine le_bel_add ?_) | (with_reducible assumption) | omega | (dsimp only; omega)))).trans (hb'.mono (by simp; omega))
  obtain ⟨q, hq⟩ : ∃ q, decide (cr = 1) = q := ⟨_, rfl⟩
  have f0 : ((cr : Int) == 1) = q := by
    rw [← hq]
    cases h : decide (cr = 1)
    · have := of_decide_eq_false h
      exact beq_eq_false_iff_ne.2 (by omega)
    · have := of_decide_eq_true h
      exact beq_iff_eq.2 (by omega)
  have HQ := Lib.hid hq
  clear hi' hf' hb' hg hl hv hp hS hCM hcr hq
  dsimp only
  go_wp2
  refine bodyPost_ret (v := .tuple #[.bool q, .int .i64 0]) (by simp [results, Tryz.results40, go_sem]) rfl ⟨N, p, HG.out.1, HG.out.2.1, HG.out.2.2.1, HG.out.2.2.2.1, HG.out.2.2.2.2.1, ?_, by have := hbw.size; (repeat' (first | (with_reducible exact Below.refl _ _) | (with_reducible exact Nat.le_refl _) | (with_reducible refine Below.bel ?_ ?_) | (with_reducible refine Below.alloc ?_ ?_ _) | (with_reducible refine Below.drew ?_) | (with_reducible refine Below.drawsN ?_ _) | (with_reducible refine Below.setCell ?_ ?_ _) | (with_reducible refine le_bel ?_) | (with_reducible refine le_alloc ?_) | (with_reducible refine le_setCell ?_) | (with_reducible refine le_drew ?_) | (with_reducible refine le_drawsN ?_) | (dsimp only; with_reducible refine le_bel ?_) | (dsimp only; with_reducible refine Nat.le_refl _) | (dsimp only; with_reducible refine le_bel_add ?_) | (with_reducible assumption) | omega | (dsimp only; omega)))⟩
  rw [HG.out.2.2.2.2.2.2, HQ.out]
set_option maxRecDepth 100000 in
set_option maxHeartbeats 6400000 in
theorem Implies_bad (x y : DI) (w : World) (q : Nat) (hx : DIok w x) (hy : DIok w y) (hq : firstD [x, y] = q) (h0 : q ≠ 0) :
    Calls Tryz.prog 40 #[diV x, diV y] w (Ret (.tuple #[.bool false, .int .i64 (q : Int)]) w) := by
  have HC := Lib.hid (fun w' g (hb : Below w.heap.size w w') (hd : w'.heap[g]? = some (.cells #[.slice x.1 x.2.2.1.length x.2.1, .int .i64 x.2.2.2, .slice y.1 y.2.2.1.length y.2.1, .int .i64 y.2.2.2] 30 (0, 0))) => combine_bad 81 #[] [x, y] g 0 2 w' (fun z hz => by
    rcases List.mem_cons.1 hz with rfl | hz
    · exact hx.of hb
    · rw [List.mem_singleton.1 hz]; exact hy.of hb) (disB2 x y hd) (by simp) q hq h0)
  have f0 : ((q : Int) == 0) = false := beq_eq_false_iff_ne.2 (by omega)
  obtain ⟨ad, cap, M, r⟩ := x
  obtain ⟨ad2, cap2, M2, r2⟩ := y
  dsimp only at HC hx hy ⊢
  clear hx hy hq h0
  go_enter Tryz.func40, Tryz.ntmps40
  go_wp2_with fail
  refine (HC.out _ _ (by (repeat' (first | (with_reducible exact Below.refl _ _) | (with_reducible exact Nat.le_refl _) | (with_reducible refine Below.bel ?_ ?_) | (with_reducible refine Below.alloc ?_ ?_ _) | (with_reducible refine Below.drew ?_) | (with_reducible refine Below.drawsN ?_ _) | (with_reducible refine Below.setCell ?_ ?_ _) | (with_reducible refine le_bel ?_) | (with_reducible refine le_alloc ?_) | (with_reducible refine le_setCell ?_) | (with_reducible refine le_drew ?_) | (with_reducible refine le_drawsN ?_) | (dsimp only; with_reducible refine le_bel ?_) | (dsimp only; with_reducible refine Nat.le_refl _) | (dsimp only; with_reducible refine le_bel_add ?_) | (with_reducible assumption) | omega | (dsimp only; omega)))) (newAt2 _ _ _ _)).mono ?_
  rintro _ _ ⟨rfl, y1, rfl⟩
  dsimp only
  go_wp2
  refine bodyPost_ret (v := .tuple #[.bool false, .int .i64 (q : Int)]) (by simp [results, Tryz.results40, go_sem]) rfl (Ret.mk rfl (by (repeat' (first | (with_reducible exact Below.refl _ _) | (with_reducible exact Nat.le_refl _) | (with_reducible refine Below.bel ?_ ?_) | (with_reducible refine Below.alloc ?_ ?_ _) | (with_reducible refine Below.drew ?_) | (with_reducible refine Below.drawsN ?_ _) | (with_reducible refine Below.setCell ?_ ?_ _) | (with_reducible refine le_bel ?_) | (with_reducible refine le_alloc ?_) | (with_reducible refine le_setCell ?_) | (with_reducible refine le_drew ?_) | (with_reducible refine le_drawsN ?_) | (dsimp only; with_reducible refine le_bel ?_) | (dsimp only; with_reducible refine Nat.le_refl _) | (dsimp only; with_reducible refine le_bel_add ?_) | (with_reducible assumption) | omega | (dsimp only; omega)))))
end Go.Proofs.YtkdmhjlcgpnjpaaGreatDoor
