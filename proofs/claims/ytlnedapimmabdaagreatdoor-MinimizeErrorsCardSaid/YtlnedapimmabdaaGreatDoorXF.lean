/- The function of Exists. Not, And, Or, Choose. Restrict, Exists, Implies. -/
import Derived.Test.YtlnedapimmabdaaGreatDoorXE
namespace Go.Proofs.YtlnedapimmabdaaGreatDoor
set_option linter.unusedVariables false
set_option linter.unusedSimpArgs false
open Go.RowKit Go.Maps
attribute [local go_sem low] Bel.cell Bel.frozen alloc_cell alloc_frozen
attribute [local go_sem] calmOp chainOp yieldsC grows
variable {rk : Nat → Nat}

end Go.Proofs.YtlnedapimmabdaaGreatDoor

namespace Go.Proofs.YtlnedapimmabdaaGreatDoor
set_option linter.unusedVariables false
set_option linter.unusedSimpArgs false
open Go.RowKit Go.Maps
attribute [local go_sem low] Bel.cell Bel.frozen alloc_cell alloc_frozen
attribute [local go_sem] calmOp chainOp yieldsC grows
variable {rk : Nat → Nat}

abbrev dnV (x : DN) : Value := .agg #[.slice x.1 x.2.2.1.length x.2.1, .int .i64 (x.2.2.2 : Int)]
theorem fin_dg {w w5 W1 : World} {M : List (Nat × Nat × Nat)} {r c b : Nat} {ad : Option Addr} (hb5 : Below w.heap.size w w5) (hbl : w.heap.size ≤ b) (hbu : b < w5.heap.size) (hi : InD W1.heap.size W1 ad (M.map z3)) (hf : ∀ g off k, ad = some ⟨g, off, k⟩ → w5.heap.size ≤ g) (hb : Below w5.heap.size w5 W1) (u1 u2 : Value) :
    RetDg M r w (.returned (.tuple #[.agg #[.slice ad M.length c, .int .i64 (r : Int)], .int .i64 0])) ((W1.setCell ⟨b, 0, none⟩ u1).setCell ⟨b, 1, none⟩ u2) := by
  have hs := hb5.size
  have hfr : ∀ g off k, ad = some ⟨g, off, k⟩ → b + 1 ≤ g := fun g off k h => by have := hf g off k h; omega
  refine ⟨ad, c, rfl, ?_, fun g off k h => by have := hf g off k h; omega, ?_⟩
  · have := (hi.set hfr (b := b) (i := 0) (x := u1) (by omega)).set hfr (b := b) (i := 1) (x := u2) (by omega)
    simpa using this
  · exact (((hb5.trans (hb.mono hs)).setCell (p := ⟨b, 0, none⟩) hbl u1).setCell (p := ⟨b, 1, none⟩) hbl u2)
theorem cells2 {W : World} {b : Nat} {x y : Value} {e : TypeId} (h : W.heap[b]? = some (.cells #[x, y] e (0, 0))) : W.cell? ⟨b, 0, none⟩ = some x ∧ W.cell? ⟨b, 1, none⟩ = some y ∧ W.frozen? ⟨b, 0, none⟩ = false ∧ W.frozen? ⟨b, 1, none⟩ = false := by
  refine ⟨?_, ?_, ?_, ?_⟩ <;> simp [World.cell?, World.frozen?, h]
theorem dis1 {w : World} {g : Nat} (x : DN) (h : w.heap[g]? = some (.cells #[.slice x.1 x.2.2.1.length x.2.1, .int .i64 (x.2.2.2 : Int)] 63 (0, 0))) : DIs w g 0 ([x].map toI) := fun j y hj => by
  match j, hj with
  | 0, hj =>
    simp at hj
    subst hj
    refine ⟨?_, ?_⟩ <;> simp [World.cell?, h, toI]
  | j + 1, hj => simp at hj
theorem dis2 {w : World} {g : Nat} (x y : DN) (h : w.heap[g]? = some (.cells #[.slice x.1 x.2.2.1.length x.2.1, .int .i64 (x.2.2.2 : Int), .slice y.1 y.2.2.1.length y.2.1, .int .i64 (y.2.2.2 : Int)] 63 (0, 0))) : DIs w g 0 ([x, y].map toI) := fun j z hj => by
  match j, hj with
  | 0, hj =>
    simp at hj
    subst hj
    refine ⟨?_, ?_⟩ <;> simp [World.cell?, h, toI]
  | 1, hj =>
    simp at hj
    subst hj
    refine ⟨?_, ?_⟩ <;> simp [World.cell?, h, toI]
  | j + 2, hj => simp at hj
theorem dis3 {w : World} {g : Nat} (x y u : DN) (h : w.heap[g]? = some (.cells #[.slice x.1 x.2.2.1.length x.2.1, .int .i64 (x.2.2.2 : Int), .slice y.1 y.2.2.1.length y.2.1, .int .i64 (y.2.2.2 : Int), .slice u.1 u.2.2.1.length u.2.1, .int .i64 (u.2.2.2 : Int)] 63 (0, 0))) : DIs w g 0 ([x, y, u].map toI) := fun j z hj => by
  match j, hj with
  | 0, hj =>
    simp at hj
    subst hj
    refine ⟨?_, ?_⟩ <;> simp [World.cell?, h, toI]
  | 1, hj =>
    simp at hj
    subst hj
    refine ⟨?_, ?_⟩ <;> simp [World.cell?, h, toI]
  | 2, hj =>
    simp at hj
    subst hj
    refine ⟨?_, ?_⟩ <;> simp [World.cell?, h, toI]
  | j + 3, hj => simp at hj
theorem newAt1 (w : World) (a b : Obj) : ((w.alloc a).alloc b).heap[w.heap.size + 1]? = some b := by
  have := World.alloc_heap_new (w.alloc a) b
  rwa [World.size_alloc] at this
theorem newAt2 (w : World) (a b c : Obj) : (((w.alloc a).alloc b).alloc c).heap[w.heap.size + 1 + 1]? = some c := by
  have := World.alloc_heap_new ((w.alloc a).alloc b) c
  rwa [World.size_alloc, World.size_alloc] at this
theorem newAt3 (w : World) (a b c d : Obj) : ((((w.alloc a).alloc b).alloc c).alloc d).heap[w.heap.size + 1 + 1 + 1]? = some d := by
  have := World.alloc_heap_new (((w.alloc a).alloc b).alloc c) d
  rwa [World.size_alloc, World.size_alloc, World.size_alloc] at this
theorem newAt4 (w : World) (a b c d e : Obj) : (((((w.alloc a).alloc b).alloc c).alloc d).alloc e).heap[w.heap.size + 1 + 1 + 1 + 1]? = some e := by
  have := World.alloc_heap_new ((((w.alloc a).alloc b).alloc c).alloc d) e
  rwa [World.size_alloc, World.size_alloc, World.size_alloc, World.size_alloc] at this
theorem egNot : ∀ args w, (callFunc 68 args).run Tryz.prog w = .ok (.enter 68 args) w := fun args w => by kernel_rfl
theorem egAnd : ∀ args w, (callFunc 85 args).run Tryz.prog w = .ok (.enter 85 args) w := fun args w => by kernel_rfl
theorem egOr : ∀ args w, (callFunc 86 args).run Tryz.prog w = .ok (.enter 86 args) w := fun args w => by kernel_rfl
theorem egChoose : ∀ args w, (callFunc 70 args).run Tryz.prog w = .ok (.enter 70 args) w := fun args w => by kernel_rfl
set_option maxRecDepth 100000 in
set_option maxHeartbeats 6400000 in
theorem Not_ok {K c : Nat} (hc : c + 1 = 2 ^ K) (hrk : ∀ v, rk v ≤ K) (x : DN) (w : World) (hx : DNok rk w x) (hsum : x.2.2.1.length + c ≤ 50000) :
    Calls Tryz.prog 43 #[dnV x] w (RetC rk (x.2.2.1.length + c) (fun ρ => !val3 ρ x.2.2.1 x.2.2.2) w) := by
  have HC := Lib.hid (fun w' g (hb : Below w.heap.size w w') (hd : w'.heap[g]? = some (.cells #[.slice x.1 x.2.2.1.length x.2.1, .int .i64 (x.2.2.2 : Int)] 63 (0, 0))) => combine_any rk 68 #[] egNot [x] g 0 1 c _ w' (fun y hy => by rw [List.mem_singleton.1 hy]; exact hx.of hb) (dis1 x hd) (mkNot hc hrk w' x) (by simp [sumN]; omega) (by simp))
  have hsn : sumN [x] = x.2.2.1.length := by simp [sumN]
  rw [hsn] at HC
  obtain ⟨ad, cap, M, r⟩ := x
  dsimp only at HC hsum hx ⊢
  clear hx hsn
  go_enter Tryz.func43, Tryz.ntmps43
  go_wp2_with fail
  refine (HC.out _ _ (by (repeat' (first | (with_reducible first | apply Zl1 | apply Zl2 | apply Zl3 | apply Zl4 | apply Zl5 | apply Zl6 | apply Zl7 | apply Zl8 | apply Zl9 | apply Zla | apply Zlb | apply Zlc) | (dsimp only; with_reducible first | apply Zl8 | apply Zl2 | apply Zld) | with_reducible assumption | omega | (dsimp only; omega)))) ((newAt2 _ _ _ _))).mono ?_
  rintro _ W1 ⟨N, p, hg, hl, hv, hp, hS, ad', c', rfl, hi', hf', hb'⟩
  obtain ⟨d0, d1, d2, d3⟩ := cells2 (obj_in hb' ((obj_alloc _ (newAt1 _ _ _))))
  obtain ⟨CM, hCM⟩ : ∃ x, (canonD N p).1 = x := ⟨_, rfl⟩
  obtain ⟨cr, hcr⟩ : ∃ x, (canonD N p).2 = x := ⟨_, rfl⟩
  rw [hCM] at hi' ⊢
  rw [hcr] at ⊢
  have HH := Lib.hid (And.intro hi' (And.intro hf' hb'))
  have HG := Lib.hid (And.intro hg (And.intro hl (And.intro hv (And.intro hp (And.intro hS (And.intro hCM hcr))))))
  clear hi' hf' hb' hg hl hv hp hS hCM hcr
  dsimp only
  go_wp2
  refine bodyPost_ret (v := .tuple #[.agg #[.slice ad' CM.length c', .int .i64 (cr : Int)], .int .i64 0]) (by simp [results, Tryz.results43, go_sem, d0, d1]) rfl ⟨N, p, HG.out.1, HG.out.2.1, HG.out.2.2.1, HG.out.2.2.2.1, HG.out.2.2.2.2.1, ?_⟩
  rw [HG.out.2.2.2.2.2.1, HG.out.2.2.2.2.2.2]
  exact fin_dg (by (repeat' (first | (with_reducible first | apply Zl1 | apply Zl2 | apply Zl3 | apply Zl4 | apply Zl5 | apply Zl6 | apply Zl7 | apply Zl8 | apply Zl9 | apply Zla | apply Zlb | apply Zlc) | (dsimp only; with_reducible first | apply Zl8 | apply Zl2 | apply Zld) | with_reducible assumption | omega | (dsimp only; omega)))) (by omega) (by simp) HH.out.1 HH.out.2.1 HH.out.2.2 _ _
set_option maxRecDepth 100000 in
set_option maxHeartbeats 6400000 in
theorem And_ok {K c : Nat} (hc : c + 1 = 2 ^ K) (hrk : ∀ v, rk v ≤ K) (x y : DN) (w : World) (hx : DNok rk w x) (hy : DNok rk w y) (hsum : x.2.2.1.length + y.2.2.1.length + c ≤ 50000) :
    Calls Tryz.prog 64 #[dnV x, dnV y] w (RetC rk (x.2.2.1.length + y.2.2.1.length + c) (fun ρ => (val3 ρ x.2.2.1 x.2.2.2 && val3 ρ y.2.2.1 y.2.2.2)) w) := by
  have HC := Lib.hid (fun w' g (hb : Below w.heap.size w w') (hd : w'.heap[g]? = some (.cells #[.slice x.1 x.2.2.1.length x.2.1, .int .i64 (x.2.2.2 : Int), .slice y.1 y.2.2.1.length y.2.1, .int .i64 (y.2.2.2 : Int)] 63 (0, 0))) => combine_any rk 85 #[] egAnd [x, y] g 0 2 c _ w' (fun z hz => by
    rcases List.mem_cons.1 hz with rfl | hz
    · exact hx.of hb
    · rw [List.mem_singleton.1 hz]; exact hy.of hb) (dis2 x y hd) (mkAnd hc hrk w' x y) (by simp [sumN]; omega) (by simp))
  have hsn : sumN [x, y] = x.2.2.1.length + y.2.2.1.length := by simp [sumN]
  rw [hsn] at HC
  obtain ⟨ad, cap, M, r⟩ := x
  obtain ⟨ad2, cap2, M2, r2⟩ := y
  dsimp only at HC hsum hx hy ⊢
  clear hx hy hsn
  go_enter Tryz.func64, Tryz.ntmps64
  go_wp2_with fail
  refine (HC.out _ _ (by (repeat' (first | (with_reducible first | apply Zl1 | apply Zl2 | apply Zl3 | apply Zl4 | apply Zl5 | apply Zl6 | apply Zl7 | apply Zl8 | apply Zl9 | apply Zla | apply Zlb | apply Zlc) | (dsimp only; with_reducible first | apply Zl8 | apply Zl2 | apply Zld) | with_reducible assumption | omega | (dsimp only; omega)))) ((newAt3 _ _ _ _ _))).mono ?_
  rintro _ W1 ⟨N, p, hg, hl, hv, hp, hS, ad', c', rfl, hi', hf', hb'⟩
  obtain ⟨d0, d1, d2, d3⟩ := cells2 (obj_in hb' ((obj_alloc _ (newAt2 _ _ _ _))))
  obtain ⟨CM, hCM⟩ : ∃ x, (canonD N p).1 = x := ⟨_, rfl⟩
  obtain ⟨cr, hcr⟩ : ∃ x, (canonD N p).2 = x := ⟨_, rfl⟩
  rw [hCM] at hi' ⊢
  rw [hcr] at ⊢
  have HH := Lib.hid (And.intro hi' (And.intro hf' hb'))
  have HG := Lib.hid (And.intro hg (And.intro hl (And.intro hv (And.intro hp (And.intro hS (And.intro hCM hcr))))))
  clear hi' hf' hb' hg hl hv hp hS hCM hcr
  dsimp only
  go_wp2
  refine bodyPost_ret (v := .tuple #[.agg #[.slice ad' CM.length c', .int .i64 (cr : Int)], .int .i64 0]) (by simp [results, Tryz.results64, go_sem, d0, d1]) rfl ⟨N, p, HG.out.1, HG.out.2.1, HG.out.2.2.1, HG.out.2.2.2.1, HG.out.2.2.2.2.1, ?_⟩
  rw [HG.out.2.2.2.2.2.1, HG.out.2.2.2.2.2.2]
  exact fin_dg (by (repeat' (first | (with_reducible first | apply Zl1 | apply Zl2 | apply Zl3 | apply Zl4 | apply Zl5 | apply Zl6 | apply Zl7 | apply Zl8 | apply Zl9 | apply Zla | apply Zlb | apply Zlc) | (dsimp only; with_reducible first | apply Zl8 | apply Zl2 | apply Zld) | with_reducible assumption | omega | (dsimp only; omega)))) (by omega) (by simp) HH.out.1 HH.out.2.1 HH.out.2.2 _ _
set_option maxRecDepth 100000 in
set_option maxHeartbeats 6400000 in
theorem Or_ok {K c : Nat} (hc : c + 1 = 2 ^ K) (hrk : ∀ v, rk v ≤ K) (x y : DN) (w : World) (hx : DNok rk w x) (hy : DNok rk w y) (hsum : x.2.2.1.length + y.2.2.1.length + c ≤ 50000) :
    Calls Tryz.prog 65 #[dnV x, dnV y] w (RetC rk (x.2.2.1.length + y.2.2.1.length + c) (fun ρ => (val3 ρ x.2.2.1 x.2.2.2 || val3 ρ y.2.2.1 y.2.2.2)) w) := by
  have HC := Lib.hid (fun w' g (hb : Below w.heap.size w w') (hd : w'.heap[g]? = some (.cells #[.slice x.1 x.2.2.1.length x.2.1, .int .i64 (x.2.2.2 : Int), .slice y.1 y.2.2.1.length y.2.1, .int .i64 (y.2.2.2 : Int)] 63 (0, 0))) => combine_any rk 86 #[] egOr [x, y] g 0 2 c _ w' (fun z hz => by
    rcases List.mem_cons.1 hz with rfl | hz
    · exact hx.of hb
    · rw [List.mem_singleton.1 hz]; exact hy.of hb) (dis2 x y hd) (mkOr hc hrk w' x y) (by simp [sumN]; omega) (by simp))
  have hsn : sumN [x, y] = x.2.2.1.length + y.2.2.1.length := by simp [sumN]
  rw [hsn] at HC
  obtain ⟨ad, cap, M, r⟩ := x
  obtain ⟨ad2, cap2, M2, r2⟩ := y
  dsimp only at HC hsum hx hy ⊢
  clear hx hy hsn
  go_enter Tryz.func65, Tryz.ntmps65
  go_wp2_with fail
  refine (HC.out _ _ (by (repeat' (first | (with_reducible first | apply Zl1 | apply Zl2 | apply Zl3 | apply Zl4 | apply Zl5 | apply Zl6 | apply Zl7 | apply Zl8 | apply Zl9 | apply Zla | apply Zlb | apply Zlc) | (dsimp only; with_reducible first | apply Zl8 | apply Zl2 | apply Zld) | with_reducible assumption | omega | (dsimp only; omega)))) ((newAt3 _ _ _ _ _))).mono ?_
  rintro _ W1 ⟨N, p, hg, hl, hv, hp, hS, ad', c', rfl, hi', hf', hb'⟩
  obtain ⟨d0, d1, d2, d3⟩ := cells2 (obj_in hb' ((obj_alloc _ (newAt2 _ _ _ _))))
  obtain ⟨CM, hCM⟩ : ∃ x, (canonD N p).1 = x := ⟨_, rfl⟩
  obtain ⟨cr, hcr⟩ : ∃ x, (canonD N p).2 = x := ⟨_, rfl⟩
  rw [hCM] at hi' ⊢
  rw [hcr] at ⊢
  have HH := Lib.hid (And.intro hi' (And.intro hf' hb'))
  have HG := Lib.hid (And.intro hg (And.intro hl (And.intro hv (And.intro hp (And.intro hS (And.intro hCM hcr))))))
  clear hi' hf' hb' hg hl hv hp hS hCM hcr
  dsimp only
  go_wp2
  refine bodyPost_ret (v := .tuple #[.agg #[.slice ad' CM.length c', .int .i64 (cr : Int)], .int .i64 0]) (by simp [results, Tryz.results65, go_sem, d0, d1]) rfl ⟨N, p, HG.out.1, HG.out.2.1, HG.out.2.2.1, HG.out.2.2.2.1, HG.out.2.2.2.2.1, ?_⟩
  rw [HG.out.2.2.2.2.2.1, HG.out.2.2.2.2.2.2]
  exact fin_dg (by (repeat' (first | (with_reducible first | apply Zl1 | apply Zl2 | apply Zl3 | apply Zl4 | apply Zl5 | apply Zl6 | apply Zl7 | apply Zl8 | apply Zl9 | apply Zla | apply Zlb | apply Zlc) | (dsimp only; with_reducible first | apply Zl8 | apply Zl2 | apply Zld) | with_reducible assumption | omega | (dsimp only; omega)))) (by omega) (by simp) HH.out.1 HH.out.2.1 HH.out.2.2 _ _
set_option maxRecDepth 100000 in
set_option maxHeartbeats 6400000 in
theorem Choose_ok {K c : Nat} (hc : c + 1 = 2 ^ K) (hrk : ∀ v, rk v ≤ K) (x y u : DN) (w : World) (hx : DNok rk w x) (hy : DNok rk w y) (hu : DNok rk w u) (hsum : x.2.2.1.length + y.2.2.1.length + u.2.2.1.length + c ≤ 50000) :
    Calls Tryz.prog 44 #[dnV x, dnV y, dnV u] w (RetC rk (x.2.2.1.length + y.2.2.1.length + u.2.2.1.length + c) (fun ρ => if val3 ρ x.2.2.1 x.2.2.2 then val3 ρ y.2.2.1 y.2.2.2 else val3 ρ u.2.2.1 u.2.2.2) w) := by
  have HC := Lib.hid (fun w' g (hb : Below w.heap.size w w') (hd : w'.heap[g]? = some (.cells #[.slice x.1 x.2.2.1.length x.2.1, .int .i64 (x.2.2.2 : Int), .slice y.1 y.2.2.1.length y.2.1, .int .i64 (y.2.2.2 : Int), .slice u.1 u.2.2.1.length u.2.1, .int .i64 (u.2.2.2 : Int)] 63 (0, 0))) => combine_any rk 70 #[] egChoose [x, y, u] g 0 3 c _ w' (fun z hz => by
    rcases List.mem_cons.1 hz with rfl | hz
    · exact hx.of hb
    · rcases List.mem_cons.1 hz with rfl | hz
      · exact hy.of hb
      · rw [List.mem_singleton.1 hz]; exact hu.of hb) (dis3 x y u hd) (mkChoose hc hrk w' x y u) (by simp [sumN]; omega) (by simp))
  have hsn : sumN [x, y, u] = x.2.2.1.length + y.2.2.1.length + u.2.2.1.length := by simp [sumN]; omega
  rw [hsn] at HC
  obtain ⟨ad, cap, M, r⟩ := x
  obtain ⟨ad2, cap2, M2, r2⟩ := y
  obtain ⟨ad3, cap3, M3, r3⟩ := u
  dsimp only at HC hsum hx hy hu ⊢
  clear hx hy hu hsn
  go_enter Tryz.func44, Tryz.ntmps44
  go_wp2_with fail
  refine (HC.out _ _ (by (repeat' (first | (with_reducible first | apply Zl1 | apply Zl2 | apply Zl3 | apply Zl4 | apply Zl5 | apply Zl6 | apply Zl7 | apply Zl8 | apply Zl9 | apply Zla | apply Zlb | apply Zlc) | (dsimp only; with_reducible first | apply Zl8 | apply Zl2 | apply Zld) | with_reducible assumption | omega | (dsimp only; omega)))) ((newAt4 _ _ _ _ _ _))).mono ?_
  rintro _ W1 ⟨N, p, hg, hl, hv, hp, hS, ad', c', rfl, hi', hf', hb'⟩
  obtain ⟨d0, d1, d2, d3⟩ := cells2 (obj_in hb' ((obj_alloc _ (newAt3 _ _ _ _ _))))
  obtain ⟨CM, hCM⟩ : ∃ x, (canonD N p).1 = x := ⟨_, rfl⟩
  obtain ⟨cr, hcr⟩ : ∃ x, (canonD N p).2 = x := ⟨_, rfl⟩
  rw [hCM] at hi' ⊢
  rw [hcr] at ⊢
  have HH := Lib.hid (And.intro hi' (And.intro hf' hb'))
  have HG := Lib.hid (And.intro hg (And.intro hl (And.intro hv (And.intro hp (And.intro hS (And.intro hCM hcr))))))
  clear hi' hf' hb' hg hl hv hp hS hCM hcr
  dsimp only
  go_wp2
  refine bodyPost_ret (v := .tuple #[.agg #[.slice ad' CM.length c', .int .i64 (cr : Int)], .int .i64 0]) (by simp [results, Tryz.results44, go_sem, d0, d1]) rfl ⟨N, p, HG.out.1, HG.out.2.1, HG.out.2.2.1, HG.out.2.2.2.1, HG.out.2.2.2.2.1, ?_⟩
  rw [HG.out.2.2.2.2.2.1, HG.out.2.2.2.2.2.2]
  exact fin_dg (by (repeat' (first | (with_reducible first | apply Zl1 | apply Zl2 | apply Zl3 | apply Zl4 | apply Zl5 | apply Zl6 | apply Zl7 | apply Zl8 | apply Zl9 | apply Zla | apply Zlb | apply Zlc) | (dsimp only; with_reducible first | apply Zl8 | apply Zl2 | apply Zld) | with_reducible assumption | omega | (dsimp only; omega)))) (by omega) (by simp) HH.out.1 HH.out.2.1 HH.out.2.2 _ _
/-! Errors. -/
end Go.Proofs.YtlnedapimmabdaaGreatDoor

namespace Go.Proofs.YtlnedapimmabdaaGreatDoor
set_option linter.unusedVariables false
set_option linter.unusedSimpArgs false
open Go.RowKit Go.Maps
attribute [local go_sem low] Bel.cell Bel.frozen alloc_cell alloc_frozen
attribute [local go_sem] calmOp chainOp yieldsC grows
variable {rk : Nat → Nat}

end Go.Proofs.YtlnedapimmabdaaGreatDoor
