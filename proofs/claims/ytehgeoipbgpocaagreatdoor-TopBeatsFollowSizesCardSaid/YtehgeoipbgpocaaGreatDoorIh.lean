/- Sizes of intervals: Named. -/
import Derived.Test.YtehgeoipbgpocaaGreatDoorIg
import Derived.Test.YtehgeoipbgpocaaGreatDoorMv
namespace Go.Proofs.YtehgeoipbgpocaaGreatDoor
set_option linter.unusedVariables false
set_option linter.unusedSimpArgs false
open Go.RowKit Go.Maps
attribute [local go_sem low] Bel.cell Bel.frozen alloc_cell alloc_frozen

theorem obj_grown {w w' : World} {b c : Nat} {o : Obj} (hg : w.grownBy w' (some b)) (hne : c ≠ b) (h : w.heap[c]? = some o) : w'.heap[c]? = some o := (hg.block c (obj_lt h) (fun e => hne (by injection e with e))).trans h
theorem funV_hit {P : Program} {w : World} {t k e : TypeId} (hk : P.underlying k = some .string) (ht : P.underlying t = some (.map k e)) {z : Value} (hz : (zeroValue e).run P w = .ok z w) {b n : Nat} {m : List UInt8 → Option Value} (hown : FunV P k w b n m) {s : List UInt8} (hs : s.length ≤ maxLen) {v : Value} (hv : m s = some v) :
    (Instr.lookup t (.map (some b)) (.string ⟨s.toArray⟩) true).run P w = .ok (.tuple #[v, .bool true]) w := by
  have h := funV_run_ok hk ht hz hown hs
  rw [hv] at h
  exact h
set_option maxRecDepth 100000 in
set_option maxHeartbeats 6400000 in
theorem named_of (s : List UInt8) (a b : Int) (w : World) (hs : s.length ≤ 20) (ha : 1 ≤ a) (ha2 : a < 1000000) (hb : 1 ≤ b) (hb2 : b < 1000000)
    (hm : (if s = [100, 105, 101, 115, 105, 115] then some (128, 125) else if s = [115, 99, 104, 105, 115, 109, 97] then some (32805, 32768) else if s = [112, 121, 116, 104, 97, 103, 111, 114, 101, 97, 110] then some (531441, 524288) else if s = [115, 121, 110, 116, 111, 110, 105, 99] then some (81, 80) else if s = [116, 111, 110, 101] then some (9, 8) else if s = [109, 105, 110, 111, 114] then some (6, 5) else if s = [116, 104, 105, 114, 100] then some (5, 4) else if s = [102, 111, 117, 114, 116, 104] then some (4, 3) else if s = [102, 105, 102, 116, 104] then some (3, 2) else if s = [111, 99, 116, 97, 118, 101] then some (2, 1) else if s = [117, 110, 105, 115, 111, 110] then some (1, 1) else none : Option (Int × Int)) = some (a, b)) :
    Calls Tryz.prog 99 #[.string ⟨s.toArray⟩] w (Ret (.tuple #[(ratS a b).V, .int .i64 (ratE a b)]) w) := by
  have HR := Lib.hid (fun w' => ratio_any a b w' ha (by omega) hb (by omega))
  have HMM := Lib.hid hm
  have hsl : s.length ≤ maxLen := by unfold maxLen; omega
  generalize ratS a b = rr at *
  generalize ratE a b = re at *
  rw [tupS] at HR ⊢
  clear hm
  have h00 := funV_made (w.alloc (.cells #[.int .i64 0, .int .i64 0, .int .i64 0, .int .i64 0, .int .i64 0, .int .i64 0] 45)) Tryz.prog 9
  rw [World.size_alloc] at h00
  have HM := Lib.hid h00
  have HO := Lib.hid (obj_alloc (.map #[] 0) (obj_new w (.cells #[.int .i64 0, .int .i64 0, .int .i64 0, .int .i64 0, .int .i64 0, .int .i64 0] 45)))
  have HB := Lib.hid (show Below w.heap.size w ((w.alloc (.cells #[.int .i64 0, .int .i64 0, .int .i64 0, .int .i64 0, .int .i64 0, .int .i64 0] 45)).alloc (.map #[] 0)) by (repeat' (first | (with_reducible first | apply Zl1 | apply Zl2 | apply Zl3 | apply Zl4 | apply Zl5 | apply Zl6 | apply Zl7 | apply Zl8 | apply Zl9 | apply Zla | apply Zlb | apply Zlc) | (dsimp only; with_reducible first | apply Zl8 | apply Zl2 | apply Zld) | with_reducible assumption | omega | (dsimp only; omega))))
  clear h00
  have hmm := @run_makeMap Tryz.prog
  have hlz : ∀ w : World, (zeroValue 182).run Tryz.prog w = .ok (.agg #[.int .i64 0, .int .i64 0]) w := fun w => by kernel_rfl
  go_enter Tryz.func99, Tryz.ntmps99
  go_wp2_with (first | (refine wpList_insert_funV _ rfl _ _ _ 279 rfl 9 182 Tryz.underlying9 Tryz.underlying279 (w.heap.size + 1) _ _ rfl HM.out (by unfold maxLen; omega) [100, 105, 101, 115, 105, 115] rfl (by decide) (.agg #[.int .i64 _, .int .i64 _]) rfl ?_; intro w2 hm hg; have HM := Lib.hid hm; have HO := Lib.hid (obj_grown hg (by omega) HO.out); have HB := Lib.hid (HB.out.grown hg HB.out.size (fun k hk => by injection hk with hk; omega)); clear hm hg; refine Hid.out ?_) | (refine wpList_insert_funV _ rfl _ _ _ 279 rfl 9 182 Tryz.underlying9 Tryz.underlying279 (w.heap.size + 1) _ _ rfl HM.out (by unfold maxLen; omega) _ rfl (by decide) (.agg #[.int .i64 _, .int .i64 _]) rfl ?_; intro w2 hm hg; have HM := Lib.hid hm; have HO := Lib.hid (obj_grown hg (by omega) HO.out); have HB := Lib.hid (HB.out.grown hg HB.out.size (fun k hk => by injection hk with hk; omega)); clear hm hg))
  have hL := funV_hit (t := 279) Tryz.underlying9 Tryz.underlying279 (hlz _) HM.out hsl (v := .agg #[.int .i64 a, .int .i64 b]) (by
    have h := HMM.out
    (repeat' (split at h))
    all_goals first | (injection h with h; injection h with h1 h2; rename_i hsq; rw [← h1, ← h2, hsq]; rfl) | cases h)
  obtain ⟨d0, d1, d2, d3, d4, d5⟩ := froz6 HO.out
  obtain ⟨c0, c1, c2, c3, c4, c5⟩ := cells6 HO.out
  have hw1 := HM.out.lt
  have hbl := HB.out
  have hbls := hbl.size
  clear hlz hmm
  refine Lib.hid ?_
  go_wp2_with fail
  (with_reducible refine (HR.out _).mono ?_)
  rintro _ _ ⟨rfl, x, rfl⟩
  go_wp2
  refine bodyPost_ret (v := .tuple #[.agg #[.int .i64 rr.a.n, .int .i64 rr.a.d, .int .i64 rr.b.n, .int .i64 rr.b.d, .int .i64 rr.c.n, .int .i64 rr.c.d], .int .i64 re]) (by simp [results, Tryz.results99, go_sem, c0, c1, c2, c3, c4, c5]) rfl (Ret.mk (by rfl) (by (repeat' (first | (with_reducible first | apply Zl1 | apply Zl2 | apply Zl3 | apply Zl4 | apply Zl5 | apply Zl6 | apply Zl7 | apply Zl8 | apply Zl9 | apply Zla | apply Zlb | apply Zlc) | (dsimp only; with_reducible first | apply Zl8 | apply Zl2 | apply Zld) | with_reducible assumption | omega | (dsimp only; omega)))))
end Go.Proofs.YtehgeoipbgpocaaGreatDoor
