/- Sizes of intervals: result, Of, both. -/
import Derived.Test.YtehgeoipbgpocaaGreatDoorIc
namespace Go.Proofs.YtehgeoipbgpocaaGreatDoor
set_option linter.unusedVariables false
set_option linter.unusedSimpArgs false
open Go.RowKit
attribute [local go_sem low] Bel.cell Bel.frozen alloc_cell alloc_frozen

def zS : Sz := ⟨⟨0, 0⟩, ⟨0, 0⟩, ⟨0, 0⟩⟩
def resS (s : Sz) : Sz := if s.ok = true then s else zS
def resE (s : Sz) : Int := if s.ok = true then 0 else 4
theorem res_yes {s : Sz} (h : s.ok = true) : resS s = s ∧ resE s = 0 := ⟨if_pos h, if_pos h⟩
theorem res_no {s : Sz} (h : s.ok = false) : resS s = zS ∧ resE s = 4 := ⟨if_neg (by rw [h]; exact Bool.false_ne_true), if_neg (by rw [h]; exact Bool.false_ne_true)⟩
theorem tupS (s : Sz) (e : Int) : Value.tuple #[s.V, .int .i64 e] = .tuple #[.agg #[.int .i64 s.a.n, .int .i64 s.a.d, .int .i64 s.b.n, .int .i64 s.b.d, .int .i64 s.c.n, .int .i64 s.c.d], .int .i64 e] := rfl
theorem Sz.ok_of {s : Sz} (h : s.chk = 0) : s.ok = true := by
  cases ho : s.ok
  · exact absurd h (s.chk_no ho)
  · rfl

set_option maxHeartbeats 3200000 in
theorem result_any (s : Sz) (w : World) : Calls Tryz.prog 83 #[s.V] w (Ret (.tuple #[(resS s).V, .int .i64 (resE s)]) w) := by
  have HC := Lib.hid (fun w' => icheck_any s w')
  have hV : s.V = .agg #[.int .i64 s.a.n, .int .i64 s.a.d, .int .i64 s.b.n, .int .i64 s.b.d, .int .i64 s.c.n, .int .i64 s.c.d] := rfl
  cases ho : s.ok
  · obtain ⟨h1, h2⟩ := res_no ho
    have HN := s.chk_no ho
    rw [h1, h2]
    rw [hV] at HC ⊢
    clear hV h1 h2 ho
    generalize s.chk = e at *
    have he : (e != 0) = true := by simpa using HN
    clear HN
    go_enter Tryz.func83, Tryz.ntmps83
    go_wp2_with fail
    (with_reducible refine (HC.out _).mono ?_)
    rintro _ _ ⟨rfl, x, rfl⟩
    go_wp2
    refine bodyPost_ret (v := .tuple #[zS.V, .int .i64 4]) (by simp [results, Tryz.results83, go_sem, zS, Sz.V]) rfl (Ret.mk (by rfl) (by (repeat' (first | (with_reducible first | apply Zl1 | apply Zl2 | apply Zl3 | apply Zl4 | apply Zl5 | apply Zl6 | apply Zl7 | apply Zl8 | apply Zl9 | apply Zla | apply Zlb | apply Zlc) | (dsimp only; with_reducible first | apply Zl8 | apply Zl2 | apply Zld) | with_reducible assumption | omega | (dsimp only; omega)))))
  · obtain ⟨h1, h2⟩ := res_yes ho
    have he : s.chk = 0 := s.chk_ok ho
    rw [h1, h2]
    rw [he] at HC
    rw [hV] at HC ⊢
    clear hV h1 h2 ho he
    go_enter Tryz.func83, Tryz.ntmps83
    go_wp2_with fail
    (with_reducible refine (HC.out _).mono ?_)
    rintro _ _ ⟨rfl, x, rfl⟩
    go_wp2
    refine bodyPost_ret (v := .tuple #[.agg #[.int .i64 s.a.n, .int .i64 s.a.d, .int .i64 s.b.n, .int .i64 s.b.d, .int .i64 s.c.n, .int .i64 s.c.d], .int .i64 0]) (by simp [results, Tryz.results83, go_sem]) rfl (Ret.mk (by rfl) (by (repeat' (first | (with_reducible first | apply Zl1 | apply Zl2 | apply Zl3 | apply Zl4 | apply Zl5 | apply Zl6 | apply Zl7 | apply Zl8 | apply Zl9 | apply Zla | apply Zlb | apply Zlc) | (dsimp only; with_reducible first | apply Zl8 | apply Zl2 | apply Zld) | with_reducible assumption | omega | (dsimp only; omega)))))

def iS (a b c : Int) : Sz := ⟨⟨a, 1⟩, ⟨b, 1⟩, ⟨c, 1⟩⟩
set_option maxHeartbeats 1600000 in
theorem iof_any (a b c : Int) (w : World) : Calls Tryz.prog 37 #[.int .i64 a, .int .i64 b, .int .i64 c] w (Ret (.tuple #[(resS (iS a b c)).V, .int .i64 (resE (iS a b c))]) w) := by
  have HC := Lib.hid (fun w' => result_any (iS a b c) w')
  generalize resE (iS a b c) = e at *
  generalize resS (iS a b c) = t at *
  have hV : (iS a b c).V = .agg #[.int .i64 a, .int .i64 1, .int .i64 b, .int .i64 1, .int .i64 c, .int .i64 1] := rfl
  rw [hV] at HC
  rw [tupS] at HC ⊢
  clear hV
  go_enter Tryz.func37, Tryz.ntmps37
  go_wp2_with fail
  (with_reducible refine (HC.out _).mono ?_)
  rintro _ _ ⟨rfl, x, rfl⟩
  go_wp2
  refine bodyPost_ret (v := .tuple #[.agg #[.int .i64 t.a.n, .int .i64 t.a.d, .int .i64 t.b.n, .int .i64 t.b.d, .int .i64 t.c.n, .int .i64 t.c.d], .int .i64 e]) (by simp [results, Tryz.results37, go_sem]) rfl (Ret.mk (by rfl) (by (repeat' (first | (with_reducible first | apply Zl1 | apply Zl2 | apply Zl3 | apply Zl4 | apply Zl5 | apply Zl6 | apply Zl7 | apply Zl8 | apply Zl9 | apply Zla | apply Zlb | apply Zlc) | (dsimp only; with_reducible first | apply Zl8 | apply Zl2 | apply Zld) | with_reducible assumption | omega | (dsimp only; omega)))))

def both2 (s t : Sz) : Int := if s.chk = 0 then t.chk else s.chk
set_option maxHeartbeats 1600000 in
theorem iboth_any (s t : Sz) (w : World) : Calls Tryz.prog 85 #[s.V, t.V] w (Ret (.int .i64 (both2 s t)) w) := by
  have HS := Lib.hid (fun w' => icheck_any s w')
  have HT := Lib.hid (fun w' => icheck_any t w')
  have HR : Hid (∀ _ : Unit, both2 s t = if s.chk = 0 then t.chk else s.chk) := Lib.hid fun _ => rfl
  have hV : ∀ s : Sz, s.V = .agg #[.int .i64 s.a.n, .int .i64 s.a.d, .int .i64 s.b.n, .int .i64 s.b.d, .int .i64 s.c.n, .int .i64 s.c.d] := fun _ => rfl
  rw [hV] at HS HT
  rw [hV, hV]
  generalize both2 s t = r at *
  generalize s.chk = e at *
  generalize t.chk = f at *
  clear hV
  by_cases he : e = 0
  · have h0 : (e != 0) = false := by simpa using he
    have H2 := Lib.hid he
    clear he
    go_enter Tryz.func85, Tryz.ntmps85
    go_wp2_with fail
    (with_reducible refine (HS.out _).mono ?_)
    rintro _ _ ⟨rfl, x, rfl⟩
    go_wp2_with fail
    (with_reducible refine (HT.out _).mono ?_)
    rintro _ _ ⟨rfl, y, rfl⟩
    go_wp2
    go_ret
    exact Ret.mk (by exact val_i64 (by rw [HR.out (), if_pos H2.out])) (by (repeat' (first | (with_reducible first | apply Zl1 | apply Zl2 | apply Zl3 | apply Zl4 | apply Zl5 | apply Zl6 | apply Zl7 | apply Zl8 | apply Zl9 | apply Zla | apply Zlb | apply Zlc) | (dsimp only; with_reducible first | apply Zl8 | apply Zl2 | apply Zld) | with_reducible assumption | omega | (dsimp only; omega))))
  · have h0 : (e != 0) = true := by simpa using he
    have H2 := Lib.hid he
    clear he
    go_enter Tryz.func85, Tryz.ntmps85
    go_wp2_with fail
    (with_reducible refine (HS.out _).mono ?_)
    rintro _ _ ⟨rfl, x, rfl⟩
    go_wp2
    go_ret
    exact Ret.mk (by exact val_i64 (by rw [HR.out (), if_neg H2.out])) (by (repeat' (first | (with_reducible first | apply Zl1 | apply Zl2 | apply Zl3 | apply Zl4 | apply Zl5 | apply Zl6 | apply Zl7 | apply Zl8 | apply Zl9 | apply Zla | apply Zlb | apply Zlc) | (dsimp only; with_reducible first | apply Zl8 | apply Zl2 | apply Zld) | with_reducible assumption | omega | (dsimp only; omega))))
end Go.Proofs.YtehgeoipbgpocaaGreatDoor
