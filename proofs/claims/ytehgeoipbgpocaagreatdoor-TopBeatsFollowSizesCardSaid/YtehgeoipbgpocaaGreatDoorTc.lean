/- Circles of fifths: limited, octaves, named. -/
import Derived.Test.YtehgeoipbgpocaaGreatDoorTa
namespace Go.Proofs.YtehgeoipbgpocaaGreatDoor
set_option linter.unusedVariables false
set_option linter.unusedSimpArgs false
open Go.RowKit
attribute [local go_sem low] Bel.cell Bel.frozen alloc_cell alloc_frozen

/-- What a function returns that finds a size, or ErrLimit. -/
def oS (o : Option Sz) : Sz := o.getD zS
def oE (o : Option Sz) : Int := if o.isSome = true then 0 else 4
def oV (o : Option Sz) : Value := .tuple #[(oS o).V, .int .i64 (oE o)]
def lim1 (s : Sz) (e : Int) : Option Sz := if e = 0 then some s else none
theorem oV_none : oV none = .tuple #[.agg #[.int .i64 0, .int .i64 0, .int .i64 0, .int .i64 0, .int .i64 0, .int .i64 0], .int .i64 4] := rfl
theorem oV_some (s : Sz) : oV (some s) = .tuple #[.agg #[.int .i64 s.a.n, .int .i64 s.a.d, .int .i64 s.b.n, .int .i64 s.b.d, .int .i64 s.c.n, .int .i64 s.c.d], .int .i64 0] := rfl
theorem szV (s : Sz) : s.V = .agg #[.int .i64 s.a.n, .int .i64 s.a.d, .int .i64 s.b.n, .int .i64 s.b.d, .int .i64 s.c.n, .int .i64 s.c.d] := rfl
set_option maxHeartbeats 1600000 in
theorem limited_any (s : Sz) (e : Int) (w : World) : Calls Tryz.prog 41 #[s.V, .int .i64 e] w (Ret (oV (lim1 s e)) w) := by
  by_cases h : e = 0
  · rw [show lim1 s e = some s from if_pos h, oV_some, szV]
    have f0 : (e != 0) = false := by simpa using h
    clear h
    go_enter Tryz.func41, Tryz.ntmps41
    go_wp2
    refine bodyPost_ret (v := .tuple #[.agg #[.int .i64 s.a.n, .int .i64 s.a.d, .int .i64 s.b.n, .int .i64 s.b.d, .int .i64 s.c.n, .int .i64 s.c.d], .int .i64 0]) (by simp [results, Tryz.results41, go_sem]) rfl (Ret.mk (by rfl) (by (repeat' (first | (with_reducible first | apply Zl1 | apply Zl2 | apply Zl3 | apply Zl4 | apply Zl5 | apply Zl6 | apply Zl7 | apply Zl8 | apply Zl9 | apply Zla | apply Zlb | apply Zlc) | (dsimp only; with_reducible first | apply Zl8 | apply Zl2 | apply Zld) | with_reducible assumption | omega | (dsimp only; omega)))))
  · rw [show lim1 s e = none from if_neg h, oV_none, szV]
    have f0 : (e != 0) = true := by simpa using h
    clear h
    go_enter Tryz.func41, Tryz.ntmps41
    go_wp2
    refine bodyPost_ret (v := .tuple #[.agg #[.int .i64 0, .int .i64 0, .int .i64 0, .int .i64 0, .int .i64 0, .int .i64 0], .int .i64 4]) (by simp [results, Tryz.results41, go_sem]) rfl (Ret.mk (by rfl) (by (repeat' (first | (with_reducible first | apply Zl1 | apply Zl2 | apply Zl3 | apply Zl4 | apply Zl5 | apply Zl6 | apply Zl7 | apply Zl8 | apply Zl9 | apply Zla | apply Zlb | apply Zlc) | (dsimp only; with_reducible first | apply Zl8 | apply Zl2 | apply Zld) | with_reducible assumption | omega | (dsimp only; omega)))))
def octS (n : Int) : Sz := resS (iS n 0 0)
set_option maxHeartbeats 1600000 in
theorem octaves_any (n : Int) (w : World) : Calls Tryz.prog 98 #[.int .i64 n] w (Ret (octS n).V w) := by
  have HO := Lib.hid (fun w' => iof_any n 0 0 w')
  rw [show resS (iS n 0 0) = octS n from rfl] at HO
  generalize octS n = r at *
  generalize resE (iS n 0 0) = e at *
  rw [szV] at HO ⊢
  go_enter Tryz.func98, Tryz.ntmps98
  go_wp2_with fail
  (with_reducible refine (HO.out _).mono ?_)
  rintro _ _ ⟨rfl, x, rfl⟩
  go_wp2
  refine bodyPost_ret (v := .agg #[.int .i64 r.a.n, .int .i64 r.a.d, .int .i64 r.b.n, .int .i64 r.b.d, .int .i64 r.c.n, .int .i64 r.c.d]) (by simp [results, Tryz.results98, go_sem]) rfl (Ret.mk (by rfl) (by (repeat' (first | (with_reducible first | apply Zl1 | apply Zl2 | apply Zl3 | apply Zl4 | apply Zl5 | apply Zl6 | apply Zl7 | apply Zl8 | apply Zl9 | apply Zla | apply Zlb | apply Zlc) | (dsimp only; with_reducible first | apply Zl8 | apply Zl2 | apply Zld) | with_reducible assumption | omega | (dsimp only; omega)))))
set_option maxHeartbeats 1600000 in
theorem tnamed_of (s : List UInt8) (r : Sz) (e : Int) (w : World) (H : ∀ w', Calls Tryz.prog 99 #[.string ⟨s.toArray⟩] w' (Ret (.tuple #[r.V, .int .i64 e]) w')) :
    Calls Tryz.prog 53 #[.string ⟨s.toArray⟩] w (Ret r.V w) := by
  have HO := Lib.hid H
  clear H
  rw [szV] at HO ⊢
  go_enter Tryz.func53, Tryz.ntmps53
  go_wp2_with fail
  (with_reducible refine (HO.out _).mono ?_)
  rintro _ _ ⟨rfl, x, rfl⟩
  go_wp2
  refine bodyPost_ret (v := .agg #[.int .i64 r.a.n, .int .i64 r.a.d, .int .i64 r.b.n, .int .i64 r.b.d, .int .i64 r.c.n, .int .i64 r.c.d]) (by simp [results, Tryz.results53, go_sem]) rfl (Ret.mk (by rfl) (by (repeat' (first | (with_reducible first | apply Zl1 | apply Zl2 | apply Zl3 | apply Zl4 | apply Zl5 | apply Zl6 | apply Zl7 | apply Zl8 | apply Zl9 | apply Zla | apply Zlb | apply Zlc) | (dsimp only; with_reducible first | apply Zl8 | apply Zl2 | apply Zld) | with_reducible assumption | omega | (dsimp only; omega)))))
def fifS : Sz := ratS 3 2
def pytS : Sz := ratS 531441 524288
def synS : Sz := ratS 81 80
def uniS : Sz := ratS 1 1
def thiS : Sz := ratS 5 4
theorem n_fif (w : World) : Calls Tryz.prog 53 #[.string ⟨[102, 105, 102, 116, 104].toArray⟩] w (Ret fifS.V w) := tnamed_of _ _ (ratE 3 2) w fun w' => named_of [102, 105, 102, 116, 104] 3 2 w' (by decide) (by decide) (by decide) (by decide) (by decide) rfl
theorem n_pyt (w : World) : Calls Tryz.prog 53 #[.string ⟨[112, 121, 116, 104, 97, 103, 111, 114, 101, 97, 110].toArray⟩] w (Ret pytS.V w) := tnamed_of _ _ (ratE 531441 524288) w fun w' => named_of [112, 121, 116, 104, 97, 103, 111, 114, 101, 97, 110] 531441 524288 w' (by decide) (by decide) (by decide) (by decide) (by decide) rfl
theorem n_syn (w : World) : Calls Tryz.prog 53 #[.string ⟨[115, 121, 110, 116, 111, 110, 105, 99].toArray⟩] w (Ret synS.V w) := tnamed_of _ _ (ratE 81 80) w fun w' => named_of [115, 121, 110, 116, 111, 110, 105, 99] 81 80 w' (by decide) (by decide) (by decide) (by decide) (by decide) rfl
theorem n_uni (w : World) : Calls Tryz.prog 53 #[.string ⟨[117, 110, 105, 115, 111, 110].toArray⟩] w (Ret uniS.V w) := tnamed_of _ _ (ratE 1 1) w fun w' => named_of [117, 110, 105, 115, 111, 110] 1 1 w' (by decide) (by decide) (by decide) (by decide) (by decide) rfl
end Go.Proofs.YtehgeoipbgpocaaGreatDoor
