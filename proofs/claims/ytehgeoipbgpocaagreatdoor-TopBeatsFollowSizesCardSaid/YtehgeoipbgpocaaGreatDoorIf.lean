/- Sizes of intervals: Add, Sub, Scale. -/
import Derived.Test.YtehgeoipbgpocaaGreatDoorIe
namespace Go.Proofs.YtehgeoipbgpocaaGreatDoor
set_option linter.unusedVariables false
set_option linter.unusedSimpArgs false
open Go.RowKit
attribute [local go_sem low] Bel.cell Bel.frozen alloc_cell alloc_frozen

def addQ : QF := fun a b => (⟨F.mk1 (a.n * b.d + b.n * a.d) (a.d * b.d), F.mk2 (a.n * b.d + b.n * a.d) (a.d * b.d)⟩, F.mk3 (a.n * b.d + b.n * a.d) (a.d * b.d))
def subQ : QF := fun a b => (⟨F.mk1 (a.n * b.d - b.n * a.d) (a.d * b.d), F.mk2 (a.n * b.d - b.n * a.d) (a.d * b.d)⟩, F.mk3 (a.n * b.d - b.n * a.d) (a.d * b.d))
def mulQ : QF := fun a b => (⟨F.mk1 (a.n * b.n) (a.d * b.d), F.mk2 (a.n * b.n) (a.d * b.d)⟩, F.mk3 (a.n * b.n) (a.d * b.d))
def opS (F : QF) (s t : Sz) : Sz := if both2 s t = 0 then eachS F s t else zS
def opE (F : QF) (s t : Sz) : Int := if both2 s t = 0 then eachE F s t else both2 s t
theorem both_rt {s t : Sz} (h : both2 s t = 0) : s.ok = true ∧ t.ok = true := by
  unfold both2 at h
  split at h
  · exact ⟨Sz.ok_of (by assumption), Sz.ok_of h⟩
  · exact absurd h (by assumption)
theorem eachV (F : QF) (s t : Sz) : ((F s.a t.a).2 = 0 → (F s.b t.b).2 = 0 → (F s.c t.c).2 = 0 → eachS F s t = resS ⟨(F s.a t.a).1, (F s.b t.b).1, (F s.c t.c).1⟩ ∧ eachE F s t = resE ⟨(F s.a t.a).1, (F s.b t.b).1, (F s.c t.c).1⟩) ∧
    (¬ ((F s.a t.a).2 = 0 ∧ (F s.b t.b).2 = 0 ∧ (F s.c t.c).2 = 0) → eachS F s t = zS ∧ eachE F s t = 4) := by
  unfold eachS eachE eachB eachU
  constructor
  · intro h1 h2 h3
    rw [h1, h2, h3]
    exact ⟨rfl, rfl⟩
  · intro h
    rw [if_neg, if_neg]
    · exact ⟨rfl, rfl⟩
    · intro h'
      simp only [Bool.and_eq_true, decide_eq_true_eq] at h'
      exact h ⟨h'.1.1, h'.1.2, h'.2⟩
    · intro h'
      simp only [Bool.and_eq_true, decide_eq_true_eq] at h'
      exact h ⟨h'.1.1, h'.1.2, h'.2⟩
theorem each_add (s t : Sz) (w : World) (hs : s.rt = true) (ht : t.rt = true) : Calls Tryz.prog 86 #[s.V, t.V, .func (.func 202) #[] #[]] w (Ret (.tuple #[(eachS addQ s t).V, .int .i64 (eachE addQ s t)]) w) :=
  each_core 202 s t (addQ s.a t.a) (addQ s.b t.b) (addQ s.c t.c) _ _ w (fun v x y => by kernel_rfl)
    (fun v => F.add_any s.a.n s.a.d t.a.n t.a.d v (s.rt_q hs 0) (t.rt_q ht 0)) (fun v => F.add_any s.b.n s.b.d t.b.n t.b.d v (s.rt_q hs 1) (t.rt_q ht 1)) (fun v => F.add_any s.c.n s.c.d t.c.n t.c.d v (s.rt_q hs 2) (t.rt_q ht 2))
    (eachV addQ s t).1 (eachV addQ s t).2
theorem each_sub (s t : Sz) (w : World) (hs : s.rt = true) (ht : t.rt = true) : Calls Tryz.prog 86 #[s.V, t.V, .func (.func 87) #[] #[]] w (Ret (.tuple #[(eachS subQ s t).V, .int .i64 (eachE subQ s t)]) w) :=
  each_core 87 s t (subQ s.a t.a) (subQ s.b t.b) (subQ s.c t.c) _ _ w (fun v x y => by kernel_rfl)
    (fun v => F.sub_any s.a.n s.a.d t.a.n t.a.d v (s.rt_q hs 0) (t.rt_q ht 0)) (fun v => F.sub_any s.b.n s.b.d t.b.n t.b.d v (s.rt_q hs 1) (t.rt_q ht 1)) (fun v => F.sub_any s.c.n s.c.d t.c.n t.c.d v (s.rt_q hs 2) (t.rt_q ht 2))
    (eachV subQ s t).1 (eachV subQ s t).2
theorem each_mul (s t : Sz) (w : World) (hs : s.rt = true) (ht : t.rt = true) : Calls Tryz.prog 86 #[s.V, t.V, .func (.func 197) #[] #[]] w (Ret (.tuple #[(eachS mulQ s t).V, .int .i64 (eachE mulQ s t)]) w) :=
  each_core 197 s t (mulQ s.a t.a) (mulQ s.b t.b) (mulQ s.c t.c) _ _ w (fun v x y => by kernel_rfl)
    (fun v => F.mul_any s.a.n s.a.d t.a.n t.a.d v (s.rt_q hs 0) (t.rt_q ht 0)) (fun v => F.mul_any s.b.n s.b.d t.b.n t.b.d v (s.rt_q hs 1) (t.rt_q ht 1)) (fun v => F.mul_any s.c.n s.c.d t.c.n t.c.d v (s.rt_q hs 2) (t.rt_q ht 2))
    (eachV mulQ s t).1 (eachV mulQ s t).2
set_option maxHeartbeats 1600000 in
theorem iadd_any (s t : Sz) (w : World) : Calls Tryz.prog 143 #[s.V, t.V] w (Ret (.tuple #[(opS addQ s t).V, .int .i64 (opE addQ s t)]) w) := by
  have HB := Lib.hid (fun w' => iboth_any s t w')
  by_cases hb : both2 s t = 0
  · have HE := Lib.hid (fun w' => each_add s t w' (Sz.ok_rt (both_rt hb).1) (Sz.ok_rt (both_rt hb).2))
    rw [show opS addQ s t = eachS addQ s t from if_pos hb, show opE addQ s t = eachE addQ s t from if_pos hb]
    rw [hb] at HB
    clear hb
    generalize eachS addQ s t = r at *
    generalize eachE addQ s t = e at *
    rw [tupS] at HE ⊢
    have hV : ∀ s : Sz, s.V = .agg #[.int .i64 s.a.n, .int .i64 s.a.d, .int .i64 s.b.n, .int .i64 s.b.d, .int .i64 s.c.n, .int .i64 s.c.d] := fun _ => rfl
    rw [hV s, hV t] at HE HB
    rw [hV s, hV t]
    clear hV
    go_enter Tryz.func143, Tryz.ntmps143
    go_wp2_with fail
    (with_reducible refine (HB.out _).mono ?_)
    rintro _ _ ⟨rfl, x, rfl⟩
    go_wp2_with fail
    (with_reducible refine (HE.out _).mono ?_)
    rintro _ _ ⟨rfl, y, rfl⟩
    go_wp2
    refine bodyPost_ret (v := .tuple #[.agg #[.int .i64 r.a.n, .int .i64 r.a.d, .int .i64 r.b.n, .int .i64 r.b.d, .int .i64 r.c.n, .int .i64 r.c.d], .int .i64 e]) (by simp [results, Tryz.results143, go_sem]) rfl (Ret.mk (by rfl) (by (repeat' (first | (with_reducible first | apply Zl1 | apply Zl2 | apply Zl3 | apply Zl4 | apply Zl5 | apply Zl6 | apply Zl7 | apply Zl8 | apply Zl9 | apply Zla | apply Zlb | apply Zlc) | (dsimp only; with_reducible first | apply Zl8 | apply Zl2 | apply Zld) | with_reducible assumption | omega | (dsimp only; omega)))))
  · rw [show opS addQ s t = zS from if_neg hb, show opE addQ s t = both2 s t from if_neg hb]
    generalize both2 s t = e at *
    have h0 : (e != 0) = true := by simpa using hb
    clear hb
    have hV : ∀ s : Sz, s.V = .agg #[.int .i64 s.a.n, .int .i64 s.a.d, .int .i64 s.b.n, .int .i64 s.b.d, .int .i64 s.c.n, .int .i64 s.c.d] := fun _ => rfl
    rw [hV s, hV t] at HB
    rw [hV s, hV t]
    clear hV
    go_enter Tryz.func143, Tryz.ntmps143
    go_wp2_with fail
    (with_reducible refine (HB.out _).mono ?_)
    rintro _ _ ⟨rfl, x, rfl⟩
    go_wp2
    refine bodyPost_ret (v := .tuple #[.agg #[.int .i64 0, .int .i64 0, .int .i64 0, .int .i64 0, .int .i64 0, .int .i64 0], .int .i64 e]) (by simp [results, Tryz.results143, go_sem]) rfl (Ret.mk (by rfl) (by (repeat' (first | (with_reducible first | apply Zl1 | apply Zl2 | apply Zl3 | apply Zl4 | apply Zl5 | apply Zl6 | apply Zl7 | apply Zl8 | apply Zl9 | apply Zla | apply Zlb | apply Zlc) | (dsimp only; with_reducible first | apply Zl8 | apply Zl2 | apply Zld) | with_reducible assumption | omega | (dsimp only; omega)))))
set_option maxHeartbeats 1600000 in
theorem isub_any (s t : Sz) (w : World) : Calls Tryz.prog 42 #[s.V, t.V] w (Ret (.tuple #[(opS subQ s t).V, .int .i64 (opE subQ s t)]) w) := by
  have HB := Lib.hid (fun w' => iboth_any s t w')
  by_cases hb : both2 s t = 0
  · have HE := Lib.hid (fun w' => each_sub s t w' (Sz.ok_rt (both_rt hb).1) (Sz.ok_rt (both_rt hb).2))
    rw [show opS subQ s t = eachS subQ s t from if_pos hb, show opE subQ s t = eachE subQ s t from if_pos hb]
    rw [hb] at HB
    clear hb
    generalize eachS subQ s t = r at *
    generalize eachE subQ s t = e at *
    rw [tupS] at HE ⊢
    have hV : ∀ s : Sz, s.V = .agg #[.int .i64 s.a.n, .int .i64 s.a.d, .int .i64 s.b.n, .int .i64 s.b.d, .int .i64 s.c.n, .int .i64 s.c.d] := fun _ => rfl
    rw [hV s, hV t] at HE HB
    rw [hV s, hV t]
    clear hV
    go_enter Tryz.func42, Tryz.ntmps42
    go_wp2_with fail
    (with_reducible refine (HB.out _).mono ?_)
    rintro _ _ ⟨rfl, x, rfl⟩
    go_wp2_with fail
    (with_reducible refine (HE.out _).mono ?_)
    rintro _ _ ⟨rfl, y, rfl⟩
    go_wp2
    refine bodyPost_ret (v := .tuple #[.agg #[.int .i64 r.a.n, .int .i64 r.a.d, .int .i64 r.b.n, .int .i64 r.b.d, .int .i64 r.c.n, .int .i64 r.c.d], .int .i64 e]) (by simp [results, Tryz.results42, go_sem]) rfl (Ret.mk (by rfl) (by (repeat' (first | (with_reducible first | apply Zl1 | apply Zl2 | apply Zl3 | apply Zl4 | apply Zl5 | apply Zl6 | apply Zl7 | apply Zl8 | apply Zl9 | apply Zla | apply Zlb | apply Zlc) | (dsimp only; with_reducible first | apply Zl8 | apply Zl2 | apply Zld) | with_reducible assumption | omega | (dsimp only; omega)))))
  · rw [show opS subQ s t = zS from if_neg hb, show opE subQ s t = both2 s t from if_neg hb]
    generalize both2 s t = e at *
    have h0 : (e != 0) = true := by simpa using hb
    clear hb
    have hV : ∀ s : Sz, s.V = .agg #[.int .i64 s.a.n, .int .i64 s.a.d, .int .i64 s.b.n, .int .i64 s.b.d, .int .i64 s.c.n, .int .i64 s.c.d] := fun _ => rfl
    rw [hV s, hV t] at HB
    rw [hV s, hV t]
    clear hV
    go_enter Tryz.func42, Tryz.ntmps42
    go_wp2_with fail
    (with_reducible refine (HB.out _).mono ?_)
    rintro _ _ ⟨rfl, x, rfl⟩
    go_wp2
    refine bodyPost_ret (v := .tuple #[.agg #[.int .i64 0, .int .i64 0, .int .i64 0, .int .i64 0, .int .i64 0, .int .i64 0], .int .i64 e]) (by simp [results, Tryz.results42, go_sem]) rfl (Ret.mk (by rfl) (by (repeat' (first | (with_reducible first | apply Zl1 | apply Zl2 | apply Zl3 | apply Zl4 | apply Zl5 | apply Zl6 | apply Zl7 | apply Zl8 | apply Zl9 | apply Zla | apply Zlb | apply Zlc) | (dsimp only; with_reducible first | apply Zl8 | apply Zl2 | apply Zld) | with_reducible assumption | omega | (dsimp only; omega)))))
def scS (s : Sz) (k : Q) : Sz := if s.chk = 0 then (if k.rt = true then eachS mulQ s ⟨k, k, k⟩ else zS) else zS
def scE (s : Sz) (k : Q) : Int := if s.chk = 0 then (if k.rt = true then eachE mulQ s ⟨k, k, k⟩ else 2) else s.chk
set_option maxHeartbeats 1600000 in
theorem iscale_any (s : Sz) (k : Q) (w : World) : Calls Tryz.prog 219 #[s.V, k.V] w (Ret (.tuple #[(scS s k).V, .int .i64 (scE s k)]) w) := by
  have HB := Lib.hid (fun w' => icheck_any s w')
  have hV : ∀ s : Sz, s.V = .agg #[.int .i64 s.a.n, .int .i64 s.a.d, .int .i64 s.b.n, .int .i64 s.b.d, .int .i64 s.c.n, .int .i64 s.c.d] := fun _ => rfl
  have hK : ∀ s : Q, s.V = .agg #[.int .i64 s.n, .int .i64 s.d] := fun _ => rfl
  by_cases hb : s.chk = 0
  · rw [hb, hV s] at HB
    by_cases hk : k.rt = true
    · have HE := Lib.hid (fun w' => each_mul s ⟨k, k, k⟩ w' (Sz.ok_rt (Sz.ok_of hb)) (by unfold Sz.rt; rw [hk]; rfl))
      have HC := Lib.hid (fun w' => F.check_any k.n k.d w')
      rw [show F.chk k.n k.d = 0 from F.chk_ok hk] at HC
      rw [show scS s k = eachS mulQ s ⟨k, k, k⟩ by unfold scS; rw [if_pos hb, if_pos hk], show scE s k = eachE mulQ s ⟨k, k, k⟩ by unfold scE; rw [if_pos hb, if_pos hk]]
      clear hb hk
      generalize eachS mulQ s ⟨k, k, k⟩ = r at *
      generalize eachE mulQ s ⟨k, k, k⟩ = e at *
      rw [tupS] at HE ⊢
      rw [hV s, hV ⟨k, k, k⟩] at HE
      rw [hV s, hK k]
      clear hV hK
      go_enter Tryz.func219, Tryz.ntmps219
      go_wp2_with fail
      (with_reducible refine (HB.out _).mono ?_)
      rintro _ _ ⟨rfl, x, rfl⟩
      go_wp2_with fail
      (with_reducible refine (HC.out _).mono ?_)
      rintro _ _ ⟨rfl, y, rfl⟩
      go_wp2_with fail
      (with_reducible refine (HE.out _).mono ?_)
      rintro _ _ ⟨rfl, z, rfl⟩
      go_wp2
      refine bodyPost_ret (v := .tuple #[.agg #[.int .i64 r.a.n, .int .i64 r.a.d, .int .i64 r.b.n, .int .i64 r.b.d, .int .i64 r.c.n, .int .i64 r.c.d], .int .i64 e]) (by simp [results, Tryz.results219, go_sem]) rfl (Ret.mk (by rfl) (by (repeat' (first | (with_reducible first | apply Zl1 | apply Zl2 | apply Zl3 | apply Zl4 | apply Zl5 | apply Zl6 | apply Zl7 | apply Zl8 | apply Zl9 | apply Zla | apply Zlb | apply Zlc) | (dsimp only; with_reducible first | apply Zl8 | apply Zl2 | apply Zld) | with_reducible assumption | omega | (dsimp only; omega)))))
    · have hk' : k.rt = false := by cases h : k.rt <;> simp_all
      have HC := Lib.hid (fun w' => F.check_any k.n k.d w')
      rw [show F.chk k.n k.d = 2 from F.chk_no hk'] at HC
      rw [show scS s k = zS by unfold scS; rw [if_pos hb, if_neg hk], show scE s k = 2 by unfold scE; rw [if_pos hb, if_neg hk]]
      clear hb hk hk'
      rw [hV s, hK k]
      clear hV hK
      go_enter Tryz.func219, Tryz.ntmps219
      go_wp2_with fail
      (with_reducible refine (HB.out _).mono ?_)
      rintro _ _ ⟨rfl, x, rfl⟩
      go_wp2_with fail
      (with_reducible refine (HC.out _).mono ?_)
      rintro _ _ ⟨rfl, y, rfl⟩
      go_wp2
      refine bodyPost_ret (v := .tuple #[.agg #[.int .i64 0, .int .i64 0, .int .i64 0, .int .i64 0, .int .i64 0, .int .i64 0], .int .i64 2]) (by simp [results, Tryz.results219, go_sem]) rfl (Ret.mk (by rfl) (by (repeat' (first | (with_reducible first | apply Zl1 | apply Zl2 | apply Zl3 | apply Zl4 | apply Zl5 | apply Zl6 | apply Zl7 | apply Zl8 | apply Zl9 | apply Zla | apply Zlb | apply Zlc) | (dsimp only; with_reducible first | apply Zl8 | apply Zl2 | apply Zld) | with_reducible assumption | omega | (dsimp only; omega)))))
  · rw [show scS s k = zS from if_neg hb, show scE s k = s.chk from if_neg hb]
    rw [hV s] at HB
    rw [hV s, hK k]
    generalize s.chk = e at *
    have h0 : (e != 0) = true := by simpa using hb
    clear hb hV hK
    go_enter Tryz.func219, Tryz.ntmps219
    go_wp2_with fail
    (with_reducible refine (HB.out _).mono ?_)
    rintro _ _ ⟨rfl, x, rfl⟩
    go_wp2
    refine bodyPost_ret (v := .tuple #[.agg #[.int .i64 0, .int .i64 0, .int .i64 0, .int .i64 0, .int .i64 0, .int .i64 0], .int .i64 e]) (by simp [results, Tryz.results219, go_sem]) rfl (Ret.mk (by rfl) (by (repeat' (first | (with_reducible first | apply Zl1 | apply Zl2 | apply Zl3 | apply Zl4 | apply Zl5 | apply Zl6 | apply Zl7 | apply Zl8 | apply Zl9 | apply Zla | apply Zlb | apply Zlc) | (dsimp only; with_reducible first | apply Zl8 | apply Zl2 | apply Zld) | with_reducible assumption | omega | (dsimp only; omega)))))
end Go.Proofs.YtehgeoipbgpocaaGreatDoor
