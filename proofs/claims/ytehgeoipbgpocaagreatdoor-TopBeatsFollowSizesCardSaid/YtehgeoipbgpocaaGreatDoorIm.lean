/- Sizes of intervals: Reduce. -/
import Derived.Test.YtehgeoipbgpocaaGreatDoorIl
import Derived.Test.YtehgeoipbgpocaaGreatDoorIn8
namespace Go.Proofs.YtehgeoipbgpocaaGreatDoor
set_option linter.unusedVariables false
set_option linter.unusedSimpArgs false
open Go.RowKit
attribute [local go_sem low] Bel.cell Bel.frozen alloc_cell alloc_frozen
attribute [local go_sem] calmOp chainOp yieldsC grows

theorem ret_obj {P : Program} {fn : Func} {R : Ending → World → Prop} {a : Act} {W : World} {b : Nat} {vs : Array Value} {T : TypeId} {v : Value} (ho : W.heap[b]? = some (.cells vs T))
    (hr : ∀ W' : World, W'.heap[b]? = some (.cells vs T) → (results fn a.tmps).run P W' = .ok v W') (hd : a.defers = []) (hR : R (.returned v) W) : bodyPost P fn R .ret a W := bodyPost_ret (hr W ho) hd hR
theorem obj_set6 {W : World} {b : Nat} {y0 y1 y2 y3 y4 y5 : Value} {t : TypeId} (x0 x1 x2 x3 x4 x5 : Value) (h : W.heap[b]? = some (.cells #[y0, y1, y2, y3, y4, y5] t (0, 0))) :
    ((((((W.setCell ⟨b, 0, none⟩ x0).setCell ⟨b, 1, none⟩ x1).setCell ⟨b, 2, none⟩ x2).setCell ⟨b, 3, none⟩ x3).setCell ⟨b, 4, none⟩ x4).setCell ⟨b, 5, none⟩ x5).heap[b]? = some (.cells #[x0, x1, x2, x3, x4, x5] t (0, 0)) :=
  obj_set (i := 5) _ (obj_set (i := 4) _ (obj_set (i := 3) _ (obj_set (i := 2) _ (obj_set (i := 1) _ (obj_set (i := 0) _ h)))))
theorem obj_set2of6 {W : World} {b : Nat} {y0 y1 y2 y3 y4 y5 : Value} {t : TypeId} (x0 x1 : Value) (h : W.heap[b]? = some (.cells #[y0, y1, y2, y3, y4, y5] t (0, 0))) :
    ((W.setCell ⟨b, 0, none⟩ x0).setCell ⟨b, 1, none⟩ x1).heap[b]? = some (.cells #[x0, x1, y2, y3, y4, y5] t (0, 0)) := obj_set (i := 1) _ (obj_set (i := 0) _ h)
theorem dmQ_div (a b : Int) (hb : 0 < b) : I.dmQ a b = a / b := by
  obtain ⟨h1, h2, h3⟩ := I.dm_law a b (by omega)
  have h4 : 0 ≤ I.dmR a b := by
    rcases (show 0 ≤ I.dmR a b ∨ I.dmR a b < 0 by omega) with h | h
    · exact h
    · have := Int.mul_neg_of_neg_of_pos h hb
      omega
  exact ((Int.ediv_emod_unique hb).2 ⟨by rw [Int.mul_comm b]; omega, h4, by omega⟩).1.symm
def redQ (s : Sz) : Int := bdL (s.e 0) (s.e 1) (s.e 2) / (s.den * cU)
def redO (s : Sz) : Int := if 0 ≤ sgP (s.e 0 - (redQ s + 1) * s.den) (s.e 1) (s.e 2) then redQ s + 1 else redQ s
def redF (s : Sz) : Q × Int := subQ s.a ⟨redO s, 1⟩
def redR (s : Sz) : Sz := ⟨(redF s).1, s.b, s.c⟩
def redK (s : Sz) : Bool := decide (s.chk = 0) && decide ((redF s).2 = 0) && (redR s).ok
def redS (s : Sz) : Sz := if redK s = true then redR s else zS
def redC (s : Sz) : Int := if redK s = true then redO s else 0
def redE (s : Sz) : Int := if redK s = true then 0 else if s.chk = 0 then 4 else s.chk
theorem red_yes {s : Sz} (h1 : s.chk = 0) (h2 : (redF s).2 = 0) (h3 : (redR s).ok = true) : redS s = redR s ∧ redC s = redO s ∧ redE s = 0 := by
  have h : redK s = true := by unfold redK; rw [h1, h2, h3]; rfl
  exact ⟨if_pos h, if_pos h, if_pos h⟩
theorem red_no {s : Sz} (h1 : s.chk = 0) (h : ¬ ((redF s).2 = 0 ∧ (redR s).ok = true)) : redS s = zS ∧ redC s = 0 ∧ redE s = 4 := by
  have hk : ¬ redK s = true := by
    unfold redK
    intro h'
    simp only [Bool.and_eq_true, decide_eq_true_eq] at h'
    exact h ⟨h'.1.2, h'.2⟩
  refine ⟨if_neg hk, if_neg hk, ?_⟩
  unfold redE
  rw [if_neg hk, if_pos h1]
theorem red_err {s : Sz} (h1 : s.chk ≠ 0) : redS s = zS ∧ redC s = 0 ∧ redE s = s.chk := by
  have hk : ¬ redK s = true := by
    unfold redK
    intro h'
    simp only [Bool.and_eq_true, decide_eq_true_eq] at h'
    exact h1 h'.1.1
  refine ⟨if_neg hk, if_neg hk, ?_⟩
  unfold redE
  rw [if_neg hk, if_neg h1]
theorem bdL_bd {x y z : Int} (hx1 : -6000 ≤ x) (hx2 : x ≤ 6000) (hy1 : -6000 ≤ y) (hy2 : y ≤ 6000) (hz1 : -6000 ≤ z) (hz2 : z ≤ 6000) : -40000 * cU ≤ bdL x y z ∧ bdL x y z ≤ 40000 * cU := by
  have a1 := negI_bd (n := 6000) (by decide) hy1
  have a2 := negI_bd (n := 6000) (by decide) hz1
  unfold bdL bdM cU cT cF
  generalize negI y = u at *
  generalize negI z = v at *
  omega
theorem redQ_bd {s : Sz} (h : s.ok = true) : -40000 ≤ redQ s ∧ redQ s ≤ 40000 := by
  have hd : 1 ≤ s.den := s.dn_pos (Sz.ok_rt h) 3
  have b0 := Sz.e_ok h 0 (by decide)
  have b1 := Sz.e_ok h 1 (by decide)
  have b2 := Sz.e_ok h 2 (by decide)
  obtain ⟨l1, l2⟩ := bdL_bd b0.1 b0.2 b1.1 b1.2 b2.1 b2.2
  have hU : (0 : Int) < cU := by decide
  have hm : 0 < s.den * cU := Int.mul_pos (by omega) hU
  have hge : cU ≤ s.den * cU := by
    have := Int.mul_le_mul_of_nonneg_right hd (show 0 ≤ cU by omega)
    omega
  unfold redQ
  generalize bdL (s.e 0) (s.e 1) (s.e 2) = b at *
  generalize s.den * cU = m at *
  generalize cU = u at *
  constructor
  · rw [Int.le_ediv_iff_mul_le hm]
    have : (-40000) * m ≤ (-40000) * u := by omega
    omega
  · have := Int.ediv_le_of_le_mul hm (show b ≤ 40000 * m by omega)
    exact this
theorem redO_bd {s : Sz} (h : s.ok = true) : -40000 ≤ redO s ∧ redO s ≤ 40001 := by
  have := redQ_bd h
  unfold redO
  split <;> omega
theorem right_one (n : Int) (h1 : -1000000 ≤ n) (h2 : n ≤ 1000000) : F.right n 1 = true := by
  unfold F.right
  exact decide_eq_true ⟨by decide, by decide, h1, h2, Int.gcd_one_right n⟩
theorem dec_nd (z : Int) : (Lib.decDigits z.natAbs).length = I.nd z := rfl
set_option maxRecDepth 100000 in
set_option maxHeartbeats 6400000 in
theorem red_any (s : Sz) (w : World) (hT : I.Tab w) : Calls Tryz.prog 201 #[s.V] w (Ret (.tuple #[(redS s).V, .int .i64 (redC s), .int .i64 (redE s)]) w) := by
  have HT := Lib.hid hT
  clear hT
  have HC := Lib.hid (fun w' => icheck_any s w')
  have hV : ∀ s : Sz, s.V = .agg #[.int .i64 s.a.n, .int .i64 s.a.d, .int .i64 s.b.n, .int .i64 s.b.d, .int .i64 s.c.n, .int .i64 s.c.d] := fun _ => rfl
  by_cases h0 : s.chk = 0
  · have hok := Sz.ok_of h0
    have HP := Lib.hid (fun w' => parts_ok s w' (Sz.ok_rt hok) (Sz.ok_fit hok))
    have c0 := Sz.e_ok hok 0 (by decide)
    have c1 := Sz.e_ok hok 1 (by decide)
    have c2 := Sz.e_ok hok 2 (by decide)
    have hd0 : 1 ≤ s.den := s.dn_pos (Sz.ok_rt hok) 3
    have hd1 : s.den ≤ 240 := (s.fit_spec (Sz.ok_fit hok)).1
    have HBD := Lib.hid (fun w' hT => bounds_any (s.e 0) (s.e 1) (s.e 2) w' (by omega) (by omega) (by omega) (by omega) (by omega) (by omega) hT)
    have HOF := Lib.hid (fun w' hT => I.of_any s.den w' (by omega) (by omega) hT)
    have hdn := nd_small (show -1000000000000 ≤ s.den by omega) (by omega)
    have HMU := Lib.hid (fun w' hT => I.mul_any s.den cU w' (by omega) (by rw [nd_U]; decide) hT)
    rw [iT_U] at HMU
    have hU : (0 : Int) < cU := by decide
    have hm : 0 < s.den * cU := Int.mul_pos (by omega) hU
    obtain ⟨l1, l2⟩ := bdL_bd c0.1 c0.2 c1.1 c1.2 c2.1 c2.2
    have hnl : I.nd (bdL (s.e 0) (s.e 1) (s.e 2)) ≤ 40 := I.nd_le10 (by decide) (by
      have : (10 : Nat) ^ 40 = 10000000000000000000000000000000000000000 := by decide
      unfold cU at l1 l2
      omega)
    have hnm := I.nd_mul s.den cU
    have HDM := Lib.hid (fun w' hT => I.divMod_any (bdL (s.e 0) (s.e 1) (s.e 2)) (s.den * cU) w' (by omega) (by rw [nd_U] at hnm; omega) (by omega) hT)
    rw [dmQ_div _ _ hm, show bdL (s.e 0) (s.e 1) (s.e 2) / (s.den * cU) = redQ s from rfl] at HDM
    obtain ⟨q1, q2⟩ := redQ_bd hok
    have hnq := nd_small (show -1000000000000 ≤ redQ s by omega) (by omega)
    have HSM := Lib.hid (fun w' => I.smallI_any (redQ s) w' (by rw [dec_nd]; omega))
    rw [dec_nd, if_pos (by omega), decide_eq_true (by omega)] at HSM
    have hqd : -9600240 ≤ (redQ s + 1) * s.den ∧ (redQ s + 1) * s.den ≤ 9600240 := by
      have e := Int.natAbs_mul (redQ s + 1) s.den
      have h3 : (redQ s + 1).natAbs * s.den.natAbs ≤ 40001 * 240 := Nat.mul_le_mul (by omega) (by omega)
      omega
    have HSG := Lib.hid (fun w' hT => isgn_any (s.e 0 - (redQ s + 1) * s.den) (s.e 1) (s.e 2) w' (by omega) (by omega) (by omega) (by omega) (by omega) (by omega) hT)
    have hrq : redO s = if 0 ≤ sgP (s.e 0 - (redQ s + 1) * s.den) (s.e 1) (s.e 2) then redQ s + 1 else redQ s := rfl
    obtain ⟨r1, r2⟩ := redO_bd hok
    have HSB := Lib.hid (show ∀ w', Calls Tryz.prog 87 #[.agg #[.int .i64 s.a.n, .int .i64 s.a.d], .agg #[.int .i64 (redO s), .int .i64 1]] w' (Ret (.tuple #[.agg #[.int .i64 (redF s).1.n, .int .i64 (redF s).1.d], .int .i64 (redF s).2]) w') from fun w' => F.sub_any s.a.n s.a.d (redO s) 1 w' (s.rt_q (Sz.ok_rt hok) 0) (right_one _ (by omega) (by omega)))
    have HRS := Lib.hid (fun w' => result_any (redR s) w')
    have HY := Lib.hid (fun h2 h3 => @red_yes s h0 h2 h3)
    have HN := Lib.hid (fun h => @red_no s h0 h)
    have hR : redR s = ⟨(redF s).1, s.b, s.c⟩ := rfl
    rw [h0, hV s] at HC
    rw [hV s] at HP ⊢
    rw [hR] at HY HN HRS
    rw [hV ⟨(redF s).1, s.b, s.c⟩] at HRS
    dsimp only at HRS
    clear l1 l2 hnl hnm hm hU hR hnq hdn
    generalize redS s = rs at *
    generalize redC s = rc at *
    generalize redE s = re at *
    generalize redF s = f at *
    generalize sgP (s.e 0 - (redQ s + 1) * s.den) (s.e 1) (s.e 2) = g at *
    have HRQ := Lib.hid hrq
    clear hrq
    generalize redO s = oc at *
    generalize redQ s = q at *
    generalize s.e 0 = e0 at *
    generalize s.e 1 = e1 at *
    generalize s.e 2 = e2 at *
    generalize I.iT (s.den * cU) = tm at *
    generalize s.den = d at *
    generalize I.dmR _ _ = rr at *
    generalize I.iT rr = tr at *
    generalize I.iT (bdL e0 e1 e2) = tl at *
    generalize I.iT (bdH e0 e1 e2) = th at *
    generalize I.iT q = tq at *
    generalize I.iT d = td at *
    clear h0 hok
    go_enter Tryz.func201, Tryz.ntmps201
    go_wp2_with fail
    (with_reducible refine (HC.out _).mono ?_)
    rintro _ _ ⟨rfl, x, rfl⟩
    go_wp2_with fail
    (with_reducible refine (HP.out _).mono ?_)
    rintro _ _ ⟨rfl, y, rfl⟩
    go_wp2_with fail
    (with_reducible refine (HBD.out _ (HT.out.of (by (repeat' (first | (with_reducible first | apply Zl1 | apply Zl2 | apply Zl3 | apply Zl4 | apply Zl5 | apply Zl6 | apply Zl7 | apply Zl8 | apply Zl9 | apply Zla | apply Zlb | apply Zlc) | (dsimp only; with_reducible first | apply Zl8 | apply Zl2 | apply Zld) | with_reducible assumption | omega | (dsimp only; omega)))))).mono ?_)
    rintro _ _ ⟨rfl, b, rfl⟩
    dsimp only
    go_wp2_with fail
    (with_reducible refine (HOF.out _ (HT.out.of (by (repeat' (first | (with_reducible first | apply Zl1 | apply Zl2 | apply Zl3 | apply Zl4 | apply Zl5 | apply Zl6 | apply Zl7 | apply Zl8 | apply Zl9 | apply Zla | apply Zlb | apply Zlc) | (dsimp only; with_reducible first | apply Zl8 | apply Zl2 | apply Zld) | with_reducible assumption | omega | (dsimp only; omega)))))).mono ?_)
    rintro _ _ ⟨rfl, o, rfl⟩
    dsimp only
    go_wp2_with fail
    (with_reducible refine (HMU.out _ (HT.out.of (by (repeat' (first | (with_reducible first | apply Zl1 | apply Zl2 | apply Zl3 | apply Zl4 | apply Zl5 | apply Zl6 | apply Zl7 | apply Zl8 | apply Zl9 | apply Zla | apply Zlb | apply Zlc) | (dsimp only; with_reducible first | apply Zl8 | apply Zl2 | apply Zld) | with_reducible assumption | omega | (dsimp only; omega)))))).mono ?_)
    rintro _ _ ⟨rfl, m, rfl⟩
    dsimp only
    go_wp2_with fail
    (with_reducible refine (HDM.out _ (HT.out.of (by (repeat' (first | (with_reducible first | apply Zl1 | apply Zl2 | apply Zl3 | apply Zl4 | apply Zl5 | apply Zl6 | apply Zl7 | apply Zl8 | apply Zl9 | apply Zla | apply Zlb | apply Zlc) | (dsimp only; with_reducible first | apply Zl8 | apply Zl2 | apply Zld) | with_reducible assumption | omega | (dsimp only; omega)))))).mono ?_)
    rintro _ _ ⟨rfl, v, rfl⟩
    dsimp only
    go_wp2_with fail
    (with_reducible refine (HSM.out _).mono ?_)
    rintro _ _ ⟨rfl, sm, rfl⟩
    dsimp only
    go_wp2_with fail
    (with_reducible refine (HSG.out _ (HT.out.of (by (repeat' (first | (with_reducible first | apply Zl1 | apply Zl2 | apply Zl3 | apply Zl4 | apply Zl5 | apply Zl6 | apply Zl7 | apply Zl8 | apply Zl9 | apply Zla | apply Zlb | apply Zlc) | (dsimp only; with_reducible first | apply Zl8 | apply Zl2 | apply Zld) | with_reducible assumption | omega | (dsimp only; omega)))))).mono ?_)
    rintro _ _ ⟨rfl, sg, rfl⟩
    have hxs := x.size_le
    have hys := y.size_le
    have hbs := b.size_le
    have hos := o.size_le
    have hms := m.size_le
    have hvs := v.size_le
    have hsms := sm.size_le
    have hsgs := sg.size_le
    dsimp only
    have ho0 : sg.w.heap[w.heap.size]? = some (.cells #[.int .i64 s.a.n, .int .i64 s.a.d, .int .i64 s.b.n, .int .i64 s.b.d, .int .i64 s.c.n, .int .i64 s.c.d] 45) := by
      repeat' (with_reducible first | exact obj_alloc _ (obj_new _ _) | apply obj_bel | apply obj_alloc)
    have ho1 : sg.w.heap[w.heap.size + 1]? = some (.cells #[.int .i64 0, .int .i64 0, .int .i64 0, .int .i64 0, .int .i64 0, .int .i64 0] 45) := by
      repeat' (with_reducible first | exact obj_new1 _ _ _ | apply obj_bel | apply obj_alloc)
    have hbl : Below w.heap.size w sg.w := by (repeat' (first | (with_reducible first | apply Zl1 | apply Zl2 | apply Zl3 | apply Zl4 | apply Zl5 | apply Zl6 | apply Zl7 | apply Zl8 | apply Zl9 | apply Zla | apply Zlb | apply Zlc) | (dsimp only; with_reducible first | apply Zl8 | apply Zl2 | apply Zld) | with_reducible assumption | omega | (dsimp only; omega)))
    obtain ⟨Y, hY⟩ : ∃ Y, sg.w = Y := ⟨_, rfl⟩
    rw [hY] at ho0 ho1 hbl ⊢
    clear hY
    have hYs := obj_lt ho1
    obtain ⟨f0, f1, f2, f3, f4, f5⟩ := froz6 ho1
    obtain ⟨e0, e1, e2, e3, e4, e5⟩ := cells6 ho1
    obtain ⟨g0, g1, g2, g3, g4, g5⟩ := cells6 ho0
    have HO1 := Lib.hid ho1
    have HBL := Lib.hid hbl
    clear ho0 ho1 HC HP HBD HOF HMU HDM HSM HSG
    by_cases hg : 0 ≤ g
    · obtain rfl : oc = (q + 1) := by have h := HRQ.out; (rw [if_pos hg] at h; exact h)
      clear HRQ
      go_wp2_with fail
      (with_reducible refine (HSB.out _).mono ?_)
      rintro _ _ ⟨rfl, u, rfl⟩
      have hus := u.size_le
      have hu1 : u.w.heap[w.heap.size + 1]? = some (.cells #[.int .i64 s.a.n, .int .i64 s.a.d, .int .i64 s.b.n, .int .i64 s.b.d, .int .i64 s.c.n, .int .i64 s.c.d] 45) := obj_bel u (obj_set (i := 5) _ (obj_set (i := 4) _ (obj_set (i := 3) _ (obj_set (i := 2) _ (obj_set (i := 1) _ (obj_set (i := 0) _ HO1.out))))))
      have hub : Below w.heap.size w u.w := by (repeat' (first | (with_reducible first | apply Zl1 | apply Zl2 | apply Zl3 | apply Zl4 | apply Zl5 | apply Zl6 | apply Zl7 | apply Zl8 | apply Zl9 | apply Zla | apply Zlb | apply Zlc) | (dsimp only; with_reducible first | apply Zl8 | apply Zl2 | apply Zld) | with_reducible assumption | omega | (dsimp only; omega)))
      obtain ⟨U, hU⟩ : ∃ U, u.w = U := ⟨_, rfl⟩
      rw [hU] at hus hu1 hub ⊢
      clear hU u
      clear f0 f1 f2 f3 f4 f5 e0 e1 e2 e3 e4 e5 g0 g1 g2 g3 g4 g5
      obtain ⟨f0, f1, f2, f3, f4, f5⟩ := froz6 hu1
      obtain ⟨e0, e1, e2, e3, e4, e5⟩ := cells6 hu1
      have HU1 := Lib.hid hu1
      have hul := obj_lt hu1
      clear hu1
      dsimp only
      by_cases hf : f.2 = 0
      · have n0 : (f.2 != 0) = false := by simpa using hf
        have HF := Lib.hid hf
        clear hf
        cases hk : (Sz.mk f.1 s.b s.c).ok
        · obtain ⟨t1, t2⟩ := res_no hk
          obtain ⟨r3, r4, r5⟩ := HN.out (fun hh => by rw [hh.2] at hk; exact Bool.noConfusion hk)
          have R3 := Lib.hid r3
          have R4 := Lib.hid r4
          have R5 := Lib.hid r5
          rw [t1, t2, show zS.V = .agg #[.int .i64 0, .int .i64 0, .int .i64 0, .int .i64 0, .int .i64 0, .int .i64 0] from rfl] at HRS
          clear hk t1 t2 r3 r4 r5
          go_wp2_with fail
          (with_reducible refine (HRS.out _).mono ?_)
          rintro _ _ ⟨rfl, z, rfl⟩
          have hzs := z.size_le
          have hz1 := obj_bel z (obj_set2of6 (.int .i64 f.1.n) (.int .i64 f.1.d) HU1.out)
          clear f0 f1 f2 f3 f4 f5 e0 e1 e2 e3 e4 e5
          obtain ⟨f0, f1, f2, f3, f4, f5⟩ := froz6 hz1
          obtain ⟨e0, e1, e2, e3, e4, e5⟩ := cells6 hz1
          dsimp only
          go_wp2
          refine ret_obj (b := w.heap.size + 1) (vs := #[.int .i64 0, .int .i64 0, .int .i64 0, .int .i64 0, .int .i64 0, .int .i64 0]) (T := 45) (v := .tuple #[.agg #[.int .i64 0, .int .i64 0, .int .i64 0, .int .i64 0, .int .i64 0, .int .i64 0], .int .i64 0, .int .i64 4]) (obj_set6 _ _ _ _ _ _ (obj_set6 _ _ _ _ _ _ hz1)) (fun W' hW' => ?_) rfl ?_
          · obtain ⟨a0, a1, a2, a3, a4, a5⟩ := cells6 hW'
            simp [results, Tryz.results201, go_sem, a0, a1, a2, a3, a4, a5]
          · exact Ret.mk (by rw [R3.out, R4.out, R5.out]; rfl) (by (repeat' (first | (with_reducible first | apply Zl1 | apply Zl2 | apply Zl3 | apply Zl4 | apply Zl5 | apply Zl6 | apply Zl7 | apply Zl8 | apply Zl9 | apply Zla | apply Zlb | apply Zlc) | (dsimp only; with_reducible first | apply Zl8 | apply Zl2 | apply Zld) | with_reducible assumption | omega | (dsimp only; omega))))
        · obtain ⟨t1, t2⟩ := res_yes hk
          obtain ⟨r3, r4, r5⟩ := HY.out HF.out hk
          have R3 := Lib.hid r3
          have R4 := Lib.hid r4
          have R5 := Lib.hid r5
          rw [t1, t2, hV ⟨f.1, s.b, s.c⟩] at HRS
          dsimp only at HRS
          clear hk t1 t2 r3 r4 r5
          go_wp2_with fail
          (with_reducible refine (HRS.out _).mono ?_)
          rintro _ _ ⟨rfl, z, rfl⟩
          have hzs := z.size_le
          have hz1 := obj_bel z (obj_set2of6 (.int .i64 f.1.n) (.int .i64 f.1.d) HU1.out)
          clear f0 f1 f2 f3 f4 f5 e0 e1 e2 e3 e4 e5
          obtain ⟨f0, f1, f2, f3, f4, f5⟩ := froz6 hz1
          obtain ⟨e0, e1, e2, e3, e4, e5⟩ := cells6 hz1
          dsimp only
          go_wp2
          refine ret_obj (b := w.heap.size + 1) (vs := #[.int .i64 f.1.n, .int .i64 f.1.d, .int .i64 s.b.n, .int .i64 s.b.d, .int .i64 s.c.n, .int .i64 s.c.d]) (T := 45) (v := .tuple #[.agg #[.int .i64 f.1.n, .int .i64 f.1.d, .int .i64 s.b.n, .int .i64 s.b.d, .int .i64 s.c.n, .int .i64 s.c.d], .int .i64 ((q + 1)), .int .i64 0]) (obj_set6 _ _ _ _ _ _ (obj_set6 _ _ _ _ _ _ hz1)) (fun W' hW' => ?_) rfl ?_
          · obtain ⟨a0, a1, a2, a3, a4, a5⟩ := cells6 hW'
            simp [results, Tryz.results201, go_sem, a0, a1, a2, a3, a4, a5]
          · exact Ret.mk (by rw [R3.out, R4.out, R5.out]; rfl) (by (repeat' (first | (with_reducible first | apply Zl1 | apply Zl2 | apply Zl3 | apply Zl4 | apply Zl5 | apply Zl6 | apply Zl7 | apply Zl8 | apply Zl9 | apply Zla | apply Zlb | apply Zlc) | (dsimp only; with_reducible first | apply Zl8 | apply Zl2 | apply Zld) | with_reducible assumption | omega | (dsimp only; omega))))
      · have n0 : (f.2 != 0) = true := by simpa using hf
        obtain ⟨r3, r4, r5⟩ := HN.out (fun hh => hf hh.1)
        have R3 := Lib.hid r3
        have R4 := Lib.hid r4
        have R5 := Lib.hid r5
        clear hf r3 r4 r5
        go_wp2
        refine ret_obj (b := w.heap.size + 1) (vs := #[.int .i64 0, .int .i64 0, .int .i64 0, .int .i64 0, .int .i64 0, .int .i64 0]) (T := 45) (v := .tuple #[.agg #[.int .i64 0, .int .i64 0, .int .i64 0, .int .i64 0, .int .i64 0, .int .i64 0], .int .i64 0, .int .i64 4]) (obj_set6 _ _ _ _ _ _ (obj_set2of6 _ _ HU1.out)) (fun W' hW' => ?_) rfl ?_
        · obtain ⟨a0, a1, a2, a3, a4, a5⟩ := cells6 hW'
          simp [results, Tryz.results201, go_sem, a0, a1, a2, a3, a4, a5]
        · exact Ret.mk (by rw [R3.out, R4.out, R5.out]; rfl) (by (repeat' (first | (with_reducible first | apply Zl1 | apply Zl2 | apply Zl3 | apply Zl4 | apply Zl5 | apply Zl6 | apply Zl7 | apply Zl8 | apply Zl9 | apply Zla | apply Zlb | apply Zlc) | (dsimp only; with_reducible first | apply Zl8 | apply Zl2 | apply Zld) | with_reducible assumption | omega | (dsimp only; omega))))
    · obtain rfl : oc = q := by have h := HRQ.out; (rw [if_neg hg] at h; exact h)
      clear HRQ
      go_wp2_with fail
      (with_reducible refine (HSB.out _).mono ?_)
      rintro _ _ ⟨rfl, u, rfl⟩
      have hus := u.size_le
      have hu1 : u.w.heap[w.heap.size + 1]? = some (.cells #[.int .i64 s.a.n, .int .i64 s.a.d, .int .i64 s.b.n, .int .i64 s.b.d, .int .i64 s.c.n, .int .i64 s.c.d] 45) := obj_bel u (obj_set (i := 5) _ (obj_set (i := 4) _ (obj_set (i := 3) _ (obj_set (i := 2) _ (obj_set (i := 1) _ (obj_set (i := 0) _ HO1.out))))))
      have hub : Below w.heap.size w u.w := by (repeat' (first | (with_reducible first | apply Zl1 | apply Zl2 | apply Zl3 | apply Zl4 | apply Zl5 | apply Zl6 | apply Zl7 | apply Zl8 | apply Zl9 | apply Zla | apply Zlb | apply Zlc) | (dsimp only; with_reducible first | apply Zl8 | apply Zl2 | apply Zld) | with_reducible assumption | omega | (dsimp only; omega)))
      obtain ⟨U, hU⟩ : ∃ U, u.w = U := ⟨_, rfl⟩
      rw [hU] at hus hu1 hub ⊢
      clear hU u
      clear f0 f1 f2 f3 f4 f5 e0 e1 e2 e3 e4 e5 g0 g1 g2 g3 g4 g5
      obtain ⟨f0, f1, f2, f3, f4, f5⟩ := froz6 hu1
      obtain ⟨e0, e1, e2, e3, e4, e5⟩ := cells6 hu1
      have HU1 := Lib.hid hu1
      have hul := obj_lt hu1
      clear hu1
      dsimp only
      by_cases hf : f.2 = 0
      · have n0 : (f.2 != 0) = false := by simpa using hf
        have HF := Lib.hid hf
        clear hf
        cases hk : (Sz.mk f.1 s.b s.c).ok
        · obtain ⟨t1, t2⟩ := res_no hk
          obtain ⟨r3, r4, r5⟩ := HN.out (fun hh => by rw [hh.2] at hk; exact Bool.noConfusion hk)
          have R3 := Lib.hid r3
          have R4 := Lib.hid r4
          have R5 := Lib.hid r5
          rw [t1, t2, show zS.V = .agg #[.int .i64 0, .int .i64 0, .int .i64 0, .int .i64 0, .int .i64 0, .int .i64 0] from rfl] at HRS
          clear hk t1 t2 r3 r4 r5
          go_wp2_with fail
          (with_reducible refine (HRS.out _).mono ?_)
          rintro _ _ ⟨rfl, z, rfl⟩
          have hzs := z.size_le
          have hz1 := obj_bel z (obj_set2of6 (.int .i64 f.1.n) (.int .i64 f.1.d) HU1.out)
          clear f0 f1 f2 f3 f4 f5 e0 e1 e2 e3 e4 e5
          obtain ⟨f0, f1, f2, f3, f4, f5⟩ := froz6 hz1
          obtain ⟨e0, e1, e2, e3, e4, e5⟩ := cells6 hz1
          dsimp only
          go_wp2
          refine ret_obj (b := w.heap.size + 1) (vs := #[.int .i64 0, .int .i64 0, .int .i64 0, .int .i64 0, .int .i64 0, .int .i64 0]) (T := 45) (v := .tuple #[.agg #[.int .i64 0, .int .i64 0, .int .i64 0, .int .i64 0, .int .i64 0, .int .i64 0], .int .i64 0, .int .i64 4]) (obj_set6 _ _ _ _ _ _ (obj_set6 _ _ _ _ _ _ hz1)) (fun W' hW' => ?_) rfl ?_
          · obtain ⟨a0, a1, a2, a3, a4, a5⟩ := cells6 hW'
            simp [results, Tryz.results201, go_sem, a0, a1, a2, a3, a4, a5]
          · exact Ret.mk (by rw [R3.out, R4.out, R5.out]; rfl) (by (repeat' (first | (with_reducible first | apply Zl1 | apply Zl2 | apply Zl3 | apply Zl4 | apply Zl5 | apply Zl6 | apply Zl7 | apply Zl8 | apply Zl9 | apply Zla | apply Zlb | apply Zlc) | (dsimp only; with_reducible first | apply Zl8 | apply Zl2 | apply Zld) | with_reducible assumption | omega | (dsimp only; omega))))
        · obtain ⟨t1, t2⟩ := res_yes hk
          obtain ⟨r3, r4, r5⟩ := HY.out HF.out hk
          have R3 := Lib.hid r3
          have R4 := Lib.hid r4
          have R5 := Lib.hid r5
          rw [t1, t2, hV ⟨f.1, s.b, s.c⟩] at HRS
          dsimp only at HRS
          clear hk t1 t2 r3 r4 r5
          go_wp2_with fail
          (with_reducible refine (HRS.out _).mono ?_)
          rintro _ _ ⟨rfl, z, rfl⟩
          have hzs := z.size_le
          have hz1 := obj_bel z (obj_set2of6 (.int .i64 f.1.n) (.int .i64 f.1.d) HU1.out)
          clear f0 f1 f2 f3 f4 f5 e0 e1 e2 e3 e4 e5
          obtain ⟨f0, f1, f2, f3, f4, f5⟩ := froz6 hz1
          obtain ⟨e0, e1, e2, e3, e4, e5⟩ := cells6 hz1
          dsimp only
          go_wp2
          refine ret_obj (b := w.heap.size + 1) (vs := #[.int .i64 f.1.n, .int .i64 f.1.d, .int .i64 s.b.n, .int .i64 s.b.d, .int .i64 s.c.n, .int .i64 s.c.d]) (T := 45) (v := .tuple #[.agg #[.int .i64 f.1.n, .int .i64 f.1.d, .int .i64 s.b.n, .int .i64 s.b.d, .int .i64 s.c.n, .int .i64 s.c.d], .int .i64 (oc), .int .i64 0]) (obj_set6 _ _ _ _ _ _ (obj_set6 _ _ _ _ _ _ hz1)) (fun W' hW' => ?_) rfl ?_
          · obtain ⟨a0, a1, a2, a3, a4, a5⟩ := cells6 hW'
            simp [results, Tryz.results201, go_sem, a0, a1, a2, a3, a4, a5]
          · exact Ret.mk (by rw [R3.out, R4.out, R5.out]; rfl) (by (repeat' (first | (with_reducible first | apply Zl1 | apply Zl2 | apply Zl3 | apply Zl4 | apply Zl5 | apply Zl6 | apply Zl7 | apply Zl8 | apply Zl9 | apply Zla | apply Zlb | apply Zlc) | (dsimp only; with_reducible first | apply Zl8 | apply Zl2 | apply Zld) | with_reducible assumption | omega | (dsimp only; omega))))
      · have n0 : (f.2 != 0) = true := by simpa using hf
        obtain ⟨r3, r4, r5⟩ := HN.out (fun hh => hf hh.1)
        have R3 := Lib.hid r3
        have R4 := Lib.hid r4
        have R5 := Lib.hid r5
        clear hf r3 r4 r5
        go_wp2
        refine ret_obj (b := w.heap.size + 1) (vs := #[.int .i64 0, .int .i64 0, .int .i64 0, .int .i64 0, .int .i64 0, .int .i64 0]) (T := 45) (v := .tuple #[.agg #[.int .i64 0, .int .i64 0, .int .i64 0, .int .i64 0, .int .i64 0, .int .i64 0], .int .i64 0, .int .i64 4]) (obj_set6 _ _ _ _ _ _ (obj_set2of6 _ _ HU1.out)) (fun W' hW' => ?_) rfl ?_
        · obtain ⟨a0, a1, a2, a3, a4, a5⟩ := cells6 hW'
          simp [results, Tryz.results201, go_sem, a0, a1, a2, a3, a4, a5]
        · exact Ret.mk (by rw [R3.out, R4.out, R5.out]; rfl) (by (repeat' (first | (with_reducible first | apply Zl1 | apply Zl2 | apply Zl3 | apply Zl4 | apply Zl5 | apply Zl6 | apply Zl7 | apply Zl8 | apply Zl9 | apply Zla | apply Zlb | apply Zlc) | (dsimp only; with_reducible first | apply Zl8 | apply Zl2 | apply Zld) | with_reducible assumption | omega | (dsimp only; omega))))
  · obtain ⟨r1, r2, r3⟩ := red_err h0
    rw [r1, r2, r3]
    rw [hV s] at HC ⊢
    generalize s.chk = e at *
    have f0 : (e != 0) = true := by simpa using h0
    clear hV h0 r1 r2 r3
    go_enter Tryz.func201, Tryz.ntmps201
    go_wp2_with fail
    (with_reducible refine (HC.out _).mono ?_)
    rintro _ _ ⟨rfl, x, rfl⟩
    go_wp2
    refine bodyPost_ret (v := .tuple #[.agg #[.int .i64 0, .int .i64 0, .int .i64 0, .int .i64 0, .int .i64 0, .int .i64 0], .int .i64 0, .int .i64 e]) (by simp [results, Tryz.results201, go_sem]) rfl (Ret.mk (by rfl) (by (repeat' (first | (with_reducible first | apply Zl1 | apply Zl2 | apply Zl3 | apply Zl4 | apply Zl5 | apply Zl6 | apply Zl7 | apply Zl8 | apply Zl9 | apply Zla | apply Zlb | apply Zlc) | (dsimp only; with_reducible first | apply Zl8 | apply Zl2 | apply Zld) | with_reducible assumption | omega | (dsimp only; omega)))))
end Go.Proofs.YtehgeoipbgpocaaGreatDoor
