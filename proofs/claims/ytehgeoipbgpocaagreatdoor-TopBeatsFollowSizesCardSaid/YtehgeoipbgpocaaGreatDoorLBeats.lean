/- The law of beats, walked. -/
import Derived.Test.YtehgeoipbgpocaaGreatDoorKA
import Derived.Test.YtehgeoipbgpocaaGreatDoorTi
import Derived.Test.YtehgeoipbgpocaaGreatDoorTb
import Derived.Test.YtehgeoipbgpocaaGreatDoorIk
namespace Go.Proofs.YtehgeoipbgpocaaGreatDoor
set_option linter.unusedVariables false
set_option linter.unusedSimpArgs false
open Go.RowKit
attribute [local go_sem low] Bel.cell Bel.frozen alloc_cell alloc_frozen
attribute [local go_sem] calmOp chainOp yieldsC grows

theorem wpList_ldVg {ops : Array Oper} {rest : List Oper} {o : Oper} {a : Act} {w : World} {Q : Exit → Act → World → Prop} (hg : Region.wanted o (yielded ops a.tmps) = true) (x : Operand) (ho : o.op = .load 36 x)
    (B : Nat) (hx : a.eval x = .pointer (some ⟨B, 0, none⟩)) (c : Cir) (p : Int) (hob : w.heap[B]? = some (.cells (tunA c p) 38))
    (h : wpList Tryz.prog ops Q rest (a.put o.dst (.agg (cirA c))) w) : wpList Tryz.prog ops Q (o :: rest) a w := by
  refine wpList_step fun K hK => ?_
  simp only [hg, if_true]
  refine wp_load_mid 36 x ho B 0 hx (cirA c).toList _ (fun j v hv => ?_) cir_under rfl (by rw [cir_info, Array.length_toList, cirA_size]) (by rw [Array.toArray_toList]; exact hK _ _ h)
  have hv' : (cirA c)[j]? = some v := by simpa using hv
  have hj : j < 48 := by have := (Array.getElem?_eq_some_iff.1 hv').1; rwa [cirA_size] at this
  rw [Nat.zero_add, cell_of_row _ _ j (tunA c p) _ _ hob, tun_get c p hj, hv']

theorem wpList_isU {ops : Array Oper} {rest : List Oper} {o : Oper} {a : Act} {w : World} {Q : Exit → Act → World → Prop} {x : Operand} (_ : o.op = .load 38 x) (h : wpList Tryz.prog ops Q (o :: rest) a w) : wpList Tryz.prog ops Q (o :: rest) a w := h
theorem wpList_isV {ops : Array Oper} {rest : List Oper} {o : Oper} {a : Act} {w : World} {Q : Exit → Act → World → Prop} {x : Operand} (_ : o.op = .load 36 x) (h : wpList Tryz.prog ops Q (o :: rest) a w) : wpList Tryz.prog ops Q (o :: rest) a w := h
theorem run_ne_bnd (a b c e : Int) (w : World) : (binOp .neq 53 (.agg #[.int .i64 a, .int .i64 b]) (.agg #[.int .i64 c, .int .i64 e])).run Tryz.prog w = .ok (.bool (!((a == c) && (b == e)))) w := by
  rw [run_neq_struct, eqIn_bnd 9998 a b c e w]
  rfl
theorem guardN_bnd (x y : Operand) (xs ys : Array Value) (w : World) : (eqGuard .neq 53 x y (.agg xs) (.agg ys)).run Tryz.prog w = .ok () w := run_eqGuard_agg w _ _ _ _ _ _ (by kernel_rfl)
theorem er_ok {c : Cir} {n k : Nat} {z r : Sz} (h : erM c n k z = some r) : r.ok = true := by
  unfold erM at h
  obtain ⟨s, _, h⟩ := Option.bind_eq_some_iff.mp h
  obtain ⟨h1, h2⟩ := lim1_some h
  subst h2
  exact (op_parts h1).2.2.1
theorem BtN.bd {c : Cir} {l m n : Nat} {x y : Int} (h : BtN c l m n x y) (hm : isP m) (hn : n ≤ 1000) : -2000000000000 ≤ x ∧ x ≤ 2000000000000 ∧ -2000000000000 ≤ y ∧ y ≤ 2000000000000 := by
  obtain ⟨s, u, v, a, b, e, f, _, _, _, h4, h5, rfl, rfl⟩ := h
  have k1 := pq_bd (x := (pI m : Int)) hm (.inl rfl) hn (show e ≤ 128000001 by have := h5.le; omega)
  have k2 := pq_bd (x := (pI m : Int)) hm (.inl rfl) hn (show f ≤ 128000001 by have := h5.le; omega)
  have k3 := pq_bd (x := (qI m : Int)) hm (.inr rfl) hn (show a ≤ 128000001 by have := h4.le; omega)
  have k4 := pq_bd (x := (qI m : Int)) hm (.inr rfl) hn (show b ≤ 128000001 by have := h4.le; omega)
  unfold bLo bHi
  generalize (pI m : Int) * (n * e) = t1 at *
  generalize (pI m : Int) * (n * f) = t2 at *
  generalize (qI m : Int) * (n * a) = t3 at *
  generalize (qI m : Int) * (n * b) = t4 at *
  split
  · omega
  · split <;> omega
theorem freq_weak (c : Cir) (p n : Nat) (w : World) (hC : chkC c = 0) (hp0 : 1 ≤ p) (hp : p ≤ 1000) (hn : n ≤ 127) (hT : I.Tab w) :
    Calls Tryz.prog 15 #[.agg (tunA c p), .int .i64 (n : Int)] w fun e w' => ∃ a b er : Int, e = .returned (.tuple #[.agg #[.int .i64 a, .int .i64 b], .int .i64 er]) ∧ ∃ y : Bel w, w' = y.w := by
  refine (aFrequency_any c p n w hC hp0 hp hn hT).mono ?_
  rintro e w' ⟨hw, ⟨er, _, _, rfl⟩ | ⟨s, lo, hi, _, _, rfl⟩⟩
  · exact ⟨_, _, _, rfl, hw⟩
  · exact ⟨_, _, _, rfl, hw⟩
theorem clo_cases (c : Cir) : (closesC c = false ∧ oE (reM c) = 4) ∨ (closesC c = true ∧ oE (reM c) = 0) ∨ (closesC c = false ∧ oE (reM c) = 0) := by
  cases h : reM c with
  | none => exact .inl ⟨by unfold closesC; rw [h]; rfl, rfl⟩
  | some s =>
    cases hc : closesC c
    · exact .inr (.inr ⟨rfl, rfl⟩)
    · exact .inr (.inl ⟨rfl, rfl⟩)
theorem cmS_cases (s t : Sz) : cmS s t = 0 ∨ cmS s t = 1 ∨ cmS s t = -1 := by
  unfold cmS
  split
  · exact sgP_val _ _ _
  · exact .inl rfl
set_option maxRecDepth 100000 in
set_option maxHeartbeats 12800000 in
theorem lawBeats_any (a : Int) (p : Nat → Int × Int) (d q lo sem : Int) (w : World) (hp : PlanOk a p d) (hq0 : 0 ≤ q) (hq : q < 65536) (hlo0 : -9223372036854775808 ≤ lo) (hlo1 : lo ≤ 9223372036854775807) (hT : I.Tab w) :
    Calls Tryz.prog 3 #[.agg (planA a p d), .int .u16 q, .agg #[.int .i64 lo, .int .i64 sem]] w (Ret (.bool true) w) := by
  have HT := Lib.hid hT
  have HK := Lib.hid (fun w' hT => Known42_any w' hT)
  have HM := Lib.hid (fun w' => make42_any a p d q w' hp hq0 hq)
  have HS := Lib.hid (planA_size a p d)
  clear hp hT hq0 hq
  generalize planA a p d = A at *
  go_enter Tryz.func3, Tryz.ntmps3
  go_wp2_with fail
  (with_reducible refine (HK.out _ (HT.out.of (by (repeat' (first | (with_reducible first | apply Zl1 | apply Zl2 | apply Zl3 | apply Zl4 | apply Zl5 | apply Zl6 | apply Zl7 | apply Zl8 | apply Zl9 | apply Zla | apply Zlb | apply Zlc) | (dsimp only; with_reducible first | apply Zl8 | apply Zl2 | apply Zld) | with_reducible assumption | omega | (dsimp only; omega)))))).mono ?_)
  rintro _ _ ⟨rfl, x, rfl⟩
  have hxs := x.size_le
  dsimp only
  go_wp2_with (refine wpList_ldP rfl _ rfl _ rfl A HS.out (obj_bel x (obj_alloc _ (obj_new _ _))) ?_)
  (with_reducible refine (HM.out _).mono ?_)
  rintro _ _ ⟨c, n, hn1, hn2, rfl, y, rfl⟩
  have hys := y.size_le
  have hi := obj_bel y (obj_bel x (obj_new1 w (.cells A 26) (.cells #[.int .i64 lo, .int .i64 sem] 29)))
  have hil := obj_lt hi
  dsimp only
  go_wp2_with (refine wpList_stU rfl _ _ rfl y.w.heap.size c (n : Int) rfl rfl _ _ (obj_new _ _) rfl (fun W hW => Hid.out ?_))
  refine Lib.hid ?_
  have hb0 : Below w.heap.size w W := hW.below (by (repeat' (first | (with_reducible first | apply Zl1 | apply Zl2 | apply Zl3 | apply Zl4 | apply Zl5 | apply Zl6 | apply Zl7 | apply Zl8 | apply Zl9 | apply Zla | apply Zlb | apply Zlc) | (dsimp only; with_reducible first | apply Zl8 | apply Zl2 | apply Zld) | with_reducible assumption | omega | (dsimp only; omega)))) (by omega)
  have HT0 := Lib.hid hW.b
  have HI0 := Lib.hid (hW.obj (by omega) (obj_alloc _ hi))
  have hB0 := obj_lt hW.b
  have hB1 : w.heap.size + 1 < y.w.heap.size := hil
  generalize y.w.heap.size = B at *
  clear hW hi hil hys hxs HK HM HS
  clear y
  clear x
  have hws := hb0.size
  obtain ⟨c0, c1⟩ := cell2 HI0.out
  by_cases hP : ∃ m : Nat, isP m ∧ sem = (m : Int)
  · obtain ⟨m, hm, rfl⟩ := hP
    obtain ⟨hm1, hm2⟩ := isP_bd hm
    have HP := Lib.hid (fun w' => partials_ok m hm w')
    have hpq := pu_all hm
    have HM := Lib.hid hm
    go_wp2_with fail
    (with_reducible refine (HP.out _).mono ?_)
    rintro _ _ ⟨rfl, x, rfl⟩
    have hxs := x.size_le
    have HT1 := Lib.hid (obj_bel x HT0.out)
    have HI1 := Lib.hid (obj_bel x HI0.out)
    clear c0 c1
    obtain ⟨c0, c1⟩ := cell2 HI1.out
    by_cases hl0 : lo < 0
    · go_wp2
      go_ret
      exact Ret.mk (by rfl) (by (repeat' (first | (with_reducible first | apply Zl1 | apply Zl2 | apply Zl3 | apply Zl4 | apply Zl5 | apply Zl6 | apply Zl7 | apply Zl8 | apply Zl9 | apply Zla | apply Zlb | apply Zlc) | (dsimp only; with_reducible first | apply Zl8 | apply Zl2 | apply Zld) | with_reducible assumption | omega | (dsimp only; omega))))
    by_cases hl1 : 127 - (m : Int) < lo
    · go_wp2
      go_ret
      exact Ret.mk (by rfl) (by (repeat' (first | (with_reducible first | apply Zl1 | apply Zl2 | apply Zl3 | apply Zl4 | apply Zl5 | apply Zl6 | apply Zl7 | apply Zl8 | apply Zl9 | apply Zla | apply Zlb | apply Zlc) | (dsimp only; with_reducible first | apply Zl8 | apply Zl2 | apply Zld) | with_reducible assumption | omega | (dsimp only; omega))))
    obtain ⟨l, rfl⟩ : ∃ l : Nat, lo = (l : Int) := ⟨lo.toNat, by omega⟩
    have hlm : l + m ≤ 127 := by omega
    by_cases hC : chkC c = 0
    · have HCK := Lib.hid (fun w' => tcheck_ok c w' hC)
      have d1 : decide ((l : Int) < 0) = false := decide_eq_false (by omega)
      have d2 : decide (127 - (m : Int) < (l : Int)) = false := decide_eq_false (by omega)
      go_wp2_with ((with_reducible refine wpList_isV rfl ?_); refine wpList_ldVg rfl _ rfl _ rfl c (n : Int) HT1.out ?_)
      (with_reducible refine (HCK.out _).mono ?_)
      rintro _ _ ⟨rfl, y, rfl⟩
      have hys := y.size_le
      have HT2 := Lib.hid (obj_bel y HT1.out)
      have HI2 := Lib.hid (obj_bel y HI1.out)
      clear c0 c1 d1 d2 HCK
      obtain ⟨c0, c1⟩ := cell2 HI2.out
      have HR := Lib.hid (fun w' => ratio_any (pI m) (qI m) w' (by omega) (by omega) (by omega) (by omega))
      rw [hpq.1, show ratS (pI m) (qI m) = puS m from rfl] at HR
      have hz0 : (puS m).chk = 0 := Sz.chk_ok hpq.2.1
      obtain ⟨k, hk⟩ : ∃ k, l % 12 = k := ⟨_, rfl⟩
      have hk1 : Int.tmod (l : Int) 12 = (k : Int) := by rw [Int.tmod_eq_emod_of_nonneg (by omega)]; omega
      have hk2 : (l : Int) % 12 = (k : Int) := by omega
      obtain ⟨t, ht⟩ : ∃ t, l + m = t := ⟨_, rfl⟩
      have hlt : (l : Int) + (m : Int) = (t : Int) := by omega
      obtain ⟨u, hu⟩ : ∃ u, l + 12 = u := ⟨_, rfl⟩
      have hlu : (l : Int) + 12 = (u : Int) := by omega
      have HE := Lib.hid (fun w' hT => tError_any c k m (puS m) w' hC (by omega) (by omega) hz0 hT)
      have HDIR := Lib.hid (fun w' hT => aDirection_any c n l m w' hC hn1 hn2 hm hlm hT)
      have HBE := Lib.hid (fun w' hT => aBeats_any c n l m w' hC hn1 hn2 hm hlm hT)
      have HF1 := Lib.hid (fun w' hT => aFrequency_any c n l w' hC hn1 hn2 (by omega) hT)
      have HF2 := Lib.hid (fun w' hT => aFrequency_any c n t w' hC hn1 hn2 (by omega) hT)
      have HW1 := Lib.hid (fun w' hT => freq_weak c n l w' hC hn1 hn2 (by omega) hT)
      have HW2 := Lib.hid (fun w' hT => freq_weak c n t w' hC hn1 hn2 (by omega) hT)
      have HUF := Lib.hid (fun w' (h : 127 < u + m) => aBeats_far c n u m w' hC hn1 hn2 hm h (by omega))
      have HUB := Lib.hid (fun w' (h : u + m ≤ 127) hT => aBeats_any c n u m w' hC hn1 hn2 hm h hT)
      have HCL := Lib.hid (fun w' => closes_any c w' hC)
      have HDE := Lib.hid (fun (s r : Sz) (h1 : btM c l (l + m) = some s) (h2 : erM c k m (puS m) = some r) => (dir_eq hlm h1 (by rw [hk]; exact h2) : cmS s (puS m) = sgS r ∧ r.chk = 0))
      have HPQ := Lib.hid hpq
      have HTT := Lib.hid ht
      have HUU := Lib.hid hu
      have HC := Lib.hid hC
      rw [show cirV c = .agg (cirA c) from rfl] at HE HCL
      clear hC hm hpq hz0 hk ht hu HP
      cases hbt : btM c l (l + m) with
      | none =>
        cases her : erM c k m (puS m) with
        | none =>
          rw [her, oV_none] at HE
          have HSG := Lib.hid (fun w' hT => isign_any zS w' hT)
          rw [show sgS zS = 0 by decide +kernel, show zS.chk = 2 by decide +kernel, show zS.V = .agg #[.int .i64 0, .int .i64 0, .int .i64 0, .int .i64 0, .int .i64 0, .int .i64 0] from rfl] at HSG
          clear her HDE hbt
          generalize dirD m (btM c l (l + m)) = dq at *
          generalize oE (btM c l (l + m)) = eq at *
          rw [szV] at HR HE
          generalize puS m = z at *
          go_wp2_with fail
          (with_reducible refine (HR.out _).mono ?_)
          rintro _ _ ⟨rfl, v1, rfl⟩
          have hv1s := v1.size_le
          have HV1 := Lib.hid (obj_bel v1 HT2.out)
          have HVI := Lib.hid (obj_bel v1 HI2.out)
          clear c0 c1
          obtain ⟨c0, c1⟩ := cell2 HVI.out
          dsimp only
          go_wp2_with ((with_reducible refine wpList_isV rfl ?_); refine wpList_ldV rfl _ rfl _ rfl c (n : Int) (by with_reducible exact (obj_alloc _ HV1.out)) ?_)
          (with_reducible refine (HE.out _ (HT.out.of (by (repeat' (first | (with_reducible first | apply Zl1 | apply Zl2 | apply Zl3 | apply Zl4 | apply Zl5 | apply Zl6 | apply Zl7 | apply Zl8 | apply Zl9 | apply Zla | apply Zlb | apply Zlc) | (dsimp only; with_reducible first | apply Zl8 | apply Zl2 | apply Zld) | with_reducible assumption | omega | (dsimp only; omega)))))).mono ?_)
          rintro _ _ ⟨rfl, v2, rfl⟩
          have hv2s := v2.size_le
          have HV2 := Lib.hid (obj_bel v2 (obj_alloc (.cells #[.int .i64 z.a.n, .int .i64 z.a.d, .int .i64 z.b.n, .int .i64 z.b.d, .int .i64 z.c.n, .int .i64 z.c.d] 45) HV1.out))
          have HWI := Lib.hid (obj_bel v2 (obj_alloc (.cells #[.int .i64 z.a.n, .int .i64 z.a.d, .int .i64 z.b.n, .int .i64 z.b.d, .int .i64 z.c.n, .int .i64 z.c.d] 45) HVI.out))
          dsimp only
          go_wp2_with fail
          (with_reducible refine (HSG.out _ (HT.out.of (by (repeat' (first | (with_reducible first | apply Zl1 | apply Zl2 | apply Zl3 | apply Zl4 | apply Zl5 | apply Zl6 | apply Zl7 | apply Zl8 | apply Zl9 | apply Zla | apply Zlb | apply Zlc) | (dsimp only; with_reducible first | apply Zl8 | apply Zl2 | apply Zld) | with_reducible assumption | omega | (dsimp only; omega)))))).mono ?_)
          rintro _ _ ⟨rfl, v3, rfl⟩
          have hv3s := v3.size_le
          have HV3 := Lib.hid (obj_bel v3 (obj_alloc (.cells (#[.int .i64 0, .int .i64 0, .int .i64 0, .int .i64 0, .int .i64 0, .int .i64 0]) 45) HV2.out))
          have HXI := Lib.hid (obj_bel v3 (obj_alloc (.cells (#[.int .i64 0, .int .i64 0, .int .i64 0, .int .i64 0, .int .i64 0, .int .i64 0]) 45) HWI.out))
          clear c0 c1
          obtain ⟨c0, c1⟩ := cell2 HXI.out
          dsimp only
          go_wp2_with ((with_reducible refine wpList_isU rfl ?_); refine wpList_ldU rfl _ rfl _ rfl c (n : Int) (by with_reducible exact HV3.out) ?_)
          (with_reducible refine (HDIR.out _ (HT.out.of (by (repeat' (first | (with_reducible first | apply Zl1 | apply Zl2 | apply Zl3 | apply Zl4 | apply Zl5 | apply Zl6 | apply Zl7 | apply Zl8 | apply Zl9 | apply Zla | apply Zlb | apply Zlc) | (dsimp only; with_reducible first | apply Zl8 | apply Zl2 | apply Zld) | with_reducible assumption | omega | (dsimp only; omega)))))).mono ?_)
          rintro _ _ ⟨rfl, v4, rfl⟩
          have hv4s := v4.size_le
          dsimp only
          go_wp2
          go_ret
          exact Ret.mk (by rfl) (by (repeat' (first | (with_reducible first | apply Zl1 | apply Zl2 | apply Zl3 | apply Zl4 | apply Zl5 | apply Zl6 | apply Zl7 | apply Zl8 | apply Zl9 | apply Zla | apply Zlb | apply Zlc) | (dsimp only; with_reducible first | apply Zl8 | apply Zl2 | apply Zld) | with_reducible assumption | omega | (dsimp only; omega))))
        | some r =>
          have HSG := Lib.hid (fun w' hT => isign_any r w' hT)
          rw [Sz.chk_ok (er_ok her)] at HSG
          rw [her, oV_some] at HE
          rw [hbt, show dirD m none = 0 from rfl, show oE none = 4 from rfl] at HDIR
          rw [szV] at HSG HR HE
          clear her HDE hbt
          generalize sgS r = gr at *
          generalize puS m = z at *
          go_wp2_with fail
          (with_reducible refine (HR.out _).mono ?_)
          rintro _ _ ⟨rfl, v1, rfl⟩
          have hv1s := v1.size_le
          have HV1 := Lib.hid (obj_bel v1 HT2.out)
          have HVI := Lib.hid (obj_bel v1 HI2.out)
          clear c0 c1
          obtain ⟨c0, c1⟩ := cell2 HVI.out
          dsimp only
          go_wp2_with ((with_reducible refine wpList_isV rfl ?_); refine wpList_ldV rfl _ rfl _ rfl c (n : Int) (by with_reducible exact (obj_alloc _ HV1.out)) ?_)
          (with_reducible refine (HE.out _ (HT.out.of (by (repeat' (first | (with_reducible first | apply Zl1 | apply Zl2 | apply Zl3 | apply Zl4 | apply Zl5 | apply Zl6 | apply Zl7 | apply Zl8 | apply Zl9 | apply Zla | apply Zlb | apply Zlc) | (dsimp only; with_reducible first | apply Zl8 | apply Zl2 | apply Zld) | with_reducible assumption | omega | (dsimp only; omega)))))).mono ?_)
          rintro _ _ ⟨rfl, v2, rfl⟩
          have hv2s := v2.size_le
          have HV2 := Lib.hid (obj_bel v2 (obj_alloc (.cells #[.int .i64 z.a.n, .int .i64 z.a.d, .int .i64 z.b.n, .int .i64 z.b.d, .int .i64 z.c.n, .int .i64 z.c.d] 45) HV1.out))
          have HWI := Lib.hid (obj_bel v2 (obj_alloc (.cells #[.int .i64 z.a.n, .int .i64 z.a.d, .int .i64 z.b.n, .int .i64 z.b.d, .int .i64 z.c.n, .int .i64 z.c.d] 45) HVI.out))
          dsimp only
          go_wp2_with fail
          (with_reducible refine (HSG.out _ (HT.out.of (by (repeat' (first | (with_reducible first | apply Zl1 | apply Zl2 | apply Zl3 | apply Zl4 | apply Zl5 | apply Zl6 | apply Zl7 | apply Zl8 | apply Zl9 | apply Zla | apply Zlb | apply Zlc) | (dsimp only; with_reducible first | apply Zl8 | apply Zl2 | apply Zld) | with_reducible assumption | omega | (dsimp only; omega)))))).mono ?_)
          rintro _ _ ⟨rfl, v3, rfl⟩
          have hv3s := v3.size_le
          have HV3 := Lib.hid (obj_bel v3 (obj_alloc (.cells (#[.int .i64 r.a.n, .int .i64 r.a.d, .int .i64 r.b.n, .int .i64 r.b.d, .int .i64 r.c.n, .int .i64 r.c.d]) 45) HV2.out))
          have HXI := Lib.hid (obj_bel v3 (obj_alloc (.cells (#[.int .i64 r.a.n, .int .i64 r.a.d, .int .i64 r.b.n, .int .i64 r.b.d, .int .i64 r.c.n, .int .i64 r.c.d]) 45) HWI.out))
          clear c0 c1
          obtain ⟨c0, c1⟩ := cell2 HXI.out
          dsimp only
          go_wp2_with ((with_reducible refine wpList_isU rfl ?_); refine wpList_ldU rfl _ rfl _ rfl c (n : Int) (by with_reducible exact HV3.out) ?_)
          (with_reducible refine (HDIR.out _ (HT.out.of (by (repeat' (first | (with_reducible first | apply Zl1 | apply Zl2 | apply Zl3 | apply Zl4 | apply Zl5 | apply Zl6 | apply Zl7 | apply Zl8 | apply Zl9 | apply Zla | apply Zlb | apply Zlc) | (dsimp only; with_reducible first | apply Zl8 | apply Zl2 | apply Zld) | with_reducible assumption | omega | (dsimp only; omega)))))).mono ?_)
          rintro _ _ ⟨rfl, v4, rfl⟩
          have hv4s := v4.size_le
          dsimp only
          go_wp2
          go_ret
          exact Ret.mk (by rfl) (by (repeat' (first | (with_reducible first | apply Zl1 | apply Zl2 | apply Zl3 | apply Zl4 | apply Zl5 | apply Zl6 | apply Zl7 | apply Zl8 | apply Zl9 | apply Zla | apply Zlb | apply Zlc) | (dsimp only; with_reducible first | apply Zl8 | apply Zl2 | apply Zld) | with_reducible assumption | omega | (dsimp only; omega))))
      | some s =>
        cases her : erM c k m (puS m) with
        | none =>
          rw [her, oV_none] at HE
          have HSG := Lib.hid (fun w' hT => isign_any zS w' hT)
          rw [show sgS zS = 0 by decide +kernel, show zS.chk = 2 by decide +kernel, show zS.V = .agg #[.int .i64 0, .int .i64 0, .int .i64 0, .int .i64 0, .int .i64 0, .int .i64 0] from rfl] at HSG
          clear her HDE hbt
          generalize dirD m (btM c l (l + m)) = dq at *
          generalize oE (btM c l (l + m)) = eq at *
          rw [szV] at HR HE
          generalize puS m = z at *
          go_wp2_with fail
          (with_reducible refine (HR.out _).mono ?_)
          rintro _ _ ⟨rfl, v1, rfl⟩
          have hv1s := v1.size_le
          have HV1 := Lib.hid (obj_bel v1 HT2.out)
          have HVI := Lib.hid (obj_bel v1 HI2.out)
          clear c0 c1
          obtain ⟨c0, c1⟩ := cell2 HVI.out
          dsimp only
          go_wp2_with ((with_reducible refine wpList_isV rfl ?_); refine wpList_ldV rfl _ rfl _ rfl c (n : Int) (by with_reducible exact (obj_alloc _ HV1.out)) ?_)
          (with_reducible refine (HE.out _ (HT.out.of (by (repeat' (first | (with_reducible first | apply Zl1 | apply Zl2 | apply Zl3 | apply Zl4 | apply Zl5 | apply Zl6 | apply Zl7 | apply Zl8 | apply Zl9 | apply Zla | apply Zlb | apply Zlc) | (dsimp only; with_reducible first | apply Zl8 | apply Zl2 | apply Zld) | with_reducible assumption | omega | (dsimp only; omega)))))).mono ?_)
          rintro _ _ ⟨rfl, v2, rfl⟩
          have hv2s := v2.size_le
          have HV2 := Lib.hid (obj_bel v2 (obj_alloc (.cells #[.int .i64 z.a.n, .int .i64 z.a.d, .int .i64 z.b.n, .int .i64 z.b.d, .int .i64 z.c.n, .int .i64 z.c.d] 45) HV1.out))
          have HWI := Lib.hid (obj_bel v2 (obj_alloc (.cells #[.int .i64 z.a.n, .int .i64 z.a.d, .int .i64 z.b.n, .int .i64 z.b.d, .int .i64 z.c.n, .int .i64 z.c.d] 45) HVI.out))
          dsimp only
          go_wp2_with fail
          (with_reducible refine (HSG.out _ (HT.out.of (by (repeat' (first | (with_reducible first | apply Zl1 | apply Zl2 | apply Zl3 | apply Zl4 | apply Zl5 | apply Zl6 | apply Zl7 | apply Zl8 | apply Zl9 | apply Zla | apply Zlb | apply Zlc) | (dsimp only; with_reducible first | apply Zl8 | apply Zl2 | apply Zld) | with_reducible assumption | omega | (dsimp only; omega)))))).mono ?_)
          rintro _ _ ⟨rfl, v3, rfl⟩
          have hv3s := v3.size_le
          have HV3 := Lib.hid (obj_bel v3 (obj_alloc (.cells (#[.int .i64 0, .int .i64 0, .int .i64 0, .int .i64 0, .int .i64 0, .int .i64 0]) 45) HV2.out))
          have HXI := Lib.hid (obj_bel v3 (obj_alloc (.cells (#[.int .i64 0, .int .i64 0, .int .i64 0, .int .i64 0, .int .i64 0, .int .i64 0]) 45) HWI.out))
          clear c0 c1
          obtain ⟨c0, c1⟩ := cell2 HXI.out
          dsimp only
          go_wp2_with ((with_reducible refine wpList_isU rfl ?_); refine wpList_ldU rfl _ rfl _ rfl c (n : Int) (by with_reducible exact HV3.out) ?_)
          (with_reducible refine (HDIR.out _ (HT.out.of (by (repeat' (first | (with_reducible first | apply Zl1 | apply Zl2 | apply Zl3 | apply Zl4 | apply Zl5 | apply Zl6 | apply Zl7 | apply Zl8 | apply Zl9 | apply Zla | apply Zlb | apply Zlc) | (dsimp only; with_reducible first | apply Zl8 | apply Zl2 | apply Zld) | with_reducible assumption | omega | (dsimp only; omega)))))).mono ?_)
          rintro _ _ ⟨rfl, v4, rfl⟩
          have hv4s := v4.size_le
          dsimp only
          go_wp2
          go_ret
          exact Ret.mk (by rfl) (by (repeat' (first | (with_reducible first | apply Zl1 | apply Zl2 | apply Zl3 | apply Zl4 | apply Zl5 | apply Zl6 | apply Zl7 | apply Zl8 | apply Zl9 | apply Zla | apply Zlb | apply Zlc) | (dsimp only; with_reducible first | apply Zl8 | apply Zl2 | apply Zld) | with_reducible assumption | omega | (dsimp only; omega))))
        | some r =>
          have HBS := Lib.hid hbt
          obtain ⟨hd, hrc⟩ := HDE.out s r hbt her
          have HSG := Lib.hid (fun w' hT => isign_any r w' hT)
          rw [hrc] at HSG
          rw [her, oV_some] at HE
          rw [hbt, show dirD m (some s) = cmS s (puS m) from rfl, show oE (some s) = 0 from rfl] at HDIR
          rw [← hd] at HSG
          rw [szV] at HSG HR HE
          have hd3 := cmS_cases s (puS m)
          have HBD := Lib.hid (fun (u x : Sz) (a b e f : Nat) (h2 : btM c 69 t = some u) (h3 : btM c 69 l = some x) (b1 : Bnd u a b) (b2 : Bnd x e f) => beat_dir (pitch := n) HM.out hbt (by rw [HTT.out]; exact h2) h3 b1 b2 hn1)
          have HBX := Lib.hid (fun X Y (hBN : BtN c l m n X Y) => hBN.dir HM.out hn1 hbt)
          have HUPX := Lib.hid (fun X Y X' Y' (h : BtN c l m n X Y) (h' : BtN c u m n X' Y') (hl : u + m ≤ 127) => h.up (by rw [HUU.out]; exact h') HM.out hn1 (by have := HUU.out; omega))
          have HKB := Lib.hid (fun (x : Int) (k : Nat) (hx : x = pI m ∨ x = qI m) (hk : k ≤ 128000001) => pq_bd HM.out hx hn2 hk)
          have HCC := Lib.hid (clo_cases c)
          clear hd hrc her hbt HDE
          generalize hdd : cmS s (puS m) = dv at *
          have HDD := Lib.hid hdd
          clear hdd
          generalize puS m = z at *
          go_wp2_with fail
          (with_reducible refine (HR.out _).mono ?_)
          rintro _ _ ⟨rfl, v1, rfl⟩
          have hv1s := v1.size_le
          have HV1 := Lib.hid (obj_bel v1 HT2.out)
          have HVI := Lib.hid (obj_bel v1 HI2.out)
          clear c0 c1
          obtain ⟨c0, c1⟩ := cell2 HVI.out
          dsimp only
          go_wp2_with ((with_reducible refine wpList_isV rfl ?_); refine wpList_ldV rfl _ rfl _ rfl c (n : Int) (by with_reducible exact (obj_alloc _ HV1.out)) ?_)
          (with_reducible refine (HE.out _ (HT.out.of (by (repeat' (first | (with_reducible first | apply Zl1 | apply Zl2 | apply Zl3 | apply Zl4 | apply Zl5 | apply Zl6 | apply Zl7 | apply Zl8 | apply Zl9 | apply Zla | apply Zlb | apply Zlc) | (dsimp only; with_reducible first | apply Zl8 | apply Zl2 | apply Zld) | with_reducible assumption | omega | (dsimp only; omega)))))).mono ?_)
          rintro _ _ ⟨rfl, v2, rfl⟩
          have hv2s := v2.size_le
          have HV2 := Lib.hid (obj_bel v2 (obj_alloc (.cells #[.int .i64 z.a.n, .int .i64 z.a.d, .int .i64 z.b.n, .int .i64 z.b.d, .int .i64 z.c.n, .int .i64 z.c.d] 45) HV1.out))
          have HWI := Lib.hid (obj_bel v2 (obj_alloc (.cells #[.int .i64 z.a.n, .int .i64 z.a.d, .int .i64 z.b.n, .int .i64 z.b.d, .int .i64 z.c.n, .int .i64 z.c.d] 45) HVI.out))
          dsimp only
          go_wp2_with fail
          (with_reducible refine (HSG.out _ (HT.out.of (by (repeat' (first | (with_reducible first | apply Zl1 | apply Zl2 | apply Zl3 | apply Zl4 | apply Zl5 | apply Zl6 | apply Zl7 | apply Zl8 | apply Zl9 | apply Zla | apply Zlb | apply Zlc) | (dsimp only; with_reducible first | apply Zl8 | apply Zl2 | apply Zld) | with_reducible assumption | omega | (dsimp only; omega)))))).mono ?_)
          rintro _ _ ⟨rfl, v3, rfl⟩
          have hv3s := v3.size_le
          have HV3 := Lib.hid (obj_bel v3 (obj_alloc (.cells #[.int .i64 r.a.n, .int .i64 r.a.d, .int .i64 r.b.n, .int .i64 r.b.d, .int .i64 r.c.n, .int .i64 r.c.d] 45) HV2.out))
          have HXI := Lib.hid (obj_bel v3 (obj_alloc (.cells #[.int .i64 r.a.n, .int .i64 r.a.d, .int .i64 r.b.n, .int .i64 r.b.d, .int .i64 r.c.n, .int .i64 r.c.d] 45) HWI.out))
          clear c0 c1
          obtain ⟨c0, c1⟩ := cell2 HXI.out
          dsimp only
          go_wp2_with ((with_reducible refine wpList_isU rfl ?_); refine wpList_ldU rfl _ rfl _ rfl c (n : Int) (by with_reducible exact HV3.out) ?_)
          (with_reducible refine (HDIR.out _ (HT.out.of (by (repeat' (first | (with_reducible first | apply Zl1 | apply Zl2 | apply Zl3 | apply Zl4 | apply Zl5 | apply Zl6 | apply Zl7 | apply Zl8 | apply Zl9 | apply Zla | apply Zlb | apply Zlc) | (dsimp only; with_reducible first | apply Zl8 | apply Zl2 | apply Zld) | with_reducible assumption | omega | (dsimp only; omega)))))).mono ?_)
          rintro _ _ ⟨rfl, v4, rfl⟩
          have hv4s := v4.size_le
          have hd2 := obj_bel v4 HV3.out
          have hdi := obj_bel v4 HXI.out
          have hb9 : Below w.heap.size w v4.w := by (repeat' (first | (with_reducible first | apply Zl1 | apply Zl2 | apply Zl3 | apply Zl4 | apply Zl5 | apply Zl6 | apply Zl7 | apply Zl8 | apply Zl9 | apply Zla | apply Zlb | apply Zlc) | (dsimp only; with_reducible first | apply Zl8 | apply Zl2 | apply Zld) | with_reducible assumption | omega | (dsimp only; omega)))
          dsimp only
          obtain ⟨V, hV⟩ : ∃ V, v4.w = V := ⟨_, rfl⟩
          rw [hV] at hd2 hdi hb9 ⊢
          have hd2l := obj_lt hd2
          have hdil := obj_lt hdi
          have hV9 := hb9.size
          have HD2 := Lib.hid hd2
          have HDI := Lib.hid hdi
          have HB9 := Lib.hid hb9
          clear hV hd2 hdi c0 c1 hv1s hv2s hv3s hv4s HV1 HV2 HV3 HVI HWI HXI HSG HDIR HE HR hxs hys HT1 HT2 HI1 HI2 HT0 HI0
          clear v4
          obtain ⟨c0, c1⟩ := cell2 HDI.out
          rcases hd3 with rfl | rfl | rfl
          · have hne := run_ne_bnd
            have hgn := guardN_bnd
            go_wp2_with ((with_reducible refine wpList_isU rfl ?_); refine wpList_ldU rfl _ rfl _ rfl c (n : Int) (by with_reducible exact HD2.out) ?_)
            (with_reducible refine (HBE.out _ (HT.out.of (by (repeat' (first | (with_reducible first | apply Zl1 | apply Zl2 | apply Zl3 | apply Zl4 | apply Zl5 | apply Zl6 | apply Zl7 | apply Zl8 | apply Zl9 | apply Zla | apply Zlb | apply Zlc) | (dsimp only; with_reducible first | apply Zl8 | apply Zl2 | apply Zld) | with_reducible assumption | omega | (dsimp only; omega)))))).mono ?_)
            rintro _ _ ⟨⟨bb, rfl⟩, h⟩
            have hbbs := bb.size_le
            have HBT := Lib.hid (obj_bel bb HD2.out)
            have HBI := Lib.hid (obj_bel bb HDI.out)
            clear c0 c1
            obtain ⟨c0, c1⟩ := cell2 HBI.out
            rcases h with ⟨er, her, _, rfl⟩ | ⟨X, Y, hBN, rfl⟩
            · have he0 : (er != 0) = true := by rw [bne_iff_ne]; exact her
              have he1 : (er == 0) = false := by rw [beq_eq_false_iff_ne]; exact her
              clear her
              dsimp only
              go_wp2_with ((with_reducible refine wpList_isU rfl ?_); refine wpList_ldU rfl _ rfl _ rfl c (n : Int) (by with_reducible exact (obj_alloc _ HBT.out)) ?_)
              (with_reducible refine (HW1.out _ (HT.out.of (by (repeat' (first | (with_reducible first | apply Zl1 | apply Zl2 | apply Zl3 | apply Zl4 | apply Zl5 | apply Zl6 | apply Zl7 | apply Zl8 | apply Zl9 | apply Zla | apply Zlb | apply Zlc) | (dsimp only; with_reducible first | apply Zl8 | apply Zl2 | apply Zld) | with_reducible assumption | omega | (dsimp only; omega)))))).mono ?_)
              rintro _ _ ⟨a1, b1, e1, rfl, f1, rfl⟩
              have hf1s := f1.size_le
              have HG1 := Lib.hid (obj_bel f1 (obj_alloc (.cells #[.int .i64 0, .int .i64 0] 53) HBT.out))
              have HGI := Lib.hid (obj_bel f1 (obj_alloc (.cells #[.int .i64 0, .int .i64 0] 53) HBI.out))
              clear c0 c1
              obtain ⟨c0, c1⟩ := cell2 HGI.out
              dsimp only
              go_wp2_with ((with_reducible refine wpList_isU rfl ?_); refine wpList_ldU rfl _ rfl _ rfl c (n : Int) (by with_reducible exact (obj_alloc _ HG1.out)) ?_)
              (with_reducible refine (HW2.out _ (HT.out.of (by (repeat' (first | (with_reducible first | apply Zl1 | apply Zl2 | apply Zl3 | apply Zl4 | apply Zl5 | apply Zl6 | apply Zl7 | apply Zl8 | apply Zl9 | apply Zla | apply Zlb | apply Zlc) | (dsimp only; with_reducible first | apply Zl8 | apply Zl2 | apply Zld) | with_reducible assumption | omega | (dsimp only; omega)))))).mono ?_)
              rintro _ _ ⟨a2, b2, e2, rfl, f2, rfl⟩
              have hf2s := f2.size_le
              dsimp only
              go_wp2
              go_ret
              exact Ret.mk (by rfl) (by (repeat' (first | (with_reducible first | apply Zl1 | apply Zl2 | apply Zl3 | apply Zl4 | apply Zl5 | apply Zl6 | apply Zl7 | apply Zl8 | apply Zl9 | apply Zla | apply Zlb | apply Zlc) | (dsimp only; with_reducible first | apply Zl8 | apply Zl2 | apply Zld) | with_reducible assumption | omega | (dsimp only; omega))))
            · have HXY := Lib.hid hBN
              obtain ⟨x1, x2, y1, y2⟩ := hBN.bd HM.out hn2
              have hxlow := hBN.low
              (obtain ⟨rfl, rfl⟩ : X = 0 ∧ Y = 0 := by have h := (HBX.out X Y hBN).1; first | exact h rfl | exact h trivial | simpa using h)
              clear hBN
              dsimp only
              go_wp2_with ((with_reducible refine wpList_isU rfl ?_); refine wpList_ldU rfl _ rfl _ rfl c (n : Int) (by with_reducible exact (obj_alloc _ HBT.out)) ?_)
              (with_reducible refine (HF1.out _ (HT.out.of (by (repeat' (first | (with_reducible first | apply Zl1 | apply Zl2 | apply Zl3 | apply Zl4 | apply Zl5 | apply Zl6 | apply Zl7 | apply Zl8 | apply Zl9 | apply Zla | apply Zlb | apply Zlc) | (dsimp only; with_reducible first | apply Zl8 | apply Zl2 | apply Zld) | with_reducible assumption | omega | (dsimp only; omega)))))).mono ?_)
              rintro _ _ ⟨⟨f1, rfl⟩, h⟩
              have hf1s := f1.size_le
              have HG1 := Lib.hid (obj_bel f1 (obj_alloc (.cells #[.int .i64 0, .int .i64 0] 53) HBT.out))
              have HGI := Lib.hid (obj_bel f1 (obj_alloc (.cells #[.int .i64 0, .int .i64 0] 53) HBI.out))
              have HGB := Lib.hid (obj_bel f1 (obj_new bb.w (.cells #[.int .i64 0, .int .i64 0] 53)))
              clear c0 c1
              obtain ⟨c0, c1⟩ := cell2 HGI.out
              rcases h with ⟨er, her, _, rfl⟩ | ⟨sl, ll, lh, hsl, hbl, rfl⟩
              · have he0 : (er != 0) = true := by rw [bne_iff_ne]; exact her
                clear her
                dsimp only
                go_wp2_with ((with_reducible refine wpList_isU rfl ?_); refine wpList_ldU rfl _ rfl _ rfl c (n : Int) (by with_reducible exact (obj_alloc _ HG1.out)) ?_)
                (with_reducible refine (HW2.out _ (HT.out.of (by (repeat' (first | (with_reducible first | apply Zl1 | apply Zl2 | apply Zl3 | apply Zl4 | apply Zl5 | apply Zl6 | apply Zl7 | apply Zl8 | apply Zl9 | apply Zla | apply Zlb | apply Zlc) | (dsimp only; with_reducible first | apply Zl8 | apply Zl2 | apply Zld) | with_reducible assumption | omega | (dsimp only; omega)))))).mono ?_)
                rintro _ _ ⟨a2, b2, e2, rfl, f2, rfl⟩
                have hf2s := f2.size_le
                dsimp only
                go_wp2
                go_ret
                exact Ret.mk (by rfl) (by (repeat' (first | (with_reducible first | apply Zl1 | apply Zl2 | apply Zl3 | apply Zl4 | apply Zl5 | apply Zl6 | apply Zl7 | apply Zl8 | apply Zl9 | apply Zla | apply Zlb | apply Zlc) | (dsimp only; with_reducible first | apply Zl8 | apply Zl2 | apply Zld) | with_reducible assumption | omega | (dsimp only; omega))))
              · have HSL := Lib.hid hsl
                have HBL := Lib.hid hbl
                clear hsl hbl
                dsimp only
                go_wp2_with ((with_reducible refine wpList_isU rfl ?_); refine wpList_ldU rfl _ rfl _ rfl c (n : Int) (by with_reducible exact (obj_alloc _ HG1.out)) ?_)
                (with_reducible refine (HF2.out _ (HT.out.of (by (repeat' (first | (with_reducible first | apply Zl1 | apply Zl2 | apply Zl3 | apply Zl4 | apply Zl5 | apply Zl6 | apply Zl7 | apply Zl8 | apply Zl9 | apply Zla | apply Zlb | apply Zlc) | (dsimp only; with_reducible first | apply Zl8 | apply Zl2 | apply Zld) | with_reducible assumption | omega | (dsimp only; omega)))))).mono ?_)
                rintro _ _ ⟨⟨f2, rfl⟩, h⟩
                have hf2s := f2.size_le
                have HH1 := Lib.hid (obj_bel f2 (obj_alloc (.cells #[.int .i64 ((n : Int) * (ll : Nat)), .int .i64 ((n : Int) * (lh : Nat))] 53) HG1.out))
                have HHI := Lib.hid (obj_bel f2 (obj_alloc (.cells #[.int .i64 ((n : Int) * (ll : Nat)), .int .i64 ((n : Int) * (lh : Nat))] 53) HGI.out))
                have HHB := Lib.hid (obj_bel f2 (obj_alloc (.cells #[.int .i64 ((n : Int) * (ll : Nat)), .int .i64 ((n : Int) * (lh : Nat))] 53) HGB.out))
                have HHL := Lib.hid (obj_bel f2 (obj_new f1.w (.cells #[.int .i64 ((n : Int) * (ll : Nat)), .int .i64 ((n : Int) * (lh : Nat))] 53)))
                clear c0 c1
                obtain ⟨c0, c1⟩ := cell2 HHI.out
                rcases h with ⟨er, her, _, rfl⟩ | ⟨su, ul, uh, hsu, hbu, rfl⟩
                · have he0 : (er != 0) = true := by rw [bne_iff_ne]; exact her
                  clear her
                  dsimp only
                  go_wp2
                  go_ret
                  exact Ret.mk (by rfl) (by (repeat' (first | (with_reducible first | apply Zl1 | apply Zl2 | apply Zl3 | apply Zl4 | apply Zl5 | apply Zl6 | apply Zl7 | apply Zl8 | apply Zl9 | apply Zla | apply Zlb | apply Zlc) | (dsimp only; with_reducible first | apply Zl8 | apply Zl2 | apply Zld) | with_reducible assumption | omega | (dsimp only; omega))))
                · have k1 := HKB.out (pI m) ll (.inl rfl) (by have := HBL.out.le; omega)
                  have k2 := HKB.out (pI m) lh (.inl rfl) (by have := HBL.out.le; omega)
                  have k3 := HKB.out (qI m) ul (.inr rfl) (by have := hbu.le; omega)
                  have k4 := HKB.out (qI m) uh (.inr rfl) (by have := hbu.le; omega)
                  have hcm := HBD.out su sl ul uh ll lh hsu HSL.out hbu HBL.out
                  skip
                  clear hsu hbu hcm
                  obtain ⟨g0, g1⟩ := cell2 HHL.out
                  obtain ⟨s0, s1⟩ := cell2 HHB.out
                  have hcl : (closesC c = false ∧ oE (reM c) = 4) ∨ (closesC c = true ∧ oE (reM c) = 0) ∨ (closesC c = false ∧ oE (reM c) = 0) := HCC.out
                  generalize (n : Int) * (ll : Nat) = ell at *
                  generalize (n : Int) * (lh : Nat) = elh at *
                  generalize (n : Int) * (ul : Nat) = eul at *
                  generalize (n : Int) * (uh : Nat) = euh at *
                  generalize hg1 : (pI m : Int) * ell = t1 at *
                  generalize hg2 : (pI m : Int) * elh = t2 at *
                  generalize hg3 : (qI m : Int) * eul = t3 at *
                  generalize hg4 : (qI m : Int) * euh = t4 at *
                  skip
                  dsimp only
                  go_wp2_with ((with_reducible refine wpList_isU rfl ?_); refine wpList_ldU rfl _ rfl _ rfl c (n : Int) (by with_reducible exact (obj_alloc _ HH1.out)) ?_)
                  by_cases hfar : 127 < u + m
                  · (with_reducible refine (HUF.out _ hfar).mono ?_)
                    rintro _ _ ⟨rfl, f3, rfl⟩
                    have hf3s := f3.size_le
                    have HJ1 := Lib.hid (obj_bel f3 (obj_alloc (.cells #[.int .i64 eul, .int .i64 euh] 53) HH1.out))
                    dsimp only
                    -- Closes, then the law's last line
                    rcases hcl with ⟨hc1, hc2⟩ | ⟨hc1, hc2⟩ | ⟨hc1, hc2⟩
                    · have HCX := Lib.hid (fun w' => (show Calls Tryz.prog 16 #[.agg (cirA c)] w' (Ret (.tuple #[.bool false, .int .i64 4]) w') by have h := HCL.out w'; rw [hc1, hc2] at h; exact h))
                      clear hc1 hc2
                      go_wp2_with ((with_reducible refine wpList_isV rfl ?_); refine wpList_ldV rfl _ rfl _ rfl c (n : Int) (by with_reducible exact (obj_alloc _ HJ1.out)) ?_)
                      (with_reducible refine (HCX.out _).mono ?_)
                      rintro _ _ ⟨rfl, f4, rfl⟩
                      have hf4s := f4.size_le
                      dsimp only
                      go_wp2
                      go_ret
                      exact Ret.mk (by rfl) (by (repeat' (first | (with_reducible first | apply Zl1 | apply Zl2 | apply Zl3 | apply Zl4 | apply Zl5 | apply Zl6 | apply Zl7 | apply Zl8 | apply Zl9 | apply Zla | apply Zlb | apply Zlc) | (dsimp only; with_reducible first | apply Zl8 | apply Zl2 | apply Zld) | with_reducible assumption | omega | (dsimp only; omega))))
                    · have HCX := Lib.hid (fun w' => (show Calls Tryz.prog 16 #[.agg (cirA c)] w' (Ret (.tuple #[.bool true, .int .i64 0]) w') by have h := HCL.out w'; rw [hc1, hc2] at h; exact h))
                      clear hc1 hc2
                      go_wp2_with ((with_reducible refine wpList_isV rfl ?_); refine wpList_ldV rfl _ rfl _ rfl c (n : Int) (by with_reducible exact (obj_alloc _ HJ1.out)) ?_)
                      (with_reducible refine (HCX.out _).mono ?_)
                      rintro _ _ ⟨rfl, f4, rfl⟩
                      have hf4s := f4.size_le
                      dsimp only
                      go_wp2
                      go_ret
                      exact Ret.mk (by rfl) (by (repeat' (first | (with_reducible first | apply Zl1 | apply Zl2 | apply Zl3 | apply Zl4 | apply Zl5 | apply Zl6 | apply Zl7 | apply Zl8 | apply Zl9 | apply Zla | apply Zlb | apply Zlc) | (dsimp only; with_reducible first | apply Zl8 | apply Zl2 | apply Zld) | with_reducible assumption | omega | (dsimp only; omega))))
                    · have HCX := Lib.hid (fun w' => (show Calls Tryz.prog 16 #[.agg (cirA c)] w' (Ret (.tuple #[.bool false, .int .i64 0]) w') by have h := HCL.out w'; rw [hc1, hc2] at h; exact h))
                      clear hc1 hc2
                      go_wp2_with ((with_reducible refine wpList_isV rfl ?_); refine wpList_ldV rfl _ rfl _ rfl c (n : Int) (by with_reducible exact (obj_alloc _ HJ1.out)) ?_)
                      (with_reducible refine (HCX.out _).mono ?_)
                      rintro _ _ ⟨rfl, f4, rfl⟩
                      have hf4s := f4.size_le
                      dsimp only
                      go_wp2
                      go_ret
                      exact Ret.mk (by rfl) (by (repeat' (first | (with_reducible first | apply Zl1 | apply Zl2 | apply Zl3 | apply Zl4 | apply Zl5 | apply Zl6 | apply Zl7 | apply Zl8 | apply Zl9 | apply Zla | apply Zlb | apply Zlc) | (dsimp only; with_reducible first | apply Zl8 | apply Zl2 | apply Zld) | with_reducible assumption | omega | (dsimp only; omega))))
                  · (with_reducible refine (HUB.out _ (by omega) (HT.out.of (by (repeat' (first | (with_reducible first | apply Zl1 | apply Zl2 | apply Zl3 | apply Zl4 | apply Zl5 | apply Zl6 | apply Zl7 | apply Zl8 | apply Zl9 | apply Zla | apply Zlb | apply Zlc) | (dsimp only; with_reducible first | apply Zl8 | apply Zl2 | apply Zld) | with_reducible assumption | omega | (dsimp only; omega)))))).mono ?_)
                    rintro _ _ ⟨⟨f3, rfl⟩, h⟩
                    have hf3s := f3.size_le
                    have HJ1 := Lib.hid (obj_bel f3 (obj_alloc (.cells #[.int .i64 eul, .int .i64 euh] 53) HH1.out))
                    have HJB := Lib.hid (obj_bel f3 (obj_alloc (.cells #[.int .i64 eul, .int .i64 euh] 53) HHB.out))
                    clear s0 s1
                    obtain ⟨s0, s1⟩ := cell2 HJB.out
                    rcases h with ⟨er, her, _, rfl⟩ | ⟨X2, Y2, hBN2, rfl⟩
                    · have he0 : (er != 0) = true := by rw [bne_iff_ne]; exact her
                      clear her
                      dsimp only
                      -- Closes, then the law's last line
                      rcases hcl with ⟨hc1, hc2⟩ | ⟨hc1, hc2⟩ | ⟨hc1, hc2⟩
                      · have HCX := Lib.hid (fun w' => (show Calls Tryz.prog 16 #[.agg (cirA c)] w' (Ret (.tuple #[.bool false, .int .i64 4]) w') by have h := HCL.out w'; rw [hc1, hc2] at h; exact h))
                        clear hc1 hc2
                        go_wp2_with ((with_reducible refine wpList_isV rfl ?_); refine wpList_ldV rfl _ rfl _ rfl c (n : Int) (by with_reducible exact (obj_alloc _ HJ1.out)) ?_)
                        (with_reducible refine (HCX.out _).mono ?_)
                        rintro _ _ ⟨rfl, f4, rfl⟩
                        have hf4s := f4.size_le
                        dsimp only
                        go_wp2
                        go_ret
                        exact Ret.mk (by rfl) (by (repeat' (first | (with_reducible first | apply Zl1 | apply Zl2 | apply Zl3 | apply Zl4 | apply Zl5 | apply Zl6 | apply Zl7 | apply Zl8 | apply Zl9 | apply Zla | apply Zlb | apply Zlc) | (dsimp only; with_reducible first | apply Zl8 | apply Zl2 | apply Zld) | with_reducible assumption | omega | (dsimp only; omega))))
                      · have HCX := Lib.hid (fun w' => (show Calls Tryz.prog 16 #[.agg (cirA c)] w' (Ret (.tuple #[.bool true, .int .i64 0]) w') by have h := HCL.out w'; rw [hc1, hc2] at h; exact h))
                        clear hc1 hc2
                        go_wp2_with ((with_reducible refine wpList_isV rfl ?_); refine wpList_ldV rfl _ rfl _ rfl c (n : Int) (by with_reducible exact (obj_alloc _ HJ1.out)) ?_)
                        (with_reducible refine (HCX.out _).mono ?_)
                        rintro _ _ ⟨rfl, f4, rfl⟩
                        have hf4s := f4.size_le
                        dsimp only
                        go_wp2
                        go_ret
                        exact Ret.mk (by rfl) (by (repeat' (first | (with_reducible first | apply Zl1 | apply Zl2 | apply Zl3 | apply Zl4 | apply Zl5 | apply Zl6 | apply Zl7 | apply Zl8 | apply Zl9 | apply Zla | apply Zlb | apply Zlc) | (dsimp only; with_reducible first | apply Zl8 | apply Zl2 | apply Zld) | with_reducible assumption | omega | (dsimp only; omega))))
                      · have HCX := Lib.hid (fun w' => (show Calls Tryz.prog 16 #[.agg (cirA c)] w' (Ret (.tuple #[.bool false, .int .i64 0]) w') by have h := HCL.out w'; rw [hc1, hc2] at h; exact h))
                        clear hc1 hc2
                        go_wp2_with ((with_reducible refine wpList_isV rfl ?_); refine wpList_ldV rfl _ rfl _ rfl c (n : Int) (by with_reducible exact (obj_alloc _ HJ1.out)) ?_)
                        (with_reducible refine (HCX.out _).mono ?_)
                        rintro _ _ ⟨rfl, f4, rfl⟩
                        have hf4s := f4.size_le
                        dsimp only
                        go_wp2
                        go_ret
                        exact Ret.mk (by rfl) (by (repeat' (first | (with_reducible first | apply Zl1 | apply Zl2 | apply Zl3 | apply Zl4 | apply Zl5 | apply Zl6 | apply Zl7 | apply Zl8 | apply Zl9 | apply Zla | apply Zlb | apply Zlc) | (dsimp only; with_reducible first | apply Zl8 | apply Zl2 | apply Zld) | with_reducible assumption | omega | (dsimp only; omega))))
                    · obtain ⟨x21, x22, y21, y22⟩ := hBN2.bd HM.out hn2
                      obtain ⟨up1, up2⟩ := HUPX.out _ _ X2 Y2 HXY.out hBN2 (by omega)
                      clear hBN2
                      have up3 : 0 ≤ Y2 := by omega
                      dsimp only
                      -- Closes, then the law's last line
                      rcases hcl with ⟨hc1, hc2⟩ | ⟨hc1, hc2⟩ | ⟨hc1, hc2⟩
                      · have HCX := Lib.hid (fun w' => (show Calls Tryz.prog 16 #[.agg (cirA c)] w' (Ret (.tuple #[.bool false, .int .i64 4]) w') by have h := HCL.out w'; rw [hc1, hc2] at h; exact h))
                        clear hc1 hc2
                        go_wp2_with ((with_reducible refine wpList_isV rfl ?_); refine wpList_ldV rfl _ rfl _ rfl c (n : Int) (by with_reducible exact (obj_alloc _ HJ1.out)) ?_)
                        (with_reducible refine (HCX.out _).mono ?_)
                        rintro _ _ ⟨rfl, f4, rfl⟩
                        have hf4s := f4.size_le
                        dsimp only
                        go_wp2
                        go_ret
                        exact Ret.mk (by rfl) (by (repeat' (first | (with_reducible first | apply Zl1 | apply Zl2 | apply Zl3 | apply Zl4 | apply Zl5 | apply Zl6 | apply Zl7 | apply Zl8 | apply Zl9 | apply Zla | apply Zlb | apply Zlc) | (dsimp only; with_reducible first | apply Zl8 | apply Zl2 | apply Zld) | with_reducible assumption | omega | (dsimp only; omega))))
                      · have HCX := Lib.hid (fun w' => (show Calls Tryz.prog 16 #[.agg (cirA c)] w' (Ret (.tuple #[.bool true, .int .i64 0]) w') by have h := HCL.out w'; rw [hc1, hc2] at h; exact h))
                        clear hc1 hc2
                        go_wp2_with ((with_reducible refine wpList_isV rfl ?_); refine wpList_ldV rfl _ rfl _ rfl c (n : Int) (by with_reducible exact (obj_alloc _ HJ1.out)) ?_)
                        (with_reducible refine (HCX.out _).mono ?_)
                        rintro _ _ ⟨rfl, f4, rfl⟩
                        have hf4s := f4.size_le
                        dsimp only
                        go_wp2
                        go_ret
                        exact Ret.mk (by rfl) (by (repeat' (first | (with_reducible first | apply Zl1 | apply Zl2 | apply Zl3 | apply Zl4 | apply Zl5 | apply Zl6 | apply Zl7 | apply Zl8 | apply Zl9 | apply Zla | apply Zlb | apply Zlc) | (dsimp only; with_reducible first | apply Zl8 | apply Zl2 | apply Zld) | with_reducible assumption | omega | (dsimp only; omega))))
                      · have HCX := Lib.hid (fun w' => (show Calls Tryz.prog 16 #[.agg (cirA c)] w' (Ret (.tuple #[.bool false, .int .i64 0]) w') by have h := HCL.out w'; rw [hc1, hc2] at h; exact h))
                        clear hc1 hc2
                        go_wp2_with ((with_reducible refine wpList_isV rfl ?_); refine wpList_ldV rfl _ rfl _ rfl c (n : Int) (by with_reducible exact (obj_alloc _ HJ1.out)) ?_)
                        (with_reducible refine (HCX.out _).mono ?_)
                        rintro _ _ ⟨rfl, f4, rfl⟩
                        have hf4s := f4.size_le
                        dsimp only
                        go_wp2
                        go_ret
                        exact Ret.mk (by rfl) (by (repeat' (first | (with_reducible first | apply Zl1 | apply Zl2 | apply Zl3 | apply Zl4 | apply Zl5 | apply Zl6 | apply Zl7 | apply Zl8 | apply Zl9 | apply Zla | apply Zlb | apply Zlc) | (dsimp only; with_reducible first | apply Zl8 | apply Zl2 | apply Zld) | with_reducible assumption | omega | (dsimp only; omega))))
          · go_wp2_with ((with_reducible refine wpList_isU rfl ?_); refine wpList_ldU rfl _ rfl _ rfl c (n : Int) (by with_reducible exact HD2.out) ?_)
            (with_reducible refine (HBE.out _ (HT.out.of (by (repeat' (first | (with_reducible first | apply Zl1 | apply Zl2 | apply Zl3 | apply Zl4 | apply Zl5 | apply Zl6 | apply Zl7 | apply Zl8 | apply Zl9 | apply Zla | apply Zlb | apply Zlc) | (dsimp only; with_reducible first | apply Zl8 | apply Zl2 | apply Zld) | with_reducible assumption | omega | (dsimp only; omega)))))).mono ?_)
            rintro _ _ ⟨⟨bb, rfl⟩, h⟩
            have hbbs := bb.size_le
            have HBT := Lib.hid (obj_bel bb HD2.out)
            have HBI := Lib.hid (obj_bel bb HDI.out)
            clear c0 c1
            obtain ⟨c0, c1⟩ := cell2 HBI.out
            rcases h with ⟨er, her, _, rfl⟩ | ⟨X, Y, hBN, rfl⟩
            · have he0 : (er != 0) = true := by rw [bne_iff_ne]; exact her
              have he1 : (er == 0) = false := by rw [beq_eq_false_iff_ne]; exact her
              clear her
              dsimp only
              go_wp2_with ((with_reducible refine wpList_isU rfl ?_); refine wpList_ldU rfl _ rfl _ rfl c (n : Int) (by with_reducible exact (obj_alloc _ HBT.out)) ?_)
              (with_reducible refine (HW1.out _ (HT.out.of (by (repeat' (first | (with_reducible first | apply Zl1 | apply Zl2 | apply Zl3 | apply Zl4 | apply Zl5 | apply Zl6 | apply Zl7 | apply Zl8 | apply Zl9 | apply Zla | apply Zlb | apply Zlc) | (dsimp only; with_reducible first | apply Zl8 | apply Zl2 | apply Zld) | with_reducible assumption | omega | (dsimp only; omega)))))).mono ?_)
              rintro _ _ ⟨a1, b1, e1, rfl, f1, rfl⟩
              have hf1s := f1.size_le
              have HG1 := Lib.hid (obj_bel f1 (obj_alloc (.cells #[.int .i64 0, .int .i64 0] 53) HBT.out))
              have HGI := Lib.hid (obj_bel f1 (obj_alloc (.cells #[.int .i64 0, .int .i64 0] 53) HBI.out))
              clear c0 c1
              obtain ⟨c0, c1⟩ := cell2 HGI.out
              dsimp only
              go_wp2_with ((with_reducible refine wpList_isU rfl ?_); refine wpList_ldU rfl _ rfl _ rfl c (n : Int) (by with_reducible exact (obj_alloc _ HG1.out)) ?_)
              (with_reducible refine (HW2.out _ (HT.out.of (by (repeat' (first | (with_reducible first | apply Zl1 | apply Zl2 | apply Zl3 | apply Zl4 | apply Zl5 | apply Zl6 | apply Zl7 | apply Zl8 | apply Zl9 | apply Zla | apply Zlb | apply Zlc) | (dsimp only; with_reducible first | apply Zl8 | apply Zl2 | apply Zld) | with_reducible assumption | omega | (dsimp only; omega)))))).mono ?_)
              rintro _ _ ⟨a2, b2, e2, rfl, f2, rfl⟩
              have hf2s := f2.size_le
              dsimp only
              go_wp2
              go_ret
              exact Ret.mk (by rfl) (by (repeat' (first | (with_reducible first | apply Zl1 | apply Zl2 | apply Zl3 | apply Zl4 | apply Zl5 | apply Zl6 | apply Zl7 | apply Zl8 | apply Zl9 | apply Zla | apply Zlb | apply Zlc) | (dsimp only; with_reducible first | apply Zl8 | apply Zl2 | apply Zld) | with_reducible assumption | omega | (dsimp only; omega))))
            · have HXY := Lib.hid hBN
              obtain ⟨x1, x2, y1, y2⟩ := hBN.bd HM.out hn2
              have hxlow := hBN.low
              (have hy1 : 1 ≤ Y := by have h := (HBX.out X Y hBN).2; first | exact h (by decide) | exact h trivial | simpa using h)
              clear hBN
              dsimp only
              go_wp2_with ((with_reducible refine wpList_isU rfl ?_); refine wpList_ldU rfl _ rfl _ rfl c (n : Int) (by with_reducible exact (obj_alloc _ HBT.out)) ?_)
              (with_reducible refine (HF1.out _ (HT.out.of (by (repeat' (first | (with_reducible first | apply Zl1 | apply Zl2 | apply Zl3 | apply Zl4 | apply Zl5 | apply Zl6 | apply Zl7 | apply Zl8 | apply Zl9 | apply Zla | apply Zlb | apply Zlc) | (dsimp only; with_reducible first | apply Zl8 | apply Zl2 | apply Zld) | with_reducible assumption | omega | (dsimp only; omega)))))).mono ?_)
              rintro _ _ ⟨⟨f1, rfl⟩, h⟩
              have hf1s := f1.size_le
              have HG1 := Lib.hid (obj_bel f1 (obj_alloc (.cells #[.int .i64 X, .int .i64 Y] 53) HBT.out))
              have HGI := Lib.hid (obj_bel f1 (obj_alloc (.cells #[.int .i64 X, .int .i64 Y] 53) HBI.out))
              have HGB := Lib.hid (obj_bel f1 (obj_new bb.w (.cells #[.int .i64 X, .int .i64 Y] 53)))
              clear c0 c1
              obtain ⟨c0, c1⟩ := cell2 HGI.out
              rcases h with ⟨er, her, _, rfl⟩ | ⟨sl, ll, lh, hsl, hbl, rfl⟩
              · have he0 : (er != 0) = true := by rw [bne_iff_ne]; exact her
                clear her
                dsimp only
                go_wp2_with ((with_reducible refine wpList_isU rfl ?_); refine wpList_ldU rfl _ rfl _ rfl c (n : Int) (by with_reducible exact (obj_alloc _ HG1.out)) ?_)
                (with_reducible refine (HW2.out _ (HT.out.of (by (repeat' (first | (with_reducible first | apply Zl1 | apply Zl2 | apply Zl3 | apply Zl4 | apply Zl5 | apply Zl6 | apply Zl7 | apply Zl8 | apply Zl9 | apply Zla | apply Zlb | apply Zlc) | (dsimp only; with_reducible first | apply Zl8 | apply Zl2 | apply Zld) | with_reducible assumption | omega | (dsimp only; omega)))))).mono ?_)
                rintro _ _ ⟨a2, b2, e2, rfl, f2, rfl⟩
                have hf2s := f2.size_le
                dsimp only
                go_wp2
                go_ret
                exact Ret.mk (by rfl) (by (repeat' (first | (with_reducible first | apply Zl1 | apply Zl2 | apply Zl3 | apply Zl4 | apply Zl5 | apply Zl6 | apply Zl7 | apply Zl8 | apply Zl9 | apply Zla | apply Zlb | apply Zlc) | (dsimp only; with_reducible first | apply Zl8 | apply Zl2 | apply Zld) | with_reducible assumption | omega | (dsimp only; omega))))
              · have HSL := Lib.hid hsl
                have HBL := Lib.hid hbl
                clear hsl hbl
                dsimp only
                go_wp2_with ((with_reducible refine wpList_isU rfl ?_); refine wpList_ldU rfl _ rfl _ rfl c (n : Int) (by with_reducible exact (obj_alloc _ HG1.out)) ?_)
                (with_reducible refine (HF2.out _ (HT.out.of (by (repeat' (first | (with_reducible first | apply Zl1 | apply Zl2 | apply Zl3 | apply Zl4 | apply Zl5 | apply Zl6 | apply Zl7 | apply Zl8 | apply Zl9 | apply Zla | apply Zlb | apply Zlc) | (dsimp only; with_reducible first | apply Zl8 | apply Zl2 | apply Zld) | with_reducible assumption | omega | (dsimp only; omega)))))).mono ?_)
                rintro _ _ ⟨⟨f2, rfl⟩, h⟩
                have hf2s := f2.size_le
                have HH1 := Lib.hid (obj_bel f2 (obj_alloc (.cells #[.int .i64 ((n : Int) * (ll : Nat)), .int .i64 ((n : Int) * (lh : Nat))] 53) HG1.out))
                have HHI := Lib.hid (obj_bel f2 (obj_alloc (.cells #[.int .i64 ((n : Int) * (ll : Nat)), .int .i64 ((n : Int) * (lh : Nat))] 53) HGI.out))
                have HHB := Lib.hid (obj_bel f2 (obj_alloc (.cells #[.int .i64 ((n : Int) * (ll : Nat)), .int .i64 ((n : Int) * (lh : Nat))] 53) HGB.out))
                have HHL := Lib.hid (obj_bel f2 (obj_new f1.w (.cells #[.int .i64 ((n : Int) * (ll : Nat)), .int .i64 ((n : Int) * (lh : Nat))] 53)))
                clear c0 c1
                obtain ⟨c0, c1⟩ := cell2 HHI.out
                rcases h with ⟨er, her, _, rfl⟩ | ⟨su, ul, uh, hsu, hbu, rfl⟩
                · have he0 : (er != 0) = true := by rw [bne_iff_ne]; exact her
                  clear her
                  dsimp only
                  go_wp2
                  go_ret
                  exact Ret.mk (by rfl) (by (repeat' (first | (with_reducible first | apply Zl1 | apply Zl2 | apply Zl3 | apply Zl4 | apply Zl5 | apply Zl6 | apply Zl7 | apply Zl8 | apply Zl9 | apply Zla | apply Zlb | apply Zlc) | (dsimp only; with_reducible first | apply Zl8 | apply Zl2 | apply Zld) | with_reducible assumption | omega | (dsimp only; omega))))
                · have k1 := HKB.out (pI m) ll (.inl rfl) (by have := HBL.out.le; omega)
                  have k2 := HKB.out (pI m) lh (.inl rfl) (by have := HBL.out.le; omega)
                  have k3 := HKB.out (qI m) ul (.inr rfl) (by have := hbu.le; omega)
                  have k4 := HKB.out (qI m) uh (.inr rfl) (by have := hbu.le; omega)
                  have hcm := HBD.out su sl ul uh ll lh hsu HSL.out hbu HBL.out
                  (have hc1 : (pI m : Int) * ((n : Int) * (ll : Nat)) < (qI m : Int) * ((n : Int) * (uh : Nat)) := by have h := hcm.1; first | exact h rfl | exact h trivial)
                  clear hsu hbu hcm
                  obtain ⟨g0, g1⟩ := cell2 HHL.out
                  obtain ⟨s0, s1⟩ := cell2 HHB.out
                  have hcl : (closesC c = false ∧ oE (reM c) = 4) ∨ (closesC c = true ∧ oE (reM c) = 0) ∨ (closesC c = false ∧ oE (reM c) = 0) := HCC.out
                  generalize (n : Int) * (ll : Nat) = ell at *
                  generalize (n : Int) * (lh : Nat) = elh at *
                  generalize (n : Int) * (ul : Nat) = eul at *
                  generalize (n : Int) * (uh : Nat) = euh at *
                  generalize hg1 : (pI m : Int) * ell = t1 at *
                  generalize hg2 : (pI m : Int) * elh = t2 at *
                  generalize hg3 : (qI m : Int) * eul = t3 at *
                  generalize hg4 : (qI m : Int) * euh = t4 at *
                  (have hc2 : decide (t4 ≤ t1) = false := decide_eq_false (by omega))
                  dsimp only
                  go_wp2_with ((with_reducible refine wpList_isU rfl ?_); refine wpList_ldU rfl _ rfl _ rfl c (n : Int) (by with_reducible exact (obj_alloc _ HH1.out)) ?_)
                  by_cases hfar : 127 < u + m
                  · (with_reducible refine (HUF.out _ hfar).mono ?_)
                    rintro _ _ ⟨rfl, f3, rfl⟩
                    have hf3s := f3.size_le
                    have HJ1 := Lib.hid (obj_bel f3 (obj_alloc (.cells #[.int .i64 eul, .int .i64 euh] 53) HH1.out))
                    dsimp only
                    -- Closes, then the law's last line
                    rcases hcl with ⟨hc1, hc2⟩ | ⟨hc1, hc2⟩ | ⟨hc1, hc2⟩
                    · have HCX := Lib.hid (fun w' => (show Calls Tryz.prog 16 #[.agg (cirA c)] w' (Ret (.tuple #[.bool false, .int .i64 4]) w') by have h := HCL.out w'; rw [hc1, hc2] at h; exact h))
                      clear hc1 hc2
                      go_wp2_with ((with_reducible refine wpList_isV rfl ?_); refine wpList_ldV rfl _ rfl _ rfl c (n : Int) (by with_reducible exact (obj_alloc _ HJ1.out)) ?_)
                      (with_reducible refine (HCX.out _).mono ?_)
                      rintro _ _ ⟨rfl, f4, rfl⟩
                      have hf4s := f4.size_le
                      dsimp only
                      go_wp2
                      go_ret
                      exact Ret.mk (by rfl) (by (repeat' (first | (with_reducible first | apply Zl1 | apply Zl2 | apply Zl3 | apply Zl4 | apply Zl5 | apply Zl6 | apply Zl7 | apply Zl8 | apply Zl9 | apply Zla | apply Zlb | apply Zlc) | (dsimp only; with_reducible first | apply Zl8 | apply Zl2 | apply Zld) | with_reducible assumption | omega | (dsimp only; omega))))
                    · have HCX := Lib.hid (fun w' => (show Calls Tryz.prog 16 #[.agg (cirA c)] w' (Ret (.tuple #[.bool true, .int .i64 0]) w') by have h := HCL.out w'; rw [hc1, hc2] at h; exact h))
                      clear hc1 hc2
                      go_wp2_with ((with_reducible refine wpList_isV rfl ?_); refine wpList_ldV rfl _ rfl _ rfl c (n : Int) (by with_reducible exact (obj_alloc _ HJ1.out)) ?_)
                      (with_reducible refine (HCX.out _).mono ?_)
                      rintro _ _ ⟨rfl, f4, rfl⟩
                      have hf4s := f4.size_le
                      dsimp only
                      go_wp2
                      go_ret
                      exact Ret.mk (by rfl) (by (repeat' (first | (with_reducible first | apply Zl1 | apply Zl2 | apply Zl3 | apply Zl4 | apply Zl5 | apply Zl6 | apply Zl7 | apply Zl8 | apply Zl9 | apply Zla | apply Zlb | apply Zlc) | (dsimp only; with_reducible first | apply Zl8 | apply Zl2 | apply Zld) | with_reducible assumption | omega | (dsimp only; omega))))
                    · have HCX := Lib.hid (fun w' => (show Calls Tryz.prog 16 #[.agg (cirA c)] w' (Ret (.tuple #[.bool false, .int .i64 0]) w') by have h := HCL.out w'; rw [hc1, hc2] at h; exact h))
                      clear hc1 hc2
                      go_wp2_with ((with_reducible refine wpList_isV rfl ?_); refine wpList_ldV rfl _ rfl _ rfl c (n : Int) (by with_reducible exact (obj_alloc _ HJ1.out)) ?_)
                      (with_reducible refine (HCX.out _).mono ?_)
                      rintro _ _ ⟨rfl, f4, rfl⟩
                      have hf4s := f4.size_le
                      dsimp only
                      go_wp2
                      go_ret
                      exact Ret.mk (by rfl) (by (repeat' (first | (with_reducible first | apply Zl1 | apply Zl2 | apply Zl3 | apply Zl4 | apply Zl5 | apply Zl6 | apply Zl7 | apply Zl8 | apply Zl9 | apply Zla | apply Zlb | apply Zlc) | (dsimp only; with_reducible first | apply Zl8 | apply Zl2 | apply Zld) | with_reducible assumption | omega | (dsimp only; omega))))
                  · (with_reducible refine (HUB.out _ (by omega) (HT.out.of (by (repeat' (first | (with_reducible first | apply Zl1 | apply Zl2 | apply Zl3 | apply Zl4 | apply Zl5 | apply Zl6 | apply Zl7 | apply Zl8 | apply Zl9 | apply Zla | apply Zlb | apply Zlc) | (dsimp only; with_reducible first | apply Zl8 | apply Zl2 | apply Zld) | with_reducible assumption | omega | (dsimp only; omega)))))).mono ?_)
                    rintro _ _ ⟨⟨f3, rfl⟩, h⟩
                    have hf3s := f3.size_le
                    have HJ1 := Lib.hid (obj_bel f3 (obj_alloc (.cells #[.int .i64 eul, .int .i64 euh] 53) HH1.out))
                    have HJB := Lib.hid (obj_bel f3 (obj_alloc (.cells #[.int .i64 eul, .int .i64 euh] 53) HHB.out))
                    clear s0 s1
                    obtain ⟨s0, s1⟩ := cell2 HJB.out
                    rcases h with ⟨er, her, _, rfl⟩ | ⟨X2, Y2, hBN2, rfl⟩
                    · have he0 : (er != 0) = true := by rw [bne_iff_ne]; exact her
                      clear her
                      dsimp only
                      -- Closes, then the law's last line
                      rcases hcl with ⟨hc1, hc2⟩ | ⟨hc1, hc2⟩ | ⟨hc1, hc2⟩
                      · have HCX := Lib.hid (fun w' => (show Calls Tryz.prog 16 #[.agg (cirA c)] w' (Ret (.tuple #[.bool false, .int .i64 4]) w') by have h := HCL.out w'; rw [hc1, hc2] at h; exact h))
                        clear hc1 hc2
                        go_wp2_with ((with_reducible refine wpList_isV rfl ?_); refine wpList_ldV rfl _ rfl _ rfl c (n : Int) (by with_reducible exact (obj_alloc _ HJ1.out)) ?_)
                        (with_reducible refine (HCX.out _).mono ?_)
                        rintro _ _ ⟨rfl, f4, rfl⟩
                        have hf4s := f4.size_le
                        dsimp only
                        go_wp2
                        go_ret
                        exact Ret.mk (by rfl) (by (repeat' (first | (with_reducible first | apply Zl1 | apply Zl2 | apply Zl3 | apply Zl4 | apply Zl5 | apply Zl6 | apply Zl7 | apply Zl8 | apply Zl9 | apply Zla | apply Zlb | apply Zlc) | (dsimp only; with_reducible first | apply Zl8 | apply Zl2 | apply Zld) | with_reducible assumption | omega | (dsimp only; omega))))
                      · have HCX := Lib.hid (fun w' => (show Calls Tryz.prog 16 #[.agg (cirA c)] w' (Ret (.tuple #[.bool true, .int .i64 0]) w') by have h := HCL.out w'; rw [hc1, hc2] at h; exact h))
                        clear hc1 hc2
                        go_wp2_with ((with_reducible refine wpList_isV rfl ?_); refine wpList_ldV rfl _ rfl _ rfl c (n : Int) (by with_reducible exact (obj_alloc _ HJ1.out)) ?_)
                        (with_reducible refine (HCX.out _).mono ?_)
                        rintro _ _ ⟨rfl, f4, rfl⟩
                        have hf4s := f4.size_le
                        dsimp only
                        go_wp2
                        go_ret
                        exact Ret.mk (by rfl) (by (repeat' (first | (with_reducible first | apply Zl1 | apply Zl2 | apply Zl3 | apply Zl4 | apply Zl5 | apply Zl6 | apply Zl7 | apply Zl8 | apply Zl9 | apply Zla | apply Zlb | apply Zlc) | (dsimp only; with_reducible first | apply Zl8 | apply Zl2 | apply Zld) | with_reducible assumption | omega | (dsimp only; omega))))
                      · have HCX := Lib.hid (fun w' => (show Calls Tryz.prog 16 #[.agg (cirA c)] w' (Ret (.tuple #[.bool false, .int .i64 0]) w') by have h := HCL.out w'; rw [hc1, hc2] at h; exact h))
                        clear hc1 hc2
                        go_wp2_with ((with_reducible refine wpList_isV rfl ?_); refine wpList_ldV rfl _ rfl _ rfl c (n : Int) (by with_reducible exact (obj_alloc _ HJ1.out)) ?_)
                        (with_reducible refine (HCX.out _).mono ?_)
                        rintro _ _ ⟨rfl, f4, rfl⟩
                        have hf4s := f4.size_le
                        dsimp only
                        go_wp2
                        go_ret
                        exact Ret.mk (by rfl) (by (repeat' (first | (with_reducible first | apply Zl1 | apply Zl2 | apply Zl3 | apply Zl4 | apply Zl5 | apply Zl6 | apply Zl7 | apply Zl8 | apply Zl9 | apply Zla | apply Zlb | apply Zlc) | (dsimp only; with_reducible first | apply Zl8 | apply Zl2 | apply Zld) | with_reducible assumption | omega | (dsimp only; omega))))
                    · obtain ⟨x21, x22, y21, y22⟩ := hBN2.bd HM.out hn2
                      obtain ⟨up1, up2⟩ := HUPX.out _ _ X2 Y2 HXY.out hBN2 (by omega)
                      clear hBN2
                      have up3 : 0 ≤ Y2 := by omega
                      dsimp only
                      -- Closes, then the law's last line
                      rcases hcl with ⟨hc1, hc2⟩ | ⟨hc1, hc2⟩ | ⟨hc1, hc2⟩
                      · have HCX := Lib.hid (fun w' => (show Calls Tryz.prog 16 #[.agg (cirA c)] w' (Ret (.tuple #[.bool false, .int .i64 4]) w') by have h := HCL.out w'; rw [hc1, hc2] at h; exact h))
                        clear hc1 hc2
                        go_wp2_with ((with_reducible refine wpList_isV rfl ?_); refine wpList_ldV rfl _ rfl _ rfl c (n : Int) (by with_reducible exact (obj_alloc _ HJ1.out)) ?_)
                        (with_reducible refine (HCX.out _).mono ?_)
                        rintro _ _ ⟨rfl, f4, rfl⟩
                        have hf4s := f4.size_le
                        dsimp only
                        go_wp2
                        go_ret
                        exact Ret.mk (by rfl) (by (repeat' (first | (with_reducible first | apply Zl1 | apply Zl2 | apply Zl3 | apply Zl4 | apply Zl5 | apply Zl6 | apply Zl7 | apply Zl8 | apply Zl9 | apply Zla | apply Zlb | apply Zlc) | (dsimp only; with_reducible first | apply Zl8 | apply Zl2 | apply Zld) | with_reducible assumption | omega | (dsimp only; omega))))
                      · have HCX := Lib.hid (fun w' => (show Calls Tryz.prog 16 #[.agg (cirA c)] w' (Ret (.tuple #[.bool true, .int .i64 0]) w') by have h := HCL.out w'; rw [hc1, hc2] at h; exact h))
                        clear hc1 hc2
                        go_wp2_with ((with_reducible refine wpList_isV rfl ?_); refine wpList_ldV rfl _ rfl _ rfl c (n : Int) (by with_reducible exact (obj_alloc _ HJ1.out)) ?_)
                        (with_reducible refine (HCX.out _).mono ?_)
                        rintro _ _ ⟨rfl, f4, rfl⟩
                        have hf4s := f4.size_le
                        dsimp only
                        go_wp2
                        go_ret
                        exact Ret.mk (by rfl) (by (repeat' (first | (with_reducible first | apply Zl1 | apply Zl2 | apply Zl3 | apply Zl4 | apply Zl5 | apply Zl6 | apply Zl7 | apply Zl8 | apply Zl9 | apply Zla | apply Zlb | apply Zlc) | (dsimp only; with_reducible first | apply Zl8 | apply Zl2 | apply Zld) | with_reducible assumption | omega | (dsimp only; omega))))
                      · have HCX := Lib.hid (fun w' => (show Calls Tryz.prog 16 #[.agg (cirA c)] w' (Ret (.tuple #[.bool false, .int .i64 0]) w') by have h := HCL.out w'; rw [hc1, hc2] at h; exact h))
                        clear hc1 hc2
                        go_wp2_with ((with_reducible refine wpList_isV rfl ?_); refine wpList_ldV rfl _ rfl _ rfl c (n : Int) (by with_reducible exact (obj_alloc _ HJ1.out)) ?_)
                        (with_reducible refine (HCX.out _).mono ?_)
                        rintro _ _ ⟨rfl, f4, rfl⟩
                        have hf4s := f4.size_le
                        dsimp only
                        go_wp2
                        go_ret
                        exact Ret.mk (by rfl) (by (repeat' (first | (with_reducible first | apply Zl1 | apply Zl2 | apply Zl3 | apply Zl4 | apply Zl5 | apply Zl6 | apply Zl7 | apply Zl8 | apply Zl9 | apply Zla | apply Zlb | apply Zlc) | (dsimp only; with_reducible first | apply Zl8 | apply Zl2 | apply Zld) | with_reducible assumption | omega | (dsimp only; omega))))
          · go_wp2_with ((with_reducible refine wpList_isU rfl ?_); refine wpList_ldU rfl _ rfl _ rfl c (n : Int) (by with_reducible exact HD2.out) ?_)
            (with_reducible refine (HBE.out _ (HT.out.of (by (repeat' (first | (with_reducible first | apply Zl1 | apply Zl2 | apply Zl3 | apply Zl4 | apply Zl5 | apply Zl6 | apply Zl7 | apply Zl8 | apply Zl9 | apply Zla | apply Zlb | apply Zlc) | (dsimp only; with_reducible first | apply Zl8 | apply Zl2 | apply Zld) | with_reducible assumption | omega | (dsimp only; omega)))))).mono ?_)
            rintro _ _ ⟨⟨bb, rfl⟩, h⟩
            have hbbs := bb.size_le
            have HBT := Lib.hid (obj_bel bb HD2.out)
            have HBI := Lib.hid (obj_bel bb HDI.out)
            clear c0 c1
            obtain ⟨c0, c1⟩ := cell2 HBI.out
            rcases h with ⟨er, her, _, rfl⟩ | ⟨X, Y, hBN, rfl⟩
            · have he0 : (er != 0) = true := by rw [bne_iff_ne]; exact her
              have he1 : (er == 0) = false := by rw [beq_eq_false_iff_ne]; exact her
              clear her
              dsimp only
              go_wp2_with ((with_reducible refine wpList_isU rfl ?_); refine wpList_ldU rfl _ rfl _ rfl c (n : Int) (by with_reducible exact (obj_alloc _ HBT.out)) ?_)
              (with_reducible refine (HW1.out _ (HT.out.of (by (repeat' (first | (with_reducible first | apply Zl1 | apply Zl2 | apply Zl3 | apply Zl4 | apply Zl5 | apply Zl6 | apply Zl7 | apply Zl8 | apply Zl9 | apply Zla | apply Zlb | apply Zlc) | (dsimp only; with_reducible first | apply Zl8 | apply Zl2 | apply Zld) | with_reducible assumption | omega | (dsimp only; omega)))))).mono ?_)
              rintro _ _ ⟨a1, b1, e1, rfl, f1, rfl⟩
              have hf1s := f1.size_le
              have HG1 := Lib.hid (obj_bel f1 (obj_alloc (.cells #[.int .i64 0, .int .i64 0] 53) HBT.out))
              have HGI := Lib.hid (obj_bel f1 (obj_alloc (.cells #[.int .i64 0, .int .i64 0] 53) HBI.out))
              clear c0 c1
              obtain ⟨c0, c1⟩ := cell2 HGI.out
              dsimp only
              go_wp2_with ((with_reducible refine wpList_isU rfl ?_); refine wpList_ldU rfl _ rfl _ rfl c (n : Int) (by with_reducible exact (obj_alloc _ HG1.out)) ?_)
              (with_reducible refine (HW2.out _ (HT.out.of (by (repeat' (first | (with_reducible first | apply Zl1 | apply Zl2 | apply Zl3 | apply Zl4 | apply Zl5 | apply Zl6 | apply Zl7 | apply Zl8 | apply Zl9 | apply Zla | apply Zlb | apply Zlc) | (dsimp only; with_reducible first | apply Zl8 | apply Zl2 | apply Zld) | with_reducible assumption | omega | (dsimp only; omega)))))).mono ?_)
              rintro _ _ ⟨a2, b2, e2, rfl, f2, rfl⟩
              have hf2s := f2.size_le
              dsimp only
              go_wp2
              go_ret
              exact Ret.mk (by rfl) (by (repeat' (first | (with_reducible first | apply Zl1 | apply Zl2 | apply Zl3 | apply Zl4 | apply Zl5 | apply Zl6 | apply Zl7 | apply Zl8 | apply Zl9 | apply Zla | apply Zlb | apply Zlc) | (dsimp only; with_reducible first | apply Zl8 | apply Zl2 | apply Zld) | with_reducible assumption | omega | (dsimp only; omega))))
            · have HXY := Lib.hid hBN
              obtain ⟨x1, x2, y1, y2⟩ := hBN.bd HM.out hn2
              have hxlow := hBN.low
              (have hy1 : 1 ≤ Y := by have h := (HBX.out X Y hBN).2; first | exact h (by decide) | exact h trivial | simpa using h)
              clear hBN
              dsimp only
              go_wp2_with ((with_reducible refine wpList_isU rfl ?_); refine wpList_ldU rfl _ rfl _ rfl c (n : Int) (by with_reducible exact (obj_alloc _ HBT.out)) ?_)
              (with_reducible refine (HF1.out _ (HT.out.of (by (repeat' (first | (with_reducible first | apply Zl1 | apply Zl2 | apply Zl3 | apply Zl4 | apply Zl5 | apply Zl6 | apply Zl7 | apply Zl8 | apply Zl9 | apply Zla | apply Zlb | apply Zlc) | (dsimp only; with_reducible first | apply Zl8 | apply Zl2 | apply Zld) | with_reducible assumption | omega | (dsimp only; omega)))))).mono ?_)
              rintro _ _ ⟨⟨f1, rfl⟩, h⟩
              have hf1s := f1.size_le
              have HG1 := Lib.hid (obj_bel f1 (obj_alloc (.cells #[.int .i64 X, .int .i64 Y] 53) HBT.out))
              have HGI := Lib.hid (obj_bel f1 (obj_alloc (.cells #[.int .i64 X, .int .i64 Y] 53) HBI.out))
              have HGB := Lib.hid (obj_bel f1 (obj_new bb.w (.cells #[.int .i64 X, .int .i64 Y] 53)))
              clear c0 c1
              obtain ⟨c0, c1⟩ := cell2 HGI.out
              rcases h with ⟨er, her, _, rfl⟩ | ⟨sl, ll, lh, hsl, hbl, rfl⟩
              · have he0 : (er != 0) = true := by rw [bne_iff_ne]; exact her
                clear her
                dsimp only
                go_wp2_with ((with_reducible refine wpList_isU rfl ?_); refine wpList_ldU rfl _ rfl _ rfl c (n : Int) (by with_reducible exact (obj_alloc _ HG1.out)) ?_)
                (with_reducible refine (HW2.out _ (HT.out.of (by (repeat' (first | (with_reducible first | apply Zl1 | apply Zl2 | apply Zl3 | apply Zl4 | apply Zl5 | apply Zl6 | apply Zl7 | apply Zl8 | apply Zl9 | apply Zla | apply Zlb | apply Zlc) | (dsimp only; with_reducible first | apply Zl8 | apply Zl2 | apply Zld) | with_reducible assumption | omega | (dsimp only; omega)))))).mono ?_)
                rintro _ _ ⟨a2, b2, e2, rfl, f2, rfl⟩
                have hf2s := f2.size_le
                dsimp only
                go_wp2
                go_ret
                exact Ret.mk (by rfl) (by (repeat' (first | (with_reducible first | apply Zl1 | apply Zl2 | apply Zl3 | apply Zl4 | apply Zl5 | apply Zl6 | apply Zl7 | apply Zl8 | apply Zl9 | apply Zla | apply Zlb | apply Zlc) | (dsimp only; with_reducible first | apply Zl8 | apply Zl2 | apply Zld) | with_reducible assumption | omega | (dsimp only; omega))))
              · have HSL := Lib.hid hsl
                have HBL := Lib.hid hbl
                clear hsl hbl
                dsimp only
                go_wp2_with ((with_reducible refine wpList_isU rfl ?_); refine wpList_ldU rfl _ rfl _ rfl c (n : Int) (by with_reducible exact (obj_alloc _ HG1.out)) ?_)
                (with_reducible refine (HF2.out _ (HT.out.of (by (repeat' (first | (with_reducible first | apply Zl1 | apply Zl2 | apply Zl3 | apply Zl4 | apply Zl5 | apply Zl6 | apply Zl7 | apply Zl8 | apply Zl9 | apply Zla | apply Zlb | apply Zlc) | (dsimp only; with_reducible first | apply Zl8 | apply Zl2 | apply Zld) | with_reducible assumption | omega | (dsimp only; omega)))))).mono ?_)
                rintro _ _ ⟨⟨f2, rfl⟩, h⟩
                have hf2s := f2.size_le
                have HH1 := Lib.hid (obj_bel f2 (obj_alloc (.cells #[.int .i64 ((n : Int) * (ll : Nat)), .int .i64 ((n : Int) * (lh : Nat))] 53) HG1.out))
                have HHI := Lib.hid (obj_bel f2 (obj_alloc (.cells #[.int .i64 ((n : Int) * (ll : Nat)), .int .i64 ((n : Int) * (lh : Nat))] 53) HGI.out))
                have HHB := Lib.hid (obj_bel f2 (obj_alloc (.cells #[.int .i64 ((n : Int) * (ll : Nat)), .int .i64 ((n : Int) * (lh : Nat))] 53) HGB.out))
                have HHL := Lib.hid (obj_bel f2 (obj_new f1.w (.cells #[.int .i64 ((n : Int) * (ll : Nat)), .int .i64 ((n : Int) * (lh : Nat))] 53)))
                clear c0 c1
                obtain ⟨c0, c1⟩ := cell2 HHI.out
                rcases h with ⟨er, her, _, rfl⟩ | ⟨su, ul, uh, hsu, hbu, rfl⟩
                · have he0 : (er != 0) = true := by rw [bne_iff_ne]; exact her
                  clear her
                  dsimp only
                  go_wp2
                  go_ret
                  exact Ret.mk (by rfl) (by (repeat' (first | (with_reducible first | apply Zl1 | apply Zl2 | apply Zl3 | apply Zl4 | apply Zl5 | apply Zl6 | apply Zl7 | apply Zl8 | apply Zl9 | apply Zla | apply Zlb | apply Zlc) | (dsimp only; with_reducible first | apply Zl8 | apply Zl2 | apply Zld) | with_reducible assumption | omega | (dsimp only; omega))))
                · have k1 := HKB.out (pI m) ll (.inl rfl) (by have := HBL.out.le; omega)
                  have k2 := HKB.out (pI m) lh (.inl rfl) (by have := HBL.out.le; omega)
                  have k3 := HKB.out (qI m) ul (.inr rfl) (by have := hbu.le; omega)
                  have k4 := HKB.out (qI m) uh (.inr rfl) (by have := hbu.le; omega)
                  have hcm := HBD.out su sl ul uh ll lh hsu HSL.out hbu HBL.out
                  (have hc1 : (qI m : Int) * ((n : Int) * (ul : Nat)) < (pI m : Int) * ((n : Int) * (lh : Nat)) := by have h := hcm.2; first | exact h rfl | exact h trivial)
                  clear hsu hbu hcm
                  obtain ⟨g0, g1⟩ := cell2 HHL.out
                  obtain ⟨s0, s1⟩ := cell2 HHB.out
                  have hcl : (closesC c = false ∧ oE (reM c) = 4) ∨ (closesC c = true ∧ oE (reM c) = 0) ∨ (closesC c = false ∧ oE (reM c) = 0) := HCC.out
                  generalize (n : Int) * (ll : Nat) = ell at *
                  generalize (n : Int) * (lh : Nat) = elh at *
                  generalize (n : Int) * (ul : Nat) = eul at *
                  generalize (n : Int) * (uh : Nat) = euh at *
                  generalize hg1 : (pI m : Int) * ell = t1 at *
                  generalize hg2 : (pI m : Int) * elh = t2 at *
                  generalize hg3 : (qI m : Int) * eul = t3 at *
                  generalize hg4 : (qI m : Int) * euh = t4 at *
                  (have hc2 : decide (t2 ≤ t3) = false := decide_eq_false (by omega))
                  dsimp only
                  go_wp2_with ((with_reducible refine wpList_isU rfl ?_); refine wpList_ldU rfl _ rfl _ rfl c (n : Int) (by with_reducible exact (obj_alloc _ HH1.out)) ?_)
                  by_cases hfar : 127 < u + m
                  · (with_reducible refine (HUF.out _ hfar).mono ?_)
                    rintro _ _ ⟨rfl, f3, rfl⟩
                    have hf3s := f3.size_le
                    have HJ1 := Lib.hid (obj_bel f3 (obj_alloc (.cells #[.int .i64 eul, .int .i64 euh] 53) HH1.out))
                    dsimp only
                    -- Closes, then the law's last line
                    rcases hcl with ⟨hc1, hc2⟩ | ⟨hc1, hc2⟩ | ⟨hc1, hc2⟩
                    · have HCX := Lib.hid (fun w' => (show Calls Tryz.prog 16 #[.agg (cirA c)] w' (Ret (.tuple #[.bool false, .int .i64 4]) w') by have h := HCL.out w'; rw [hc1, hc2] at h; exact h))
                      clear hc1 hc2
                      go_wp2_with ((with_reducible refine wpList_isV rfl ?_); refine wpList_ldV rfl _ rfl _ rfl c (n : Int) (by with_reducible exact (obj_alloc _ HJ1.out)) ?_)
                      (with_reducible refine (HCX.out _).mono ?_)
                      rintro _ _ ⟨rfl, f4, rfl⟩
                      have hf4s := f4.size_le
                      dsimp only
                      go_wp2
                      go_ret
                      exact Ret.mk (by rfl) (by (repeat' (first | (with_reducible first | apply Zl1 | apply Zl2 | apply Zl3 | apply Zl4 | apply Zl5 | apply Zl6 | apply Zl7 | apply Zl8 | apply Zl9 | apply Zla | apply Zlb | apply Zlc) | (dsimp only; with_reducible first | apply Zl8 | apply Zl2 | apply Zld) | with_reducible assumption | omega | (dsimp only; omega))))
                    · have HCX := Lib.hid (fun w' => (show Calls Tryz.prog 16 #[.agg (cirA c)] w' (Ret (.tuple #[.bool true, .int .i64 0]) w') by have h := HCL.out w'; rw [hc1, hc2] at h; exact h))
                      clear hc1 hc2
                      go_wp2_with ((with_reducible refine wpList_isV rfl ?_); refine wpList_ldV rfl _ rfl _ rfl c (n : Int) (by with_reducible exact (obj_alloc _ HJ1.out)) ?_)
                      (with_reducible refine (HCX.out _).mono ?_)
                      rintro _ _ ⟨rfl, f4, rfl⟩
                      have hf4s := f4.size_le
                      dsimp only
                      go_wp2
                      go_ret
                      exact Ret.mk (by rfl) (by (repeat' (first | (with_reducible first | apply Zl1 | apply Zl2 | apply Zl3 | apply Zl4 | apply Zl5 | apply Zl6 | apply Zl7 | apply Zl8 | apply Zl9 | apply Zla | apply Zlb | apply Zlc) | (dsimp only; with_reducible first | apply Zl8 | apply Zl2 | apply Zld) | with_reducible assumption | omega | (dsimp only; omega))))
                    · have HCX := Lib.hid (fun w' => (show Calls Tryz.prog 16 #[.agg (cirA c)] w' (Ret (.tuple #[.bool false, .int .i64 0]) w') by have h := HCL.out w'; rw [hc1, hc2] at h; exact h))
                      clear hc1 hc2
                      go_wp2_with ((with_reducible refine wpList_isV rfl ?_); refine wpList_ldV rfl _ rfl _ rfl c (n : Int) (by with_reducible exact (obj_alloc _ HJ1.out)) ?_)
                      (with_reducible refine (HCX.out _).mono ?_)
                      rintro _ _ ⟨rfl, f4, rfl⟩
                      have hf4s := f4.size_le
                      dsimp only
                      go_wp2
                      go_ret
                      exact Ret.mk (by rfl) (by (repeat' (first | (with_reducible first | apply Zl1 | apply Zl2 | apply Zl3 | apply Zl4 | apply Zl5 | apply Zl6 | apply Zl7 | apply Zl8 | apply Zl9 | apply Zla | apply Zlb | apply Zlc) | (dsimp only; with_reducible first | apply Zl8 | apply Zl2 | apply Zld) | with_reducible assumption | omega | (dsimp only; omega))))
                  · (with_reducible refine (HUB.out _ (by omega) (HT.out.of (by (repeat' (first | (with_reducible first | apply Zl1 | apply Zl2 | apply Zl3 | apply Zl4 | apply Zl5 | apply Zl6 | apply Zl7 | apply Zl8 | apply Zl9 | apply Zla | apply Zlb | apply Zlc) | (dsimp only; with_reducible first | apply Zl8 | apply Zl2 | apply Zld) | with_reducible assumption | omega | (dsimp only; omega)))))).mono ?_)
                    rintro _ _ ⟨⟨f3, rfl⟩, h⟩
                    have hf3s := f3.size_le
                    have HJ1 := Lib.hid (obj_bel f3 (obj_alloc (.cells #[.int .i64 eul, .int .i64 euh] 53) HH1.out))
                    have HJB := Lib.hid (obj_bel f3 (obj_alloc (.cells #[.int .i64 eul, .int .i64 euh] 53) HHB.out))
                    clear s0 s1
                    obtain ⟨s0, s1⟩ := cell2 HJB.out
                    rcases h with ⟨er, her, _, rfl⟩ | ⟨X2, Y2, hBN2, rfl⟩
                    · have he0 : (er != 0) = true := by rw [bne_iff_ne]; exact her
                      clear her
                      dsimp only
                      -- Closes, then the law's last line
                      rcases hcl with ⟨hc1, hc2⟩ | ⟨hc1, hc2⟩ | ⟨hc1, hc2⟩
                      · have HCX := Lib.hid (fun w' => (show Calls Tryz.prog 16 #[.agg (cirA c)] w' (Ret (.tuple #[.bool false, .int .i64 4]) w') by have h := HCL.out w'; rw [hc1, hc2] at h; exact h))
                        clear hc1 hc2
                        go_wp2_with ((with_reducible refine wpList_isV rfl ?_); refine wpList_ldV rfl _ rfl _ rfl c (n : Int) (by with_reducible exact (obj_alloc _ HJ1.out)) ?_)
                        (with_reducible refine (HCX.out _).mono ?_)
                        rintro _ _ ⟨rfl, f4, rfl⟩
                        have hf4s := f4.size_le
                        dsimp only
                        go_wp2
                        go_ret
                        exact Ret.mk (by rfl) (by (repeat' (first | (with_reducible first | apply Zl1 | apply Zl2 | apply Zl3 | apply Zl4 | apply Zl5 | apply Zl6 | apply Zl7 | apply Zl8 | apply Zl9 | apply Zla | apply Zlb | apply Zlc) | (dsimp only; with_reducible first | apply Zl8 | apply Zl2 | apply Zld) | with_reducible assumption | omega | (dsimp only; omega))))
                      · have HCX := Lib.hid (fun w' => (show Calls Tryz.prog 16 #[.agg (cirA c)] w' (Ret (.tuple #[.bool true, .int .i64 0]) w') by have h := HCL.out w'; rw [hc1, hc2] at h; exact h))
                        clear hc1 hc2
                        go_wp2_with ((with_reducible refine wpList_isV rfl ?_); refine wpList_ldV rfl _ rfl _ rfl c (n : Int) (by with_reducible exact (obj_alloc _ HJ1.out)) ?_)
                        (with_reducible refine (HCX.out _).mono ?_)
                        rintro _ _ ⟨rfl, f4, rfl⟩
                        have hf4s := f4.size_le
                        dsimp only
                        go_wp2
                        go_ret
                        exact Ret.mk (by rfl) (by (repeat' (first | (with_reducible first | apply Zl1 | apply Zl2 | apply Zl3 | apply Zl4 | apply Zl5 | apply Zl6 | apply Zl7 | apply Zl8 | apply Zl9 | apply Zla | apply Zlb | apply Zlc) | (dsimp only; with_reducible first | apply Zl8 | apply Zl2 | apply Zld) | with_reducible assumption | omega | (dsimp only; omega))))
                      · have HCX := Lib.hid (fun w' => (show Calls Tryz.prog 16 #[.agg (cirA c)] w' (Ret (.tuple #[.bool false, .int .i64 0]) w') by have h := HCL.out w'; rw [hc1, hc2] at h; exact h))
                        clear hc1 hc2
                        go_wp2_with ((with_reducible refine wpList_isV rfl ?_); refine wpList_ldV rfl _ rfl _ rfl c (n : Int) (by with_reducible exact (obj_alloc _ HJ1.out)) ?_)
                        (with_reducible refine (HCX.out _).mono ?_)
                        rintro _ _ ⟨rfl, f4, rfl⟩
                        have hf4s := f4.size_le
                        dsimp only
                        go_wp2
                        go_ret
                        exact Ret.mk (by rfl) (by (repeat' (first | (with_reducible first | apply Zl1 | apply Zl2 | apply Zl3 | apply Zl4 | apply Zl5 | apply Zl6 | apply Zl7 | apply Zl8 | apply Zl9 | apply Zla | apply Zlb | apply Zlc) | (dsimp only; with_reducible first | apply Zl8 | apply Zl2 | apply Zld) | with_reducible assumption | omega | (dsimp only; omega))))
                    · obtain ⟨x21, x22, y21, y22⟩ := hBN2.bd HM.out hn2
                      obtain ⟨up1, up2⟩ := HUPX.out _ _ X2 Y2 HXY.out hBN2 (by omega)
                      clear hBN2
                      have up3 : 0 ≤ Y2 := by omega
                      dsimp only
                      -- Closes, then the law's last line
                      rcases hcl with ⟨hc1, hc2⟩ | ⟨hc1, hc2⟩ | ⟨hc1, hc2⟩
                      · have HCX := Lib.hid (fun w' => (show Calls Tryz.prog 16 #[.agg (cirA c)] w' (Ret (.tuple #[.bool false, .int .i64 4]) w') by have h := HCL.out w'; rw [hc1, hc2] at h; exact h))
                        clear hc1 hc2
                        go_wp2_with ((with_reducible refine wpList_isV rfl ?_); refine wpList_ldV rfl _ rfl _ rfl c (n : Int) (by with_reducible exact (obj_alloc _ HJ1.out)) ?_)
                        (with_reducible refine (HCX.out _).mono ?_)
                        rintro _ _ ⟨rfl, f4, rfl⟩
                        have hf4s := f4.size_le
                        dsimp only
                        go_wp2
                        go_ret
                        exact Ret.mk (by rfl) (by (repeat' (first | (with_reducible first | apply Zl1 | apply Zl2 | apply Zl3 | apply Zl4 | apply Zl5 | apply Zl6 | apply Zl7 | apply Zl8 | apply Zl9 | apply Zla | apply Zlb | apply Zlc) | (dsimp only; with_reducible first | apply Zl8 | apply Zl2 | apply Zld) | with_reducible assumption | omega | (dsimp only; omega))))
                      · have HCX := Lib.hid (fun w' => (show Calls Tryz.prog 16 #[.agg (cirA c)] w' (Ret (.tuple #[.bool true, .int .i64 0]) w') by have h := HCL.out w'; rw [hc1, hc2] at h; exact h))
                        clear hc1 hc2
                        go_wp2_with ((with_reducible refine wpList_isV rfl ?_); refine wpList_ldV rfl _ rfl _ rfl c (n : Int) (by with_reducible exact (obj_alloc _ HJ1.out)) ?_)
                        (with_reducible refine (HCX.out _).mono ?_)
                        rintro _ _ ⟨rfl, f4, rfl⟩
                        have hf4s := f4.size_le
                        dsimp only
                        go_wp2
                        go_ret
                        exact Ret.mk (by rfl) (by (repeat' (first | (with_reducible first | apply Zl1 | apply Zl2 | apply Zl3 | apply Zl4 | apply Zl5 | apply Zl6 | apply Zl7 | apply Zl8 | apply Zl9 | apply Zla | apply Zlb | apply Zlc) | (dsimp only; with_reducible first | apply Zl8 | apply Zl2 | apply Zld) | with_reducible assumption | omega | (dsimp only; omega))))
                      · have HCX := Lib.hid (fun w' => (show Calls Tryz.prog 16 #[.agg (cirA c)] w' (Ret (.tuple #[.bool false, .int .i64 0]) w') by have h := HCL.out w'; rw [hc1, hc2] at h; exact h))
                        clear hc1 hc2
                        go_wp2_with ((with_reducible refine wpList_isV rfl ?_); refine wpList_ldV rfl _ rfl _ rfl c (n : Int) (by with_reducible exact (obj_alloc _ HJ1.out)) ?_)
                        (with_reducible refine (HCX.out _).mono ?_)
                        rintro _ _ ⟨rfl, f4, rfl⟩
                        have hf4s := f4.size_le
                        dsimp only
                        go_wp2
                        go_ret
                        exact Ret.mk (by rfl) (by (repeat' (first | (with_reducible first | apply Zl1 | apply Zl2 | apply Zl3 | apply Zl4 | apply Zl5 | apply Zl6 | apply Zl7 | apply Zl8 | apply Zl9 | apply Zla | apply Zlb | apply Zlc) | (dsimp only; with_reducible first | apply Zl8 | apply Zl2 | apply Zld) | with_reducible assumption | omega | (dsimp only; omega))))
    · have HCK := Lib.hid (fun w' => tcheck_any c w')
      rw [show cirV c = .agg (cirA c) from rfl] at HCK
      have hc0 : (chkC c != 0) = true := by rw [bne_iff_ne]; exact hC
      have d1 : decide ((l : Int) < 0) = false := decide_eq_false (by omega)
      have d2 : decide (127 - (m : Int) < (l : Int)) = false := decide_eq_false (by omega)
      clear hC
      generalize chkC c = ck at *
      go_wp2_with ((with_reducible refine wpList_isV rfl ?_); refine wpList_ldVg rfl _ rfl _ rfl c (n : Int) (by with_reducible exact HT1.out) ?_)
      (with_reducible refine (HCK.out _).mono ?_)
      rintro _ _ ⟨rfl, y, rfl⟩
      have hys := y.size_le
      go_wp2
      go_ret
      exact Ret.mk (by rfl) (by (repeat' (first | (with_reducible first | apply Zl1 | apply Zl2 | apply Zl3 | apply Zl4 | apply Zl5 | apply Zl6 | apply Zl7 | apply Zl8 | apply Zl9 | apply Zla | apply Zlb | apply Zlc) | (dsimp only; with_reducible first | apply Zl8 | apply Zl2 | apply Zld) | with_reducible assumption | omega | (dsimp only; omega))))
  · have HP := Lib.hid (fun w' => partials_no sem w' (fun h => hP ⟨3, .inl rfl, h⟩) (fun h => hP ⟨4, by unfold isP; decide, h⟩) (fun h => hP ⟨5, by unfold isP; decide, h⟩) (fun h => hP ⟨7, by unfold isP; decide, h⟩) (fun h => hP ⟨8, by unfold isP; decide, h⟩) (fun h => hP ⟨9, by unfold isP; decide, h⟩) (fun h => hP ⟨12, by unfold isP; decide, h⟩))
    clear hP
    go_wp2_with fail
    (with_reducible refine (HP.out _).mono ?_)
    rintro _ _ ⟨rfl, x, rfl⟩
    have hxs := x.size_le
    go_wp2
    go_ret
    exact Ret.mk (by rfl) (by (repeat' (first | (with_reducible first | apply Zl1 | apply Zl2 | apply Zl3 | apply Zl4 | apply Zl5 | apply Zl6 | apply Zl7 | apply Zl8 | apply Zl9 | apply Zla | apply Zlb | apply Zlc) | (dsimp only; with_reducible first | apply Zl8 | apply Zl2 | apply Zld) | with_reducible assumption | omega | (dsimp only; omega))))
end Go.Proofs.YtehgeoipbgpocaaGreatDoor
