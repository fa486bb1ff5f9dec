/- Circles of fifths: note, place, between. -/
import Derived.Test.YtehgeoipbgpocaaGreatDoorTe
import Derived.Deep.RegionHeld3
namespace Go.Proofs.YtehgeoipbgpocaaGreatDoor
set_option linter.unusedVariables false
set_option linter.unusedSimpArgs false
open Go.RowKit
attribute [local go_sem low] Bel.cell Bel.frozen alloc_cell alloc_frozen
attribute [local go_sem] calmOp chainOp yieldsC grows

theorem tupO (o : Option Sz) : oV o = .tuple #[.agg #[.int .i64 (oS o).a.n, .int .i64 (oS o).a.d, .int .i64 (oS o).b.n, .int .i64 (oS o).b.d, .int .i64 (oS o).c.n, .int .i64 (oS o).c.d], .int .i64 (oE o)] := rfl
def noM (c : Cir) (n : Nat) : Option Sz := (suM c (7 * n % 12)).bind fun s => lim1 (redS s) (redE s)
theorem sev (n : Nat) (hn : n < 12) : 7 * (7 * n % 12) % 12 = n ∧ ∀ j, j < 7 * n % 12 → 7 * j % 12 ≠ n := by
  rcases (show n = 0 ∨ n = 1 ∨ n = 2 ∨ n = 3 ∨ n = 4 ∨ n = 5 ∨ n = 6 ∨ n = 7 ∨ n = 8 ∨ n = 9 ∨ n = 10 ∨ n = 11 by omega) with rfl | rfl | rfl | rfl | rfl | rfl | rfl | rfl | rfl | rfl | rfl | rfl <;> exact ⟨by decide, by decide⟩
set_option maxRecDepth 100000 in
set_option maxHeartbeats 6400000 in
theorem note_any (c : Cir) (n : Nat) (w : World) (hn : n < 12) (hT : I.Tab w) : Calls Tryz.prog 142 #[cirV c, .int .i64 (n : Int)] w (Ret (oV (noM c n)) w) := by
  have HTA := Lib.hid hT
  have hVc : cirV c = .agg (cirA c) := rfl
  have HSU := Lib.hid (fun w' => sum_any c (7 * n % 12) w' (by omega))
  rw [hVc] at HSU ⊢
  obtain ⟨v1, v2⟩ := sev n hn
  have HV2 := Lib.hid v2
  generalize hRR : oV (noM c n) = RR at *
  have HRR := Lib.hid hRR
  have hK : 7 * n % 12 < 12 := by omega
  obtain ⟨K, hKe⟩ : ∃ K, 7 * n % 12 = K := ⟨_, rfl⟩
  have HNM : Hid (noM c n = (suM c K).bind fun s => lim1 (redS s) (redE s)) := Lib.hid (by rw [← hKe]; rfl)
  rw [hKe] at HSU HV2 v1 hK
  have HV1 := Lib.hid v1
  clear hVc hRR hT v2 hKe v1
  go_enter Tryz.func142, Tryz.ntmps142
  go_wp2_with fail
  go_loopw [6] (fun kv wr => ∃ k : Nat, k ≤ K ∧ kv = .int .i64 (k : Int) ∧ wr.heap[w.heap.size]? = some (.cells (cirA c) 36) ∧ wr.heap[w.heap.size + 1]? = some (.cells #[.int .i64 0, .int .i64 0, .int .i64 0, .int .i64 0, .int .i64 0, .int .i64 0] 45) ∧ Below w.heap.size w wr) (fun kv _ => K - (intOf kv).toNat)
  case atStart => exact ⟨0, by omega, rfl, obj_alloc _ (obj_new _ _), obj_new1 _ _ _, by (repeat' (first | (with_reducible first | apply Zl1 | apply Zl2 | apply Zl3 | apply Zl4 | apply Zl5 | apply Zl6 | apply Zl7 | apply Zl8 | apply Zl9 | apply Zla | apply Zlb | apply Zlc) | (dsimp only; with_reducible first | apply Zl8 | apply Zl2 | apply Zld) | with_reducible assumption | omega | (dsimp only; omega)))⟩
  case round =>
    obtain ⟨k, hk, rfl, ho0, ho1, hB⟩ := hrel
    have HO0 := Lib.hid ho0
    have HO1 := Lib.hid ho1
    have hbs := hB.size
    have hl1 := obj_lt ho1
    clear ho0 ho1
    by_cases hkK : k < K
    · have hne := HV2.out k hkK
      have e0 : ((7 * (k : Int) % 12) != (n : Int)) = true := by rw [bne_iff_ne]; omega
      clear hne
      go_wp2
      go_roundw
      case rel => exact ⟨k + 1, by omega, by go_num, HO0.out, HO1.out, hB⟩
      case measure => simp [intOf]; omega
    · obtain rfl : k = K := by omega
      have hv := HV1.out
      have e0 : ((7 * (k : Int) % 12) != (n : Int)) = false := by rw [show (7 * (k : Int) % 12) = (n : Int) by omega]; simp
      clear hkK hk hv
      cases hs : suM c k with
      | none =>
        have HNR : Hid (noM c n = none) := Lib.hid (by rw [HNM.out, hs]; rfl)
        rw [hs, oV_none] at HSU
        clear hs
        go_wp2_with (refine wpList_ldC rfl _ rfl _ rfl (cirA c) HO0.out (cirA_size c) ?_)
        (with_reducible refine (HSU.out _).mono ?_)
        rintro _ _ ⟨rfl, d, rfl⟩
        have hds := d.size_le
        have hd1 := obj_bel d HO1.out
        · dsimp only
          have he1 := obj_alloc (.cells #[.int .i64 0, .int .i64 0, .int .i64 0, .int .i64 0, .int .i64 0, .int .i64 0] 45) hd1
          have hen := obj_new d.w (.cells #[.int .i64 0, .int .i64 0, .int .i64 0, .int .i64 0, .int .i64 0, .int .i64 0] 45)
          have heb : Below w.heap.size w (d.w.alloc (.cells #[.int .i64 0, .int .i64 0, .int .i64 0, .int .i64 0, .int .i64 0, .int .i64 0] 45)) := by (repeat' (first | (with_reducible first | apply Zl1 | apply Zl2 | apply Zl3 | apply Zl4 | apply Zl5 | apply Zl6 | apply Zl7 | apply Zl8 | apply Zl9 | apply Zla | apply Zlb | apply Zlc) | (dsimp only; with_reducible first | apply Zl8 | apply Zl2 | apply Zld) | with_reducible assumption | omega | (dsimp only; omega)))
          have hdl := obj_lt hd1
          obtain ⟨E, hE⟩ : ∃ E, d.w.alloc (.cells #[.int .i64 0, .int .i64 0, .int .i64 0, .int .i64 0, .int .i64 0, .int .i64 0] 45) = E := ⟨_, rfl⟩
          rw [hE] at he1 hen heb
          have HEQ := Lib.hid hE
          obtain ⟨b0, b1, b2, b3, b4, b5⟩ := froz6 he1
          obtain ⟨c0, c1, c2, c3, c4, c5⟩ := cells6 he1
          obtain ⟨f0, f1, f2, f3, f4, f5⟩ := froz6 hen
          obtain ⟨e0, e1, e2, e3, e4, e5⟩ := cells6 hen
          have HE1 := Lib.hid (obj_ne6 (.int .i64 0) (.int .i64 0) (.int .i64 0) (.int .i64 0) (.int .i64 0) (.int .i64 0) (show w.heap.size + 1 ≠ d.w.heap.size by omega) he1)
          clear hd1 he1 hen hE
          go_wp2_with (rw [HEQ.out])
          refine ret_obj (b := w.heap.size + 1) (vs := #[.int .i64 0, .int .i64 0, .int .i64 0, .int .i64 0, .int .i64 0, .int .i64 0]) (T := 45) (v := .tuple #[.agg #[.int .i64 0, .int .i64 0, .int .i64 0, .int .i64 0, .int .i64 0, .int .i64 0], .int .i64 4]) (obj_set6 _ _ _ _ _ _ HE1.out) (fun W' hW' => ?_) rfl ?_
          · obtain ⟨a0, a1, a2, a3, a4, a5⟩ := cells6 hW'
            simp [results, Tryz.results142, go_sem, a0, a1, a2, a3, a4, a5]
          · exact Ret.mk (by rw [← HRR.out, HNR.out]; rfl) (by (repeat' (first | (with_reducible first | apply Zl1 | apply Zl2 | apply Zl3 | apply Zl4 | apply Zl5 | apply Zl6 | apply Zl7 | apply Zl8 | apply Zl9 | apply Zla | apply Zlb | apply Zlc) | (dsimp only; with_reducible first | apply Zl8 | apply Zl2 | apply Zld) | with_reducible assumption | omega | (dsimp only; omega))))
      | some s =>
        have HNR : Hid (noM c n = lim1 (redS s) (redE s)) := Lib.hid (by rw [HNM.out, hs]; rfl)
        rw [hs, oV_some] at HSU
        have HRD := Lib.hid (fun w' hT => red_any s w' hT)
        have HLI := Lib.hid (fun w' => limited_any (redS s) (redE s) w')
        rw [szV s] at HRD
        generalize redS s = rs at *
        generalize redE s = re at *
        generalize redC s = rc at *
        generalize lim1 rs re = o at *
        rw [szV rs] at HRD HLI
        rw [tupO] at HLI
        obtain ⟨t, ht⟩ : ∃ t, oS o = t := ⟨_, rfl⟩
        obtain ⟨te, hte⟩ : ∃ te, oE o = te := ⟨_, rfl⟩
        rw [ht, hte] at HLI
        have HT := Lib.hid ht
        have HTE := Lib.hid hte
        clear hs ht hte
        go_wp2_with (refine wpList_ldC rfl _ rfl _ rfl (cirA c) HO0.out (cirA_size c) ?_)
        (with_reducible refine (HSU.out _).mono ?_)
        rintro _ _ ⟨rfl, d, rfl⟩
        have hds := d.size_le
        dsimp only
        go_wp2_with fail
        (with_reducible refine (HRD.out _ (HTA.out.of (by (repeat' (first | (with_reducible first | apply Zl1 | apply Zl2 | apply Zl3 | apply Zl4 | apply Zl5 | apply Zl6 | apply Zl7 | apply Zl8 | apply Zl9 | apply Zla | apply Zlb | apply Zlc) | (dsimp only; with_reducible first | apply Zl8 | apply Zl2 | apply Zld) | with_reducible assumption | omega | (dsimp only; omega)))))).mono ?_)
        rintro _ _ ⟨rfl, x, rfl⟩
        have hxs := x.size_le
        dsimp only
        go_wp2_with fail
        (with_reducible refine (HLI.out _).mono ?_)
        rintro _ _ ⟨rfl, z, rfl⟩
        have hzs := z.size_le
        have hz1 : z.w.heap[w.heap.size + 1]? = some (.cells #[.int .i64 0, .int .i64 0, .int .i64 0, .int .i64 0, .int .i64 0, .int .i64 0] 45) := by
          repeat' (with_reducible first | exact HO1.out | apply obj_bel | apply obj_alloc)
        have hzb : Below w.heap.size w z.w := by (repeat' (first | (with_reducible first | apply Zl1 | apply Zl2 | apply Zl3 | apply Zl4 | apply Zl5 | apply Zl6 | apply Zl7 | apply Zl8 | apply Zl9 | apply Zla | apply Zlb | apply Zlc) | (dsimp only; with_reducible first | apply Zl8 | apply Zl2 | apply Zld) | with_reducible assumption | omega | (dsimp only; omega)))
        obtain ⟨U, hU⟩ : ∃ U, z.w = U := ⟨_, rfl⟩
        rw [hU] at hz1 hzb ⊢
        clear hU
        obtain ⟨f0, f1, f2, f3, f4, f5⟩ := froz6 hz1
        obtain ⟨e0, e1, e2, e3, e4, e5⟩ := cells6 hz1
        have HZ1 := Lib.hid hz1
        clear hz1
        dsimp only
        go_wp2_with fail
        refine ret_obj (b := w.heap.size + 1) (vs := #[.int .i64 t.a.n, .int .i64 t.a.d, .int .i64 t.b.n, .int .i64 t.b.d, .int .i64 t.c.n, .int .i64 t.c.d]) (T := 45) (v := .tuple #[.agg #[.int .i64 t.a.n, .int .i64 t.a.d, .int .i64 t.b.n, .int .i64 t.b.d, .int .i64 t.c.n, .int .i64 t.c.d], .int .i64 te]) (obj_set6 _ _ _ _ _ _ HZ1.out) (fun W' hW' => ?_) rfl ?_
        · obtain ⟨a0, a1, a2, a3, a4, a5⟩ := cells6 hW'
          simp [results, Tryz.results142, go_sem, a0, a1, a2, a3, a4, a5]
        · exact Ret.mk (by rw [← HRR.out, HNR.out, tupO, HT.out, HTE.out]) (by (repeat' (first | (with_reducible first | apply Zl1 | apply Zl2 | apply Zl3 | apply Zl4 | apply Zl5 | apply Zl6 | apply Zl7 | apply Zl8 | apply Zl9 | apply Zla | apply Zlb | apply Zlc) | (dsimp only; with_reducible first | apply Zl8 | apply Zl2 | apply Zld) | with_reducible assumption | omega | (dsimp only; omega))))
/-- What a region keeps: a size, and the result's block, whose cells are written. -/
structure KeepF (w : World) (B : Nat) (ob : Obj) (O1 : Nat) (V : World) : Prop where
  bl : Below w.heap.size w V
  b : V.heap[B]? = some ob
  c1 : ∃ x0 x1 x2 x3 x4 x5, V.heap[O1]? = some (.cells #[x0, x1, x2, x3, x4, x5] 45)
theorem KeepF.bel {w : World} {B : Nat} {ob : Obj} {O1 : Nat} {V : World} (z : Bel V) (hw : w.heap.size ≤ V.heap.size) (h : KeepF w B ob O1 V) : KeepF w B ob O1 z.w :=
  ⟨Below.bel h.bl hw, obj_bel z h.b, (by obtain ⟨x0, x1, x2, x3, x4, x5, hx⟩ := h.c1; exact ⟨x0, x1, x2, x3, x4, x5, obj_bel z hx⟩)⟩
theorem KeepF.drew {w : World} {B : Nat} {ob : Obj} {O1 : Nat} {V : World} (h : KeepF w B ob O1 V) : KeepF w B ob O1 V.drew := ⟨h.bl.drew, h.b, h.c1⟩
theorem KeepF.set {w : World} {B : Nat} {ob : Obj} {O1 : Nat} {V : World} {i : Nat} {v : Value} (h : KeepF w B ob O1 V) (hi : i < 6) (hw : w.heap.size ≤ O1) (n1 : B ≠ O1) : KeepF w B ob O1 (V.setCell ⟨O1, i, none⟩ v) :=
  ⟨h.bl.setCell hw v, obj_ne _ n1 h.b, (by
    obtain ⟨x0, x1, x2, x3, x4, x5, hx⟩ := h.c1
    have h2 := obj_set (i := i) v hx
    rcases (show i = 0 ∨ i = 1 ∨ i = 2 ∨ i = 3 ∨ i = 4 ∨ i = 5 by omega) with rfl | rfl | rfl | rfl | rfl | rfl <;> exact ⟨_, _, _, _, _, _, h2⟩)⟩
def plM (c : Cir) (n : Nat) : Option Sz := (noM c (n % 12)).bind fun s => lim1 (opS addQ s (octS ((n : Int) / 12))) (opE addQ s (octS ((n : Int) / 12)))
set_option maxRecDepth 100000 in
set_option maxHeartbeats 6400000 in
theorem place_any (c : Cir) (n : Nat) (w : World) (hn : n ≤ 1000) (hT : I.Tab w) : Calls Tryz.prog 84 #[cirV c, .int .i64 (n : Int)] w (Ret (oV (plM c n)) w) := by
  have hVc : cirV c = .agg (cirA c) := rfl
  have HNO := Lib.hid (fun w' hT => note_any c (n % 12) w' (by omega) hT)
  rw [hVc, show ((n % 12 : Nat) : Int) = (n : Int) % 12 by omega] at HNO
  rw [hVc]
  have HTA := Lib.hid hT
  have HOC := Lib.hid (fun w' => octaves_any ((n : Int) / 12) w')
  generalize hRR : oV (plM c n) = RR at *
  have HRR := Lib.hid hRR
  have HNM : Hid (plM c n = (noM c (n % 12)).bind fun s => lim1 (opS addQ s (octS ((n : Int) / 12))) (opE addQ s (octS ((n : Int) / 12)))) := Lib.hid rfl
  obtain ⟨ov, hov⟩ : ∃ ov, octS ((n : Int) / 12) = ov := ⟨_, rfl⟩
  rw [hov] at HNM HOC
  rw [szV ov] at HOC
  clear hVc hRR hT hov
  have hn0 : (0 : Int) ≤ (n : Int) := by omega
  have hwq : IntKind.i64.wrap ((n : Int) / 12) = (n : Int) / 12 := IntWalk.i64_in _ (by omega)
  cases hs : noM c (n % 12) with
  | none =>
    have HNR : Hid (plM c n = none) := Lib.hid (by rw [HNM.out, hs]; rfl)
    rw [hs, oV_none] at HNO
    clear hs
    go_enter Tryz.func84, Tryz.ntmps84
    go_wp2_with (refine wpList_ldC rfl _ rfl _ rfl (cirA c) (obj_alloc _ (obj_new _ _)) (cirA_size c) ?_)
    (with_reducible refine (HNO.out _ (HTA.out.of (by (repeat' (first | (with_reducible first | apply Zl1 | apply Zl2 | apply Zl3 | apply Zl4 | apply Zl5 | apply Zl6 | apply Zl7 | apply Zl8 | apply Zl9 | apply Zla | apply Zlb | apply Zlc) | (dsimp only; with_reducible first | apply Zl8 | apply Zl2 | apply Zld) | with_reducible assumption | omega | (dsimp only; omega)))))).mono ?_)
    rintro _ _ ⟨rfl, d, rfl⟩
    have hds := d.size_le
    rw [World.size_alloc, World.size_alloc] at hds
    have hd1 := obj_bel d (obj_new1 w (.cells (cirA c) 36) (.cells #[.int .i64 0, .int .i64 0, .int .i64 0, .int .i64 0, .int .i64 0, .int .i64 0] 45))
    · dsimp only
      have he1 := obj_alloc (.cells #[.int .i64 0, .int .i64 0, .int .i64 0, .int .i64 0, .int .i64 0, .int .i64 0] 45) hd1
      have hen := obj_new d.w (.cells #[.int .i64 0, .int .i64 0, .int .i64 0, .int .i64 0, .int .i64 0, .int .i64 0] 45)
      have heb : Below w.heap.size w (d.w.alloc (.cells #[.int .i64 0, .int .i64 0, .int .i64 0, .int .i64 0, .int .i64 0, .int .i64 0] 45)) := by (repeat' (first | (with_reducible first | apply Zl1 | apply Zl2 | apply Zl3 | apply Zl4 | apply Zl5 | apply Zl6 | apply Zl7 | apply Zl8 | apply Zl9 | apply Zla | apply Zlb | apply Zlc) | (dsimp only; with_reducible first | apply Zl8 | apply Zl2 | apply Zld) | with_reducible assumption | omega | (dsimp only; omega)))
      have hdl := obj_lt hd1
      obtain ⟨E, hE⟩ : ∃ E, d.w.alloc (.cells #[.int .i64 0, .int .i64 0, .int .i64 0, .int .i64 0, .int .i64 0, .int .i64 0] 45) = E := ⟨_, rfl⟩
      rw [hE] at he1 hen heb
      have HEQ := Lib.hid hE
      obtain ⟨b0, b1, b2, b3, b4, b5⟩ := froz6 he1
      obtain ⟨c0, c1, c2, c3, c4, c5⟩ := cells6 he1
      obtain ⟨f0, f1, f2, f3, f4, f5⟩ := froz6 hen
      obtain ⟨e0, e1, e2, e3, e4, e5⟩ := cells6 hen
      have HE1 := Lib.hid (obj_ne6 (.int .i64 0) (.int .i64 0) (.int .i64 0) (.int .i64 0) (.int .i64 0) (.int .i64 0) (show w.heap.size + 1 ≠ d.w.heap.size by omega) he1)
      clear hd1 he1 hen hE
      go_wp2_with (rw [HEQ.out])
      refine ret_obj (b := w.heap.size + 1) (vs := #[.int .i64 0, .int .i64 0, .int .i64 0, .int .i64 0, .int .i64 0, .int .i64 0]) (T := 45) (v := .tuple #[.agg #[.int .i64 0, .int .i64 0, .int .i64 0, .int .i64 0, .int .i64 0, .int .i64 0], .int .i64 4]) (obj_set6 _ _ _ _ _ _ HE1.out) (fun W' hW' => ?_) rfl ?_
      · obtain ⟨a0, a1, a2, a3, a4, a5⟩ := cells6 hW'
        simp [results, Tryz.results84, go_sem, a0, a1, a2, a3, a4, a5]
      · exact Ret.mk (by rw [← HRR.out, HNR.out]; rfl) (by (repeat' (first | (with_reducible first | apply Zl1 | apply Zl2 | apply Zl3 | apply Zl4 | apply Zl5 | apply Zl6 | apply Zl7 | apply Zl8 | apply Zl9 | apply Zla | apply Zlb | apply Zlc) | (dsimp only; with_reducible first | apply Zl8 | apply Zl2 | apply Zld) | with_reducible assumption | omega | (dsimp only; omega))))
  | some s =>
    have HNR : Hid (plM c n = lim1 (opS addQ s ov) (opE addQ s ov)) := Lib.hid (by rw [HNM.out, hs]; rfl)
    rw [hs, oV_some] at HNO
    have HAD := Lib.hid (fun w' => iadd_any s ov w')
    have HLI := Lib.hid (fun w' => limited_any (opS addQ s ov) (opE addQ s ov) w')
    rw [szV s, szV ov] at HAD
    generalize opS addQ s ov = rs at *
    generalize opE addQ s ov = re at *
    generalize lim1 rs re = o at *
    rw [szV rs] at HAD HLI
    rw [tupO] at HLI
    obtain ⟨t, ht⟩ : ∃ t, oS o = t := ⟨_, rfl⟩
    obtain ⟨te, hte⟩ : ∃ te, oE o = te := ⟨_, rfl⟩
    rw [ht, hte] at HLI
    have HT := Lib.hid ht
    have HTE := Lib.hid hte
    clear hs ht hte
    go_enter Tryz.func84, Tryz.ntmps84
    go_wp2_with (refine wpList_ldC rfl _ rfl _ rfl (cirA c) (obj_alloc _ (obj_new _ _)) (cirA_size c) ?_)
    (with_reducible refine (HNO.out _ (HTA.out.of (by (repeat' (first | (with_reducible first | apply Zl1 | apply Zl2 | apply Zl3 | apply Zl4 | apply Zl5 | apply Zl6 | apply Zl7 | apply Zl8 | apply Zl9 | apply Zla | apply Zlb | apply Zlc) | (dsimp only; with_reducible first | apply Zl8 | apply Zl2 | apply Zld) | with_reducible assumption | omega | (dsimp only; omega)))))).mono ?_)
    rintro _ _ ⟨rfl, d, rfl⟩
    have hds := d.size_le
    rw [World.size_alloc, World.size_alloc] at hds
    dsimp only
    go_wp2_with fail
    have hy1 := obj_alloc (.cells #[.int .i64 s.a.n, .int .i64 s.a.d, .int .i64 s.b.n, .int .i64 s.b.d, .int .i64 s.c.n, .int .i64 s.c.d] 45) (obj_bel d (obj_new1 w (.cells (cirA c) 36) (.cells #[.int .i64 0, .int .i64 0, .int .i64 0, .int .i64 0, .int .i64 0, .int .i64 0] 45)))
    have hy2 := obj_new d.w (.cells #[.int .i64 s.a.n, .int .i64 s.a.d, .int .i64 s.b.n, .int .i64 s.b.d, .int .i64 s.c.n, .int .i64 s.c.d] 45)
    have hyb : Below w.heap.size w (d.w.alloc (.cells #[.int .i64 s.a.n, .int .i64 s.a.d, .int .i64 s.b.n, .int .i64 s.b.d, .int .i64 s.c.n, .int .i64 s.c.d] 45)) := by (repeat' (first | (with_reducible first | apply Zl1 | apply Zl2 | apply Zl3 | apply Zl4 | apply Zl5 | apply Zl6 | apply Zl7 | apply Zl8 | apply Zl9 | apply Zla | apply Zlb | apply Zlc) | (dsimp only; with_reducible first | apply Zl8 | apply Zl2 | apply Zld) | with_reducible assumption | omega | (dsimp only; omega)))
    generalize d.w.alloc (.cells #[.int .i64 s.a.n, .int .i64 s.a.d, .int .i64 s.b.n, .int .i64 s.b.d, .int .i64 s.c.n, .int .i64 s.c.d] 45) = Y at *
    generalize d.w.heap.size = SB at *
    obtain ⟨KE, hKE⟩ : ∃ KE : World → Prop, KE = KeepF w SB (.cells #[.int .i64 s.a.n, .int .i64 s.a.d, .int .i64 s.b.n, .int .i64 s.b.d, .int .i64 s.c.n, .int .i64 s.c.d] 45) (w.heap.size + 1) := ⟨_, rfl⟩
    have hK0 : KE Y := by rw [hKE]; exact ⟨hyb, hy2, ⟨_, _, _, _, _, _, hy1⟩⟩
    have hYw := hyb.size
    have KB := Lib.hid (show ∀ (V : World) (z : Bel V), KE V → Y.heap.size ≤ V.heap.size → KE z.w from fun V z h h2 => by rw [hKE] at h ⊢; exact KeepF.bel z (by omega) h)
    have KD := Lib.hid (show ∀ (V : World), KE V → KE V.drew from fun V h => by rw [hKE] at h ⊢; exact KeepF.drew h)
    have KS := Lib.hid (show ∀ (V : World) (i : Nat) (v : Value), i < 6 → KE V → KE (V.setCell ⟨w.heap.size + 1, i, none⟩ v) from fun V i v hi h => by rw [hKE] at h ⊢; exact KeepF.set h hi (by omega) (by omega))
    have KR := Lib.hid (show ∀ (V : World), KE V → KeepF w SB (.cells #[.int .i64 s.a.n, .int .i64 s.a.d, .int .i64 s.b.n, .int .i64 s.b.d, .int .i64 s.c.n, .int .i64 s.c.d] 45) (w.heap.size + 1) V from fun V h => by rw [hKE] at h; exact h)
    have SK := Lib.hid (show ∀ V : World, KE V ∧ Y.heap.size ≤ V.heap.size → V.cell? ⟨SB, 0, none⟩ = some (.int .i64 s.a.n) ∧ V.cell? ⟨SB, 1, none⟩ = some (.int .i64 s.a.d) ∧ V.cell? ⟨SB, 2, none⟩ = some (.int .i64 s.b.n) ∧ V.cell? ⟨SB, 3, none⟩ = some (.int .i64 s.b.d) ∧ V.cell? ⟨SB, 4, none⟩ = some (.int .i64 s.c.n) ∧ V.cell? ⟨SB, 5, none⟩ = some (.int .i64 s.c.d) ∧ KE V ∧ Y.heap.size ≤ V.heap.size from
      fun V h => have hb := (KR.out V h.1).b; ⟨(made_cell hb 0).1, (made_cell hb 1).1, (made_cell hb 2).1, (made_cell hb 3).1, (made_cell hb 4).1, (made_cell hb 5).1, h⟩)
    obtain ⟨i0, i1, i2, i3, i4, i5, _⟩ := SK.out Y ⟨hK0, Nat.le_refl _⟩
    clear hKE hy1 hy2 hyb
    go_region_held3 (fun V => V.cell? ⟨SB, 0, none⟩ = some (.int .i64 s.a.n) ∧ V.cell? ⟨SB, 1, none⟩ = some (.int .i64 s.a.d) ∧ V.cell? ⟨SB, 2, none⟩ = some (.int .i64 s.b.n) ∧ V.cell? ⟨SB, 3, none⟩ = some (.int .i64 s.b.d) ∧ V.cell? ⟨SB, 4, none⟩ = some (.int .i64 s.c.n) ∧ V.cell? ⟨SB, 5, none⟩ = some (.int .i64 s.c.d) ∧ KE V ∧ Y.heap.size ≤ V.heap.size) (exact SK.out _ (by (repeat' (first | with_reducible assumption | apply And.intro | (with_reducible apply KD.out) | (with_reducible apply KB.out) | (with_reducible apply KS.out) | (with_reducible first | apply Zl2 | apply Zlb | apply Zla | apply Zl8 | apply Zlc) | omega | decide)))) (first | (go_at_call 98; refine (HOC.out _).mono ?_; rintro _ _ ⟨rfl, u, rfl⟩; have hus := u.size_le) | (go_at_call 143; refine (HAD.out _).mono ?_; rintro _ _ ⟨rfl, x, rfl⟩; have hxs := x.size_le) | (go_at_call 41; refine (HLI.out _).mono ?_; rintro _ _ ⟨rfl, z, rfl⟩; have hzs := z.size_le; have hKz := KB.out _ z (by (repeat' (first | with_reducible assumption | (with_reducible apply KD.out) | (with_reducible apply KB.out) | (with_reducible first | apply Zl2 | apply Zlb | apply Zl8 | apply Zlc) | omega))) (by (repeat' (first | with_reducible assumption | (with_reducible first | apply Zl2 | apply Zlb | apply Zl8 | apply Zlc) | omega))); obtain ⟨x0, x1, x2, x3, x4, x5, hO1⟩ := (KR.out _ hKz).c1; obtain ⟨f0, f1, f2, f3, f4, f5⟩ := froz6 hO1; obtain ⟨e0, e1, e2, e3, e4, e5⟩ := cells6 hO1; have HO1 := Lib.hid hO1; clear hO1))
    all_goals
      rename_i hHeld
      have hE := KR.out _ hHeld.2.2.2.2.2.2.1
      have hN1 := obj_set6 (.int .i64 t.a.n) (.int .i64 t.a.d) (.int .i64 t.b.n) (.int .i64 t.b.d) (.int .i64 t.c.n) (.int .i64 t.c.d) HO1.out
      have HN1 := Lib.hid hN1
      have hbl := hE.bl
      clear hHeld hN1 e0 e1 e2 e3 e4 e5 f0 f1 f2 f3 f4 f5 i0 i1 i2 i3 i4 i5 KB KD KS KR SK hK0 HO1 hE
      go_wp2_with fail
      refine ret_obj (b := w.heap.size + 1) (vs := #[.int .i64 t.a.n, .int .i64 t.a.d, .int .i64 t.b.n, .int .i64 t.b.d, .int .i64 t.c.n, .int .i64 t.c.d]) (T := 45) (v := .tuple #[.agg #[.int .i64 t.a.n, .int .i64 t.a.d, .int .i64 t.b.n, .int .i64 t.b.d, .int .i64 t.c.n, .int .i64 t.c.d], .int .i64 te]) HN1.out (fun W' hW' => ?_) rfl ?_
      · obtain ⟨a0, a1, a2, a3, a4, a5⟩ := cells6 hW'
        simp [results, Tryz.results84, go_sem, a0, a1, a2, a3, a4, a5]
      · exact Ret.mk (by rw [← HRR.out, HNR.out, tupO, HT.out, HTE.out]) hbl
end Go.Proofs.YtehgeoipbgpocaaGreatDoor
