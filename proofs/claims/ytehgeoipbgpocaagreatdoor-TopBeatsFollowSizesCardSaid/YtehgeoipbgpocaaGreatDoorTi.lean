/- Circles of fifths: Closes, Error. -/
import Derived.Test.YtehgeoipbgpocaaGreatDoorTh
namespace Go.Proofs.YtehgeoipbgpocaaGreatDoor
set_option linter.unusedVariables false
set_option linter.unusedSimpArgs false
open Go.RowKit
attribute [local go_sem low] Bel.cell Bel.frozen alloc_cell alloc_frozen
attribute [local go_sem] calmOp chainOp yieldsC grows

def closesC (c : Cir) : Bool := decide (reM c = some uniS)
set_option maxRecDepth 100000 in
set_option maxHeartbeats 6400000 in
theorem closes_any (c : Cir) (w : World) (hC : chkC c = 0) : Calls Tryz.prog 16 #[cirV c] w (Ret (.tuple #[.bool (closesC c), .int .i64 (oE (reM c))]) w) := by
  have hVc : cirV c = .agg (cirA c) := rfl
  have HRE := Lib.hid (fun w' => rest_any c w' hC)
  rw [hVc] at HRE ⊢
  have HUN := Lib.hid (fun w' => n_uni w')
  rw [szV] at HUN
  have hg := guard_size
  clear hVc hC
  cases hs : reM c with
  | none =>
    have HF : Hid (closesC c = false) := Lib.hid (by unfold closesC; rw [hs]; rfl)
    have HE : Hid (oE (none : Option Sz) = 4) := Lib.hid rfl
    rw [hs, oV_none] at HRE
    generalize closesC c = CL at *
    generalize oE none = EE at *
    clear hs
    go_enter Tryz.func16, Tryz.ntmps16
    go_wp2_with (refine wpList_ldC rfl _ rfl _ rfl (cirA c) (obj_new _ _) (cirA_size c) ?_)
    (with_reducible refine (HRE.out _).mono ?_)
    rintro _ _ ⟨rfl, d, rfl⟩
    have hds := d.size_le
    dsimp only
    go_wp2_with fail
    refine wp_region_bel (by kernel_rfl) (by kernel_rfl) ?_
    repeat (go_big_quiet_step ((go_at_call 53; exact bel_of (HUN.out _))))
    refine wpQuiet_nil ?_
    rintro _ ⟨z, rfl⟩
    go_wp2
    refine bodyPost_ret (v := .tuple #[.bool false, .int .i64 4]) (by simp [results, Tryz.results16, go_sem]) rfl (Ret.mk (by rw [HF.out, HE.out]) (by (repeat' (first | (with_reducible first | apply Zl1 | apply Zl2 | apply Zl3 | apply Zl4 | apply Zl5 | apply Zl6 | apply Zl7 | apply Zl8 | apply Zl9 | apply Zla | apply Zlb | apply Zlc) | (dsimp only; with_reducible first | apply Zl8 | apply Zl2 | apply Zld) | with_reducible assumption | omega | (dsimp only; omega)))))
  | some s =>
    have HE : Hid (oE (some s) = 0) := Lib.hid rfl
    rw [hs, oV_some] at HRE
    have heq := run_eq_size s uniS
    rw [szV s, szV uniS] at heq
    have HF : Hid (closesC c = decide (s = uniS)) := Lib.hid (by unfold closesC; rw [hs]; simp)
    generalize decide (s = uniS) = bb at *
    generalize closesC c = CL at *
    generalize oE (some s) = EE at *
    generalize uniS = us at *
    clear hs
    go_enter Tryz.func16, Tryz.ntmps16
    go_wp2_with (refine wpList_ldC rfl _ rfl _ rfl (cirA c) (obj_new _ _) (cirA_size c) ?_)
    (with_reducible refine (HRE.out _).mono ?_)
    rintro _ _ ⟨rfl, d, rfl⟩
    have hds := d.size_le
    dsimp only
    go_wp2_with fail
    refine wp_region_bel (by kernel_rfl) (by kernel_rfl) ?_
    repeat (go_big_quiet_step ((go_at_call 53; exact bel_of (HUN.out _))))
    refine wpQuiet_nil ?_
    rintro _ ⟨z, rfl⟩
    go_wp2
    refine bodyPost_ret (v := .tuple #[.bool bb, .int .i64 0]) (by simp [results, Tryz.results16, go_sem]) rfl (Ret.mk (by rw [HF.out, HE.out]) (by (repeat' (first | (with_reducible first | apply Zl1 | apply Zl2 | apply Zl3 | apply Zl4 | apply Zl5 | apply Zl6 | apply Zl7 | apply Zl8 | apply Zl9 | apply Zla | apply Zlb | apply Zlc) | (dsimp only; with_reducible first | apply Zl8 | apply Zl2 | apply Zld) | with_reducible assumption | omega | (dsimp only; omega)))))
def erM (c : Cir) (n k : Nat) (z : Sz) : Option Sz := (btM c n (n + k)).bind fun s => lim1 (opS subQ s z) (opE subQ s z)
set_option maxRecDepth 100000 in
set_option maxHeartbeats 6400000 in
theorem tError_any (c : Cir) (n k : Nat) (z : Sz) (w : World) (hC : chkC c = 0) (hn : n ≤ 11) (hk : k ≤ 36) (hz : z.chk = 0) (hT : I.Tab w) : Calls Tryz.prog 11 #[cirV c, .int .i64 (n : Int), .int .i64 (k : Int), z.V] w (Ret (oV (erM c n k z)) w) := by
  have hVc : cirV c = .agg (cirA c) := rfl
  have HBT := Lib.hid (fun w' hT => between_any c n (n + k) w' (by omega) (by omega) hT)
  rw [hVc, show ((n + k : Nat) : Int) = (n : Int) + (k : Int) by omega] at HBT
  rw [hVc, szV z]
  have HTA := Lib.hid hT
  have HAB := Lib.hid (fun w' => above_any c k w' hC hk)
  have HIC := Lib.hid (fun w' => icheck_any z w')
  rw [hz, szV z] at HIC
  generalize hRR : oV (erM c n k z) = RR at *
  have HRR := Lib.hid hRR
  have HNM : Hid (erM c n k z = (btM c n (n + k)).bind fun s => lim1 (opS subQ s z) (opE subQ s z)) := Lib.hid rfl
  clear hVc hRR hC hz hT
  have f1 : decide ((n : Int) < 0) = false := decide_eq_false (by omega)
  have f2 : decide (11 < (n : Int)) = false := decide_eq_false (by omega)
  have hwn : IntKind.i64.wrap ((n : Int) + (k : Int)) = (n : Int) + (k : Int) := IntWalk.i64_in _ (by omega)
  cases hs : btM c n (n + k) with
  | none =>
    have HNR : Hid (erM c n k z = none) := Lib.hid (by rw [HNM.out, hs]; rfl)
    rw [hs, oV_none] at HBT
    clear hs
    go_enter Tryz.func11, Tryz.ntmps11
    go_wp2_with (refine wpList_ldC rfl _ rfl _ rfl (cirA c) (obj_alloc _ (obj_alloc _ (obj_new _ _))) (cirA_size c) ?_)
    (with_reducible refine (HAB.out _).mono ?_)
    rintro _ _ ⟨rfl, x, rfl⟩
    have hxs := x.size_le
    rw [World.size_alloc, World.size_alloc, World.size_alloc] at hxs
    dsimp only
    go_wp2_with fail
    (with_reducible refine (HIC.out _).mono ?_)
    rintro _ _ ⟨rfl, y, rfl⟩
    have hys := y.size_le
    dsimp only
    go_wp2_with (refine wpList_ldC rfl _ rfl _ rfl (cirA c) (obj_bel y (obj_bel x (obj_alloc _ (obj_alloc _ (obj_new _ _))))) (cirA_size c) ?_)
    (with_reducible refine (HBT.out _ (HTA.out.of (by (repeat' (first | (with_reducible first | apply Zl1 | apply Zl2 | apply Zl3 | apply Zl4 | apply Zl5 | apply Zl6 | apply Zl7 | apply Zl8 | apply Zl9 | apply Zla | apply Zlb | apply Zlc) | (dsimp only; with_reducible first | apply Zl8 | apply Zl2 | apply Zld) | with_reducible assumption | omega | (dsimp only; omega)))))).mono ?_)
    rintro _ _ ⟨rfl, d, rfl⟩
    have hds := d.size_le
    have hd1 := obj_bel d (obj_bel y (obj_bel x (obj_new2 w (.cells (cirA c) 36) (.cells #[.int .i64 z.a.n, .int .i64 z.a.d, .int .i64 z.b.n, .int .i64 z.b.d, .int .i64 z.c.n, .int .i64 z.c.d] 45) (.cells #[.int .i64 0, .int .i64 0, .int .i64 0, .int .i64 0, .int .i64 0, .int .i64 0] 45))))
    · dsimp only
      have he1 := obj_alloc (.cells #[.int .i64 0, .int .i64 0, .int .i64 0, .int .i64 0, .int .i64 0, .int .i64 0] 45) hd1
      have hen := obj_new d.w (.cells #[.int .i64 0, .int .i64 0, .int .i64 0, .int .i64 0, .int .i64 0, .int .i64 0] 45)
      have heb : Below w.heap.size w (d.w.alloc (.cells #[.int .i64 0, .int .i64 0, .int .i64 0, .int .i64 0, .int .i64 0, .int .i64 0] 45)) := by (repeat' (first | (with_reducible first | apply Zl1 | apply Zl2 | apply Zl3 | apply Zl4 | apply Zl5 | apply Zl6 | apply Zl7 | apply Zl8 | apply Zl9 | apply Zla | apply Zlb | apply Zlc) | (dsimp only; with_reducible first | apply Zl8 | apply Zl2 | apply Zld) | with_reducible assumption | omega | (dsimp only; omega)))
      have hdl := obj_lt hd1
      obtain ⟨E, hE⟩ : ∃ E, d.w.alloc (.cells #[.int .i64 0, .int .i64 0, .int .i64 0, .int .i64 0, .int .i64 0, .int .i64 0] 45) = E := ⟨_, rfl⟩
      rw [hE] at he1 hen heb
      have HEQ := Lib.hid hE
      obtain ⟨b0, b1, b2, b3, b4, b5⟩ := froz6 he1
      obtain ⟨c0, c1, c2, c3, c4, c5⟩ := cells6 he1
      obtain ⟨f0, f1, f2, f3, f4, f5⟩ := froz6 hen
      obtain ⟨e0, e1, e2, e3, e4, e5⟩ := cells6 hen
      have HE1 := Lib.hid (obj_ne6 (.int .i64 0) (.int .i64 0) (.int .i64 0) (.int .i64 0) (.int .i64 0) (.int .i64 0) (show w.heap.size + 2 ≠ d.w.heap.size by omega) he1)
      clear hd1 he1 hen hE
      go_wp2_with (rw [HEQ.out])
      refine ret_obj (b := w.heap.size + 2) (vs := #[.int .i64 0, .int .i64 0, .int .i64 0, .int .i64 0, .int .i64 0, .int .i64 0]) (T := 45) (v := .tuple #[.agg #[.int .i64 0, .int .i64 0, .int .i64 0, .int .i64 0, .int .i64 0, .int .i64 0], .int .i64 4]) (obj_set6 _ _ _ _ _ _ HE1.out) (fun W' hW' => ?_) rfl ?_
      · obtain ⟨a0, a1, a2, a3, a4, a5⟩ := cells6 hW'
        simp [results, Tryz.results11, go_sem, a0, a1, a2, a3, a4, a5]
      · exact Ret.mk (by rw [← HRR.out, HNR.out]; rfl) (by (repeat' (first | (with_reducible first | apply Zl1 | apply Zl2 | apply Zl3 | apply Zl4 | apply Zl5 | apply Zl6 | apply Zl7 | apply Zl8 | apply Zl9 | apply Zla | apply Zlb | apply Zlc) | (dsimp only; with_reducible first | apply Zl8 | apply Zl2 | apply Zld) | with_reducible assumption | omega | (dsimp only; omega))))
  | some s =>
    have HNR : Hid (erM c n k z = lim1 (opS subQ s z) (opE subQ s z)) := Lib.hid (by rw [HNM.out, hs]; rfl)
    rw [hs, oV_some] at HBT
    have HAD := Lib.hid (fun w' => isub_any s z w')
    have HLI := Lib.hid (fun w' => limited_any (opS subQ s z) (opE subQ s z) w')
    rw [szV s, szV z] at HAD
    generalize opS subQ s z = rs at *
    generalize opE subQ s z = re at *
    generalize lim1 rs re = o at *
    rw [szV rs] at HAD HLI
    rw [tupO] at HLI
    obtain ⟨t, ht⟩ : ∃ t, oS o = t := ⟨_, rfl⟩
    obtain ⟨te, hte⟩ : ∃ te, oE o = te := ⟨_, rfl⟩
    rw [ht, hte] at HLI
    have HT := Lib.hid ht
    have HTE := Lib.hid hte
    clear hs ht hte
    go_enter Tryz.func11, Tryz.ntmps11
    go_wp2_with (refine wpList_ldC rfl _ rfl _ rfl (cirA c) (obj_alloc _ (obj_alloc _ (obj_new _ _))) (cirA_size c) ?_)
    (with_reducible refine (HAB.out _).mono ?_)
    rintro _ _ ⟨rfl, x, rfl⟩
    have hxs := x.size_le
    rw [World.size_alloc, World.size_alloc, World.size_alloc] at hxs
    dsimp only
    go_wp2_with fail
    (with_reducible refine (HIC.out _).mono ?_)
    rintro _ _ ⟨rfl, y, rfl⟩
    have hys := y.size_le
    dsimp only
    go_wp2_with (refine wpList_ldC rfl _ rfl _ rfl (cirA c) (obj_bel y (obj_bel x (obj_alloc _ (obj_alloc _ (obj_new _ _))))) (cirA_size c) ?_)
    (with_reducible refine (HBT.out _ (HTA.out.of (by (repeat' (first | (with_reducible first | apply Zl1 | apply Zl2 | apply Zl3 | apply Zl4 | apply Zl5 | apply Zl6 | apply Zl7 | apply Zl8 | apply Zl9 | apply Zla | apply Zlb | apply Zlc) | (dsimp only; with_reducible first | apply Zl8 | apply Zl2 | apply Zld) | with_reducible assumption | omega | (dsimp only; omega)))))).mono ?_)
    rintro _ _ ⟨rfl, d, rfl⟩
    have hds := d.size_le
    dsimp only
    go_wp2_with fail
    (with_reducible refine (HAD.out _).mono ?_)
    rintro _ _ ⟨rfl, u, rfl⟩
    have hus := u.size_le
    dsimp only
    go_wp2_with fail
    (with_reducible refine (HLI.out _).mono ?_)
    rintro _ _ ⟨rfl, z, rfl⟩
    have hzs := z.size_le
    have hz1 : z.w.heap[w.heap.size + 2]? = some (.cells #[.int .i64 0, .int .i64 0, .int .i64 0, .int .i64 0, .int .i64 0, .int .i64 0] 45) := by
      repeat' (with_reducible first | exact obj_new2 _ _ _ _ | apply obj_bel | apply obj_alloc)
    have hzb : Below w.heap.size w z.w := by (repeat' (first | (with_reducible first | apply Zl1 | apply Zl2 | apply Zl3 | apply Zl4 | apply Zl5 | apply Zl6 | apply Zl7 | apply Zl8 | apply Zl9 | apply Zla | apply Zlb | apply Zlc) | (dsimp only; with_reducible first | apply Zl8 | apply Zl2 | apply Zld) | with_reducible assumption | omega | (dsimp only; omega)))
    obtain ⟨U, hU⟩ : ∃ U, z.w = U := ⟨_, rfl⟩
    rw [hU] at hz1 hzb ⊢
    clear hU
    obtain ⟨f0, f1, f2, f3, f4, f5⟩ := froz6 hz1
    obtain ⟨e0, e1, e2, e3, e4, e5⟩ := cells6 hz1
    have HZ1 := Lib.hid hz1
    clear hz1
    dsimp only
    go_wp2_with fail
    refine ret_obj (b := w.heap.size + 2) (vs := #[.int .i64 t.a.n, .int .i64 t.a.d, .int .i64 t.b.n, .int .i64 t.b.d, .int .i64 t.c.n, .int .i64 t.c.d]) (T := 45) (v := .tuple #[.agg #[.int .i64 t.a.n, .int .i64 t.a.d, .int .i64 t.b.n, .int .i64 t.b.d, .int .i64 t.c.n, .int .i64 t.c.d], .int .i64 te]) (obj_set6 _ _ _ _ _ _ HZ1.out) (fun W' hW' => ?_) rfl ?_
    · obtain ⟨a0, a1, a2, a3, a4, a5⟩ := cells6 hW'
      simp [results, Tryz.results11, go_sem, a0, a1, a2, a3, a4, a5]
    · exact Ret.mk (by rw [← HRR.out, HNR.out, tupO, HT.out, HTE.out]) (by (repeat' (first | (with_reducible first | apply Zl1 | apply Zl2 | apply Zl3 | apply Zl4 | apply Zl5 | apply Zl6 | apply Zl7 | apply Zl8 | apply Zl9 | apply Zla | apply Zlb | apply Zlc) | (dsimp only; with_reducible first | apply Zl8 | apply Zl2 | apply Zld) | with_reducible assumption | omega | (dsimp only; omega))))
end Go.Proofs.YtehgeoipbgpocaaGreatDoor
