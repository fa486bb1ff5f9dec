/- The walk of DiagramCanonical. -/
import Derived.Test.YtkdmhjlcgpnjpaaGreatDoorX28
import Derived.Test.YtkdmhjlcgpnjpaaGreatDoorXT
import Derived.Test.YtkdmhjlcgpnjpaaGreatDoorK2
import Derived.Test.YtkdmhjlcgpnjpaaGreatDoorE1
import Derived.Test.YtkdmhjlcgpnjpaaGreatDoorFv
namespace Go.Proofs.YtkdmhjlcgpnjpaaGreatDoor
set_option linter.unusedVariables false
set_option linter.unusedSimpArgs false
open Go.RowKit Go.Maps F
attribute [local go_sem low] Bel.cell Bel.frozen alloc_cell alloc_frozen
attribute [local go_sem] calmOp chainOp yieldsC grows

theorem ofTab {t : F} (hok : okT t) (h6 : inV 6 (pre t)) (hn : nodes t ≤ 700) (hl : levels t ≤ 100) (P : Nat → Prop) (ad : Option Addr) (cap : Nat) (w : World) (hi : InsF P w ad t.l) :
    Calls Tryz.prog 15 #[.agg #[.int .i64 t.k, .int .i64 t.a, .slice ad t.l.length cap]] w (RetDg (bldN (tabF t)) (bldR (tabF t)) w) :=
  (Of_ok P t ad cap w hi hok h6 hn (checkF_ok.2 ⟨decide_eq_true (by omega), hok⟩)).mono fun _ _ h => retC_table h (tabF_lt t) (fun ρ => vt_tab hok h6 ρ)
theorem len_rise : ∀ {l : List Int} {a b : Int}, l.Pairwise (· < ·) → (∀ x ∈ l, a ≤ x ∧ x < b) → l.length ≤ (b - a).toNat
  | [], _, _, _, _ => Nat.zero_le _
  | x :: r, a, b, hs, hr => by
    rw [List.pairwise_cons] at hs
    have h0 := hr x (List.mem_cons_self ..)
    have := len_rise (l := r) (a := x + 1) (b := b) hs.2 fun y hy => ⟨by have := hs.1 y hy; omega, (hr y (List.mem_cons_of_mem _ hy)).2⟩
    rw [List.length_cons]
    omega
theorem occ_six {t : F} (ht : okT t) (h6 : inV 6 (pre t)) {x : Int} (h : occ x t = true) : 0 ≤ x ∧ x < 6 := by
  obtain ⟨u, hu, hk, ha⟩ := (occ_iff x t ht).1 h
  have := h6 u hu hk
  omega
/-- The diagrams of two tables are equal exactly if the tables are. -/
theorem bld_same {t u : Nat} (ht : t < 2 ^ 64) (hu : u < 2 ^ 64) : (bldR t = bldR u ∧ bldN t = bldN u) ↔ t = u := by
  refine ⟨fun h => ?_, fun h => by rw [h]; exact ⟨rfl, rfl⟩⟩
  have h1 := (bld_ok ht).2.1
  have h2 := (bld_ok hu).2.1
  rw [← h.1, ← h.2] at h2
  exact rep3_table h1 h2 ht hu
theorem tab_same {t u : F} : tabF t = tabF u ↔ ∀ v : Nat, v < 64 → val (envB v) t = val (envB v) u := by
  refine ⟨fun h v hv => ?_, fun h => table_eq (tabF_lt t) (tabF_lt u) fun v hv => ?_⟩
  · have e := congrArg (fun z => z.testBit v) h
    dsimp only [tabF] at e
    rw [ofB_test, ofB_test, decide_eq_true hv, Bool.true_and, Bool.true_and] at e
    exact e
  · unfold tabF
    rw [ofB_test, ofB_test, decide_eq_true hv, Bool.true_and, Bool.true_and]
    exact h v hv
theorem eqD_gen (M N : List (Nat × Nat × Nat)) (r s : Nat) (a1 a2 : Option Addr) (c1 c2 : Nat) (w : World) (h1 : InD w.heap.size w a1 (M.map z3)) (h2 : InD w.heap.size w a2 (N.map z3)) (hl : M.length ≤ 1000000) (hm : N.length ≤ 1000000) (b : Bool) (hb : b = true ↔ (r = s ∧ M = N)) :
    Calls Tryz.prog 34 #[.agg #[.slice a1 M.length c1, .int .i64 (r : Int)], .agg #[.slice a2 N.length c2, .int .i64 (s : Int)]] w (Ret (.bool b) w) := by
  have h := dEqual_any (a1, c1, M.map z3, (r : Int)) (a2, c2, N.map z3, (s : Int)) w h1 h2 (by simpa using hl) (by simpa using hm)
  have hd : decide (((r : Int) = (s : Int)) ∧ M.map z3 = N.map z3) = b := by
    have hz : M.map z3 = N.map z3 ↔ M = N := ⟨fun e => by have := congrArg (List.map n3) e; rwa [n3_map, n3_map] at this, fun e => by rw [e]⟩
    have hiff : (((r : Int) = (s : Int)) ∧ M.map z3 = N.map z3) ↔ (r = s ∧ M = N) := by rw [hz, Int.natCast_inj]
    cases b
    · exact decide_eq_false fun hh => by have := hb.2 (hiff.1 hh); cases this
    · exact decide_eq_true (hiff.2 (hb.1 rfl))
  dsimp only at h
  rw [hd, List.length_map, List.length_map] at h
  exact h
theorem chk_bld {t : Nat} (ht : t < 2 ^ 64) (ad : Option Addr) (cap : Nat) (w : World) (hi : InD w.heap.size w ad ((bldN t).map z3)) :
    Calls Tryz.prog 37 #[.agg #[.slice ad (bldN t).length cap, .int .i64 (bldR t : Int)]] w (Ret (.int .i64 0) w) := by
  have hd : DNok rk6 w (ad, cap, bldN t, bldR t) := dnok_bld rk6 (fun _ ha => varOk6 ha) ht hi
  obtain ⟨o1, o2, o3, o4⟩ := hd.di
  have h := dCheck_any _ o2 o3 ad cap _ o4 w o1
  have hc := chkD_dgm (dgm_bld ht).1
  dsimp only [toI] at h
  rw [hc, List.length_map] at h
  exact h
set_option maxRecDepth 100000 in
set_option maxHeartbeats 12800000 in
theorem lawCanonical_long (p q : Option Addr) (n m cap cap' : Nat) (hn : 30 < n ∨ 30 < m) (w : World) (hT : Tab w) : Calls Tryz.prog 10 #[.slice p n cap, .slice q m cap'] w (Ret (.bool true) w) := by
  have HT := Lib.hid hT
  clear hT
  by_cases h : 30 < n
  · have f0 : decide ((30 : Int) < (n : Int)) = true := decide_eq_true (by omega)
    go_enter Tryz.func10, Tryz.ntmps10
    go_wp2_with fail
    (with_reducible refine (known_any _ (HT.out.of (by (repeat' (first | (with_reducible first | exact Below.refl _ _ | exact Nat.le_refl _ | refine Below.bel ?_ ?_ | refine Below.alloc ?_ ?_ _ | refine Below.drew ?_ | refine Below.drawsN ?_ _ | refine Below.setCell ?_ ?_ _ | refine le_bel ?_ | refine le_alloc ?_ | refine le_setCell ?_ | refine le_drew ?_ | refine le_drawsN ?_) | (dsimp only; with_reducible first | refine le_bel ?_ | refine Nat.le_refl _ | refine le_bel_add ?_) | (with_reducible assumption) | omega | (dsimp only; omega)))))).mono ?_)
    rintro _ _ ⟨rfl, y1, rfl⟩
    dsimp only
    go_wp2_with fail
    (with_reducible refine (known_any _ (HT.out.of (by (repeat' (first | (with_reducible first | exact Below.refl _ _ | exact Nat.le_refl _ | refine Below.bel ?_ ?_ | refine Below.alloc ?_ ?_ _ | refine Below.drew ?_ | refine Below.drawsN ?_ _ | refine Below.setCell ?_ ?_ _ | refine le_bel ?_ | refine le_alloc ?_ | refine le_setCell ?_ | refine le_drew ?_ | refine le_drawsN ?_) | (dsimp only; with_reducible first | refine le_bel ?_ | refine Nat.le_refl _ | refine le_bel_add ?_) | (with_reducible assumption) | omega | (dsimp only; omega)))))).mono ?_)
    rintro _ _ ⟨rfl, y2, rfl⟩
    dsimp only
    go_wp2
    go_ret
    exact Ret.mk (by rfl) (by (repeat' (first | (with_reducible first | exact Below.refl _ _ | exact Nat.le_refl _ | refine Below.bel ?_ ?_ | refine Below.alloc ?_ ?_ _ | refine Below.drew ?_ | refine Below.drawsN ?_ _ | refine Below.setCell ?_ ?_ _ | refine le_bel ?_ | refine le_alloc ?_ | refine le_setCell ?_ | refine le_drew ?_ | refine le_drawsN ?_) | (dsimp only; with_reducible first | refine le_bel ?_ | refine Nat.le_refl _ | refine le_bel_add ?_) | (with_reducible assumption) | omega | (dsimp only; omega))))
  · have f0 : decide ((30 : Int) < (n : Int)) = false := decide_eq_false (by omega)
    have f1 : decide ((30 : Int) < (m : Int)) = true := decide_eq_true (by omega)
    go_enter Tryz.func10, Tryz.ntmps10
    go_wp2_with fail
    (with_reducible refine (known_any _ (HT.out.of (by (repeat' (first | (with_reducible first | exact Below.refl _ _ | exact Nat.le_refl _ | refine Below.bel ?_ ?_ | refine Below.alloc ?_ ?_ _ | refine Below.drew ?_ | refine Below.drawsN ?_ _ | refine Below.setCell ?_ ?_ _ | refine le_bel ?_ | refine le_alloc ?_ | refine le_setCell ?_ | refine le_drew ?_ | refine le_drawsN ?_) | (dsimp only; with_reducible first | refine le_bel ?_ | refine Nat.le_refl _ | refine le_bel_add ?_) | (with_reducible assumption) | omega | (dsimp only; omega)))))).mono ?_)
    rintro _ _ ⟨rfl, y1, rfl⟩
    dsimp only
    go_wp2_with fail
    (with_reducible refine (known_any _ (HT.out.of (by (repeat' (first | (with_reducible first | exact Below.refl _ _ | exact Nat.le_refl _ | refine Below.bel ?_ ?_ | refine Below.alloc ?_ ?_ _ | refine Below.drew ?_ | refine Below.drawsN ?_ _ | refine Below.setCell ?_ ?_ _ | refine le_bel ?_ | refine le_alloc ?_ | refine le_setCell ?_ | refine le_drew ?_ | refine le_drawsN ?_) | (dsimp only; with_reducible first | refine le_bel ?_ | refine Nat.le_refl _ | refine le_bel_add ?_) | (with_reducible assumption) | omega | (dsimp only; omega)))))).mono ?_)
    rintro _ _ ⟨rfl, y2, rfl⟩
    dsimp only
    go_wp2
    go_ret
    exact Ret.mk (by rfl) (by (repeat' (first | (with_reducible first | exact Below.refl _ _ | exact Nat.le_refl _ | refine Below.bel ?_ ?_ | refine Below.alloc ?_ ?_ _ | refine Below.drew ?_ | refine Below.drawsN ?_ _ | refine Below.setCell ?_ ?_ _ | refine le_bel ?_ | refine le_alloc ?_ | refine le_setCell ?_ | refine le_drew ?_ | refine le_drawsN ?_) | (dsimp only; with_reducible first | refine le_bel ?_ | refine Nat.le_refl _ | refine le_bel_add ?_) | (with_reducible assumption) | omega | (dsimp only; omega))))
set_option maxRecDepth 100000 in
set_option maxHeartbeats 12800000 in
theorem lawCanonical_any (code other : List UInt8) (ca oa : Option Addr) (cc oc : Nat) (w : World) (hT : Tab w) (hs : ShowsV w (.slice ca code.length cc) (bytesV code)) (hs' : ShowsV w (.slice oa other.length oc) (bytesV other)) (hl : code.length ≤ 30) (hl' : other.length ≤ 30) : Calls Tryz.prog 10 #[.slice ca code.length cc, .slice oa other.length oc] w (Ret (.bool true) w) := by
  have f0 : decide ((30 : Int) < (code.length : Int)) = false := decide_eq_false (by omega)
  have f1 : decide ((30 : Int) < (other.length : Int)) = false := decide_eq_false (by omega)
  have HT := Lib.hid hT
  have HMK := Lib.hid (fun W (hW : Below w.heap.size w W) => Make_any code ca cc W (showsV_of hs hW) hl)
  have HML := Lib.hid (fun W (hW : Below w.heap.size w W) => Make_any other oa oc W (showsV_of hs' hW) hl')
  obtain ⟨g1, g2, g3, g4⟩ := mkF_good code
  obtain ⟨t, ht⟩ : ∃ t, mkF code = t := ⟨_, rfl⟩
  rw [ht] at HMK g1 g2 g3 g4
  obtain ⟨k1, k2, k3, k4⟩ := mkF_good other
  obtain ⟨u, hu⟩ : ∃ u, mkF other = u := ⟨_, rfl⟩
  rw [hu] at HML k1 k2 k3 k4
  have h6 : (supF [t, u]).length ≤ 12 := by
    have hsp := supF_spec [t, u]
    have hr : ∀ x ∈ supF [t, u], 0 ≤ x ∧ x < 6 := fun x hx => by
      rcases (supF_two g1 k1 x).1 hx with h | h
      · exact occ_six g1 g2 h
      · exact occ_six k1 k2 h
    exact Nat.le_trans (len_rise hsp.1 hr) (by decide)
  obtain ⟨b, hb⟩ : ∃ b : Bool, b = true ↔ eqv t u := by
    by_cases h : eqv t u
    · exact ⟨true, by simp [h]⟩
    · exact ⟨false, by simp [h]⟩
  have hbd : b = true ↔ (bldR (tabF t) = bldR (tabF u) ∧ bldN (tabF t) = bldN (tabF u)) := by
    rw [bld_same (tabF_lt t) (tabF_lt u), tab_same, hb]
    exact (eqv_values g1 k1 g2 k2).symm
  have l1 := (bld_ok (tabF_lt t)).2.2.1
  have l2 := (bld_ok (tabF_lt u)).2.2.1
  have HO1 := Lib.hid (fun (P : Nat → Prop) ad cap w' hi => ofTab g1 g2 (by omega) (by omega) P ad cap w' hi)
  have HO2 := Lib.hid (fun (P : Nat → Prop) ad cap w' hi => ofTab k1 k2 (by omega) (by omega) P ad cap w' hi)
  have HEV := Lib.hid (fun (P P' : Nat → Prop) ad ad' cap cap' w' hi hi' => Equivalent_ok P P' t u ad ad' cap cap' b hb w' hi hi' g1 k1 (by omega) (by omega) (by omega) (by omega) h6)
  have HEQ := Lib.hid (fun a1 a2 c1 c2 w' h1 h2 => eqD_gen (bldN (tabF t)) (bldN (tabF u)) (bldR (tabF t)) (bldR (tabF u)) a1 a2 c1 c2 w' h1 h2 (by omega) (by omega) b hbd)
  have HCK := Lib.hid (fun ad cap w' hi => chk_bld (tabF_lt t) ad cap w' hi)
  unfold RetF at HMK HML
  unfold RetDg at HO1 HO2
  obtain ⟨T, hT2⟩ : ∃ T, tabF t = T := ⟨_, rfl⟩
  obtain ⟨U, hU2⟩ : ∃ U, tabF u = U := ⟨_, rfl⟩
  rw [hT2, hU2] at HEQ
  rw [hT2] at HO1 HCK
  rw [hU2] at HO2
  obtain ⟨M1, hm_M1⟩ : ∃ M, bldN T = M := ⟨_, rfl⟩
  obtain ⟨R1, hm_R1⟩ : ∃ M, bldR T = M := ⟨_, rfl⟩
  rw [hm_M1, hm_R1] at HO1
  rw [hm_M1, hm_R1] at HEQ
  rw [hm_M1, hm_R1] at HCK
  clear hm_M1 hm_R1
  obtain ⟨M2, hm_M2⟩ : ∃ M, bldN U = M := ⟨_, rfl⟩
  obtain ⟨R2, hm_R2⟩ : ∃ M, bldR U = M := ⟨_, rfl⟩
  rw [hm_M2, hm_R2] at HO2
  rw [hm_M2, hm_R2] at HEQ
  clear hm_M2 hm_R2
  have fb : (b == b) = true := by cases b <;> rfl
  clear hT hs hs' ht hu hT2 hU2 g1 g2 g3 g4 k1 k2 k3 k4 h6 hb hbd l1 l2
  go_enter Tryz.func10, Tryz.ntmps10
  go_wp2_with fail
  (with_reducible refine (known_any _ (HT.out.of (by (repeat' (first | (with_reducible first | exact Below.refl _ _ | exact Nat.le_refl _ | refine Below.bel ?_ ?_ | refine Below.alloc ?_ ?_ _ | refine Below.drew ?_ | refine Below.drawsN ?_ _ | refine Below.setCell ?_ ?_ _ | refine le_bel ?_ | refine le_alloc ?_ | refine le_setCell ?_ | refine le_drew ?_ | refine le_drawsN ?_) | (dsimp only; with_reducible first | refine le_bel ?_ | refine Nat.le_refl _ | refine le_bel_add ?_) | (with_reducible assumption) | omega | (dsimp only; omega)))))).mono ?_)
  rintro _ _ ⟨rfl, y1, rfl⟩
  have hB0 : Below w.heap.size w y1.w := y1.below
  dsimp only
  go_wp2_with fail
  obtain ⟨V0, hV⟩ : ∃ V0, y1.w = V0 := ⟨_, rfl⟩
  rw [hV] at hB0 ⊢
  have hB := hB0
  clear hV hB0
  refine (HMK.out _ hB).mono ?_
  rintro _ _ ⟨_, rfl, y1, rfl, adF, capF, rfl, hiF⟩
  have hbn := y1.below
  have hsn := hbn.size
  have hbz : Below V0.heap.size V0 y1.w := hbn
  have HFF' := Lib.hid (hiF.imp fun _ _ _ => trivial : InsF (fun _ => True) _ _ _)
  have hB' := hB.trans (hbz.mono hB.size)
  clear hbn hbz hB  hiF
  dsimp only
  go_wp2_with fail
  obtain ⟨V1, hV⟩ : ∃ V1, y1.w = V1 := ⟨_, rfl⟩
  rw [hV] at hB' HFF' ⊢
  clear hV hsn
  have HFF := HFF'
  have hB := hB'
  clear hB' HFF'
  refine (HML.out _ hB).mono ?_
  rintro _ _ ⟨_, rfl, y2, rfl, adG, capG, rfl, hiG⟩
  have hbn := y2.below
  have hsn := hbn.size
  have hbz : Below V1.heap.size V1 ((y2.w.alloc (.cells #[.int .i64 t.k, .int .i64 t.a, .slice adF t.l.length capF] 26)).alloc (.cells #[.int .i64 u.k, .int .i64 u.a, .slice adG u.l.length capG] 26)) := ((hbn.alloc hsn _).alloc (le_alloc hsn) _)
  have HFF' := Lib.hid (HFF.out.of hbz)
  have hbe : Below y2.w.heap.size y2.w ((y2.w.alloc (.cells #[.int .i64 t.k, .int .i64 t.a, .slice adF t.l.length capF] 26)).alloc (.cells #[.int .i64 u.k, .int .i64 u.a, .slice adG u.l.length capG] 26)) := (((Below.refl y2.w.heap.size y2.w).alloc (Nat.le_refl _) _).alloc (le_alloc (Nat.le_refl _)) _)
  have HFG' := Lib.hid ((hiG.imp fun _ _ _ => trivial : InsF (fun _ => True) _ _ _).of hbe)
  clear hbe
  have fF' := obj_alloc (.cells #[.int .i64 u.k, .int .i64 u.a, .slice adG u.l.length capG] 26) (World.alloc_heap_new y2.w (.cells #[.int .i64 t.k, .int .i64 t.a, .slice adF t.l.length capF] 26))
  have fG' := newAt1 y2.w (.cells #[.int .i64 t.k, .int .i64 t.a, .slice adF t.l.length capF] 26) (.cells #[.int .i64 u.k, .int .i64 u.a, .slice adG u.l.length capG] 26)
  have hB' := hB.trans (hbz.mono hB.size)
  clear hbn hbz hB HFF hiG
  obtain ⟨p0, q0, r0⟩ := box3 fF'
  obtain ⟨p1, q1, r1⟩ := box3 fG'
  dsimp only
  go_wp2_with fail
  clear p0 q0 r0 p1 q1 r1
  obtain ⟨V2, hV⟩ : ∃ V2, ((y2.w.alloc (.cells #[.int .i64 t.k, .int .i64 t.a, .slice adF t.l.length capF] 26)).alloc (.cells #[.int .i64 u.k, .int .i64 u.a, .slice adG u.l.length capG] 26)) = V2 := ⟨_, rfl⟩
  rw [hV] at hB' fF' fG' HFF' HFG' ⊢
  clear hV hsn
  have fF := fF'
  have fG := fG'
  have HFF := HFF'
  have HFG := HFG'
  have hB := hB'
  clear hB' fF' fG' HFF' HFG'
  refine (HO1.out _ _ _ _ HFF.out).mono ?_
  rintro _ W3 ⟨adA, capA, rfl, hiA, -, hbn⟩
  have hsn := hbn.size
  have hbz : Below V2.heap.size V2 (W3.alloc (.cells #[.slice adA M1.length capA, .int .i64 (R1 : Int)] 30)) := (hbn.alloc hsn _)
  have fF' := obj_in hbz fF
  have fG' := obj_in hbz fG
  have HFF' := Lib.hid (HFF.out.of hbz)
  have HFG' := Lib.hid (HFG.out.of hbz)
  have hbe : Below W3.heap.size W3 (W3.alloc (.cells #[.slice adA M1.length capA, .int .i64 (R1 : Int)] 30)) := ((Below.refl W3.heap.size W3).alloc (Nat.le_refl _) _)
  have HIA' := Lib.hid ((hiA.of hbe).up hbe.size)
  clear hbe
  have oA' := World.alloc_heap_new W3 (.cells #[.slice adA M1.length capA, .int .i64 (R1 : Int)] 30)
  have hB' := hB.trans (hbz.mono hB.size)
  clear hbn hbz hB fF fG HFF HFG hiA
  obtain ⟨p0, q0, r0⟩ := box3 fF'
  obtain ⟨p1, q1, r1⟩ := box3 fG'
  obtain ⟨p2, q2, -⟩ := cells2 oA'
  dsimp only
  go_wp2_with fail
  clear p0 q0 r0 p1 q1 r1 p2 q2
  obtain ⟨V3, hV⟩ : ∃ V3, (W3.alloc (.cells #[.slice adA M1.length capA, .int .i64 (R1 : Int)] 30)) = V3 := ⟨_, rfl⟩
  rw [hV] at hB' fF' fG' oA' HFF' HFG' HIA' ⊢
  clear hV hsn
  have fF := fF'
  have fG := fG'
  have oA := oA'
  have HFF := HFF'
  have HFG := HFG'
  have HIA := HIA'
  have hB := hB'
  clear hB' fF' fG' oA' HFF' HFG' HIA'
  refine (HO2.out _ _ _ _ HFG.out).mono ?_
  rintro _ W4 ⟨adB, capB, rfl, hiB, -, hbn⟩
  have hsn := hbn.size
  have hbz : Below V3.heap.size V3 (W4.alloc (.cells #[.slice adB M2.length capB, .int .i64 (R2 : Int)] 30)) := (hbn.alloc hsn _)
  have fF' := obj_in hbz fF
  have fG' := obj_in hbz fG
  have oA' := obj_in hbz oA
  have HFF' := Lib.hid (HFF.out.of hbz)
  have HFG' := Lib.hid (HFG.out.of hbz)
  have HIA' := Lib.hid ((HIA.out.of hbz).up hbz.size)
  have hbe : Below W4.heap.size W4 (W4.alloc (.cells #[.slice adB M2.length capB, .int .i64 (R2 : Int)] 30)) := ((Below.refl W4.heap.size W4).alloc (Nat.le_refl _) _)
  have HIB' := Lib.hid ((hiB.of hbe).up hbe.size)
  clear hbe
  have oB' := World.alloc_heap_new W4 (.cells #[.slice adB M2.length capB, .int .i64 (R2 : Int)] 30)
  have hB' := hB.trans (hbz.mono hB.size)
  clear hbn hbz hB fF fG oA HFF HFG HIA hiB
  obtain ⟨p0, q0, r0⟩ := box3 fF'
  obtain ⟨p1, q1, r1⟩ := box3 fG'
  obtain ⟨p2, q2, -⟩ := cells2 oA'
  obtain ⟨p3, q3, -⟩ := cells2 oB'
  dsimp only
  go_wp2_with fail
  clear p0 q0 r0 p1 q1 r1 p2 q2 p3 q3
  obtain ⟨V4, hV⟩ : ∃ V4, (W4.alloc (.cells #[.slice adB M2.length capB, .int .i64 (R2 : Int)] 30)) = V4 := ⟨_, rfl⟩
  rw [hV] at hB' fF' fG' oA' oB' HFF' HFG' HIA' HIB' ⊢
  clear hV hsn
  have fF := fF'
  have fG := fG'
  have oA := oA'
  have oB := oB'
  have HFF := HFF'
  have HFG := HFG'
  have HIA := HIA'
  have HIB := HIB'
  have hB := hB'
  clear hB' fF' fG' oA' oB' HFF' HFG' HIA' HIB'
  refine (HEV.out _ _ _ _ _ _ _ HFF.out HFG.out).mono ?_
  rintro _ _ ⟨rfl, y5, rfl⟩
  have hbn := y5.below
  have hsn := hbn.size
  have hbz : Below V4.heap.size V4 y5.w := hbn
  have oA' := obj_in hbz oA
  have oB' := obj_in hbz oB
  have HIA' := Lib.hid ((HIA.out.of hbz).up hbz.size)
  have HIB' := Lib.hid ((HIB.out.of hbz).up hbz.size)
  have hB' := hB.trans (hbz.mono hB.size)
  clear hbn hbz hB oA oB HIA HIB
  obtain ⟨p0, q0, -⟩ := cells2 oA'
  obtain ⟨p1, q1, -⟩ := cells2 oB'
  dsimp only
  go_wp2_with fail
  clear p0 q0 p1 q1
  obtain ⟨V5, hV⟩ : ∃ V5, y5.w = V5 := ⟨_, rfl⟩
  rw [hV] at hB' oA' oB' HIA' HIB' ⊢
  clear hV hsn
  have oA := oA'
  have oB := oB'
  have HIA := HIA'
  have HIB := HIB'
  have hB := hB'
  clear hB' oA' oB' HIA' HIB'
  refine (HEQ.out _ _ _ _ _ HIA.out HIB.out).mono ?_
  rintro _ _ ⟨rfl, y6, rfl⟩
  have hbn := y6.below
  have hsn := hbn.size
  have hbz : Below V5.heap.size V5 y6.w := hbn
  have oA' := obj_in hbz oA
  have oB' := obj_in hbz oB
  have HIA' := Lib.hid ((HIA.out.of hbz).up hbz.size)
  have HIB' := Lib.hid ((HIB.out.of hbz).up hbz.size)
  have hB' := hB.trans (hbz.mono hB.size)
  clear hbn hbz hB oA oB HIA HIB
  obtain ⟨p0, q0, -⟩ := cells2 oA'
  obtain ⟨p1, q1, -⟩ := cells2 oB'
  dsimp only
  go_wp2_with fail
  clear p0 q0 p1 q1
  obtain ⟨V6, hV⟩ : ∃ V6, y6.w = V6 := ⟨_, rfl⟩
  rw [hV] at hB' oA' oB' HIA' HIB' ⊢
  clear hV hsn
  have oA := oA'
  have oB := oB'
  have HIA := HIA'
  have HIB := HIB'
  have hB := hB'
  clear hB' oA' oB' HIA' HIB'
  refine (HCK.out _ _ _ HIA.out).mono ?_
  rintro _ _ ⟨rfl, y7, rfl⟩
  have hbn := y7.below
  have hsn := hbn.size
  have hbz : Below V6.heap.size V6 y7.w := hbn
  have oA' := obj_in hbz oA
  have oB' := obj_in hbz oB
  have HIA' := Lib.hid ((HIA.out.of hbz).up hbz.size)
  have HIB' := Lib.hid ((HIB.out.of hbz).up hbz.size)
  have hB' := hB.trans (hbz.mono hB.size)
  clear hbn hbz hB oA oB HIA HIB
  obtain ⟨p0, q0, -⟩ := cells2 oA'
  obtain ⟨p1, q1, -⟩ := cells2 oB'
  dsimp only
  obtain ⟨V7, hV⟩ : ∃ V7, y7.w = V7 := ⟨_, rfl⟩
  rw [hV] at hB' oA' oB' HIA' HIB' ⊢
  clear hV hsn
  have oA := oA'
  have oB := oB'
  have HIA := HIA'
  have HIB := HIB'
  have hB := hB'
  clear hB' oA' oB' HIA' HIB'
  have hBs := hB.size
  go_wp2
  go_ret
  exact Ret.mk (by rfl) (by (repeat' (first | (with_reducible first | exact Below.refl _ _ | exact Nat.le_refl _ | refine Below.bel ?_ ?_ | refine Below.alloc ?_ ?_ _ | refine Below.drew ?_ | refine Below.drawsN ?_ _ | refine Below.setCell ?_ ?_ _ | refine le_bel ?_ | refine le_alloc ?_ | refine le_setCell ?_ | refine le_drew ?_ | refine le_drawsN ?_) | (dsimp only; with_reducible first | refine le_bel ?_ | refine Nat.le_refl _ | refine le_bel_add ?_) | (with_reducible assumption) | omega | (dsimp only; omega))))
end Go.Proofs.YtkdmhjlcgpnjpaaGreatDoor
