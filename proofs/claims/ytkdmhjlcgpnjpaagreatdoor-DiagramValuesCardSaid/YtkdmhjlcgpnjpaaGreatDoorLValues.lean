/- The walk of DiagramValues. -/
import Derived.Test.YtkdmhjlcgpnjpaaGreatDoorX28
import Derived.Test.YtkdmhjlcgpnjpaaGreatDoorXI
import Derived.Test.YtkdmhjlcgpnjpaaGreatDoorXJ
import Derived.Test.YtkdmhjlcgpnjpaaGreatDoorX24
import Derived.Test.YtkdmhjlcgpnjpaaGreatDoorFz
namespace Go.Proofs.YtkdmhjlcgpnjpaaGreatDoor
set_option linter.unusedVariables false
set_option linter.unusedSimpArgs false
open Go.RowKit Go.Maps
attribute [local go_sem low] Bel.cell Bel.frozen alloc_cell alloc_frozen
attribute [local go_sem] calmOp chainOp yieldsC grows

/-- The variables of a table's diagram are those on which it depends. -/
theorem supL_bld {t : Nat} (ht : t < 2 ^ 64) : (supL (bldN t)).Pairwise (· < ·) ∧ (∀ x ∈ supL (bldN t), 0 ≤ x ∧ x < 6) ∧ ∀ x : Nat, x < 6 → ((x : Int) ∈ supL (bldN t) ↔ dep6 t x = true) := by
  have hs : ((varsL (bldN t)).mergeSort fun x y => decide (x ≤ y)).Pairwise (· ≤ ·) := by
    have := List.pairwise_mergeSort (le := fun x y : Int => decide (x ≤ y)) (fun a b c h1 h2 => by simp only [decide_eq_true_eq] at *; omega) (fun a b => by simp only [Bool.or_eq_true, decide_eq_true_eq]; omega) (varsL (bldN t))
    exact this.imp (fun h => by simpa using h)
  obtain ⟨h1, h2⟩ := compact_sorted _ hs
  have hm : ∀ x, x ∈ supL (bldN t) ↔ x ∈ varsL (bldN t) := fun x => (h2 x).trans List.mem_mergeSort
  refine ⟨h1, fun x hx => ?_, fun x hx => ?_⟩
  · obtain ⟨y, hy, rfl⟩ := List.mem_map.1 ((hm x).1 hx)
    have := (dgm_bld ht).1.vars y hy
    omega
  · rw [hm, ← vars_dep ht hx]
    constructor
    · intro h
      obtain ⟨y, hy, e⟩ := List.mem_map.1 h
      exact ⟨y, hy, by omega⟩
    · rintro ⟨y, hy, rfl⟩
      exact List.mem_map.2 ⟨y, hy, rfl⟩
theorem len_rise6 : ∀ {l : List Int} {a b : Int}, l.Pairwise (· < ·) → (∀ x ∈ l, a ≤ x ∧ x < b) → l.length ≤ (b - a).toNat
  | [], _, _, _, _ => Nat.zero_le _
  | x :: r, a, b, hs, hr => by
    rw [List.pairwise_cons] at hs
    have h0 := hr x (List.mem_cons_self ..)
    have := len_rise6 (l := r) (a := x + 1) (b := b) hs.2 fun y hy => ⟨by have := hs.1 y hy; omega, (hr y (List.mem_cons_of_mem _ hy)).2⟩
    rw [List.length_cons]
    omega
theorem ones_test {v : Nat} (hv : v < 64) : (18446744073709551615 : Nat).testBit v = true := by
  rw [show (18446744073709551615 : Nat) = 2 ^ 64 - 1 by decide, Nat.testBit_two_pow_sub_one, decide_eq_true hv]
theorem imp_iff {t u : Nat} (ht : t < 2 ^ 64) (hu : u < 2 ^ 64) : notT t ||| u = 18446744073709551615 ↔ t &&& (18446744073709551615 - u) = 0 := by
  constructor
  · intro h
    refine table_eq (and_lt ht) (by decide) fun v hv => ?_
    have e := congrArg (fun z => z.testBit v) h
    rw [Nat.testBit_or, notT_test ht hv, ones_test hv] at e
    rw [Nat.testBit_and, show (18446744073709551615 - u) = notT u from rfl, notT_test hu hv, Nat.zero_testBit]
    cases h1 : t.testBit v <;> cases h2 : u.testBit v <;> simp_all
  · intro h
    refine table_eq (or_lt (notT_lt t) hu) (by decide) fun v hv => ?_
    have e := congrArg (fun z => z.testBit v) h
    rw [Nat.testBit_and, show (18446744073709551615 - u) = notT u from rfl, notT_test hu hv, Nat.zero_testBit] at e
    rw [Nat.testBit_or, notT_test ht hv, ones_test hv]
    cases h1 : t.testBit v <;> cases h2 : u.testBit v <;> simp_all
theorem bldR_one {t : Nat} (ht : t < 2 ^ 64) : bldR t = 1 ↔ t = 18446744073709551615 := by
  constructor
  · intro h
    have hr := (bld_ok ht).2.1
    rw [h] at hr
    exact rep3_table hr ⟨by omega, fun ρ => by rw [val3_1, ones_test (idx6_lt ρ)]⟩ ht (by decide)
  · rintro rfl
    decide +kernel
theorem Implies_tab (t u : Nat) (ht : t < 2 ^ 64) (hu : u < 2 ^ 64) (b : Bool) (hb : b = true ↔ t &&& (18446744073709551615 - u) = 0) (a1 a2 : Option Addr) (c1 c2 : Nat) (w : World) (h1 : InD w.heap.size w a1 ((bldN t).map z3)) (h2 : InD w.heap.size w a2 ((bldN u).map z3)) :
    Calls Tryz.prog 40 #[dnV (a1, c1, bldN t, bldR t), dnV (a2, c2, bldN u, bldR u)] w (Ret (.tuple #[.bool b, .int .i64 0]) w) :=
  (Implies_ok (K := 6) (c := 63) (by decide) rk6_le (a1, c1, bldN t, bldR t) (a2, c2, bldN u, bldR u) w (dnB ht h1) (dnB hu h2) (by have := bld_len ht; have := bld_len hu; dsimp only; omega)).mono fun _ W' h => by
    obtain ⟨N, p, hg, _, _, hp, hv, he, hbl⟩ := h
    have hT : notT t ||| u < 2 ^ 64 := or_lt (notT_lt t) hu
    have hr : Rep3 N p (notT t ||| u) := ⟨hp, fun ρ => by rw [hv]; dsimp only; rw [bld_val ht, bld_val hu, Nat.testBit_or, notT_test ht (idx6_lt ρ)]⟩
    have hd : decide ((canonD N p).2 = 1) = b := by
      rw [canonD_bld hg hr hT]
      dsimp only
      have hi := (bldR_one hT).trans ((imp_iff ht hu).trans hb.symm)
      cases b
      · exact decide_eq_false fun e => by have := hi.1 e; cases this
      · exact decide_eq_true (hi.2 rfl)
    rw [hd] at he
    exact ⟨he, ⟨W', hbl⟩, rfl⟩
theorem bits_idx (bl : List Bool) : idx6 (envD bl) = bitsK bl 6 := by
  have h := bitsK_lt bl 6
  rw [← idx6_row (bitsK bl 6) h]
  refine idx6_congr fun x hx => ?_
  rw [bitsK_test, decide_eq_true hx, Bool.true_and]
  rfl
theorem or_bit {bl : List Bool} {k : Nat} (h : bl.getD k false = true) (hk : k < 6) : bits .or .u64 ((bitsK bl k : Nat) : Int) (IntKind.u64.wrap (2 ^ k)) = ((bitsK bl (k + 1) : Nat) : Int) := by
  have h1 := bitsK_lt bl k
  have h2 : 2 ^ k ≤ 2 ^ 10 := Nat.pow_le_pow_right (by decide) (by omega)
  rw [wrap_pow (by omega), u64_or_nat _ _ (by omega) (by omega), bitsK, if_pos h]
theorem low_bit {t n : Nat} (ht : t < 2 ^ 64) : (bits .and .u64 ((t : Int) / 2 ^ n) 1 == 1) = t.testBit n := by
  rw [bit_u64 ht]
  cases t.testBit n <;> rfl
set_option maxRecDepth 100000 in
set_option maxHeartbeats 12800000 in
theorem lawValues_long (t u : Int) (p : Option Addr) (n cap : Nat) (hn : 8 < n) (w : World) (hT : Tab w) : Calls Tryz.prog 11 #[.int .u64 t, .int .u64 u, .slice p n cap] w (Ret (.bool true) w) := by
  have HT := Lib.hid hT
  have f1 : decide ((8 : Int) < (n : Int)) = true := decide_eq_true (by omega)
  clear hT
  go_enter Tryz.func11, Tryz.ntmps11
  go_wp2_with fail
  (with_reducible refine (known_any _ (HT.out.of (by (repeat' (first | (with_reducible first | exact Below.refl _ _ | exact Nat.le_refl _ | refine Below.bel ?_ ?_ | refine Below.alloc ?_ ?_ _ | refine Below.drew ?_ | refine Below.drawsN ?_ _ | refine Below.setCell ?_ ?_ _ | refine le_bel ?_ | refine le_alloc ?_ | refine le_setCell ?_ | refine le_drew ?_ | refine le_drawsN ?_) | (dsimp only; with_reducible first | refine le_bel ?_ | refine Nat.le_refl _ | refine le_bel_add ?_) | (with_reducible assumption) | omega | (dsimp only; omega)))))).mono ?_)
  rintro _ _ ⟨rfl, y1, rfl⟩
  dsimp only
  go_wp2_with fail
  (with_reducible refine (known_any _ (HT.out.of (by (repeat' (first | (with_reducible first | exact Below.refl _ _ | exact Nat.le_refl _ | refine Below.bel ?_ ?_ | refine Below.alloc ?_ ?_ _ | refine Below.drew ?_ | refine Below.drawsN ?_ _ | refine Below.setCell ?_ ?_ _ | refine le_bel ?_ | refine le_alloc ?_ | refine le_setCell ?_ | refine le_drew ?_ | refine le_drawsN ?_) | (dsimp only; with_reducible first | refine le_bel ?_ | refine Nat.le_refl _ | refine le_bel_add ?_) | (with_reducible assumption) | omega | (dsimp only; omega)))))).mono ?_)
  rintro _ _ ⟨rfl, y2, rfl⟩
  dsimp only
  go_wp2
  go_ret
  exact Ret.mk (by rfl) (by (repeat' (first | (with_reducible first | exact Below.refl _ _ | exact Nat.le_refl _ | refine Below.bel ?_ ?_ | refine Below.alloc ?_ ?_ _ | refine Below.drew ?_ | refine Below.drawsN ?_ _ | refine Below.setCell ?_ ?_ _ | refine le_bel ?_ | refine le_alloc ?_ | refine le_setCell ?_ | refine le_drew ?_ | refine le_drawsN ?_) | (dsimp only; with_reducible first | refine le_bel ?_ | refine Nat.le_refl _ | refine le_bel_add ?_) | (with_reducible assumption) | omega | (dsimp only; omega))))
set_option maxRecDepth 100000 in
set_option maxHeartbeats 12800000 in
theorem lawValues_in (t u : Nat) (ht : t < 2 ^ 64) (hu : u < 2 ^ 64) (bl : List Bool) (va : Option Addr) (vc : Nat) (w : World) (hT : Tab w) (hv : ShowsV w (.slice va bl.length vc) (boolsD bl)) (hbl : bl.length ≤ 8) (hen : leastT t 6 ≤ bl.length) : Calls Tryz.prog 11 #[.int .u64 (t : Int), .int .u64 (u : Int), .slice va bl.length vc] w (Ret (.bool true) w) := by
  have f1 : decide ((8 : Int) < (bl.length : Int)) = false := decide_eq_false (by omega)
  have HT := Lib.hid hT
  have HV := Lib.hid hv
  obtain ⟨b, hb⟩ : ∃ b : Bool, b = true ↔ t &&& (18446744073709551615 - u) = 0 := by
    by_cases h : t &&& (18446744073709551615 - u) = 0
    · exact ⟨true, by simp [h]⟩
    · exact ⟨false, by simp [h]⟩
  have HMA := Lib.hid (fun w' => lawMake_any t ht w')
  have HMB := Lib.hid (fun w' => lawMake_any u hu w')
  have HVA := Lib.hid (fun ad cap w' (hi : InD w'.heap.size w' ad ((bldN t).map z3)) hv => dValue_ok (ad, cap, bldN t, bldR t) va bl vc w' (dnB ht hi) hv ((vars_least ht).2 hen) (by omega))
  have hval : val3 (envD bl) (bldN t) (bldR t) = t.testBit (bitsK bl 6) := by rw [bld_val ht, bits_idx]
  dsimp only at HVA
  rw [hval] at HVA
  have HSU := Lib.hid (fun ad cap w' (hi : InD w'.heap.size w' ad ((bldN t).map z3)) => dSupport_ok (ad, cap, bldN t, bldR t) w' (dnB ht hi))
  have HIM := Lib.hid (fun a1 a2 c1 c2 w' h1 h2 => Implies_tab t u ht hu b hb a1 a2 c1 c2 w' h1 h2)
  have HDE := Lib.hid (fun x (hx : x < 6) w' => refDep_any t x ht hx w')
  have hsp := supL_bld ht
  dsimp only at HSU
  have hee : ∀ x ∈ supL (bldN t), x < (bl.length : Int) := by
    rw [show (∀ x ∈ supL (bldN t), x < (bl.length : Int)) ↔ leastT t 6 ≤ bl.length from ?_]
    · exact hen
    · rw [leastT_iff]
      constructor
      · intro h v hv hd
        have := h v ((hsp.2.2 v hv).2 hd)
        omega
      · intro h x hx
        obtain ⟨h0, h6⟩ := hsp.2.1 x hx
        obtain ⟨n, rfl⟩ := Int.eq_ofNat_of_zero_le h0
        have := h n (by omega) ((hsp.2.2 n (by omega)).1 hx)
        omega
  have x1 := u64_andNot_nat t u ht hu
  obtain ⟨c, hc⟩ : ∃ c, t &&& (18446744073709551615 - u) = c := ⟨_, rfl⟩
  rw [hc] at x1 hb
  have x2 : ((c : Int) == 0) = b := by
    by_cases h : c = 0
    · rw [h]; exact (hb.2 h).symm
    · have : b = false := by cases b; rfl; exact absurd (hb.1 rfl) h
      rw [this]; simp; exact h
  have x3 : (b != b) = false := by cases b <;> rfl
  have x4 := low_bit (n := bitsK bl 6) ht
  have hb6 : bitsK bl 6 < 64 := bitsK_lt bl 6
  unfold RetBd at HMA HMB
  unfold dnV at HVA HSU HIM
  obtain ⟨ls, hls⟩ : ∃ ls, supL (bldN t) = ls := ⟨_, rfl⟩
  rw [hls] at HSU hsp hee
  have HSP := Lib.hid hsp
  have HEE := Lib.hid hee
  have hll : ls.length ≤ 6 := len_rise6 hsp.1 hsp.2.1
  obtain ⟨MA, hm_MA⟩ : ∃ M, bldN t = M := ⟨_, rfl⟩
  obtain ⟨RA, hm_RA⟩ : ∃ M, bldR t = M := ⟨_, rfl⟩
  rw [hm_MA, hm_RA] at HMA
  rw [hm_MA, hm_RA] at HVA
  rw [hm_MA, hm_RA] at HSU
  rw [hm_MA, hm_RA] at HIM
  clear hm_MA hm_RA
  obtain ⟨MB, hm_MB⟩ : ∃ M, bldN u = M := ⟨_, rfl⟩
  obtain ⟨RB, hm_RB⟩ : ∃ M, bldR u = M := ⟨_, rfl⟩
  rw [hm_MB, hm_RB] at HMB
  rw [hm_MB, hm_RB] at HIM
  clear hm_MB hm_RB
  have HC := Lib.hid hb
  clear hT hv hb hc hls hsp hee hen ht hu hval
  go_enter Tryz.func11, Tryz.ntmps11
  go_wp2_with fail
  (with_reducible refine (known_any _ (HT.out.of (by (repeat' (first | (with_reducible first | exact Below.refl _ _ | exact Nat.le_refl _ | refine Below.bel ?_ ?_ | refine Below.alloc ?_ ?_ _ | refine Below.drew ?_ | refine Below.drawsN ?_ _ | refine Below.setCell ?_ ?_ _ | refine le_bel ?_ | refine le_alloc ?_ | refine le_setCell ?_ | refine le_drew ?_ | refine le_drawsN ?_) | (dsimp only; with_reducible first | refine le_bel ?_ | refine Nat.le_refl _ | refine le_bel_add ?_) | (with_reducible assumption) | omega | (dsimp only; omega)))))).mono ?_)
  rintro _ _ ⟨rfl, y1, rfl⟩
  have hB0 : Below w.heap.size w y1.w := y1.below
  dsimp only
  go_wp2_with fail
  obtain ⟨V0, hV⟩ : ∃ V0, y1.w = V0 := ⟨_, rfl⟩
  rw [hV] at hB0 ⊢
  have hB := hB0
  clear hV hB0
  refine (HMA.out _).mono ?_
  rintro _ W1 ⟨adA, capA, rfl, hiA, hbn⟩
  have hsn := hbn.size
  have hbz : Below V0.heap.size V0 (W1.alloc (.cells #[.slice adA MA.length capA, .int .i64 (RA : Int)] 30)) := (hbn.alloc hsn _)
  have hbe : Below W1.heap.size W1 (W1.alloc (.cells #[.slice adA MA.length capA, .int .i64 (RA : Int)] 30)) := ((Below.refl W1.heap.size W1).alloc (Nat.le_refl _) _)
  have HIA' := Lib.hid ((hiA.of hbe).up hbe.size)
  clear hbe
  have oA' := World.alloc_heap_new W1 (.cells #[.slice adA MA.length capA, .int .i64 (RA : Int)] 30)
  have hB' := hB.trans (hbz.mono hB.size)
  clear hbn hbz hB  hiA
  obtain ⟨p0, q0, -⟩ := cells2 oA'
  dsimp only
  go_wp2_with fail
  clear p0 q0
  obtain ⟨V1, hV⟩ : ∃ V1, (W1.alloc (.cells #[.slice adA MA.length capA, .int .i64 (RA : Int)] 30)) = V1 := ⟨_, rfl⟩
  rw [hV] at hB' oA' HIA' ⊢
  clear hV hsn
  have oA := oA'
  have HIA := HIA'
  have hB := hB'
  clear hB' oA' HIA'
  refine (HVA.out _ _ _ HIA.out (showsV_of HV.out hB)).mono ?_
  rintro _ _ ⟨rfl, y2, rfl⟩
  have hbn := y2.below
  have hsn := hbn.size
  have hbz : Below V1.heap.size V1 y2.w := hbn
  have oA' := obj_in hbz oA
  have HIA' := Lib.hid ((HIA.out.of hbz).up hbz.size)
  have hB' := hB.trans (hbz.mono hB.size)
  clear hbn hbz hB oA HIA
  obtain ⟨p0, q0, -⟩ := cells2 oA'
  dsimp only
  go_wp2_with fail
  clear p0 q0
  obtain ⟨V2, hV⟩ : ∃ V2, y2.w = V2 := ⟨_, rfl⟩
  rw [hV] at hB' oA' HIA' ⊢
  clear hV hsn
  have oA := oA'
  have HIA := HIA'
  have hB := hB'
  clear hB' oA' HIA'
  refine (HSU.out _ _ _ HIA.out).mono ?_
  rintro _ W3 ⟨_, rfl, howS, hbn⟩
  have hshS := ownV_shows howS
  obtain ⟨aS, cS, rfl, -⟩ := showsV_at hshS
  rw [show (intsV ls).length = ls.length by simp [intsV]] at hshS ⊢
  clear howS
  have hsn := hbn.size
  have hbz : Below V2.heap.size V2 W3 := hbn
  have oA' := obj_in hbz oA
  have HIA' := Lib.hid ((HIA.out.of hbz).up hbz.size)
  have HSS' := Lib.hid hshS
  have hB' := hB.trans (hbz.mono hB.size)
  clear hbn hbz hB oA HIA hshS
  obtain ⟨p0, q0, -⟩ := cells2 oA'
  dsimp only
  go_wp2_with fail
  clear p0 q0
  obtain ⟨V3, hV⟩ : ∃ V3, W3 = V3 := ⟨_, rfl⟩
  rw [hV] at hB' oA' HIA' HSS' ⊢
  clear hV hsn
  have oA := oA'
  have HIA := HIA'
  have HSS := HSS'
  have hB := hB'
  clear hB' oA' HIA' HSS'
  obtain ⟨V, hV⟩ : ∃ V, V3 = V := ⟨_, rfl⟩
  rw [hV] at hB HIA HSS oA ⊢
  clear hV
  have hBs := hB.size
  obtain ⟨p0, q0, -⟩ := cells2 oA
  clear oA
  refine wp_region_plan 8 (.calm 0 (.calm 1 (.fork 2 (.calm 3 (.calm 4 (.calm 5 (.calm 6 (.calm 7 .tail))))) .none))) (by kernel_rfl) (by kernel_rfl) ?_
  simp only [Plan.walk, operAt, List.getElem?_cons_succ, List.getElem?_cons_zero, Option.getD_some, List.drop_succ_cons, List.drop_zero]
  repeat (refine wpX_calm (fun K hK => ?_); go_simp; first | (refine hK _ _ ?_; clear hK K) | (apply Exists.intro; refine ⟨fun _ => ?_, hK _ _ ?_⟩; (fail); clear hK K))
  refine wpX_only (fun K hK => ?_)
  go_simp
  intro x0
  refine (HMB.out _).mono ?_
  rintro _ U0 ⟨au0, cu0, rfl, hu0, hbu0⟩
  refine ⟨_, rfl, hbu0, hK _ _ ?_⟩
  clear hK K
  have HU0 := Lib.hid hu0
  have hvx0 : Below V.heap.size V x0.w := x0.below
  have hvu0 : Below V.heap.size V U0 := hvx0.trans (hbu0.mono hvx0.size)
  have hsu0 := hvu0.size
  clear hu0
  repeat (refine wpX_calm (fun K hK => ?_); go_simp; first | (refine hK _ _ ?_; clear hK K) | (apply Exists.intro; refine ⟨fun _ => ?_, hK _ _ ?_⟩; ((go_at_call 40; with_reducible exact HIM.out _ _ _ _ _ ((HIA.out.of (hvu0.trans ((Bel.below _).mono hsu0))).up (hvu0.trans ((Bel.below _).mono hsu0)).size) ((HU0.out.of (Bel.below _)).up (Bel.below _).size))); clear hK K))
  refine wpX_tail ?_
  intro z
  have hbZ : Below V.heap.size V z.w := hvu0.trans (z.below.mono hsu0)
  have HSH := Lib.hid (showsV_of HSS.out hbZ)
  have HB := Lib.hid (hB.trans (hbZ.mono hBs))
  have HVZ := Lib.hid (showsV_of HV.out HB.out)
  obtain ⟨Z, hZ⟩ : ∃ Z, z.w = Z := ⟨_, rfl⟩
  rw [hZ] at HSH HB HVZ ⊢
  clear hZ hbZ hB hBs hvu0 hvx0 hsu0 HU0 HIA HSS p0 q0 f1
  have hLN : (boolsD bl).length = bl.length := by simp [boolsD]
  go_wp2
  go_loopw [14, 15, 16, 17] (fun kv ev av xv wr => ∃ x : Nat, xv = .int .i64 (x : Int) ∧ x ≤ 6 ∧ kv = .int .i64 (fcntL ls x : Nat) ∧ ev = .bool (decide (∀ y ∈ ls, y < (x : Int) → y < (bl.length : Int))) ∧ av = .int .u64 (bitsK bl x : Nat) ∧ ∃ y : Bel Z, wr = y.w) (fun _ _ _ i _ => 100 - (intOf i).toNat)
  case atStart => exact ⟨0, rfl, by omega, by rw [show fcntL ls (0 : Nat) = 0 from cntL_zero fun x hx => (HSP.out.2.1 x hx).1]; rfl, by rw [decide_eq_true (fun y hy h => by have := (HSP.out.2.1 y hy).1; omega)], rfl, ⟨Z, Below.refl _ _⟩, rfl⟩
  case round =>
    obtain ⟨x, rfl, hx6, rfl, rfl, rfl, y, rfl⟩ := hrel
    have hZs := HB.out.size
    rcases Nat.lt_or_ge x 6 with hlt | hge
    · have f3 : decide ((x : Int) < 6) = true := decide_eq_true (by omega)
      have hcs := cntL_succ (x := (x : Int)) HSP.out.1
      have HD := Lib.hid (HDE.out x hlt)
      have hdl := HSP.out.2.2 x hlt
      obtain ⟨dd, hdd⟩ : ∃ dd, dep6 t x = dd := ⟨_, rfl⟩
      rw [hdd] at HD hdl
      obtain ⟨en, hen⟩ : ∃ en, decide (∀ y ∈ ls, y < (x : Int) → y < (bl.length : Int)) = en := ⟨_, rfl⟩
      have HEN : ∀ l : Bool, decide ((x : Int) < (bl.length : Int)) = l → decide (∀ y ∈ ls, y < ((x + 1 : Nat) : Int) → y < (bl.length : Int)) = (en && (!dd || l)) := fun l hl => by
        rw [← hen, ← hl]
        have hmem : (x : Int) ∈ ls ↔ dd = true := hdl
        have key : (∀ y ∈ ls, y < ((x + 1 : Nat) : Int) → y < (bl.length : Int)) ↔ ((∀ y ∈ ls, y < (x : Int) → y < (bl.length : Int)) ∧ (dd = true → (x : Int) < (bl.length : Int))) := by
          refine ⟨fun h => ⟨fun y hy hl => h y hy (by omega), fun hd => h x (hmem.2 hd) (by omega)⟩, fun h y hy hl => ?_⟩
          rcases Int.lt_trichotomy y x with h' | h' | h'
          · exact h.1 y hy h'
          · rw [h'] at hy ⊢; exact h.2 (hmem.1 hy)
          · omega
        rw [decide_eq_decide.2 key, Bool.decide_and]
        congr 1
        cases dd
        · simp
        · simp
      have HE := Lib.hid HEN
      rw [hen]
      obtain ⟨a5, c5, he5, hcl⟩ := showsV_at (showsV_of HSH.out y.below)
      injection he5 with he1 he2 he3
      subst he1
      obtain ⟨vb, vc5, he6, hvl⟩ := showsV_at (showsV_of HVZ.out y.below)
      injection he6 with he7 he8 he9
      subst he7
      rw [hLN] at hvl
      have hil : (intsV ls).length = ls.length := by simp [intsV]
      rw [hil] at hcl
      have HCL := Lib.hid hcl
      clear he2 he3 he8 he9 hcl HEN hen hdd hil
      obtain ⟨M, hM⟩ : ∃ M, fcntL ls (x : Int) = M := ⟨_, rfl⟩
      have hat : dd = true → ls[M]? = some (x : Int) := fun hd => by rw [← hM]; exact fcntL_at HSP.out.1 (hdl.2 hd)
      rw [hM] at hcs ⊢
      have HCS := Lib.hid (show fcntL ls ((x + 1 : Nat) : Int) = M + (if dd then 1 else 0) from by
        rw [show (((x + 1 : Nat)) : Int) = (x : Int) + 1 by omega, hcs]
        congr 1
        cases dd
        · rw [if_neg (fun h => by have := hdl.1 h; cases this)]; rfl
        · rw [if_pos (hdl.2 rfl)]; rfl)
      clear hM hcs hdl
      rcases Nat.lt_or_ge x bl.length with hxl | hxl
      · have fl : decide ((x : Int) < (bl.length : Int)) = true := decide_eq_true (by omega)
        obtain ⟨bx, hbx⟩ := some_at hxl
        obtain ⟨gv, gvo, hva, hvc⟩ := hvl (by omega)
        subst hva
        have hvcell := hvc x (.bool bx) (by unfold boolsD; rw [List.getElem?_map, hbx]; rfl)
        have hvib : (0 ≤ (x : Int) ∧ (x : Int) < (bl.length : Int)) := ⟨by omega, by omega⟩
        have hgd : bl.getD x false = bx := by rw [List.getD_eq_getElem?_getD, hbx]; rfl
        clear hvl hvc hbx
        cases bx
        · have HAT := Lib.hid (show bitsK bl (x + 1) = bitsK bl x by rw [bitsK, hgd]; rfl)
          clear hgd
          go_wp2_with fail
          refine (HD.out _).mono ?_
          rintro _ _ ⟨rfl, y7, rfl⟩
          have hb7 : Below Z.heap.size Z y7.w := by (repeat' (first | (with_reducible first | exact Below.refl _ _ | exact Nat.le_refl _ | refine Below.bel ?_ ?_ | refine Below.alloc ?_ ?_ _ | refine Below.drew ?_ | refine Below.drawsN ?_ _ | refine Below.setCell ?_ ?_ _ | refine le_bel ?_ | refine le_alloc ?_ | refine le_setCell ?_ | refine le_drew ?_ | refine le_drawsN ?_) | (dsimp only; with_reducible first | refine le_bel ?_ | refine Nat.le_refl _ | refine le_bel_add ?_) | (with_reducible assumption) | omega | (dsimp only; omega)))
          dsimp only
          cases dd
          · go_wp2
            go_roundw
            case rel => exact ⟨x + 1, by go_num, by omega, by rw [HCS.out]; rfl, by rw [HE.out true fl]; cases en <;> rfl, (by rw [HAT.out]), ⟨y7.w, hb7⟩, rfl⟩
            case measure => simp [intOf]; omega
          · have hat := hat rfl
            have hlen : M < ls.length := (List.getElem?_eq_some_iff.1 hat).1
            obtain ⟨gb, go, hadd, hcc⟩ := HCL.out (by omega)
            subst hadd
            have hcell := below_cell y7.below _ _ _ (hcc M (.int .i64 x) (by unfold intsV; rw [List.getElem?_map, hat]; rfl))
            have hib : (0 ≤ (M : Int) ∧ (M : Int) < (ls.length : Int)) := ⟨by omega, by omega⟩
            have f4 : decide ((ls.length : Int) ≤ (M : Int)) = false := decide_eq_false (by omega)
            have f5 : ((x : Int) != (x : Int)) = false := by simp
            clear hat hcc
            cases en
            · go_wp2
              go_roundw
              case rel => exact ⟨x + 1, by go_num, by omega, by rw [HCS.out, if_pos rfl]; go_num, by rw [HE.out true fl]; rfl, (by rw [HAT.out]), ⟨y7.w, hb7⟩, rfl⟩
              case measure => simp [intOf]; omega
            · go_wp2
              go_roundw
              case rel => exact ⟨x + 1, by go_num, by omega, by rw [HCS.out, if_pos rfl]; go_num, by rw [HE.out true fl]; rfl, (by rw [HAT.out]), ⟨y7.w, hb7⟩, rfl⟩
              case measure => simp [intOf]; omega
        · have hor := or_bit hgd hlt
          clear hgd
          go_wp2_with fail
          refine (HD.out _).mono ?_
          rintro _ _ ⟨rfl, y7, rfl⟩
          have hb7 : Below Z.heap.size Z y7.w := by (repeat' (first | (with_reducible first | exact Below.refl _ _ | exact Nat.le_refl _ | refine Below.bel ?_ ?_ | refine Below.alloc ?_ ?_ _ | refine Below.drew ?_ | refine Below.drawsN ?_ _ | refine Below.setCell ?_ ?_ _ | refine le_bel ?_ | refine le_alloc ?_ | refine le_setCell ?_ | refine le_drew ?_ | refine le_drawsN ?_) | (dsimp only; with_reducible first | refine le_bel ?_ | refine Nat.le_refl _ | refine le_bel_add ?_) | (with_reducible assumption) | omega | (dsimp only; omega)))
          dsimp only
          cases dd
          · go_wp2
            go_roundw
            case rel => exact ⟨x + 1, by go_num, by omega, by rw [HCS.out]; rfl, by rw [HE.out true fl]; cases en <;> rfl, rfl, ⟨y7.w, hb7⟩, rfl⟩
            case measure => simp [intOf]; omega
          · have hat := hat rfl
            have hlen : M < ls.length := (List.getElem?_eq_some_iff.1 hat).1
            obtain ⟨gb, go, hadd, hcc⟩ := HCL.out (by omega)
            subst hadd
            have hcell := below_cell y7.below _ _ _ (hcc M (.int .i64 x) (by unfold intsV; rw [List.getElem?_map, hat]; rfl))
            have hib : (0 ≤ (M : Int) ∧ (M : Int) < (ls.length : Int)) := ⟨by omega, by omega⟩
            have f4 : decide ((ls.length : Int) ≤ (M : Int)) = false := decide_eq_false (by omega)
            have f5 : ((x : Int) != (x : Int)) = false := by simp
            clear hat hcc
            cases en
            · go_wp2
              go_roundw
              case rel => exact ⟨x + 1, by go_num, by omega, by rw [HCS.out, if_pos rfl]; go_num, by rw [HE.out true fl]; rfl, rfl, ⟨y7.w, hb7⟩, rfl⟩
              case measure => simp [intOf]; omega
            · go_wp2
              go_roundw
              case rel => exact ⟨x + 1, by go_num, by omega, by rw [HCS.out, if_pos rfl]; go_num, by rw [HE.out true fl]; rfl, rfl, ⟨y7.w, hb7⟩, rfl⟩
              case measure => simp [intOf]; omega
      · have fl : decide ((x : Int) < (bl.length : Int)) = false := decide_eq_false (by omega)
        have hgd : bl.getD x false = false := by rw [List.getD_eq_getElem?_getD, List.getElem?_eq_none hxl]; rfl
        have HAT := Lib.hid (show bitsK bl (x + 1) = bitsK bl x by rw [bitsK, hgd]; rfl)
        clear hvl hgd
        go_wp2_with fail
        refine (HD.out _).mono ?_
        rintro _ _ ⟨rfl, y7, rfl⟩
        have hb7 : Below Z.heap.size Z y7.w := by (repeat' (first | (with_reducible first | exact Below.refl _ _ | exact Nat.le_refl _ | refine Below.bel ?_ ?_ | refine Below.alloc ?_ ?_ _ | refine Below.drew ?_ | refine Below.drawsN ?_ _ | refine Below.setCell ?_ ?_ _ | refine le_bel ?_ | refine le_alloc ?_ | refine le_setCell ?_ | refine le_drew ?_ | refine le_drawsN ?_) | (dsimp only; with_reducible first | refine le_bel ?_ | refine Nat.le_refl _ | refine le_bel_add ?_) | (with_reducible assumption) | omega | (dsimp only; omega)))
        dsimp only
        cases dd
        · go_wp2
          go_roundw
          case rel => exact ⟨x + 1, by go_num, by omega, by rw [HCS.out]; rfl, by rw [HE.out false fl]; cases en <;> rfl, (by rw [HAT.out]), ⟨y7.w, hb7⟩, rfl⟩
          case measure => simp [intOf]; omega
        · have hat := hat rfl
          have hlen : M < ls.length := (List.getElem?_eq_some_iff.1 hat).1
          obtain ⟨gb, go, hadd, hcc⟩ := HCL.out (by omega)
          subst hadd
          have hcell := below_cell y7.below _ _ _ (hcc M (.int .i64 x) (by unfold intsV; rw [List.getElem?_map, hat]; rfl))
          have hib : (0 ≤ (M : Int) ∧ (M : Int) < (ls.length : Int)) := ⟨by omega, by omega⟩
          have f4 : decide ((ls.length : Int) ≤ (M : Int)) = false := decide_eq_false (by omega)
          have f5 : ((x : Int) != (x : Int)) = false := by simp
          clear hat hcc
          cases en
          · go_wp2
            go_roundw
            case rel => exact ⟨x + 1, by go_num, by omega, by rw [HCS.out, if_pos rfl]; go_num, by rw [HE.out false fl]; rfl, (by rw [HAT.out]), ⟨y7.w, hb7⟩, rfl⟩
            case measure => simp [intOf]; omega
          · go_wp2
            go_roundw
            case rel => exact ⟨x + 1, by go_num, by omega, by rw [HCS.out, if_pos rfl]; go_num, by rw [HE.out false fl]; rfl, (by rw [HAT.out]), ⟨y7.w, hb7⟩, rfl⟩
            case measure => simp [intOf]; omega
    · have hxe : x = 6 := by omega
      subst hxe
      rw [show fcntL ls ((6 : Nat) : Int) = ls.length from cntL_all fun y hy => (HSP.out.2.1 y hy).2]
      have f4 : ((ls.length : Int) != (ls.length : Int)) = false := by simp
      have hbe := HB.out.trans (y.below.mono hZs)
      have hes := hbe.size
      rw [show decide (∀ y ∈ ls, y < ((6 : Nat) : Int) → y < (bl.length : Int)) = true from decide_eq_true fun y hy _ => HEE.out y hy]
      go_wp2
      go_ret
      exact Ret.mk rfl hbe
set_option maxRecDepth 100000 in
set_option maxHeartbeats 12800000 in
theorem lawValues_size (t u : Nat) (ht : t < 2 ^ 64) (hu : u < 2 ^ 64) (bl : List Bool) (va : Option Addr) (vc : Nat) (w : World) (hT : Tab w) (hv : ShowsV w (.slice va bl.length vc) (boolsD bl)) (hbl : bl.length ≤ 8) (hen : ¬ leastT t 6 ≤ bl.length) : Calls Tryz.prog 11 #[.int .u64 (t : Int), .int .u64 (u : Int), .slice va bl.length vc] w (Ret (.bool true) w) := by
  have f1 : decide ((8 : Int) < (bl.length : Int)) = false := decide_eq_false (by omega)
  have HT := Lib.hid hT
  have HV := Lib.hid hv
  obtain ⟨b, hb⟩ : ∃ b : Bool, b = true ↔ t &&& (18446744073709551615 - u) = 0 := by
    by_cases h : t &&& (18446744073709551615 - u) = 0
    · exact ⟨true, by simp [h]⟩
    · exact ⟨false, by simp [h]⟩
  have HMA := Lib.hid (fun w' => lawMake_any t ht w')
  have HMB := Lib.hid (fun w' => lawMake_any u hu w')
  have HVA := Lib.hid (fun ad cap w' (hi : InD w'.heap.size w' ad ((bldN t).map z3)) => dValue_size (ad, cap, bldN t, bldR t) va bl.length vc w' (dnB ht hi) (by dsimp only; rw [enough_bld ht, decide_eq_false hen]))
  have HSU := Lib.hid (fun ad cap w' (hi : InD w'.heap.size w' ad ((bldN t).map z3)) => dSupport_ok (ad, cap, bldN t, bldR t) w' (dnB ht hi))
  have HIM := Lib.hid (fun a1 a2 c1 c2 w' h1 h2 => Implies_tab t u ht hu b hb a1 a2 c1 c2 w' h1 h2)
  have HDE := Lib.hid (fun x (hx : x < 6) w' => refDep_any t x ht hx w')
  have hsp := supL_bld ht
  dsimp only at HSU
  have hee : ¬ ∀ x ∈ supL (bldN t), x < (bl.length : Int) := by
    rw [show (∀ x ∈ supL (bldN t), x < (bl.length : Int)) ↔ leastT t 6 ≤ bl.length from ?_]
    · exact hen
    · rw [leastT_iff]
      constructor
      · intro h v hv hd
        have := h v ((hsp.2.2 v hv).2 hd)
        omega
      · intro h x hx
        obtain ⟨h0, h6⟩ := hsp.2.1 x hx
        obtain ⟨n, rfl⟩ := Int.eq_ofNat_of_zero_le h0
        have := h n (by omega) ((hsp.2.2 n (by omega)).1 hx)
        omega
  have x1 := u64_andNot_nat t u ht hu
  obtain ⟨c, hc⟩ : ∃ c, t &&& (18446744073709551615 - u) = c := ⟨_, rfl⟩
  rw [hc] at x1 hb
  have x2 : ((c : Int) == 0) = b := by
    by_cases h : c = 0
    · rw [h]; exact (hb.2 h).symm
    · have : b = false := by cases b; rfl; exact absurd (hb.1 rfl) h
      rw [this]; simp; exact h
  have x3 : (b != b) = false := by cases b <;> rfl
  have x4 := low_bit (n := bitsK bl 6) ht
  have hb6 : bitsK bl 6 < 64 := bitsK_lt bl 6
  unfold RetBd at HMA HMB
  unfold dnV at HVA HSU HIM
  obtain ⟨ls, hls⟩ : ∃ ls, supL (bldN t) = ls := ⟨_, rfl⟩
  rw [hls] at HSU hsp hee
  have HSP := Lib.hid hsp
  have HEE := Lib.hid hee
  have hll : ls.length ≤ 6 := len_rise6 hsp.1 hsp.2.1
  obtain ⟨MA, hm_MA⟩ : ∃ M, bldN t = M := ⟨_, rfl⟩
  obtain ⟨RA, hm_RA⟩ : ∃ M, bldR t = M := ⟨_, rfl⟩
  rw [hm_MA, hm_RA] at HMA
  rw [hm_MA, hm_RA] at HVA
  rw [hm_MA, hm_RA] at HSU
  rw [hm_MA, hm_RA] at HIM
  clear hm_MA hm_RA
  obtain ⟨MB, hm_MB⟩ : ∃ M, bldN u = M := ⟨_, rfl⟩
  obtain ⟨RB, hm_RB⟩ : ∃ M, bldR u = M := ⟨_, rfl⟩
  rw [hm_MB, hm_RB] at HMB
  rw [hm_MB, hm_RB] at HIM
  clear hm_MB hm_RB
  have HC := Lib.hid hb
  clear hT hv hb hc hls hsp hee hen ht hu
  go_enter Tryz.func11, Tryz.ntmps11
  go_wp2_with fail
  (with_reducible refine (known_any _ (HT.out.of (by (repeat' (first | (with_reducible first | exact Below.refl _ _ | exact Nat.le_refl _ | refine Below.bel ?_ ?_ | refine Below.alloc ?_ ?_ _ | refine Below.drew ?_ | refine Below.drawsN ?_ _ | refine Below.setCell ?_ ?_ _ | refine le_bel ?_ | refine le_alloc ?_ | refine le_setCell ?_ | refine le_drew ?_ | refine le_drawsN ?_) | (dsimp only; with_reducible first | refine le_bel ?_ | refine Nat.le_refl _ | refine le_bel_add ?_) | (with_reducible assumption) | omega | (dsimp only; omega)))))).mono ?_)
  rintro _ _ ⟨rfl, y1, rfl⟩
  have hB0 : Below w.heap.size w y1.w := y1.below
  dsimp only
  go_wp2_with fail
  obtain ⟨V0, hV⟩ : ∃ V0, y1.w = V0 := ⟨_, rfl⟩
  rw [hV] at hB0 ⊢
  have hB := hB0
  clear hV hB0
  refine (HMA.out _).mono ?_
  rintro _ W1 ⟨adA, capA, rfl, hiA, hbn⟩
  have hsn := hbn.size
  have hbz : Below V0.heap.size V0 (W1.alloc (.cells #[.slice adA MA.length capA, .int .i64 (RA : Int)] 30)) := (hbn.alloc hsn _)
  have hbe : Below W1.heap.size W1 (W1.alloc (.cells #[.slice adA MA.length capA, .int .i64 (RA : Int)] 30)) := ((Below.refl W1.heap.size W1).alloc (Nat.le_refl _) _)
  have HIA' := Lib.hid ((hiA.of hbe).up hbe.size)
  clear hbe
  have oA' := World.alloc_heap_new W1 (.cells #[.slice adA MA.length capA, .int .i64 (RA : Int)] 30)
  have hB' := hB.trans (hbz.mono hB.size)
  clear hbn hbz hB  hiA
  obtain ⟨p0, q0, -⟩ := cells2 oA'
  dsimp only
  go_wp2_with fail
  clear p0 q0
  obtain ⟨V1, hV⟩ : ∃ V1, (W1.alloc (.cells #[.slice adA MA.length capA, .int .i64 (RA : Int)] 30)) = V1 := ⟨_, rfl⟩
  rw [hV] at hB' oA' HIA' ⊢
  clear hV hsn
  have oA := oA'
  have HIA := HIA'
  have hB := hB'
  clear hB' oA' HIA'
  refine (HVA.out _ _ _ HIA.out).mono ?_
  rintro _ _ ⟨rfl, y2, rfl⟩
  have hbn := y2.below
  have hsn := hbn.size
  have hbz : Below V1.heap.size V1 y2.w := hbn
  have oA' := obj_in hbz oA
  have HIA' := Lib.hid ((HIA.out.of hbz).up hbz.size)
  have hB' := hB.trans (hbz.mono hB.size)
  clear hbn hbz hB oA HIA
  obtain ⟨p0, q0, -⟩ := cells2 oA'
  dsimp only
  go_wp2_with fail
  clear p0 q0
  obtain ⟨V2, hV⟩ : ∃ V2, y2.w = V2 := ⟨_, rfl⟩
  rw [hV] at hB' oA' HIA' ⊢
  clear hV hsn
  have oA := oA'
  have HIA := HIA'
  have hB := hB'
  clear hB' oA' HIA'
  refine (HSU.out _ _ _ HIA.out).mono ?_
  rintro _ W3 ⟨_, rfl, howS, hbn⟩
  have hshS := ownV_shows howS
  obtain ⟨aS, cS, rfl, -⟩ := showsV_at hshS
  rw [show (intsV ls).length = ls.length by simp [intsV]] at hshS ⊢
  clear howS
  have hsn := hbn.size
  have hbz : Below V2.heap.size V2 W3 := hbn
  have oA' := obj_in hbz oA
  have HIA' := Lib.hid ((HIA.out.of hbz).up hbz.size)
  have HSS' := Lib.hid hshS
  have hB' := hB.trans (hbz.mono hB.size)
  clear hbn hbz hB oA HIA hshS
  obtain ⟨p0, q0, -⟩ := cells2 oA'
  dsimp only
  go_wp2_with fail
  clear p0 q0
  obtain ⟨V3, hV⟩ : ∃ V3, W3 = V3 := ⟨_, rfl⟩
  rw [hV] at hB' oA' HIA' HSS' ⊢
  clear hV hsn
  have oA := oA'
  have HIA := HIA'
  have HSS := HSS'
  have hB := hB'
  clear hB' oA' HIA' HSS'
  obtain ⟨V, hV⟩ : ∃ V, V3 = V := ⟨_, rfl⟩
  rw [hV] at hB HIA HSS oA ⊢
  clear hV
  have hBs := hB.size
  obtain ⟨p0, q0, -⟩ := cells2 oA
  clear oA
  refine wp_region_plan 8 (.calm 0 (.calm 1 (.fork 2 (.calm 3 (.calm 4 (.calm 5 (.calm 6 (.calm 7 .tail))))) .none))) (by kernel_rfl) (by kernel_rfl) ?_
  simp only [Plan.walk, operAt, List.getElem?_cons_succ, List.getElem?_cons_zero, Option.getD_some, List.drop_succ_cons, List.drop_zero]
  repeat (refine wpX_calm (fun K hK => ?_); go_simp; first | (refine hK _ _ ?_; clear hK K) | (apply Exists.intro; refine ⟨fun _ => ?_, hK _ _ ?_⟩; (fail); clear hK K))
  refine wpX_only (fun K hK => ?_)
  go_simp
  intro x0
  refine (HMB.out _).mono ?_
  rintro _ U0 ⟨au0, cu0, rfl, hu0, hbu0⟩
  refine ⟨_, rfl, hbu0, hK _ _ ?_⟩
  clear hK K
  have HU0 := Lib.hid hu0
  have hvx0 : Below V.heap.size V x0.w := x0.below
  have hvu0 : Below V.heap.size V U0 := hvx0.trans (hbu0.mono hvx0.size)
  have hsu0 := hvu0.size
  clear hu0
  repeat (refine wpX_calm (fun K hK => ?_); go_simp; first | (refine hK _ _ ?_; clear hK K) | (apply Exists.intro; refine ⟨fun _ => ?_, hK _ _ ?_⟩; ((go_at_call 40; with_reducible exact HIM.out _ _ _ _ _ ((HIA.out.of (hvu0.trans ((Bel.below _).mono hsu0))).up (hvu0.trans ((Bel.below _).mono hsu0)).size) ((HU0.out.of (Bel.below _)).up (Bel.below _).size))); clear hK K))
  refine wpX_tail ?_
  intro z
  have hbZ : Below V.heap.size V z.w := hvu0.trans (z.below.mono hsu0)
  have HSH := Lib.hid (showsV_of HSS.out hbZ)
  have HB := Lib.hid (hB.trans (hbZ.mono hBs))
  have HVZ := Lib.hid (showsV_of HV.out HB.out)
  obtain ⟨Z, hZ⟩ : ∃ Z, z.w = Z := ⟨_, rfl⟩
  rw [hZ] at HSH HB HVZ ⊢
  clear hZ hbZ hB hBs hvu0 hvx0 hsu0 HU0 HIA HSS p0 q0 f1
  have hLN : (boolsD bl).length = bl.length := by simp [boolsD]
  go_wp2
  go_loopw [14, 15, 16, 17] (fun kv ev av xv wr => ∃ x : Nat, xv = .int .i64 (x : Int) ∧ x ≤ 6 ∧ kv = .int .i64 (fcntL ls x : Nat) ∧ ev = .bool (decide (∀ y ∈ ls, y < (x : Int) → y < (bl.length : Int))) ∧ av = .int .u64 (bitsK bl x : Nat) ∧ ∃ y : Bel Z, wr = y.w) (fun _ _ _ i _ => 100 - (intOf i).toNat)
  case atStart => exact ⟨0, rfl, by omega, by rw [show fcntL ls (0 : Nat) = 0 from cntL_zero fun x hx => (HSP.out.2.1 x hx).1]; rfl, by rw [decide_eq_true (fun y hy h => by have := (HSP.out.2.1 y hy).1; omega)], rfl, ⟨Z, Below.refl _ _⟩, rfl⟩
  case round =>
    obtain ⟨x, rfl, hx6, rfl, rfl, rfl, y, rfl⟩ := hrel
    have hZs := HB.out.size
    rcases Nat.lt_or_ge x 6 with hlt | hge
    · have f3 : decide ((x : Int) < 6) = true := decide_eq_true (by omega)
      have hcs := cntL_succ (x := (x : Int)) HSP.out.1
      have HD := Lib.hid (HDE.out x hlt)
      have hdl := HSP.out.2.2 x hlt
      obtain ⟨dd, hdd⟩ : ∃ dd, dep6 t x = dd := ⟨_, rfl⟩
      rw [hdd] at HD hdl
      obtain ⟨en, hen⟩ : ∃ en, decide (∀ y ∈ ls, y < (x : Int) → y < (bl.length : Int)) = en := ⟨_, rfl⟩
      have HEN : ∀ l : Bool, decide ((x : Int) < (bl.length : Int)) = l → decide (∀ y ∈ ls, y < ((x + 1 : Nat) : Int) → y < (bl.length : Int)) = (en && (!dd || l)) := fun l hl => by
        rw [← hen, ← hl]
        have hmem : (x : Int) ∈ ls ↔ dd = true := hdl
        have key : (∀ y ∈ ls, y < ((x + 1 : Nat) : Int) → y < (bl.length : Int)) ↔ ((∀ y ∈ ls, y < (x : Int) → y < (bl.length : Int)) ∧ (dd = true → (x : Int) < (bl.length : Int))) := by
          refine ⟨fun h => ⟨fun y hy hl => h y hy (by omega), fun hd => h x (hmem.2 hd) (by omega)⟩, fun h y hy hl => ?_⟩
          rcases Int.lt_trichotomy y x with h' | h' | h'
          · exact h.1 y hy h'
          · rw [h'] at hy ⊢; exact h.2 (hmem.1 hy)
          · omega
        rw [decide_eq_decide.2 key, Bool.decide_and]
        congr 1
        cases dd
        · simp
        · simp
      have HE := Lib.hid HEN
      rw [hen]
      obtain ⟨a5, c5, he5, hcl⟩ := showsV_at (showsV_of HSH.out y.below)
      injection he5 with he1 he2 he3
      subst he1
      obtain ⟨vb, vc5, he6, hvl⟩ := showsV_at (showsV_of HVZ.out y.below)
      injection he6 with he7 he8 he9
      subst he7
      rw [hLN] at hvl
      have hil : (intsV ls).length = ls.length := by simp [intsV]
      rw [hil] at hcl
      have HCL := Lib.hid hcl
      clear he2 he3 he8 he9 hcl HEN hen hdd hil
      obtain ⟨M, hM⟩ : ∃ M, fcntL ls (x : Int) = M := ⟨_, rfl⟩
      have hat : dd = true → ls[M]? = some (x : Int) := fun hd => by rw [← hM]; exact fcntL_at HSP.out.1 (hdl.2 hd)
      rw [hM] at hcs ⊢
      have HCS := Lib.hid (show fcntL ls ((x + 1 : Nat) : Int) = M + (if dd then 1 else 0) from by
        rw [show (((x + 1 : Nat)) : Int) = (x : Int) + 1 by omega, hcs]
        congr 1
        cases dd
        · rw [if_neg (fun h => by have := hdl.1 h; cases this)]; rfl
        · rw [if_pos (hdl.2 rfl)]; rfl)
      clear hM hcs hdl
      rcases Nat.lt_or_ge x bl.length with hxl | hxl
      · have fl : decide ((x : Int) < (bl.length : Int)) = true := decide_eq_true (by omega)
        obtain ⟨bx, hbx⟩ := some_at hxl
        obtain ⟨gv, gvo, hva, hvc⟩ := hvl (by omega)
        subst hva
        have hvcell := hvc x (.bool bx) (by unfold boolsD; rw [List.getElem?_map, hbx]; rfl)
        have hvib : (0 ≤ (x : Int) ∧ (x : Int) < (bl.length : Int)) := ⟨by omega, by omega⟩
        have hgd : bl.getD x false = bx := by rw [List.getD_eq_getElem?_getD, hbx]; rfl
        clear hvl hvc hbx
        cases bx
        · have HAT := Lib.hid (show bitsK bl (x + 1) = bitsK bl x by rw [bitsK, hgd]; rfl)
          clear hgd
          go_wp2_with fail
          refine (HD.out _).mono ?_
          rintro _ _ ⟨rfl, y7, rfl⟩
          have hb7 : Below Z.heap.size Z y7.w := by (repeat' (first | (with_reducible first | exact Below.refl _ _ | exact Nat.le_refl _ | refine Below.bel ?_ ?_ | refine Below.alloc ?_ ?_ _ | refine Below.drew ?_ | refine Below.drawsN ?_ _ | refine Below.setCell ?_ ?_ _ | refine le_bel ?_ | refine le_alloc ?_ | refine le_setCell ?_ | refine le_drew ?_ | refine le_drawsN ?_) | (dsimp only; with_reducible first | refine le_bel ?_ | refine Nat.le_refl _ | refine le_bel_add ?_) | (with_reducible assumption) | omega | (dsimp only; omega)))
          dsimp only
          cases dd
          · go_wp2
            go_roundw
            case rel => exact ⟨x + 1, by go_num, by omega, by rw [HCS.out]; rfl, by rw [HE.out true fl]; cases en <;> rfl, (by rw [HAT.out]), ⟨y7.w, hb7⟩, rfl⟩
            case measure => simp [intOf]; omega
          · have hat := hat rfl
            have hlen : M < ls.length := (List.getElem?_eq_some_iff.1 hat).1
            obtain ⟨gb, go, hadd, hcc⟩ := HCL.out (by omega)
            subst hadd
            have hcell := below_cell y7.below _ _ _ (hcc M (.int .i64 x) (by unfold intsV; rw [List.getElem?_map, hat]; rfl))
            have hib : (0 ≤ (M : Int) ∧ (M : Int) < (ls.length : Int)) := ⟨by omega, by omega⟩
            have f4 : decide ((ls.length : Int) ≤ (M : Int)) = false := decide_eq_false (by omega)
            have f5 : ((x : Int) != (x : Int)) = false := by simp
            clear hat hcc
            cases en
            · go_wp2
              go_roundw
              case rel => exact ⟨x + 1, by go_num, by omega, by rw [HCS.out, if_pos rfl]; go_num, by rw [HE.out true fl]; rfl, (by rw [HAT.out]), ⟨y7.w, hb7⟩, rfl⟩
              case measure => simp [intOf]; omega
            · go_wp2
              go_roundw
              case rel => exact ⟨x + 1, by go_num, by omega, by rw [HCS.out, if_pos rfl]; go_num, by rw [HE.out true fl]; rfl, (by rw [HAT.out]), ⟨y7.w, hb7⟩, rfl⟩
              case measure => simp [intOf]; omega
        · have hor := or_bit hgd hlt
          clear hgd
          go_wp2_with fail
          refine (HD.out _).mono ?_
          rintro _ _ ⟨rfl, y7, rfl⟩
          have hb7 : Below Z.heap.size Z y7.w := by (repeat' (first | (with_reducible first | exact Below.refl _ _ | exact Nat.le_refl _ | refine Below.bel ?_ ?_ | refine Below.alloc ?_ ?_ _ | refine Below.drew ?_ | refine Below.drawsN ?_ _ | refine Below.setCell ?_ ?_ _ | refine le_bel ?_ | refine le_alloc ?_ | refine le_setCell ?_ | refine le_drew ?_ | refine le_drawsN ?_) | (dsimp only; with_reducible first | refine le_bel ?_ | refine Nat.le_refl _ | refine le_bel_add ?_) | (with_reducible assumption) | omega | (dsimp only; omega)))
          dsimp only
          cases dd
          · go_wp2
            go_roundw
            case rel => exact ⟨x + 1, by go_num, by omega, by rw [HCS.out]; rfl, by rw [HE.out true fl]; cases en <;> rfl, rfl, ⟨y7.w, hb7⟩, rfl⟩
            case measure => simp [intOf]; omega
          · have hat := hat rfl
            have hlen : M < ls.length := (List.getElem?_eq_some_iff.1 hat).1
            obtain ⟨gb, go, hadd, hcc⟩ := HCL.out (by omega)
            subst hadd
            have hcell := below_cell y7.below _ _ _ (hcc M (.int .i64 x) (by unfold intsV; rw [List.getElem?_map, hat]; rfl))
            have hib : (0 ≤ (M : Int) ∧ (M : Int) < (ls.length : Int)) := ⟨by omega, by omega⟩
            have f4 : decide ((ls.length : Int) ≤ (M : Int)) = false := decide_eq_false (by omega)
            have f5 : ((x : Int) != (x : Int)) = false := by simp
            clear hat hcc
            cases en
            · go_wp2
              go_roundw
              case rel => exact ⟨x + 1, by go_num, by omega, by rw [HCS.out, if_pos rfl]; go_num, by rw [HE.out true fl]; rfl, rfl, ⟨y7.w, hb7⟩, rfl⟩
              case measure => simp [intOf]; omega
            · go_wp2
              go_roundw
              case rel => exact ⟨x + 1, by go_num, by omega, by rw [HCS.out, if_pos rfl]; go_num, by rw [HE.out true fl]; rfl, rfl, ⟨y7.w, hb7⟩, rfl⟩
              case measure => simp [intOf]; omega
      · have fl : decide ((x : Int) < (bl.length : Int)) = false := decide_eq_false (by omega)
        have hgd : bl.getD x false = false := by rw [List.getD_eq_getElem?_getD, List.getElem?_eq_none hxl]; rfl
        have HAT := Lib.hid (show bitsK bl (x + 1) = bitsK bl x by rw [bitsK, hgd]; rfl)
        clear hvl hgd
        go_wp2_with fail
        refine (HD.out _).mono ?_
        rintro _ _ ⟨rfl, y7, rfl⟩
        have hb7 : Below Z.heap.size Z y7.w := by (repeat' (first | (with_reducible first | exact Below.refl _ _ | exact Nat.le_refl _ | refine Below.bel ?_ ?_ | refine Below.alloc ?_ ?_ _ | refine Below.drew ?_ | refine Below.drawsN ?_ _ | refine Below.setCell ?_ ?_ _ | refine le_bel ?_ | refine le_alloc ?_ | refine le_setCell ?_ | refine le_drew ?_ | refine le_drawsN ?_) | (dsimp only; with_reducible first | refine le_bel ?_ | refine Nat.le_refl _ | refine le_bel_add ?_) | (with_reducible assumption) | omega | (dsimp only; omega)))
        dsimp only
        cases dd
        · go_wp2
          go_roundw
          case rel => exact ⟨x + 1, by go_num, by omega, by rw [HCS.out]; rfl, by rw [HE.out false fl]; cases en <;> rfl, (by rw [HAT.out]), ⟨y7.w, hb7⟩, rfl⟩
          case measure => simp [intOf]; omega
        · have hat := hat rfl
          have hlen : M < ls.length := (List.getElem?_eq_some_iff.1 hat).1
          obtain ⟨gb, go, hadd, hcc⟩ := HCL.out (by omega)
          subst hadd
          have hcell := below_cell y7.below _ _ _ (hcc M (.int .i64 x) (by unfold intsV; rw [List.getElem?_map, hat]; rfl))
          have hib : (0 ≤ (M : Int) ∧ (M : Int) < (ls.length : Int)) := ⟨by omega, by omega⟩
          have f4 : decide ((ls.length : Int) ≤ (M : Int)) = false := decide_eq_false (by omega)
          have f5 : ((x : Int) != (x : Int)) = false := by simp
          clear hat hcc
          cases en
          · go_wp2
            go_roundw
            case rel => exact ⟨x + 1, by go_num, by omega, by rw [HCS.out, if_pos rfl]; go_num, by rw [HE.out false fl]; rfl, (by rw [HAT.out]), ⟨y7.w, hb7⟩, rfl⟩
            case measure => simp [intOf]; omega
          · go_wp2
            go_roundw
            case rel => exact ⟨x + 1, by go_num, by omega, by rw [HCS.out, if_pos rfl]; go_num, by rw [HE.out false fl]; rfl, (by rw [HAT.out]), ⟨y7.w, hb7⟩, rfl⟩
            case measure => simp [intOf]; omega
    · have hxe : x = 6 := by omega
      subst hxe
      rw [show fcntL ls ((6 : Nat) : Int) = ls.length from cntL_all fun y hy => (HSP.out.2.1 y hy).2]
      have f4 : ((ls.length : Int) != (ls.length : Int)) = false := by simp
      have hbe := HB.out.trans (y.below.mono hZs)
      have hes := hbe.size
      rw [show decide (∀ y ∈ ls, y < ((6 : Nat) : Int) → y < (bl.length : Int)) = false from decide_eq_false fun h => HEE.out fun y hy => h y hy (HSP.out.2.1 y hy).2]
      go_wp2
      go_ret
      exact Ret.mk rfl hbe
end Go.Proofs.YtkdmhjlcgpnjpaaGreatDoor
