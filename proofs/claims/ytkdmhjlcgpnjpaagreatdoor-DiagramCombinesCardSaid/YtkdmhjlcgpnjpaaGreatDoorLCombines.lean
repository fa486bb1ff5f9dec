/- The walk of DiagramCombines. -/
import Derived.Test.YtkdmhjlcgpnjpaaGreatDoorX28
import Derived.Test.YtkdmhjlcgpnjpaaGreatDoorXI
import Derived.Test.YtkdmhjlcgpnjpaaGreatDoorXJ
namespace Go.Proofs.YtkdmhjlcgpnjpaaGreatDoor
set_option linter.unusedVariables false
set_option linter.unusedSimpArgs false
open Go.RowKit Go.Maps
attribute [local go_sem low] Bel.cell Bel.frozen alloc_cell alloc_frozen
attribute [local go_sem] calmOp chainOp yieldsC grows

theorem xor_notT {a : Nat} (ha : a < 2 ^ 64) : 18446744073709551615 ^^^ a = notT a := by
  refine table_eq (Nat.xor_lt_two_pow (by decide) ha) (notT_lt a) fun v hv => ?_
  rw [Nat.testBit_xor, notT_test ha hv, show (18446744073709551615 : Nat) = 2 ^ 64 - 1 by decide, Nat.testBit_two_pow_sub_one, decide_eq_true hv, Bool.true_xor]
theorem u64_not {a : Nat} (ha : a < 2 ^ 64) : bits .xor .u64 (if IntKind.u64.signed = true then -1 else IntKind.u64.max) (a : Int) = (notT a : Int) := by
  rw [show (if IntKind.u64.signed = true then (-1 : Int) else IntKind.u64.max) = ((18446744073709551615 : Nat) : Int) by decide, u64_xor_nat _ _ (by decide) ha, xor_notT ha]
set_option maxRecDepth 100000 in
set_option maxHeartbeats 12800000 in
theorem lawCombines_any (a b c : Nat) (ha : a < 2 ^ 64) (hb : b < 2 ^ 64) (hc : c < 2 ^ 64) (w : World) (hT : Tab w) : Calls Tryz.prog 7 #[.int .u64 (a : Int), .int .u64 (b : Int), .int .u64 (c : Int)] w (Ret (.bool true) w) := by
  have HT := Lib.hid hT
  have HMA := Lib.hid (fun w' => lawMake_any a ha w')
  have HMB := Lib.hid (fun w' => lawMake_any b hb w')
  have HMC := Lib.hid (fun w' => lawMake_any c hc w')
  have l1 := bld_len (notT_lt a)
  have l2 := bld_len (Nat.and_lt_two_pow a hb)
  have l3 := bld_len (Nat.or_lt_two_pow ha hb)
  have ht4 : ((a &&& b) ||| (notT a &&& c)) < 2 ^ 64 := Nat.or_lt_two_pow (Nat.and_lt_two_pow _ hb) (Nat.and_lt_two_pow _ hc)
  have l4 := bld_len ht4
  have HC1 := Lib.hid (fun ad cap w' hi => Not_tab a ha ad cap w' hi)
  have HC2 := Lib.hid (fun a1 a2 c1 c2 w' h1 h2 => And_tab a b ha hb a1 a2 c1 c2 w' h1 h2)
  have HC3 := Lib.hid (fun a1 a2 c1 c2 w' h1 h2 => Or_tab a b ha hb a1 a2 c1 c2 w' h1 h2)
  have HC4 := Lib.hid (fun a1 a2 a3 c1 c2 c3 w' h1 h2 h3 => Choose_tab a b c ha hb hc a1 a2 a3 c1 c2 c3 w' h1 h2 h3)
  have HM1 := Lib.hid (fun w' => lawMake_any (notT a) (notT_lt a) w')
  have HM2 := Lib.hid (fun w' => lawMake_any (a &&& b) (Nat.and_lt_two_pow a hb) w')
  have HM3 := Lib.hid (fun w' => lawMake_any (a ||| b) (Nat.or_lt_two_pow ha hb) w')
  have HM4 := Lib.hid (fun w' => lawMake_any _ ht4 w')
  have HS := Lib.hid (fun M r a1 a2 c1 c2 w' h1 h2 hl => sameD_any M r a1 a2 c1 c2 w' h1 h2 hl)
  unfold RetBd at HMA HMB HMC HM1 HM2 HM3 HM4
  unfold RetDg at HC1 HC2 HC3 HC4
  unfold dnV at HC1 HC2 HC3 HC4
  have x1 := u64_not ha
  have x2 := u64_and_nat a b ha hb
  have x3 := u64_or_nat a b ha hb
  have x4 := u64_and_nat (notT a) c (notT_lt a) hc
  have x5 := u64_or_nat (a &&& b) (notT a &&& c) (Nat.and_lt_two_pow _ hb) (Nat.and_lt_two_pow _ hc)
  obtain ⟨n1, e1⟩ : ∃ n1, notT a = n1 := ⟨_, rfl⟩
  obtain ⟨n2, e2⟩ : ∃ n2, a &&& b = n2 := ⟨_, rfl⟩
  obtain ⟨n3, e3⟩ : ∃ n3, a ||| b = n3 := ⟨_, rfl⟩
  rw [e1] at x1 x4 x5 l1 l4 HC1 HC4 HM1 HM4
  rw [e2] at x2 x5 l2 l4 HC2 HC4 HM2 HM4
  rw [e3] at x3 l3 HC3 HM3
  obtain ⟨n5, e5⟩ : ∃ n5, n1 &&& c = n5 := ⟨_, rfl⟩
  rw [e5] at x4 x5 l4 HC4 HM4
  obtain ⟨n4, e4⟩ : ∃ n4, n2 ||| n5 = n4 := ⟨_, rfl⟩
  rw [e4] at x5 l4 HC4 HM4
  clear e1 e2 e3 e4 e5 ht4 hT
  obtain ⟨MA, hm_MA⟩ : ∃ M, bldN a = M := ⟨_, rfl⟩
  obtain ⟨RA, hm_RA⟩ : ∃ M, bldR a = M := ⟨_, rfl⟩
  rw [hm_MA, hm_RA] at HMA
  rw [hm_MA, hm_RA] at HC1
  rw [hm_MA, hm_RA] at HC2
  rw [hm_MA, hm_RA] at HC3
  rw [hm_MA, hm_RA] at HC4
  clear hm_MA hm_RA
  obtain ⟨MB, hm_MB⟩ : ∃ M, bldN b = M := ⟨_, rfl⟩
  obtain ⟨RB, hm_RB⟩ : ∃ M, bldR b = M := ⟨_, rfl⟩
  rw [hm_MB, hm_RB] at HMB
  rw [hm_MB, hm_RB] at HC2
  rw [hm_MB, hm_RB] at HC3
  rw [hm_MB, hm_RB] at HC4
  clear hm_MB hm_RB
  obtain ⟨MC, hm_MC⟩ : ∃ M, bldN c = M := ⟨_, rfl⟩
  obtain ⟨RC, hm_RC⟩ : ∃ M, bldR c = M := ⟨_, rfl⟩
  rw [hm_MC, hm_RC] at HMC
  rw [hm_MC, hm_RC] at HC4
  clear hm_MC hm_RC
  obtain ⟨M1, hm_M1⟩ : ∃ M, bldN n1 = M := ⟨_, rfl⟩
  obtain ⟨R1, hm_R1⟩ : ∃ M, bldR n1 = M := ⟨_, rfl⟩
  rw [hm_M1, hm_R1] at HC1
  rw [hm_M1, hm_R1] at HM1
  rw [hm_M1] at l1
  clear hm_M1 hm_R1
  obtain ⟨M2, hm_M2⟩ : ∃ M, bldN n2 = M := ⟨_, rfl⟩
  obtain ⟨R2, hm_R2⟩ : ∃ M, bldR n2 = M := ⟨_, rfl⟩
  rw [hm_M2, hm_R2] at HC2
  rw [hm_M2, hm_R2] at HM2
  rw [hm_M2] at l2
  clear hm_M2 hm_R2
  obtain ⟨M3, hm_M3⟩ : ∃ M, bldN n3 = M := ⟨_, rfl⟩
  obtain ⟨R3, hm_R3⟩ : ∃ M, bldR n3 = M := ⟨_, rfl⟩
  rw [hm_M3, hm_R3] at HC3
  rw [hm_M3, hm_R3] at HM3
  rw [hm_M3] at l3
  clear hm_M3 hm_R3
  obtain ⟨M4, hm_M4⟩ : ∃ M, bldN n4 = M := ⟨_, rfl⟩
  obtain ⟨R4, hm_R4⟩ : ∃ M, bldR n4 = M := ⟨_, rfl⟩
  rw [hm_M4, hm_R4] at HC4
  rw [hm_M4, hm_R4] at HM4
  rw [hm_M4] at l4
  clear hm_M4 hm_R4
  clear ha hb hc
  go_enter Tryz.func7, Tryz.ntmps7
  go_wp2_with fail
  (with_reducible refine (known_any _ (HT.out.of (by (repeat' (first | (with_reducible exact Below.refl _ _) | (with_reducible exact Nat.le_refl _) | (with_reducible refine Below.bel ?_ ?_) | (with_reducible refine Below.alloc ?_ ?_ _) | (with_reducible refine Below.drew ?_) | (with_reducible refine Below.drawsN ?_ _) | (with_reducible refine Below.setCell ?_ ?_ _) | (with_reducible refine le_bel ?_) | (with_reducible refine le_alloc ?_) | (with_reducible refine le_setCell ?_) | (with_reducible refine le_drew ?_) | (with_reducible refine le_drawsN ?_) | (dsimp only; with_reducible refine le_bel ?_) | (dsimp only; with_reducible refine Nat.le_refl _) | (dsimp only; with_reducible refine le_bel_add ?_) | (with_reducible assumption) | omega | (dsimp only; omega)))))).mono ?_)
  rintro _ _ ⟨rfl, y1, rfl⟩
  have hB0 : Below w.heap.size w y1.w := y1.below
  dsimp only
  go_wp2_with fail
  obtain ⟨V0, hV⟩ : ∃ V0, y1.w = V0 := ⟨_, rfl⟩
  rw [hV] at hB0 ⊢
  have hB := hB0
  clear hV hB0
  refine (HMA.out _).mono ?_
  rintro _ W1 ⟨adA, capA, rfl, hiA, hbn⟩
  have hsn := hbn.size
  have hbz : Below V0.heap.size V0 W1 := hbn
  have HIA' := Lib.hid hiA
  have hB' := hB.trans (hbz.mono hB.size)
  clear hbn hbz hB  hiA
  dsimp only
  go_wp2_with fail
  obtain ⟨V1, hV⟩ : ∃ V1, W1 = V1 := ⟨_, rfl⟩
  rw [hV] at hB' HIA' ⊢
  clear hV hsn
  have HIA := HIA'
  have hB := hB'
  clear hB' HIA'
  refine (HMB.out _).mono ?_
  rintro _ W2 ⟨adB, capB, rfl, hiB, hbn⟩
  have hsn := hbn.size
  have hbz : Below V1.heap.size V1 W2 := hbn
  have HIA' := Lib.hid ((HIA.out.of hbz).up hbz.size)
  have HIB' := Lib.hid hiB
  have hB' := hB.trans (hbz.mono hB.size)
  clear hbn hbz hB HIA hiB
  dsimp only
  go_wp2_with fail
  obtain ⟨V2, hV⟩ : ∃ V2, W2 = V2 := ⟨_, rfl⟩
  rw [hV] at hB' HIA' HIB' ⊢
  clear hV hsn
  have HIA := HIA'
  have HIB := HIB'
  have hB := hB'
  clear hB' HIA' HIB'
  refine (HMC.out _).mono ?_
  rintro _ W3 ⟨adC, capC, rfl, hiC, hbn⟩
  have hsn := hbn.size
  have hbz : Below V2.heap.size V2 (((W3.alloc (.cells #[.slice adA MA.length capA, .int .i64 (RA : Int)] 30)).alloc (.cells #[.slice adB MB.length capB, .int .i64 (RB : Int)] 30)).alloc (.cells #[.slice adC MC.length capC, .int .i64 (RC : Int)] 30)) := (((hbn.alloc hsn _).alloc (le_alloc hsn) _).alloc (le_alloc (le_alloc hsn)) _)
  have HIA' := Lib.hid ((HIA.out.of hbz).up hbz.size)
  have HIB' := Lib.hid ((HIB.out.of hbz).up hbz.size)
  have hbe : Below W3.heap.size W3 (((W3.alloc (.cells #[.slice adA MA.length capA, .int .i64 (RA : Int)] 30)).alloc (.cells #[.slice adB MB.length capB, .int .i64 (RB : Int)] 30)).alloc (.cells #[.slice adC MC.length capC, .int .i64 (RC : Int)] 30)) := ((((Below.refl W3.heap.size W3).alloc (Nat.le_refl _) _).alloc (le_alloc (Nat.le_refl _)) _).alloc (le_alloc (le_alloc (Nat.le_refl _))) _)
  have HIC' := Lib.hid ((hiC.of hbe).up hbe.size)
  clear hbe
  have oA' := obj_alloc (.cells #[.slice adC MC.length capC, .int .i64 (RC : Int)] 30) (obj_alloc (.cells #[.slice adB MB.length capB, .int .i64 (RB : Int)] 30) (World.alloc_heap_new W3 (.cells #[.slice adA MA.length capA, .int .i64 (RA : Int)] 30)))
  have oB' := obj_alloc (.cells #[.slice adC MC.length capC, .int .i64 (RC : Int)] 30) (newAt1 W3 (.cells #[.slice adA MA.length capA, .int .i64 (RA : Int)] 30) (.cells #[.slice adB MB.length capB, .int .i64 (RB : Int)] 30))
  have oC' := newAt2 W3 (.cells #[.slice adA MA.length capA, .int .i64 (RA : Int)] 30) (.cells #[.slice adB MB.length capB, .int .i64 (RB : Int)] 30) (.cells #[.slice adC MC.length capC, .int .i64 (RC : Int)] 30)
  have hB' := hB.trans (hbz.mono hB.size)
  clear hbn hbz hB HIA HIB hiC
  obtain ⟨p0, q0, -⟩ := cells2 oA'
  obtain ⟨p1, q1, -⟩ := cells2 oB'
  obtain ⟨p2, q2, -⟩ := cells2 oC'
  dsimp only
  go_wp2_with fail
  clear p0 q0 p1 q1 p2 q2
  obtain ⟨V3, hV⟩ : ∃ V3, (((W3.alloc (.cells #[.slice adA MA.length capA, .int .i64 (RA : Int)] 30)).alloc (.cells #[.slice adB MB.length capB, .int .i64 (RB : Int)] 30)).alloc (.cells #[.slice adC MC.length capC, .int .i64 (RC : Int)] 30)) = V3 := ⟨_, rfl⟩
  rw [hV] at hB' oA' oB' oC' HIA' HIB' HIC' ⊢
  clear hV hsn
  have oA := oA'
  have oB := oB'
  have oC := oC'
  have HIA := HIA'
  have HIB := HIB'
  have HIC := HIC'
  have hB := hB'
  clear hB' oA' oB' oC' HIA' HIB' HIC'
  refine (HC1.out _ _ _ HIA.out).mono ?_
  rintro _ W4 ⟨adN, capN, rfl, hiN, -, hbn⟩
  have hsn := hbn.size
  have hbz : Below V3.heap.size V3 (W4.alloc (.cells #[.slice adN M1.length capN, .int .i64 (R1 : Int)] 30)) := (hbn.alloc hsn _)
  have oA' := obj_in hbz oA
  have oB' := obj_in hbz oB
  have oC' := obj_in hbz oC
  have HIA' := Lib.hid ((HIA.out.of hbz).up hbz.size)
  have HIB' := Lib.hid ((HIB.out.of hbz).up hbz.size)
  have HIC' := Lib.hid ((HIC.out.of hbz).up hbz.size)
  have hbe : Below W4.heap.size W4 (W4.alloc (.cells #[.slice adN M1.length capN, .int .i64 (R1 : Int)] 30)) := ((Below.refl W4.heap.size W4).alloc (Nat.le_refl _) _)
  have HIN' := Lib.hid ((hiN.of hbe).up hbe.size)
  clear hbe
  have oN' := World.alloc_heap_new W4 (.cells #[.slice adN M1.length capN, .int .i64 (R1 : Int)] 30)
  have hB' := hB.trans (hbz.mono hB.size)
  clear hbn hbz hB oA oB oC HIA HIB HIC hiN
  obtain ⟨p0, q0, -⟩ := cells2 oA'
  obtain ⟨p1, q1, -⟩ := cells2 oB'
  obtain ⟨p2, q2, -⟩ := cells2 oC'
  obtain ⟨p3, q3, -⟩ := cells2 oN'
  dsimp only
  go_wp2_with fail
  clear p0 q0 p1 q1 p2 q2 p3 q3
  obtain ⟨V4, hV⟩ : ∃ V4, (W4.alloc (.cells #[.slice adN M1.length capN, .int .i64 (R1 : Int)] 30)) = V4 := ⟨_, rfl⟩
  rw [hV] at hB' oA' oB' oC' oN' HIA' HIB' HIC' HIN' ⊢
  clear hV hsn
  have oA := oA'
  have oB := oB'
  have oC := oC'
  have oN := oN'
  have HIA := HIA'
  have HIB := HIB'
  have HIC := HIC'
  have HIN := HIN'
  have hB := hB'
  clear hB' oA' oB' oC' oN' HIA' HIB' HIC' HIN'
  refine (HC2.out _ _ _ _ _ HIA.out HIB.out).mono ?_
  rintro _ W5 ⟨adP, capP, rfl, hiP, -, hbn⟩
  have hsn := hbn.size
  have hbz : Below V4.heap.size V4 (W5.alloc (.cells #[.slice adP M2.length capP, .int .i64 (R2 : Int)] 30)) := (hbn.alloc hsn _)
  have oA' := obj_in hbz oA
  have oB' := obj_in hbz oB
  have oC' := obj_in hbz oC
  have oN' := obj_in hbz oN
  have HIA' := Lib.hid ((HIA.out.of hbz).up hbz.size)
  have HIB' := Lib.hid ((HIB.out.of hbz).up hbz.size)
  have HIC' := Lib.hid ((HIC.out.of hbz).up hbz.size)
  have HIN' := Lib.hid ((HIN.out.of hbz).up hbz.size)
  have hbe : Below W5.heap.size W5 (W5.alloc (.cells #[.slice adP M2.length capP, .int .i64 (R2 : Int)] 30)) := ((Below.refl W5.heap.size W5).alloc (Nat.le_refl _) _)
  have HIP' := Lib.hid ((hiP.of hbe).up hbe.size)
  clear hbe
  have oP' := World.alloc_heap_new W5 (.cells #[.slice adP M2.length capP, .int .i64 (R2 : Int)] 30)
  have hB' := hB.trans (hbz.mono hB.size)
  clear hbn hbz hB oA oB oC oN HIA HIB HIC HIN hiP
  obtain ⟨p0, q0, -⟩ := cells2 oA'
  obtain ⟨p1, q1, -⟩ := cells2 oB'
  obtain ⟨p2, q2, -⟩ := cells2 oC'
  obtain ⟨p3, q3, -⟩ := cells2 oN'
  obtain ⟨p4, q4, -⟩ := cells2 oP'
  dsimp only
  go_wp2_with fail
  clear p0 q0 p1 q1 p2 q2 p3 q3 p4 q4
  obtain ⟨V5, hV⟩ : ∃ V5, (W5.alloc (.cells #[.slice adP M2.length capP, .int .i64 (R2 : Int)] 30)) = V5 := ⟨_, rfl⟩
  rw [hV] at hB' oA' oB' oC' oN' oP' HIA' HIB' HIC' HIN' HIP' ⊢
  clear hV hsn
  have oA := oA'
  have oB := oB'
  have oC := oC'
  have oN := oN'
  have oP := oP'
  have HIA := HIA'
  have HIB := HIB'
  have HIC := HIC'
  have HIN := HIN'
  have HIP := HIP'
  have hB := hB'
  clear hB' oA' oB' oC' oN' oP' HIA' HIB' HIC' HIN' HIP'
  refine (HC3.out _ _ _ _ _ HIA.out HIB.out).mono ?_
  rintro _ W6 ⟨adQ, capQ, rfl, hiQ, -, hbn⟩
  have hsn := hbn.size
  have hbz : Below V5.heap.size V5 (W6.alloc (.cells #[.slice adQ M3.length capQ, .int .i64 (R3 : Int)] 30)) := (hbn.alloc hsn _)
  have oA' := obj_in hbz oA
  have oB' := obj_in hbz oB
  have oC' := obj_in hbz oC
  have oN' := obj_in hbz oN
  have oP' := obj_in hbz oP
  have HIA' := Lib.hid ((HIA.out.of hbz).up hbz.size)
  have HIB' := Lib.hid ((HIB.out.of hbz).up hbz.size)
  have HIC' := Lib.hid ((HIC.out.of hbz).up hbz.size)
  have HIN' := Lib.hid ((HIN.out.of hbz).up hbz.size)
  have HIP' := Lib.hid ((HIP.out.of hbz).up hbz.size)
  have hbe : Below W6.heap.size W6 (W6.alloc (.cells #[.slice adQ M3.length capQ, .int .i64 (R3 : Int)] 30)) := ((Below.refl W6.heap.size W6).alloc (Nat.le_refl _) _)
  have HIQ' := Lib.hid ((hiQ.of hbe).up hbe.size)
  clear hbe
  have oQ' := World.alloc_heap_new W6 (.cells #[.slice adQ M3.length capQ, .int .i64 (R3 : Int)] 30)
  have hB' := hB.trans (hbz.mono hB.size)
  clear hbn hbz hB oA oB oC oN oP HIA HIB HIC HIN HIP hiQ
  obtain ⟨p0, q0, -⟩ := cells2 oA'
  obtain ⟨p1, q1, -⟩ := cells2 oB'
  obtain ⟨p2, q2, -⟩ := cells2 oC'
  obtain ⟨p3, q3, -⟩ := cells2 oN'
  obtain ⟨p4, q4, -⟩ := cells2 oP'
  obtain ⟨p5, q5, -⟩ := cells2 oQ'
  dsimp only
  go_wp2_with fail
  clear p0 q0 p1 q1 p2 q2 p3 q3 p4 q4 p5 q5
  obtain ⟨V6, hV⟩ : ∃ V6, (W6.alloc (.cells #[.slice adQ M3.length capQ, .int .i64 (R3 : Int)] 30)) = V6 := ⟨_, rfl⟩
  rw [hV] at hB' oA' oB' oC' oN' oP' oQ' HIA' HIB' HIC' HIN' HIP' HIQ' ⊢
  clear hV hsn
  have oA := oA'
  have oB := oB'
  have oC := oC'
  have oN := oN'
  have oP := oP'
  have oQ := oQ'
  have HIA := HIA'
  have HIB := HIB'
  have HIC := HIC'
  have HIN := HIN'
  have HIP := HIP'
  have HIQ := HIQ'
  have hB := hB'
  clear hB' oA' oB' oC' oN' oP' oQ' HIA' HIB' HIC' HIN' HIP' HIQ'
  refine (HC4.out _ _ _ _ _ _ _ HIA.out HIB.out HIC.out).mono ?_
  rintro _ W7 ⟨adR, capR, rfl, hiR, -, hbn⟩
  have hsn := hbn.size
  have hbz : Below V6.heap.size V6 (W7.alloc (.cells #[.slice adR M4.length capR, .int .i64 (R4 : Int)] 30)) := (hbn.alloc hsn _)
  have oA' := obj_in hbz oA
  have oB' := obj_in hbz oB
  have oC' := obj_in hbz oC
  have oN' := obj_in hbz oN
  have oP' := obj_in hbz oP
  have oQ' := obj_in hbz oQ
  have HIA' := Lib.hid ((HIA.out.of hbz).up hbz.size)
  have HIB' := Lib.hid ((HIB.out.of hbz).up hbz.size)
  have HIC' := Lib.hid ((HIC.out.of hbz).up hbz.size)
  have HIN' := Lib.hid ((HIN.out.of hbz).up hbz.size)
  have HIP' := Lib.hid ((HIP.out.of hbz).up hbz.size)
  have HIQ' := Lib.hid ((HIQ.out.of hbz).up hbz.size)
  have hbe : Below W7.heap.size W7 (W7.alloc (.cells #[.slice adR M4.length capR, .int .i64 (R4 : Int)] 30)) := ((Below.refl W7.heap.size W7).alloc (Nat.le_refl _) _)
  have HIR' := Lib.hid ((hiR.of hbe).up hbe.size)
  clear hbe
  have oR' := World.alloc_heap_new W7 (.cells #[.slice adR M4.length capR, .int .i64 (R4 : Int)] 30)
  have hB' := hB.trans (hbz.mono hB.size)
  clear hbn hbz hB oA oB oC oN oP oQ HIA HIB HIC HIN HIP HIQ hiR
  obtain ⟨p0, q0, -⟩ := cells2 oA'
  obtain ⟨p1, q1, -⟩ := cells2 oB'
  obtain ⟨p2, q2, -⟩ := cells2 oC'
  obtain ⟨p3, q3, -⟩ := cells2 oN'
  obtain ⟨p4, q4, -⟩ := cells2 oP'
  obtain ⟨p5, q5, -⟩ := cells2 oQ'
  obtain ⟨p6, q6, -⟩ := cells2 oR'
  dsimp only
  go_wp2_with fail
  clear p0 q0 p1 q1 p2 q2 p3 q3 p4 q4 p5 q5 p6 q6
  obtain ⟨V7, hV⟩ : ∃ V7, (W7.alloc (.cells #[.slice adR M4.length capR, .int .i64 (R4 : Int)] 30)) = V7 := ⟨_, rfl⟩
  rw [hV] at hB' oA' oB' oC' oN' oP' oQ' oR' HIA' HIB' HIC' HIN' HIP' HIQ' HIR' ⊢
  clear hV hsn
  have oA := oA'
  have oB := oB'
  have oC := oC'
  have oN := oN'
  have oP := oP'
  have oQ := oQ'
  have oR := oR'
  have HIA := HIA'
  have HIB := HIB'
  have HIC := HIC'
  have HIN := HIN'
  have HIP := HIP'
  have HIQ := HIQ'
  have HIR := HIR'
  have hB := hB'
  clear hB' oA' oB' oC' oN' oP' oQ' oR' HIA' HIB' HIC' HIN' HIP' HIQ' HIR'
  obtain ⟨V, hV⟩ : ∃ V, V7 = V := ⟨_, rfl⟩
  rw [hV] at hB HIN HIP HIQ HIR oN oP oQ oR ⊢
  clear hV HIA HIB HIC oA oB oC
  have hBs := hB.size
  obtain ⟨p0, q0, -⟩ := cells2 oN
  obtain ⟨p1, q1, -⟩ := cells2 oP
  obtain ⟨p2, q2, -⟩ := cells2 oQ
  obtain ⟨p3, q3, -⟩ := cells2 oR
  have HoN := Lib.hid oN
  have HoP := Lib.hid oP
  have HoQ := Lib.hid oQ
  have HoR := Lib.hid oR
  clear oN oP oQ oR
  refine wp_region_plan 50 (.calm 0 (.calm 1 (.calm 2 (.calm 3 (.calm 4 (.calm 5 (.fork 6 (.calm 7 (.calm 8 (.calm 9 (.calm 10 (.calm 11 (.calm 12 (.calm 13 (.calm 14 (.calm 15 (.calm 16 (.calm 17 (.fork 18 (.calm 19 (.calm 20 (.calm 21 (.calm 22 (.calm 23 (.calm 24 (.calm 25 (.calm 26 (.calm 27 (.calm 28 (.calm 29 (.fork 30 (.calm 31 (.calm 32 (.calm 33 (.calm 34 (.calm 35 (.calm 36 (.calm 37 (.calm 38 (.calm 39 (.calm 40 (.calm 41 (.calm 42 (.calm 43 (.calm 44 (.calm 45 (.calm 46 (.fork 47 (.calm 48 (.calm 49 .tail)) .none))))))))))))))))) .none)))))))))))) .none)))))))))))) .none))))))) (by kernel_rfl) (by kernel_rfl) ?_
  simp only [Plan.walk, operAt, List.getElem?_cons_succ, List.getElem?_cons_zero, Option.getD_some, List.drop_succ_cons, List.drop_zero]
  repeat (refine wpX_calm (fun K hK => ?_); go_simp; first | (refine hK _ _ ?_; clear hK K) | (apply Exists.intro; refine ⟨fun _ => ?_, hK _ _ ?_⟩; (fail); clear hK K))
  refine wpX_only (fun K hK => ?_)
  go_simp
  intro x0
  refine (HM1.out _).mono ?_
  rintro _ U0 ⟨au0, cu0, rfl, hu0, hbu0⟩
  refine ⟨_, rfl, hbu0, hK _ _ ?_⟩
  clear hK K
  have HU0 := Lib.hid hu0
  have hvx0 : Below V.heap.size V x0.w := x0.below
  have hvu0 : Below V.heap.size V U0 := hvx0.trans (hbu0.mono hvx0.size)
  have hsu0 := hvu0.size
  clear hu0
  obtain ⟨p0_0, q0_0, -⟩ := cells2 (obj_in hvu0 HoP.out)
  obtain ⟨p0_1, q0_1, -⟩ := cells2 (obj_in hvu0 HoQ.out)
  obtain ⟨p0_2, q0_2, -⟩ := cells2 (obj_in hvu0 HoR.out)
  repeat (refine wpX_calm (fun K hK => ?_); go_simp; first | (refine hK _ _ ?_; clear hK K) | (apply Exists.intro; refine ⟨fun _ => ?_, hK _ _ ?_⟩; ((go_at_call 16; with_reducible exact HS.out _ _ _ _ _ _ _ ((HIN.out.of (hvu0.trans ((Bel.below _).mono hsu0))).up (hvu0.trans ((Bel.below _).mono hsu0)).size) ((HU0.out.of (Bel.below _)).up (Bel.below _).size) (by omega))); clear hK K))
  refine wpX_only (fun K hK => ?_)
  go_simp
  intro x1
  refine (HM2.out _).mono ?_
  rintro _ U1 ⟨au1, cu1, rfl, hu1, hbu1⟩
  refine ⟨_, rfl, hbu1, hK _ _ ?_⟩
  clear hK K
  have HU1 := Lib.hid hu1
  have hvx1 : Below V.heap.size V x1.w := hvu0.trans (x1.below.mono hsu0)
  have hvu1 : Below V.heap.size V U1 := hvx1.trans (hbu1.mono hvx1.size)
  have hsu1 := hvu1.size
  clear hu1
  obtain ⟨p1_0, q1_0, -⟩ := cells2 (obj_in hvu1 HoQ.out)
  obtain ⟨p1_1, q1_1, -⟩ := cells2 (obj_in hvu1 HoR.out)
  repeat (refine wpX_calm (fun K hK => ?_); go_simp; first | (refine hK _ _ ?_; clear hK K) | (apply Exists.intro; refine ⟨fun _ => ?_, hK _ _ ?_⟩; ((go_at_call 16; with_reducible exact HS.out _ _ _ _ _ _ _ ((HIP.out.of (hvu1.trans ((Bel.below _).mono hsu1))).up (hvu1.trans ((Bel.below _).mono hsu1)).size) ((HU1.out.of (Bel.below _)).up (Bel.below _).size) (by omega))); clear hK K))
  refine wpX_only (fun K hK => ?_)
  go_simp
  intro x2
  refine (HM3.out _).mono ?_
  rintro _ U2 ⟨au2, cu2, rfl, hu2, hbu2⟩
  refine ⟨_, rfl, hbu2, hK _ _ ?_⟩
  clear hK K
  have HU2 := Lib.hid hu2
  have hvx2 : Below V.heap.size V x2.w := hvu1.trans (x2.below.mono hsu1)
  have hvu2 : Below V.heap.size V U2 := hvx2.trans (hbu2.mono hvx2.size)
  have hsu2 := hvu2.size
  clear hu2
  obtain ⟨p2_0, q2_0, -⟩ := cells2 (obj_in hvu2 HoR.out)
  repeat (refine wpX_calm (fun K hK => ?_); go_simp; first | (refine hK _ _ ?_; clear hK K) | (apply Exists.intro; refine ⟨fun _ => ?_, hK _ _ ?_⟩; ((go_at_call 16; with_reducible exact HS.out _ _ _ _ _ _ _ ((HIQ.out.of (hvu2.trans ((Bel.below _).mono hsu2))).up (hvu2.trans ((Bel.below _).mono hsu2)).size) ((HU2.out.of (Bel.below _)).up (Bel.below _).size) (by omega))); clear hK K))
  refine wpX_only (fun K hK => ?_)
  go_simp
  intro x3
  refine (HM4.out _).mono ?_
  rintro _ U3 ⟨au3, cu3, rfl, hu3, hbu3⟩
  refine ⟨_, rfl, hbu3, hK _ _ ?_⟩
  clear hK K
  have HU3 := Lib.hid hu3
  have hvx3 : Below V.heap.size V x3.w := hvu2.trans (x3.below.mono hsu2)
  have hvu3 : Below V.heap.size V U3 := hvx3.trans (hbu3.mono hvx3.size)
  have hsu3 := hvu3.size
  clear hu3
  repeat (refine wpX_calm (fun K hK => ?_); go_simp; first | (refine hK _ _ ?_; clear hK K) | (apply Exists.intro; refine ⟨fun _ => ?_, hK _ _ ?_⟩; ((go_at_call 16; with_reducible exact HS.out _ _ _ _ _ _ _ ((HIR.out.of (hvu3.trans ((Bel.below _).mono hsu3))).up (hvu3.trans ((Bel.below _).mono hsu3)).size) ((HU3.out.of (Bel.below _)).up (Bel.below _).size) (by omega))); clear hK K))
  have hbf := hB.trans (hvu3.mono hBs)
  have hsf := hbf.size
  refine wpX_tail ?_
  intro z
  go_wp2
  go_ret
  exact Ret.mk (by rfl) (by (repeat' (first | (with_reducible exact Below.refl _ _) | (with_reducible exact Nat.le_refl _) | (with_reducible refine Below.bel ?_ ?_) | (with_reducible refine Below.alloc ?_ ?_ _) | (with_reducible refine Below.drew ?_) | (with_reducible refine Below.drawsN ?_ _) | (with_reducible refine Below.setCell ?_ ?_ _) | (with_reducible refine le_bel ?_) | (with_reducible refine le_alloc ?_) | (with_reducible refine le_setCell ?_) | (with_reducible refine le_drew ?_) | (with_reducible refine le_drawsN ?_) | (dsimp only; with_reducible refine le_bel ?_) | (dsimp only; with_reducible refine Nat.le_refl _) | (dsimp only; with_reducible refine le_bel_add ?_) | (with_reducible assumption) | omega | (dsimp only; omega))))
end Go.Proofs.YtkdmhjlcgpnjpaaGreatDoor
