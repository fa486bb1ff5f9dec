/- The walk of DiagramSplits. -/
import Derived.Test.YtkdmhjlcgpnjpaaGreatDoorX28
import Derived.Test.YtkdmhjlcgpnjpaaGreatDoorXI
import Derived.Test.YtkdmhjlcgpnjpaaGreatDoorXJ
namespace Go.Proofs.YtkdmhjlcgpnjpaaGreatDoor
set_option linter.unusedVariables false
set_option linter.unusedSimpArgs false
open Go.RowKit Go.Maps
attribute [local go_sem low] Bel.cell Bel.frozen alloc_cell alloc_frozen
attribute [local go_sem] calmOp chainOp yieldsC grows

theorem eqD_any (M : List (Nat × Nat × Nat)) (r : Nat) (a1 a2 : Option Addr) (c1 c2 : Nat) (w : World) (h1 : InD w.heap.size w a1 (M.map z3)) (h2 : InD w.heap.size w a2 (M.map z3)) (hl : M.length ≤ 1000000) :
    Calls Tryz.prog 34 #[.agg #[.slice a1 M.length c1, .int .i64 (r : Int)], .agg #[.slice a2 M.length c2, .int .i64 (r : Int)]] w (Ret (.bool true) w) := by
  have h := dEqual_any (a1, c1, M.map z3, (r : Int)) (a2, c2, M.map z3, (r : Int)) w h1 h2 (by simpa using hl) (by simpa using hl)
  simpa using h
theorem lit_bld {k : Nat} (hk : k < 6) : litN k true = bldN (mask6 k) ∧ 2 = bldR (mask6 k) := by
  have h : ∀ k, k < 6 → litN k true = bldN (mask6 k) ∧ 2 = bldR (mask6 k) := by decide +kernel
  exact h k hk
theorem litTab {k : Nat} (hk : k < 6) (w : World) : Calls Tryz.prog 26 #[.int .i64 (k : Int), .bool true] w (RetDg (bldN (mask6 k)) (bldR (mask6 k)) w) := by
  have h := Literal_ok k true (by omega) w
  rw [(lit_bld hk).1] at h
  rw [← (lit_bld hk).2]
  exact h
theorem nd_small {c : Nat} (h : c ≤ 64) : I.nd (c : Int) ≤ 80000 := by
  have : ∀ c : Nat, c ≤ 64 → I.nd (c : Int) ≤ 80000 := by decide +kernel
  exact this c h
theorem it64 : (I.iT 64).toArray = #[54, 52] := by decide +kernel
set_option maxRecDepth 100000 in
set_option maxHeartbeats 12800000 in
theorem lawSplits_any (t u : Nat) (ht : t < 2 ^ 64) (hu : u < 2 ^ 64) (v : Nat) (hv : v < 256) (w : World) (hT : Tab w) : Calls Tryz.prog 9 #[.int .u64 (t : Int), .int .u64 (u : Int), .int .u8 (v : Int)] w (Ret (.bool true) w) := by
  have HT := Lib.hid hT
  obtain ⟨k, hkv⟩ : ∃ k, v % 6 = k := ⟨_, rfl⟩
  have hk : k < 6 := by omega
  have hrem : ((v : Int) % 6) = (k : Int) := by omega
  have HMA := Lib.hid (fun w' => lawMake_any t ht w')
  have HMB := Lib.hid (fun w' => lawMake_any u hu w')
  have HLI := Lib.hid (fun w' => litTab hk w')
  have HR1 := Lib.hid (fun ad cap w' hi => Restrict_tab t k true ht hk ad cap w' hi)
  have HR2 := Lib.hid (fun ad cap w' hi => Restrict_tab t k false ht hk ad cap w' hi)
  have HCH := Lib.hid (fun a1 a2 a3 c1 c2 c3 w' h1 h2 h3 => Choose_tab (mask6 k) (cof t k true) (cof t k false) (mask6_lt k) (cof_lt _ _ _) (cof_lt _ _ _) a1 a2 a3 c1 c2 c3 w' h1 h2 h3)
  rw [split_test k ht] at HCH
  have HN1 := Lib.hid (fun ad cap w' hi => Not_tab t ht ad cap w' hi)
  have HN2 := Lib.hid (fun ad cap w' hi => Not_tab (notT t) (notT_lt t) ad cap w' hi)
  rw [notT_two ht] at HN2
  have HA1 := Lib.hid (fun a1 a2 c1 c2 w' h1 h2 => And_tab t u ht hu a1 a2 c1 c2 w' h1 h2)
  have HA2 := Lib.hid (fun a1 a2 c1 c2 w' h1 h2 => And_tab u t hu ht a1 a2 c1 c2 w' h1 h2)
  have HO1 := Lib.hid (fun a1 a2 c1 c2 w' h1 h2 => Or_tab t u ht hu a1 a2 c1 c2 w' h1 h2)
  have HO2 := Lib.hid (fun a1 a2 c1 c2 w' h1 h2 => Or_tab u t hu ht a1 a2 c1 c2 w' h1 h2)
  rw [Nat.and_comm u t] at HA2
  rw [Nat.or_comm u t] at HO2
  have HCO := Lib.hid (fun ad cap w' hi hT => Count_tab t 6 ht (by decide) (leastT_le t 6) ad cap w' hi hT)
  have HCN := Lib.hid (fun ad cap w' hi hT => Count_tab (notT t) 6 (notT_lt t) (by decide) (leastT_le _ 6) ad cap w' hi hT)
  have hsum := bsg_not ht 64 (Nat.le_refl _)
  have e6 : 2 ^ min 6 6 = 64 ∧ 2 ^ (6 - 6) = 1 := by decide
  rw [e6.1, e6.2, Nat.mul_one] at HCO HCN
  have HS := Lib.hid (fun M r a1 a2 c1 c2 w' h1 h2 hl => eqD_any M r a1 a2 c1 c2 w' h1 h2 hl)
  have l1 := bld_len ht
  have l2 := bld_len (Nat.and_lt_two_pow t hu)
  have l3 := bld_len (Nat.or_lt_two_pow ht hu)
  unfold RetBd at HMA HMB
  unfold RetDg at HLI HR1 HR2 HCH HN1 HN2 HA1 HA2 HO1 HO2
  unfold dnV at HR1 HR2 HCH HN1 HN2 HA1 HA2 HO1 HO2 HCO HCN
  obtain ⟨n1, e1⟩ : ∃ n1, notT t = n1 := ⟨_, rfl⟩
  obtain ⟨n2, e2⟩ : ∃ n2, t &&& u = n2 := ⟨_, rfl⟩
  obtain ⟨n3, e3⟩ : ∃ n3, t ||| u = n3 := ⟨_, rfl⟩
  obtain ⟨n4, e4⟩ : ∃ n4, mask6 k = n4 := ⟨_, rfl⟩
  obtain ⟨n5, e5⟩ : ∃ n5, cof t k true = n5 := ⟨_, rfl⟩
  obtain ⟨n6, e7⟩ : ∃ n6, cof t k false = n6 := ⟨_, rfl⟩
  rw [e1] at HN1 HN2 HCN hsum
  rw [e2] at HA1 HA2 l2
  rw [e3] at HO1 HO2 l3
  rw [e4] at HLI HCH
  rw [e5] at HR1 HCH
  rw [e7] at HR2 HCH
  clear e1 e2 e3 e4 e5 e7 e6
  obtain ⟨MA, hm_MA⟩ : ∃ M, bldN t = M := ⟨_, rfl⟩
  obtain ⟨RA, hm_RA⟩ : ∃ M, bldR t = M := ⟨_, rfl⟩
  rw [hm_MA, hm_RA] at HMA
  rw [hm_MA, hm_RA] at HR1
  rw [hm_MA, hm_RA] at HR2
  rw [hm_MA, hm_RA] at HCH
  rw [hm_MA, hm_RA] at HN1
  rw [hm_MA, hm_RA] at HN2
  rw [hm_MA, hm_RA] at HA1
  rw [hm_MA, hm_RA] at HA2
  rw [hm_MA, hm_RA] at HO1
  rw [hm_MA, hm_RA] at HO2
  rw [hm_MA, hm_RA] at HCO
  rw [hm_MA] at l1
  clear hm_MA hm_RA
  obtain ⟨MB, hm_MB⟩ : ∃ M, bldN u = M := ⟨_, rfl⟩
  obtain ⟨RB, hm_RB⟩ : ∃ M, bldR u = M := ⟨_, rfl⟩
  rw [hm_MB, hm_RB] at HMB
  rw [hm_MB, hm_RB] at HA1
  rw [hm_MB, hm_RB] at HA2
  rw [hm_MB, hm_RB] at HO1
  rw [hm_MB, hm_RB] at HO2
  clear hm_MB hm_RB
  obtain ⟨M1, hm_M1⟩ : ∃ M, bldN n1 = M := ⟨_, rfl⟩
  obtain ⟨R1, hm_R1⟩ : ∃ M, bldR n1 = M := ⟨_, rfl⟩
  rw [hm_M1, hm_R1] at HN1
  rw [hm_M1, hm_R1] at HN2
  rw [hm_M1, hm_R1] at HCN
  clear hm_M1 hm_R1
  obtain ⟨M2, hm_M2⟩ : ∃ M, bldN n2 = M := ⟨_, rfl⟩
  obtain ⟨R2, hm_R2⟩ : ∃ M, bldR n2 = M := ⟨_, rfl⟩
  rw [hm_M2, hm_R2] at HA1
  rw [hm_M2, hm_R2] at HA2
  rw [hm_M2] at l2
  clear hm_M2 hm_R2
  obtain ⟨M3, hm_M3⟩ : ∃ M, bldN n3 = M := ⟨_, rfl⟩
  obtain ⟨R3, hm_R3⟩ : ∃ M, bldR n3 = M := ⟨_, rfl⟩
  rw [hm_M3, hm_R3] at HO1
  rw [hm_M3, hm_R3] at HO2
  rw [hm_M3] at l3
  clear hm_M3 hm_R3
  obtain ⟨M4, hm_M4⟩ : ∃ M, bldN n4 = M := ⟨_, rfl⟩
  obtain ⟨R4, hm_R4⟩ : ∃ M, bldR n4 = M := ⟨_, rfl⟩
  rw [hm_M4, hm_R4] at HLI
  rw [hm_M4, hm_R4] at HCH
  clear hm_M4 hm_R4
  obtain ⟨M5, hm_M5⟩ : ∃ M, bldN n5 = M := ⟨_, rfl⟩
  obtain ⟨R5, hm_R5⟩ : ∃ M, bldR n5 = M := ⟨_, rfl⟩
  rw [hm_M5, hm_R5] at HR1
  rw [hm_M5, hm_R5] at HCH
  clear hm_M5 hm_R5
  obtain ⟨M6, hm_M6⟩ : ∃ M, bldN n6 = M := ⟨_, rfl⟩
  obtain ⟨R6, hm_R6⟩ : ∃ M, bldR n6 = M := ⟨_, rfl⟩
  rw [hm_M6, hm_R6] at HR2
  rw [hm_M6, hm_R6] at HCH
  clear hm_M6 hm_R6
  obtain ⟨c1, k1⟩ : ∃ c1, bsg (fun u => t.testBit u) 64 = c1 := ⟨_, rfl⟩
  obtain ⟨c2, k2⟩ : ∃ c2, bsg (fun u => n1.testBit u) 64 = c2 := ⟨_, rfl⟩
  rw [k1] at HCO hsum
  rw [k2] at HCN hsum
  clear k1 k2
  have HAD := Lib.hid (fun w' hT => I.add_any (c1 : Int) (c2 : Int) w' (nd_small (by omega)) (nd_small (by omega)) hT)
  have e64 : (c1 : Int) + (c2 : Int) = 64 := by omega
  rw [e64, it64] at HAD
  obtain ⟨s1, k1⟩ : ∃ s1, (⟨(I.iT (c1 : Int)).toArray⟩ : ByteArray) = s1 := ⟨_, rfl⟩
  obtain ⟨s2, k2⟩ : ∃ s2, (⟨(I.iT (c2 : Int)).toArray⟩ : ByteArray) = s2 := ⟨_, rfl⟩
  rw [k1] at HCO HAD
  rw [k2] at HCN HAD
  clear k1 k2 e64 hsum hkv hT ht hu
  go_enter Tryz.func9, Tryz.ntmps9
  go_wp2_with fail
  (with_reducible refine (known_any _ (HT.out.of (by (repeat' (first | (with_reducible exact Below.refl _ _) | (with_reducible exact Nat.le_refl _) | (with_reducible refine Below.bel ?_ ?_) | (with_reducible refine Below.alloc ?_ ?_ _) | (with_reducible refine Below.drew ?_) | (with_reducible refine Below.drawsN ?_ _) | (with_reducible refine Below.setCell ?_ ?_ _) | (with_reducible refine le_bel ?_) | (with_reducible refine le_alloc ?_) | (with_reducible refine le_setCell ?_) | (with_reducible refine le_drew ?_) | (with_reducible refine le_drawsN ?_) | (dsimp only; with_reducible refine le_bel ?_) | (dsimp only; with_reducible refine Nat.le_refl _) | (dsimp only; with_reducible refine le_bel_add ?_) | (with_reducible assumption) | omega | (dsimp only; omega)))))).mono ?_)
  rintro _ _ ⟨rfl, y1, rfl⟩
  have hB0 : Below w.heap.size w y1.w := y1.below
  dsimp only
  go_wp2_with fail
  obtain ⟨V0, hV⟩ : ∃ V0, y1.w = V0 := ⟨_, rfl⟩
  rw [hV] at hB0 ⊢
  have hB := hB0
  clear hV hB0
  refine (HMA.out _).mono ?_
  rintro _ W1 ⟨adA, capA, rfl, hiA, hbn⟩
  have hsn := hbn.size
  have hbz : Below V0.heap.size V0 W1 := hbn
  have HIA' := Lib.hid hiA
  have hB' := hB.trans (hbz.mono hB.size)
  clear hbn hbz hB  hiA
  dsimp only
  go_wp2_with fail
  obtain ⟨V1, hV⟩ : ∃ V1, W1 = V1 := ⟨_, rfl⟩
  rw [hV] at hB' HIA' ⊢
  clear hV hsn
  have HIA := HIA'
  have hB := hB'
  clear hB' HIA'
  refine (HMB.out _).mono ?_
  rintro _ W2 ⟨adB, capB, rfl, hiB, hbn⟩
  have hsn := hbn.size
  have hbz : Below V1.heap.size V1 ((W2.alloc (.cells #[.slice adA MA.length capA, .int .i64 (RA : Int)] 30)).alloc (.cells #[.slice adB MB.length capB, .int .i64 (RB : Int)] 30)) := ((hbn.alloc hsn _).alloc (le_alloc hsn) _)
  have HIA' := Lib.hid ((HIA.out.of hbz).up hbz.size)
  have hbe : Below W2.heap.size W2 ((W2.alloc (.cells #[.slice adA MA.length capA, .int .i64 (RA : Int)] 30)).alloc (.cells #[.slice adB MB.length capB, .int .i64 (RB : Int)] 30)) := (((Below.refl W2.heap.size W2).alloc (Nat.le_refl _) _).alloc (le_alloc (Nat.le_refl _)) _)
  have HIB' := Lib.hid ((hiB.of hbe).up hbe.size)
  clear hbe
  have oA' := obj_alloc (.cells #[.slice adB MB.length capB, .int .i64 (RB : Int)] 30) (World.alloc_heap_new W2 (.cells #[.slice adA MA.length capA, .int .i64 (RA : Int)] 30))
  have oB' := newAt1 W2 (.cells #[.slice adA MA.length capA, .int .i64 (RA : Int)] 30) (.cells #[.slice adB MB.length capB, .int .i64 (RB : Int)] 30)
  have hB' := hB.trans (hbz.mono hB.size)
  clear hbn hbz hB HIA hiB
  obtain ⟨p0, q0, -⟩ := cells2 oA'
  obtain ⟨p1, q1, -⟩ := cells2 oB'
  dsimp only
  go_wp2_with fail
  clear p0 q0 p1 q1
  obtain ⟨V2, hV⟩ : ∃ V2, ((W2.alloc (.cells #[.slice adA MA.length capA, .int .i64 (RA : Int)] 30)).alloc (.cells #[.slice adB MB.length capB, .int .i64 (RB : Int)] 30)) = V2 := ⟨_, rfl⟩
  rw [hV] at hB' oA' oB' HIA' HIB' ⊢
  clear hV hsn
  have oA := oA'
  have oB := oB'
  have HIA := HIA'
  have HIB := HIB'
  have hB := hB'
  clear hB' oA' oB' HIA' HIB'
  refine (HLI.out _).mono ?_
  rintro _ W3 ⟨adL, capL, rfl, hiL, -, hbn⟩
  have hsn := hbn.size
  have hbz : Below V2.heap.size V2 (W3.alloc (.cells #[.slice adL M4.length capL, .int .i64 (R4 : Int)] 30)) := (hbn.alloc hsn _)
  have oA' := obj_in hbz oA
  have oB' := obj_in hbz oB
  have HIA' := Lib.hid ((HIA.out.of hbz).up hbz.size)
  have HIB' := Lib.hid ((HIB.out.of hbz).up hbz.size)
  have hbe : Below W3.heap.size W3 (W3.alloc (.cells #[.slice adL M4.length capL, .int .i64 (R4 : Int)] 30)) := ((Below.refl W3.heap.size W3).alloc (Nat.le_refl _) _)
  have HIL' := Lib.hid ((hiL.of hbe).up hbe.size)
  clear hbe
  have oL' := World.alloc_heap_new W3 (.cells #[.slice adL M4.length capL, .int .i64 (R4 : Int)] 30)
  have hB' := hB.trans (hbz.mono hB.size)
  clear hbn hbz hB oA oB HIA HIB hiL
  obtain ⟨p0, q0, -⟩ := cells2 oA'
  obtain ⟨p1, q1, -⟩ := cells2 oB'
  obtain ⟨p2, q2, -⟩ := cells2 oL'
  dsimp only
  go_wp2_with fail
  clear p0 q0 p1 q1 p2 q2
  obtain ⟨V3, hV⟩ : ∃ V3, (W3.alloc (.cells #[.slice adL M4.length capL, .int .i64 (R4 : Int)] 30)) = V3 := ⟨_, rfl⟩
  rw [hV] at hB' oA' oB' oL' HIA' HIB' HIL' ⊢
  clear hV hsn
  have oA := oA'
  have oB := oB'
  have oL := oL'
  have HIA := HIA'
  have HIB := HIB'
  have HIL := HIL'
  have hB := hB'
  clear hB' oA' oB' oL' HIA' HIB' HIL'
  refine (HR1.out _ _ _ HIA.out).mono ?_
  rintro _ W4 ⟨adY, capY, rfl, hiY, -, hbn⟩
  have hsn := hbn.size
  have hbz : Below V3.heap.size V3 (W4.alloc (.cells #[.slice adY M5.length capY, .int .i64 (R5 : Int)] 30)) := (hbn.alloc hsn _)
  have oA' := obj_in hbz oA
  have oB' := obj_in hbz oB
  have oL' := obj_in hbz oL
  have HIA' := Lib.hid ((HIA.out.of hbz).up hbz.size)
  have HIB' := Lib.hid ((HIB.out.of hbz).up hbz.size)
  have HIL' := Lib.hid ((HIL.out.of hbz).up hbz.size)
  have hbe : Below W4.heap.size W4 (W4.alloc (.cells #[.slice adY M5.length capY, .int .i64 (R5 : Int)] 30)) := ((Below.refl W4.heap.size W4).alloc (Nat.le_refl _) _)
  have HIY' := Lib.hid ((hiY.of hbe).up hbe.size)
  clear hbe
  have oY' := World.alloc_heap_new W4 (.cells #[.slice adY M5.length capY, .int .i64 (R5 : Int)] 30)
  have hB' := hB.trans (hbz.mono hB.size)
  clear hbn hbz hB oA oB oL HIA HIB HIL hiY
  obtain ⟨p0, q0, -⟩ := cells2 oA'
  obtain ⟨p1, q1, -⟩ := cells2 oB'
  obtain ⟨p2, q2, -⟩ := cells2 oL'
  obtain ⟨p3, q3, -⟩ := cells2 oY'
  dsimp only
  go_wp2_with fail
  clear p0 q0 p1 q1 p2 q2 p3 q3
  obtain ⟨V4, hV⟩ : ∃ V4, (W4.alloc (.cells #[.slice adY M5.length capY, .int .i64 (R5 : Int)] 30)) = V4 := ⟨_, rfl⟩
  rw [hV] at hB' oA' oB' oL' oY' HIA' HIB' HIL' HIY' ⊢
  clear hV hsn
  have oA := oA'
  have oB := oB'
  have oL := oL'
  have oY := oY'
  have HIA := HIA'
  have HIB := HIB'
  have HIL := HIL'
  have HIY := HIY'
  have hB := hB'
  clear hB' oA' oB' oL' oY' HIA' HIB' HIL' HIY'
  refine (HR2.out _ _ _ HIA.out).mono ?_
  rintro _ W5 ⟨adN, capN, rfl, hiN, -, hbn⟩
  have hsn := hbn.size
  have hbz : Below V4.heap.size V4 (W5.alloc (.cells #[.slice adN M6.length capN, .int .i64 (R6 : Int)] 30)) := (hbn.alloc hsn _)
  have oA' := obj_in hbz oA
  have oB' := obj_in hbz oB
  have oL' := obj_in hbz oL
  have oY' := obj_in hbz oY
  have HIA' := Lib.hid ((HIA.out.of hbz).up hbz.size)
  have HIB' := Lib.hid ((HIB.out.of hbz).up hbz.size)
  have HIL' := Lib.hid ((HIL.out.of hbz).up hbz.size)
  have HIY' := Lib.hid ((HIY.out.of hbz).up hbz.size)
  have hbe : Below W5.heap.size W5 (W5.alloc (.cells #[.slice adN M6.length capN, .int .i64 (R6 : Int)] 30)) := ((Below.refl W5.heap.size W5).alloc (Nat.le_refl _) _)
  have HIN' := Lib.hid ((hiN.of hbe).up hbe.size)
  clear hbe
  have oN' := World.alloc_heap_new W5 (.cells #[.slice adN M6.length capN, .int .i64 (R6 : Int)] 30)
  have hB' := hB.trans (hbz.mono hB.size)
  clear hbn hbz hB oA oB oL oY HIA HIB HIL HIY hiN
  obtain ⟨p0, q0, -⟩ := cells2 oA'
  obtain ⟨p1, q1, -⟩ := cells2 oB'
  obtain ⟨p2, q2, -⟩ := cells2 oL'
  obtain ⟨p3, q3, -⟩ := cells2 oY'
  obtain ⟨p4, q4, -⟩ := cells2 oN'
  dsimp only
  go_wp2_with fail
  clear p0 q0 p1 q1 p2 q2 p3 q3 p4 q4
  obtain ⟨V5, hV⟩ : ∃ V5, (W5.alloc (.cells #[.slice adN M6.length capN, .int .i64 (R6 : Int)] 30)) = V5 := ⟨_, rfl⟩
  rw [hV] at hB' oA' oB' oL' oY' oN' HIA' HIB' HIL' HIY' HIN' ⊢
  clear hV hsn
  have oA := oA'
  have oB := oB'
  have oL := oL'
  have oY := oY'
  have oN := oN'
  have HIA := HIA'
  have HIB := HIB'
  have HIL := HIL'
  have HIY := HIY'
  have HIN := HIN'
  have hB := hB'
  clear hB' oA' oB' oL' oY' oN' HIA' HIB' HIL' HIY' HIN'
  refine (HCH.out _ _ _ _ _ _ _ HIL.out HIY.out HIN.out).mono ?_
  rintro _ W6 ⟨adC, capC, rfl, hiC, -, hbn⟩
  have hsn := hbn.size
  have hbz : Below V5.heap.size V5 (W6.alloc (.cells #[.slice adC MA.length capC, .int .i64 (RA : Int)] 30)) := (hbn.alloc hsn _)
  have oA' := obj_in hbz oA
  have oB' := obj_in hbz oB
  have oL' := obj_in hbz oL
  have oY' := obj_in hbz oY
  have oN' := obj_in hbz oN
  have HIA' := Lib.hid ((HIA.out.of hbz).up hbz.size)
  have HIB' := Lib.hid ((HIB.out.of hbz).up hbz.size)
  have HIL' := Lib.hid ((HIL.out.of hbz).up hbz.size)
  have HIY' := Lib.hid ((HIY.out.of hbz).up hbz.size)
  have HIN' := Lib.hid ((HIN.out.of hbz).up hbz.size)
  have hbe : Below W6.heap.size W6 (W6.alloc (.cells #[.slice adC MA.length capC, .int .i64 (RA : Int)] 30)) := ((Below.refl W6.heap.size W6).alloc (Nat.le_refl _) _)
  have HIC' := Lib.hid ((hiC.of hbe).up hbe.size)
  clear hbe
  have oC' := World.alloc_heap_new W6 (.cells #[.slice adC MA.length capC, .int .i64 (RA : Int)] 30)
  have hB' := hB.trans (hbz.mono hB.size)
  clear hbn hbz hB oA oB oL oY oN HIA HIB HIL HIY HIN hiC
  obtain ⟨p0, q0, -⟩ := cells2 oA'
  obtain ⟨p1, q1, -⟩ := cells2 oB'
  obtain ⟨p2, q2, -⟩ := cells2 oL'
  obtain ⟨p3, q3, -⟩ := cells2 oY'
  obtain ⟨p4, q4, -⟩ := cells2 oN'
  obtain ⟨p5, q5, -⟩ := cells2 oC'
  dsimp only
  go_wp2_with fail
  clear p0 q0 p1 q1 p2 q2 p3 q3 p4 q4 p5 q5
  obtain ⟨V6, hV⟩ : ∃ V6, (W6.alloc (.cells #[.slice adC MA.length capC, .int .i64 (RA : Int)] 30)) = V6 := ⟨_, rfl⟩
  rw [hV] at hB' oA' oB' oL' oY' oN' oC' HIA' HIB' HIL' HIY' HIN' HIC' ⊢
  clear hV hsn
  have oA := oA'
  have oB := oB'
  have oL := oL'
  have oY := oY'
  have oN := oN'
  have oC := oC'
  have HIA := HIA'
  have HIB := HIB'
  have HIL := HIL'
  have HIY := HIY'
  have HIN := HIN'
  have HIC := HIC'
  have hB := hB'
  clear hB' oA' oB' oL' oY' oN' oC' HIA' HIB' HIL' HIY' HIN' HIC'
  refine (HN1.out _ _ _ HIA.out).mono ?_
  rintro _ W7 ⟨adD, capD, rfl, hiD, -, hbn⟩
  have hsn := hbn.size
  have hbz : Below V6.heap.size V6 (W7.alloc (.cells #[.slice adD M1.length capD, .int .i64 (R1 : Int)] 30)) := (hbn.alloc hsn _)
  have oA' := obj_in hbz oA
  have oB' := obj_in hbz oB
  have oC' := obj_in hbz oC
  have HIA' := Lib.hid ((HIA.out.of hbz).up hbz.size)
  have HIB' := Lib.hid ((HIB.out.of hbz).up hbz.size)
  have HIC' := Lib.hid ((HIC.out.of hbz).up hbz.size)
  have hbe : Below W7.heap.size W7 (W7.alloc (.cells #[.slice adD M1.length capD, .int .i64 (R1 : Int)] 30)) := ((Below.refl W7.heap.size W7).alloc (Nat.le_refl _) _)
  have HID' := Lib.hid ((hiD.of hbe).up hbe.size)
  clear hbe
  have oD' := World.alloc_heap_new W7 (.cells #[.slice adD M1.length capD, .int .i64 (R1 : Int)] 30)
  have hB' := hB.trans (hbz.mono hB.size)
  clear hbn hbz hB oA oB oC HIA HIB HIC hiD
  obtain ⟨p0, q0, -⟩ := cells2 oA'
  obtain ⟨p1, q1, -⟩ := cells2 oB'
  obtain ⟨p2, q2, -⟩ := cells2 oC'
  obtain ⟨p3, q3, -⟩ := cells2 oD'
  dsimp only
  go_wp2_with fail
  clear p0 q0 p1 q1 p2 q2 p3 q3
  obtain ⟨V7, hV⟩ : ∃ V7, (W7.alloc (.cells #[.slice adD M1.length capD, .int .i64 (R1 : Int)] 30)) = V7 := ⟨_, rfl⟩
  rw [hV] at hB' oA' oB' oC' oD' HIA' HIB' HIC' HID' ⊢
  clear hV hsn
  have oA := oA'
  have oB := oB'
  have oC := oC'
  have oD := oD'
  have HIA := HIA'
  have HIB := HIB'
  have HIC := HIC'
  have HID := HID'
  have hB := hB'
  clear hB' oA' oB' oC' oD' HIA' HIB' HIC' HID'
  refine (HN2.out _ _ _ HID.out).mono ?_
  rintro _ W8 ⟨adE, capE, rfl, hiE, -, hbn⟩
  have hsn := hbn.size
  have hbz : Below V7.heap.size V7 (W8.alloc (.cells #[.slice adE MA.length capE, .int .i64 (RA : Int)] 30)) := (hbn.alloc hsn _)
  have oA' := obj_in hbz oA
  have oB' := obj_in hbz oB
  have oC' := obj_in hbz oC
  have oD' := obj_in hbz oD
  have HIA' := Lib.hid ((HIA.out.of hbz).up hbz.size)
  have HIB' := Lib.hid ((HIB.out.of hbz).up hbz.size)
  have HIC' := Lib.hid ((HIC.out.of hbz).up hbz.size)
  have HID' := Lib.hid ((HID.out.of hbz).up hbz.size)
  have hbe : Below W8.heap.size W8 (W8.alloc (.cells #[.slice adE MA.length capE, .int .i64 (RA : Int)] 30)) := ((Below.refl W8.heap.size W8).alloc (Nat.le_refl _) _)
  have HIE' := Lib.hid ((hiE.of hbe).up hbe.size)
  clear hbe
  have oE' := World.alloc_heap_new W8 (.cells #[.slice adE MA.length capE, .int .i64 (RA : Int)] 30)
  have hB' := hB.trans (hbz.mono hB.size)
  clear hbn hbz hB oA oB oC oD HIA HIB HIC HID hiE
  obtain ⟨p0, q0, -⟩ := cells2 oA'
  obtain ⟨p1, q1, -⟩ := cells2 oB'
  obtain ⟨p2, q2, -⟩ := cells2 oC'
  obtain ⟨p3, q3, -⟩ := cells2 oD'
  obtain ⟨p4, q4, -⟩ := cells2 oE'
  dsimp only
  go_wp2_with fail
  clear p0 q0 p1 q1 p2 q2 p3 q3 p4 q4
  obtain ⟨V8, hV⟩ : ∃ V8, (W8.alloc (.cells #[.slice adE MA.length capE, .int .i64 (RA : Int)] 30)) = V8 := ⟨_, rfl⟩
  rw [hV] at hB' oA' oB' oC' oD' oE' HIA' HIB' HIC' HID' HIE' ⊢
  clear hV hsn
  have oA := oA'
  have oB := oB'
  have oC := oC'
  have oD := oD'
  have oE := oE'
  have HIA := HIA'
  have HIB := HIB'
  have HIC := HIC'
  have HID := HID'
  have HIE := HIE'
  have hB := hB'
  clear hB' oA' oB' oC' oD' oE' HIA' HIB' HIC' HID' HIE'
  refine (HS.out _ _ _ _ _ _ _ HIC.out HIA.out (by omega)).mono ?_
  rintro _ _ ⟨rfl, y9, rfl⟩
  have hbn := y9.below
  have hsn := hbn.size
  have hbz : Below V8.heap.size V8 y9.w := hbn
  have oA' := obj_in hbz oA
  have oB' := obj_in hbz oB
  have oC' := obj_in hbz oC
  have oD' := obj_in hbz oD
  have oE' := obj_in hbz oE
  have HIA' := Lib.hid ((HIA.out.of hbz).up hbz.size)
  have HIB' := Lib.hid ((HIB.out.of hbz).up hbz.size)
  have HIC' := Lib.hid ((HIC.out.of hbz).up hbz.size)
  have HID' := Lib.hid ((HID.out.of hbz).up hbz.size)
  have HIE' := Lib.hid ((HIE.out.of hbz).up hbz.size)
  have hB' := hB.trans (hbz.mono hB.size)
  clear hbn hbz hB oA oB oC oD oE HIA HIB HIC HID HIE
  obtain ⟨p0, q0, -⟩ := cells2 oA'
  obtain ⟨p1, q1, -⟩ := cells2 oB'
  obtain ⟨p2, q2, -⟩ := cells2 oC'
  obtain ⟨p3, q3, -⟩ := cells2 oD'
  obtain ⟨p4, q4, -⟩ := cells2 oE'
  dsimp only
  go_wp2_with fail
  clear p0 q0 p1 q1 p2 q2 p3 q3 p4 q4
  obtain ⟨V9, hV⟩ : ∃ V9, y9.w = V9 := ⟨_, rfl⟩
  rw [hV] at hB' oA' oB' oC' oD' oE' HIA' HIB' HIC' HID' HIE' ⊢
  clear hV hsn
  have oA := oA'
  have oB := oB'
  have oC := oC'
  have oD := oD'
  have oE := oE'
  have HIA := HIA'
  have HIB := HIB'
  have HIC := HIC'
  have HID := HID'
  have HIE := HIE'
  have hB := hB'
  clear hB' oA' oB' oC' oD' oE' HIA' HIB' HIC' HID' HIE'
  refine (HS.out _ _ _ _ _ _ _ HIE.out HIA.out (by omega)).mono ?_
  rintro _ _ ⟨rfl, y10, rfl⟩
  have hbn := y10.below
  have hsn := hbn.size
  have hbz : Below V9.heap.size V9 y10.w := hbn
  have oA' := obj_in hbz oA
  have oB' := obj_in hbz oB
  have oD' := obj_in hbz oD
  have HIA' := Lib.hid ((HIA.out.of hbz).up hbz.size)
  have HIB' := Lib.hid ((HIB.out.of hbz).up hbz.size)
  have HID' := Lib.hid ((HID.out.of hbz).up hbz.size)
  have hB' := hB.trans (hbz.mono hB.size)
  clear hbn hbz hB oA oB oD HIA HIB HID
  obtain ⟨p0, q0, -⟩ := cells2 oA'
  obtain ⟨p1, q1, -⟩ := cells2 oB'
  obtain ⟨p2, q2, -⟩ := cells2 oD'
  dsimp only
  go_wp2_with fail
  clear p0 q0 p1 q1 p2 q2
  obtain ⟨V10, hV⟩ : ∃ V10, y10.w = V10 := ⟨_, rfl⟩
  rw [hV] at hB' oA' oB' oD' HIA' HIB' HID' ⊢
  clear hV hsn
  have oA := oA'
  have oB := oB'
  have oD := oD'
  have HIA := HIA'
  have HIB := HIB'
  have HID := HID'
  have hB := hB'
  clear hB' oA' oB' oD' HIA' HIB' HID'
  refine (HA1.out _ _ _ _ _ HIA.out HIB.out).mono ?_
  rintro _ W11 ⟨adP, capP, rfl, hiP, -, hbn⟩
  have hsn := hbn.size
  have hbz : Below V10.heap.size V10 (W11.alloc (.cells #[.slice adP M2.length capP, .int .i64 (R2 : Int)] 30)) := (hbn.alloc hsn _)
  have oA' := obj_in hbz oA
  have oB' := obj_in hbz oB
  have oD' := obj_in hbz oD
  have HIA' := Lib.hid ((HIA.out.of hbz).up hbz.size)
  have HIB' := Lib.hid ((HIB.out.of hbz).up hbz.size)
  have HID' := Lib.hid ((HID.out.of hbz).up hbz.size)
  have hbe : Below W11.heap.size W11 (W11.alloc (.cells #[.slice adP M2.length capP, .int .i64 (R2 : Int)] 30)) := ((Below.refl W11.heap.size W11).alloc (Nat.le_refl _) _)
  have HIP' := Lib.hid ((hiP.of hbe).up hbe.size)
  clear hbe
  have oP' := World.alloc_heap_new W11 (.cells #[.slice adP M2.length capP, .int .i64 (R2 : Int)] 30)
  have hB' := hB.trans (hbz.mono hB.size)
  clear hbn hbz hB oA oB oD HIA HIB HID hiP
  obtain ⟨p0, q0, -⟩ := cells2 oA'
  obtain ⟨p1, q1, -⟩ := cells2 oB'
  obtain ⟨p2, q2, -⟩ := cells2 oD'
  obtain ⟨p3, q3, -⟩ := cells2 oP'
  dsimp only
  go_wp2_with fail
  clear p0 q0 p1 q1 p2 q2 p3 q3
  obtain ⟨V11, hV⟩ : ∃ V11, (W11.alloc (.cells #[.slice adP M2.length capP, .int .i64 (R2 : Int)] 30)) = V11 := ⟨_, rfl⟩
  rw [hV] at hB' oA' oB' oD' oP' HIA' HIB' HID' HIP' ⊢
  clear hV hsn
  have oA := oA'
  have oB := oB'
  have oD := oD'
  have oP := oP'
  have HIA := HIA'
  have HIB := HIB'
  have HID := HID'
  have HIP := HIP'
  have hB := hB'
  clear hB' oA' oB' oD' oP' HIA' HIB' HID' HIP'
  refine (HA2.out _ _ _ _ _ HIB.out HIA.out).mono ?_
  rintro _ W12 ⟨adQ, capQ, rfl, hiQ, -, hbn⟩
  have hsn := hbn.size
  have hbz : Below V11.heap.size V11 (W12.alloc (.cells #[.slice adQ M2.length capQ, .int .i64 (R2 : Int)] 30)) := (hbn.alloc hsn _)
  have oA' := obj_in hbz oA
  have oB' := obj_in hbz oB
  have oD' := obj_in hbz oD
  have oP' := obj_in hbz oP
  have HIA' := Lib.hid ((HIA.out.of hbz).up hbz.size)
  have HIB' := Lib.hid ((HIB.out.of hbz).up hbz.size)
  have HID' := Lib.hid ((HID.out.of hbz).up hbz.size)
  have HIP' := Lib.hid ((HIP.out.of hbz).up hbz.size)
  have hbe : Below W12.heap.size W12 (W12.alloc (.cells #[.slice adQ M2.length capQ, .int .i64 (R2 : Int)] 30)) := ((Below.refl W12.heap.size W12).alloc (Nat.le_refl _) _)
  have HIQ' := Lib.hid ((hiQ.of hbe).up hbe.size)
  clear hbe
  have oQ' := World.alloc_heap_new W12 (.cells #[.slice adQ M2.length capQ, .int .i64 (R2 : Int)] 30)
  have hB' := hB.trans (hbz.mono hB.size)
  clear hbn hbz hB oA oB oD oP HIA HIB HID HIP hiQ
  obtain ⟨p0, q0, -⟩ := cells2 oA'
  obtain ⟨p1, q1, -⟩ := cells2 oB'
  obtain ⟨p2, q2, -⟩ := cells2 oD'
  obtain ⟨p3, q3, -⟩ := cells2 oP'
  obtain ⟨p4, q4, -⟩ := cells2 oQ'
  dsimp only
  go_wp2_with fail
  clear p0 q0 p1 q1 p2 q2 p3 q3 p4 q4
  obtain ⟨V12, hV⟩ : ∃ V12, (W12.alloc (.cells #[.slice adQ M2.length capQ, .int .i64 (R2 : Int)] 30)) = V12 := ⟨_, rfl⟩
  rw [hV] at hB' oA' oB' oD' oP' oQ' HIA' HIB' HID' HIP' HIQ' ⊢
  clear hV hsn
  have oA := oA'
  have oB := oB'
  have oD := oD'
  have oP := oP'
  have oQ := oQ'
  have HIA := HIA'
  have HIB := HIB'
  have HID := HID'
  have HIP := HIP'
  have HIQ := HIQ'
  have hB := hB'
  clear hB' oA' oB' oD' oP' oQ' HIA' HIB' HID' HIP' HIQ'
  refine (HO1.out _ _ _ _ _ HIA.out HIB.out).mono ?_
  rintro _ W13 ⟨adU, capU, rfl, hiU, -, hbn⟩
  have hsn := hbn.size
  have hbz : Below V12.heap.size V12 (W13.alloc (.cells #[.slice adU M3.length capU, .int .i64 (R3 : Int)] 30)) := (hbn.alloc hsn _)
  have oA' := obj_in hbz oA
  have oB' := obj_in hbz oB
  have oD' := obj_in hbz oD
  have oP' := obj_in hbz oP
  have oQ' := obj_in hbz oQ
  have HIA' := Lib.hid ((HIA.out.of hbz).up hbz.size)
  have HIB' := Lib.hid ((HIB.out.of hbz).up hbz.size)
  have HID' := Lib.hid ((HID.out.of hbz).up hbz.size)
  have HIP' := Lib.hid ((HIP.out.of hbz).up hbz.size)
  have HIQ' := Lib.hid ((HIQ.out.of hbz).up hbz.size)
  have hbe : Below W13.heap.size W13 (W13.alloc (.cells #[.slice adU M3.length capU, .int .i64 (R3 : Int)] 30)) := ((Below.refl W13.heap.size W13).alloc (Nat.le_refl _) _)
  have HIU' := Lib.hid ((hiU.of hbe).up hbe.size)
  clear hbe
  have oU' := World.alloc_heap_new W13 (.cells #[.slice adU M3.length capU, .int .i64 (R3 : Int)] 30)
  have hB' := hB.trans (hbz.mono hB.size)
  clear hbn hbz hB oA oB oD oP oQ HIA HIB HID HIP HIQ hiU
  obtain ⟨p0, q0, -⟩ := cells2 oA'
  obtain ⟨p1, q1, -⟩ := cells2 oB'
  obtain ⟨p2, q2, -⟩ := cells2 oD'
  obtain ⟨p3, q3, -⟩ := cells2 oP'
  obtain ⟨p4, q4, -⟩ := cells2 oQ'
  obtain ⟨p5, q5, -⟩ := cells2 oU'
  dsimp only
  go_wp2_with fail
  clear p0 q0 p1 q1 p2 q2 p3 q3 p4 q4 p5 q5
  obtain ⟨V13, hV⟩ : ∃ V13, (W13.alloc (.cells #[.slice adU M3.length capU, .int .i64 (R3 : Int)] 30)) = V13 := ⟨_, rfl⟩
  rw [hV] at hB' oA' oB' oD' oP' oQ' oU' HIA' HIB' HID' HIP' HIQ' HIU' ⊢
  clear hV hsn
  have oA := oA'
  have oB := oB'
  have oD := oD'
  have oP := oP'
  have oQ := oQ'
  have oU := oU'
  have HIA := HIA'
  have HIB := HIB'
  have HID := HID'
  have HIP := HIP'
  have HIQ := HIQ'
  have HIU := HIU'
  have hB := hB'
  clear hB' oA' oB' oD' oP' oQ' oU' HIA' HIB' HID' HIP' HIQ' HIU'
  refine (HO2.out _ _ _ _ _ HIB.out HIA.out).mono ?_
  rintro _ W14 ⟨adW, capW, rfl, hiW, -, hbn⟩
  have hsn := hbn.size
  have hbz : Below V13.heap.size V13 (W14.alloc (.cells #[.slice adW M3.length capW, .int .i64 (R3 : Int)] 30)) := (hbn.alloc hsn _)
  have oA' := obj_in hbz oA
  have oB' := obj_in hbz oB
  have oD' := obj_in hbz oD
  have oP' := obj_in hbz oP
  have oQ' := obj_in hbz oQ
  have oU' := obj_in hbz oU
  have HIA' := Lib.hid ((HIA.out.of hbz).up hbz.size)
  have HIB' := Lib.hid ((HIB.out.of hbz).up hbz.size)
  have HID' := Lib.hid ((HID.out.of hbz).up hbz.size)
  have HIP' := Lib.hid ((HIP.out.of hbz).up hbz.size)
  have HIQ' := Lib.hid ((HIQ.out.of hbz).up hbz.size)
  have HIU' := Lib.hid ((HIU.out.of hbz).up hbz.size)
  have hbe : Below W14.heap.size W14 (W14.alloc (.cells #[.slice adW M3.length capW, .int .i64 (R3 : Int)] 30)) := ((Below.refl W14.heap.size W14).alloc (Nat.le_refl _) _)
  have HIW' := Lib.hid ((hiW.of hbe).up hbe.size)
  clear hbe
  have oW' := World.alloc_heap_new W14 (.cells #[.slice adW M3.length capW, .int .i64 (R3 : Int)] 30)
  have hB' := hB.trans (hbz.mono hB.size)
  clear hbn hbz hB oA oB oD oP oQ oU HIA HIB HID HIP HIQ HIU hiW
  obtain ⟨p0, q0, -⟩ := cells2 oA'
  obtain ⟨p1, q1, -⟩ := cells2 oB'
  obtain ⟨p2, q2, -⟩ := cells2 oD'
  obtain ⟨p3, q3, -⟩ := cells2 oP'
  obtain ⟨p4, q4, -⟩ := cells2 oQ'
  obtain ⟨p5, q5, -⟩ := cells2 oU'
  obtain ⟨p6, q6, -⟩ := cells2 oW'
  dsimp only
  go_wp2_with fail
  clear p0 q0 p1 q1 p2 q2 p3 q3 p4 q4 p5 q5 p6 q6
  obtain ⟨V14, hV⟩ : ∃ V14, (W14.alloc (.cells #[.slice adW M3.length capW, .int .i64 (R3 : Int)] 30)) = V14 := ⟨_, rfl⟩
  rw [hV] at hB' oA' oB' oD' oP' oQ' oU' oW' HIA' HIB' HID' HIP' HIQ' HIU' HIW' ⊢
  clear hV hsn
  have oA := oA'
  have oB := oB'
  have oD := oD'
  have oP := oP'
  have oQ := oQ'
  have oU := oU'
  have oW := oW'
  have HIA := HIA'
  have HIB := HIB'
  have HID := HID'
  have HIP := HIP'
  have HIQ := HIQ'
  have HIU := HIU'
  have HIW := HIW'
  have hB := hB'
  clear hB' oA' oB' oD' oP' oQ' oU' oW' HIA' HIB' HID' HIP' HIQ' HIU' HIW'
  refine (HCO.out _ _ _ HIA.out (HT.out.of hB)).mono ?_
  rintro _ _ ⟨rfl, y15, rfl⟩
  have hbn := y15.below
  have hsn := hbn.size
  have hbz : Below V14.heap.size V14 y15.w := hbn
  have oD' := obj_in hbz oD
  have oP' := obj_in hbz oP
  have oQ' := obj_in hbz oQ
  have oU' := obj_in hbz oU
  have oW' := obj_in hbz oW
  have HID' := Lib.hid ((HID.out.of hbz).up hbz.size)
  have HIP' := Lib.hid ((HIP.out.of hbz).up hbz.size)
  have HIQ' := Lib.hid ((HIQ.out.of hbz).up hbz.size)
  have HIU' := Lib.hid ((HIU.out.of hbz).up hbz.size)
  have HIW' := Lib.hid ((HIW.out.of hbz).up hbz.size)
  have hB' := hB.trans (hbz.mono hB.size)
  clear hbn hbz hB oD oP oQ oU oW HID HIP HIQ HIU HIW
  obtain ⟨p0, q0, -⟩ := cells2 oD'
  obtain ⟨p1, q1, -⟩ := cells2 oP'
  obtain ⟨p2, q2, -⟩ := cells2 oQ'
  obtain ⟨p3, q3, -⟩ := cells2 oU'
  obtain ⟨p4, q4, -⟩ := cells2 oW'
  dsimp only
  go_wp2_with fail
  clear p0 q0 p1 q1 p2 q2 p3 q3 p4 q4
  obtain ⟨V15, hV⟩ : ∃ V15, y15.w = V15 := ⟨_, rfl⟩
  rw [hV] at hB' oD' oP' oQ' oU' oW' HID' HIP' HIQ' HIU' HIW' ⊢
  clear hV hsn
  have oD := oD'
  have oP := oP'
  have oQ := oQ'
  have oU := oU'
  have oW := oW'
  have HID := HID'
  have HIP := HIP'
  have HIQ := HIQ'
  have HIU := HIU'
  have HIW := HIW'
  have hB := hB'
  clear hB' oD' oP' oQ' oU' oW' HID' HIP' HIQ' HIU' HIW'
  refine (HCN.out _ _ _ HID.out (HT.out.of hB)).mono ?_
  rintro _ _ ⟨rfl, y16, rfl⟩
  have hbn := y16.below
  have hsn := hbn.size
  have hbz : Below V15.heap.size V15 y16.w := hbn
  have oP' := obj_in hbz oP
  have oQ' := obj_in hbz oQ
  have oU' := obj_in hbz oU
  have oW' := obj_in hbz oW
  have HIP' := Lib.hid ((HIP.out.of hbz).up hbz.size)
  have HIQ' := Lib.hid ((HIQ.out.of hbz).up hbz.size)
  have HIU' := Lib.hid ((HIU.out.of hbz).up hbz.size)
  have HIW' := Lib.hid ((HIW.out.of hbz).up hbz.size)
  have hB' := hB.trans (hbz.mono hB.size)
  clear hbn hbz hB oP oQ oU oW HIP HIQ HIU HIW
  obtain ⟨p0, q0, -⟩ := cells2 oP'
  obtain ⟨p1, q1, -⟩ := cells2 oQ'
  obtain ⟨p2, q2, -⟩ := cells2 oU'
  obtain ⟨p3, q3, -⟩ := cells2 oW'
  dsimp only
  go_wp2_with fail
  clear p0 q0 p1 q1 p2 q2 p3 q3
  obtain ⟨V16, hV⟩ : ∃ V16, y16.w = V16 := ⟨_, rfl⟩
  rw [hV] at hB' oP' oQ' oU' oW' HIP' HIQ' HIU' HIW' ⊢
  clear hV hsn
  have oP := oP'
  have oQ := oQ'
  have oU := oU'
  have oW := oW'
  have HIP := HIP'
  have HIQ := HIQ'
  have HIU := HIU'
  have HIW := HIW'
  have hB := hB'
  clear hB' oP' oQ' oU' oW' HIP' HIQ' HIU' HIW'
  refine (HS.out _ _ _ _ _ _ _ HIP.out HIQ.out (by omega)).mono ?_
  rintro _ _ ⟨rfl, y17, rfl⟩
  have hbn := y17.below
  have hsn := hbn.size
  have hbz : Below V16.heap.size V16 y17.w := hbn
  have oP' := obj_in hbz oP
  have oQ' := obj_in hbz oQ
  have oU' := obj_in hbz oU
  have oW' := obj_in hbz oW
  have HIP' := Lib.hid ((HIP.out.of hbz).up hbz.size)
  have HIQ' := Lib.hid ((HIQ.out.of hbz).up hbz.size)
  have HIU' := Lib.hid ((HIU.out.of hbz).up hbz.size)
  have HIW' := Lib.hid ((HIW.out.of hbz).up hbz.size)
  have hB' := hB.trans (hbz.mono hB.size)
  clear hbn hbz hB oP oQ oU oW HIP HIQ HIU HIW
  obtain ⟨p0, q0, -⟩ := cells2 oP'
  obtain ⟨p1, q1, -⟩ := cells2 oQ'
  obtain ⟨p2, q2, -⟩ := cells2 oU'
  obtain ⟨p3, q3, -⟩ := cells2 oW'
  dsimp only
  go_wp2_with fail
  clear p0 q0 p1 q1 p2 q2 p3 q3
  obtain ⟨V17, hV⟩ : ∃ V17, y17.w = V17 := ⟨_, rfl⟩
  rw [hV] at hB' oP' oQ' oU' oW' HIP' HIQ' HIU' HIW' ⊢
  clear hV hsn
  have oP := oP'
  have oQ := oQ'
  have oU := oU'
  have oW := oW'
  have HIP := HIP'
  have HIQ := HIQ'
  have HIU := HIU'
  have HIW := HIW'
  have hB := hB'
  clear hB' oP' oQ' oU' oW' HIP' HIQ' HIU' HIW'
  refine (HS.out _ _ _ _ _ _ _ HIU.out HIW.out (by omega)).mono ?_
  rintro _ _ ⟨rfl, y18, rfl⟩
  have hbn := y18.below
  have hsn := hbn.size
  have hbz : Below V17.heap.size V17 y18.w := hbn
  have oP' := obj_in hbz oP
  have oQ' := obj_in hbz oQ
  have oU' := obj_in hbz oU
  have oW' := obj_in hbz oW
  have HIP' := Lib.hid ((HIP.out.of hbz).up hbz.size)
  have HIQ' := Lib.hid ((HIQ.out.of hbz).up hbz.size)
  have HIU' := Lib.hid ((HIU.out.of hbz).up hbz.size)
  have HIW' := Lib.hid ((HIW.out.of hbz).up hbz.size)
  have hB' := hB.trans (hbz.mono hB.size)
  clear hbn hbz hB oP oQ oU oW HIP HIQ HIU HIW
  obtain ⟨p0, q0, -⟩ := cells2 oP'
  obtain ⟨p1, q1, -⟩ := cells2 oQ'
  obtain ⟨p2, q2, -⟩ := cells2 oU'
  obtain ⟨p3, q3, -⟩ := cells2 oW'
  dsimp only
  go_wp2_with fail
  clear p0 q0 p1 q1 p2 q2 p3 q3
  obtain ⟨V18, hV⟩ : ∃ V18, y18.w = V18 := ⟨_, rfl⟩
  rw [hV] at hB' oP' oQ' oU' oW' HIP' HIQ' HIU' HIW' ⊢
  clear hV hsn
  have oP := oP'
  have oQ := oQ'
  have oU := oU'
  have oW := oW'
  have HIP := HIP'
  have HIQ := HIQ'
  have HIU := HIU'
  have HIW := HIW'
  have hB := hB'
  clear hB' oP' oQ' oU' oW' HIP' HIQ' HIU' HIW'
  refine (HAD.out _ (HT.out.of hB)).mono ?_
  rintro _ _ ⟨rfl, y19, rfl⟩
  have hbn := y19.below
  have hsn := hbn.size
  have hbz : Below V18.heap.size V18 y19.w := hbn
  have oP' := obj_in hbz oP
  have oQ' := obj_in hbz oQ
  have oU' := obj_in hbz oU
  have oW' := obj_in hbz oW
  have HIP' := Lib.hid ((HIP.out.of hbz).up hbz.size)
  have HIQ' := Lib.hid ((HIQ.out.of hbz).up hbz.size)
  have HIU' := Lib.hid ((HIU.out.of hbz).up hbz.size)
  have HIW' := Lib.hid ((HIW.out.of hbz).up hbz.size)
  have hB' := hB.trans (hbz.mono hB.size)
  clear hbn hbz hB oP oQ oU oW HIP HIQ HIU HIW
  obtain ⟨p0, q0, -⟩ := cells2 oP'
  obtain ⟨p1, q1, -⟩ := cells2 oQ'
  obtain ⟨p2, q2, -⟩ := cells2 oU'
  obtain ⟨p3, q3, -⟩ := cells2 oW'
  dsimp only
  obtain ⟨V19, hV⟩ : ∃ V19, y19.w = V19 := ⟨_, rfl⟩
  rw [hV] at hB' oP' oQ' oU' oW' HIP' HIQ' HIU' HIW' ⊢
  clear hV hsn
  have oP := oP'
  have oQ := oQ'
  have oU := oU'
  have oW := oW'
  have HIP := HIP'
  have HIQ := HIQ'
  have HIU := HIU'
  have HIW := HIW'
  have hB := hB'
  clear hB' oP' oQ' oU' oW' HIP' HIQ' HIU' HIW'
  have hBs := hB.size
  go_wp2
  go_ret
  exact Ret.mk (by rfl) (by (repeat' (first | (with_reducible exact Below.refl _ _) | (with_reducible exact Nat.le_refl _) | (with_reducible refine Below.bel ?_ ?_) | (with_reducible refine Below.alloc ?_ ?_ _) | (with_reducible refine Below.drew ?_) | (with_reducible refine Below.drawsN ?_ _) | (with_reducible refine Below.setCell ?_ ?_ _) | (with_reducible refine le_bel ?_) | (with_reducible refine le_alloc ?_) | (with_reducible refine le_setCell ?_) | (with_reducible refine le_drew ?_) | (with_reducible refine le_drawsN ?_) | (dsimp only; with_reducible refine le_bel ?_) | (dsimp only; with_reducible refine Nat.le_refl _) | (dsimp only; with_reducible refine le_bel_add ?_) | (with_reducible assumption) | omega | (dsimp only; omega))))
end Go.Proofs.YtkdmhjlcgpnjpaaGreatDoor
