/- divide, by long division: a digit is guessed. -/
import Derived.Test.YteglfhmmkoahfaaGreatDoorM29t
namespace Go.Proofs.YteglfhmmkoahfaaGreatDoor
open Go.RowKit Go.Shelf
attribute [local go_sem low] Bel.cell Bel.frozen alloc_cell alloc_frozen

/-- The code from block k on. -/
def blockAt (k : Nat) : Code → Option Code
  | .seq (.block i c) b => if i = k then some (.seq (.block i c) b) else match blockAt k c with
    | some c => some c
    | none => blockAt k b
  | .seq a b => match blockAt k a with
    | some c => some c
    | none => blockAt k b
  | .block _ c => blockAt k c
  | .loop c => blockAt k c
  | .scope c => blockAt k c
  | .cond _ a b => match blockAt k a with
    | some c => some c
    | none => blockAt k b
  | _ => none
noncomputable def innerCode : Code := (Tryz.f39.body.bind (blockAt 3)).getD .skip
set_option maxRecDepth 1000000 in
set_option maxHeartbeats 25600000 in
theorem divide_inner {Q : Exit → Act → World → Prop} {c0 c1 c2 c3 c5 c6 c7 c8 c13 c16 c17 c18 c19 c20 c21 c22 c23 c24 c25 c26 c27 c28 c29 c30 c31 c32 c33 c34 c35 c36 c37 c38 c39 c40 c41 c42 c43 c44 c45 c46 c47 c48 c49 c50 c51 c52 c53 c54 c55 c56 c57 c58 c59 c60 c61 c62 c63 c64 c65 c66 c67 c68 c69 c70 c71 c72 c73 c74 c75 c76 c77 c78 c79 c80 c81 c82 c83 c84 c85 c86 c87 c88 c89 c90 c91 c92 c93 c94 c95 c96 c97 c98 c99 c100 c101 c102 c103 c104 c105 c106 c107 c108 c109 c110 c111 c112 c113 c114 c115 c116 c117 c118 c119 c120 c121 c122 c123 c124 c125 c126 c127 c128 c129 c130 c131 c132 c133 c134 c135 c136 c137 c138 c139 c140 c141 c142 c143 c144 c145 c146 c147 c148 c149 c150 c151 c152 c153 c154 c155 c156 c157 c158 c159 c160 c161 c162 c163 c164 c165 c166 c167 c168 c169 c170 c171 c172 c173 c174 c175 c176 c177 c178 c179 c180 c181 c182 c183 c184 c185 c186 c187 c188 c189 c190 c191 c192 c193 c194 c195 c196 c197 c198 c199 c200 : Value} (w wo : World) (j kk jk j2 k1 k2 T K gD gU gQ gV cu cV P V d tq g0 r0 v1 v2 u0 u1 u2 : Nat) (L Qs : List Nat)
    (hjk : j + kk = jk) (hTK : K + kk = T) (hjK : j < K) (hkk : 2 ≤ kk) (hTb : T ≤ 5001) (hcu : T ≤ cu) (s1 : IntKind.i64.wrap ((j : Int) + (kk : Int)) = (jk : Int))
    (s3 : IntKind.i64.wrap ((jk : Int) - 2) = (j2 : Int)) (s4 : IntKind.i64.wrap ((kk : Int) - 2) = (k2 : Int)) (t1 : IntKind.i64.wrap ((kk : Int) - 1) = (k1 : Int)) (b3 : (j2 : Int) < (T : Int)) (b4 : (k2 : Int) < (kk : Int)) (hb1 : (k1 : Int) < (kk : Int))
    (hLlen : L.length = T) (hpl : ∀ x ∈ L, x < BB) (hzU : vB (L.drop (j + kk + 1)) = 0) (hP : vB (L.drop j) = P) (hVlen : (lim V).length = kk) (hQlen : Qs.length = K)
    (hdg0 : Digit (k2 + 2) P V v1 v2 u0 u1 u2) (htqe : u0 * BB + u1 = tq) (htqb : tq ≤ 999999999999999999) (hst : Guess P V v1 v2 tq u2 (P / V) g0 r0) (hg0b : g0 ≤ tq)
    (hv1b : v1 < 1000000000) (hv2b : v2 < 1000000000) (hu2b : u2 < 1000000000)
    (ga2 : wo.cell? ⟨gU, j2, none⟩ = some (.int .u64 (u2 : Int))) (gb1 : wo.cell? ⟨gV, k1, none⟩ = some (.int .u64 (v1 : Int))) (gb2 : wo.cell? ⟨gV, k2, none⟩ = some (.int .u64 (v2 : Int)))
    (hUz : OwnV wo 0 59 (.slice (some ⟨gU, 0, none⟩) T cu) (uVs L)) (hQz : OwnV wo 0 59 (.slice (some ⟨gQ, 0, none⟩) K K) (uVs Qs))
    (hVz : OwnV wo 0 59 (.slice (some ⟨gV, 0, none⟩) kk cV) (uVs (lim V))) (hDz : OwnV wo 0 59 (.slice (some ⟨gD, 0, none⟩) 1 1) (uVs [d]))
    (n1 : gQ ≠ gU) (n2 : gV ≠ gU) (n3 : gV ≠ gQ) (n4 : gD ≠ gU) (n5 : gD ≠ gQ) (hb : Below w.heap.size w wo) (hwU : w.heap.size ≤ gU) (hwQ : w.heap.size ≤ gQ)
    (hexit : ∀ (y14 y15 y16 y17 y18 y110 y111 y112 y113 y114 y115 y116 y117 y118 y119 y120 y121 y122 y123 y124 y125 y126 y127 y128 y129 y130 y131 y132 y133 y134 y135 y136 y137 y138 y139 y140 y141 y142 y143 y144 y145 y146 y147 y148 y149 y150 y151 y152 y153 y154 y155 y156 y157 y158 y159 y160 y161 y162 y163 y164 y165 y166 y167 y168 y169 y170 y171 y172 y173 y174 y175 y176 y177 y178 y179 y180 y181 y182 y183 y184 y185 y186 y187 y188 : Value) (w' : World), OwnV w' 0 59 (.slice (some ⟨gU, 0, none⟩) T cu) (uVs (splice (splice L j (List.replicate (kk + 1) 0)) j (lim (P % V)))) → OwnV w' 0 59 (.slice (some ⟨gQ, 0, none⟩) K K) (uVs (Qs.set j (P / V))) →
      OwnV w' 0 59 (.slice (some ⟨gV, 0, none⟩) kk cV) (uVs (lim V)) → OwnV w' 0 59 (.slice (some ⟨gD, 0, none⟩) 1 1) (uVs [d]) → Below w.heap.size w w' → Q .normal ⟨#[c0, c1, c2, c3, .slice (some ⟨gQ, 0, none⟩) K K, c5, c6, c7, c8, .slice (some ⟨gU, 0, none⟩) T cu, .slice (some ⟨gV, 0, none⟩) kk cV, .int .i64 (kk : Int), .int .i64 (j : Int), c13, y14, y15, y16, y17, y18, c19, c20, c21, c22, c23, c24, c25, c26, c27, c28, c29, c30, c31, c32, c33, c34, c35, c36, c37, c38, c39, c40, c41, c42, c43, c44, c45, c46, c47, c48, c49, c50, c51, c52, c53, c54, c55, c56, c57, c58, c59, c60, c61, c62, c63, c64, c65, c66, c67, c68, c69, c70, c71, c72, c73, c74, c75, c76, c77, c78, c79, c80, c81, c82, c83, c84, c85, c86, c87, c88, c89, c90, c91, c92, c93, c94, c95, c96, c97, c98, c99, c100, c101, c102, c103, c104, c105, c106, c107, c108, c109, y110, y111, y112, y113, y114, y115, y116, y117, y118, y119, y120, y121, y122, y123, y124, y125, y126, y127, y128, y129, y130, y131, y132, y133, y134, y135, y136, y137, y138, y139, y140, y141, y142, y143, y144, y145, y146, y147, y148, y149, y150, y151, y152, y153, y154, y155, y156, y157, y158, y159, y160, y161, y162, y163, y164, y165, y166, y167, y168, y169, y170, y171, y172, y173, y174, y175, y176, y177, y178, y179, y180, y181, y182, y183, y184, y185, y186, y187, y188, c189, c190, c191, c192, c193, c194, c195, c196, c197, c198, c199, c200], []⟩ w') :
    Code.wp Tryz.prog innerCode Q ⟨#[c0, c1, c2, c3, .slice (some ⟨gQ, 0, none⟩) K K, c5, c6, c7, c8, .slice (some ⟨gU, 0, none⟩) T cu, .slice (some ⟨gV, 0, none⟩) kk cV, .int .i64 (kk : Int), .int .i64 (j : Int), c13, .int .u64 (g0 : Int), .int .u64 (r0 : Int), c16, c17, c18, c19, c20, c21, c22, c23, c24, c25, c26, c27, c28, c29, c30, c31, c32, c33, c34, c35, c36, c37, c38, c39, c40, c41, c42, c43, c44, c45, c46, c47, c48, c49, c50, c51, c52, c53, c54, c55, c56, c57, c58, c59, c60, c61, c62, c63, c64, c65, c66, c67, c68, c69, c70, c71, c72, c73, c74, c75, c76, c77, c78, c79, c80, c81, c82, c83, c84, c85, c86, c87, c88, c89, c90, c91, c92, c93, c94, c95, c96, c97, c98, c99, c100, c101, c102, c103, c104, c105, c106, c107, c108, c109, c110, c111, c112, c113, c114, c115, c116, c117, c118, c119, c120, c121, c122, c123, c124, c125, c126, c127, c128, c129, c130, c131, c132, c133, c134, c135, c136, c137, c138, c139, c140, c141, c142, c143, c144, c145, c146, c147, c148, c149, c150, c151, c152, c153, c154, c155, c156, c157, c158, c159, c160, c161, c162, c163, c164, c165, c166, c167, c168, c169, c170, c171, c172, c173, c174, c175, c176, c177, c178, c179, c180, c181, c182, c183, c184, c185, c186, c187, c188, c189, c190, c191, c192, c193, c194, c195, c196, c197, c198, c199, c200], []⟩ wo := by
  have HUo := Lib.hid hUz
  have HQo := Lib.hid hQz
  have HVo := Lib.hid hVz
  have HDo := Lib.hid hDz
  have HDG := Lib.hid hdg0
  have heqT := Lib.hid htqe
  have HST := Lib.hid hst
  have HEX := Lib.hid hexit
  have HLL := Lib.hid (And.intro hLlen hpl)
  have HZP := Lib.hid (And.intro hzU hP)
  have HVQ := Lib.hid (And.intro hVlen hQlen)
  have hbws0 := Nat.le_refl wo.heap.size
  clear hUz hQz hVz hDz hdg0 htqe hst hexit hLlen hpl hzU hP hVlen hQlen
  conv => arg 2; whnf
  go_wp2
  go_loopw [14, 15] (fun g r wr => ∃ gg rr : Nat, g = .int .u64 (gg : Int) ∧ r = .int .u64 (rr : Int) ∧ Guess P V v1 v2 tq u2 (P / V) gg rr ∧ gg ≤ tq ∧ Below wo.heap.size wo wr) (fun g _ _ => (intOf g).toNat)
  case atStart => exact ⟨g0, r0, rfl, rfl, HST.out, hg0b, Below.refl _ _⟩
  case round =>
    clear HST hg0b
    obtain ⟨gg, rr, rfl, rfl, hgs, hgt, hbw⟩ := hrel
    rename_i K9 hK9
    have HK9 := Lib.hid hK9
    clear hK9
    have hbws := hbw.size
    have ga2r := cell_carry hbw ga2
    have gb1r := cell_carry hbw gb1
    have gb2r := cell_carry hbw gb2
    have hdg := HDG.out
    by_cases hBB : 1000000000 ≤ gg
    · have f1 : decide ((1000000000 : Int) ≤ (gg : Int)) = true := decide_eq_true (by omega)
      obtain ⟨hlt, heq⟩ := guess_next hdg (by rw [heqT.out]; exact hgs) (.inl hBB)
      rw [heqT.out] at heq
      obtain ⟨gn, hgn⟩ : ∃ g, gg - 1 = g := ⟨_, rfl⟩
      obtain ⟨rn, hrn⟩ : ∃ r, rr + v1 = r := ⟨_, rfl⟩
      have hrrb := hgs.r
      unfold BB at hrrb
      have hpg : 0 < gg := Nat.lt_of_le_of_lt (Nat.zero_le _) hlt
      have hgn' : (gg : Int) - 1 = (gn : Int) := by omega
      have hrn' : (rr : Int) + (v1 : Int) = (rn : Int) := by omega
      have hrnb : rn ≤ 1999999998 := by omega
      have hgnb : gn ≤ tq := by omega
      have hle : P / V ≤ gn := by
        generalize P / V = q at *
        omega
      rw [hgn, hrn] at heq
      by_cases hrB : 1000000000 ≤ rn
      · have f3 : decide ((1000000000 : Int) ≤ (rn : Int)) = true := decide_eq_true (by omega)
        obtain ⟨hG3, hG2⟩ := guess_break hdg (by rw [heqT.out]; exact heq) hrB
        have hG1 := hle
        clear hgs hlt heq hgn hrn hdg
        go_wp2_with fail
        refine wp_region_bel (by kernel_rfl) (by kernel_rfl) ?_
        repeat (go_big_quiet_step (fail))
        refine wpQuiet_nil ?_
        rintro _ ⟨z, rfl⟩
        have hzs := z.size_le
        have hbw2 : Below wo.heap.size wo z.w := hbw.trans (z.below.mono hbws)
        go_wp2_with fail
        refine HK9.out _ _ ?_
        refine divide_tail w z.w j kk jk T K gD gU gQ gV cu cV gn P V d L Qs hjk hTK hjK hkk hTb hcu s1 HLL.out.1 HLL.out.2 HZP.out.1 HZP.out.2 HVQ.out.1 HVQ.out.2 hG1 hG2 hG3 (ownV_bel HUo.out ⟨z.w, hbw2⟩) (ownV_bel HQo.out ⟨z.w, hbw2⟩) (ownV_bel HVo.out ⟨z.w, hbw2⟩) (ownV_bel HDo.out ⟨z.w, hbw2⟩) n1 n2 n3 n4 n5 (hb.trans (hbw2.mono hb.size)) hwU hwQ ?_
        intro z14 z16 z17 z18 z143 z144 z145 z146 z147 z148 z149 z150 z151 z152 z153 z154 z155 z156 z157 z158 z159 z160 z161 z162 z163 z164 z165 z166 z167 z168 z169 z170 z171 z172 z173 z174 z175 z176 z177 z178 z179 z180 z181 z182 z183 z184 z185 z186 z187 z188 w7 hU7 hQ7 hV7 hD7 hb7
        exact HEX.out _ _ _ _ _ _ _ _ _ _ _ _ _ _ _ _ _ _ _ _ _ _ _ _ _ _ _ _ _ _ _ _ _ _ _ _ _ _ _ _ _ _ _ _ _ _ _ _ _ _ _ _ _ _ _ _ _ _ _ _ _ _ _ _ _ _ _ _ _ _ _ _ _ _ _ _ _ _ _ _ _ _ _ _ _ hU7 hQ7 hV7 hD7 hb7
      · have f3 : decide ((1000000000 : Int) ≤ (rn : Int)) = false := decide_eq_false (by omega)
        have HG := Lib.hid (show Guess P V v1 v2 tq u2 (P / V) gn rn from ⟨heq, hle, by unfold BB; omega⟩)
        clear hgs hlt heq hgn hrn hdg
        go_wp2_with fail
        refine wp_region_bel (by kernel_rfl) (by kernel_rfl) ?_
        repeat (go_big_quiet_step (fail))
        refine wpQuiet_nil ?_
        rintro _ ⟨z, rfl⟩
        have hzs := z.size_le
        go_wp2
        go_roundw
        case rel => exact ⟨gn, rn, by first | rfl | (rw [hgn']), by first | rfl | (rw [hrn']), HG.out, hgnb, hbw.trans (z.below.mono hbws)⟩
        case measure => simp [intOf] <;> omega
    · have f1 : decide ((1000000000 : Int) ≤ (gg : Int)) = false := decide_eq_false (by omega)
      have hggb : gg ≤ 999999999 := by omega
      obtain ⟨p1, hp1⟩ : ∃ p, gg * v2 = p := ⟨_, rfl⟩
      have hp1' : (gg : Int) * (v2 : Int) = (p1 : Int) := by rw [← hp1]; simp
      have hp1b : p1 ≤ 999999998000000001 := by
        rw [← hp1]
        exact Nat.le_trans (Nat.mul_le_mul hggb (show v2 ≤ 999999999 by omega)) (by decide)
      obtain ⟨p2, hp2⟩ : ∃ p, rr * 1000000000 = p := ⟨_, rfl⟩
      have hrrb2 := hgs.r
      unfold BB at hrrb2
      have hp2' : (rr : Int) * 1000000000 = (p2 : Int) := by omega
      obtain ⟨p3, hp3⟩ : ∃ p, p2 + u2 = p := ⟨_, rfl⟩
      have hp3' : (p2 : Int) + (u2 : Int) = (p3 : Int) := by omega
      have hp3b : p3 ≤ 999999999999999999 := by omega
      by_cases hgt2 : p3 < p1
      · have f2 : decide ((p3 : Int) < (p1 : Int)) = true := decide_eq_true (by omega)
        obtain ⟨hlt, heq⟩ := guess_next hdg (by rw [heqT.out]; exact hgs) (.inr (by rw [show rr * BB + u2 = p3 by rw [← hp3, ← hp2], hp1]; exact hgt2))
        rw [heqT.out] at heq
        obtain ⟨gn, hgn⟩ : ∃ g, gg - 1 = g := ⟨_, rfl⟩
        obtain ⟨rn, hrn⟩ : ∃ r, rr + v1 = r := ⟨_, rfl⟩
        have hrrb := hgs.r
        unfold BB at hrrb
        have hpg : 0 < gg := Nat.lt_of_le_of_lt (Nat.zero_le _) hlt
        have hgn' : (gg : Int) - 1 = (gn : Int) := by omega
        have hrn' : (rr : Int) + (v1 : Int) = (rn : Int) := by omega
        have hrnb : rn ≤ 1999999998 := by omega
        have hgnb : gn ≤ tq := by omega
        have hle : P / V ≤ gn := by
          generalize P / V = q at *
          omega
        rw [hgn, hrn] at heq
        by_cases hrB : 1000000000 ≤ rn
        · have f3 : decide ((1000000000 : Int) ≤ (rn : Int)) = true := decide_eq_true (by omega)
          obtain ⟨hG3, hG2⟩ := guess_break hdg (by rw [heqT.out]; exact heq) hrB
          have hG1 := hle
          clear hgs hlt heq hgn hrn hdg
          go_wp2_with fail
          refine wp_region_bel (by kernel_rfl) (by kernel_rfl) ?_
          repeat (go_big_quiet_step (fail))
          refine wpQuiet_nil ?_
          rintro _ ⟨z, rfl⟩
          have hzs := z.size_le
          have hbw2 : Below wo.heap.size wo z.w := hbw.trans (z.below.mono hbws)
          go_wp2_with fail
          refine HK9.out _ _ ?_
          refine divide_tail w z.w j kk jk T K gD gU gQ gV cu cV gn P V d L Qs hjk hTK hjK hkk hTb hcu s1 HLL.out.1 HLL.out.2 HZP.out.1 HZP.out.2 HVQ.out.1 HVQ.out.2 hG1 hG2 hG3 (ownV_bel HUo.out ⟨z.w, hbw2⟩) (ownV_bel HQo.out ⟨z.w, hbw2⟩) (ownV_bel HVo.out ⟨z.w, hbw2⟩) (ownV_bel HDo.out ⟨z.w, hbw2⟩) n1 n2 n3 n4 n5 (hb.trans (hbw2.mono hb.size)) hwU hwQ ?_
          intro z14 z16 z17 z18 z143 z144 z145 z146 z147 z148 z149 z150 z151 z152 z153 z154 z155 z156 z157 z158 z159 z160 z161 z162 z163 z164 z165 z166 z167 z168 z169 z170 z171 z172 z173 z174 z175 z176 z177 z178 z179 z180 z181 z182 z183 z184 z185 z186 z187 z188 w7 hU7 hQ7 hV7 hD7 hb7
          exact HEX.out _ _ _ _ _ _ _ _ _ _ _ _ _ _ _ _ _ _ _ _ _ _ _ _ _ _ _ _ _ _ _ _ _ _ _ _ _ _ _ _ _ _ _ _ _ _ _ _ _ _ _ _ _ _ _ _ _ _ _ _ _ _ _ _ _ _ _ _ _ _ _ _ _ _ _ _ _ _ _ _ _ _ _ _ _ hU7 hQ7 hV7 hD7 hb7
        · have f3 : decide ((1000000000 : Int) ≤ (rn : Int)) = false := decide_eq_false (by omega)
          have HG := Lib.hid (show Guess P V v1 v2 tq u2 (P / V) gn rn from ⟨heq, hle, by unfold BB; omega⟩)
          clear hgs hlt heq hgn hrn hdg
          go_wp2_with fail
          refine wp_region_bel (by kernel_rfl) (by kernel_rfl) ?_
          repeat (go_big_quiet_step (fail))
          refine wpQuiet_nil ?_
          rintro _ ⟨z, rfl⟩
          have hzs := z.size_le
          go_wp2
          go_roundw
          case rel => exact ⟨gn, rn, by first | rfl | (rw [hgn']), by first | rfl | (rw [hrn']), HG.out, hgnb, hbw.trans (z.below.mono hbws)⟩
          case measure => simp [intOf] <;> omega
      · have f2 : decide ((p3 : Int) < (p1 : Int)) = false := decide_eq_false (by omega)
        have hG2 := guess_done hdg (by rw [heqT.out]; exact hgs.eq) (show gg < BB by unfold BB; omega) (by rw [show rr * BB + u2 = p3 by rw [← hp3, ← hp2], hp1]; omega)
        have hG1 := hgs.ge
        have hG3 : gg < BB := by unfold BB; omega
        clear hgs hdg
        go_wp2_with fail
        refine wp_region_bel (by kernel_rfl) (by kernel_rfl) ?_
        repeat (go_big_quiet_step (fail))
        refine wpQuiet_nil ?_
        rintro _ ⟨z, rfl⟩
        have hzs := z.size_le
        have hbw2 : Below wo.heap.size wo z.w := hbw.trans (z.below.mono hbws)
        go_wp2_with fail
        refine HK9.out _ _ ?_
        refine divide_tail w z.w j kk jk T K gD gU gQ gV cu cV gg P V d L Qs hjk hTK hjK hkk hTb hcu s1 HLL.out.1 HLL.out.2 HZP.out.1 HZP.out.2 HVQ.out.1 HVQ.out.2 hG1 hG2 hG3 (ownV_bel HUo.out ⟨z.w, hbw2⟩) (ownV_bel HQo.out ⟨z.w, hbw2⟩) (ownV_bel HVo.out ⟨z.w, hbw2⟩) (ownV_bel HDo.out ⟨z.w, hbw2⟩) n1 n2 n3 n4 n5 (hb.trans (hbw2.mono hb.size)) hwU hwQ ?_
        intro z14 z16 z17 z18 z143 z144 z145 z146 z147 z148 z149 z150 z151 z152 z153 z154 z155 z156 z157 z158 z159 z160 z161 z162 z163 z164 z165 z166 z167 z168 z169 z170 z171 z172 z173 z174 z175 z176 z177 z178 z179 z180 z181 z182 z183 z184 z185 z186 z187 z188 w7 hU7 hQ7 hV7 hD7 hb7
        exact HEX.out _ _ _ _ _ _ _ _ _ _ _ _ _ _ _ _ _ _ _ _ _ _ _ _ _ _ _ _ _ _ _ _ _ _ _ _ _ _ _ _ _ _ _ _ _ _ _ _ _ _ _ _ _ _ _ _ _ _ _ _ _ _ _ _ _ _ _ _ _ _ _ _ _ _ _ _ _ _ _ _ _ _ _ _ _ hU7 hQ7 hV7 hD7 hb7
end Go.Proofs.YteglfhmmkoahfaaGreatDoor
