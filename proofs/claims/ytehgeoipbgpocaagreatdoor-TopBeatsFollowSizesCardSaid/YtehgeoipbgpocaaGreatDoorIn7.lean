/- divide, by long division: what follows the guess. divide, by long division: a digit is guessed. -/
import Derived.Deep.RegionHeld3
import Derived.Laws.CopyOwn
import Derived.Deep.OwnRows
import Derived.Test.YtehgeoipbgpocaaGreatDoorIn6
import Derived.Test.YtehgeoipbgpocaaGreatDoorIn5
namespace Go.Proofs.YtehgeoipbgpocaaGreatDoor.I
set_option linter.unusedVariables false
set_option linter.unusedSimpArgs false
open Go.RowKit Go.Shelf
attribute [local go_sem low] Bel.cell Bel.frozen alloc_cell alloc_frozen
attribute [local go_sem] calmOp chainOp yieldsC grows

theorem own_lt {w : World} {base g n cap : Nat} {e : TypeId} {l : List Value} (h : OwnV w base e (.slice (some ⟨g, 0, none⟩) n cap) l) : g < w.heap.size := by
  obtain ⟨cur, _, hg, _⟩ := ownV_form h
  exact (Array.getElem?_eq_some_iff.1 hg).1
theorem ownV_keep {w w' : World} {base g : Nat} {e : TypeId} {v : Value} {l : List Value} (h : OwnV w base e v l) (hg : w.grownBy w' (some g)) (hb : g < base) : OwnV w' base e v l := by
  refine World.ownsRow.kept h hg ?_
  cases hv : v.ownBlock with
  | none => exact .inl rfl
  | some k =>
    right
    intro e
    have h1 := (World.ownsRow.lt h k hv).1
    injection e with e1
    omega
theorem ownV_apart {w w' : World} {base g b n cap : Nat} {e : TypeId} {l : List Value} (h : OwnV w base e (.slice (some ⟨b, 0, none⟩) n cap) l) (hg : w.grownBy w' (some g)) (hne : b ≠ g) : OwnV w' base e (.slice (some ⟨b, 0, none⟩) n cap) l :=
  World.ownsRow.kept h hg (.inr (fun e => by injection e with e; exact hne e))
theorem uVs_splice (L cs : List Nat) (j : Nat) : splice (uVs L) j (uVs cs) = uVs (splice L j cs) := by
  unfold splice uVs
  rw [List.map_append, List.map_append, List.map_take, List.map_drop, List.length_map]
theorem set_grown (w : World) (g j : Nat) (u : Value) : w.grownBy (w.setCell ⟨g, j, none⟩ u) (some g) :=
  ⟨rfl, rfl, rfl, by simp, fun k _ hk => Below.heap_setCell w ⟨g, j, none⟩ u k (fun e => hk (by rw [e]))⟩
theorem zeros_cells (w : World) (kn : Nat) : ∀ (jj : Nat) v, (uVs (List.replicate kn 0))[jj]? = some v → (w.alloc (.cells (madeCells #[.int .u64 0] kn) 76)).cell? ⟨w.heap.size, 0 + jj, none⟩ = some v := fun jj v hv => by
  have h1 : (madeCells #[(Value.int .u64 0)] kn).toList = uVs (List.replicate kn 0) := by rw [toList_madeCells_one, uVs_rep]
  rw [← h1, Array.getElem?_toList] at hv
  rw [Nat.zero_add]
  have h2 : (w.alloc (.cells (madeCells #[.int .u64 0] kn) 76)).heap[w.heap.size]? = some (.cells (madeCells #[.int .u64 0] kn) 76 (0, 0)) := by
    show (w.heap.push _)[w.heap.size]? = _
    simp
  simp only [World.cell?, h2]
  exact hv
theorem uVs_app (l : List Nat) (p : Nat) : uVs l ++ List.replicate p (.int .u64 0) = uVs (l ++ List.replicate p 0) := by
  unfold uVs
  rw [List.map_append, List.map_replicate]; rfl
theorem limbs_one (w : World) (x : Nat) : Limbs (w.alloc (.cells #[.int .u64 (x : Int)] 76)) (some ⟨w.heap.size, 0, none⟩) [x] := fun _ => by
  refine ⟨_, _, rfl, fun j l hj => ?_⟩
  match j, hj with
  | 0, hj => injection hj with hj; subst hj; simp [go_sem]
theorem lim_mul_le {m d : Nat} (hd : d < BB) : (lim (m * d)).length ≤ (lim m).length + 1 := limbs_len_le (by decide) (by
  have h1 := (limbs_bounds (B := 1000000000) (by decide) m).1
  rw [Nat.pow_succ]
  exact Nat.mul_lt_mul'' h1 hd)
theorem lim_mono {m n : Nat} (h : n ≤ m) : (lim n).length ≤ (lim m).length := Nat.le_of_not_lt fun hl => by
  have := limbs_lt_of_len (B := 1000000000) (by decide) hl
  omega
/-- The code from region k on. -/
def tailAt (k : Nat) : Code → Option Code
  | .seq (.region i ops dr) b => if i = k then some (.seq (.region i ops dr) b) else tailAt k b
  | .seq a b => match tailAt k a with
    | some c => some c
    | none => tailAt k b
  | .block _ c => tailAt k c
  | .loop c => tailAt k c
  | .scope c => tailAt k c
  | .cond _ a b => match tailAt k a with
    | some c => some c
    | none => tailAt k b
  | _ => none
noncomputable def doneCode : Code := (Tryz.f286.body.bind (tailAt 20)).getD .skip
set_option maxRecDepth 1000000 in
set_option maxHeartbeats 25600000 in
theorem divide_tail {Q : Exit → Act → World → Prop} {c0 c1 c2 c3 c5 c6 c7 c8 c13 c15 c16 c17 c18 c19 c20 c21 c22 c23 c24 c25 c26 c27 c28 c29 c30 c31 c32 c33 c34 c35 c36 c37 c38 c39 c40 c41 c42 c43 c44 c45 c46 c47 c48 c49 c50 c51 c52 c53 c54 c55 c56 c57 c58 c59 c60 c61 c62 c63 c64 c65 c66 c67 c68 c69 c70 c71 c72 c73 c74 c75 c76 c77 c78 c79 c80 c81 c82 c83 c84 c85 c86 c87 c88 c89 c90 c91 c92 c93 c94 c95 c96 c97 c98 c99 c100 c101 c102 c103 c104 c105 c106 c107 c108 c109 c110 c111 c112 c113 c114 c115 c116 c117 c118 c119 c120 c121 c122 c123 c124 c125 c126 c127 c128 c129 c130 c131 c132 c133 c134 c135 c136 c137 c138 c139 c140 c141 c142 c143 c144 c145 c146 c147 c148 c149 c150 c151 c152 c153 c154 c155 c156 c157 c158 c159 c160 c161 c162 c163 c164 c165 c166 c167 c168 c169 c170 c171 c172 c173 c174 c175 c176 c177 c178 c179 c180 c181 c182 c183 c184 c185 c186 c187 c188 c189 c190 c191 c192 c193 c194 c195 c196 c197 c198 c199 c200 : Value} (w WW : World) (j kk jk T K gD gU gQ gV cu cV GG P V d : Nat) (L Qs : List Nat)
    (hjk : j + kk = jk) (hTK : K + kk = T) (hjK : j < K) (hkk : 2 ≤ kk) (hTb : T ≤ 5001) (hcu : T ≤ cu) (s1 : IntKind.i64.wrap ((j : Int) + (kk : Int)) = (jk : Int))
    (hLlen : L.length = T) (hpl : ∀ x ∈ L, x < BB) (hzU : vB (L.drop (j + kk + 1)) = 0) (hP : vB (L.drop j) = P) (hVlen : (lim V).length = kk) (hQlen : Qs.length = K)
    (hG1 : P / V ≤ GG) (hG2 : GG ≤ P / V + 1) (hG3 : GG < BB)
    (hUz : OwnV WW 0 76 (.slice (some ⟨gU, 0, none⟩) T cu) (uVs L)) (hQz : OwnV WW 0 76 (.slice (some ⟨gQ, 0, none⟩) K K) (uVs Qs))
    (hVz : OwnV WW 0 76 (.slice (some ⟨gV, 0, none⟩) kk cV) (uVs (lim V))) (hDz : OwnV WW 0 76 (.slice (some ⟨gD, 0, none⟩) 1 1) (uVs [d]))
    (n1 : gQ ≠ gU) (n2 : gV ≠ gU) (n3 : gV ≠ gQ) (n4 : gD ≠ gU) (n5 : gD ≠ gQ) (hb : Below w.heap.size w WW) (hwU : w.heap.size ≤ gU) (hwQ : w.heap.size ≤ gQ)
    (hexit : ∀ (y14 y16 y17 y18 y143 y144 y145 y146 y147 y148 y149 y150 y151 y152 y153 y154 y155 y156 y157 y158 y159 y160 y161 y162 y163 y164 y165 y166 y167 y168 y169 y170 y171 y172 y173 y174 y175 y176 y177 y178 y179 y180 y181 y182 y183 y184 y185 y186 y187 y188 : Value) (w' : World), OwnV w' 0 76 (.slice (some ⟨gU, 0, none⟩) T cu) (uVs (splice (splice L j (List.replicate (kk + 1) 0)) j (lim (P % V)))) → OwnV w' 0 76 (.slice (some ⟨gQ, 0, none⟩) K K) (uVs (Qs.set j (P / V))) →
      OwnV w' 0 76 (.slice (some ⟨gV, 0, none⟩) kk cV) (uVs (lim V)) → OwnV w' 0 76 (.slice (some ⟨gD, 0, none⟩) 1 1) (uVs [d]) → Below w.heap.size w w' → Q .normal ⟨#[c0, c1, c2, c3, .slice (some ⟨gQ, 0, none⟩) K K, c5, c6, c7, c8, .slice (some ⟨gU, 0, none⟩) T cu, .slice (some ⟨gV, 0, none⟩) kk cV, .int .i64 (kk : Int), .int .i64 (j : Int), c13, y14, c15, y16, y17, y18, c19, c20, c21, c22, c23, c24, c25, c26, c27, c28, c29, c30, c31, c32, c33, c34, c35, c36, c37, c38, c39, c40, c41, c42, c43, c44, c45, c46, c47, c48, c49, c50, c51, c52, c53, c54, c55, c56, c57, c58, c59, c60, c61, c62, c63, c64, c65, c66, c67, c68, c69, c70, c71, c72, c73, c74, c75, c76, c77, c78, c79, c80, c81, c82, c83, c84, c85, c86, c87, c88, c89, c90, c91, c92, c93, c94, c95, c96, c97, c98, c99, c100, c101, c102, c103, c104, c105, c106, c107, c108, c109, c110, c111, c112, c113, c114, c115, c116, c117, c118, c119, c120, c121, c122, c123, c124, c125, c126, c127, c128, c129, c130, c131, c132, c133, c134, c135, c136, c137, c138, c139, c140, c141, c142, y143, y144, y145, y146, y147, y148, y149, y150, y151, y152, y153, y154, y155, y156, y157, y158, y159, y160, y161, y162, y163, y164, y165, y166, y167, y168, y169, y170, y171, y172, y173, y174, y175, y176, y177, y178, y179, y180, y181, y182, y183, y184, y185, y186, y187, y188, c189, c190, c191, c192, c193, c194, c195, c196, c197, c198, c199, c200], []⟩ w') :
    Code.wp Tryz.prog doneCode Q ⟨#[c0, c1, c2, c3, .slice (some ⟨gQ, 0, none⟩) K K, c5, c6, c7, c8, .slice (some ⟨gU, 0, none⟩) T cu, .slice (some ⟨gV, 0, none⟩) kk cV, .int .i64 (kk : Int), .int .i64 (j : Int), c13, .int .u64 (GG : Int), c15, c16, c17, c18, c19, c20, c21, c22, c23, c24, c25, c26, c27, c28, c29, c30, c31, c32, c33, c34, c35, c36, c37, c38, c39, c40, c41, c42, c43, c44, c45, c46, c47, c48, c49, c50, c51, c52, c53, c54, c55, c56, c57, c58, c59, c60, c61, c62, c63, c64, c65, c66, c67, c68, c69, c70, c71, c72, c73, c74, c75, c76, c77, c78, c79, c80, c81, c82, c83, c84, c85, c86, c87, c88, c89, c90, c91, c92, c93, c94, c95, c96, c97, c98, c99, c100, c101, c102, c103, c104, c105, c106, c107, c108, c109, c110, c111, c112, c113, c114, c115, c116, c117, c118, c119, c120, c121, c122, c123, c124, c125, c126, c127, c128, c129, c130, c131, c132, c133, c134, c135, c136, c137, c138, c139, c140, c141, c142, c143, c144, c145, c146, c147, c148, c149, c150, c151, c152, c153, c154, c155, c156, c157, c158, c159, c160, c161, c162, c163, c164, c165, c166, c167, c168, c169, c170, c171, c172, c173, c174, c175, c176, c177, c178, c179, c180, c181, c182, c183, c184, c185, c186, c187, c188, c189, c190, c191, c192, c193, c194, c195, c196, c197, c198, c199, c200], []⟩ WW := by
  obtain ⟨jn, hjn⟩ : ∃ x, jk + 1 = x := ⟨_, rfl⟩
  have hjn' : (jk : Int) + 1 = (jn : Int) := by omega
  have hjw : IntKind.i64.wrap (jn : Int) = (jn : Int) := IntWalk.i64_in _ (by omega)
  have hcuj : (cu = j) = False := eq_false (by omega)
  have hcuT : (T = j) = False := eq_false (by omega)
  have hjb1 : (j : Int) ≤ (jn : Int) := by omega
  have hjb2 : (jn : Int) ≤ (cu : Int) := by omega
  have hjb3 : (j : Int) ≤ (T : Int) := by omega
  have hVg : ∀ w' : World, Below WW.heap.size WW w' → Limbs w' (some ⟨gV, 0, none⟩) (lim V) := fun w' hw' => by
    have h0 := ownV_bel hVz ⟨w', hw'⟩
    obtain ⟨a', c', hv', hl'⟩ := limbs_own h0
    injection hv' with e1
    rw [e1]; exact hl'
  have hplen : ((L.drop j).take (kk + 1)).length = jn - j := by
    rw [List.length_take, List.length_drop, hLlen]
    omega
  obtain ⟨i0, hi0, hz0, hz1, hz2⟩ := info_parts Tryz.infoU
  conv => arg 2; whnf
  have hcl := clone_any gU j (cu - j) ((L.drop j).take (kk + 1)) WW (fun jj x hx => by
    rw [List.getElem?_take] at hx
    split at hx
    · rw [List.getElem?_drop] at hx
      exact (own_at hUz hx).1
    · cases hx) (by rw [hplen]; omega)
  have hpb : ∀ x ∈ (L.drop j).take (kk + 1), x < 1000000000 := fun x hx => hpl x (List.mem_of_mem_drop (List.mem_of_mem_take hx))
  have hpv : vB ((L.drop j).take (kk + 1)) = P := by
    have h3 := vB_split (L.drop j) (n := kk + 1) (by rw [List.length_drop, hLlen]; omega)
    rw [List.drop_drop, show j + (kk + 1) = j + kk + 1 by omega, hzU, Nat.mul_zero, Nat.add_zero, hP] at h3
    exact h3.symm
  rw [hplen] at hcl
  have hplb : (jn - j) ≤ 10000 := by omega
  obtain ⟨part, hpart⟩ : ∃ l, (L.drop j).take (kk + 1) = l := ⟨_, rfl⟩
  rw [hpart] at hplen hcl hpb hpv
  obtain ⟨pn, hpn⟩ : ∃ x, jn - j = x := ⟨_, rfl⟩
  rw [hpn] at hplen hcl hplb
  have HCL := Lib.hid hcl
  have HPB := Lib.hid hpb
  have HPW := Lib.hid hpv
  replace hpn := hpn
  have HVG := Lib.hid hVg
  have HU0 := Lib.hid hUz
  have HQ0 := Lib.hid hQz
  have HV0 := Lib.hid hVz
  have HD0 := Lib.hid hDz
  have HPL := Lib.hid hpl
  have HHH := Lib.hid hexit
  have HPD := Lib.hid hP
  clear hcl hpb hpv hUz hVz hQz hDz hVg hpl hpart hexit hP hzU
  go_wp2_with fail
  refine HCL.out.mono ?_
  rintro _ _ ⟨vp, rfl, c1, rfl, hcp⟩
  have hc1 := c1.size_le
  obtain ⟨pp, pc, rfl, _⟩ := limbs_own hcp
  have htp1 := trim_own hcp (by rw [hplen]; omega)
  have hto1 := own_trim hcp
  rw [trim_lim HPB.out HPW.out] at htp1 hto1
  rw [hplen] at htp1 ⊢
  have HT1 := Lib.hid htp1
  have HTO := Lib.hid hto1
  clear hcp htp1 hto1
  dsimp only
  go_wp2_with fail
  (with_reducible refine HT1.out.mono ?_)
  rintro _ _ ⟨rfl, c2, rfl⟩
  have hc2 := c2.size_le
  dsimp only
  go_wp2_with fail
  have HGT := Lib.hid (show trimL [GG] = lim GG from trim_lim (fun x hx => by rw [List.mem_singleton.1 hx]; exact hG3) (by simp [valB]))
  have HG1 := Lib.hid (show OwnV (c2.w.alloc (.cells #[.int .u64 (GG : Int)] 76)) c2.w.heap.size 76 (.slice (some ⟨c2.w.heap.size, 0, none⟩) [GG].length 1) (uVs [GG]) from ownV_one c2.w 76 (.int .u64 (GG : Int)))
  refine (trim_own HG1.out (by simp)).mono ?_
  rintro _ _ ⟨rfl, c3, rfl⟩
  have hc3 := c3.size_le
  have HGO := Lib.hid (ownV_bel (own_trim HG1.out) c3)
  rw [HGT.out] at HGO ⊢
  dsimp only
  have hbc3 : Below WW.heap.size WW c3.w := by (repeat' (first | (with_reducible first | apply Zl1 | apply Zl2 | apply Zl3 | apply Zl4 | apply Zl5 | apply Zl6 | apply Zl7 | apply Zl8 | apply Zl9 | apply Zla | apply Zlb | apply Zlc) | (dsimp only; with_reducible first | apply Zl8 | apply Zl2 | apply Zld) | with_reducible assumption | omega | (dsimp only; omega)))
  have hVkk := hVlen
  have hGl : (lim GG).length ≤ 1 := limbs_len_le (by decide) (by rw [Nat.pow_one]; exact hG3)
  obtain ⟨ga, gc, hgv, hgl⟩ := limbs_own HGO.out
  injection hgv with e1 e2 e3
  subst e1 e3
  have htm := times_any (some ⟨gV, 0, none⟩) (some ⟨c2.w.heap.size, 0, none⟩) cV 1 V GG c3.w (HVG.out _ hbc3) hgl (by omega) (by omega)
  rw [hVkk] at htm
  have HTM := Lib.hid htm
  clear htm hgl HG1 HGT
  go_wp2_with fail
  refine HTM.out.mono ?_
  rintro _ _ ⟨vq, rfl, c4, rfl, hqo⟩
  have hc4 := c4.size_le
  obtain ⟨qp, qc, rfl, hql⟩ := limbs_own hqo
  have HQP := Lib.hid hqo
  have hto4 : OwnV c4.w WW.heap.size 76 (.slice pp (lim P).length pc) (uVs (lim P)) := ownV_bel (ownV_bel HTO.out ⟨c3.w, by (repeat' (first | (with_reducible first | apply Zl1 | apply Zl2 | apply Zl3 | apply Zl4 | apply Zl5 | apply Zl6 | apply Zl7 | apply Zl8 | apply Zl9 | apply Zla | apply Zlb | apply Zlc) | (dsimp only; with_reducible first | apply Zl8 | apply Zl2 | apply Zld) | with_reducible assumption | omega | (dsimp only; omega)))⟩) c4
  obtain ⟨pp', pc', hpv', hpl'⟩ := limbs_own hto4
  injection hpv' with e1 e2 e3
  subst e1 e3
  have hPl : (lim P).length ≤ pn := by
    have h1 := trimL_len part
    rw [trim_lim HPB.out HPW.out] at h1
    omega
  have hPr : (lim (V * GG)).length ≤ kk + 1 := by
    have := lim_mul_le (m := V) hG3
    omega
  have HCMP := Lib.hid (compare_any pp qp pc qc P (V * GG) c4.w hpl' hql (by omega) (by omega))
  have HTO4 := Lib.hid hto4
  have hVp : 0 < V := Nat.pos_of_ne_zero fun h => by
    subst h
    rw [show lim 0 = [] from limbs_zero _] at hVkk
    simp at hVkk
    omega
  obtain ⟨hfx, hfy⟩ := guess_fix hVp hG1 hG2
  have hbc4 : Below WW.heap.size WW c4.w := by (repeat' (first | (with_reducible first | apply Zl1 | apply Zl2 | apply Zl3 | apply Zl4 | apply Zl5 | apply Zl6 | apply Zl7 | apply Zl8 | apply Zl9 | apply Zla | apply Zlb | apply Zlc) | (dsimp only; with_reducible first | apply Zl8 | apply Zl2 | apply Zld) | with_reducible assumption | omega | (dsimp only; omega)))
  clear hqo hql hto4 hpl' HTM HGO
  dsimp only
  by_cases hX : P < V * GG
  · obtain ⟨hx1, hx2⟩ := hfx hX
    have hGG0 : 0 < GG := Nat.pos_of_ne_zero fun h => by
      subst h
      rw [Nat.mul_zero] at hX
      exact absurd hX (Nat.not_lt_zero _)
    obtain ⟨gx, hgx⟩ : ∃ g, GG - 1 = g := ⟨_, rfl⟩
    have hgx' : (GG : Int) - 1 = (gx : Int) := by omega
    have hcm2 : cmpN P (V * GG) = -1 := if_pos hX
    have hle1 : V ≤ V * GG := Nat.le_mul_of_pos_right V hGG0
    have hle2 : V * GG - V ≤ P := by
      have h1 : V * GG - V = V * (P / V) := by rw [← hx1, Nat.mul_sub, Nat.mul_one]
      rw [h1]
      exact Nat.mul_div_le P V
    rw [hcm2] at HCMP
    rw [hgx] at hx1
    have hgxb : gx ≤ 1000000000 := by unfold BB at hG3; omega
    have HGF := Lib.hid hx1
    clear hx1
    go_wp2_with fail
    (with_reducible refine HCMP.out.mono ?_)
    rintro _ _ ⟨rfl, c5, rfl⟩
    have hc5 := c5.size_le
    have hbc5 : Below WW.heap.size WW c5.w := hbc4.trans (c5.below.mono hbc4.size)
    have hq5 := ownV_bel HQP.out c5
    obtain ⟨qp', qc', hqv', hql'⟩ := limbs_own hq5
    injection hqv' with e1 e2 e3
    subst e1 e3
    have hls := less_any qp (some ⟨gV, 0, none⟩) qc cV (V * GG) V c5.w hql' (HVG.out _ hbc5) (by omega) hle1
    rw [hVkk] at hls
    have HLS := Lib.hid hls
    clear hls hq5 hql' hcm2
    go_wp2_with fail
    refine HLS.out.mono ?_
    rintro _ _ ⟨vr, rfl, c6, rfl, hro⟩
    have hc6 := c6.size_le
    obtain ⟨rp, rc, rfl, hrl⟩ := limbs_own hro
    have hbc6 : Below WW.heap.size WW c6.w := hbc5.trans (c6.below.mono hbc5.size)
    have hp6 := ownV_bel (ownV_bel HTO4.out c5) c6
    obtain ⟨pp', pc', hpv', hpl'⟩ := limbs_own hp6
    injection hpv' with e1 e2 e3
    subst e1 e3
    have hlf := less_any pp rp pc rc P (V * GG - V) c6.w hpl' hrl (by omega) hle2
    rw [hx2] at hlf
    have HLF := Lib.hid hlf
    clear hlf hp6 hpl' hro hrl HLS
    dsimp only
    go_wp2_with fail
    refine HLF.out.mono ?_
    rintro _ _ ⟨vl, rfl, c7, rfl, hlo⟩
    have hc7 := c7.size_le
    have hbl : Below WW.heap.size WW c7.w := hbc6.trans (c7.below.mono hbc6.size)
    have hlo2 := ownV_mono hlo hbc6.size
    clear hlo HLF
    have hbW : Below w.heap.size w c7.w := hb.trans (hbl.mono hb.size)
    have hgUs := own_lt HU0.out
    have hUl := ownV_bel HU0.out ⟨c7.w, hbl⟩
    have hQl := ownV_bel HQ0.out ⟨c7.w, hbl⟩
    have hVl := ownV_bel HV0.out ⟨c7.w, hbl⟩
    have hDl := ownV_bel HD0.out ⟨c7.w, hbl⟩
    obtain ⟨R, hR⟩ : ∃ r, P % V = r := ⟨_, rfl⟩
    have hRV : R < V := by rw [← hR]; exact Nat.mod_lt _ hVp
    have hRl : (lim R).length ≤ kk := by
      rw [← hVlen]
      exact lim_mono (Nat.le_of_lt hRV)
    rw [hR] at hlo2 HHH
    obtain ⟨lp, lc, rfl, _⟩ := limbs_own hlo2
    obtain ⟨kn, hkn⟩ : ∃ x, kk + 1 = x := ⟨_, rfl⟩
    have hkn' : (kk : Int) + 1 = (kn : Int) := by omega
    have hkw : IntKind.i64.wrap (kn : Int) = (kn : Int) := IntWalk.i64_in _ (by omega)
    rw [hkn] at HHH
    have hmk := fun wx : World => run_make_row (P := Tryz.prog) 260 76 i0 (.int .u64 0) Tryz.underlying260 hi0 hz0 hz1 rfl .i64 .i64 kn (by rw [hz2]; omega) (by omega) wx
    have HUl := Lib.hid hUl
    have HQl := Lib.hid hQl
    have HVl := Lib.hid hVl
    have HDl := Lib.hid hDl
    have HLl := Lib.hid hlo2
    have HRE := Lib.hid hR
    clear hUl hQl hVl hDl hlo2 hR HU0 HQ0 HV0 HD0
    dsimp only
    go_wp2_with fail
    refine wp_region_plan 10 (.calm 0 (.calm 1 (.calm 2 (.calm 3 (.calm 4 (.calm 5 (.calm 6 (.calm 7 (.calm 8 (.fork 9 .tail .none)))))))))) (by kernel_rfl) (by kernel_rfl) ?_
    simp only [Plan.walk, operAt, List.getElem?_cons_succ, List.getElem?_cons_zero, Option.getD_some, List.drop_succ_cons, List.drop_zero]
    repeat (refine wpX_calm (fun K hK => ?_); go_simp; first | (refine hK _ _ ?_; clear hK K) | (apply Exists.intro; refine ⟨fun _ => ?_, hK _ _ ?_⟩; (fail); clear hK K))
    refine wpX_only (fun K hK => ?_)
    go_simp
    intro x
    refine ⟨(Below.refl _ _).alloc (Nat.le_refl _) _, hK _ _ ?_⟩
    clear hK K
    repeat (refine wpX_calm (fun K hK => ?_); go_simp; first | (refine hK _ _ ?_; clear hK K) | (apply Exists.intro; refine ⟨fun _ => ?_, hK _ _ ?_⟩; (fail); clear hK K))
    refine wpX_tail ?_
    intro z
    have hxz : Below c7.w.heap.size c7.w z.w := by (repeat' (first | (with_reducible first | apply Zl1 | apply Zl2 | apply Zl3 | apply Zl4 | apply Zl5 | apply Zl6 | apply Zl7 | apply Zl8 | apply Zl9 | apply Zla | apply Zlb | apply Zlc) | (dsimp only; with_reducible first | apply Zl8 | apply Zl2 | apply Zld) | with_reducible assumption | omega | (dsimp only; omega)))
    have hbZ : Below w.heap.size w z.w := hbW.trans (hxz.mono hbW.size)
    have hU4 := ownV_bel HUl.out ⟨z.w, hxz⟩
    have HQ4 := Lib.hid (ownV_bel HQl.out ⟨z.w, hxz⟩)
    have HV4 := Lib.hid (ownV_bel HVl.out ⟨z.w, hxz⟩)
    have HD4 := Lib.hid (ownV_bel HDl.out ⟨z.w, hxz⟩)
    have HL4 := Lib.hid (ownV_bel HLl.out ⟨z.w, hxz⟩)
    have hzc : ∀ (jj : Nat) v, (uVs (List.replicate kn 0))[jj]? = some v → z.w.cell? ⟨x.w.heap.size, 0 + jj, none⟩ = some v := fun jj v h => cell_carry z.below (zeros_cells x.w kn jj v h)
    refine wpList_copyV rfl _ _ 260 260 rfl 76 Tryz.underlying260 (by kernel_rfl) 0 gU T cu j pn _ (uVs L) hU4 _ _ _ rfl rfl (uVs (List.replicate kn 0)) (by rw [uVs_len, List.length_replicate]) (by omega) (by omega) (uVs_one _) (fun _ => ⟨_, 0, rfl, hzc⟩) ?_
    intro w5 hU5 hg5
    rw [uVs_splice] at hU5
    have hb5 : Below w.heap.size w w5 := hbZ.grown hg5 hbZ.size (fun k e => by injection e with e; omega)
    have HU5 := Lib.hid hU5
    have HQ5 := Lib.hid (ownV_apart HQ4.out hg5 n1)
    have HV5 := Lib.hid (ownV_apart HV4.out hg5 n2)
    have HD5 := Lib.hid (ownV_apart HD4.out hg5 n4)
    have hL5 := ownV_keep HL4.out hg5 hgUs
    have HLC := Lib.hid (show 0 < (uVs (lim R)).length → ∃ b so, lp = some ⟨b, so, none⟩ ∧ ∀ (jj : Nat) v, (uVs (lim R))[jj]? = some v → w5.cell? ⟨b, so + jj, none⟩ = some v from fun h0 => by
      obtain ⟨b, bc, hv', _, _, _, hcc⟩ := ownV_cells hL5 h0
      injection hv' with e1
      exact ⟨b, 0, e1, fun jj v hj => by rw [Nat.zero_add]; exact (hcc jj v hj).1⟩)
    obtain ⟨q0, hq0⟩ : ∃ x, Qs[j]? = some x := ⟨_, List.getElem?_eq_getElem (by omega)⟩
    have hjT : (j : Int) < (K : Int) := by omega
    clear hU4 hzc hU5 hL5 HQ4 HV4 HD4 HL4 HUl HQl HVl HDl HLl
    go_wp2_with (refine wpList_copyV rfl _ _ 260 260 rfl 76 Tryz.underlying260 (by kernel_rfl) 0 gU T cu j (T - j) _ (uVs (splice L j (List.replicate kn 0))) HU5.out lp (lim R).length lc rfl rfl (uVs (lim R)) (by rw [uVs_len]) (by omega) (by omega) (uVs_one _) HLC.out ?_; intro w6 hU6 hg6; obtain ⟨g8, f8⟩ := own_at (ownV_apart HQ5.out hg6 n1) hq0)
    rw [uVs_splice] at hU6
    have hb6 : Below w.heap.size w w6 := hb5.grown hg6 hb5.size (fun k e => by injection e with e; omega)
    have hQ6 := ownV_apart HQ5.out hg6 n1
    have hV6 := ownV_apart HV5.out hg6 n2
    have hD6 := ownV_apart HD5.out hg6 n4
    have hst := set_grown w6 gQ j (.int .u64 (gx : Int))
    have hQs := (own_store (L := Qs) (by rw [hQlen]; exact hQ6) j gx).1
    rw [List.length_set, hQlen] at hQs
    have hGE := HGF.out
    refine HHH.out _ _ _ _ _ _ _ _ _ _ _ _ _ _ _ _ _ _ _ _ _ _ _ _ _ _ _ _ _ _ _ _ _ _ _ _ _ _ _ _ _ _ _ _ _ _ _ _ _ _ _ (ownV_apart hU6 hst (Ne.symm n1)) ?_ (ownV_apart hV6 hst n3) (ownV_apart hD6 hst n5) (hb6.grown hst hb6.size (fun k e => by injection e with e; omega))
    rw [← hGE]
    exact hQs
  · obtain ⟨hy1', hy2'⟩ := hfy (by omega)
    have HGF := Lib.hid hy1'
    clear hy1'
    have hcm2 : decide (cmpN P (V * GG) < 0) = false := by
      unfold cmpN
      rw [if_neg hX]
      split <;> decide
    generalize cmpN P (V * GG) = cq at *
    go_wp2_with fail
    (with_reducible refine HCMP.out.mono ?_)
    rintro _ _ ⟨rfl, c5, rfl⟩
    have hc5 := c5.size_le
    have hbc5 : Below WW.heap.size WW c5.w := hbc4.trans (c5.below.mono hbc4.size)
    have hq5 := ownV_bel HQP.out c5
    obtain ⟨qp', qc', hqv', hql'⟩ := limbs_own hq5
    injection hqv' with e1 e2 e3
    subst e1 e3
    have hp6 := ownV_bel HTO4.out c5
    obtain ⟨pp', pc', hpv', hpl'⟩ := limbs_own hp6
    injection hpv' with e1 e2 e3
    subst e1 e3
    have hlf := less_any pp qp pc qc P (V * GG) c5.w hpl' hql' (by omega) (by omega)
    rw [hy2'] at hlf
    have HLF := Lib.hid hlf
    clear hlf hp6 hpl' hq5 hql'
    go_wp2_with fail
    refine HLF.out.mono ?_
    rintro _ _ ⟨vl, rfl, c7, rfl, hlo⟩
    have hc7 := c7.size_le
    have hbl : Below WW.heap.size WW c7.w := hbc5.trans (c7.below.mono hbc5.size)
    have hlo2 := ownV_mono hlo hbc5.size
    clear hlo HLF
    have hbW : Below w.heap.size w c7.w := hb.trans (hbl.mono hb.size)
    have hgUs := own_lt HU0.out
    have hUl := ownV_bel HU0.out ⟨c7.w, hbl⟩
    have hQl := ownV_bel HQ0.out ⟨c7.w, hbl⟩
    have hVl := ownV_bel HV0.out ⟨c7.w, hbl⟩
    have hDl := ownV_bel HD0.out ⟨c7.w, hbl⟩
    obtain ⟨R, hR⟩ : ∃ r, P % V = r := ⟨_, rfl⟩
    have hRV : R < V := by rw [← hR]; exact Nat.mod_lt _ hVp
    have hRl : (lim R).length ≤ kk := by
      rw [← hVlen]
      exact lim_mono (Nat.le_of_lt hRV)
    rw [hR] at hlo2 HHH
    obtain ⟨lp, lc, rfl, _⟩ := limbs_own hlo2
    obtain ⟨kn, hkn⟩ : ∃ x, kk + 1 = x := ⟨_, rfl⟩
    have hkn' : (kk : Int) + 1 = (kn : Int) := by omega
    have hkw : IntKind.i64.wrap (kn : Int) = (kn : Int) := IntWalk.i64_in _ (by omega)
    rw [hkn] at HHH
    have hmk := fun wx : World => run_make_row (P := Tryz.prog) 260 76 i0 (.int .u64 0) Tryz.underlying260 hi0 hz0 hz1 rfl .i64 .i64 kn (by rw [hz2]; omega) (by omega) wx
    have HUl := Lib.hid hUl
    have HQl := Lib.hid hQl
    have HVl := Lib.hid hVl
    have HDl := Lib.hid hDl
    have HLl := Lib.hid hlo2
    have HRE := Lib.hid hR
    clear hUl hQl hVl hDl hlo2 hR HU0 HQ0 HV0 HD0
    dsimp only
    go_wp2_with fail
    refine wp_region_plan 10 (.calm 0 (.calm 1 (.calm 2 (.calm 3 (.calm 4 (.calm 5 (.calm 6 (.calm 7 (.calm 8 (.fork 9 .tail .none)))))))))) (by kernel_rfl) (by kernel_rfl) ?_
    simp only [Plan.walk, operAt, List.getElem?_cons_succ, List.getElem?_cons_zero, Option.getD_some, List.drop_succ_cons, List.drop_zero]
    repeat (refine wpX_calm (fun K hK => ?_); go_simp; first | (refine hK _ _ ?_; clear hK K) | (apply Exists.intro; refine ⟨fun _ => ?_, hK _ _ ?_⟩; (fail); clear hK K))
    refine wpX_only (fun K hK => ?_)
    go_simp
    intro x
    refine ⟨(Below.refl _ _).alloc (Nat.le_refl _) _, hK _ _ ?_⟩
    clear hK K
    repeat (refine wpX_calm (fun K hK => ?_); go_simp; first | (refine hK _ _ ?_; clear hK K) | (apply Exists.intro; refine ⟨fun _ => ?_, hK _ _ ?_⟩; (fail); clear hK K))
    refine wpX_tail ?_
    intro z
    have hxz : Below c7.w.heap.size c7.w z.w := by (repeat' (first | (with_reducible first | apply Zl1 | apply Zl2 | apply Zl3 | apply Zl4 | apply Zl5 | apply Zl6 | apply Zl7 | apply Zl8 | apply Zl9 | apply Zla | apply Zlb | apply Zlc) | (dsimp only; with_reducible first | apply Zl8 | apply Zl2 | apply Zld) | with_reducible assumption | omega | (dsimp only; omega)))
    have hbZ : Below w.heap.size w z.w := hbW.trans (hxz.mono hbW.size)
    have hU4 := ownV_bel HUl.out ⟨z.w, hxz⟩
    have HQ4 := Lib.hid (ownV_bel HQl.out ⟨z.w, hxz⟩)
    have HV4 := Lib.hid (ownV_bel HVl.out ⟨z.w, hxz⟩)
    have HD4 := Lib.hid (ownV_bel HDl.out ⟨z.w, hxz⟩)
    have HL4 := Lib.hid (ownV_bel HLl.out ⟨z.w, hxz⟩)
    have hzc : ∀ (jj : Nat) v, (uVs (List.replicate kn 0))[jj]? = some v → z.w.cell? ⟨x.w.heap.size, 0 + jj, none⟩ = some v := fun jj v h => cell_carry z.below (zeros_cells x.w kn jj v h)
    refine wpList_copyV rfl _ _ 260 260 rfl 76 Tryz.underlying260 (by kernel_rfl) 0 gU T cu j pn _ (uVs L) hU4 _ _ _ rfl rfl (uVs (List.replicate kn 0)) (by rw [uVs_len, List.length_replicate]) (by omega) (by omega) (uVs_one _) (fun _ => ⟨_, 0, rfl, hzc⟩) ?_
    intro w5 hU5 hg5
    rw [uVs_splice] at hU5
    have hb5 : Below w.heap.size w w5 := hbZ.grown hg5 hbZ.size (fun k e => by injection e with e; omega)
    have HU5 := Lib.hid hU5
    have HQ5 := Lib.hid (ownV_apart HQ4.out hg5 n1)
    have HV5 := Lib.hid (ownV_apart HV4.out hg5 n2)
    have HD5 := Lib.hid (ownV_apart HD4.out hg5 n4)
    have hL5 := ownV_keep HL4.out hg5 hgUs
    have HLC := Lib.hid (show 0 < (uVs (lim R)).length → ∃ b so, lp = some ⟨b, so, none⟩ ∧ ∀ (jj : Nat) v, (uVs (lim R))[jj]? = some v → w5.cell? ⟨b, so + jj, none⟩ = some v from fun h0 => by
      obtain ⟨b, bc, hv', _, _, _, hcc⟩ := ownV_cells hL5 h0
      injection hv' with e1
      exact ⟨b, 0, e1, fun jj v hj => by rw [Nat.zero_add]; exact (hcc jj v hj).1⟩)
    obtain ⟨q0, hq0⟩ : ∃ x, Qs[j]? = some x := ⟨_, List.getElem?_eq_getElem (by omega)⟩
    have hjT : (j : Int) < (K : Int) := by omega
    clear hU4 hzc hU5 hL5 HQ4 HV4 HD4 HL4 HUl HQl HVl HDl HLl
    go_wp2_with (refine wpList_copyV rfl _ _ 260 260 rfl 76 Tryz.underlying260 (by kernel_rfl) 0 gU T cu j (T - j) _ (uVs (splice L j (List.replicate kn 0))) HU5.out lp (lim R).length lc rfl rfl (uVs (lim R)) (by rw [uVs_len]) (by omega) (by omega) (uVs_one _) HLC.out ?_; intro w6 hU6 hg6; obtain ⟨g8, f8⟩ := own_at (ownV_apart HQ5.out hg6 n1) hq0)
    rw [uVs_splice] at hU6
    have hb6 : Below w.heap.size w w6 := hb5.grown hg6 hb5.size (fun k e => by injection e with e; omega)
    have hQ6 := ownV_apart HQ5.out hg6 n1
    have hV6 := ownV_apart HV5.out hg6 n2
    have hD6 := ownV_apart HD5.out hg6 n4
    have hst := set_grown w6 gQ j (.int .u64 (GG : Int))
    have hQs := (own_store (L := Qs) (by rw [hQlen]; exact hQ6) j GG).1
    rw [List.length_set, hQlen] at hQs
    have hGE := HGF.out
    refine HHH.out _ _ _ _ _ _ _ _ _ _ _ _ _ _ _ _ _ _ _ _ _ _ _ _ _ _ _ _ _ _ _ _ _ _ _ _ _ _ _ _ _ _ _ _ _ _ _ _ _ _ _ (ownV_apart hU6 hst (Ne.symm n1)) ?_ (ownV_apart hV6 hst n3) (ownV_apart hD6 hst n5) (hb6.grown hst hb6.size (fun k e => by injection e with e; omega))
    rw [← hGE]
    exact hQs
end Go.Proofs.YtehgeoipbgpocaaGreatDoor.I

namespace Go.Proofs.YtehgeoipbgpocaaGreatDoor.I
set_option linter.unusedVariables false
set_option linter.unusedSimpArgs false
open Go.RowKit Go.Shelf
attribute [local go_sem low] Bel.cell Bel.frozen alloc_cell alloc_frozen

/-- The code from block k on. -/
def blockAt (k : Nat) : Code → Option Code
  | .seq (.block i c) b => if i = k then some (.seq (.block i c) b) else match blockAt k c with
    | some c => some c
    | none => blockAt k b
  | .seq a b => match blockAt k a with
    | some c => some c
    | none => blockAt k b
  | .block _ c => blockAt k c
  | .loop c => blockAt k c
  | .scope c => blockAt k c
  | .cond _ a b => match blockAt k a with
    | some c => some c
    | none => blockAt k b
  | _ => none
noncomputable def innerCode : Code := (Tryz.f286.body.bind (blockAt 3)).getD .skip
set_option maxRecDepth 1000000 in
set_option maxHeartbeats 25600000 in
theorem divide_inner {Q : Exit → Act → World → Prop} {c0 c1 c2 c3 c5 c6 c7 c8 c13 c16 c17 c18 c19 c20 c21 c22 c23 c24 c25 c26 c27 c28 c29 c30 c31 c32 c33 c34 c35 c36 c37 c38 c39 c40 c41 c42 c43 c44 c45 c46 c47 c48 c49 c50 c51 c52 c53 c54 c55 c56 c57 c58 c59 c60 c61 c62 c63 c64 c65 c66 c67 c68 c69 c70 c71 c72 c73 c74 c75 c76 c77 c78 c79 c80 c81 c82 c83 c84 c85 c86 c87 c88 c89 c90 c91 c92 c93 c94 c95 c96 c97 c98 c99 c100 c101 c102 c103 c104 c105 c106 c107 c108 c109 c110 c111 c112 c113 c114 c115 c116 c117 c118 c119 c120 c121 c122 c123 c124 c125 c126 c127 c128 c129 c130 c131 c132 c133 c134 c135 c136 c137 c138 c139 c140 c141 c142 c143 c144 c145 c146 c147 c148 c149 c150 c151 c152 c153 c154 c155 c156 c157 c158 c159 c160 c161 c162 c163 c164 c165 c166 c167 c168 c169 c170 c171 c172 c173 c174 c175 c176 c177 c178 c179 c180 c181 c182 c183 c184 c185 c186 c187 c188 c189 c190 c191 c192 c193 c194 c195 c196 c197 c198 c199 c200 : Value} (w wo : World) (j kk jk j2 k1 k2 T K gD gU gQ gV cu cV P V d tq g0 r0 v1 v2 u0 u1 u2 : Nat) (L Qs : List Nat)
    (hjk : j + kk = jk) (hTK : K + kk = T) (hjK : j < K) (hkk : 2 ≤ kk) (hTb : T ≤ 5001) (hcu : T ≤ cu) (s1 : IntKind.i64.wrap ((j : Int) + (kk : Int)) = (jk : Int))
    (s3 : IntKind.i64.wrap ((jk : Int) - 2) = (j2 : Int)) (s4 : IntKind.i64.wrap ((kk : Int) - 2) = (k2 : Int)) (t1 : IntKind.i64.wrap ((kk : Int) - 1) = (k1 : Int)) (b3 : (j2 : Int) < (T : Int)) (b4 : (k2 : Int) < (kk : Int)) (hb1 : (k1 : Int) < (kk : Int))
    (hLlen : L.length = T) (hpl : ∀ x ∈ L, x < BB) (hzU : vB (L.drop (j + kk + 1)) = 0) (hP : vB (L.drop j) = P) (hVlen : (lim V).length = kk) (hQlen : Qs.length = K)
    (hdg0 : Digit (k2 + 2) P V v1 v2 u0 u1 u2) (htqe : u0 * BB + u1 = tq) (htqb : tq ≤ 999999999999999999) (hst : Guess P V v1 v2 tq u2 (P / V) g0 r0) (hg0b : g0 ≤ tq)
    (hv1b : v1 < 1000000000) (hv2b : v2 < 1000000000) (hu2b : u2 < 1000000000)
    (ga2 : wo.cell? ⟨gU, j2, none⟩ = some (.int .u64 (u2 : Int))) (gb1 : wo.cell? ⟨gV, k1, none⟩ = some (.int .u64 (v1 : Int))) (gb2 : wo.cell? ⟨gV, k2, none⟩ = some (.int .u64 (v2 : Int)))
    (hUz : OwnV wo 0 76 (.slice (some ⟨gU, 0, none⟩) T cu) (uVs L)) (hQz : OwnV wo 0 76 (.slice (some ⟨gQ, 0, none⟩) K K) (uVs Qs))
    (hVz : OwnV wo 0 76 (.slice (some ⟨gV, 0, none⟩) kk cV) (uVs (lim V))) (hDz : OwnV wo 0 76 (.slice (some ⟨gD, 0, none⟩) 1 1) (uVs [d]))
    (n1 : gQ ≠ gU) (n2 : gV ≠ gU) (n3 : gV ≠ gQ) (n4 : gD ≠ gU) (n5 : gD ≠ gQ) (hb : Below w.heap.size w wo) (hwU : w.heap.size ≤ gU) (hwQ : w.heap.size ≤ gQ)
    (hexit : ∀ (y14 y15 y16 y17 y18 y110 y111 y112 y113 y114 y115 y116 y117 y118 y119 y120 y121 y122 y123 y124 y125 y126 y127 y128 y129 y130 y131 y132 y133 y134 y135 y136 y137 y138 y139 y140 y141 y142 y143 y144 y145 y146 y147 y148 y149 y150 y151 y152 y153 y154 y155 y156 y157 y158 y159 y160 y161 y162 y163 y164 y165 y166 y167 y168 y169 y170 y171 y172 y173 y174 y175 y176 y177 y178 y179 y180 y181 y182 y183 y184 y185 y186 y187 y188 : Value) (w' : World), OwnV w' 0 76 (.slice (some ⟨gU, 0, none⟩) T cu) (uVs (splice (splice L j (List.replicate (kk + 1) 0)) j (lim (P % V)))) → OwnV w' 0 76 (.slice (some ⟨gQ, 0, none⟩) K K) (uVs (Qs.set j (P / V))) →
      OwnV w' 0 76 (.slice (some ⟨gV, 0, none⟩) kk cV) (uVs (lim V)) → OwnV w' 0 76 (.slice (some ⟨gD, 0, none⟩) 1 1) (uVs [d]) → Below w.heap.size w w' → Q .normal ⟨#[c0, c1, c2, c3, .slice (some ⟨gQ, 0, none⟩) K K, c5, c6, c7, c8, .slice (some ⟨gU, 0, none⟩) T cu, .slice (some ⟨gV, 0, none⟩) kk cV, .int .i64 (kk : Int), .int .i64 (j : Int), c13, y14, y15, y16, y17, y18, c19, c20, c21, c22, c23, c24, c25, c26, c27, c28, c29, c30, c31, c32, c33, c34, c35, c36, c37, c38, c39, c40, c41, c42, c43, c44, c45, c46, c47, c48, c49, c50, c51, c52, c53, c54, c55, c56, c57, c58, c59, c60, c61, c62, c63, c64, c65, c66, c67, c68, c69, c70, c71, c72, c73, c74, c75, c76, c77, c78, c79, c80, c81, c82, c83, c84, c85, c86, c87, c88, c89, c90, c91, c92, c93, c94, c95, c96, c97, c98, c99, c100, c101, c102, c103, c104, c105, c106, c107, c108, c109, y110, y111, y112, y113, y114, y115, y116, y117, y118, y119, y120, y121, y122, y123, y124, y125, y126, y127, y128, y129, y130, y131, y132, y133, y134, y135, y136, y137, y138, y139, y140, y141, y142, y143, y144, y145, y146, y147, y148, y149, y150, y151, y152, y153, y154, y155, y156, y157, y158, y159, y160, y161, y162, y163, y164, y165, y166, y167, y168, y169, y170, y171, y172, y173, y174, y175, y176, y177, y178, y179, y180, y181, y182, y183, y184, y185, y186, y187, y188, c189, c190, c191, c192, c193, c194, c195, c196, c197, c198, c199, c200], []⟩ w') :
    Code.wp Tryz.prog innerCode Q ⟨#[c0, c1, c2, c3, .slice (some ⟨gQ, 0, none⟩) K K, c5, c6, c7, c8, .slice (some ⟨gU, 0, none⟩) T cu, .slice (some ⟨gV, 0, none⟩) kk cV, .int .i64 (kk : Int), .int .i64 (j : Int), c13, .int .u64 (g0 : Int), .int .u64 (r0 : Int), c16, c17, c18, c19, c20, c21, c22, c23, c24, c25, c26, c27, c28, c29, c30, c31, c32, c33, c34, c35, c36, c37, c38, c39, c40, c41, c42, c43, c44, c45, c46, c47, c48, c49, c50, c51, c52, c53, c54, c55, c56, c57, c58, c59, c60, c61, c62, c63, c64, c65, c66, c67, c68, c69, c70, c71, c72, c73, c74, c75, c76, c77, c78, c79, c80, c81, c82, c83, c84, c85, c86, c87, c88, c89, c90, c91, c92, c93, c94, c95, c96, c97, c98, c99, c100, c101, c102, c103, c104, c105, c106, c107, c108, c109, c110, c111, c112, c113, c114, c115, c116, c117, c118, c119, c120, c121, c122, c123, c124, c125, c126, c127, c128, c129, c130, c131, c132, c133, c134, c135, c136, c137, c138, c139, c140, c141, c142, c143, c144, c145, c146, c147, c148, c149, c150, c151, c152, c153, c154, c155, c156, c157, c158, c159, c160, c161, c162, c163, c164, c165, c166, c167, c168, c169, c170, c171, c172, c173, c174, c175, c176, c177, c178, c179, c180, c181, c182, c183, c184, c185, c186, c187, c188, c189, c190, c191, c192, c193, c194, c195, c196, c197, c198, c199, c200], []⟩ wo := by
  have HUo := Lib.hid hUz
  have HQo := Lib.hid hQz
  have HVo := Lib.hid hVz
  have HDo := Lib.hid hDz
  have HDG := Lib.hid hdg0
  have heqT := Lib.hid htqe
  have HST := Lib.hid hst
  have HEX := Lib.hid hexit
  have HLL := Lib.hid (And.intro hLlen hpl)
  have HZP := Lib.hid (And.intro hzU hP)
  have HVQ := Lib.hid (And.intro hVlen hQlen)
  have hbws0 := Nat.le_refl wo.heap.size
  clear hUz hQz hVz hDz hdg0 htqe hst hexit hLlen hpl hzU hP hVlen hQlen
  conv => arg 2; whnf
  go_wp2
  go_loopw [14, 15] (fun g r wr => ∃ gg rr : Nat, g = .int .u64 (gg : Int) ∧ r = .int .u64 (rr : Int) ∧ Guess P V v1 v2 tq u2 (P / V) gg rr ∧ gg ≤ tq ∧ Below wo.heap.size wo wr) (fun g _ _ => (intOf g).toNat)
  case atStart => exact ⟨g0, r0, rfl, rfl, HST.out, hg0b, Below.refl _ _⟩
  case round =>
    clear HST hg0b
    obtain ⟨gg, rr, rfl, rfl, hgs, hgt, hbw⟩ := hrel
    rename_i K9 hK9
    have HK9 := Lib.hid hK9
    clear hK9
    have hbws := hbw.size
    have ga2r := cell_carry hbw ga2
    have gb1r := cell_carry hbw gb1
    have gb2r := cell_carry hbw gb2
    have hdg := HDG.out
    by_cases hBB : 1000000000 ≤ gg
    · have f1 : decide ((1000000000 : Int) ≤ (gg : Int)) = true := decide_eq_true (by omega)
      obtain ⟨hlt, heq⟩ := guess_next hdg (by rw [heqT.out]; exact hgs) (.inl hBB)
      rw [heqT.out] at heq
      obtain ⟨gn, hgn⟩ : ∃ g, gg - 1 = g := ⟨_, rfl⟩
      obtain ⟨rn, hrn⟩ : ∃ r, rr + v1 = r := ⟨_, rfl⟩
      have hrrb := hgs.r
      unfold BB at hrrb
      have hpg : 0 < gg := Nat.lt_of_le_of_lt (Nat.zero_le _) hlt
      have hgn' : (gg : Int) - 1 = (gn : Int) := by omega
      have hrn' : (rr : Int) + (v1 : Int) = (rn : Int) := by omega
      have hrnb : rn ≤ 1999999998 := by omega
      have hgnb : gn ≤ tq := by omega
      have hle : P / V ≤ gn := by
        generalize P / V = q at *
        omega
      rw [hgn, hrn] at heq
      by_cases hrB : 1000000000 ≤ rn
      · have f3 : decide ((1000000000 : Int) ≤ (rn : Int)) = true := decide_eq_true (by omega)
        obtain ⟨hG3, hG2⟩ := guess_break hdg (by rw [heqT.out]; exact heq) hrB
        have hG1 := hle
        clear hgs hlt heq hgn hrn hdg
        go_wp2_with fail
        refine wp_region_bel (by kernel_rfl) (by kernel_rfl) ?_
        repeat (go_big_quiet_step (fail))
        refine wpQuiet_nil ?_
        rintro _ ⟨z, rfl⟩
        have hzs := z.size_le
        have hbw2 : Below wo.heap.size wo z.w := hbw.trans (z.below.mono hbws)
        go_wp2_with fail
        refine HK9.out _ _ ?_
        refine divide_tail w z.w j kk jk T K gD gU gQ gV cu cV gn P V d L Qs hjk hTK hjK hkk hTb hcu s1 HLL.out.1 HLL.out.2 HZP.out.1 HZP.out.2 HVQ.out.1 HVQ.out.2 hG1 hG2 hG3 (ownV_bel HUo.out ⟨z.w, hbw2⟩) (ownV_bel HQo.out ⟨z.w, hbw2⟩) (ownV_bel HVo.out ⟨z.w, hbw2⟩) (ownV_bel HDo.out ⟨z.w, hbw2⟩) n1 n2 n3 n4 n5 (hb.trans (hbw2.mono hb.size)) hwU hwQ ?_
        intro z14 z16 z17 z18 z143 z144 z145 z146 z147 z148 z149 z150 z151 z152 z153 z154 z155 z156 z157 z158 z159 z160 z161 z162 z163 z164 z165 z166 z167 z168 z169 z170 z171 z172 z173 z174 z175 z176 z177 z178 z179 z180 z181 z182 z183 z184 z185 z186 z187 z188 w7 hU7 hQ7 hV7 hD7 hb7
        exact HEX.out _ _ _ _ _ _ _ _ _ _ _ _ _ _ _ _ _ _ _ _ _ _ _ _ _ _ _ _ _ _ _ _ _ _ _ _ _ _ _ _ _ _ _ _ _ _ _ _ _ _ _ _ _ _ _ _ _ _ _ _ _ _ _ _ _ _ _ _ _ _ _ _ _ _ _ _ _ _ _ _ _ _ _ _ _ hU7 hQ7 hV7 hD7 hb7
      · have f3 : decide ((1000000000 : Int) ≤ (rn : Int)) = false := decide_eq_false (by omega)
        have HG := Lib.hid (show Guess P V v1 v2 tq u2 (P / V) gn rn from ⟨heq, hle, by unfold BB; omega⟩)
        clear hgs hlt heq hgn hrn hdg
        go_wp2_with fail
        refine wp_region_bel (by kernel_rfl) (by kernel_rfl) ?_
        repeat (go_big_quiet_step (fail))
        refine wpQuiet_nil ?_
        rintro _ ⟨z, rfl⟩
        have hzs := z.size_le
        go_wp2
        go_roundw
        case rel => exact ⟨gn, rn, by first | rfl | (rw [hgn']), by first | rfl | (rw [hrn']), HG.out, hgnb, hbw.trans (z.below.mono hbws)⟩
        case measure => simp [intOf] <;> omega
    · have f1 : decide ((1000000000 : Int) ≤ (gg : Int)) = false := decide_eq_false (by omega)
      have hggb : gg ≤ 999999999 := by omega
      obtain ⟨p1, hp1⟩ : ∃ p, gg * v2 = p := ⟨_, rfl⟩
      have hp1' : (gg : Int) * (v2 : Int) = (p1 : Int) := by rw [← hp1]; simp
      have hp1b : p1 ≤ 999999998000000001 := by
        rw [← hp1]
        exact Nat.le_trans (Nat.mul_le_mul hggb (show v2 ≤ 999999999 by omega)) (by decide)
      obtain ⟨p2, hp2⟩ : ∃ p, rr * 1000000000 = p := ⟨_, rfl⟩
      have hrrb2 := hgs.r
      unfold BB at hrrb2
      have hp2' : (rr : Int) * 1000000000 = (p2 : Int) := by omega
      obtain ⟨p3, hp3⟩ : ∃ p, p2 + u2 = p := ⟨_, rfl⟩
      have hp3' : (p2 : Int) + (u2 : Int) = (p3 : Int) := by omega
      have hp3b : p3 ≤ 999999999999999999 := by omega
      by_cases hgt2 : p3 < p1
      · have f2 : decide ((p3 : Int) < (p1 : Int)) = true := decide_eq_true (by omega)
        obtain ⟨hlt, heq⟩ := guess_next hdg (by rw [heqT.out]; exact hgs) (.inr (by rw [show rr * BB + u2 = p3 by rw [← hp3, ← hp2], hp1]; exact hgt2))
        rw [heqT.out] at heq
        obtain ⟨gn, hgn⟩ : ∃ g, gg - 1 = g := ⟨_, rfl⟩
        obtain ⟨rn, hrn⟩ : ∃ r, rr + v1 = r := ⟨_, rfl⟩
        have hrrb := hgs.r
        unfold BB at hrrb
        have hpg : 0 < gg := Nat.lt_of_le_of_lt (Nat.zero_le _) hlt
        have hgn' : (gg : Int) - 1 = (gn : Int) := by omega
        have hrn' : (rr : Int) + (v1 : Int) = (rn : Int) := by omega
        have hrnb : rn ≤ 1999999998 := by omega
        have hgnb : gn ≤ tq := by omega
        have hle : P / V ≤ gn := by
          generalize P / V = q at *
          omega
        rw [hgn, hrn] at heq
        by_cases hrB : 1000000000 ≤ rn
        · have f3 : decide ((1000000000 : Int) ≤ (rn : Int)) = true := decide_eq_true (by omega)
          obtain ⟨hG3, hG2⟩ := guess_break hdg (by rw [heqT.out]; exact heq) hrB
          have hG1 := hle
          clear hgs hlt heq hgn hrn hdg
          go_wp2_with fail
          refine wp_region_bel (by kernel_rfl) (by kernel_rfl) ?_
          repeat (go_big_quiet_step (fail))
          refine wpQuiet_nil ?_
          rintro _ ⟨z, rfl⟩
          have hzs := z.size_le
          have hbw2 : Below wo.heap.size wo z.w := hbw.trans (z.below.mono hbws)
          go_wp2_with fail
          refine HK9.out _ _ ?_
          refine divide_tail w z.w j kk jk T K gD gU gQ gV cu cV gn P V d L Qs hjk hTK hjK hkk hTb hcu s1 HLL.out.1 HLL.out.2 HZP.out.1 HZP.out.2 HVQ.out.1 HVQ.out.2 hG1 hG2 hG3 (ownV_bel HUo.out ⟨z.w, hbw2⟩) (ownV_bel HQo.out ⟨z.w, hbw2⟩) (ownV_bel HVo.out ⟨z.w, hbw2⟩) (ownV_bel HDo.out ⟨z.w, hbw2⟩) n1 n2 n3 n4 n5 (hb.trans (hbw2.mono hb.size)) hwU hwQ ?_
          intro z14 z16 z17 z18 z143 z144 z145 z146 z147 z148 z149 z150 z151 z152 z153 z154 z155 z156 z157 z158 z159 z160 z161 z162 z163 z164 z165 z166 z167 z168 z169 z170 z171 z172 z173 z174 z175 z176 z177 z178 z179 z180 z181 z182 z183 z184 z185 z186 z187 z188 w7 hU7 hQ7 hV7 hD7 hb7
          exact HEX.out _ _ _ _ _ _ _ _ _ _ _ _ _ _ _ _ _ _ _ _ _ _ _ _ _ _ _ _ _ _ _ _ _ _ _ _ _ _ _ _ _ _ _ _ _ _ _ _ _ _ _ _ _ _ _ _ _ _ _ _ _ _ _ _ _ _ _ _ _ _ _ _ _ _ _ _ _ _ _ _ _ _ _ _ _ hU7 hQ7 hV7 hD7 hb7
        · have f3 : decide ((1000000000 : Int) ≤ (rn : Int)) = false := decide_eq_false (by omega)
          have HG := Lib.hid (show Guess P V v1 v2 tq u2 (P / V) gn rn from ⟨heq, hle, by unfold BB; omega⟩)
          clear hgs hlt heq hgn hrn hdg
          go_wp2_with fail
          refine wp_region_bel (by kernel_rfl) (by kernel_rfl) ?_
          repeat (go_big_quiet_step (fail))
          refine wpQuiet_nil ?_
          rintro _ ⟨z, rfl⟩
          have hzs := z.size_le
          go_wp2
          go_roundw
          case rel => exact ⟨gn, rn, by first | rfl | (rw [hgn']), by first | rfl | (rw [hrn']), HG.out, hgnb, hbw.trans (z.below.mono hbws)⟩
          case measure => simp [intOf] <;> omega
      · have f2 : decide ((p3 : Int) < (p1 : Int)) = false := decide_eq_false (by omega)
        have hG2 := guess_done hdg (by rw [heqT.out]; exact hgs.eq) (show gg < BB by unfold BB; omega) (by rw [show rr * BB + u2 = p3 by rw [← hp3, ← hp2], hp1]; omega)
        have hG1 := hgs.ge
        have hG3 : gg < BB := by unfold BB; omega
        clear hgs hdg
        go_wp2_with fail
        refine wp_region_bel (by kernel_rfl) (by kernel_rfl) ?_
        repeat (go_big_quiet_step (fail))
        refine wpQuiet_nil ?_
        rintro _ ⟨z, rfl⟩
        have hzs := z.size_le
        have hbw2 : Below wo.heap.size wo z.w := hbw.trans (z.below.mono hbws)
        go_wp2_with fail
        refine HK9.out _ _ ?_
        refine divide_tail w z.w j kk jk T K gD gU gQ gV cu cV gg P V d L Qs hjk hTK hjK hkk hTb hcu s1 HLL.out.1 HLL.out.2 HZP.out.1 HZP.out.2 HVQ.out.1 HVQ.out.2 hG1 hG2 hG3 (ownV_bel HUo.out ⟨z.w, hbw2⟩) (ownV_bel HQo.out ⟨z.w, hbw2⟩) (ownV_bel HVo.out ⟨z.w, hbw2⟩) (ownV_bel HDo.out ⟨z.w, hbw2⟩) n1 n2 n3 n4 n5 (hb.trans (hbw2.mono hb.size)) hwU hwQ ?_
        intro z14 z16 z17 z18 z143 z144 z145 z146 z147 z148 z149 z150 z151 z152 z153 z154 z155 z156 z157 z158 z159 z160 z161 z162 z163 z164 z165 z166 z167 z168 z169 z170 z171 z172 z173 z174 z175 z176 z177 z178 z179 z180 z181 z182 z183 z184 z185 z186 z187 z188 w7 hU7 hQ7 hV7 hD7 hb7
        exact HEX.out _ _ _ _ _ _ _ _ _ _ _ _ _ _ _ _ _ _ _ _ _ _ _ _ _ _ _ _ _ _ _ _ _ _ _ _ _ _ _ _ _ _ _ _ _ _ _ _ _ _ _ _ _ _ _ _ _ _ _ _ _ _ _ _ _ _ _ _ _ _ _ _ _ _ _ _ _ _ _ _ _ _ _ _ _ hU7 hQ7 hV7 hD7 hb7
end Go.Proofs.YtehgeoipbgpocaaGreatDoor.I
