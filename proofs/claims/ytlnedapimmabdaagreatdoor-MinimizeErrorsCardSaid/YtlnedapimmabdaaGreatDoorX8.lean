/- The builder's add: the place of a diagram. -/
import Derived.Test.YtlnedapimmabdaaGreatDoorXB
namespace Go.Proofs.YtlnedapimmabdaaGreatDoor
set_option linter.unusedVariables false
set_option linter.unusedSimpArgs false
open Go.RowKit Go.Maps
attribute [local go_sem low] Bel.cell Bel.frozen alloc_cell alloc_frozen
attribute [local go_sem] calmOp chainOp yieldsC grows
variable {rk : Nat → Nat}

set_option maxRecDepth 100000 in
set_option maxHeartbeats 6400000 in
theorem add_any {w : World} {b0 B mp md base : Nat} {v : Value} {N : List (Nat × Nat × Nat)} {D : Nat} (h : Bld rk w b0 B mp md base v N D) {M : List (Nat × Nat × Nat)} {r : Nat} (hM : Good M) (hmv : ∀ x ∈ M, VarOk rk x.1) (hr : r < M.length + 2) (ad : Option Addr) (cap : Nat) (hi : InD b0 w ad (M.map z3)) (hl : N.length + M.length ≤ 1000000) :
    Calls Tryz.prog 90 #[.pointer (some ⟨B, 0, none⟩), .agg #[.slice ad M.length cap, .int .i64 (r : Int)]] w (RetB rk b0 B mp md base v N D w M.length 0 (fun ρ => val3 ρ M r)) := by
  obtain ⟨i0, hi0, hz0, hz1, hz2⟩ := info_parts Tryz.infoI
  have hd := h.dist
  have hdb : b0 ≤ w.heap.size := by omega
  have hbs : base ≤ w.heap.size := hd.2.2.2.2.2.2.2.2.2
  have HB := Lib.hid h
  have HM := Lib.hid hM
  have HMV := Lib.hid hmv
  clear h hM hmv
  go_enter Tryz.func90, Tryz.ntmps90
  go_wp2
  go_loopw [5, 12] (fun av i wr => ∃ (k : Nat) (ats : List Nat) (v' : Value) (R : List (Nat × Nat × Nat)), i = .int .i64 (k : Int) ∧ k ≤ M.length ∧ AtOk (N ++ R) M ats k ∧ OwnN wr (w.heap.size + 1) av ats ∧ Bld rk wr b0 B mp md base v' (N ++ R) D ∧ Kb b0 B mp md v w v' wr ∧ R.length ≤ k ∧ (∀ g, av.ownBlock = some g → v'.ownBlock ≠ some g) ∧ wr.heap[w.heap.size]? = some (.cells #[.slice ad M.length cap, .int .i64 (r : Int)] 63 (0, 0)) ∧ w.heap.size + 2 ≤ wr.heap.size ∧ v'.ownBlock ≠ some w.heap.size) (fun _ i _ => M.length - (intOf i).toNat)
  case atStart =>
    have hg1 := World.alloc_heap_new (w.alloc (.cells #[.slice ad M.length cap, .int .i64 (r : Int)] 63 (0, 0))) (.cells #[.int .i64 0, .int .i64 1] 3 (0, 0))
    rw [World.size_alloc] at hg1
    refine ⟨0, [0, 1], v, [], rfl, by omega, by rw [List.append_nil]; exact atOk_nil N M, ownN_two (a := 0) (b := 1) hg1 (by simp), by rw [List.append_nil]; exact HB.out.bel (by (repeat' (first | (with_reducible first | apply Zl1 | apply Zl2 | apply Zl3 | apply Zl4 | apply Zl5 | apply Zl6 | apply Zl7 | apply Zl8 | apply Zl9 | apply Zla | apply Zlb | apply Zlc) | (dsimp only; with_reducible first | apply Zl8 | apply Zl2 | apply Zld) | with_reducible assumption | omega | (dsimp only; omega)))), (Kb.refl _ _ _ _ _ _).of_below (by (repeat' (first | (with_reducible first | apply Zl1 | apply Zl2 | apply Zl3 | apply Zl4 | apply Zl5 | apply Zl6 | apply Zl7 | apply Zl8 | apply Zl9 | apply Zla | apply Zlb | apply Zlc) | (dsimp only; with_reducible first | apply Zl8 | apply Zl2 | apply Zld) | with_reducible assumption | omega | (dsimp only; omega)))) hdb, Nat.zero_le _, fun g hg e => ?_, ?_, by simp, fun e => ?_⟩
    · have := ownD_lt HB.out.own e
      injection hg with hg
      dsimp only at hg
      omega
    · exact obj_alloc _ (World.alloc_heap_new _ _)
    · have := ownD_lt HB.out.own e
      omega
  case round =>
    obtain ⟨k, ats, v', R, rfl, hk, hat, how, hbl, hkb, hrl, hne, hbox, hsz, hnw⟩ := hrel
    have hal := hat.1
    have hwb : b0 ≤ wr.heap.size := by omega
    have hnr : (N ++ R).length = N.length + R.length := List.length_append
    obtain ⟨g0, ca, rfl, hg0, hgs, hcell⟩ := ownN_val how (by omega)
    rw [hal] at how hne ⊢
    have HAT := Lib.hid hat
    have HOW := Lib.hid how
    have HBL := Lib.hid hbl
    have HKB := Lib.hid hkb
    have HBX := Lib.hid hbox
    have HNE := Lib.hid (hne g0 rfl)
    have HCE := Lib.hid hcell
    have HNW := Lib.hid hnw
    have hmd := hbl.dist
    clear how hbl hkb hne hcell hnw
    rcases Nat.lt_or_ge k M.length with hkl | hkl
    · obtain ⟨x, hx⟩ : ∃ x, M[k]? = some x := ⟨_, List.getElem?_eq_getElem hkl⟩
      obtain ⟨gd, off, hadd, hgd, hcs⟩ := (hi.of HKB.out.below) (by rw [List.length_map]; omega)
      cases hadd
      obtain ⟨x0, x1, x2⟩ := hcs k (z3 x) (by rw [List.getElem?_map, hx]; rfl)
      obtain ⟨a1, a2, a3, a4, a5, a6, _⟩ := HM.out k x hx
      have hx6 := HMV.out x (List.mem_of_getElem? hx)
      obtain ⟨n, hn, hsn⟩ := hat.get a2
      obtain ⟨y, hy, hsy⟩ := hat.get a3
      have q1 := HCE.out _ _ hn
      have q2 := HCE.out _ _ hy
      have hnl := hsn.1
      have hyl := hsy.1
      have hvn := same3_lt HBL.out.good HM.out hsn a5 a1
      have hvy := same3_lt HBL.out.good HM.out hsy a6 a1
      have HX := Lib.hid (And.intro hx (And.intro hsn hsy))
      obtain ⟨xa, xn, xy⟩ := x
      dsimp only [z3] at x0 x1 x2 a1 a2 a3 a4 a5 a6 hx6 q1 q2 hvn hvy
      have HN := Lib.hid (fun w' (h' : Bld rk w' b0 B mp md base v' (N ++ R) D) => node_any h' xa n y hx6 hnl hyl (fun _ => ⟨hvn, hvy⟩) (by omega))
      have f0 : decide ((k : Int) < (M.length : Int)) = true := decide_eq_true (by omega)
      have hib : (0 ≤ (k : Int) ∧ (k : Int) < (M.length : Int)) := ⟨by omega, by omega⟩
      have hin : (xn : Int) < (k : Int) + 2 := by omega
      have hiy : (xy : Int) < (k : Int) + 2 := by omega
      have HAT := Lib.hid hat
      clear hcs hn hy hsn hsy hx a4 a5 a6 hvn hvy hat hnl hyl hbox
      go_wp2_with fail
      have hx0 := World.alloc_heap_new wr (.cells #[.int .i64 (xa : Int), .int .i64 (xn : Int), .int .i64 (xy : Int)] 96 (0, 0))
      have hbZ : Below wr.heap.size wr (wr.alloc (.cells #[.int .i64 (xa : Int), .int .i64 (xn : Int), .int .i64 (xy : Int)] 96 (0, 0))) := by (repeat' (first | (with_reducible first | apply Zl1 | apply Zl2 | apply Zl3 | apply Zl4 | apply Zl5 | apply Zl6 | apply Zl7 | apply Zl8 | apply Zl9 | apply Zla | apply Zlb | apply Zlc) | (dsimp only; with_reducible first | apply Zl8 | apply Zl2 | apply Zld) | with_reducible assumption | omega | (dsimp only; omega)))
      have q1' := cell_in hbZ q1
      have q2' := cell_in hbZ q2
      have hzs : (wr.alloc (.cells #[.int .i64 (xa : Int), .int .i64 (xn : Int), .int .i64 (xy : Int)] 96 (0, 0))).heap.size = wr.heap.size + 1 := World.size_alloc _ _
      obtain ⟨XB, hXB⟩ : ∃ XB, wr.heap.size = XB := ⟨_, rfl⟩
      obtain ⟨Z, hZ⟩ : ∃ Z, wr.alloc (.cells #[.int .i64 (xa : Int), .int .i64 (xn : Int), .int .i64 (xy : Int)] 96 (0, 0)) = Z := ⟨_, rfl⟩
      rw [hXB] at hx0 hgs
      rw [hZ] at hx0 hbZ q1' q2' hzs ⊢
      rw [hXB] at hzs ⊢
      obtain ⟨t0, t1, t2⟩ : Z.cell? ⟨XB, 0, none⟩ = some (.int .i64 (xa : Int)) ∧ Z.cell? ⟨XB, 1, none⟩ = some (.int .i64 (xn : Int)) ∧ Z.cell? ⟨XB, 2, none⟩ = some (.int .i64 (xy : Int)) := by
        refine ⟨?_, ?_, ?_⟩ <;> simp [World.cell?, hx0]
      have HBZ := Lib.hid (HBL.out.bel hbZ)
      have HKZ := Lib.hid (HKB.out.of_below hbZ hdb)
      have HOZ := Lib.hid (ownN_row HOW.out fun c o ho _ => obj_in hbZ ho)
      have HXZ := Lib.hid (obj_in hbZ HBX.out)
      have HXBE := Lib.hid hXB
      have hwl : w.heap.size < g0 := by omega
      clear q1 q2 hx0 hbZ hZ HBL HKB HOW HBX hXB x0 x1 x2 HCE hi hsz hwb hgd
      go_region_law (first | (go_simp; refine (HN.out _ (HBZ.out.bel (by (repeat' (first | (with_reducible first | apply Zl1 | apply Zl2 | apply Zl3 | apply Zl4 | apply Zl5 | apply Zl6 | apply Zl7 | apply Zl8 | apply Zl9 | apply Zla | apply Zlb | apply Zlc) | (dsimp only; with_reducible first | apply Zl8 | apply Zl2 | apply Zld) | with_reducible assumption | omega | (dsimp only; omega)))))).mono ?_; rintro _ W1 hR1; obtain ⟨p, v1, R1, rfl, hB1, hK1, hR1, hp1, hv1⟩ := RetB.ahead (w := Z) (by (repeat' (first | (with_reducible first | apply Zl1 | apply Zl2 | apply Zl3 | apply Zl4 | apply Zl5 | apply Zl6 | apply Zl7 | apply Zl8 | apply Zl9 | apply Zla | apply Zlb | apply Zlc) | (dsimp only; with_reducible first | apply Zl8 | apply Zl2 | apply Zld) | with_reducible assumption | omega | (dsimp only; omega)))) (by omega) hR1; dsimp only; have hW1s := hK1.below.size; have HO1 := Lib.hid (ownN_len hal (ownN_row HOZ.out fun c o ho hc => hK1.keep c o ho (by injection hc with hc; dsimp only at hc; omega) (by injection hc with hc; dsimp only at hc; omega) (by injection hc with hc; dsimp only at hc; omega) (by injection hc with hc; dsimp only at hc; rw [← hc]; exact HNE.out)))) | (refine step_append_lies _ (by rfl) _ _ _ (by rfl) (w.heap.size + 1) 3 i0 (.int .i64 0) 1 8 Tryz.underlying23 hi0 hz0 hz1 hz2 rfl (by decide) _ (k + 2) (natsV ats) (by rfl) (World.ownsRow.alloc (HO1.out) _) ⟨W1.heap.size, 0, none⟩ 1 1 [.int .i64 (p : Int)] (by rfl) rfl (cell_one_new _ _ _) (by simp [Value.oneCell']) (by decide) (by unfold maxLen; omega) (by omega) (by simp; omega) _ rfl ?_; intro g1 cap1 w1 hown1 hgrow1 hgv1 hgl1))
      all_goals
        have hgz : ∃ Y0 : Bel W1, Y0.w.grownBy w1 (some g0) ∧ (g0 = g1 ∨ g1 = Y0.w.heap.size) := ⟨⟨_, by first | exact (Below.refl _ _).alloc (Nat.le_refl _) _ | exact ((Below.refl _ _).alloc (Nat.le_refl _) _).drew⟩, hgrow1, by first | exact hgv1.imp (fun h => by injection h) id | (rcases hgv1 with h | h; exact .inl (by injection h); exact .inr (by rw [h]; simp))⟩
        obtain ⟨Y0, hg0, hgv0⟩ := hgz
        have hYs := Y0.below.size
        have hws := hg0.size
        have hv1g : v1.ownBlock ≠ some g0 := fun e => by
          rcases hK1.own _ e with h | h
          · exact HNE.out h
          · omega
        have hv1w : v1.ownBlock ≠ some w.heap.size := fun e => by
          rcases hK1.own _ e with h | h
          · exact HNW.out h
          · omega
        have HBF := Lib.hid ((hB1.bel Y0.below).row hg0 (by omega) hv1g)
        have HKF := Lib.hid (((HKZ.out.trans hK1).of_below Y0.below hdb).row hg0 (by omega) hdb)
        have hxk := hK1.keep _ _ HXZ.out (by omega) (by omega) (by omega) HNW.out
        have HXF := Lib.hid ((hg0.block w.heap.size (by omega) (fun e => by injection e; omega)).trans (obj_in Y0.below hxk))
        have HS3 := Lib.hid (show Same3 (N ++ R ++ R1) M p (k + 2) from add_step HM.out HX.out.1 HX.out.2.1 HX.out.2.2 hp1 hv1)
        have HAF := Lib.hid (HAT.out.snoc R1 HS3.out)
        have HNF := Lib.hid (show ∀ g, (Value.slice (some ⟨g1, 0, none⟩) (k + 2 + 1) cap1).ownBlock = some g → v1.ownBlock ≠ some g from fun g hg e => by
          have : g1 = g := by injection hg
          subst this
          rcases hgv0 with h | h
          · exact hv1g (by rw [h]; exact e)
          · have := ownD_lt hB1.own e
            omega)
        have HOF := Lib.hid (show OwnN w1 (w.heap.size + 1) (.slice (some ⟨g1, 0, none⟩) (k + 2 + 1) cap1) (ats ++ [p]) from by
          show w1.ownsRow (w.heap.size + 1) 3 1 _ (ats ++ [p]).length (natsV (ats ++ [p]))
          rw [natsV_app, List.length_append, hal]
          exact hown1)
        have HV1 := Lib.hid hv1w
        have hsF : w.heap.size + 2 ≤ w1.heap.size := by omega
        clear hg0 hgv0 hv1g hv1w hxk hB1 hK1 hv1 hgrow1 hgv1 hown1 HO1 hYs hws Y0 q1' q2' t0 t1 t2 HBZ HKZ HOZ HXZ HN HX HAT HNE HNW hgl1
        go_wp2
        go_roundw
        case rel =>
          exact ⟨k + 1, ats ++ [p], v1, R ++ R1, by go_num, by omega, by rw [← List.append_assoc]; exact HAF.out, HOF.out, by rw [← List.append_assoc]; exact HBF.out, HKF.out, by rw [List.length_append]; omega, HNF.out, HXF.out, hsF, HV1.out⟩
        case measure => simp [intOf]; omega
    · have hke : k = M.length := by omega
      subst hke
      have f0 : decide ((M.length : Int) < (M.length : Int)) = false := decide_eq_false (by omega)
      obtain ⟨p, hp, hsp⟩ := hat.get hr
      have q1 := HCE.out _ _ hp
      have hpl := hsp.1
      have HSP := Lib.hid hsp
      have hir : (0 ≤ (r : Int) ∧ (r : Int) < ((M.length + 2 : Nat) : Int)) := ⟨by omega, by omega⟩
      obtain ⟨b1, b2⟩ : wr.cell? ⟨w.heap.size, 0, none⟩ = some (.slice ad M.length cap) ∧ wr.cell? ⟨w.heap.size, 1, none⟩ = some (.int .i64 (r : Int)) := by
        refine ⟨?_, ?_⟩ <;> simp [World.cell?, hbox]
      clear hat hp hsp hbox
      go_wp2
      exact bodyPost_ret (v := .int .i64 (p : Int)) (by simp [results, Tryz.results90, go_sem]) rfl ⟨p, v', R, rfl, HBL.out, HKB.out, by omega, hpl, HSP.out.2.2⟩
end Go.Proofs.YtlnedapimmabdaaGreatDoor
