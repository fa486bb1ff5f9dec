/- The reader of formulas: the inputs of a join, if there are some (under way). -/
import Derived.Test.YtkbellmhanpocaaGreatDoorI5
namespace Go.Proofs.YtkbellmhanpocaaGreatDoor
set_option linter.unusedVariables false
set_option linter.unusedSimpArgs false
open Go.RowKit Go.Shelf F
attribute [local go_sem low] Bel.cell Bel.frozen alloc_cell alloc_frozen

theorem RK.grow {b n : Nat} {w W W' : World} (h : RK b w W) (hb : Below n W W') (hn : w.heap.size ≤ n) (hbn : b ≤ n) : RK b w W' :=
  ⟨h.1.trans (hb.mono hbn), fun k o hk hne => obj_below hb (by have := (Array.getElem?_eq_some_iff.1 hk).1; omega) (h.2 k o hk hne)⟩
theorem rk_grown {b : Nat} {w w' : World} (h : RK b w w') : w.grownBy w' (some b) :=
  ⟨h.1.os, h.1.tape, h.1.output, h.1.size, fun k hk hne => by
    obtain ⟨o, ho⟩ : ∃ o, w.heap[k]? = some o := ⟨_, Array.getElem?_eq_getElem hk⟩
    rw [ho]
    exact h.2 k o ho (fun e => hne (by rw [e]))⟩
theorem ownF_rk {b : Nat} {w w' : World} {base : Nat} {e : TypeId} {v : Value} {l : List F} (h : OwnF w base e v l) (hb : b < base) (hk : RK b w w') : OwnF w' base e v l := by
  have hob := fun c => ownF_block (b := c) h
  obtain ⟨us, h1, h2, h3⟩ := h
  refine ⟨us, h1, World.ownsRow.kept h2 (rk_grown hk) (.inr (fun hk => by have := hob b hk; omega)), fun j t ad cap hj => (h3 j t ad cap hj).move (fun c off u hc hu => ?_) (fun _ _ h => h)⟩
  have hlt := World.block_lt_of_cell? w _ hu
  rw [World.cell?_of_block ((rk_grown hk).block c hlt (fun e => by injection e with e; have := hc.1; omega))]
  exact hu
set_option maxRecDepth 100000 in
set_option maxHeartbeats 6400000 in
theorem list_some (b : Nat) (k0 : Int) (l : List F) (p r : List UInt8) (w : World) (hl : l ≠ []) (hok : okL l) (hlen : l.length ≤ 1000000) (hf : ReadsF b l) (hS : (p ++ (40 :: (txtL l ++ (41 :: r)))).length ≤ 1000000) (h : RdAt w b (p ++ (40 :: (txtL l ++ (41 :: r)))) p.length) :
    Calls Tryz.prog 61 #[.pointer (some ⟨b, 0, none⟩), .agg #[.int .i64 k0, .int .i64 0, .slice none 0 0]] w (RdRet b (p ++ (40 :: (txtL l ++ (41 :: r)))) (p.length + (txtL l).length + 2) (nd k0 0 l) w) := by
  obtain ⟨i0, hi0, hz0, hz1, hz2⟩ := info_parts Tryz.infoF
  have hbw := h.lt
  have hpl : p.length + (txtL l).length + 2 ≤ 1000000 := by simp only [List.length_append, List.length_cons] at hS; omega
  have hb0 := byteAt_app p (40 :: (txtL l ++ (41 :: r))) 0
  rw [show byteAt (40 :: (txtL l ++ (41 :: r))) 0 = 40 from rfl, Nat.add_zero] at hb0
  have hb1 : ∃ c, byteAt (p ++ (40 :: (txtL l ++ (41 :: r)))) (p.length + 1) = c ∧ c.toNat ≠ 41 := by
    rw [byteAt_app p (40 :: (txtL l ++ (41 :: r))) 1]
    cases l with
    | nil => exact absurd rfl hl
    | cons t q =>
      obtain ⟨c, hc, hne⟩ := txt_byte hok.1 (txtR q ++ (41 :: r))
      refine ⟨c, ?_, hne⟩
      rw [txtL, List.append_assoc]
      exact hc
  have HSEG := Lib.hid (fun k u (hu : l[k]? = some u) => seg_at (p := p) (r := r) hu)
  obtain ⟨S, hSe⟩ : ∃ S, p ++ (40 :: (txtL l ++ (41 :: r))) = S := ⟨_, rfl⟩
  rw [hSe] at h hS hb0 hb1 HSEG ⊢
  clear hSe
  obtain ⟨c, hb1, hc41⟩ := hb1
  have hcf : ((c.toNat : Int) == 41) = false := beq_eq_false_iff_ne.2 (by omega)
  have HR := Lib.hid h
  have HN0 := Lib.hid (fun w' (h : RdAt w' b S p.length) => next_any b S p.length w' h hS (by omega))
  have HN1 := Lib.hid (fun w' (h : RdAt w' b S (p.length + 1)) => next_any b S (p.length + 1) w' h hS (by omega))
  rw [hb0, show ((40 : UInt8).toNat : Int) = 40 from rfl] at HN0
  rw [hb1] at HN1
  clear h hb0 hb1
  go_enter Tryz.func61, Tryz.ntmps61
  go_wp2_with fail
  refine (HN0.out _ (HR.out.of (by (repeat' (first | (with_reducible exact Below.refl _ _) | (with_reducible exact Nat.le_refl _) | (with_reducible refine Below.bel ?_ ?_) | (with_reducible refine Below.alloc ?_ ?_ _) | (with_reducible refine Below.drew ?_) | (with_reducible refine Below.drawsN ?_ _) | (with_reducible refine Below.setCell ?_ ?_ _) | (with_reducible refine le_bel ?_) | (with_reducible refine le_alloc ?_) | (with_reducible refine le_setCell ?_) | (with_reducible refine le_drew ?_) | (with_reducible refine le_drawsN ?_) | (dsimp only; with_reducible refine le_bel ?_) | (dsimp only; with_reducible refine Nat.le_refl _) | (dsimp only; with_reducible refine le_bel_add ?_) | (with_reducible assumption) | omega | (dsimp only; omega)))))).mono ?_
  rintro _ _ ⟨rfl, y1, rfl⟩
  have hs1 := y1.size_le
  simp at hs1
  have hr1 := HR.out.of (by (repeat' (first | (with_reducible exact Below.refl _ _) | (with_reducible exact Nat.le_refl _) | (with_reducible refine Below.bel ?_ ?_) | (with_reducible refine Below.alloc ?_ ?_ _) | (with_reducible refine Below.drew ?_) | (with_reducible refine Below.drawsN ?_ _) | (with_reducible refine Below.setCell ?_ ?_ _) | (with_reducible refine le_bel ?_) | (with_reducible refine le_alloc ?_) | (with_reducible refine le_setCell ?_) | (with_reducible refine le_drew ?_) | (with_reducible refine le_drawsN ?_) | (dsimp only; with_reducible refine le_bel ?_) | (dsimp only; with_reducible refine Nat.le_refl _) | (dsimp only; with_reducible refine le_bel_add ?_) | (with_reducible assumption) | omega | (dsimp only; omega))) : Below w.heap.size w y1.w)
  obtain ⟨g0, g1, g2, g3⟩ := box2 hr1
  have hm := hr1.move (p.length + 1)
  rw [show ((p.length + 1 : Nat) : Int) = (p.length : Int) + 1 by omega] at hm
  have HM := Lib.hid hm
  have hO0 := obj_ne (c := b) (i := 1) (.int .i64 ((p.length : Int) + 1)) (by omega) (obj_bel y1 (heap2_0 w (.cells #[.int .i64 k0, .int .i64 0, .slice none 0 0] 26) (.cells #[.int .i64 0, .int .i64 0, .slice none 0 0] 26)))
  have hO1 := obj_ne (c := b) (i := 1) (.int .i64 ((p.length : Int) + 1)) (by omega) (obj_bel y1 (heap2_1 w (.cells #[.int .i64 k0, .int .i64 0, .slice none 0 0] 26) (.cells #[.int .i64 0, .int .i64 0, .slice none 0 0] 26)))
  have HO := Lib.hid (And.intro hO0 hO1)
  clear hr1 hm hO0 hO1
  dsimp only
  go_wp2_with fail
  refine (HN1.out _ HM.out).mono ?_
  rintro _ _ ⟨rfl, y2, rfl⟩
  have hrk : RK b w y2.w := ((RK.bel (by (repeat' (first | (with_reducible exact Below.refl _ _) | (with_reducible exact Nat.le_refl _) | (with_reducible refine Below.bel ?_ ?_) | (with_reducible refine Below.alloc ?_ ?_ _) | (with_reducible refine Below.drew ?_) | (with_reducible refine Below.drawsN ?_ _) | (with_reducible refine Below.setCell ?_ ?_ _) | (with_reducible refine le_bel ?_) | (with_reducible refine le_alloc ?_) | (with_reducible refine le_setCell ?_) | (with_reducible refine le_drew ?_) | (with_reducible refine le_drawsN ?_) | (dsimp only; with_reducible refine le_bel ?_) | (dsimp only; with_reducible refine Nat.le_refl _) | (dsimp only; with_reducible refine le_bel_add ?_) | (with_reducible assumption) | omega | (dsimp only; omega))) : Below w.heap.size w y1.w) (by omega)).trans (RK.set _)).trans (RK.bel y2.below (by simp; omega))
  have HK := Lib.hid hrk
  have HR2 := Lib.hid (HM.out.of y2.below)
  have HO2 := Lib.hid (And.intro (obj_bel y2 HO.out.1) (obj_bel y2 HO.out.2))
  clear hrk
  dsimp only
  go_wp2
  go_loopw [31] (fun _ wr => ∃ (k : Nat) (v : Value), k < l.length ∧ OwnF wr (w.heap.size + 2) 26 v (l.take k) ∧ wr.heap[w.heap.size]? = some (.cells #[.int .i64 k0, .int .i64 0, v] 26 (0, 0)) ∧
    wr.heap[w.heap.size + 1]? = some (.cells #[.int .i64 0, .int .i64 0, .slice none 0 0] 26 (0, 0)) ∧ RdAt wr b S (p.length + posL l k) ∧ RK b w wr ∧ w.heap.size + 2 ≤ wr.heap.size) (fun _ wr => S.length - rdAt b wr)
  case atStart => exact ⟨0, .slice none 0 0, List.length_pos_iff.2 hl, ownF_nil _ _ _, HO2.out.1, HO2.out.2, by rw [posL_zero]; exact HR2.out, HK.out, by have := y2.size_le; simp at this; omega⟩
  case round =>
    obtain ⟨k, v, hk, hown, hbox, hres, hrd, hrk, hsz⟩ := hrel
    obtain ⟨va, vc, rfl⟩ := ownF_val hown
    have htk : (l.take k).length = k := by rw [List.length_take]; omega
    rw [htk] at hown hbox
    obtain ⟨u, hu⟩ := some_at hk
    obtain ⟨p', r', hSe, hpl', hst, hby⟩ := HSEG.out k u hu
    have hmem := List.mem_of_getElem? hu
    have hcall := fun w' (h : RdAt w' b S (p.length + posL l k)) => hf u hmem p' r' w' hst (by rw [← hSe]; exact hS) (by rw [← hSe, hpl']; exact h)
    rw [← hSe] at hcall
    have HC := Lib.hid hcall
    have HPL := Lib.hid hpl'
    rw [← hpl'] at HC hrd
    clear hpl'
    have HRD := Lib.hid hrd
    have HB := Lib.hid (And.intro hown (And.intro hbox (And.intro hres hrk)))
    clear hcall hrd hown hbox hres hrk
    go_wp2_with fail
    refine (HC.out _ HRD.out).mono ?_
    rintro _ w2 ⟨v2, rfl, hfv, hrd2, hrk2⟩
    obtain ⟨ad5, cap5, rfl, hi5⟩ := hfv
    have hs2 := hrk2.1.size
    have hwr := HRD.out.lt
    have HX := Lib.hid (And.intro hi5 (And.intro hrd2 hrk2))
    have HBX := Lib.hid (hrk2.2 _ _ HB.out.2.1 (by omega))
    have HRS := Lib.hid (hrk2.2 _ _ HB.out.2.2.1 (by omega))
    have HO := Lib.hid (ownF_rk HB.out.1 (by omega) hrk2)
    obtain ⟨d0, d1, d2⟩ := box3 HBX.out
    obtain ⟨_, _, fz⟩ := box3f HBX.out
    have HZ := Lib.hid (show Below w2.heap.size w2 ((w2.alloc (.cells #[.int .i64 u.k, .int .i64 u.a, .slice ad5 u.l.length cap5] 26)).alloc (.cells #[.int .i64 u.k, .int .i64 u.a, .slice ad5 u.l.length cap5] 26)) by (repeat' (first | (with_reducible exact Below.refl _ _) | (with_reducible exact Nat.le_refl _) | (with_reducible refine Below.bel ?_ ?_) | (with_reducible refine Below.alloc ?_ ?_ _) | (with_reducible refine Below.drew ?_) | (with_reducible refine Below.drawsN ?_ _) | (with_reducible refine Below.setCell ?_ ?_ _) | (with_reducible refine le_bel ?_) | (with_reducible refine le_alloc ?_) | (with_reducible refine le_setCell ?_) | (with_reducible refine le_drew ?_) | (with_reducible refine le_drawsN ?_) | (dsimp only; with_reducible refine le_bel ?_) | (dsimp only; with_reducible refine Nat.le_refl _) | (dsimp only; with_reducible refine le_bel_add ?_) | (with_reducible assumption) | omega | (dsimp only; omega))))
    have HSRC := Lib.hid (heap2_1 w2 (.cells #[.int .i64 u.k, .int .i64 u.a, .slice ad5 u.l.length cap5] 26) (.cells #[.int .i64 u.k, .int .i64 u.a, .slice ad5 u.l.length cap5] 26))
    have HOz := Lib.hid (ownF_bel HO.out ⟨_, HZ.out⟩)
    have HCz := Lib.hid ((HX.out.1.of HZ.out).imp (Q := fun c => w.heap.size + 2 ≤ c ∧ (Value.slice va k vc).ownBlock ≠ some c) fun c _ h => ⟨by omega, ownF_avoid HB.out.1 h⟩)
    clear hi5 hrd2 hrk2
    dsimp only
    go_wp2_with (at_builtin; refine wpList_appF rfl _ _ 24 26 rfl i0 Tryz.underlying24 hi0 hz0 hz1 hz2 _ (w.heap.size + 2) _ (l.take k) u ad5 cap5 (w2.heap.size + 1) rfl HOz.out HCz.out rfl HSRC.out (by rw [htk]; omega) (by simp; omega) ?_; intro g' c' w3 hof hbw3; have hB3 := obj_below hbw3 (by omega) (obj_bel ⟨_, HZ.out⟩ HBX.out); have HB3 := Lib.hid hB3; obtain ⟨m0, m1, m2⟩ := box3 hB3; obtain ⟨_, _, mf⟩ := box3f hB3; have hs3 := hbw3.size; clear hB3; rw [htk] at hof ⊢)
    have hnx : byteAt S (p'.length + (txt u).length) = (if k + 1 = l.length then 41 else 32) := by rw [hSe, byteAt_end]; exact hby
    have hat : p'.length + (txt u).length ≤ 1000000 := by rw [hSe] at hS; simp only [List.length_append] at hS; omega
    have hrd4 : RdAt (w3.setCell ⟨w.heap.size, 2, none⟩ (.slice (some ⟨g', 0, none⟩) (k + 1) c')) b S (p'.length + (txt u).length) := obj_ne _ (by omega) (obj_below hbw3 (by omega) (obj_bel ⟨_, HZ.out⟩ HX.out.2.1))
    have HNX := Lib.hid (next_any b S (p'.length + (txt u).length) _ hrd4 hS hat)
    rw [hnx] at HNX
    have HRD4 := Lib.hid hrd4
    have hrk4 : RK b w (w3.setCell ⟨w.heap.size, 2, none⟩ (.slice (some ⟨g', 0, none⟩) (k + 1) c')) :=
      RK.setNew (RK.grow ((HB.out.2.2.2.trans HX.out.2.2).trans (RK.bel HZ.out (by omega))) hbw3 (by omega) (by omega)) (Nat.le_refl _) (by omega) _
    have HRK4 := Lib.hid hrk4
    have HOF := Lib.hid (ownF_set (b := w.heap.size) (i := 2) hof (by omega) (.slice (some ⟨g', 0, none⟩) (k + 1) c'))
    have HB4 := Lib.hid (obj_set (i := 2) (.slice (some ⟨g', 0, none⟩) (k + 1) c') HB3.out)
    have HR4 := Lib.hid (obj_ne (c := w.heap.size) (i := 2) (.slice (some ⟨g', 0, none⟩) (k + 1) c') (by omega) (obj_below hbw3 (by omega) (obj_bel ⟨_, HZ.out⟩ HRS.out)))
    clear hnx hrd4 hrk4 hof hbw3
    by_cases he : k + 1 = l.length
    · rw [if_pos he, show ((41 : UInt8).toNat : Int) = 41 from rfl] at HNX
      have HE := Lib.hid he
      clear he
      refine HNX.out.mono ?_
      rintro _ _ ⟨rfl, y5, rfl⟩
      have hrd5 := HRD4.out.of y5.below
      obtain ⟨n0, n1, n2, n3⟩ := box2 hrd5
      obtain ⟨a0, a1, a2⟩ := box3 (obj_bel y5 HB4.out)
      obtain ⟨r0, r1, r2⟩ := box3 (obj_bel y5 HR4.out)
      obtain ⟨q0, q1, q2⟩ := box3f (obj_bel y5 HR4.out)
      dsimp only
      go_wp2
      have hpe : p'.length + (txt u).length + 1 = p.length + (txtL l).length + 2 := by
        have h1 := posL_next hu
        have h2 := posL_end hl
        have h3 := HPL.out
        rw [HE.out, h2] at h1
        omega
      have hm6 := hrd5.move (p'.length + (txt u).length + 1)
      rw [show ((p'.length + (txt u).length + 1 : Nat) : Int) = (p'.length : Int) + ((txt u).length : Int) + 1 by omega, hpe] at hm6
      have hres6 := obj_ne (c := b) (i := 1) (.int .i64 ((p'.length : Int) + ((txt u).length : Int) + 1)) (by omega) (obj_bel y5 HR4.out)
      have hR := obj_set3 (.int .i64 k0) (.int .i64 0) (.slice (some ⟨g', 0, none⟩) (k + 1) c') hres6
      obtain ⟨s0, s1, s2⟩ := box3 hR
      have hof6 := ownF_set (b := w.heap.size + 1) (i := 2) (ownF_set (b := w.heap.size + 1) (i := 1) (ownF_set (b := w.heap.size + 1) (i := 0) (ownF_set (b := b) (i := 1) (ownF_bel HOF.out y5) (by omega) (.int .i64 ((p'.length : Int) + ((txt u).length : Int) + 1))) (by omega) (.int .i64 k0)) (by omega) (.int .i64 0)) (by omega) (.slice (some ⟨g', 0, none⟩) (k + 1) c')
      have hlu : l.take k ++ [u] = l := by
        rw [show l.take k ++ [u] = l.take (k + 1) by rw [List.take_add_one, hu]; rfl, HE.out, List.take_length]
      rw [hlu] at hof6
      refine bodyPost_ret (v := .tuple #[.agg #[.int .i64 k0, .int .i64 0, .slice (some ⟨g', 0, none⟩) (k + 1) c'], .bool true]) (by simp [results, Tryz.results61, go_sem, s0, s1, s2]) rfl ⟨_, rfl, ⟨some ⟨g', 0, none⟩, c', by rw [HE.out]; rfl, (ownF_insv hof6).imp fun c _ h => by omega⟩, ?_, ?_⟩
      · exact obj_ne _ (by omega) (obj_ne _ (by omega) (obj_ne _ (by omega) hm6))
      · exact ((((HRK4.out.trans (RK.bel y5.below (by have := HRD4.out.lt; omega))).trans (RK.set _)).setNew (by omega) (by omega) _).setNew (by omega) (by omega) _).setNew (by omega) (by omega) _
    · rw [if_neg he, show ((32 : UInt8).toNat : Int) = 32 from rfl] at HNX
      have HE := Lib.hid he
      clear he
      refine HNX.out.mono ?_
      rintro _ _ ⟨rfl, y5, rfl⟩
      have hrd5 := HRD4.out.of y5.below
      obtain ⟨n0, n1, n2, n3⟩ := box2 hrd5
      have hm6 := hrd5.move (p'.length + (txt u).length + 1)
      rw [show ((p'.length + (txt u).length + 1 : Nat) : Int) = (p'.length : Int) + ((txt u).length : Int) + 1 by omega] at hm6
      have HM6 := Lib.hid hm6
      have HME := Lib.hid (rdAt_eq HRD.out)
      have HLT := Lib.hid (show p'.length + (txt u).length + 1 ≤ S.length by rw [hSe]; simp only [List.length_append]; cases r' with
        | nil => simp [stopD, byteAt] at hby; split at hby <;> cases hby
        | cons x y => simp only [List.length_cons]; omega)
      clear hm6
      dsimp only
      go_wp2
      go_roundw
      case rel =>
        refine ⟨k + 1, .slice (some ⟨g', 0, none⟩) (k + 1) c', by have := HE.out; omega, ?_, obj_ne _ (by omega) (obj_bel y5 HB4.out), obj_ne _ (by omega) (obj_bel y5 HR4.out), ?_, (HRK4.out.trans (RK.bel y5.below (by have := HRD4.out.lt; omega))).trans (RK.set _), ?_⟩
        · rw [show l.take (k + 1) = l.take k ++ [u] by rw [List.take_add_one, hu]; rfl]
          exact ownF_set (ownF_bel HOF.out y5) (by omega) _
        · rw [show p.length + posL l (k + 1) = p'.length + (txt u).length + 1 by rw [posL_next hu]; have := HPL.out; omega]
          exact HM6.out
        · have h1 := y5.size_le
          have h3 := hs3
          simp at h1 h3 ⊢
          omega
      case measure =>
        rw [rdAt_eq HM6.out, HME.out]
        have := HLT.out
        omega
end Go.Proofs.YtkbellmhanpocaaGreatDoor
