/- The walk of MinimizeLimits. -/
import Derived.Test.YtlnedapimmabdaaGreatDoorV6
import Derived.Test.YtlnedapimmabdaaGreatDoorVw
import Derived.Test.YtlnedapimmabdaaGreatDoorY3
import Derived.Deep.CutRange
import Derived.Deep.RegionHeld3
namespace Go.Proofs.YtlnedapimmabdaaGreatDoor
set_option linter.unusedVariables false
set_option linter.unusedSimpArgs false
open Go.RowKit Go.Maps
attribute [local go_sem low] Bel.cell Bel.frozen alloc_cell alloc_frozen
attribute [local go_sem] calmOp chainOp yieldsC grows

set_option maxRecDepth 100000 in
set_option maxHeartbeats 12800000 in
theorem lawLimits_any (n : Nat) (hn : n < 256) (w : World) (hT : Tab w) : Calls Tryz.prog 7 #[.int .u8 (n : Int)] w (Ret (.bool true) w) := by
  obtain ⟨ig, hig, hg0, hg1, hg2⟩ := info_parts Tryz.infoG
  obtain ⟨i0, hi0, hz0, hz1, hz2⟩ := info_parts Tryz.infoI
  have HIG := Lib.hid (And.intro hig (And.intro hg0 (And.intro hg1 hg2)))
  clear hig hg0 hg1 hg2
  have HT := Lib.hid hT
  clear hT
  obtain ⟨k, hk⟩ : ∃ k, 18 + n % 5 = k := ⟨_, rfl⟩
  have h1 : 18 ≤ k := by omega
  have h2 : k ≤ 22 := by omega
  have HK := Lib.hid hk
  clear hk
  go_enter Tryz.func7, Tryz.ntmps7
  go_wp2_with fail
  (with_reducible refine (known_any _ (HT.out.of (by (repeat' (first | (with_reducible first | apply Zl1 | apply Zl2 | apply Zl3 | apply Zl4 | apply Zl5 | apply Zl6 | apply Zl7 | apply Zl8 | apply Zl9 | apply Zla | apply Zlb | apply Zlc) | (dsimp only; with_reducible first | apply Zl8 | apply Zl2 | apply Zld) | with_reducible assumption | omega | (dsimp only; omega)))))).mono ?_)
  rintro _ _ ⟨rfl, y1, rfl⟩
  dsimp only
  go_wp2_with fail
  have hke : (18 + (n : Int) % 5) = (k : Int) := by have := HK.out; omega
  rw [hke]
  clear hke
  have hst : OrS w y1.w.heap.size (y1.w.heap.size + 1) (y1.w.heap.size + 1 + 1) 0 0 (.slice none 0 0) (.slice none 0 0) ((y1.w.alloc (.cells #[.slice none 0 0, .slice none 0 0] 25 (0, 0))).alloc (.cells #[.int .i64 4, .int .i64 0, .slice none 0 0] 45 (0, 0))) :=
    ⟨obj_alloc _ (World.alloc_heap_new _ _), newAt1 _ _ _, ownZ_nil _ _ _ _, World.ownsRow_nil _ _ _ _, (fun b h => by cases h), by (repeat' (first | (with_reducible first | apply Zl1 | apply Zl2 | apply Zl3 | apply Zl4 | apply Zl5 | apply Zl6 | apply Zl7 | apply Zl8 | apply Zl9 | apply Zla | apply Zlb | apply Zlc) | (dsimp only; with_reducible first | apply Zl8 | apply Zl2 | apply Zld) | with_reducible assumption | omega | (dsimp only; omega))), by simp⟩
  have h3 := y1.size_le
  obtain ⟨B3, hB3⟩ : ∃ b, y1.w.heap.size = b := ⟨_, rfl⟩
  rw [hB3] at hst h3 ⊢
  have HST := Lib.hid hst
  clear hst hB3
  go_loopw [6] (fun iv wr => ∃ (i : Nat) (gv sv : Value), iv = .int .i64 (i : Int) ∧ i ≤ k ∧ OrS w B3 (B3 + 1) (B3 + 1 + 1) i i gv sv wr) (fun iv _ => k - (intOf iv).toNat)
  case atStart => exact ⟨0, _, _, rfl, Nat.zero_le _, HST.out⟩
  case round =>
    rename World => wo
    obtain ⟨i, gv, sv, rfl, hi, hS⟩ := hrel
    obtain ⟨ga, gc, hgv⟩ := ownZ_val hS.gz
    obtain ⟨sa, sc, hsv, hin⟩ := row_int hS.ints (Q := fun b => B3 + 1 + 1 ≤ b ∧ gv.ownBlock ≠ some b) (fun b hb => ⟨(World.ownsRow.lt hS.ints b hb).1, fun e => hS.ap b e hb⟩)
    rw [litL_len] at hgv
    rw [intL_len] at hsv
    subst hgv hsv
    obtain ⟨n0, n1, n2, n3⟩ := box2 hS.net
    obtain ⟨p0, p1, p2⟩ := box3 hS.gat
    obtain ⟨p3, p4, p5⟩ := box3f hS.gat
    have HS := Lib.hid hS
    have HIN := Lib.hid hin
    have hsz := hS.sz
    clear hS hin
    rcases Nat.lt_or_ge i k with hik | hik
    · have f1 : decide ((i : Int) < (k : Int)) = true := decide_eq_true (by omega)
      go_upto_region 10 with (at_builtin; refine wpList_appZ2 rfl _ _ 22 45 rfl ig Tryz.underlying22 HIG.out.1 HIG.out.2.1 HIG.out.2.2.1 HIG.out.2.2.2 _ (B3 + 1 + 1) (.slice ga i gc) (litL i) ((1 : Int), (3 : Int) * (i : Int), ([] : List Int)) none 0 wo.heap.size rfl (HS.out.alloc _).gz inS_none rfl (World.alloc_heap_new wo _) (by rw [litL_len]; omega) (by simp; omega) ?_; intro g1 c1 w1 hz1 hb1 hs1 hk1 hg1; obtain ⟨v0, v1, v2, v3⟩ := box2 (obj_below hb1 (by omega) (obj_alloc _ HS.out.net)); rw [← litL_succ] at hz1; rw [litL_len] at hz1 ⊢; have HZ1 := Lib.hid (And.intro hz1 (And.intro hb1 (And.intro hk1 hg1))); clear hz1 hb1 hk1 hg1)
      obtain ⟨hz1, hb1, hk1, hg1⟩ := HZ1.out
      have hs2 := (HS.out.alloc (.cells #[.int .i64 1, .int .i64 ((3 : Int) * (i : Int)), .slice none 0 0] 45 (0, 0))).gate h3 (Nat.lt_succ_self _) (Nat.lt_succ_self _) hz1 hb1 hk1 hg1
      obtain ⟨Z, hZ⟩ : ∃ Z, w1.setCell ⟨B3, 0, none⟩ (.slice (some ⟨g1, 0, none⟩) (i + 1) c1) = Z := ⟨_, rfl⟩
      rw [hZ] at hs2 ⊢
      obtain ⟨p0, p1, p2⟩ := box3 hs2.gat
      have HS2 := Lib.hid hs2
      have hsz2 := hs2.sz
      have HS3 := Lib.hid (hs2.alloc (.cells #[.int .i64 (i : Int)] 3 (0, 0)))
      clear hz1 hb1 hk1 hg1 HZ1 hs1 hs2 hZ n0 n1 n2 n3 p3 p4 p5 v0 v1 v2 v3 HIN
      go_wp2_with (at_builtin; refine wpList_appI2 rfl _ _ 23 rfl i0 Tryz.underlying23 hi0 hz0 hz1 hz2 _ (B3 + 1 + 1) (.slice sa i sc) (intL i) (i : Int) Z.heap.size rfl HS3.out.ints rfl (World.alloc_heap_new Z _) (by rw [intL_len]; omega) (by simp; omega) ?_; intro g2 c2 w2 hv2 hw2 hg2; obtain ⟨v0, v1, v2⟩ := box3 (obj_below (HS3.out.grown hw2) (Nat.lt_succ_self _) HS3.out.gat); obtain ⟨v3, v4, v5⟩ := box3f (obj_below (HS3.out.grown hw2) (Nat.lt_succ_self _) HS3.out.gat); rw [← intL_succ] at hv2; rw [intL_len] at hv2 ⊢; have HV2 := Lib.hid (And.intro hv2 (And.intro hw2 hg2)); clear hv2 hw2 hg2)
      obtain ⟨hv2, hw2, hg2⟩ := HV2.out
      have hs3 := HS3.out.int h3 (Nat.lt_succ_self _) (Nat.lt_succ_self _) hv2 hw2 hg2
      refine ⟨⟨i + 1, _, _, by go_num, by omega, hs3⟩, by simp [intOf]; omega⟩
    · have hke : i = k := by omega
      subst hke
      have f1 : decide ((i : Int) < (i : Int)) = false := decide_eq_false (by omega)
      have hz0' : OwnZ (fun b => B3 + 1 + 1 ≤ b) (wo.alloc (.cells #[.int .i64 4, .int .i64 0, .slice sa i sc] 45 (0, 0))) (B3 + 1 + 1) 45 (.slice ga i gc) (litL i) := ownZ_mv (HS.out.alloc _).gz (fun _ _ => rfl) fun b _ hp => hp.elim
      have hin' := HIN.out.of (show Below wo.heap.size wo (wo.alloc (.cells #[.int .i64 4, .int .i64 0, .slice sa i sc] 45 (0, 0))) from (Below.refl _ _).alloc (Nat.le_refl _) _)
      have HZ0 := Lib.hid hz0'
      have HI0 := Lib.hid hin'
      clear hz0' hin'
      go_upto_region 12 with (at_builtin; refine wpList_appZ2 rfl _ _ 22 45 rfl ig Tryz.underlying22 HIG.out.1 HIG.out.2.1 HIG.out.2.2.1 HIG.out.2.2.2 _ (B3 + 1 + 1) (.slice ga i gc) (litL i) ((4 : Int), (0 : Int), intL i) sa sc wo.heap.size rfl HZ0.out HI0.out rfl (by rw [intL_len]; exact World.alloc_heap_new wo _) (by rw [litL_len]; omega) (by simp; omega) ?_; intro g1 c1 w1 hz1 hb1 hs1 hk1 hg1; obtain ⟨v0, v1, v2, v3⟩ := box2 (obj_below hb1 (by omega) (obj_alloc _ HS.out.net)); rw [litL_len, ← orG_gz] at hz1; rw [litL_len]; have HZ1 := Lib.hid (And.intro hz1 (And.intro hb1 (And.intro hk1 hg1))); clear hz1 hb1 hk1 hg1)
      obtain ⟨hz1, hb1, hk1, hg1⟩ := HZ1.out
      obtain ⟨Z1, hZ1⟩ : ∃ Z, w1.setCell ⟨B3, 0, none⟩ (.slice (some ⟨g1, 0, none⟩) (i + 1) c1) = Z := ⟨_, rfl⟩
      have hnet : Z1.heap[B3]? = some (.cells #[.slice (some ⟨g1, 0, none⟩) (i + 1) c1, .slice none 0 0] 25 (0, 0)) := by
        rw [← hZ1]
        exact obj_setD _ (obj_below hb1 (by omega) (obj_alloc _ HS.out.net))
      have hgz : OwnZ (fun b => B3 + 1 + 1 ≤ b) Z1 (B3 + 1 + 1) 45 (.slice (some ⟨g1, 0, none⟩) (i + 1) c1) ((orG i).map gz) := by
        rw [← hZ1]
        exact ownZ_mv hz1 (fun b hb' => by rw [Below.heap_setCell _ _ _ _ (by have := (ownZ_block hz1 hb').1; show b ≠ B3; omega)]) fun b _ hp => ⟨hp, by rw [Below.heap_setCell _ _ _ _ (by show b ≠ B3; omega)]⟩
      have hbl : Below w.heap.size w Z1 := by
        rw [← hZ1]
        exact ((HS.out.alloc _).bel.trans (hb1.mono (by omega))).setCell (p := ⟨B3, 0, none⟩) (by show w.heap.size ≤ B3; omega) _
      rw [hZ1]
      have hlt := (Array.getElem?_eq_some_iff.1 hnet).1
      obtain ⟨q0, q1, q2, q3⟩ := box2 hnet
      have HNET := Lib.hid hnet
      have HGZ := Lib.hid hgz
      have HBL := Lib.hid hbl
      clear hz1 hb1 hk1 hg1 hZ1 hnet hgz hbl HZ1 HZ0 HI0 HS HIN n0 n1 n2 n3 p0 p1 p2 p3 p4 p5 v0 v1 v2 v3 hs1
      go_upto_region 13 with fail
      obtain ⟨x, HNX⟩ : ∃ x : NW, x.1 = orN i ∧ NWs 100 ((Z1.setCell ⟨B3, 1, none⟩ (.slice (some ⟨Z1.heap.size, 0, none⟩) 1 1)).alloc (.cells #[.int .i64 (i : Int)] 3 (0, 0))) x ∧ ((Z1.setCell ⟨B3, 1, none⟩ (.slice (some ⟨Z1.heap.size, 0, none⟩) 1 1)).alloc (.cells #[.int .i64 (i : Int)] 3 (0, 0))).heap[B3]? = some (.cells #[.slice x.2.1 x.1.1.length x.2.2.1, .slice x.2.2.2.1 x.1.2.length x.2.2.2.2] 25 (0, 0)) := by
        have hz := ownZ_bel (ownZ_mv (Pd := fun b => B3 + 1 + 1 ≤ b) (w' := Z1.setCell ⟨B3, 1, none⟩ (.slice (some ⟨Z1.heap.size, 0, none⟩) 1 1)) HGZ.out (fun b hb' => by rw [Below.heap_setCell _ _ _ _ (by have := (ownZ_block HGZ.out hb').1; show b ≠ B3; omega)]) fun b _ hp => ⟨hp, by rw [Below.heap_setCell _ _ _ _ (by show b ≠ B3; omega)]⟩) (show Below _ _ ((Z1.setCell ⟨B3, 1, none⟩ (.slice (some ⟨Z1.heap.size, 0, none⟩) 1 1)).alloc (.cells #[.int .i64 (i : Int)] 3 (0, 0))) from (Below.refl _ _).alloc (Nat.le_refl _) _)
        obtain ⟨ad, cp, hv, hg⟩ := ownZ_in hz
        injection hv with hv1 hv2 hv3
        subst hv1 hv3
        have hol : ((Z1.setCell ⟨B3, 1, none⟩ (.slice (some ⟨Z1.heap.size, 0, none⟩) 1 1)).alloc (.cells #[.int .i64 (i : Int)] 3 (0, 0))).heap[Z1.heap.size]? = some (.cells #[.int .i64 (i : Int)] 3 (0, 0)) := by have := World.alloc_heap_new (Z1.setCell ⟨B3, 1, none⟩ (.slice (some ⟨Z1.heap.size, 0, none⟩) 1 1)) (.cells #[.int .i64 (i : Int)] 3 (0, 0)); simpa using this
        have hlen : (orG i).length = i + 1 := orG_len i
        refine ⟨(orN i, some ⟨g1, 0, none⟩, c1, some ⟨Z1.heap.size, 0, none⟩, 1), rfl, ⟨⟨orN_ok (by omega), hg.imp fun b hb' _ => hb', fun _ => ⟨Z1.heap.size, 0, rfl, by simp, fun j y hj => ?_⟩, by show (orG i).length ≤ _; omega, by show 1 ≤ _; omega, Nat.le_refl _, by show 1 ≤ _; omega, fun g hg' => ?_⟩, by show (orG i).length ≤ _; omega, by show 1 ≤ _; omega, fun g hg' => ?_⟩, ?_⟩
        · match j, hj with
          | 0, hj =>
            have e : (i : Int) = y := by simpa [intsN, orN] using hj
            rw [← e]
            exact box1 hol
          | j + 1, hj => simp [intsN, orN] at hj
        · obtain ⟨q, hq⟩ := List.mem_iff_getElem?.1 hg'
          rcases orG_at hq with ⟨_, rfl⟩ | ⟨_, rfl⟩
          · show ([] : List Nat).length ≤ _; simp
          · show (List.range i).length ≤ _; rw [List.length_range]; omega
        · obtain ⟨q, hq⟩ := List.mem_iff_getElem?.1 hg'
          rcases orG_at hq with ⟨_, rfl⟩ | ⟨_, rfl⟩
          · show ([] : List Nat).length ≤ _; simp
          · show (List.range i).length ≤ _; rw [List.length_range]; omega
        · show _ = some (Obj.cells #[.slice (some ⟨g1, 0, none⟩) (orG i).length c1, .slice (some ⟨Z1.heap.size, 0, none⟩) 1 1] _ _)
          rw [hlen]
          exact obj_alloc _ (obj_setD (i := 1) (.slice (some ⟨Z1.heap.size, 0, none⟩) 1 1) HNET.out)
      obtain ⟨hx, hnx, xb⟩ := HNX
      have hB : Below w.heap.size w ((Z1.setCell ⟨B3, 1, none⟩ (.slice (some ⟨Z1.heap.size, 0, none⟩) 1 1)).alloc (.cells #[.int .i64 (i : Int)] 3 (0, 0))) := (HBL.out.setCell (p := ⟨B3, 1, none⟩) (by show w.heap.size ≤ B3; omega) _).alloc (by have := HBL.out.size; simp; omega) _
      have HX := Lib.hid hnx
      have HXE := Lib.hid hx
      clear hx hnx HNET HGZ HBL q0 q1 q2 q3 hlt
      obtain ⟨V1, hV⟩ : ∃ V1, ((Z1.setCell ⟨B3, 1, none⟩ (.slice (some ⟨Z1.heap.size, 0, none⟩) 1 1)).alloc (.cells #[.int .i64 (i : Int)] 3 (0, 0))) = V1 := ⟨_, rfl⟩
      rw [hV] at hB xb HX ⊢
      clear hV
      by_cases hk : i ≤ 20
      · skip
        have f2 : decide (20 < (i : Int)) = false := decide_eq_false (by omega)
        obtain ⟨n0, m0, -⟩ := box2 xb
        go_wp2_with fail
        clear n0 m0
        refine (Diagrams_or_ok h1 h2 x V1 HX.out HXE.out hk).mono ?_
        rintro _ WD ⟨dv, dl, rfl, hds, hdl, -, hbk⟩
        obtain ⟨da, dc, rfl⟩ := hds.val
        have hdl2 : dl.length = 1 := hdl
        rw [hdl2]
        clear hds hdl hdl2
        replace xb := obj_in hbk xb
        replace HX := Lib.hid (HX.out.of hbk)
        replace hB := hB.trans (hbk.mono hB.size)
        clear hbk
        obtain ⟨V2, hV⟩ : ∃ V2, WD = V2 := ⟨_, rfl⟩
        rw [hV] at hB xb HX ⊢
        clear hV
        obtain ⟨n0, m0, -⟩ := box2 xb
        dsimp only
        go_wp2_with fail
        clear n0 m0
        refine (Reduce_or_ok h1 h2 x V2 HX.out HXE.out hk (HT.out.of hB)).mono ?_
        rintro _ WR ⟨r, hr, hnr, rfl, hbk⟩
        replace xb := obj_in hbk xb
        replace HX := Lib.hid (HX.out.of hbk)
        replace hB := hB.trans (hbk.mono hB.size)
        have hrl : r.1.1.length = i + 1 := by rw [hr]; exact orG_len i
        clear hbk hr hnr
        unfold nwV nV
        rw [hrl]
        clear hrl
        obtain ⟨n0, m0, -⟩ := box2 xb
        dsimp only
        go_wp2_with fail
        clear n0 m0
        have hbk : Below WR.heap.size WR (WR.alloc (.cells #[.slice r.2.1 (i + 1) r.2.2.1, .slice r.2.2.2.1 r.1.2.length r.2.2.2.2] 25 (0, 0))) := (Below.refl _ _).alloc (Nat.le_refl _) _
        replace xb := obj_in hbk xb
        replace HX := Lib.hid (HX.out.of hbk)
        replace hB := hB.trans (hbk.mono hB.size)
        clear hbk
        have rb := World.alloc_heap_new WR (.cells #[.slice r.2.1 (i + 1) r.2.2.1, .slice r.2.2.2.1 r.1.2.length r.2.2.2.2] 25 (0, 0))
        obtain ⟨RB, hRB⟩ : ∃ b, WR.heap.size = b := ⟨_, rfl⟩
        rw [hRB] at rb ⊢
        clear hRB
        obtain ⟨V3, hV⟩ : ∃ V3, (WR.alloc (.cells #[.slice r.2.1 (i + 1) r.2.2.1, .slice r.2.2.2.1 r.1.2.length r.2.2.2.2] 25 (0, 0))) = V3 := ⟨_, rfl⟩
        rw [hV] at hB xb rb HX ⊢
        clear hV
        refine (Equal_or_ok h1 h2 x V3 HX.out HXE.out hk).mono ?_
        rintro _ _ ⟨rfl, ye, rfl⟩
        have hbk := ye.below
        replace xb := obj_in hbk xb
        replace rb := obj_in hbk rb
        replace HX := Lib.hid (HX.out.of hbk)
        replace hB := hB.trans (hbk.mono hB.size)
        clear hbk
        obtain ⟨V4, hV⟩ : ∃ V4, ye.w = V4 := ⟨_, rfl⟩
        rw [hV] at hB xb rb HX ⊢
        clear hV
        obtain ⟨n0, m0, -⟩ := box2 xb
        dsimp only
        go_wp2_with fail
        clear n0 m0
        refine (Compare_or_ok h1 h2 x V4 HX.out HXE.out hk).mono ?_
        rintro _ _ ⟨rfl, yc, rfl⟩
        have hbk := yc.below
        replace xb := obj_in hbk xb
        replace rb := obj_in hbk rb
        replace HX := Lib.hid (HX.out.of hbk)
        replace hB := hB.trans (hbk.mono hB.size)
        clear hbk
        obtain ⟨n0, m0, -⟩ := box2 xb
        dsimp only
        go_wp2_with fail
        clear n0 m0
        have hbk : Below yc.w.heap.size yc.w (yc.w.alloc (.cells #[.int .i64 0, .slice none 0 0] 37 (0, 0))) := (Below.refl _ _).alloc (Nat.le_refl _) _
        replace xb := obj_in hbk xb
        replace rb := obj_in hbk rb
        replace HX := Lib.hid (HX.out.of hbk)
        replace hB := hB.trans (hbk.mono hB.size)
        clear hbk
        obtain ⟨V5, hV⟩ : ∃ V5, (yc.w.alloc (.cells #[.int .i64 0, .slice none 0 0] 37 (0, 0))) = V5 := ⟨_, rfl⟩
        rw [hV] at hB xb rb HX ⊢
        clear hV
        refine (Clean_or h1 h2 x V5 HX.out HXE.out (HT.out.of hB)).mono ?_
        rintro _ WC ⟨c, hc, hnc, rfl, hbk⟩
        replace xb := obj_in hbk xb
        replace rb := obj_in hbk rb
        replace HX := Lib.hid (HX.out.of hbk)
        replace hB := hB.trans (hbk.mono hB.size)
        have HC := Lib.hid hnc
        have HCE := Lib.hid hc
        clear hbk hc hnc
        unfold nwV nV
        obtain ⟨n0, m0, -⟩ := box2 xb
        dsimp only
        go_wp2_with fail
        clear n0 m0
        have hbk : Below WC.heap.size WC (WC.alloc (.cells #[.slice c.2.1 c.1.1.length c.2.2.1, .slice c.2.2.2.1 c.1.2.length c.2.2.2.2] 25 (0, 0))) := (Below.refl _ _).alloc (Nat.le_refl _) _
        replace xb := obj_in hbk xb
        replace rb := obj_in hbk rb
        replace HX := Lib.hid (HX.out.of hbk)
        replace HC := Lib.hid (HC.out.of hbk)
        replace hB := hB.trans (hbk.mono hB.size)
        clear hbk
        have cb := World.alloc_heap_new WC (.cells #[.slice c.2.1 c.1.1.length c.2.2.1, .slice c.2.2.2.1 c.1.2.length c.2.2.2.2] 25 (0, 0))
        obtain ⟨CB, hCB⟩ : ∃ b, WC.heap.size = b := ⟨_, rfl⟩
        rw [hCB] at cb ⊢
        clear hCB
        obtain ⟨V6, hV⟩ : ∃ V6, (WC.alloc (.cells #[.slice c.2.1 c.1.1.length c.2.2.1, .slice c.2.2.2.1 c.1.2.length c.2.2.2.2] 25 (0, 0))) = V6 := ⟨_, rfl⟩
        rw [hV] at hB xb rb cb HX HC ⊢
        clear hV
        refine (Support_or h1 h2 x V6 HX.out HXE.out).mono ?_
        rintro _ WS ⟨sa, sc, rfl, hbk⟩
        replace xb := obj_in hbk xb
        replace rb := obj_in hbk rb
        replace cb := obj_in hbk cb
        replace HX := Lib.hid (HX.out.of hbk)
        replace HC := Lib.hid (HC.out.of hbk)
        replace hB := hB.trans (hbk.mono hB.size)
        clear hbk
        obtain ⟨V7, hV⟩ : ∃ V7, WS = V7 := ⟨_, rfl⟩
        rw [hV] at hB xb rb cb HX HC ⊢
        clear hV
        obtain ⟨n0, m0, -⟩ := box2 xb
        obtain ⟨n1, m1, -⟩ := box2 rb
        obtain ⟨n2, m2, -⟩ := box2 cb
        dsimp only
        go_wp2_with fail
        have hq := relEq_nw c x _ HC.out HX.out
        rw [decide_eq_true (show c.1 = x.1 by rw [HCE.out, HXE.out])] at hq
        refine hq.mono ?_
        rintro _ _ ⟨rfl, yq, rfl⟩
        have hqs := hB.size
        dsimp only
        go_wp2
        go_ret
        exact Ret.mk rfl (hB.trans (yq.below.mono hqs))
      · skip
        replace hk : 20 < i := by omega
        have f2 : decide (20 < (i : Int)) = true := decide_eq_true (by omega)
        obtain ⟨n0, m0, -⟩ := box2 xb
        go_wp2_with fail
        clear n0 m0
        refine (Diagrams_or_no h1 h2 x V1 HX.out HXE.out hk).mono ?_
        rintro _ _ ⟨rfl, yd, rfl⟩
        have hbk := yd.below
        replace xb := obj_in hbk xb
        replace HX := Lib.hid (HX.out.of hbk)
        replace hB := hB.trans (hbk.mono hB.size)
        clear hbk
        obtain ⟨V2, hV⟩ : ∃ V2, yd.w = V2 := ⟨_, rfl⟩
        rw [hV] at hB xb HX ⊢
        clear hV
        obtain ⟨n0, m0, -⟩ := box2 xb
        dsimp only
        go_wp2_with fail
        clear n0 m0
        refine (Reduce_or_no h1 h2 x V2 HX.out HXE.out hk).mono ?_
        rintro _ _ ⟨rfl, yr, rfl⟩
        have hbk := yr.below
        replace xb := obj_in hbk xb
        replace HX := Lib.hid (HX.out.of hbk)
        replace hB := hB.trans (hbk.mono hB.size)
        clear hbk
        unfold nil2
        obtain ⟨n0, m0, -⟩ := box2 xb
        dsimp only
        go_wp2_with fail
        clear n0 m0
        have hbk : Below yr.w.heap.size yr.w (yr.w.alloc (.cells #[.slice none 0 0, .slice none 0 0] 25 (0, 0))) := (Below.refl _ _).alloc (Nat.le_refl _) _
        replace xb := obj_in hbk xb
        replace HX := Lib.hid (HX.out.of hbk)
        replace hB := hB.trans (hbk.mono hB.size)
        clear hbk
        have rb := World.alloc_heap_new yr.w (.cells #[.slice none 0 0, .slice none 0 0] 25 (0, 0))
        obtain ⟨RB, hRB⟩ : ∃ b, yr.w.heap.size = b := ⟨_, rfl⟩
        rw [hRB] at rb ⊢
        clear hRB
        obtain ⟨V3, hV⟩ : ∃ V3, (yr.w.alloc (.cells #[.slice none 0 0, .slice none 0 0] 25 (0, 0))) = V3 := ⟨_, rfl⟩
        rw [hV] at hB xb rb HX ⊢
        clear hV
        refine (Equal_or_no h1 h2 x V3 HX.out HXE.out hk).mono ?_
        rintro _ _ ⟨rfl, ye, rfl⟩
        have hbk := ye.below
        replace xb := obj_in hbk xb
        replace rb := obj_in hbk rb
        replace HX := Lib.hid (HX.out.of hbk)
        replace hB := hB.trans (hbk.mono hB.size)
        clear hbk
        obtain ⟨V4, hV⟩ : ∃ V4, ye.w = V4 := ⟨_, rfl⟩
        rw [hV] at hB xb rb HX ⊢
        clear hV
        obtain ⟨n0, m0, -⟩ := box2 xb
        dsimp only
        go_wp2_with fail
        clear n0 m0
        refine (Compare_or_no h1 h2 x V4 HX.out HXE.out hk).mono ?_
        rintro _ _ ⟨rfl, yc, rfl⟩
        have hbk := yc.below
        replace xb := obj_in hbk xb
        replace rb := obj_in hbk rb
        replace HX := Lib.hid (HX.out.of hbk)
        replace hB := hB.trans (hbk.mono hB.size)
        clear hbk
        obtain ⟨n0, m0, -⟩ := box2 xb
        dsimp only
        go_wp2_with fail
        clear n0 m0
        have hbk : Below yc.w.heap.size yc.w (yc.w.alloc (.cells #[.int .i64 0, .slice none 0 0] 37 (0, 0))) := (Below.refl _ _).alloc (Nat.le_refl _) _
        replace xb := obj_in hbk xb
        replace rb := obj_in hbk rb
        replace HX := Lib.hid (HX.out.of hbk)
        replace hB := hB.trans (hbk.mono hB.size)
        clear hbk
        obtain ⟨V5, hV⟩ : ∃ V5, (yc.w.alloc (.cells #[.int .i64 0, .slice none 0 0] 37 (0, 0))) = V5 := ⟨_, rfl⟩
        rw [hV] at hB xb rb HX ⊢
        clear hV
        refine (Clean_or h1 h2 x V5 HX.out HXE.out (HT.out.of hB)).mono ?_
        rintro _ WC ⟨c, hc, hnc, rfl, hbk⟩
        replace xb := obj_in hbk xb
        replace rb := obj_in hbk rb
        replace HX := Lib.hid (HX.out.of hbk)
        replace hB := hB.trans (hbk.mono hB.size)
        have HC := Lib.hid hnc
        have HCE := Lib.hid hc
        clear hbk hc hnc
        unfold nwV nV
        obtain ⟨n0, m0, -⟩ := box2 xb
        dsimp only
        go_wp2_with fail
        clear n0 m0
        have hbk : Below WC.heap.size WC (WC.alloc (.cells #[.slice c.2.1 c.1.1.length c.2.2.1, .slice c.2.2.2.1 c.1.2.length c.2.2.2.2] 25 (0, 0))) := (Below.refl _ _).alloc (Nat.le_refl _) _
        replace xb := obj_in hbk xb
        replace rb := obj_in hbk rb
        replace HX := Lib.hid (HX.out.of hbk)
        replace HC := Lib.hid (HC.out.of hbk)
        replace hB := hB.trans (hbk.mono hB.size)
        clear hbk
        have cb := World.alloc_heap_new WC (.cells #[.slice c.2.1 c.1.1.length c.2.2.1, .slice c.2.2.2.1 c.1.2.length c.2.2.2.2] 25 (0, 0))
        obtain ⟨CB, hCB⟩ : ∃ b, WC.heap.size = b := ⟨_, rfl⟩
        rw [hCB] at cb ⊢
        clear hCB
        obtain ⟨V6, hV⟩ : ∃ V6, (WC.alloc (.cells #[.slice c.2.1 c.1.1.length c.2.2.1, .slice c.2.2.2.1 c.1.2.length c.2.2.2.2] 25 (0, 0))) = V6 := ⟨_, rfl⟩
        rw [hV] at hB xb rb cb HX HC ⊢
        clear hV
        refine (Support_or h1 h2 x V6 HX.out HXE.out).mono ?_
        rintro _ WS ⟨sa, sc, rfl, hbk⟩
        replace xb := obj_in hbk xb
        replace rb := obj_in hbk rb
        replace cb := obj_in hbk cb
        replace HX := Lib.hid (HX.out.of hbk)
        replace HC := Lib.hid (HC.out.of hbk)
        replace hB := hB.trans (hbk.mono hB.size)
        clear hbk
        obtain ⟨V7, hV⟩ : ∃ V7, WS = V7 := ⟨_, rfl⟩
        rw [hV] at hB xb rb cb HX HC ⊢
        clear hV
        obtain ⟨n0, m0, -⟩ := box2 xb
        obtain ⟨n1, m1, -⟩ := box2 rb
        obtain ⟨n2, m2, -⟩ := box2 cb
        dsimp only
        go_wp2_with fail
        have hq := relEq_nw c x _ HC.out HX.out
        rw [decide_eq_true (show c.1 = x.1 by rw [HCE.out, HXE.out])] at hq
        refine hq.mono ?_
        rintro _ _ ⟨rfl, yq, rfl⟩
        have hqs := hB.size
        dsimp only
        go_wp2
        go_ret
        exact Ret.mk rfl (hB.trans (yq.below.mono hqs))
end Go.Proofs.YtlnedapimmabdaaGreatDoor
