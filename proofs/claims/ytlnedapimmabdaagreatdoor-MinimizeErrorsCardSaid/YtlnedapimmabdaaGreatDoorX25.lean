/- Witness. -/
import Derived.Test.YtlnedapimmabdaaGreatDoorXG
namespace Go.Proofs.YtlnedapimmabdaaGreatDoor
set_option linter.unusedVariables false
set_option linter.unusedSimpArgs false
open Go.RowKit Go.Maps
attribute [local go_sem low] Bel.cell Bel.frozen alloc_cell alloc_frozen
attribute [local go_sem] calmOp chainOp yieldsC grows
variable {rk : Nat → Nat}

theorem Tryz.infoBo : (Tryz.prog.info? 4).map (fun i => (i.zero, i.size, i.bytes)) = some (some (.bool false), 1, 1) := by kernel_rfl
theorem boolsD_set (l : List Bool) (j : Nat) (b : Bool) : boolsD (l.set j b) = (boolsD l).set j (.bool b) := by unfold boolsD; rw [List.map_set]
def OwnB (w : World) (base g cap : Nat) (l : List Bool) : Prop := w.ownsRow base 4 1 (.slice (some ⟨g, 0, none⟩) l.length cap) l.length (boolsD l)
theorem ownB_store {w : World} {base g cap : Nat} {l : List Bool} (h : OwnB w base g cap l) (j : Nat) (b : Bool) : OwnB (w.setCell ⟨g, j, none⟩ (.bool b)) base g cap (l.set j b) := by
  have h2 := (World.ownsRow.stored h j (.bool b)).1
  unfold OwnB
  rw [boolsD_set, List.length_set]
  exact h2
theorem ownB_at {w : World} {base g cap : Nat} {l : List Bool} (h : OwnB w base g cap l) {j : Nat} (hj : j < l.length) : ∃ b, w.cell? ⟨g, j, none⟩ = some (.bool b) ∧ w.frozen? ⟨g, j, none⟩ = false := by
  obtain ⟨hxl, ⟨e1, e2⟩ | ⟨g', cap', cur, e1, hg, hh, hn, hc, hcs, hcur⟩⟩ := h
  · cases e1
  · injection e1 with e1 _ _
    injection e1 with e1
    injection e1 with e1 _ _
    subst e1
    have hb : (boolsD l)[j]? = some (.bool (l[j]'hj)) := by unfold boolsD; rw [List.getElem?_map, List.getElem?_eq_getElem hj]; rfl
    rw [← hcur, List.getElem?_take_of_lt (by omega)] at hb
    refine ⟨l[j]'hj, ?_, ?_⟩
    · simp [World.cell?, hh]
      simpa using hb
    · simp [World.frozen?, hh]
theorem ownB_lt {w : World} {base g cap : Nat} {l : List Bool} (h : OwnB w base g cap l) : base ≤ g ∧ g < w.heap.size := World.ownsRow.lt h g rfl
theorem ownB_bel {w w' : World} {base g cap : Nat} {l : List Bool} (h : OwnB w base g cap l) (hb : Below w.heap.size w w') : OwnB w' base g cap l := by
  obtain ⟨hxl, ⟨e1, e2⟩ | ⟨g', cap', cur, e1, hg, hh, hn, hc, hcs, hcur⟩⟩ := h
  · exact ⟨hxl, .inl ⟨e1, e2⟩⟩
  · exact ⟨hxl, .inr ⟨g', cap', cur, e1, hg, obj_in hb hh, hn, hc, hcs, hcur⟩⟩
def RetWit (l : List Bool) (w : World) (e : Ending) (w' : World) : Prop := ∃ g cap, e = .returned (.tuple #[.slice (some ⟨g, 0, none⟩) l.length cap, .bool true, .int .i64 0]) ∧ OwnB w' w.heap.size g cap l ∧ Below w.heap.size w w'
set_option maxRecDepth 100000 in
set_option maxHeartbeats 6400000 in
theorem Witness_ok (x : DN) (n : Nat) (w : World) (hx : DNok rk w x) (hn : n ≤ 4096) (he : enoughD (x.2.2.1.map z3) (n : Int) = true) (hr : x.2.2.2 ≠ 0) : Calls Tryz.prog 45 #[dnV x, .int .i64 (n : Int)] w (RetWit (witD x.2.2.1 (x.2.2.2 + 1) x.2.2.2 (List.replicate n false)) w) := by
  obtain ⟨i0, hi0, hz0, hz1, hz2⟩ := info_parts Tryz.infoBo
  have HK := Lib.hid (fun w' (hb : Below w.heap.size w w') => (show Calls Tryz.prog 71 #[.agg #[.slice x.1 x.2.2.1.length x.2.1, .int .i64 (x.2.2.2 : Int)]] w' (Ret (.int .i64 0) w') from by
    obtain ⟨o1, o2, o3, o4⟩ := hx.di.of hb
    have h := dCheck_any _ o2 o3 x.1 x.2.1 _ o4 w' o1
    rw [show chkD (toI x).2.2.1 (toI x).2.2.2 = 0 from hx.chk, show (toI x).2.2.1.length = x.2.2.1.length from List.length_map ..] at h
    exact h))
  have HE := Lib.hid (fun w' (hb : Below w.heap.size w w') => (show Calls Tryz.prog 72 #[.agg #[.slice x.1 x.2.2.1.length x.2.1, .int .i64 (x.2.2.2 : Int)], .int .i64 (n : Int)] w' (Ret (.bool (enoughD (x.2.2.1.map z3) (n : Int))) w') from by
    have h := enough_any (x.2.2.1.map z3) x.1 x.2.1 (x.2.2.2 : Int) (n : Int) w' ((hx.ind.of hb).up hb.size) (by rw [List.length_map]; have := hx.len; omega)
    rw [List.length_map] at h
    exact h))
  have hen := (enoughD_iff _ _).1 he
  rw [he] at HE
  have hlen := hx.len
  have hroot := hx.root
  have HG := Lib.hid hx.good
  have HI := Lib.hid hx.ind
  obtain ⟨ad, cap, M, r⟩ := x
  dsimp only at HK HE hr hlen hroot HG HI hen ⊢
  have f1 : decide ((n : Int) < 0) = false := decide_eq_false (by omega)
  have f2 : decide ((4096 : Int) < (n : Int)) = false := decide_eq_false (by omega)
  have f3 : ((r : Int) == 0) = false := beq_eq_false_iff_ne.2 (by omega)
  have HEN := Lib.hid (show ∀ y ∈ M, y.1 < n from fun y hy => by
    have := hen (z3 y) (List.mem_map.2 ⟨y, hy, rfl⟩)
    dsimp only [z3] at this
    omega)
  obtain ⟨wl, hwl⟩ : ∃ wl, witD M (r + 1) r (List.replicate n false) = wl := ⟨_, rfl⟩
  rw [hwl]
  have HWL := Lib.hid hwl
  clear hx he hen hwl
  go_enter Tryz.func45, Tryz.ntmps45
  go_wp2_with fail
  refine (HK.out _ (by (repeat' (first | (with_reducible first | apply Zl1 | apply Zl2 | apply Zl3 | apply Zl4 | apply Zl5 | apply Zl6 | apply Zl7 | apply Zl8 | apply Zl9 | apply Zla | apply Zlb | apply Zlc) | (dsimp only; with_reducible first | apply Zl8 | apply Zl2 | apply Zld) | with_reducible assumption | omega | (dsimp only; omega))))).mono ?_
  rintro _ _ ⟨rfl, y1, rfl⟩
  dsimp only
  go_wp2_with fail
  refine (HE.out _ (by (repeat' (first | (with_reducible first | apply Zl1 | apply Zl2 | apply Zl3 | apply Zl4 | apply Zl5 | apply Zl6 | apply Zl7 | apply Zl8 | apply Zl9 | apply Zla | apply Zlb | apply Zlc) | (dsimp only; with_reducible first | apply Zl8 | apply Zl2 | apply Zld) | with_reducible assumption | omega | (dsimp only; omega))))).mono ?_
  rintro _ _ ⟨rfl, y2, rfl⟩
  have hbz : Below w.heap.size w y2.w := by (repeat' (first | (with_reducible first | apply Zl1 | apply Zl2 | apply Zl3 | apply Zl4 | apply Zl5 | apply Zl6 | apply Zl7 | apply Zl8 | apply Zl9 | apply Zla | apply Zlb | apply Zlc) | (dsimp only; with_reducible first | apply Zl8 | apply Zl2 | apply Zld) | with_reducible assumption | omega | (dsimp only; omega)))
  have o0 := obj_in y2.below (obj_in y1.below (World.alloc_heap_new w (.cells #[.slice ad M.length cap, .int .i64 (r : Int)] 63 (0, 0))))
  obtain ⟨d0, d1, -⟩ := cells2 o0
  obtain ⟨Z, hZ⟩ : ∃ Z, y2.w = Z := ⟨_, rfl⟩
  rw [hZ] at hbz d0 d1 o0 ⊢
  have HBZ := Lib.hid hbz
  have HO0 := Lib.hid o0
  clear o0 hZ hbz y2 y1
  dsimp only
  go_wp2_with (at_make; refine wpList_make_full _ rfl _ _ 35 rfl (Z.heap.size) 4 i0 (.bool false) 1 Tryz.underlying35 hi0 hz0 hz1 _ _ _ _ (n) rfl rfl (by first | rfl | omega | (simp <;> omega)) (by first | rfl | omega | (simp <;> omega)) (by rw [hz2] <;> omega) (by unfold maxLen; omega) (by first | omega | (simp <;> omega)) ?_; intro wM hownM hgrowM; have hbM : Below Z.heap.size Z wM := (Below.refl _ _).grown hgrowM (Nat.le_refl _) (fun k e => by cases e); have e0 := cell_in hbM d0; have e1 := cell_in hbM d1; have HOM := Lib.hid hownM; have HBM := Lib.hid hbM; clear hownM hgrowM hbM d0 d1)
  have hob : OwnB wM Z.heap.size Z.heap.size n (List.replicate n false) := by
    unfold OwnB boolsD
    rw [List.length_replicate, List.map_replicate]
    have := HOM.out
    rw [Nat.mul_one, show (Value.bool false).cells = #[Value.bool false] from rfl, toList_madeCells_one] at this
    exact this
  have HOB := Lib.hid hob
  have hzl := (ownB_lt hob).2
  clear hob
  go_loopw [8] (fun pv wr => ∃ (p : Nat) (l : List Bool), pv = .int .i64 (p : Int) ∧ p < M.length + 2 ∧ l.length = n ∧ OwnB wr Z.heap.size Z.heap.size n l ∧ witD M (p + 1) p l = wl ∧ Below Z.heap.size Z wr) (fun pv _ => (intOf pv).toNat)
  case atStart => exact ⟨r, _, rfl, hroot, List.length_replicate, HOB.out, HWL.out, HBM.out⟩
  case round =>
    obtain ⟨p, l, rfl, hp, hll, how, hwd, hbe⟩ := hrel
    have HOW := Lib.hid how
    have HWD := Lib.hid hwd
    have HBE := Lib.hid hbe
    have hbz := HBZ.out
    have hsz := hbz.size
    have hws := hbe.size
    obtain ⟨e0, e1, -⟩ := cells2 (obj_in hbe HO0.out)
    clear how hwd
    rcases Nat.lt_or_ge p 2 with hp2 | hp2
    · have f4 : decide ((1 : Int) < (p : Int)) = false := decide_eq_false (by omega)
      have hwe : wl = l := by rw [← HWD.out, witD_end M hp2]
      subst hwe
      clear hbe
      go_wp2
      refine bodyPost_ret (v := .tuple #[.slice (some ⟨Z.heap.size, 0, none⟩) n n, .bool true, .int .i64 0]) (by simp [results, Tryz.results45, go_sem]) rfl ⟨Z.heap.size, n, by rw [hll], ?_, hbz.trans (HBE.out.mono hsz)⟩
      obtain ⟨hxl, ⟨e1, e2⟩ | ⟨g', cap', cur, e1, hg, hh, hn, hc, hcs, hcur⟩⟩ := HOW.out
      · cases e1
      · exact ⟨hxl, .inr ⟨g', cap', cur, e1, by omega, hh, hn, hc, hcs, hcur⟩⟩
    · obtain ⟨a1, a2, a3, a4, a5, a6, a7⟩ := node3_ok HG.out hp hp2
      have hws2 := witD_step HG.out hp hp2 l
      rw [HWD.out] at hws2
      obtain ⟨g, off, hadd, hg, hcs⟩ := (HI.out.of (hbz.trans (hbe.mono hsz))) (by rw [List.length_map]; omega)
      subst hadd
      obtain ⟨x0, x1, x2⟩ := hcs (p - 2) (z3 (node3 M p)) (by rw [List.getElem?_map, node3_some hp hp2]; rfl)
      dsimp only [z3] at x0 x1 x2
      have hxl := HEN.out _ (List.mem_of_getElem? (node3_some hp hp2))
      obtain ⟨xa, hxa⟩ : ∃ z, (node3 M p).1 = z := ⟨_, rfl⟩
      obtain ⟨xn, hxn⟩ : ∃ z, (node3 M p).2.1 = z := ⟨_, rfl⟩
      obtain ⟨xy, hxy⟩ : ∃ z, (node3 M p).2.2 = z := ⟨_, rfl⟩
      rw [hxa] at x0 hxl hws2
      rw [hxn] at x1 a1 hws2
      rw [hxy] at x2 a2 hws2
      obtain ⟨pp, hpp⟩ : ∃ pp, p - 2 = pp := ⟨_, rfl⟩
      rw [hpp] at x0 x1 x2
      have f4 : decide ((1 : Int) < (p : Int)) = true := decide_eq_true (by omega)
      have hpi : ((p : Int) - 2) = (pp : Int) := by omega
      have hib : (0 ≤ (pp : Int) ∧ (pp : Int) < (M.length : Int)) := ⟨by omega, by omega⟩
      have hiv : (0 ≤ (xa : Int) ∧ (xa : Int) < (n : Int)) := ⟨by omega, by omega⟩
      have HVN := Lib.hid hws2
      clear hcs hws2 hxa hxn hxy a3 a4 a5 a6 a7 hbe
      by_cases h0 : xn = 0
      · have f5 : ((xn : Int) == 0) = true := beq_iff_eq.2 (by omega)
        have hwv := HVN.out
        rw [if_pos h0] at hwv
        have HWV := Lib.hid hwv
        clear hwv h0
        go_wp2_with fail
        have hbw : Below wr.heap.size wr (wr.alloc (.cells #[.int .i64 (xa : Int), .int .i64 (xn : Int), .int .i64 (xy : Int)] 96 (0, 0))) := by (repeat' (first | (with_reducible first | apply Zl1 | apply Zl2 | apply Zl3 | apply Zl4 | apply Zl5 | apply Zl6 | apply Zl7 | apply Zl8 | apply Zl9 | apply Zla | apply Zlb | apply Zlc) | (dsimp only; with_reducible first | apply Zl8 | apply Zl2 | apply Zld) | with_reducible assumption | omega | (dsimp only; omega)))
        have o5 := World.alloc_heap_new wr (.cells #[.int .i64 (xa : Int), .int .i64 (xn : Int), .int .i64 (xy : Int)] 96 (0, 0))
        obtain ⟨X5, hX5⟩ : ∃ X5, wr.heap.size = X5 := ⟨_, rfl⟩
        obtain ⟨Y, hY⟩ : ∃ Y, wr.alloc (.cells #[.int .i64 (xa : Int), .int .i64 (xn : Int), .int .i64 (xy : Int)] 96 (0, 0)) = Y := ⟨_, rfl⟩
        rw [hY] at hbw o5 ⊢
        have HOY := Lib.hid (ownB_bel HOW.out hbw)
        have HBY := Lib.hid (HBE.out.trans (hbw.mono hws))
        have hzx : Z.heap.size < X5 := by rw [← hX5]; exact (ownB_lt HOW.out).2
        rw [hX5] at o5 ⊢
        obtain ⟨q0, q1, q2⟩ : Y.cell? ⟨X5, 0, none⟩ = some (.int .i64 (xa : Int)) ∧ Y.cell? ⟨X5, 1, none⟩ = some (.int .i64 (xn : Int)) ∧ Y.cell? ⟨X5, 2, none⟩ = some (.int .i64 (xy : Int)) := by
          refine ⟨?_, ?_, ?_⟩ <;> simp [World.cell?, o5]
        obtain ⟨ob, s0, s1⟩ := ownB_at HOY.out (show xa < l.length by omega)
        have hne5 : Z.heap.size ≠ X5 := by omega
        have hne6 : X5 ≠ Z.heap.size := by omega
        clear hbw o5 hX5 hY e0 e1 x0 x1 x2
        go_region
        all_goals
          go_wp2
          go_roundw
          case rel =>
            have h1 : Below Z.heap.size Z (Y.setCell ⟨Z.heap.size, xa, none⟩ (.bool true)) := HBY.out.setCell (p := ⟨Z.heap.size, xa, none⟩) (Nat.le_refl _) _
            exact ⟨xy, l.set xa true, rfl, by omega, by rw [List.length_set]; exact hll, ownB_bel (ownB_store HOY.out xa true) (Below.refl _ _).drew, HWV.out.symm, h1.drew⟩
          case measure => simp [intOf]; omega
      · have f5 : ((xn : Int) == 0) = false := beq_eq_false_iff_ne.2 (by omega)
        have hwv := HVN.out
        rw [if_neg h0] at hwv
        have HWV := Lib.hid hwv
        have hbw : Below wr.heap.size wr (wr.alloc (.cells #[.int .i64 (xa : Int), .int .i64 (xn : Int), .int .i64 (xy : Int)] 96 (0, 0))) := by (repeat' (first | (with_reducible first | apply Zl1 | apply Zl2 | apply Zl3 | apply Zl4 | apply Zl5 | apply Zl6 | apply Zl7 | apply Zl8 | apply Zl9 | apply Zla | apply Zlb | apply Zlc) | (dsimp only; with_reducible first | apply Zl8 | apply Zl2 | apply Zld) | with_reducible assumption | omega | (dsimp only; omega)))
        clear hwv h0
        go_wp2
        go_roundw
        case rel =>
          exact ⟨xn, l, rfl, by omega, hll, ownB_bel HOW.out hbw, HWV.out.symm, HBE.out.trans (hbw.mono hws)⟩
        case measure => simp [intOf]; omega
end Go.Proofs.YtlnedapimmabdaaGreatDoor
