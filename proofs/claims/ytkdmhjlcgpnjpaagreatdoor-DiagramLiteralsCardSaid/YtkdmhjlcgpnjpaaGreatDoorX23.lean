/- Value. -/
import Derived.Test.YtkdmhjlcgpnjpaaGreatDoorX22
namespace Go.Proofs.YtkdmhjlcgpnjpaaGreatDoor
set_option linter.unusedVariables false
set_option linter.unusedSimpArgs false
open Go.RowKit Go.Maps
attribute [local go_sem low] Bel.cell Bel.frozen alloc_cell alloc_frozen
attribute [local go_sem] calmOp chainOp yieldsC grows
variable {rk : Nat → Nat}

def boolsD (bl : List Bool) : List Value := bl.map Value.bool
/-- The values of the variables. -/
def envD (bl : List Bool) (i : Nat) : Bool := bl.getD i false
theorem boolsD_at {w : World} {va : Option Addr} {vc : Nat} {bl : List Bool} (h : ShowsV w (.slice va bl.length vc) (boolsD bl)) {i : Nat} (hi : i < bl.length) : ∃ g off, va = some ⟨g, off, none⟩ ∧ w.cell? ⟨g, off + i, none⟩ = some (.bool (envD bl i)) := by
  obtain ⟨a, cap, e, hc⟩ := showsV_at h
  have hl : (boolsD bl).length = bl.length := List.length_map ..
  injection e with e1 e2 e3
  subst e1
  obtain ⟨g, off, he, hcs⟩ := hc (by omega)
  refine ⟨g, off, he, hcs i _ ?_⟩
  unfold boolsD envD
  rw [List.getElem?_map, List.getD_eq_getElem?_getD, List.getElem?_eq_getElem hi]
  rfl
set_option maxRecDepth 100000 in
set_option maxHeartbeats 6400000 in
theorem dValue_size (x : DN) (va : Option Addr) (n vc : Nat) (w : World) (hx : DNok rk w x) (he : enoughD (x.2.2.1.map z3) (n : Int) = false) :
    Calls Tryz.prog 38 #[dnV x, .slice va n vc] w (Ret (.tuple #[.bool false, .int .i64 5]) w) := by
  have HK := Lib.hid (fun w' (hb : Below w.heap.size w w') => (show Calls Tryz.prog 37 #[.agg #[.slice x.1 x.2.2.1.length x.2.1, .int .i64 (x.2.2.2 : Int)]] w' (Ret (.int .i64 0) w') from by
    obtain ⟨o1, o2, o3, o4⟩ := hx.di.of hb
    have h := dCheck_any _ o2 o3 x.1 x.2.1 _ o4 w' o1
    rw [show chkD (toI x).2.2.1 (toI x).2.2.2 = 0 from hx.chk, show (toI x).2.2.1.length = x.2.2.1.length from List.length_map ..] at h
    exact h))
  have HE := Lib.hid (fun w' (hb : Below w.heap.size w w') => (show Calls Tryz.prog 51 #[.agg #[.slice x.1 x.2.2.1.length x.2.1, .int .i64 (x.2.2.2 : Int)], .int .i64 (n : Int)] w' (Ret (.bool (enoughD (x.2.2.1.map z3) (n : Int))) w') from by
    have h := enough_any (x.2.2.1.map z3) x.1 x.2.1 (x.2.2.2 : Int) (n : Int) w' ((hx.ind.of hb).up hb.size) (by rw [List.length_map]; have := hx.len; omega)
    rw [List.length_map] at h
    exact h))
  rw [he] at HE
  obtain ⟨ad, cap, M, r⟩ := x
  dsimp only at HK HE ⊢
  clear hx he
  go_enter Tryz.func38, Tryz.ntmps38
  go_wp2_with fail
  refine (HK.out _ (by (repeat' (first | (with_reducible exact Below.refl _ _) | (with_reducible exact Nat.le_refl _) | (with_reducible refine Below.bel ?_ ?_) | (with_reducible refine Below.alloc ?_ ?_ _) | (with_reducible refine Below.drew ?_) | (with_reducible refine Below.drawsN ?_ _) | (with_reducible refine Below.setCell ?_ ?_ _) | (with_reducible refine le_bel ?_) | (with_reducible refine le_alloc ?_) | (with_reducible refine le_setCell ?_) | (with_reducible refine le_drew ?_) | (with_reducible refine le_drawsN ?_) | (dsimp only; with_reducible refine le_bel ?_) | (dsimp only; with_reducible refine Nat.le_refl _) | (dsimp only; with_reducible refine le_bel_add ?_) | (with_reducible assumption) | omega | (dsimp only; omega))))).mono ?_
  rintro _ _ ⟨rfl, y1, rfl⟩
  dsimp only
  go_wp2_with fail
  refine (HE.out _ (by (repeat' (first | (with_reducible exact Below.refl _ _) | (with_reducible exact Nat.le_refl _) | (with_reducible refine Below.bel ?_ ?_) | (with_reducible refine Below.alloc ?_ ?_ _) | (with_reducible refine Below.drew ?_) | (with_reducible refine Below.drawsN ?_ _) | (with_reducible refine Below.setCell ?_ ?_ _) | (with_reducible refine le_bel ?_) | (with_reducible refine le_alloc ?_) | (with_reducible refine le_setCell ?_) | (with_reducible refine le_drew ?_) | (with_reducible refine le_drawsN ?_) | (dsimp only; with_reducible refine le_bel ?_) | (dsimp only; with_reducible refine Nat.le_refl _) | (dsimp only; with_reducible refine le_bel_add ?_) | (with_reducible assumption) | omega | (dsimp only; omega))))).mono ?_
  rintro _ _ ⟨rfl, y2, rfl⟩
  dsimp only
  go_wp2
  refine bodyPost_ret (v := .tuple #[.bool false, .int .i64 5]) (by simp [results, Tryz.results38, go_sem]) rfl (Ret.mk rfl (by (repeat' (first | (with_reducible exact Below.refl _ _) | (with_reducible exact Nat.le_refl _) | (with_reducible refine Below.bel ?_ ?_) | (with_reducible refine Below.alloc ?_ ?_ _) | (with_reducible refine Below.drew ?_) | (with_reducible refine Below.drawsN ?_ _) | (with_reducible refine Below.setCell ?_ ?_ _) | (with_reducible refine le_bel ?_) | (with_reducible refine le_alloc ?_) | (with_reducible refine le_setCell ?_) | (with_reducible refine le_drew ?_) | (with_reducible refine le_drawsN ?_) | (dsimp only; with_reducible refine le_bel ?_) | (dsimp only; with_reducible refine Nat.le_refl _) | (dsimp only; with_reducible refine le_bel_add ?_) | (with_reducible assumption) | omega | (dsimp only; omega)))))
set_option maxRecDepth 100000 in
set_option maxHeartbeats 6400000 in
theorem dValue_bad (x : DI) (va : Option Addr) (n vc : Nat) (w : World) (q : Nat) (hx : DIok w x) (hq : chkD x.2.2.1 x.2.2.2 = q) (h0 : q ≠ 0) :
    Calls Tryz.prog 38 #[diV x, .slice va n vc] w (Ret (.tuple #[.bool false, .int .i64 (q : Int)]) w) := by
  have HK := Lib.hid (fun w' (hb : Below w.heap.size w w') => (show Calls Tryz.prog 37 #[.agg #[.slice x.1 x.2.2.1.length x.2.1, .int .i64 x.2.2.2]] w' (Ret (.int .i64 (q : Int)) w') from by
    obtain ⟨o1, o2, o3, o4⟩ := hx.of hb
    have h := dCheck_any _ o2 o3 x.1 x.2.1 _ o4 w' o1
    rw [hq] at h
    exact h))
  have f0 : ((q : Int) != 0) = true := by simp; omega
  obtain ⟨ad, cap, M, r⟩ := x
  dsimp only at HK hx ⊢
  clear hx hq h0
  go_enter Tryz.func38, Tryz.ntmps38
  go_wp2_with fail
  refine (HK.out _ (by (repeat' (first | (with_reducible exact Below.refl _ _) | (with_reducible exact Nat.le_refl _) | (with_reducible refine Below.bel ?_ ?_) | (with_reducible refine Below.alloc ?_ ?_ _) | (with_reducible refine Below.drew ?_) | (with_reducible refine Below.drawsN ?_ _) | (with_reducible refine Below.setCell ?_ ?_ _) | (with_reducible refine le_bel ?_) | (with_reducible refine le_alloc ?_) | (with_reducible refine le_setCell ?_) | (with_reducible refine le_drew ?_) | (with_reducible refine le_drawsN ?_) | (dsimp only; with_reducible refine le_bel ?_) | (dsimp only; with_reducible refine Nat.le_refl _) | (dsimp only; with_reducible refine le_bel_add ?_) | (with_reducible assumption) | omega | (dsimp only; omega))))).mono ?_
  rintro _ _ ⟨rfl, y1, rfl⟩
  dsimp only
  go_wp2
  refine bodyPost_ret (v := .tuple #[.bool false, .int .i64 (q : Int)]) (by simp [results, Tryz.results38, go_sem]) rfl (Ret.mk rfl (by (repeat' (first | (with_reducible exact Below.refl _ _) | (with_reducible exact Nat.le_refl _) | (with_reducible refine Below.bel ?_ ?_) | (with_reducible refine Below.alloc ?_ ?_ _) | (with_reducible refine Below.drew ?_) | (with_reducible refine Below.drawsN ?_ _) | (with_reducible refine Below.setCell ?_ ?_ _) | (with_reducible refine le_bel ?_) | (with_reducible refine le_alloc ?_) | (with_reducible refine le_setCell ?_) | (with_reducible refine le_drew ?_) | (with_reducible refine le_drawsN ?_) | (dsimp only; with_reducible refine le_bel ?_) | (dsimp only; with_reducible refine Nat.le_refl _) | (dsimp only; with_reducible refine le_bel_add ?_) | (with_reducible assumption) | omega | (dsimp only; omega)))))
set_option maxRecDepth 100000 in
set_option maxHeartbeats 6400000 in
theorem dValue_ok (x : DN) (va : Option Addr) (bl : List Bool) (vc : Nat) (w : World) (hx : DNok rk w x) (hs : ShowsV w (.slice va bl.length vc) (boolsD bl)) (he : ∀ y ∈ x.2.2.1, y.1 < bl.length) (hbl : bl.length ≤ 1000000) :
    Calls Tryz.prog 38 #[dnV x, .slice va bl.length vc] w (Ret (.tuple #[.bool (val3 (envD bl) x.2.2.1 x.2.2.2), .int .i64 0]) w) := by
  have HK := Lib.hid (fun w' (hb : Below w.heap.size w w') => (show Calls Tryz.prog 37 #[.agg #[.slice x.1 x.2.2.1.length x.2.1, .int .i64 (x.2.2.2 : Int)]] w' (Ret (.int .i64 0) w') from by
    obtain ⟨o1, o2, o3, o4⟩ := hx.di.of hb
    have h := dCheck_any _ o2 o3 x.1 x.2.1 _ o4 w' o1
    rw [show chkD (toI x).2.2.1 (toI x).2.2.2 = 0 from hx.chk, show (toI x).2.2.1.length = x.2.2.1.length from List.length_map ..] at h
    exact h))
  have HE := Lib.hid (fun w' (hb : Below w.heap.size w w') => (show Calls Tryz.prog 51 #[.agg #[.slice x.1 x.2.2.1.length x.2.1, .int .i64 (x.2.2.2 : Int)], .int .i64 (bl.length : Int)] w' (Ret (.bool (enoughD (x.2.2.1.map z3) (bl.length : Int))) w') from by
    have h := enough_any (x.2.2.1.map z3) x.1 x.2.1 (x.2.2.2 : Int) (bl.length : Int) w' ((hx.ind.of hb).up hb.size) (by rw [List.length_map]; have := hx.len; omega)
    rw [List.length_map] at h
    exact h))
  have hen : enoughD (x.2.2.1.map z3) (bl.length : Int) = true := (enoughD_iff _ _).2 fun y hy => by
    obtain ⟨z, hz, rfl⟩ := List.mem_map.1 hy
    have := he z hz
    show (z.1 : Int) < _
    omega
  rw [hen] at HE
  have hlen := hx.len
  have hroot := hx.root
  have HG := Lib.hid hx.good
  have HI := Lib.hid hx.ind
  have HS := Lib.hid hs
  have HEN := Lib.hid he
  obtain ⟨ad, cap, M, r⟩ := x
  dsimp only at HK HE hlen hroot HG HI HEN ⊢
  obtain ⟨q, hq⟩ : ∃ q, val3 (envD bl) M r = q := ⟨_, rfl⟩
  rw [hq]
  have HQ := Lib.hid hq
  clear hx he hen hs hq
  go_enter Tryz.func38, Tryz.ntmps38
  go_wp2_with fail
  refine (HK.out _ (by (repeat' (first | (with_reducible exact Below.refl _ _) | (with_reducible exact Nat.le_refl _) | (with_reducible refine Below.bel ?_ ?_) | (with_reducible refine Below.alloc ?_ ?_ _) | (with_reducible refine Below.drew ?_) | (with_reducible refine Below.drawsN ?_ _) | (with_reducible refine Below.setCell ?_ ?_ _) | (with_reducible refine le_bel ?_) | (with_reducible refine le_alloc ?_) | (with_reducible refine le_setCell ?_) | (with_reducible refine le_drew ?_) | (with_reducible refine le_drawsN ?_) | (dsimp only; with_reducible refine le_bel ?_) | (dsimp only; with_reducible refine Nat.le_refl _) | (dsimp only; with_reducible refine le_bel_add ?_) | (with_reducible assumption) | omega | (dsimp only; omega))))).mono ?_
  rintro _ _ ⟨rfl, y1, rfl⟩
  dsimp only
  go_wp2_with fail
  refine (HE.out _ (by (repeat' (first | (with_reducible exact Below.refl _ _) | (with_reducible exact Nat.le_refl _) | (with_reducible refine Below.bel ?_ ?_) | (with_reducible refine Below.alloc ?_ ?_ _) | (with_reducible refine Below.drew ?_) | (with_reducible refine Below.drawsN ?_ _) | (with_reducible refine Below.setCell ?_ ?_ _) | (with_reducible refine le_bel ?_) | (with_reducible refine le_alloc ?_) | (with_reducible refine le_setCell ?_) | (with_reducible refine le_drew ?_) | (with_reducible refine le_drawsN ?_) | (dsimp only; with_reducible refine le_bel ?_) | (dsimp only; with_reducible refine Nat.le_refl _) | (dsimp only; with_reducible refine le_bel_add ?_) | (with_reducible assumption) | omega | (dsimp only; omega))))).mono ?_
  rintro _ _ ⟨rfl, y2, rfl⟩
  have hbz : Below w.heap.size w y2.w := by (repeat' (first | (with_reducible exact Below.refl _ _) | (with_reducible exact Nat.le_refl _) | (with_reducible refine Below.bel ?_ ?_) | (with_reducible refine Below.alloc ?_ ?_ _) | (with_reducible refine Below.drew ?_) | (with_reducible refine Below.drawsN ?_ _) | (with_reducible refine Below.setCell ?_ ?_ _) | (with_reducible refine le_bel ?_) | (with_reducible refine le_alloc ?_) | (with_reducible refine le_setCell ?_) | (with_reducible refine le_drew ?_) | (with_reducible refine le_drawsN ?_) | (dsimp only; with_reducible refine le_bel ?_) | (dsimp only; with_reducible refine Nat.le_refl _) | (dsimp only; with_reducible refine le_bel_add ?_) | (with_reducible assumption) | omega | (dsimp only; omega)))
  have o0 := obj_in y2.below (obj_in y1.below (World.alloc_heap_new w (.cells #[.slice ad M.length cap, .int .i64 (r : Int)] 30 (0, 0))))
  obtain ⟨d0, d1, -⟩ := cells2 o0
  obtain ⟨Z, hZ⟩ : ∃ Z, y2.w = Z := ⟨_, rfl⟩
  rw [hZ] at hbz d0 d1 ⊢
  have HBZ := Lib.hid hbz
  clear o0 hZ hbz y2 y1
  dsimp only
  go_wp2_with fail
  go_loopw [7] (fun pv wr => ∃ p : Nat, pv = .int .i64 (p : Int) ∧ p < M.length + 2 ∧ val3 (envD bl) M p = q ∧ ∃ y : Bel Z, wr = y.w) (fun pv _ => (intOf pv).toNat)
  case atStart => exact ⟨r, rfl, hroot, HQ.out, ⟨Z, Below.refl _ _⟩, rfl⟩
  case round =>
    obtain ⟨p, rfl, hp, hv, y, rfl⟩ := hrel
    have HV := Lib.hid hv
    have hbz := HBZ.out
    have hsz := hbz.size
    clear hv
    rcases Nat.lt_or_ge p 2 with hp2 | hp2
    · have f1 : decide ((1 : Int) < (p : Int)) = false := decide_eq_false (by omega)
      have f2 : ((p : Int) == 1) = q := by
        have := HV.out
        rcases (show p = 0 ∨ p = 1 by omega) with rfl | rfl
        · rw [val3_0] at this; rw [← this]; rfl
        · rw [val3_1] at this; rw [← this]; rfl
      go_wp2
      refine bodyPost_ret (v := .tuple #[.bool q, .int .i64 0]) (by simp [results, Tryz.results38, go_sem]) rfl (Ret.mk rfl (by (repeat' (first | (with_reducible exact Below.refl _ _) | (with_reducible exact Nat.le_refl _) | (with_reducible refine Below.bel ?_ ?_) | (with_reducible refine Below.alloc ?_ ?_ _) | (with_reducible refine Below.drew ?_) | (with_reducible refine Below.drawsN ?_ _) | (with_reducible refine Below.setCell ?_ ?_ _) | (with_reducible refine le_bel ?_) | (with_reducible refine le_alloc ?_) | (with_reducible refine le_setCell ?_) | (with_reducible refine le_drew ?_) | (with_reducible refine le_drawsN ?_) | (dsimp only; with_reducible refine le_bel ?_) | (dsimp only; with_reducible refine Nat.le_refl _) | (dsimp only; with_reducible refine le_bel_add ?_) | (with_reducible assumption) | omega | (dsimp only; omega)))))
    · obtain ⟨a1, a2, a3, a4, a5, a6, a7⟩ := node3_ok HG.out hp hp2
      have hvn := val3_node HG.out (envD bl) (node3_some hp hp2)
      rw [Nat.sub_add_cancel hp2, HV.out] at hvn
      obtain ⟨g, off, hadd, hg, hcs⟩ := (HI.out.of hbz) (by rw [List.length_map]; omega)
      subst hadd
      obtain ⟨x0, x1, x2⟩ := hcs (p - 2) (z3 (node3 M p)) (by rw [List.getElem?_map, node3_some hp hp2]; rfl)
      dsimp only [z3] at x0 x1 x2
      have hxl := HEN.out _ (List.mem_of_getElem? (node3_some hp hp2))
      obtain ⟨gv, ov, hva, hcv⟩ := boolsD_at (showsV_of HS.out hbz) hxl
      subst hva
      obtain ⟨xa, hxa⟩ : ∃ z, (node3 M p).1 = z := ⟨_, rfl⟩
      obtain ⟨xn, hxn⟩ : ∃ z, (node3 M p).2.1 = z := ⟨_, rfl⟩
      obtain ⟨xy, hxy⟩ : ∃ z, (node3 M p).2.2 = z := ⟨_, rfl⟩
      rw [hxa] at x0 hxl hcv hvn
      rw [hxn] at x1 a1 hvn
      rw [hxy] at x2 a2 hvn
      obtain ⟨b, hb⟩ : ∃ b, envD bl xa = b := ⟨_, rfl⟩
      rw [hb] at hcv hvn
      obtain ⟨pp, hpp⟩ : ∃ pp, p - 2 = pp := ⟨_, rfl⟩
      rw [hpp] at x0 x1 x2
      have f1 : decide ((1 : Int) < (p : Int)) = true := decide_eq_true (by omega)
      have hpi : ((p : Int) - 2) = (pp : Int) := by omega
      have hib : (0 ≤ (pp : Int) ∧ (pp : Int) < (M.length : Int)) := ⟨by omega, by omega⟩
      have hiv : (0 ≤ (xa : Int) ∧ (xa : Int) < (bl.length : Int)) := ⟨by omega, by omega⟩
      have HVN := Lib.hid hvn
      clear hcs hvn hxa hxn hxy hb a3 a4 a5 a6 a7
      cases b
      · go_wp2
        go_roundw
        case rel =>
          refine ⟨xn, rfl, by omega, ?_, ⟨y.w.alloc (.cells #[.int .i64 (xa : Int), .int .i64 (xn : Int), .int .i64 (xy : Int)] 55 (0, 0)), by (repeat' (first | (with_reducible exact Below.refl _ _) | (with_reducible exact Nat.le_refl _) | (with_reducible refine Below.bel ?_ ?_) | (with_reducible refine Below.alloc ?_ ?_ _) | (with_reducible refine Below.drew ?_) | (with_reducible refine Below.drawsN ?_ _) | (with_reducible refine Below.setCell ?_ ?_ _) | (with_reducible refine le_bel ?_) | (with_reducible refine le_alloc ?_) | (with_reducible refine le_setCell ?_) | (with_reducible refine le_drew ?_) | (with_reducible refine le_drawsN ?_) | (dsimp only; with_reducible refine le_bel ?_) | (dsimp only; with_reducible refine Nat.le_refl _) | (dsimp only; with_reducible refine le_bel_add ?_) | (with_reducible assumption) | omega | (dsimp only; omega)))⟩, rfl⟩
          have := HVN.out
          simpa using this.symm
        case measure => simp [intOf]; omega
      · go_wp2
        go_roundw
        case rel =>
          refine ⟨xy, rfl, by omega, ?_, ⟨y.w.alloc (.cells #[.int .i64 (xa : Int), .int .i64 (xn : Int), .int .i64 (xy : Int)] 55 (0, 0)), by (repeat' (first | (with_reducible exact Below.refl _ _) | (with_reducible exact Nat.le_refl _) | (with_reducible refine Below.bel ?_ ?_) | (with_reducible refine Below.alloc ?_ ?_ _) | (with_reducible refine Below.drew ?_) | (with_reducible refine Below.drawsN ?_ _) | (with_reducible refine Below.setCell ?_ ?_ _) | (with_reducible refine le_bel ?_) | (with_reducible refine le_alloc ?_) | (with_reducible refine le_setCell ?_) | (with_reducible refine le_drew ?_) | (with_reducible refine le_drawsN ?_) | (dsimp only; with_reducible refine le_bel ?_) | (dsimp only; with_reducible refine Nat.le_refl _) | (dsimp only; with_reducible refine le_bel_add ?_) | (with_reducible assumption) | omega | (dsimp only; omega)))⟩, rfl⟩
          have := HVN.out
          simpa using this.symm
        case measure => simp [intOf]; omega
end Go.Proofs.YtkdmhjlcgpnjpaaGreatDoor
