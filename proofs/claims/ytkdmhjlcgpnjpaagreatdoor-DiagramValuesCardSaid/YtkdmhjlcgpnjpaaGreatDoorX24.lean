/- Support. -/
import Derived.Test.YtkdmhjlcgpnjpaaGreatDoorXG
import Derived.Test.YtkdmhjlcgpnjpaaGreatDoorS2
namespace Go.Proofs.YtkdmhjlcgpnjpaaGreatDoor
set_option linter.unusedVariables false
set_option linter.unusedSimpArgs false
open Go.RowKit Go.Maps
attribute [local go_sem low] Bel.cell Bel.frozen alloc_cell alloc_frozen
attribute [local go_sem] calmOp chainOp yieldsC grows
variable {rk : Nat → Nat}

def varsL (M : List (Nat × Nat × Nat)) : List Int := M.map fun x => (x.1 : Int)
/-- The variables of nodes, in order. -/
def supL (M : List (Nat × Nat × Nat)) : List Int := Lib.compact ((varsL M).mergeSort fun x y => decide (x ≤ y))
theorem varsL_take {M : List (Nat × Nat × Nat)} {k : Nat} {x : Nat × Nat × Nat} (h : M[k]? = some x) : varsL (M.take (k + 1)) = varsL (M.take k) ++ [(x.1 : Int)] := by
  unfold varsL
  rw [List.take_add_one, h, List.map_append]
  rfl
def RetSup (l : List Int) (w : World) (e : Ending) (w' : World) : Prop := ∃ v, e = .returned v ∧ OwnV w' w.heap.size 3 v (intsV l) ∧ Below w.heap.size w w'
set_option maxRecDepth 100000 in
set_option maxHeartbeats 6400000 in
theorem dsupport_any (M : List (Nat × Nat × Nat)) (ad : Option Addr) (cap : Nat) (r : Int) (w : World) (hi : InD w.heap.size w ad (M.map z3)) (hl : M.length ≤ 1000000) :
    Calls Tryz.prog 80 #[.agg #[.slice ad M.length cap, .int .i64 r]] w (RetSup (supL M) w) := by
  obtain ⟨i0, hi0, hz0, hz1, hz2⟩ := info_parts Tryz.infoI
  have HI := Lib.hid hi
  clear hi
  go_enter Tryz.func80, Tryz.ntmps80
  go_wp2
  go_loopw [3, 9] (fun ov iv wr => ∃ k : Nat, iv = .int .i64 (k : Int) ∧ k ≤ M.length ∧ OwnV wr (w.heap.size + 1) 3 ov (intsV (varsL (M.take k))) ∧ Below w.heap.size w wr ∧ w.heap.size + 1 ≤ wr.heap.size) (fun _ iv _ => M.length - (intOf iv).toNat)
  case atStart => exact ⟨0, rfl, by omega, World.ownsRow_nil _ _ _ _, by (repeat' (first | (with_reducible first | exact Below.refl _ _ | exact Nat.le_refl _ | refine Below.bel ?_ ?_ | refine Below.alloc ?_ ?_ _ | refine Below.drew ?_ | refine Below.drawsN ?_ _ | refine Below.setCell ?_ ?_ _ | refine le_bel ?_ | refine le_alloc ?_ | refine le_setCell ?_ | refine le_drew ?_ | refine le_drawsN ?_) | (dsimp only; with_reducible first | refine le_bel ?_ | refine Nat.le_refl _ | refine le_bel_add ?_) | (with_reducible assumption) | omega | (dsimp only; omega))), by simp⟩
  case round =>
    obtain ⟨k, rfl, hk, how, hbe, hsz⟩ := hrel
    have HOW := Lib.hid how
    have HBE := Lib.hid hbe
    have hlv : (intsV (varsL (M.take k))).length = k := by unfold intsV varsL; rw [List.length_map, List.length_map, List.length_take]; omega
    have HON := Lib.hid (show wr.ownsRow (w.heap.size + 1) 3 1 u3 k (intsV (varsL (M.take k))) from by have h := how; unfold OwnV at h; rw [hlv] at h; exact h)
    clear how
    rcases Nat.lt_or_ge k M.length with hkl | hkl
    · obtain ⟨x, hx⟩ : ∃ x, M[k]? = some x := ⟨_, List.getElem?_eq_getElem hkl⟩
      obtain ⟨g, off, hadd, hg, hcs⟩ := (HI.out.of hbe) (by rw [List.length_map]; omega)
      subst hadd
      obtain ⟨x0, x1, x2⟩ := hcs k (z3 x) (by rw [List.getElem?_map, hx]; rfl)
      dsimp only [z3] at x0 x1 x2
      have f0 : decide ((k : Int) < (M.length : Int)) = true := decide_eq_true (by omega)
      have hib : (0 ≤ (k : Int) ∧ (k : Int) < (M.length : Int)) := ⟨by omega, by omega⟩
      have HX := Lib.hid hx
      obtain ⟨xa, xn, xy⟩ := x
      dsimp only at x0 x1 x2
      clear hcs hx hbe hlv
      go_wp2_with (at_builtin; refine wpList_append_own _ rfl _ _ 71 rfl (w.heap.size + 1) 3 i0 (.int .i64 0) 1 8 Tryz.underlying71 hi0 hz0 hz1 hz2 rfl (by decide) _ k (intsV (varsL (M.take k))) rfl (World.ownsRow.alloc (World.ownsRow.alloc (HON.out) _) _) ⟨wr.heap.size + 1, 0, none⟩ 1 1 [.int .i64 (xa : Int)] rfl rfl (by have h := cell_one_new (wr.alloc (.cells #[.int .i64 (xa : Int), .int .i64 (xn : Int), .int .i64 (xy : Int)] 55 (0, 0))) (.int .i64 (xa : Int)) 3; rw [World.size_alloc] at h; exact h) (by simp [Value.oneCell']) (by unfold maxLen; omega) (by omega) (by simp; omega) ?_; intro vv w1 hown1 hgrow1 hnil1; clear hnil1; have HOW1 := Lib.hid hown1; have HGR1 := Lib.hid hgrow1; clear hown1 hgrow1)
      have hs1 := HGR1.out.size
      simp only [World.size_alloc] at hs1
      go_roundw
      case rel =>
        refine ⟨k + 1, by go_num, by omega, ?_, ?_, by omega⟩
        · rw [varsL_take HX.out]
          show w1.ownsRow (w.heap.size + 1) 3 1 vv _ _
          have e : intsV (varsL (M.take k) ++ [(xa : Int)]) = intsV (varsL (M.take k)) ++ [.int .i64 (xa : Int)] := by simp [intsV]
          have hlv : (intsV (varsL (M.take k))).length = k := by unfold intsV varsL; rw [List.length_map, List.length_map, List.length_take]; omega
          rw [e, List.length_append, hlv]
          exact HOW1.out
        · exact ((HBE.out.alloc (by omega) _).alloc (by simp; omega) _).grown HGR1.out (by simp; omega) (fun g hg => by have := (World.ownsRow.lt HON.out g hg).1; omega)
      case measure => simp [intOf]; omega
    · have hke : k = M.length := by omega
      subst hke
      have f0 : decide ((M.length : Int) < (M.length : Int)) = false := decide_eq_false (by omega)
      rw [List.take_length] at HOW
      have hvl : (varsL M).length ≤ 100000000 := by unfold varsL; rw [List.length_map]; omega
      have HS := Lib.hid (sort_own wr (w.heap.size + 1) u3 (varsL M) HOW.out hvl)
      have hlo : ∀ g, u3.ownBlock = some g → w.heap.size + 1 ≤ g := fun g hg => (World.ownsRow.lt HON.out g hg).1
      have HLO := Lib.hid hlo
      have HCO := Lib.hid (fun w' (h : OwnV w' (w.heap.size + 1) 3 u3 (intsV ((varsL M).mergeSort fun x y => decide (x ≤ y)))) => compact_own w' (w.heap.size + 1) u3 _ h (by rw [List.length_mergeSort]; exact hvl))
      clear hlv hlo hvl
      go_wp2_with fail
      refine HS.out.mono ?_
      rintro _ W1 ⟨rfl, how1, hg1⟩
      have HOW1 := Lib.hid how1
      have HG1 := Lib.hid hg1
      clear how1 hg1
      dsimp only
      go_wp2_with fail
      refine (HCO.out _ HOW1.out).mono ?_
      rintro _ W2 ⟨v2, rfl, how2, hg2, hv2⟩
      have HOW2 := Lib.hid how2
      have HG2 := Lib.hid hg2
      clear how2 hg2 hv2
      dsimp only
      go_wp2
      refine bodyPost_ret (v := v2) (by simp [results, Tryz.results80, go_sem]) rfl ⟨v2, rfl, ?_, ?_⟩
      · obtain ⟨hxl, ⟨e1, e2⟩ | ⟨g, cap, cur, e1, hg, hh, hn, hc, hcs, hcur⟩⟩ := HOW2.out
        · exact ⟨hxl, .inl ⟨e1, e2⟩⟩
        · exact ⟨hxl, .inr ⟨g, cap, cur, e1, by omega, hh, hn, hc, hcs, hcur⟩⟩
      · have b1 := HBE.out.grown HG1.out (by omega) (fun g hg => by have := HLO.out g hg; omega)
        exact b1.grown HG2.out (by have := HG1.out.size; omega) (fun g hg => by have := HLO.out g hg; omega)
set_option maxRecDepth 100000 in
theorem dSupport_ok (x : DN) (w : World) (hx : DNok rk w x) : Calls Tryz.prog 39 #[dnV x] w (fun e w' => ∃ v, e = .returned (.tuple #[v, .int .i64 0]) ∧ OwnV w' w.heap.size 3 v (intsV (supL x.2.2.1)) ∧ Below w.heap.size w w') := by
  have HK := Lib.hid (fun w' (hb : Below w.heap.size w w') => (show Calls Tryz.prog 37 #[.agg #[.slice x.1 x.2.2.1.length x.2.1, .int .i64 (x.2.2.2 : Int)]] w' (Ret (.int .i64 0) w') from by
    obtain ⟨o1, o2, o3, o4⟩ := hx.di.of hb
    have h := dCheck_any _ o2 o3 x.1 x.2.1 _ o4 w' o1
    rw [show chkD (toI x).2.2.1 (toI x).2.2.2 = 0 from hx.chk, show (toI x).2.2.1.length = x.2.2.1.length from List.length_map ..] at h
    exact h))
  have HS := Lib.hid (fun w' (hb : Below w.heap.size w w') => dsupport_any x.2.2.1 x.1 x.2.1 (x.2.2.2 : Int) w' ((hx.ind.of hb).up hb.size) (by have := hx.len; omega))
  obtain ⟨ad, cap, M, r⟩ := x
  dsimp only at HK HS ⊢
  obtain ⟨sl, hsl⟩ : ∃ sl, supL M = sl := ⟨_, rfl⟩
  rw [hsl] at HS ⊢
  clear hx hsl
  go_enter Tryz.func39, Tryz.ntmps39
  go_wp2_with fail
  refine (HK.out _ (by (repeat' (first | (with_reducible first | exact Below.refl _ _ | exact Nat.le_refl _ | refine Below.bel ?_ ?_ | refine Below.alloc ?_ ?_ _ | refine Below.drew ?_ | refine Below.drawsN ?_ _ | refine Below.setCell ?_ ?_ _ | refine le_bel ?_ | refine le_alloc ?_ | refine le_setCell ?_ | refine le_drew ?_ | refine le_drawsN ?_) | (dsimp only; with_reducible first | refine le_bel ?_ | refine Nat.le_refl _ | refine le_bel_add ?_) | (with_reducible assumption) | omega | (dsimp only; omega))))).mono ?_
  rintro _ _ ⟨rfl, y1, rfl⟩
  have hb1 : Below w.heap.size w y1.w := by (repeat' (first | (with_reducible first | exact Below.refl _ _ | exact Nat.le_refl _ | refine Below.bel ?_ ?_ | refine Below.alloc ?_ ?_ _ | refine Below.drew ?_ | refine Below.drawsN ?_ _ | refine Below.setCell ?_ ?_ _ | refine le_bel ?_ | refine le_alloc ?_ | refine le_setCell ?_ | refine le_drew ?_ | refine le_drawsN ?_) | (dsimp only; with_reducible first | refine le_bel ?_ | refine Nat.le_refl _ | refine le_bel_add ?_) | (with_reducible assumption) | omega | (dsimp only; omega)))
  have hs1 := hb1.size
  dsimp only
  go_wp2_with fail
  refine (HS.out _ (by (repeat' (first | (with_reducible first | exact Below.refl _ _ | exact Nat.le_refl _ | refine Below.bel ?_ ?_ | refine Below.alloc ?_ ?_ _ | refine Below.drew ?_ | refine Below.drawsN ?_ _ | refine Below.setCell ?_ ?_ _ | refine le_bel ?_ | refine le_alloc ?_ | refine le_setCell ?_ | refine le_drew ?_ | refine le_drawsN ?_) | (dsimp only; with_reducible first | refine le_bel ?_ | refine Nat.le_refl _ | refine le_bel_add ?_) | (with_reducible assumption) | omega | (dsimp only; omega))))).mono ?_
  rintro _ W2 ⟨v2, rfl, how2, hb2⟩
  have HOW2 := Lib.hid how2
  clear how2
  dsimp only
  go_wp2
  refine bodyPost_ret (v := .tuple #[v2, .int .i64 0]) (by simp [results, Tryz.results39, go_sem]) rfl ⟨v2, rfl, ?_, hb1.trans (hb2.mono hs1)⟩
  obtain ⟨hxl, ⟨e1, e2⟩ | ⟨g, cap, cur, e1, hg, hh, hn, hc, hcs, hcur⟩⟩ := HOW2.out
  · exact ⟨hxl, .inl ⟨e1, e2⟩⟩
  · exact ⟨hxl, .inr ⟨g, cap, cur, e1, by omega, hh, hn, hc, hcs, hcur⟩⟩
set_option maxRecDepth 100000 in
theorem dSupport_bad (x : DI) (w : World) (q : Nat) (hx : DIok w x) (hq : chkD x.2.2.1 x.2.2.2 = q) (h0 : q ≠ 0) :
    Calls Tryz.prog 39 #[diV x] w (Ret (.tuple #[.slice none 0 0, .int .i64 (q : Int)]) w) := by
  have HK := Lib.hid (fun w' (hb : Below w.heap.size w w') => (show Calls Tryz.prog 37 #[.agg #[.slice x.1 x.2.2.1.length x.2.1, .int .i64 x.2.2.2]] w' (Ret (.int .i64 (q : Int)) w') from by
    obtain ⟨o1, o2, o3, o4⟩ := hx.of hb
    have h := dCheck_any _ o2 o3 x.1 x.2.1 _ o4 w' o1
    rw [hq] at h
    exact h))
  have f0 : ((q : Int) != 0) = true := by simp; omega
  obtain ⟨ad, cap, M, r⟩ := x
  dsimp only at HK hx ⊢
  clear hx hq h0
  go_enter Tryz.func39, Tryz.ntmps39
  go_wp2_with fail
  refine (HK.out _ (by (repeat' (first | (with_reducible first | exact Below.refl _ _ | exact Nat.le_refl _ | refine Below.bel ?_ ?_ | refine Below.alloc ?_ ?_ _ | refine Below.drew ?_ | refine Below.drawsN ?_ _ | refine Below.setCell ?_ ?_ _ | refine le_bel ?_ | refine le_alloc ?_ | refine le_setCell ?_ | refine le_drew ?_ | refine le_drawsN ?_) | (dsimp only; with_reducible first | refine le_bel ?_ | refine Nat.le_refl _ | refine le_bel_add ?_) | (with_reducible assumption) | omega | (dsimp only; omega))))).mono ?_
  rintro _ _ ⟨rfl, y1, rfl⟩
  dsimp only
  go_wp2
  refine bodyPost_ret (v := .tuple #[.slice none 0 0, .int .i64 (q : Int)]) (by simp [results, Tryz.results39, go_sem]) rfl (Ret.mk rfl (by (repeat' (first | (with_reducible first | exact Below.refl _ _ | exact Nat.le_refl _ | refine Below.bel ?_ ?_ | refine Below.alloc ?_ ?_ _ | refine Below.drew ?_ | refine Below.drawsN ?_ _ | refine Below.setCell ?_ ?_ _ | refine le_bel ?_ | refine le_alloc ?_ | refine le_setCell ?_ | refine le_drew ?_ | refine le_drawsN ?_) | (dsimp only; with_reducible first | refine le_bel ?_ | refine Nat.le_refl _ | refine le_bel_add ?_) | (with_reducible assumption) | omega | (dsimp only; omega)))))
end Go.Proofs.YtkdmhjlcgpnjpaaGreatDoor
