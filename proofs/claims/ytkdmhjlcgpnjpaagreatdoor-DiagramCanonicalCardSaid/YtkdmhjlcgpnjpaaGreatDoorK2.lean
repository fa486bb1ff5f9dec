/- A struct of three cells that is stored whole, and what lies elsewhere. Make. -/
import Derived.Test.YtkdmhjlcgpnjpaaGreatDoorH3
import Derived.Test.YtkdmhjlcgpnjpaaGreatDoorFm
import Derived.Test.YtkdmhjlcgpnjpaaGreatDoorFt
import Derived.Test.YtkdmhjlcgpnjpaaGreatDoorG8
namespace Go.Proofs.YtkdmhjlcgpnjpaaGreatDoor
set_option linter.unusedVariables false
set_option linter.unusedSimpArgs false
open Go.RowKit F
theorem insF_set3 {n m c : Nat} {w : World} {ad : Option Addr} {l : List F} {x y z : Value} (hc : c < m) (hn : n ≤ m) (h : InsF (fun b => m ≤ b) w ad l) : InsF (fun b => n ≤ b) (((w.setCell ⟨c, 0, none⟩ x).setCell ⟨c, 1, none⟩ y).setCell ⟨c, 2, none⟩ z) ad l := by
  refine (h.move (fun k o u hk hu => ?_) (fun b _ h => h)).imp (fun b _ h => by omega)
  have hne : k ≠ c := by omega
  rw [World.cell?_of_block (Below.heap_setCell _ _ _ k hne), World.cell?_of_block (Below.heap_setCell _ _ _ k hne), World.cell?_of_block (Below.heap_setCell _ _ _ k hne)]
  exact hu
end Go.Proofs.YtkdmhjlcgpnjpaaGreatDoor

namespace Go.Proofs.YtkdmhjlcgpnjpaaGreatDoor
set_option linter.unusedVariables false
set_option linter.unusedSimpArgs false
open Go.RowKit F
attribute [local go_sem low] Bel.cell Bel.frozen alloc_cell alloc_frozen
attribute [local go_sem] calmOp chainOp yieldsC grows

def bytesV (l : List UInt8) : List Value := l.map fun c => .int .u8 (c.toNat : Int)
theorem runM_snoc (l : List UInt8) (c : UInt8) : runM (l ++ [c]) = stepM (runM l) c.toNat := by unfold runM; rw [List.foldl_append]; rfl
theorem runM_good (l : List UInt8) (h : l.length ≤ 30) : GoodM l.length (runM l) := by
  have := goodM_fold l 0 [] goodM_nil (by omega)
  rw [Nat.zero_add] at this
  exact this
theorem new_at (W : World) (o : Obj) {n : Nat} (h : W.heap.size = n) : (W.alloc o).heap[n]? = some o := by subst h; exact World.alloc_heap_new W o
theorem ownG_cap {w : World} {base : Nat} {Q : Nat → Prop} {e : TypeId} {a : Option Addr} {n c : Nat} {l : List F} (h : OwnG w base Q e (.slice a n c) l) : n ≤ c := by
  obtain ⟨us, h1, ⟨hxl, ⟨hv, h0⟩ | ⟨g, cap, cur, hv, hg, hh, hn, hc, hcs, hcur⟩⟩, h3⟩ := h
  · injection hv with e1 e2 e3
    omega
  · injection hv with e1 e2 e3
    omega
theorem ownG_child {w : World} {base : Nat} {Q : Nat → Prop} {e : TypeId} {b off n m c : Nat} {l : List F} (h : OwnG w base Q e (.slice (some ⟨b, off, none⟩) n c) l) {j : Nat} {g : F} (hj : l[j]? = some g) {ad : Option Addr} {cap : Nat} (hc : w.cell? ⟨b, off + j * 3 + 2, none⟩ = some (.slice ad g.l.length cap)) :
    InsF (fun k => Q k ∧ (Value.slice (some ⟨b, off, none⟩) m c).ownBlock ≠ some k) w ad g.l := by
  obtain ⟨us, h1, ⟨hxl, ⟨hv, h0⟩ | ⟨g', cap', cur, hv, hg, hh, hn, hcp, hcs, hcur⟩⟩, h3⟩ := h
  · cases hv
  · injection hv with e1 e2 e3
    injection e1 with e1
    injection e1 with e4 e5
    subst e4 e5
    obtain ⟨ad', cp, hu⟩ := map_fst_get h1 hj
    obtain ⟨_, _, k2⟩ := cells3_at us j g ad' cp hu
    have hjl : j < l.length := (List.getElem?_eq_some_iff.1 hj).1
    have hcell : w.cell? ⟨b, j * 3 + 2, none⟩ = some (.slice ad' g.l.length cp) := by
      rw [← hcur, List.getElem?_take_of_lt (by omega)] at k2
      simp [World.cell?, hh]
      simpa using k2
    rw [Nat.zero_add, hcell] at hc
    injection hc with hc
    injection hc with e6 e7 e8
    subst e6
    exact h3 j g ad' cp hu
theorem ownG_dropC {w w' : World} {base : Nat} {Q P : Nat → Prop} {e : TypeId} {b off n c : Nat} {l : List F} (h : OwnG w base Q e (.slice (some ⟨b, off, none⟩) n c) l) (m L0 : Nat) (hP : ∀ k, k < w.heap.size → Q k → (Value.slice (some ⟨b, off, none⟩) m c).ownBlock ≠ some k → P k) (hw : Below w.heap.size w w') :
    CellsF P w' b (off + L0 * 3) (l.drop L0) := by
  refine cellsF_mk fun j t hj => ?_
  rw [List.getElem?_drop] at hj
  obtain ⟨oa, oc, hov, hoi⟩ := ownG_ins h
  injection hov with h1 h2 h3
  subst h1 h3
  obtain ⟨b', off', hadd, hp, hcs⟩ := insF_at hoi (by have := (List.getElem?_eq_some_iff.1 hj).1; omega)
  injection hadd with hadd
  injection hadd with e1 e2
  subst e1 e2
  obtain ⟨c0, c1, ad, cap, c2, _⟩ := cellF_open (hcs _ t hj)
  have hch := ownG_child (m := m) h hj c2
  rw [show off + L0 * 3 + j * 3 = off + (L0 + j) * 3 by omega]
  exact cellF_mk (below_cell hw _ _ _ c0) (below_cell hw _ _ _ c1) (below_cell hw _ _ _ c2) ((hch.imp fun k hk hq => hP k hk hq.1 hq.2).of hw)
def lastM : List F → F | [t] => t | st => nd 3 0 st
def MSt (w wr : World) (v : Value) (st : List F) : Prop :=
  OwnG wr (w.heap.size + 1) (fun b => w.heap.size + 1 ≤ b) 26 v st ∧ wr.heap[w.heap.size]? = some (.cells #[.int .i64 0, .int .i64 0, .slice none 0 0] 26 (0, 0)) ∧ Below w.heap.size w wr ∧ w.heap.size + 1 ≤ wr.heap.size
theorem MSt.next {w wr Z w1 : World} {v v' : Value} {l l' : List F} (h : MSt w wr v l) (hz : Below wr.heap.size wr Z) (hb : Below (w.heap.size + 1) Z w1) (ho : OwnG w1 (w.heap.size + 1) (fun b => w.heap.size + 1 ≤ b) 26 v' l') : MSt w w1 v' l' := by
  obtain ⟨_, a1, a2, a3⟩ := h
  have hsz : w.heap.size + 1 ≤ w1.heap.size := Nat.le_trans a3 (Nat.le_trans hz.size hb.size)
  exact ⟨ho, obj_below hb (by omega) (obj_bel ⟨_, hz⟩ a1), (a2.trans (hz.mono a2.size)).trans (hb.mono (by omega)), hsz⟩
set_option maxRecDepth 100000 in
set_option maxHeartbeats 12800000 in
theorem Make_any (code : List UInt8) (ca : Option Addr) (cc : Nat) (w : World) (hs : ShowsV w (.slice ca code.length cc) (bytesV code)) (hl : code.length ≤ 30) :
    Calls Tryz.prog 14 #[.slice ca code.length cc] w (RetF (mkF code) w) := by
  obtain ⟨i0, hi0, hz0, hz1, hz2⟩ := info_parts Tryz.infoF
  have HS := Lib.hid hs
  clear hs
  go_enter Tryz.func14, Tryz.ntmps14
  go_wp2
  go_loopw [3, 4] (fun v i wr => ∃ k : Nat, i = .int .i64 (k : Int) ∧ k ≤ code.length ∧ MSt w wr v (runM (code.take k))) (fun _ i _ => 100 - (intOf i).toNat)
  case atStart => exact ⟨0, rfl, by omega, ownG_nil _ _ _ _, World.alloc_heap_new _ _, by (repeat' (first | (with_reducible first | exact Below.refl _ _ | exact Nat.le_refl _ | refine Below.bel ?_ ?_ | refine Below.alloc ?_ ?_ _ | refine Below.drew ?_ | refine Below.drawsN ?_ _ | refine Below.setCell ?_ ?_ _ | refine le_bel ?_ | refine le_alloc ?_ | refine le_setCell ?_ | refine le_drew ?_ | refine le_drawsN ?_) | (dsimp only; with_reducible first | refine le_bel ?_ | refine Nat.le_refl _ | refine le_bel_add ?_) | (with_reducible assumption) | omega | (dsimp only; omega))), by simp⟩
  case round =>
    obtain ⟨k, rfl, hk, hst⟩ := hrel
    have HST := Lib.hid hst
    obtain ⟨hown, hrz, hb, hsz⟩ := hst
    have hgood := runM_good (code.take k) (by rw [List.length_take]; omega)
    have hgl := hgood.len
    rw [List.length_take] at hgl
    obtain ⟨st, hstk⟩ : ∃ st, runM (code.take k) = st := ⟨_, rfl⟩
    rw [hstk] at hown hgood hgl HST
    obtain ⟨va, vc, rfl⟩ := ownG_val hown
    obtain ⟨N, hN⟩ : ∃ N, st.length = N := ⟨_, rfl⟩
    rw [hN] at hown hgl HST ⊢
    have hN60 : N ≤ 60 := by omega
    rcases Nat.lt_or_ge k code.length with hkl | hkl
    · obtain ⟨c, hc⟩ := some_at hkl
      have hcv : (bytesV code)[k]? = some (.int .u8 (c.toNat : Int)) := by unfold bytesV; rw [List.getElem?_map, hc]; rfl
      rcases showsV_of HS.out hb with ⟨h0, _⟩ | ⟨b, off, cp, hv, _, hcells⟩
      · rw [h0] at hcv; cases hcv
      · injection hv with e1 e2 e3
        subst e1
        have hcell := hcells k _ hcv
        have hib : (0 ≤ (k : Int) ∧ (k : Int) < (code.length : Int)) := ⟨by omega, by omega⟩
        have f0 : decide ((k : Int) < (code.length : Int)) = true := decide_eq_true (by omega)
        have f1 : decide ((k : Int) < 30) = true := decide_eq_true (by omega)
        have HSTEP := Lib.hid (show runM (code.take (k + 1)) = stepM st c.toNat by rw [List.take_add_one, hc, Option.toList_some, runM_snoc, hstk])
        have hC : c.toNat < 256 := by have := c.toBitVec.isLt; exact this
        obtain ⟨C, hCC⟩ : ∃ C, c.toNat = C := ⟨_, rfl⟩
        rw [hCC] at hcell hC HSTEP
        obtain ⟨n, hn⟩ : ∃ n, C / 8 = n := ⟨_, rfl⟩
        obtain ⟨r, hr⟩ : ∃ r, C % 8 = r := ⟨_, rfl⟩
        have hq8 : (C : Int) / 8 = (n : Int) := by omega
        have hr8 : (C : Int) % 8 = (r : Int) := by omega
        have hr7 : r ≤ 7 := by omega
        have hn31 : n ≤ 31 := by omega
        have HSX := Lib.hid (show stepM st C = if r ≤ 2 then st ++ [nd 1 ((n % 6 : Nat) : Int) []] else if r = 3 then st ++ [nd (5 + ((n % 2 : Nat) : Int)) 0 []] else if r = 4 then notM st n else joinM st n by unfold stepM; rw [hr, hn])
        have HO := Lib.hid hown
        clear hcells hcv hc e2 e3 hown hrz hgood hn hr hCC
        obtain ⟨A6, hA6⟩ : ∃ A6 : Nat, n % 6 = A6 := ⟨_, rfl⟩
        obtain ⟨R2, hR2⟩ : ∃ R2 : Nat, n % 2 = R2 := ⟨_, rfl⟩
        have hn6 : (n : Int) % 6 = (A6 : Int) := by omega
        have hn2 : (n : Int) % 2 = (R2 : Int) := by omega
        rw [hA6, hR2] at HSX
        have hz := World.alloc_heap_new wr (.cells #[.int .i64 0, .int .i64 0, .slice none 0 0] 26)
        obtain ⟨g0, g1, g2⟩ := box3f hz
        have hcases : r ≤ 2 ∨ r = 3 ∨ r = 4 ∨ (5 ≤ r ∧ r ≤ 7) := by omega
        rcases hcases with h | rfl | rfl | h
        · have HEQ := Lib.hid (show (if r ≤ 2 then st ++ [nd 1 (A6 : Int) []] else if r = 3 then st ++ [nd (5 + (R2 : Int)) 0 []] else if r = 4 then notM st n else joinM st n) = st ++ [nd 1 (A6 : Int) []] by rw [if_pos h])
          have HOS := HO
          have HLN := Lib.hid hN
          have HUI := Lib.hid (show InsF (fun b => w.heap.size + 1 ≤ b ∧ (Value.slice va N vc).ownBlock ≠ some b) ((wr.alloc (.cells #[.int .i64 1, .int .i64 A6, .slice none 0 0] 26)).alloc (.cells #[.int .i64 1, .int .i64 A6, .slice none 0 0] 26)) none (nd 1 (A6 : Int) []).l from insF_nil _ _ _)
          have hr3 : r = 0 ∨ r = 1 ∨ r = 2 := by omega
          rcases hr3 with rfl | rfl | rfl
          · have hr8' : (C : Int) % 8 = 0 := by omega
            clear hr8 h
            have hbz : Below wr.heap.size wr (((wr.alloc (.cells #[.int .i64 1, .int .i64 A6, .slice none 0 0] 26))).alloc (.cells #[.int .i64 1, .int .i64 A6, .slice none 0 0] 26)) := by (repeat' (first | (with_reducible first | exact Below.refl _ _ | exact Nat.le_refl _ | refine Below.bel ?_ ?_ | refine Below.alloc ?_ ?_ _ | refine Below.drew ?_ | refine Below.drawsN ?_ _ | refine Below.setCell ?_ ?_ _ | refine le_bel ?_ | refine le_alloc ?_ | refine le_setCell ?_ | refine le_drew ?_ | refine le_drawsN ?_) | (dsimp only; with_reducible first | refine le_bel ?_ | refine Nat.le_refl _ | refine le_bel_add ?_) | (with_reducible assumption) | omega | (dsimp only; omega)))
            have HOZ := Lib.hid (show OwnG (((wr.alloc (.cells #[.int .i64 1, .int .i64 A6, .slice none 0 0] 26))).alloc (.cells #[.int .i64 1, .int .i64 A6, .slice none 0 0] 26)) (w.heap.size + 1) (fun b => w.heap.size + 1 ≤ b) 26 (.slice va N vc) st from ownG_bel HOS.out ⟨_, hbz⟩)
            have hul : ((nd 1 (A6 : Int) [])).l.length = 0 := rfl
            have HCZ := Lib.hid (show InsC (fun b => w.heap.size + 1 ≤ b ∧ (Value.slice va N vc).ownBlock ≠ some b) (((wr.alloc (.cells #[.int .i64 1, .int .i64 A6, .slice none 0 0] 26))).alloc (.cells #[.int .i64 1, .int .i64 A6, .slice none 0 0] 26)) (some ⟨(wr.heap.size + 1), 0, none⟩) [(nd 1 (A6 : Int) [])] from
              insC_one (u := (nd 1 (A6 : Int) [])) (E := 26) (ad := none) (cap := 0) (by rw [hul]; exact new_at _ _ (by simp)) HUI.out)
            go_wp2_with (at_builtin; refine wpList_appG rfl (.tmp 93) (.tmp 95) 24 26 rfl i0 Tryz.underlying24 hi0 hz0 hz1 hz2 _ (w.heap.size + 1) (fun b => w.heap.size + 1 ≤ b) _ st [(nd 1 (A6 : Int) [])] (some ⟨(wr.heap.size + 1), 0, none⟩) 1 rfl HOZ.out HCZ.out rfl (by rw [HLN.out, List.length_singleton]; omega) (by simp; omega) ?_; intro va2 vc2 w4 hof hbw; rw [HLN.out, List.length_singleton] at hof; rw [HLN.out]; have HBW := Lib.hid hbw; have HOF := Lib.hid hof; have hbws := hbw.size; simp at hbws; clear hof hbw)
            go_roundw
            case rel => exact ⟨k + 1, by go_num, by omega, HST.out.next hbz HBW.out (by rw [HSTEP.out, HSX.out, HEQ.out]; exact HOF.out)⟩
            case measure => simp [intOf]; omega
          · have hr8' : (C : Int) % 8 = 1 := by omega
            clear hr8 h
            have hbz : Below wr.heap.size wr (((wr.alloc (.cells #[.int .i64 1, .int .i64 A6, .slice none 0 0] 26))).alloc (.cells #[.int .i64 1, .int .i64 A6, .slice none 0 0] 26)) := by (repeat' (first | (with_reducible first | exact Below.refl _ _ | exact Nat.le_refl _ | refine Below.bel ?_ ?_ | refine Below.alloc ?_ ?_ _ | refine Below.drew ?_ | refine Below.drawsN ?_ _ | refine Below.setCell ?_ ?_ _ | refine le_bel ?_ | refine le_alloc ?_ | refine le_setCell ?_ | refine le_drew ?_ | refine le_drawsN ?_) | (dsimp only; with_reducible first | refine le_bel ?_ | refine Nat.le_refl _ | refine le_bel_add ?_) | (with_reducible assumption) | omega | (dsimp only; omega)))
            have HOZ := Lib.hid (show OwnG (((wr.alloc (.cells #[.int .i64 1, .int .i64 A6, .slice none 0 0] 26))).alloc (.cells #[.int .i64 1, .int .i64 A6, .slice none 0 0] 26)) (w.heap.size + 1) (fun b => w.heap.size + 1 ≤ b) 26 (.slice va N vc) st from ownG_bel HOS.out ⟨_, hbz⟩)
            have hul : ((nd 1 (A6 : Int) [])).l.length = 0 := rfl
            have HCZ := Lib.hid (show InsC (fun b => w.heap.size + 1 ≤ b ∧ (Value.slice va N vc).ownBlock ≠ some b) (((wr.alloc (.cells #[.int .i64 1, .int .i64 A6, .slice none 0 0] 26))).alloc (.cells #[.int .i64 1, .int .i64 A6, .slice none 0 0] 26)) (some ⟨(wr.heap.size + 1), 0, none⟩) [(nd 1 (A6 : Int) [])] from
              insC_one (u := (nd 1 (A6 : Int) [])) (E := 26) (ad := none) (cap := 0) (by rw [hul]; exact new_at _ _ (by simp)) HUI.out)
            go_wp2_with (at_builtin; refine wpList_appG rfl (.tmp 93) (.tmp 95) 24 26 rfl i0 Tryz.underlying24 hi0 hz0 hz1 hz2 _ (w.heap.size + 1) (fun b => w.heap.size + 1 ≤ b) _ st [(nd 1 (A6 : Int) [])] (some ⟨(wr.heap.size + 1), 0, none⟩) 1 rfl HOZ.out HCZ.out rfl (by rw [HLN.out, List.length_singleton]; omega) (by simp; omega) ?_; intro va2 vc2 w4 hof hbw; rw [HLN.out, List.length_singleton] at hof; rw [HLN.out]; have HBW := Lib.hid hbw; have HOF := Lib.hid hof; have hbws := hbw.size; simp at hbws; clear hof hbw)
            go_roundw
            case rel => exact ⟨k + 1, by go_num, by omega, HST.out.next hbz HBW.out (by rw [HSTEP.out, HSX.out, HEQ.out]; exact HOF.out)⟩
            case measure => simp [intOf]; omega
          · have hr8' : (C : Int) % 8 = 2 := by omega
            clear hr8 h
            have hbz : Below wr.heap.size wr (((wr.alloc (.cells #[.int .i64 1, .int .i64 A6, .slice none 0 0] 26))).alloc (.cells #[.int .i64 1, .int .i64 A6, .slice none 0 0] 26)) := by (repeat' (first | (with_reducible first | exact Below.refl _ _ | exact Nat.le_refl _ | refine Below.bel ?_ ?_ | refine Below.alloc ?_ ?_ _ | refine Below.drew ?_ | refine Below.drawsN ?_ _ | refine Below.setCell ?_ ?_ _ | refine le_bel ?_ | refine le_alloc ?_ | refine le_setCell ?_ | refine le_drew ?_ | refine le_drawsN ?_) | (dsimp only; with_reducible first | refine le_bel ?_ | refine Nat.le_refl _ | refine le_bel_add ?_) | (with_reducible assumption) | omega | (dsimp only; omega)))
            have HOZ := Lib.hid (show OwnG (((wr.alloc (.cells #[.int .i64 1, .int .i64 A6, .slice none 0 0] 26))).alloc (.cells #[.int .i64 1, .int .i64 A6, .slice none 0 0] 26)) (w.heap.size + 1) (fun b => w.heap.size + 1 ≤ b) 26 (.slice va N vc) st from ownG_bel HOS.out ⟨_, hbz⟩)
            have hul : ((nd 1 (A6 : Int) [])).l.length = 0 := rfl
            have HCZ := Lib.hid (show InsC (fun b => w.heap.size + 1 ≤ b ∧ (Value.slice va N vc).ownBlock ≠ some b) (((wr.alloc (.cells #[.int .i64 1, .int .i64 A6, .slice none 0 0] 26))).alloc (.cells #[.int .i64 1, .int .i64 A6, .slice none 0 0] 26)) (some ⟨(wr.heap.size + 1), 0, none⟩) [(nd 1 (A6 : Int) [])] from
              insC_one (u := (nd 1 (A6 : Int) [])) (E := 26) (ad := none) (cap := 0) (by rw [hul]; exact new_at _ _ (by simp)) HUI.out)
            go_wp2_with (at_builtin; refine wpList_appG rfl (.tmp 93) (.tmp 95) 24 26 rfl i0 Tryz.underlying24 hi0 hz0 hz1 hz2 _ (w.heap.size + 1) (fun b => w.heap.size + 1 ≤ b) _ st [(nd 1 (A6 : Int) [])] (some ⟨(wr.heap.size + 1), 0, none⟩) 1 rfl HOZ.out HCZ.out rfl (by rw [HLN.out, List.length_singleton]; omega) (by simp; omega) ?_; intro va2 vc2 w4 hof hbw; rw [HLN.out, List.length_singleton] at hof; rw [HLN.out]; have HBW := Lib.hid hbw; have HOF := Lib.hid hof; have hbws := hbw.size; simp at hbws; clear hof hbw)
            go_roundw
            case rel => exact ⟨k + 1, by go_num, by omega, HST.out.next hbz HBW.out (by rw [HSTEP.out, HSX.out, HEQ.out]; exact HOF.out)⟩
            case measure => simp [intOf]; omega
        · have HEQ := Lib.hid (show (if 3 ≤ 2 then st ++ [nd 1 (A6 : Int) []] else if 3 = 3 then st ++ [nd (5 + (R2 : Int)) 0 []] else if 3 = 4 then notM st n else joinM st n) = st ++ [nd (5 + (R2 : Int)) 0 []] by rw [if_neg (by decide), if_pos rfl])
          have HOS := HO
          have HLN := Lib.hid hN
          have hr8' : (C : Int) % 8 = 3 := by omega
          have HUI := Lib.hid (show InsF (fun b => w.heap.size + 1 ≤ b ∧ (Value.slice va N vc).ownBlock ≠ some b) ((wr.alloc (.cells #[.int .i64 (5 + (R2 : Int)), .int .i64 0, .slice none 0 0] 26)).alloc (.cells #[.int .i64 (5 + (R2 : Int)), .int .i64 0, .slice none 0 0] 26)) none (nd (5 + (R2 : Int)) 0 []).l from insF_nil _ _ _)
          clear hr8
          have hbz : Below wr.heap.size wr (((wr.alloc (.cells #[.int .i64 (5 + (R2 : Int)), .int .i64 0, .slice none 0 0] 26))).alloc (.cells #[.int .i64 (5 + (R2 : Int)), .int .i64 0, .slice none 0 0] 26)) := by (repeat' (first | (with_reducible first | exact Below.refl _ _ | exact Nat.le_refl _ | refine Below.bel ?_ ?_ | refine Below.alloc ?_ ?_ _ | refine Below.drew ?_ | refine Below.drawsN ?_ _ | refine Below.setCell ?_ ?_ _ | refine le_bel ?_ | refine le_alloc ?_ | refine le_setCell ?_ | refine le_drew ?_ | refine le_drawsN ?_) | (dsimp only; with_reducible first | refine le_bel ?_ | refine Nat.le_refl _ | refine le_bel_add ?_) | (with_reducible assumption) | omega | (dsimp only; omega)))
          have HOZ := Lib.hid (show OwnG (((wr.alloc (.cells #[.int .i64 (5 + (R2 : Int)), .int .i64 0, .slice none 0 0] 26))).alloc (.cells #[.int .i64 (5 + (R2 : Int)), .int .i64 0, .slice none 0 0] 26)) (w.heap.size + 1) (fun b => w.heap.size + 1 ≤ b) 26 (.slice va N vc) st from ownG_bel HOS.out ⟨_, hbz⟩)
          have hul : ((nd (5 + (R2 : Int)) 0 [])).l.length = 0 := rfl
          have HCZ := Lib.hid (show InsC (fun b => w.heap.size + 1 ≤ b ∧ (Value.slice va N vc).ownBlock ≠ some b) (((wr.alloc (.cells #[.int .i64 (5 + (R2 : Int)), .int .i64 0, .slice none 0 0] 26))).alloc (.cells #[.int .i64 (5 + (R2 : Int)), .int .i64 0, .slice none 0 0] 26)) (some ⟨(wr.heap.size + 1), 0, none⟩) [(nd (5 + (R2 : Int)) 0 [])] from
            insC_one (u := (nd (5 + (R2 : Int)) 0 [])) (E := 26) (ad := none) (cap := 0) (by rw [hul]; exact new_at _ _ (by simp)) HUI.out)
          go_wp2_with (at_builtin; refine wpList_appG rfl (.tmp 93) (.tmp 95) 24 26 rfl i0 Tryz.underlying24 hi0 hz0 hz1 hz2 _ (w.heap.size + 1) (fun b => w.heap.size + 1 ≤ b) _ st [(nd (5 + (R2 : Int)) 0 [])] (some ⟨(wr.heap.size + 1), 0, none⟩) 1 rfl HOZ.out HCZ.out rfl (by rw [HLN.out, List.length_singleton]; omega) (by simp; omega) ?_; intro va2 vc2 w4 hof hbw; rw [HLN.out, List.length_singleton] at hof; rw [HLN.out]; have HBW := Lib.hid hbw; have HOF := Lib.hid hof; have hbws := hbw.size; simp at hbws; clear hof hbw)
          go_roundw
          case rel => exact ⟨k + 1, by go_num, by omega, HST.out.next hbz HBW.out (by rw [HSTEP.out, HSX.out, HEQ.out]; exact HOF.out)⟩
          case measure => simp [intOf]; omega
        · have hr8' : (C : Int) % 8 = 4 := by omega
          clear hr8
          rcases Nat.eq_zero_or_pos N with h0 | h0
          · subst h0
            have hst0 : st = [] := List.length_eq_zero_iff.1 hN
            have HEQ := Lib.hid (show (if 4 ≤ 2 then st ++ [nd 1 (A6 : Int) []] else if 4 = 3 then st ++ [nd (5 + (R2 : Int)) 0 []] else if 4 = 4 then notM st n else joinM st n) = st ++ [nd 2 0 [nd 1 (A6 : Int) []]] by rw [if_neg (by decide), if_neg (by decide), if_pos rfl, hst0]; unfold notM topM; simp only [List.length_nil, List.drop_nil, List.take_nil]; rw [hA6])
            have HOS := HO
            have HLN := Lib.hid hN
            have HUI := Lib.hid (show InsF (fun b => w.heap.size + 1 ≤ b ∧ (Value.slice va 0 vc).ownBlock ≠ some b) (((wr.alloc (.cells #[.int .i64 2, .int .i64 0, .slice (some ⟨wr.heap.size + 1, 0, none⟩) 1 1] 26)).alloc (.cells #[.int .i64 1, .int .i64 A6, .slice none 0 0] 26)).alloc (.cells #[.int .i64 2, .int .i64 0, .slice (some ⟨wr.heap.size + 1, 0, none⟩) 1 1] 26)) (some ⟨wr.heap.size + 1, 0, none⟩) (nd 2 0 [nd 1 (A6 : Int) []]).l from
              insF_one (u := nd 1 (A6 : Int) []) (E := 26) (ad := none) (cap := 0) (obj_below ((Below.refl _ _).alloc (Nat.le_refl _) _) (by simp) (new_at _ _ (by simp))) ⟨by omega, ownG_avoid HO.out (.inl (by omega))⟩ (insF_nil _ _ _))
            clear hst0 hN
            have hbz : Below wr.heap.size wr ((((wr.alloc (.cells #[.int .i64 2, .int .i64 0, .slice (some ⟨wr.heap.size + 1, 0, none⟩) 1 1] 26)).alloc (.cells #[.int .i64 1, .int .i64 A6, .slice none 0 0] 26))).alloc (.cells #[.int .i64 2, .int .i64 0, .slice (some ⟨wr.heap.size + 1, 0, none⟩) 1 1] 26)) := by (repeat' (first | (with_reducible first | exact Below.refl _ _ | exact Nat.le_refl _ | refine Below.bel ?_ ?_ | refine Below.alloc ?_ ?_ _ | refine Below.drew ?_ | refine Below.drawsN ?_ _ | refine Below.setCell ?_ ?_ _ | refine le_bel ?_ | refine le_alloc ?_ | refine le_setCell ?_ | refine le_drew ?_ | refine le_drawsN ?_) | (dsimp only; with_reducible first | refine le_bel ?_ | refine Nat.le_refl _ | refine le_bel_add ?_) | (with_reducible assumption) | omega | (dsimp only; omega)))
            have HOZ := Lib.hid (show OwnG ((((wr.alloc (.cells #[.int .i64 2, .int .i64 0, .slice (some ⟨wr.heap.size + 1, 0, none⟩) 1 1] 26)).alloc (.cells #[.int .i64 1, .int .i64 A6, .slice none 0 0] 26))).alloc (.cells #[.int .i64 2, .int .i64 0, .slice (some ⟨wr.heap.size + 1, 0, none⟩) 1 1] 26)) (w.heap.size + 1) (fun b => w.heap.size + 1 ≤ b) 26 (.slice va 0 vc) st from ownG_bel HOS.out ⟨_, hbz⟩)
            have hul : ((nd 2 0 [nd 1 (A6 : Int) []])).l.length = 1 := rfl
            have HCZ := Lib.hid (show InsC (fun b => w.heap.size + 1 ≤ b ∧ (Value.slice va 0 vc).ownBlock ≠ some b) ((((wr.alloc (.cells #[.int .i64 2, .int .i64 0, .slice (some ⟨wr.heap.size + 1, 0, none⟩) 1 1] 26)).alloc (.cells #[.int .i64 1, .int .i64 A6, .slice none 0 0] 26))).alloc (.cells #[.int .i64 2, .int .i64 0, .slice (some ⟨wr.heap.size + 1, 0, none⟩) 1 1] 26)) (some ⟨(wr.heap.size + 2), 0, none⟩) [(nd 2 0 [nd 1 (A6 : Int) []])] from
              insC_one (u := (nd 2 0 [nd 1 (A6 : Int) []])) (E := 26) (ad := (some ⟨wr.heap.size + 1, 0, none⟩)) (cap := 1) (by rw [hul]; exact new_at _ _ (by simp)) HUI.out)
            go_wp2_with (at_builtin; refine wpList_appG rfl (.tmp 93) (.tmp 95) 24 26 rfl i0 Tryz.underlying24 hi0 hz0 hz1 hz2 _ (w.heap.size + 1) (fun b => w.heap.size + 1 ≤ b) _ st [(nd 2 0 [nd 1 (A6 : Int) []])] (some ⟨(wr.heap.size + 2), 0, none⟩) 1 rfl HOZ.out HCZ.out rfl (by rw [HLN.out, List.length_singleton]; omega) (by simp; omega) ?_; intro va2 vc2 w4 hof hbw; rw [HLN.out, List.length_singleton] at hof; rw [HLN.out]; have HBW := Lib.hid hbw; have HOF := Lib.hid hof; have hbws := hbw.size; simp at hbws; clear hof hbw)
            go_roundw
            case rel => exact ⟨k + 1, by go_num, by omega, HST.out.next hbz HBW.out (by rw [HSTEP.out, HSX.out, HEQ.out]; exact HOF.out)⟩
            case measure => simp [intOf]; omega
          · obtain ⟨M, rfl⟩ : ∃ M, N = M + 1 := ⟨N - 1, by omega⟩
            obtain ⟨g, hg⟩ := some_at (show M < st.length by omega)
            have hcap := ownG_cap HO.out
            have hcap2 : (M : Int) ≤ (vc : Int) := by omega
            obtain ⟨oa, oc, hov, hoi⟩ := ownG_ins HO.out
            injection hov with h1 h2 h3
            subst h1 h3
            obtain ⟨gb, goff, hadd, hgp, hgcs⟩ := insF_at hoi (by omega)
            subst hadd
            obtain ⟨d0, d1, ad2, cap2, d2, hgi⟩ := cellF_open (hgcs M g hg)
            have hgi2 : InsF (fun b => w.heap.size + 1 ≤ b ∧ (Value.slice (some ⟨gb, goff, none⟩) M vc).ownBlock ≠ some b) wr ad2 g.l := ownG_child HO.out hg d2
            have HEQ := Lib.hid (show (if 4 ≤ 2 then st ++ [nd 1 (A6 : Int) []] else if 4 = 3 then st ++ [nd (5 + (R2 : Int)) 0 []] else if 4 = 4 then notM st n else joinM st n) = st.take M ++ [nd 2 0 [g]] by rw [if_neg (by decide), if_neg (by decide), if_pos rfl]; unfold notM topM; rw [hN, Nat.add_sub_cancel, drop_at hg])
            have HOS := Lib.hid (ownG_take HO.out M (by omega))
            have HLN := Lib.hid (show (st.take M).length = M by rw [List.length_take]; omega)
            have HUI := Lib.hid (show InsF (fun b => w.heap.size + 1 ≤ b ∧ (Value.slice (some ⟨gb, goff, none⟩) M vc).ownBlock ≠ some b) ((((wr.alloc (.cells #[.int .i64 2, .int .i64 0, .slice (some ⟨wr.heap.size + 2, 0, none⟩) 1 1] 26)).alloc (.cells #[.int .i64 1, .int .i64 A6, .slice none 0 0] 26)).alloc (.cells #[.int .i64 g.k, .int .i64 g.a, .slice ad2 g.l.length cap2] 26)).alloc (.cells #[.int .i64 2, .int .i64 0, .slice (some ⟨wr.heap.size + 2, 0, none⟩) 1 1] 26)) (some ⟨wr.heap.size + 2, 0, none⟩) (nd 2 0 [g]).l from
              insF_one (u := g) (E := 26) (ad := ad2) (cap := cap2) (obj_below ((Below.refl _ _).alloc (Nat.le_refl _) _) (by simp) (new_at _ _ (by simp))) ⟨by omega, ownG_avoid HOS.out (.inl (by omega))⟩ ((hgi2.of (by (repeat' (first | (with_reducible first | exact Below.refl _ _ | exact Nat.le_refl _ | refine Below.bel ?_ ?_ | refine Below.alloc ?_ ?_ _ | refine Below.drew ?_ | refine Below.drawsN ?_ _ | refine Below.setCell ?_ ?_ _ | refine le_bel ?_ | refine le_alloc ?_ | refine le_setCell ?_ | refine le_drew ?_ | refine le_drawsN ?_) | (dsimp only; with_reducible first | refine le_bel ?_ | refine Nat.le_refl _ | refine le_bel_add ?_) | (with_reducible assumption) | omega | (dsimp only; omega)))))))
            clear hg hoi hgcs hgi h2 hgp hN
            have hbz : Below wr.heap.size wr (((((wr.alloc (.cells #[.int .i64 2, .int .i64 0, .slice (some ⟨wr.heap.size + 2, 0, none⟩) 1 1] 26)).alloc (.cells #[.int .i64 1, .int .i64 A6, .slice none 0 0] 26)).alloc (.cells #[.int .i64 g.k, .int .i64 g.a, .slice ad2 g.l.length cap2] 26))).alloc (.cells #[.int .i64 2, .int .i64 0, .slice (some ⟨wr.heap.size + 2, 0, none⟩) 1 1] 26)) := by (repeat' (first | (with_reducible first | exact Below.refl _ _ | exact Nat.le_refl _ | refine Below.bel ?_ ?_ | refine Below.alloc ?_ ?_ _ | refine Below.drew ?_ | refine Below.drawsN ?_ _ | refine Below.setCell ?_ ?_ _ | refine le_bel ?_ | refine le_alloc ?_ | refine le_setCell ?_ | refine le_drew ?_ | refine le_drawsN ?_) | (dsimp only; with_reducible first | refine le_bel ?_ | refine Nat.le_refl _ | refine le_bel_add ?_) | (with_reducible assumption) | omega | (dsimp only; omega)))
            have HOZ := Lib.hid (show OwnG (((((wr.alloc (.cells #[.int .i64 2, .int .i64 0, .slice (some ⟨wr.heap.size + 2, 0, none⟩) 1 1] 26)).alloc (.cells #[.int .i64 1, .int .i64 A6, .slice none 0 0] 26)).alloc (.cells #[.int .i64 g.k, .int .i64 g.a, .slice ad2 g.l.length cap2] 26))).alloc (.cells #[.int .i64 2, .int .i64 0, .slice (some ⟨wr.heap.size + 2, 0, none⟩) 1 1] 26)) (w.heap.size + 1) (fun b => w.heap.size + 1 ≤ b) 26 (.slice (some ⟨gb, goff, none⟩) M vc) (st.take M) from ownG_bel HOS.out ⟨_, hbz⟩)
            have hul : ((nd 2 0 [g])).l.length = 1 := rfl
            have HCZ := Lib.hid (show InsC (fun b => w.heap.size + 1 ≤ b ∧ (Value.slice (some ⟨gb, goff, none⟩) M vc).ownBlock ≠ some b) (((((wr.alloc (.cells #[.int .i64 2, .int .i64 0, .slice (some ⟨wr.heap.size + 2, 0, none⟩) 1 1] 26)).alloc (.cells #[.int .i64 1, .int .i64 A6, .slice none 0 0] 26)).alloc (.cells #[.int .i64 g.k, .int .i64 g.a, .slice ad2 g.l.length cap2] 26))).alloc (.cells #[.int .i64 2, .int .i64 0, .slice (some ⟨wr.heap.size + 2, 0, none⟩) 1 1] 26)) (some ⟨(wr.heap.size + 3), 0, none⟩) [(nd 2 0 [g])] from
              insC_one (u := (nd 2 0 [g])) (E := 26) (ad := (some ⟨wr.heap.size + 2, 0, none⟩)) (cap := 1) (by rw [hul]; exact new_at _ _ (by simp)) HUI.out)
            go_wp2_with (at_builtin; refine wpList_appG rfl (.tmp 93) (.tmp 95) 24 26 rfl i0 Tryz.underlying24 hi0 hz0 hz1 hz2 _ (w.heap.size + 1) (fun b => w.heap.size + 1 ≤ b) _ (st.take M) [(nd 2 0 [g])] (some ⟨(wr.heap.size + 3), 0, none⟩) 1 rfl HOZ.out HCZ.out rfl (by rw [HLN.out, List.length_singleton]; omega) (by simp; omega) ?_; intro va2 vc2 w4 hof hbw; rw [HLN.out, List.length_singleton] at hof; rw [HLN.out]; have HBW := Lib.hid hbw; have HOF := Lib.hid hof; have hbws := hbw.size; simp at hbws; clear hof hbw)
            go_roundw
            case rel => exact ⟨k + 1, by go_num, by omega, HST.out.next hbz HBW.out (by rw [HSTEP.out, HSX.out, HEQ.out]; exact HOF.out)⟩
            case measure => simp [intOf]; omega
        · obtain ⟨T, hT⟩ : ∃ T, min N (n / 2 % 4) = T := ⟨_, rfl⟩
          obtain ⟨N2, hN2⟩ : ∃ N2, n / 2 = N2 := ⟨_, rfl⟩
          obtain ⟨N4, hN4⟩ : ∃ N4, N2 % 4 = N4 := ⟨_, rfl⟩
          have hq2 : (n : Int) / 2 = (N2 : Int) := by omega
          have hq4 : (N2 : Int) % 4 = (N4 : Int) := by omega
          have hzf := World.alloc_heap_new wr (.cells #[.int .i64 (3 + (R2 : Int)), .int .i64 0, .slice none 0 0] 26)
          have hr3 : r = 5 ∨ r = 6 ∨ r = 7 := by omega
          rcases hr3 with rfl | rfl | rfl
          · have hr8' : (C : Int) % 8 = 5 := by omega
            clear hr8
            rcases Nat.eq_zero_or_pos N with h0 | h0
            · subst h0
              have hst0 : st = [] := List.length_eq_zero_iff.1 hN
              have hlt' : ¬ ((N4 : Int) < 0) := by omega
              have HN := Lib.hid hN
              obtain ⟨DL, hDL⟩ : ∃ DL, st.drop 0 = DL := ⟨_, rfl⟩
              have HDL := Lib.hid (show DL.length = 0 by rw [← hDL, List.length_drop, hN])
              have HDS := HDL
              have HDD := Lib.hid hDL
              have HLL := Lib.hid (show 0 - min 0 N4 = 0 by omega)
              have HDE := Lib.hid (show DL = [] from List.length_eq_zero_iff.1 HDL.out)
              have hw0 : IntKind.i64.wrap 0 = 0 := by decide
              have hmin : min (0 : Int) (N4 : Int) = 0 := by omega
              rcases va with _ | ⟨gb, goff, ro⟩
              · have hvc : vc = 0 := by
                  obtain ⟨us, _, ⟨_, ⟨hv, _⟩ | ⟨_, _, _, hv, _⟩⟩, _⟩ := HO.out
                  · injection hv
                  · cases hv
                subst hvc
                clear hDL hN hT hst0
                go_wp2_with fail
                refine wp_region_plan 7 (.calm 0 (.calm 1 (.calm 2 (.calm 3 (.calm 4 (.calm 5 (.calm 6 .tail))))))) (by kernel_rfl) (by kernel_rfl) ?_
                simp only [Plan.walk, operAt, List.getElem?_cons_succ, List.getElem?_cons_zero, Option.getD_some, List.drop_succ_cons, List.drop_zero]
                repeat (refine wpX_calm (fun K hK => ?_); go_simp; first | (refine hK _ _ ?_; clear hK K) | (apply Exists.intro; refine ⟨fun _ => ?_, hK _ _ ?_⟩; (fail); clear hK K))
                refine wpX_tail ?_
                intro z
                have hzs := z.size_le
                simp at hzs
                have hbf := obj_bel z hzf
                have hbzz : Below wr.heap.size wr z.w := by (repeat' (first | (with_reducible first | exact Below.refl _ _ | exact Nat.le_refl _ | refine Below.bel ?_ ?_ | refine Below.alloc ?_ ?_ _ | refine Below.drew ?_ | refine Below.drawsN ?_ _ | refine Below.setCell ?_ ?_ _ | refine le_bel ?_ | refine le_alloc ?_ | refine le_setCell ?_ | refine le_drew ?_ | refine le_drawsN ?_) | (dsimp only; with_reducible first | refine le_bel ?_ | refine Nat.le_refl _ | refine le_bel_add ?_) | (with_reducible assumption) | omega | (dsimp only; omega)))
                have HM := Lib.hid (show InsC (fun b => (w.heap.size + 1 ≤ b ∧ b < wr.heap.size ∧ (Value.slice none 0 0).ownBlock ≠ some b) ∧ (Value.slice none 0 0).ownBlock ≠ some b) z.w none DL from (.inl HDE.out))
                go_wp2_with (at_builtin; refine wpList_appG rfl (.tmp 80) (.tmp 85) 24 26 rfl i0 Tryz.underlying24 hi0 hz0 hz1 hz2 _ z.w.heap.size (fun b => w.heap.size + 1 ≤ b ∧ b < wr.heap.size ∧ (Value.slice none 0 0).ownBlock ≠ some b) _ [] DL none 0 rfl (ownG_nil _ _ _ _) HM.out (by rw [HDS.out]; rfl) (by rw [HDL.out, List.length_nil]; omega) (Nat.le_refl _) ?_; intro va2 vc2 w1 hof hbw; rw [HDL.out, List.length_nil, Nat.zero_add] at hof; rw [HDL.out, List.length_nil, Nat.zero_add]; have HOD := Lib.hid hof; have HB1 := Lib.hid hbw; have hbf1 := Lib.hid (obj_below hbw (by omega) hbf); have hbws := hbw.size; clear hof hbw; refine Hid.out ?_)
                refine Lib.hid ?_
                obtain ⟨x0, x1, x2⟩ := box3 hbf1.out
                obtain ⟨_, _, x3⟩ := box3f hbf1.out
                have hfn := obj_set (i := 2) (.slice va2 0 vc2) hbf1.out
                obtain ⟨k0, k1, k2⟩ := box3 hfn
                have HBW1 := Lib.hid (hbzz.trans (HB1.out.mono (by omega)))
                have hbw1 := HBW1.out
                have HOS := Lib.hid (ownG_take HO.out 0 (by rw [HN.out]; omega))
                have HLN := Lib.hid (show (st.take 0).length = 0 by rw [List.length_take, HN.out]; omega)
                have HEQ := Lib.hid (show (if 5 ≤ 2 then st ++ [nd 1 (A6 : Int) []] else if 5 = 3 then st ++ [nd (5 + (R2 : Int)) 0 []] else if 5 = 4 then notM st n else joinM st n) = st.take 0 ++ [nd (3 + (R2 : Int)) 0 DL] by
                  rw [if_neg (by decide), if_neg (by decide), if_neg (by decide)]
                  unfold joinM cutM
                  rw [HN.out, hN2, hN4, hR2, HLL.out, HDD.out])
                have HUI := Lib.hid (show InsF (fun b => w.heap.size + 1 ≤ b ∧ (Value.slice none 0 0).ownBlock ≠ some b) ((w1.setCell ⟨wr.heap.size, 2, none⟩ (.slice va2 0 vc2)).alloc (.cells #[.int .i64 (3 + (R2 : Int)), .int .i64 0, .slice va2 0 vc2] 26)) va2 (nd (3 + (R2 : Int)) 0 DL).l from by
                  obtain ⟨oa5, oc5, hov5, hoi5⟩ := ownG_ins HOD.out
                  injection hov5 with y1 y2 y3
                  subst y1
                  have hav := fun b => ownG_avoid (b := b) HOS.out
                  refine InsF.of (w := w1.setCell ⟨wr.heap.size, 2, none⟩ (.slice va2 0 vc2)) ?_ ((Below.refl _ _).alloc (Nat.le_refl _) _)
                  refine (hoi5.move (fun c o u hc hu => ?_) (fun c _ hc => ?_))
                  · have hne : c ≠ wr.heap.size := by
                      rcases hc with hc | hc
                      · omega
                      · have := hc.2.1
                        omega
                    rw [World.cell?_of_block (Below.heap_setCell _ _ _ c hne)]
                    exact hu
                  · rcases hc with hc | hc
                    · exact ⟨by omega, hav c (.inl (by omega))⟩
                    · exact ⟨hc.1, hc.2.2⟩)
                have hbz : Below wr.heap.size wr (((w1.setCell ⟨wr.heap.size, 2, none⟩ (.slice va2 0 vc2))).alloc (.cells #[.int .i64 (3 + (R2 : Int)), .int .i64 0, .slice va2 0 vc2] 26)) := by (repeat' (first | (with_reducible first | exact Below.refl _ _ | exact Nat.le_refl _ | refine Below.bel ?_ ?_ | refine Below.alloc ?_ ?_ _ | refine Below.drew ?_ | refine Below.drawsN ?_ _ | refine Below.setCell ?_ ?_ _ | refine le_bel ?_ | refine le_alloc ?_ | refine le_setCell ?_ | refine le_drew ?_ | refine le_drawsN ?_) | (dsimp only; with_reducible first | refine le_bel ?_ | refine Nat.le_refl _ | refine le_bel_add ?_) | (with_reducible assumption) | omega | (dsimp only; omega)))
                have HOZ := Lib.hid (show OwnG (((w1.setCell ⟨wr.heap.size, 2, none⟩ (.slice va2 0 vc2))).alloc (.cells #[.int .i64 (3 + (R2 : Int)), .int .i64 0, .slice va2 0 vc2] 26)) (w.heap.size + 1) (fun b => w.heap.size + 1 ≤ b) 26 (.slice none 0 0) (st.take 0) from ownG_bel HOS.out ⟨_, hbz⟩)
                have hul : ((nd (3 + (R2 : Int)) 0 DL)).l.length = 0 := HDL.out
                have HCZ := Lib.hid (show InsC (fun b => w.heap.size + 1 ≤ b ∧ (Value.slice none 0 0).ownBlock ≠ some b) (((w1.setCell ⟨wr.heap.size, 2, none⟩ (.slice va2 0 vc2))).alloc (.cells #[.int .i64 (3 + (R2 : Int)), .int .i64 0, .slice va2 0 vc2] 26)) (some ⟨w1.heap.size, 0, none⟩) [(nd (3 + (R2 : Int)) 0 DL)] from
                  insC_one (u := (nd (3 + (R2 : Int)) 0 DL)) (E := 26) (ad := va2) (cap := vc2) (by rw [hul]; exact new_at _ _ (by simp)) HUI.out)
                go_wp2_with (at_builtin; refine wpList_appG rfl (.tmp 93) (.tmp 95) 24 26 rfl i0 Tryz.underlying24 hi0 hz0 hz1 hz2 _ (w.heap.size + 1) (fun b => w.heap.size + 1 ≤ b) _ (st.take 0) [(nd (3 + (R2 : Int)) 0 DL)] (some ⟨w1.heap.size, 0, none⟩) 1 rfl HOZ.out HCZ.out rfl (by rw [HLN.out, List.length_singleton]; omega) (by simp; omega) ?_; intro va2 vc2 w4 hof hbw; rw [HLN.out, List.length_singleton] at hof; rw [HLN.out]; have HBW := Lib.hid hbw; have HOF := Lib.hid hof; have hbws := hbw.size; simp at hbws; clear hof hbw)
                go_roundw
                case rel => exact ⟨k + 1, by go_num, by omega, HST.out.next hbz HBW.out (by rw [HSTEP.out, HSX.out, HEQ.out]; exact HOF.out)⟩
                case measure => simp [intOf]; omega
              · have hro : ro = none := by
                  obtain ⟨us, _, ⟨_, ⟨hv, _⟩ | ⟨_, _, _, hv, _⟩⟩, _⟩ := HO.out
                  · cases hv
                  · injection hv with e1 e2 e3
                    injection e1 with e1
                    injection e1
                subst hro
                clear hDL hN hT hst0
                go_wp2_with fail
                refine wp_region_plan 7 (.calm 0 (.calm 1 (.calm 2 (.calm 3 (.calm 4 (.calm 5 (.calm 6 .tail))))))) (by kernel_rfl) (by kernel_rfl) ?_
                simp only [Plan.walk, operAt, List.getElem?_cons_succ, List.getElem?_cons_zero, Option.getD_some, List.drop_succ_cons, List.drop_zero]
                repeat (refine wpX_calm (fun K hK => ?_); go_simp; first | (refine hK _ _ ?_; clear hK K) | (apply Exists.intro; refine ⟨fun _ => ?_, hK _ _ ?_⟩; (fail); clear hK K))
                refine wpX_tail ?_
                intro z
                have hzs := z.size_le
                simp at hzs
                have hbf := obj_bel z hzf
                have hbzz : Below wr.heap.size wr z.w := by (repeat' (first | (with_reducible first | exact Below.refl _ _ | exact Nat.le_refl _ | refine Below.bel ?_ ?_ | refine Below.alloc ?_ ?_ _ | refine Below.drew ?_ | refine Below.drawsN ?_ _ | refine Below.setCell ?_ ?_ _ | refine le_bel ?_ | refine le_alloc ?_ | refine le_setCell ?_ | refine le_drew ?_ | refine le_drawsN ?_) | (dsimp only; with_reducible first | refine le_bel ?_ | refine Nat.le_refl _ | refine le_bel_add ?_) | (with_reducible assumption) | omega | (dsimp only; omega)))
                have HM := Lib.hid (show InsC (fun b => (w.heap.size + 1 ≤ b ∧ b < wr.heap.size ∧ (Value.slice (some ⟨gb, goff, none⟩) 0 vc).ownBlock ≠ some b) ∧ (Value.slice none 0 0).ownBlock ≠ some b) z.w (some ⟨gb, goff, none⟩) DL from (.inl HDE.out))
                go_wp2_with (at_builtin; refine wpList_appG rfl (.tmp 80) (.tmp 85) 24 26 rfl i0 Tryz.underlying24 hi0 hz0 hz1 hz2 _ z.w.heap.size (fun b => w.heap.size + 1 ≤ b ∧ b < wr.heap.size ∧ (Value.slice (some ⟨gb, goff, none⟩) 0 vc).ownBlock ≠ some b) _ [] DL (some ⟨gb, goff, none⟩) vc rfl (ownG_nil _ _ _ _) HM.out (by rw [HDS.out]; rfl) (by rw [HDL.out, List.length_nil]; omega) (Nat.le_refl _) ?_; intro va2 vc2 w1 hof hbw; rw [HDL.out, List.length_nil, Nat.zero_add] at hof; rw [HDL.out, List.length_nil, Nat.zero_add]; have HOD := Lib.hid hof; have HB1 := Lib.hid hbw; have hbf1 := Lib.hid (obj_below hbw (by omega) hbf); have hbws := hbw.size; clear hof hbw; refine Hid.out ?_)
                refine Lib.hid ?_
                obtain ⟨x0, x1, x2⟩ := box3 hbf1.out
                obtain ⟨_, _, x3⟩ := box3f hbf1.out
                have hfn := obj_set (i := 2) (.slice va2 0 vc2) hbf1.out
                obtain ⟨k0, k1, k2⟩ := box3 hfn
                have HBW1 := Lib.hid (hbzz.trans (HB1.out.mono (by omega)))
                have hbw1 := HBW1.out
                have HOS := Lib.hid (ownG_take HO.out 0 (by rw [HN.out]; omega))
                have HLN := Lib.hid (show (st.take 0).length = 0 by rw [List.length_take, HN.out]; omega)
                have HEQ := Lib.hid (show (if 5 ≤ 2 then st ++ [nd 1 (A6 : Int) []] else if 5 = 3 then st ++ [nd (5 + (R2 : Int)) 0 []] else if 5 = 4 then notM st n else joinM st n) = st.take 0 ++ [nd (3 + (R2 : Int)) 0 DL] by
                  rw [if_neg (by decide), if_neg (by decide), if_neg (by decide)]
                  unfold joinM cutM
                  rw [HN.out, hN2, hN4, hR2, HLL.out, HDD.out])
                have HUI := Lib.hid (show InsF (fun b => w.heap.size + 1 ≤ b ∧ (Value.slice (some ⟨gb, goff, none⟩) 0 vc).ownBlock ≠ some b) ((w1.setCell ⟨wr.heap.size, 2, none⟩ (.slice va2 0 vc2)).alloc (.cells #[.int .i64 (3 + (R2 : Int)), .int .i64 0, .slice va2 0 vc2] 26)) va2 (nd (3 + (R2 : Int)) 0 DL).l from by
                  obtain ⟨oa5, oc5, hov5, hoi5⟩ := ownG_ins HOD.out
                  injection hov5 with y1 y2 y3
                  subst y1
                  have hav := fun b => ownG_avoid (b := b) HOS.out
                  refine InsF.of (w := w1.setCell ⟨wr.heap.size, 2, none⟩ (.slice va2 0 vc2)) ?_ ((Below.refl _ _).alloc (Nat.le_refl _) _)
                  refine (hoi5.move (fun c o u hc hu => ?_) (fun c _ hc => ?_))
                  · have hne : c ≠ wr.heap.size := by
                      rcases hc with hc | hc
                      · omega
                      · have := hc.2.1
                        omega
                    rw [World.cell?_of_block (Below.heap_setCell _ _ _ c hne)]
                    exact hu
                  · rcases hc with hc | hc
                    · exact ⟨by omega, hav c (.inl (by omega))⟩
                    · exact ⟨hc.1, hc.2.2⟩)
                have hbz : Below wr.heap.size wr (((w1.setCell ⟨wr.heap.size, 2, none⟩ (.slice va2 0 vc2))).alloc (.cells #[.int .i64 (3 + (R2 : Int)), .int .i64 0, .slice va2 0 vc2] 26)) := by (repeat' (first | (with_reducible first | exact Below.refl _ _ | exact Nat.le_refl _ | refine Below.bel ?_ ?_ | refine Below.alloc ?_ ?_ _ | refine Below.drew ?_ | refine Below.drawsN ?_ _ | refine Below.setCell ?_ ?_ _ | refine le_bel ?_ | refine le_alloc ?_ | refine le_setCell ?_ | refine le_drew ?_ | refine le_drawsN ?_) | (dsimp only; with_reducible first | refine le_bel ?_ | refine Nat.le_refl _ | refine le_bel_add ?_) | (with_reducible assumption) | omega | (dsimp only; omega)))
                have HOZ := Lib.hid (show OwnG (((w1.setCell ⟨wr.heap.size, 2, none⟩ (.slice va2 0 vc2))).alloc (.cells #[.int .i64 (3 + (R2 : Int)), .int .i64 0, .slice va2 0 vc2] 26)) (w.heap.size + 1) (fun b => w.heap.size + 1 ≤ b) 26 (.slice (some ⟨gb, goff, none⟩) 0 vc) (st.take 0) from ownG_bel HOS.out ⟨_, hbz⟩)
                have hul : ((nd (3 + (R2 : Int)) 0 DL)).l.length = 0 := HDL.out
                have HCZ := Lib.hid (show InsC (fun b => w.heap.size + 1 ≤ b ∧ (Value.slice (some ⟨gb, goff, none⟩) 0 vc).ownBlock ≠ some b) (((w1.setCell ⟨wr.heap.size, 2, none⟩ (.slice va2 0 vc2))).alloc (.cells #[.int .i64 (3 + (R2 : Int)), .int .i64 0, .slice va2 0 vc2] 26)) (some ⟨w1.heap.size, 0, none⟩) [(nd (3 + (R2 : Int)) 0 DL)] from
                  insC_one (u := (nd (3 + (R2 : Int)) 0 DL)) (E := 26) (ad := va2) (cap := vc2) (by rw [hul]; exact new_at _ _ (by simp)) HUI.out)
                go_wp2_with (at_builtin; refine wpList_appG rfl (.tmp 93) (.tmp 95) 24 26 rfl i0 Tryz.underlying24 hi0 hz0 hz1 hz2 _ (w.heap.size + 1) (fun b => w.heap.size + 1 ≤ b) _ (st.take 0) [(nd (3 + (R2 : Int)) 0 DL)] (some ⟨w1.heap.size, 0, none⟩) 1 rfl HOZ.out HCZ.out rfl (by rw [HLN.out, List.length_singleton]; omega) (by simp; omega) ?_; intro va2 vc2 w4 hof hbw; rw [HLN.out, List.length_singleton] at hof; rw [HLN.out]; have HBW := Lib.hid hbw; have HOF := Lib.hid hof; have hbws := hbw.size; simp at hbws; clear hof hbw)
                go_roundw
                case rel => exact ⟨k + 1, by go_num, by omega, HST.out.next hbz HBW.out (by rw [HSTEP.out, HSX.out, HEQ.out]; exact HOF.out)⟩
                case measure => simp [intOf]; omega
            · obtain ⟨oa, oc, hov, hoi⟩ := ownG_ins HO.out
              injection hov with h1 h2 h3
              subst h1 h3
              obtain ⟨gb, goff, hadd, hgp, hgcs⟩ := insF_at hoi (by omega)
              subst hadd
              have hcap := ownG_cap HO.out
              have HN := Lib.hid hN
              clear h2 hoi hgcs hgp
              rcases Nat.lt_or_ge N4 N with hlt | hge
              · have hlt' : (N4 : Int) < (N : Int) := by omega
                obtain ⟨L0, hL0⟩ : ∃ L0, N - N4 = L0 := ⟨_, rfl⟩
                have hsub : (N : Int) - (N4 : Int) = (L0 : Int) := by omega
                have hl1 : (0 : Int) ≤ (L0 : Int) := by omega
                have hl2 : (L0 : Int) ≤ (N : Int) := by omega
                have hl3 : (N : Int) ≤ (vc : Int) := by omega
                obtain ⟨DL, hDL⟩ : ∃ DL, st.drop L0 = DL := ⟨_, rfl⟩
                have HDL := Lib.hid (show DL.length = N4 by rw [← hDL, List.length_drop]; omega)
                have HDD := Lib.hid hDL
                have HLL := Lib.hid (show N - min N N4 = L0 by omega)
                have hwL : IntKind.i64.wrap (L0 : Int) = (L0 : Int) := IntWalk.i64_in _ (by omega)
                have hl12 : (0 ≤ (L0 : Int) ∧ (L0 : Int) ≤ (N : Int)) := ⟨hl1, hl2⟩
                have hl4 : (L0 : Int) ≤ (vc : Int) := by omega
                have HDS := Lib.hid (show DL.length = N - L0 by rw [← hDL, List.length_drop, hN])
                by_cases hvl : vc = L0
                · have e1 : N4 = 0 := by omega
                  have e2 : vc = N := by omega
                  have e3 : L0 = N := by omega
                  have HDE := Lib.hid (show DL = [] from List.length_eq_zero_iff.1 (by have := HDS.out; omega))
                  have hq4' : (N2 : Int) % 4 = 0 := by omega
                  have hlt2 : (0 : Int) < (N : Int) := by omega
                  clear hDL hN hL0 hT h0 hsub hl1 hl2 hl3 hl4 hl12 hvl hlt' hlt hq4 HDS hcap
                  subst e1
                  subst e2
                  subst e3
                  have HDS := HDL
                  have hmin : min (L0 : Int) 0 = 0 := by omega
                  go_wp2_with fail
                  refine wp_region_plan 7 (.calm 0 (.calm 1 (.calm 2 (.calm 3 (.calm 4 (.calm 5 (.calm 6 .tail))))))) (by kernel_rfl) (by kernel_rfl) ?_
                  simp only [Plan.walk, operAt, List.getElem?_cons_succ, List.getElem?_cons_zero, Option.getD_some, List.drop_succ_cons, List.drop_zero]
                  repeat (refine wpX_calm (fun K hK => ?_); go_simp; first | (refine hK _ _ ?_; clear hK K) | (apply Exists.intro; refine ⟨fun _ => ?_, hK _ _ ?_⟩; (fail); clear hK K))
                  refine wpX_tail ?_
                  intro z
                  have hzs := z.size_le
                  simp at hzs
                  have hbf := obj_bel z hzf
                  have hbzz : Below wr.heap.size wr z.w := by (repeat' (first | (with_reducible first | exact Below.refl _ _ | exact Nat.le_refl _ | refine Below.bel ?_ ?_ | refine Below.alloc ?_ ?_ _ | refine Below.drew ?_ | refine Below.drawsN ?_ _ | refine Below.setCell ?_ ?_ _ | refine le_bel ?_ | refine le_alloc ?_ | refine le_setCell ?_ | refine le_drew ?_ | refine le_drawsN ?_) | (dsimp only; with_reducible first | refine le_bel ?_ | refine Nat.le_refl _ | refine le_bel_add ?_) | (with_reducible assumption) | omega | (dsimp only; omega)))
                  have HM := Lib.hid (show InsC (fun b => (w.heap.size + 1 ≤ b ∧ b < wr.heap.size ∧ (Value.slice (some ⟨gb, goff, none⟩) L0 L0).ownBlock ≠ some b) ∧ (Value.slice none 0 0).ownBlock ≠ some b) z.w (some ⟨gb, goff, none⟩) DL from (.inl HDE.out))
                  go_wp2_with (at_builtin; refine wpList_appG rfl (.tmp 80) (.tmp 85) 24 26 rfl i0 Tryz.underlying24 hi0 hz0 hz1 hz2 _ z.w.heap.size (fun b => w.heap.size + 1 ≤ b ∧ b < wr.heap.size ∧ (Value.slice (some ⟨gb, goff, none⟩) L0 L0).ownBlock ≠ some b) _ [] DL (some ⟨gb, goff, none⟩) 0 rfl (ownG_nil _ _ _ _) HM.out (by rw [HDS.out]; rfl) (by rw [HDL.out, List.length_nil]; omega) (Nat.le_refl _) ?_; intro va2 vc2 w1 hof hbw; rw [HDL.out, List.length_nil, Nat.zero_add] at hof; rw [HDL.out, List.length_nil, Nat.zero_add]; have HOD := Lib.hid hof; have HB1 := Lib.hid hbw; have hbf1 := Lib.hid (obj_below hbw (by omega) hbf); have hbws := hbw.size; clear hof hbw; refine Hid.out ?_)
                  refine Lib.hid ?_
                  obtain ⟨x0, x1, x2⟩ := box3 hbf1.out
                  obtain ⟨_, _, x3⟩ := box3f hbf1.out
                  have hfn := obj_set (i := 2) (.slice va2 0 vc2) hbf1.out
                  obtain ⟨k0, k1, k2⟩ := box3 hfn
                  have HBW1 := Lib.hid (hbzz.trans (HB1.out.mono (by omega)))
                  have hbw1 := HBW1.out
                  have HOS := Lib.hid (ownG_take HO.out L0 (by rw [HN.out]; omega))
                  have HLN := Lib.hid (show (st.take L0).length = L0 by rw [List.length_take, HN.out]; omega)
                  have HEQ := Lib.hid (show (if 5 ≤ 2 then st ++ [nd 1 (A6 : Int) []] else if 5 = 3 then st ++ [nd (5 + (R2 : Int)) 0 []] else if 5 = 4 then notM st n else joinM st n) = st.take L0 ++ [nd (3 + (R2 : Int)) 0 DL] by
                    rw [if_neg (by decide), if_neg (by decide), if_neg (by decide)]
                    unfold joinM cutM
                    rw [HN.out, hN2, hN4, hR2, HLL.out, HDD.out])
                  have HUI := Lib.hid (show InsF (fun b => w.heap.size + 1 ≤ b ∧ (Value.slice (some ⟨gb, goff, none⟩) L0 L0).ownBlock ≠ some b) ((w1.setCell ⟨wr.heap.size, 2, none⟩ (.slice va2 0 vc2)).alloc (.cells #[.int .i64 (3 + (R2 : Int)), .int .i64 0, .slice va2 0 vc2] 26)) va2 (nd (3 + (R2 : Int)) 0 DL).l from by
                    obtain ⟨oa5, oc5, hov5, hoi5⟩ := ownG_ins HOD.out
                    injection hov5 with y1 y2 y3
                    subst y1
                    have hav := fun b => ownG_avoid (b := b) HOS.out
                    refine InsF.of (w := w1.setCell ⟨wr.heap.size, 2, none⟩ (.slice va2 0 vc2)) ?_ ((Below.refl _ _).alloc (Nat.le_refl _) _)
                    refine (hoi5.move (fun c o u hc hu => ?_) (fun c _ hc => ?_))
                    · have hne : c ≠ wr.heap.size := by
                        rcases hc with hc | hc
                        · omega
                        · have := hc.2.1
                          omega
                      rw [World.cell?_of_block (Below.heap_setCell _ _ _ c hne)]
                      exact hu
                    · rcases hc with hc | hc
                      · exact ⟨by omega, hav c (.inl (by omega))⟩
                      · exact ⟨hc.1, hc.2.2⟩)
                  have hbz : Below wr.heap.size wr (((w1.setCell ⟨wr.heap.size, 2, none⟩ (.slice va2 0 vc2))).alloc (.cells #[.int .i64 (3 + (R2 : Int)), .int .i64 0, .slice va2 0 vc2] 26)) := by (repeat' (first | (with_reducible first | exact Below.refl _ _ | exact Nat.le_refl _ | refine Below.bel ?_ ?_ | refine Below.alloc ?_ ?_ _ | refine Below.drew ?_ | refine Below.drawsN ?_ _ | refine Below.setCell ?_ ?_ _ | refine le_bel ?_ | refine le_alloc ?_ | refine le_setCell ?_ | refine le_drew ?_ | refine le_drawsN ?_) | (dsimp only; with_reducible first | refine le_bel ?_ | refine Nat.le_refl _ | refine le_bel_add ?_) | (with_reducible assumption) | omega | (dsimp only; omega)))
                  have HOZ := Lib.hid (show OwnG (((w1.setCell ⟨wr.heap.size, 2, none⟩ (.slice va2 0 vc2))).alloc (.cells #[.int .i64 (3 + (R2 : Int)), .int .i64 0, .slice va2 0 vc2] 26)) (w.heap.size + 1) (fun b => w.heap.size + 1 ≤ b) 26 (.slice (some ⟨gb, goff, none⟩) L0 L0) (st.take L0) from ownG_bel HOS.out ⟨_, hbz⟩)
                  have hul : ((nd (3 + (R2 : Int)) 0 DL)).l.length = 0 := HDL.out
                  have HCZ := Lib.hid (show InsC (fun b => w.heap.size + 1 ≤ b ∧ (Value.slice (some ⟨gb, goff, none⟩) L0 L0).ownBlock ≠ some b) (((w1.setCell ⟨wr.heap.size, 2, none⟩ (.slice va2 0 vc2))).alloc (.cells #[.int .i64 (3 + (R2 : Int)), .int .i64 0, .slice va2 0 vc2] 26)) (some ⟨w1.heap.size, 0, none⟩) [(nd (3 + (R2 : Int)) 0 DL)] from
                    insC_one (u := (nd (3 + (R2 : Int)) 0 DL)) (E := 26) (ad := va2) (cap := vc2) (by rw [hul]; exact new_at _ _ (by simp)) HUI.out)
                  go_wp2_with (at_builtin; refine wpList_appG rfl (.tmp 93) (.tmp 95) 24 26 rfl i0 Tryz.underlying24 hi0 hz0 hz1 hz2 _ (w.heap.size + 1) (fun b => w.heap.size + 1 ≤ b) _ (st.take L0) [(nd (3 + (R2 : Int)) 0 DL)] (some ⟨w1.heap.size, 0, none⟩) 1 rfl HOZ.out HCZ.out rfl (by rw [HLN.out, List.length_singleton]; omega) (by simp; omega) ?_; intro va2 vc2 w4 hof hbw; rw [HLN.out, List.length_singleton] at hof; rw [HLN.out]; have HBW := Lib.hid hbw; have HOF := Lib.hid hof; have hbws := hbw.size; simp at hbws; clear hof hbw)
                  go_roundw
                  case rel => exact ⟨k + 1, by go_num, by omega, HST.out.next hbz HBW.out (by rw [HSTEP.out, HSX.out, HEQ.out]; exact HOF.out)⟩
                  case measure => simp [intOf]; omega
                · have hmin : min (N : Int) (N4 : Int) = (N4 : Int) := by omega
                  clear hDL hN hL0 hT h0
                  go_wp2_with fail
                  refine wp_region_plan 7 (.calm 0 (.calm 1 (.calm 2 (.calm 3 (.calm 4 (.calm 5 (.calm 6 .tail))))))) (by kernel_rfl) (by kernel_rfl) ?_
                  simp only [Plan.walk, operAt, List.getElem?_cons_succ, List.getElem?_cons_zero, Option.getD_some, List.drop_succ_cons, List.drop_zero]
                  repeat (refine wpX_calm (fun K hK => ?_); go_simp; first | (refine hK _ _ ?_; clear hK K) | (apply Exists.intro; refine ⟨fun _ => ?_, hK _ _ ?_⟩; (fail); clear hK K))
                  refine wpX_tail ?_
                  intro z
                  have hzs := z.size_le
                  simp at hzs
                  have hbf := obj_bel z hzf
                  have hbzz : Below wr.heap.size wr z.w := by (repeat' (first | (with_reducible first | exact Below.refl _ _ | exact Nat.le_refl _ | refine Below.bel ?_ ?_ | refine Below.alloc ?_ ?_ _ | refine Below.drew ?_ | refine Below.drawsN ?_ _ | refine Below.setCell ?_ ?_ _ | refine le_bel ?_ | refine le_alloc ?_ | refine le_setCell ?_ | refine le_drew ?_ | refine le_drawsN ?_) | (dsimp only; with_reducible first | refine le_bel ?_ | refine Nat.le_refl _ | refine le_bel_add ?_) | (with_reducible assumption) | omega | (dsimp only; omega)))
                  have HM := Lib.hid (show InsC (fun b => (w.heap.size + 1 ≤ b ∧ b < wr.heap.size ∧ (Value.slice (some ⟨gb, goff, none⟩) L0 vc).ownBlock ≠ some b) ∧ (Value.slice none 0 0).ownBlock ≠ some b) z.w (some ⟨gb, goff + L0 * 3, none⟩) DL from (.inr ⟨gb, goff + L0 * 3, rfl, by rw [← HDD.out]; exact ownG_dropC HO.out L0 L0 (fun k hk hq ho => ⟨⟨hq, hk, ho⟩, fun h => (by cases h)⟩) hbzz⟩))
                  go_wp2_with (at_builtin; refine wpList_appG rfl (.tmp 80) (.tmp 85) 24 26 rfl i0 Tryz.underlying24 hi0 hz0 hz1 hz2 _ z.w.heap.size (fun b => w.heap.size + 1 ≤ b ∧ b < wr.heap.size ∧ (Value.slice (some ⟨gb, goff, none⟩) L0 vc).ownBlock ≠ some b) _ [] DL (some ⟨gb, goff + L0 * 3, none⟩) (vc - L0) rfl (ownG_nil _ _ _ _) HM.out (by rw [HDS.out]; rfl) (by rw [HDL.out, List.length_nil]; omega) (Nat.le_refl _) ?_; intro va2 vc2 w1 hof hbw; rw [HDL.out, List.length_nil, Nat.zero_add] at hof; rw [HDL.out, List.length_nil, Nat.zero_add]; have HOD := Lib.hid hof; have HB1 := Lib.hid hbw; have hbf1 := Lib.hid (obj_below hbw (by omega) hbf); have hbws := hbw.size; clear hof hbw; refine Hid.out ?_)
                  refine Lib.hid ?_
                  obtain ⟨x0, x1, x2⟩ := box3 hbf1.out
                  obtain ⟨_, _, x3⟩ := box3f hbf1.out
                  have hfn := obj_set (i := 2) (.slice va2 N4 vc2) hbf1.out
                  obtain ⟨k0, k1, k2⟩ := box3 hfn
                  have HBW1 := Lib.hid (hbzz.trans (HB1.out.mono (by omega)))
                  have hbw1 := HBW1.out
                  have HOS := Lib.hid (ownG_take HO.out L0 (by rw [HN.out]; omega))
                  have HLN := Lib.hid (show (st.take L0).length = L0 by rw [List.length_take, HN.out]; omega)
                  have HEQ := Lib.hid (show (if 5 ≤ 2 then st ++ [nd 1 (A6 : Int) []] else if 5 = 3 then st ++ [nd (5 + (R2 : Int)) 0 []] else if 5 = 4 then notM st n else joinM st n) = st.take L0 ++ [nd (3 + (R2 : Int)) 0 DL] by
                    rw [if_neg (by decide), if_neg (by decide), if_neg (by decide)]
                    unfold joinM cutM
                    rw [HN.out, hN2, hN4, hR2, HLL.out, HDD.out])
                  have HUI := Lib.hid (show InsF (fun b => w.heap.size + 1 ≤ b ∧ (Value.slice (some ⟨gb, goff, none⟩) L0 vc).ownBlock ≠ some b) ((w1.setCell ⟨wr.heap.size, 2, none⟩ (.slice va2 N4 vc2)).alloc (.cells #[.int .i64 (3 + (R2 : Int)), .int .i64 0, .slice va2 N4 vc2] 26)) va2 (nd (3 + (R2 : Int)) 0 DL).l from by
                    obtain ⟨oa5, oc5, hov5, hoi5⟩ := ownG_ins HOD.out
                    injection hov5 with y1 y2 y3
                    subst y1
                    have hav := fun b => ownG_avoid (b := b) HOS.out
                    refine InsF.of (w := w1.setCell ⟨wr.heap.size, 2, none⟩ (.slice va2 N4 vc2)) ?_ ((Below.refl _ _).alloc (Nat.le_refl _) _)
                    refine (hoi5.move (fun c o u hc hu => ?_) (fun c _ hc => ?_))
                    · have hne : c ≠ wr.heap.size := by
                        rcases hc with hc | hc
                        · omega
                        · have := hc.2.1
                          omega
                      rw [World.cell?_of_block (Below.heap_setCell _ _ _ c hne)]
                      exact hu
                    · rcases hc with hc | hc
                      · exact ⟨by omega, hav c (.inl (by omega))⟩
                      · exact ⟨hc.1, hc.2.2⟩)
                  have hbz : Below wr.heap.size wr (((w1.setCell ⟨wr.heap.size, 2, none⟩ (.slice va2 N4 vc2))).alloc (.cells #[.int .i64 (3 + (R2 : Int)), .int .i64 0, .slice va2 N4 vc2] 26)) := by (repeat' (first | (with_reducible first | exact Below.refl _ _ | exact Nat.le_refl _ | refine Below.bel ?_ ?_ | refine Below.alloc ?_ ?_ _ | refine Below.drew ?_ | refine Below.drawsN ?_ _ | refine Below.setCell ?_ ?_ _ | refine le_bel ?_ | refine le_alloc ?_ | refine le_setCell ?_ | refine le_drew ?_ | refine le_drawsN ?_) | (dsimp only; with_reducible first | refine le_bel ?_ | refine Nat.le_refl _ | refine le_bel_add ?_) | (with_reducible assumption) | omega | (dsimp only; omega)))
                  have HOZ := Lib.hid (show OwnG (((w1.setCell ⟨wr.heap.size, 2, none⟩ (.slice va2 N4 vc2))).alloc (.cells #[.int .i64 (3 + (R2 : Int)), .int .i64 0, .slice va2 N4 vc2] 26)) (w.heap.size + 1) (fun b => w.heap.size + 1 ≤ b) 26 (.slice (some ⟨gb, goff, none⟩) L0 vc) (st.take L0) from ownG_bel HOS.out ⟨_, hbz⟩)
                  have hul : ((nd (3 + (R2 : Int)) 0 DL)).l.length = N4 := HDL.out
                  have HCZ := Lib.hid (show InsC (fun b => w.heap.size + 1 ≤ b ∧ (Value.slice (some ⟨gb, goff, none⟩) L0 vc).ownBlock ≠ some b) (((w1.setCell ⟨wr.heap.size, 2, none⟩ (.slice va2 N4 vc2))).alloc (.cells #[.int .i64 (3 + (R2 : Int)), .int .i64 0, .slice va2 N4 vc2] 26)) (some ⟨w1.heap.size, 0, none⟩) [(nd (3 + (R2 : Int)) 0 DL)] from
                    insC_one (u := (nd (3 + (R2 : Int)) 0 DL)) (E := 26) (ad := va2) (cap := vc2) (by rw [hul]; exact new_at _ _ (by simp)) HUI.out)
                  go_wp2_with (at_builtin; refine wpList_appG rfl (.tmp 93) (.tmp 95) 24 26 rfl i0 Tryz.underlying24 hi0 hz0 hz1 hz2 _ (w.heap.size + 1) (fun b => w.heap.size + 1 ≤ b) _ (st.take L0) [(nd (3 + (R2 : Int)) 0 DL)] (some ⟨w1.heap.size, 0, none⟩) 1 rfl HOZ.out HCZ.out rfl (by rw [HLN.out, List.length_singleton]; omega) (by simp; omega) ?_; intro va2 vc2 w4 hof hbw; rw [HLN.out, List.length_singleton] at hof; rw [HLN.out]; have HBW := Lib.hid hbw; have HOF := Lib.hid hof; have hbws := hbw.size; simp at hbws; clear hof hbw)
                  go_roundw
                  case rel => exact ⟨k + 1, by go_num, by omega, HST.out.next hbz HBW.out (by rw [HSTEP.out, HSX.out, HEQ.out]; exact HOF.out)⟩
                  case measure => simp [intOf]; omega
              · have hlt' : ¬ ((N4 : Int) < (N : Int)) := by omega
                have hl3 : (N : Int) ≤ (vc : Int) := by omega
                have hw0 : IntKind.i64.wrap 0 = 0 := by decide
                obtain ⟨DL, hDL⟩ : ∃ DL, st.drop 0 = DL := ⟨_, rfl⟩
                have HDL := Lib.hid (show DL.length = N by rw [← hDL, List.length_drop]; omega)
                have HDS := HDL
                have HDD := Lib.hid hDL
                have HLL := Lib.hid (show N - min N N4 = 0 by omega)
                have hmin : min (N : Int) (N4 : Int) = (N : Int) := by omega
                clear hDL hN hT h0
                go_wp2_with fail
                refine wp_region_plan 7 (.calm 0 (.calm 1 (.calm 2 (.calm 3 (.calm 4 (.calm 5 (.calm 6 .tail))))))) (by kernel_rfl) (by kernel_rfl) ?_
                simp only [Plan.walk, operAt, List.getElem?_cons_succ, List.getElem?_cons_zero, Option.getD_some, List.drop_succ_cons, List.drop_zero]
                repeat (refine wpX_calm (fun K hK => ?_); go_simp; first | (refine hK _ _ ?_; clear hK K) | (apply Exists.intro; refine ⟨fun _ => ?_, hK _ _ ?_⟩; (fail); clear hK K))
                refine wpX_tail ?_
                intro z
                have hzs := z.size_le
                simp at hzs
                have hbf := obj_bel z hzf
                have hbzz : Below wr.heap.size wr z.w := by (repeat' (first | (with_reducible first | exact Below.refl _ _ | exact Nat.le_refl _ | refine Below.bel ?_ ?_ | refine Below.alloc ?_ ?_ _ | refine Below.drew ?_ | refine Below.drawsN ?_ _ | refine Below.setCell ?_ ?_ _ | refine le_bel ?_ | refine le_alloc ?_ | refine le_setCell ?_ | refine le_drew ?_ | refine le_drawsN ?_) | (dsimp only; with_reducible first | refine le_bel ?_ | refine Nat.le_refl _ | refine le_bel_add ?_) | (with_reducible assumption) | omega | (dsimp only; omega)))
                have HM := Lib.hid (show InsC (fun b => (w.heap.size + 1 ≤ b ∧ b < wr.heap.size ∧ (Value.slice (some ⟨gb, goff, none⟩) 0 vc).ownBlock ≠ some b) ∧ (Value.slice none 0 0).ownBlock ≠ some b) z.w (some ⟨gb, goff, none⟩) DL from (.inr ⟨gb, goff, rfl, by rw [← HDD.out]; have hq := ownG_dropC (P := fun b => (w.heap.size + 1 ≤ b ∧ b < wr.heap.size ∧ (Value.slice (some ⟨gb, goff, none⟩) 0 vc).ownBlock ≠ some b) ∧ (Value.slice none 0 0).ownBlock ≠ some b) HO.out 0 0 (fun k hk hq ho => ⟨⟨hq, hk, ho⟩, fun h => (by cases h)⟩) hbzz; simpa using hq⟩))
                go_wp2_with (at_builtin; refine wpList_appG rfl (.tmp 80) (.tmp 85) 24 26 rfl i0 Tryz.underlying24 hi0 hz0 hz1 hz2 _ z.w.heap.size (fun b => w.heap.size + 1 ≤ b ∧ b < wr.heap.size ∧ (Value.slice (some ⟨gb, goff, none⟩) 0 vc).ownBlock ≠ some b) _ [] DL (some ⟨gb, goff, none⟩) vc rfl (ownG_nil _ _ _ _) HM.out (by rw [HDS.out]; rfl) (by rw [HDL.out, List.length_nil]; omega) (Nat.le_refl _) ?_; intro va2 vc2 w1 hof hbw; rw [HDL.out, List.length_nil, Nat.zero_add] at hof; rw [HDL.out, List.length_nil, Nat.zero_add]; have HOD := Lib.hid hof; have HB1 := Lib.hid hbw; have hbf1 := Lib.hid (obj_below hbw (by omega) hbf); have hbws := hbw.size; clear hof hbw; refine Hid.out ?_)
                refine Lib.hid ?_
                obtain ⟨x0, x1, x2⟩ := box3 hbf1.out
                obtain ⟨_, _, x3⟩ := box3f hbf1.out
                have hfn := obj_set (i := 2) (.slice va2 N vc2) hbf1.out
                obtain ⟨k0, k1, k2⟩ := box3 hfn
                have HBW1 := Lib.hid (hbzz.trans (HB1.out.mono (by omega)))
                have hbw1 := HBW1.out
                have HOS := Lib.hid (ownG_take HO.out 0 (by rw [HN.out]; omega))
                have HLN := Lib.hid (show (st.take 0).length = 0 by rw [List.length_take, HN.out]; omega)
                have HEQ := Lib.hid (show (if 5 ≤ 2 then st ++ [nd 1 (A6 : Int) []] else if 5 = 3 then st ++ [nd (5 + (R2 : Int)) 0 []] else if 5 = 4 then notM st n else joinM st n) = st.take 0 ++ [nd (3 + (R2 : Int)) 0 DL] by
                  rw [if_neg (by decide), if_neg (by decide), if_neg (by decide)]
                  unfold joinM cutM
                  rw [HN.out, hN2, hN4, hR2, HLL.out, HDD.out])
                have HUI := Lib.hid (show InsF (fun b => w.heap.size + 1 ≤ b ∧ (Value.slice (some ⟨gb, goff, none⟩) 0 vc).ownBlock ≠ some b) ((w1.setCell ⟨wr.heap.size, 2, none⟩ (.slice va2 N vc2)).alloc (.cells #[.int .i64 (3 + (R2 : Int)), .int .i64 0, .slice va2 N vc2] 26)) va2 (nd (3 + (R2 : Int)) 0 DL).l from by
                  obtain ⟨oa5, oc5, hov5, hoi5⟩ := ownG_ins HOD.out
                  injection hov5 with y1 y2 y3
                  subst y1
                  have hav := fun b => ownG_avoid (b := b) HOS.out
                  refine InsF.of (w := w1.setCell ⟨wr.heap.size, 2, none⟩ (.slice va2 N vc2)) ?_ ((Below.refl _ _).alloc (Nat.le_refl _) _)
                  refine (hoi5.move (fun c o u hc hu => ?_) (fun c _ hc => ?_))
                  · have hne : c ≠ wr.heap.size := by
                      rcases hc with hc | hc
                      · omega
                      · have := hc.2.1
                        omega
                    rw [World.cell?_of_block (Below.heap_setCell _ _ _ c hne)]
                    exact hu
                  · rcases hc with hc | hc
                    · exact ⟨by omega, hav c (.inl (by omega))⟩
                    · exact ⟨hc.1, hc.2.2⟩)
                have hbz : Below wr.heap.size wr (((w1.setCell ⟨wr.heap.size, 2, none⟩ (.slice va2 N vc2))).alloc (.cells #[.int .i64 (3 + (R2 : Int)), .int .i64 0, .slice va2 N vc2] 26)) := by (repeat' (first | (with_reducible first | exact Below.refl _ _ | exact Nat.le_refl _ | refine Below.bel ?_ ?_ | refine Below.alloc ?_ ?_ _ | refine Below.drew ?_ | refine Below.drawsN ?_ _ | refine Below.setCell ?_ ?_ _ | refine le_bel ?_ | refine le_alloc ?_ | refine le_setCell ?_ | refine le_drew ?_ | refine le_drawsN ?_) | (dsimp only; with_reducible first | refine le_bel ?_ | refine Nat.le_refl _ | refine le_bel_add ?_) | (with_reducible assumption) | omega | (dsimp only; omega)))
                have HOZ := Lib.hid (show OwnG (((w1.setCell ⟨wr.heap.size, 2, none⟩ (.slice va2 N vc2))).alloc (.cells #[.int .i64 (3 + (R2 : Int)), .int .i64 0, .slice va2 N vc2] 26)) (w.heap.size + 1) (fun b => w.heap.size + 1 ≤ b) 26 (.slice (some ⟨gb, goff, none⟩) 0 vc) (st.take 0) from ownG_bel HOS.out ⟨_, hbz⟩)
                have hul : ((nd (3 + (R2 : Int)) 0 DL)).l.length = N := HDL.out
                have HCZ := Lib.hid (show InsC (fun b => w.heap.size + 1 ≤ b ∧ (Value.slice (some ⟨gb, goff, none⟩) 0 vc).ownBlock ≠ some b) (((w1.setCell ⟨wr.heap.size, 2, none⟩ (.slice va2 N vc2))).alloc (.cells #[.int .i64 (3 + (R2 : Int)), .int .i64 0, .slice va2 N vc2] 26)) (some ⟨w1.heap.size, 0, none⟩) [(nd (3 + (R2 : Int)) 0 DL)] from
                  insC_one (u := (nd (3 + (R2 : Int)) 0 DL)) (E := 26) (ad := va2) (cap := vc2) (by rw [hul]; exact new_at _ _ (by simp)) HUI.out)
                go_wp2_with (at_builtin; refine wpList_appG rfl (.tmp 93) (.tmp 95) 24 26 rfl i0 Tryz.underlying24 hi0 hz0 hz1 hz2 _ (w.heap.size + 1) (fun b => w.heap.size + 1 ≤ b) _ (st.take 0) [(nd (3 + (R2 : Int)) 0 DL)] (some ⟨w1.heap.size, 0, none⟩) 1 rfl HOZ.out HCZ.out rfl (by rw [HLN.out, List.length_singleton]; omega) (by simp; omega) ?_; intro va2 vc2 w4 hof hbw; rw [HLN.out, List.length_singleton] at hof; rw [HLN.out]; have HBW := Lib.hid hbw; have HOF := Lib.hid hof; have hbws := hbw.size; simp at hbws; clear hof hbw)
                go_roundw
                case rel => exact ⟨k + 1, by go_num, by omega, HST.out.next hbz HBW.out (by rw [HSTEP.out, HSX.out, HEQ.out]; exact HOF.out)⟩
                case measure => simp [intOf]; omega
          · have hr8' : (C : Int) % 8 = 6 := by omega
            clear hr8
            rcases Nat.eq_zero_or_pos N with h0 | h0
            · subst h0
              have hst0 : st = [] := List.length_eq_zero_iff.1 hN
              have hlt' : ¬ ((N4 : Int) < 0) := by omega
              have HN := Lib.hid hN
              obtain ⟨DL, hDL⟩ : ∃ DL, st.drop 0 = DL := ⟨_, rfl⟩
              have HDL := Lib.hid (show DL.length = 0 by rw [← hDL, List.length_drop, hN])
              have HDS := HDL
              have HDD := Lib.hid hDL
              have HLL := Lib.hid (show 0 - min 0 N4 = 0 by omega)
              have HDE := Lib.hid (show DL = [] from List.length_eq_zero_iff.1 HDL.out)
              have hw0 : IntKind.i64.wrap 0 = 0 := by decide
              have hmin : min (0 : Int) (N4 : Int) = 0 := by omega
              rcases va with _ | ⟨gb, goff, ro⟩
              · have hvc : vc = 0 := by
                  obtain ⟨us, _, ⟨_, ⟨hv, _⟩ | ⟨_, _, _, hv, _⟩⟩, _⟩ := HO.out
                  · injection hv
                  · cases hv
                subst hvc
                clear hDL hN hT hst0
                go_wp2_with fail
                refine wp_region_plan 7 (.calm 0 (.calm 1 (.calm 2 (.calm 3 (.calm 4 (.calm 5 (.calm 6 .tail))))))) (by kernel_rfl) (by kernel_rfl) ?_
                simp only [Plan.walk, operAt, List.getElem?_cons_succ, List.getElem?_cons_zero, Option.getD_some, List.drop_succ_cons, List.drop_zero]
                repeat (refine wpX_calm (fun K hK => ?_); go_simp; first | (refine hK _ _ ?_; clear hK K) | (apply Exists.intro; refine ⟨fun _ => ?_, hK _ _ ?_⟩; (fail); clear hK K))
                refine wpX_tail ?_
                intro z
                have hzs := z.size_le
                simp at hzs
                have hbf := obj_bel z hzf
                have hbzz : Below wr.heap.size wr z.w := by (repeat' (first | (with_reducible first | exact Below.refl _ _ | exact Nat.le_refl _ | refine Below.bel ?_ ?_ | refine Below.alloc ?_ ?_ _ | refine Below.drew ?_ | refine Below.drawsN ?_ _ | refine Below.setCell ?_ ?_ _ | refine le_bel ?_ | refine le_alloc ?_ | refine le_setCell ?_ | refine le_drew ?_ | refine le_drawsN ?_) | (dsimp only; with_reducible first | refine le_bel ?_ | refine Nat.le_refl _ | refine le_bel_add ?_) | (with_reducible assumption) | omega | (dsimp only; omega)))
                have HM := Lib.hid (show InsC (fun b => (w.heap.size + 1 ≤ b ∧ b < wr.heap.size ∧ (Value.slice none 0 0).ownBlock ≠ some b) ∧ (Value.slice none 0 0).ownBlock ≠ some b) z.w none DL from (.inl HDE.out))
                go_wp2_with (at_builtin; refine wpList_appG rfl (.tmp 80) (.tmp 85) 24 26 rfl i0 Tryz.underlying24 hi0 hz0 hz1 hz2 _ z.w.heap.size (fun b => w.heap.size + 1 ≤ b ∧ b < wr.heap.size ∧ (Value.slice none 0 0).ownBlock ≠ some b) _ [] DL none 0 rfl (ownG_nil _ _ _ _) HM.out (by rw [HDS.out]; rfl) (by rw [HDL.out, List.length_nil]; omega) (Nat.le_refl _) ?_; intro va2 vc2 w1 hof hbw; rw [HDL.out, List.length_nil, Nat.zero_add] at hof; rw [HDL.out, List.length_nil, Nat.zero_add]; have HOD := Lib.hid hof; have HB1 := Lib.hid hbw; have hbf1 := Lib.hid (obj_below hbw (by omega) hbf); have hbws := hbw.size; clear hof hbw; refine Hid.out ?_)
                refine Lib.hid ?_
                obtain ⟨x0, x1, x2⟩ := box3 hbf1.out
                obtain ⟨_, _, x3⟩ := box3f hbf1.out
                have hfn := obj_set (i := 2) (.slice va2 0 vc2) hbf1.out
                obtain ⟨k0, k1, k2⟩ := box3 hfn
                have HBW1 := Lib.hid (hbzz.trans (HB1.out.mono (by omega)))
                have hbw1 := HBW1.out
                have HOS := Lib.hid (ownG_take HO.out 0 (by rw [HN.out]; omega))
                have HLN := Lib.hid (show (st.take 0).length = 0 by rw [List.length_take, HN.out]; omega)
                have HEQ := Lib.hid (show (if 6 ≤ 2 then st ++ [nd 1 (A6 : Int) []] else if 6 = 3 then st ++ [nd (5 + (R2 : Int)) 0 []] else if 6 = 4 then notM st n else joinM st n) = st.take 0 ++ [nd (3 + (R2 : Int)) 0 DL] by
                  rw [if_neg (by decide), if_neg (by decide), if_neg (by decide)]
                  unfold joinM cutM
                  rw [HN.out, hN2, hN4, hR2, HLL.out, HDD.out])
                have HUI := Lib.hid (show InsF (fun b => w.heap.size + 1 ≤ b ∧ (Value.slice none 0 0).ownBlock ≠ some b) ((w1.setCell ⟨wr.heap.size, 2, none⟩ (.slice va2 0 vc2)).alloc (.cells #[.int .i64 (3 + (R2 : Int)), .int .i64 0, .slice va2 0 vc2] 26)) va2 (nd (3 + (R2 : Int)) 0 DL).l from by
                  obtain ⟨oa5, oc5, hov5, hoi5⟩ := ownG_ins HOD.out
                  injection hov5 with y1 y2 y3
                  subst y1
                  have hav := fun b => ownG_avoid (b := b) HOS.out
                  refine InsF.of (w := w1.setCell ⟨wr.heap.size, 2, none⟩ (.slice va2 0 vc2)) ?_ ((Below.refl _ _).alloc (Nat.le_refl _) _)
                  refine (hoi5.move (fun c o u hc hu => ?_) (fun c _ hc => ?_))
                  · have hne : c ≠ wr.heap.size := by
                      rcases hc with hc | hc
                      · omega
                      · have := hc.2.1
                        omega
                    rw [World.cell?_of_block (Below.heap_setCell _ _ _ c hne)]
                    exact hu
                  · rcases hc with hc | hc
                    · exact ⟨by omega, hav c (.inl (by omega))⟩
                    · exact ⟨hc.1, hc.2.2⟩)
                have hbz : Below wr.heap.size wr (((w1.setCell ⟨wr.heap.size, 2, none⟩ (.slice va2 0 vc2))).alloc (.cells #[.int .i64 (3 + (R2 : Int)), .int .i64 0, .slice va2 0 vc2] 26)) := by (repeat' (first | (with_reducible first | exact Below.refl _ _ | exact Nat.le_refl _ | refine Below.bel ?_ ?_ | refine Below.alloc ?_ ?_ _ | refine Below.drew ?_ | refine Below.drawsN ?_ _ | refine Below.setCell ?_ ?_ _ | refine le_bel ?_ | refine le_alloc ?_ | refine le_setCell ?_ | refine le_drew ?_ | refine le_drawsN ?_) | (dsimp only; with_reducible first | refine le_bel ?_ | refine Nat.le_refl _ | refine le_bel_add ?_) | (with_reducible assumption) | omega | (dsimp only; omega)))
                have HOZ := Lib.hid (show OwnG (((w1.setCell ⟨wr.heap.size, 2, none⟩ (.slice va2 0 vc2))).alloc (.cells #[.int .i64 (3 + (R2 : Int)), .int .i64 0, .slice va2 0 vc2] 26)) (w.heap.size + 1) (fun b => w.heap.size + 1 ≤ b) 26 (.slice none 0 0) (st.take 0) from ownG_bel HOS.out ⟨_, hbz⟩)
                have hul : ((nd (3 + (R2 : Int)) 0 DL)).l.length = 0 := HDL.out
                have HCZ := Lib.hid (show InsC (fun b => w.heap.size + 1 ≤ b ∧ (Value.slice none 0 0).ownBlock ≠ some b) (((w1.setCell ⟨wr.heap.size, 2, none⟩ (.slice va2 0 vc2))).alloc (.cells #[.int .i64 (3 + (R2 : Int)), .int .i64 0, .slice va2 0 vc2] 26)) (some ⟨w1.heap.size, 0, none⟩) [(nd (3 + (R2 : Int)) 0 DL)] from
                  insC_one (u := (nd (3 + (R2 : Int)) 0 DL)) (E := 26) (ad := va2) (cap := vc2) (by rw [hul]; exact new_at _ _ (by simp)) HUI.out)
                go_wp2_with (at_builtin; refine wpList_appG rfl (.tmp 93) (.tmp 95) 24 26 rfl i0 Tryz.underlying24 hi0 hz0 hz1 hz2 _ (w.heap.size + 1) (fun b => w.heap.size + 1 ≤ b) _ (st.take 0) [(nd (3 + (R2 : Int)) 0 DL)] (some ⟨w1.heap.size, 0, none⟩) 1 rfl HOZ.out HCZ.out rfl (by rw [HLN.out, List.length_singleton]; omega) (by simp; omega) ?_; intro va2 vc2 w4 hof hbw; rw [HLN.out, List.length_singleton] at hof; rw [HLN.out]; have HBW := Lib.hid hbw; have HOF := Lib.hid hof; have hbws := hbw.size; simp at hbws; clear hof hbw)
                go_roundw
                case rel => exact ⟨k + 1, by go_num, by omega, HST.out.next hbz HBW.out (by rw [HSTEP.out, HSX.out, HEQ.out]; exact HOF.out)⟩
                case measure => simp [intOf]; omega
              · have hro : ro = none := by
                  obtain ⟨us, _, ⟨_, ⟨hv, _⟩ | ⟨_, _, _, hv, _⟩⟩, _⟩ := HO.out
                  · cases hv
                  · injection hv with e1 e2 e3
                    injection e1 with e1
                    injection e1
                subst hro
                clear hDL hN hT hst0
                go_wp2_with fail
                refine wp_region_plan 7 (.calm 0 (.calm 1 (.calm 2 (.calm 3 (.calm 4 (.calm 5 (.calm 6 .tail))))))) (by kernel_rfl) (by kernel_rfl) ?_
                simp only [Plan.walk, operAt, List.getElem?_cons_succ, List.getElem?_cons_zero, Option.getD_some, List.drop_succ_cons, List.drop_zero]
                repeat (refine wpX_calm (fun K hK => ?_); go_simp; first | (refine hK _ _ ?_; clear hK K) | (apply Exists.intro; refine ⟨fun _ => ?_, hK _ _ ?_⟩; (fail); clear hK K))
                refine wpX_tail ?_
                intro z
                have hzs := z.size_le
                simp at hzs
                have hbf := obj_bel z hzf
                have hbzz : Below wr.heap.size wr z.w := by (repeat' (first | (with_reducible first | exact Below.refl _ _ | exact Nat.le_refl _ | refine Below.bel ?_ ?_ | refine Below.alloc ?_ ?_ _ | refine Below.drew ?_ | refine Below.drawsN ?_ _ | refine Below.setCell ?_ ?_ _ | refine le_bel ?_ | refine le_alloc ?_ | refine le_setCell ?_ | refine le_drew ?_ | refine le_drawsN ?_) | (dsimp only; with_reducible first | refine le_bel ?_ | refine Nat.le_refl _ | refine le_bel_add ?_) | (with_reducible assumption) | omega | (dsimp only; omega)))
                have HM := Lib.hid (show InsC (fun b => (w.heap.size + 1 ≤ b ∧ b < wr.heap.size ∧ (Value.slice (some ⟨gb, goff, none⟩) 0 vc).ownBlock ≠ some b) ∧ (Value.slice none 0 0).ownBlock ≠ some b) z.w (some ⟨gb, goff, none⟩) DL from (.inl HDE.out))
                go_wp2_with (at_builtin; refine wpList_appG rfl (.tmp 80) (.tmp 85) 24 26 rfl i0 Tryz.underlying24 hi0 hz0 hz1 hz2 _ z.w.heap.size (fun b => w.heap.size + 1 ≤ b ∧ b < wr.heap.size ∧ (Value.slice (some ⟨gb, goff, none⟩) 0 vc).ownBlock ≠ some b) _ [] DL (some ⟨gb, goff, none⟩) vc rfl (ownG_nil _ _ _ _) HM.out (by rw [HDS.out]; rfl) (by rw [HDL.out, List.length_nil]; omega) (Nat.le_refl _) ?_; intro va2 vc2 w1 hof hbw; rw [HDL.out, List.length_nil, Nat.zero_add] at hof; rw [HDL.out, List.length_nil, Nat.zero_add]; have HOD := Lib.hid hof; have HB1 := Lib.hid hbw; have hbf1 := Lib.hid (obj_below hbw (by omega) hbf); have hbws := hbw.size; clear hof hbw; refine Hid.out ?_)
                refine Lib.hid ?_
                obtain ⟨x0, x1, x2⟩ := box3 hbf1.out
                obtain ⟨_, _, x3⟩ := box3f hbf1.out
                have hfn := obj_set (i := 2) (.slice va2 0 vc2) hbf1.out
                obtain ⟨k0, k1, k2⟩ := box3 hfn
                have HBW1 := Lib.hid (hbzz.trans (HB1.out.mono (by omega)))
                have hbw1 := HBW1.out
                have HOS := Lib.hid (ownG_take HO.out 0 (by rw [HN.out]; omega))
                have HLN := Lib.hid (show (st.take 0).length = 0 by rw [List.length_take, HN.out]; omega)
                have HEQ := Lib.hid (show (if 6 ≤ 2 then st ++ [nd 1 (A6 : Int) []] else if 6 = 3 then st ++ [nd (5 + (R2 : Int)) 0 []] else if 6 = 4 then notM st n else joinM st n) = st.take 0 ++ [nd (3 + (R2 : Int)) 0 DL] by
                  rw [if_neg (by decide), if_neg (by decide), if_neg (by decide)]
                  unfold joinM cutM
                  rw [HN.out, hN2, hN4, hR2, HLL.out, HDD.out])
                have HUI := Lib.hid (show InsF (fun b => w.heap.size + 1 ≤ b ∧ (Value.slice (some ⟨gb, goff, none⟩) 0 vc).ownBlock ≠ some b) ((w1.setCell ⟨wr.heap.size, 2, none⟩ (.slice va2 0 vc2)).alloc (.cells #[.int .i64 (3 + (R2 : Int)), .int .i64 0, .slice va2 0 vc2] 26)) va2 (nd (3 + (R2 : Int)) 0 DL).l from by
                  obtain ⟨oa5, oc5, hov5, hoi5⟩ := ownG_ins HOD.out
                  injection hov5 with y1 y2 y3
                  subst y1
                  have hav := fun b => ownG_avoid (b := b) HOS.out
                  refine InsF.of (w := w1.setCell ⟨wr.heap.size, 2, none⟩ (.slice va2 0 vc2)) ?_ ((Below.refl _ _).alloc (Nat.le_refl _) _)
                  refine (hoi5.move (fun c o u hc hu => ?_) (fun c _ hc => ?_))
                  · have hne : c ≠ wr.heap.size := by
                      rcases hc with hc | hc
                      · omega
                      · have := hc.2.1
                        omega
                    rw [World.cell?_of_block (Below.heap_setCell _ _ _ c hne)]
                    exact hu
                  · rcases hc with hc | hc
                    · exact ⟨by omega, hav c (.inl (by omega))⟩
                    · exact ⟨hc.1, hc.2.2⟩)
                have hbz : Below wr.heap.size wr (((w1.setCell ⟨wr.heap.size, 2, none⟩ (.slice va2 0 vc2))).alloc (.cells #[.int .i64 (3 + (R2 : Int)), .int .i64 0, .slice va2 0 vc2] 26)) := by (repeat' (first | (with_reducible first | exact Below.refl _ _ | exact Nat.le_refl _ | refine Below.bel ?_ ?_ | refine Below.alloc ?_ ?_ _ | refine Below.drew ?_ | refine Below.drawsN ?_ _ | refine Below.setCell ?_ ?_ _ | refine le_bel ?_ | refine le_alloc ?_ | refine le_setCell ?_ | refine le_drew ?_ | refine le_drawsN ?_) | (dsimp only; with_reducible first | refine le_bel ?_ | refine Nat.le_refl _ | refine le_bel_add ?_) | (with_reducible assumption) | omega | (dsimp only; omega)))
                have HOZ := Lib.hid (show OwnG (((w1.setCell ⟨wr.heap.size, 2, none⟩ (.slice va2 0 vc2))).alloc (.cells #[.int .i64 (3 + (R2 : Int)), .int .i64 0, .slice va2 0 vc2] 26)) (w.heap.size + 1) (fun b => w.heap.size + 1 ≤ b) 26 (.slice (some ⟨gb, goff, none⟩) 0 vc) (st.take 0) from ownG_bel HOS.out ⟨_, hbz⟩)
                have hul : ((nd (3 + (R2 : Int)) 0 DL)).l.length = 0 := HDL.out
                have HCZ := Lib.hid (show InsC (fun b => w.heap.size + 1 ≤ b ∧ (Value.slice (some ⟨gb, goff, none⟩) 0 vc).ownBlock ≠ some b) (((w1.setCell ⟨wr.heap.size, 2, none⟩ (.slice va2 0 vc2))).alloc (.cells #[.int .i64 (3 + (R2 : Int)), .int .i64 0, .slice va2 0 vc2] 26)) (some ⟨w1.heap.size, 0, none⟩) [(nd (3 + (R2 : Int)) 0 DL)] from
                  insC_one (u := (nd (3 + (R2 : Int)) 0 DL)) (E := 26) (ad := va2) (cap := vc2) (by rw [hul]; exact new_at _ _ (by simp)) HUI.out)
                go_wp2_with (at_builtin; refine wpList_appG rfl (.tmp 93) (.tmp 95) 24 26 rfl i0 Tryz.underlying24 hi0 hz0 hz1 hz2 _ (w.heap.size + 1) (fun b => w.heap.size + 1 ≤ b) _ (st.take 0) [(nd (3 + (R2 : Int)) 0 DL)] (some ⟨w1.heap.size, 0, none⟩) 1 rfl HOZ.out HCZ.out rfl (by rw [HLN.out, List.length_singleton]; omega) (by simp; omega) ?_; intro va2 vc2 w4 hof hbw; rw [HLN.out, List.length_singleton] at hof; rw [HLN.out]; have HBW := Lib.hid hbw; have HOF := Lib.hid hof; have hbws := hbw.size; simp at hbws; clear hof hbw)
                go_roundw
                case rel => exact ⟨k + 1, by go_num, by omega, HST.out.next hbz HBW.out (by rw [HSTEP.out, HSX.out, HEQ.out]; exact HOF.out)⟩
                case measure => simp [intOf]; omega
            · obtain ⟨oa, oc, hov, hoi⟩ := ownG_ins HO.out
              injection hov with h1 h2 h3
              subst h1 h3
              obtain ⟨gb, goff, hadd, hgp, hgcs⟩ := insF_at hoi (by omega)
              subst hadd
              have hcap := ownG_cap HO.out
              have HN := Lib.hid hN
              clear h2 hoi hgcs hgp
              rcases Nat.lt_or_ge N4 N with hlt | hge
              · have hlt' : (N4 : Int) < (N : Int) := by omega
                obtain ⟨L0, hL0⟩ : ∃ L0, N - N4 = L0 := ⟨_, rfl⟩
                have hsub : (N : Int) - (N4 : Int) = (L0 : Int) := by omega
                have hl1 : (0 : Int) ≤ (L0 : Int) := by omega
                have hl2 : (L0 : Int) ≤ (N : Int) := by omega
                have hl3 : (N : Int) ≤ (vc : Int) := by omega
                obtain ⟨DL, hDL⟩ : ∃ DL, st.drop L0 = DL := ⟨_, rfl⟩
                have HDL := Lib.hid (show DL.length = N4 by rw [← hDL, List.length_drop]; omega)
                have HDD := Lib.hid hDL
                have HLL := Lib.hid (show N - min N N4 = L0 by omega)
                have hwL : IntKind.i64.wrap (L0 : Int) = (L0 : Int) := IntWalk.i64_in _ (by omega)
                have hl12 : (0 ≤ (L0 : Int) ∧ (L0 : Int) ≤ (N : Int)) := ⟨hl1, hl2⟩
                have hl4 : (L0 : Int) ≤ (vc : Int) := by omega
                have HDS := Lib.hid (show DL.length = N - L0 by rw [← hDL, List.length_drop, hN])
                by_cases hvl : vc = L0
                · have e1 : N4 = 0 := by omega
                  have e2 : vc = N := by omega
                  have e3 : L0 = N := by omega
                  have HDE := Lib.hid (show DL = [] from List.length_eq_zero_iff.1 (by have := HDS.out; omega))
                  have hq4' : (N2 : Int) % 4 = 0 := by omega
                  have hlt2 : (0 : Int) < (N : Int) := by omega
                  clear hDL hN hL0 hT h0 hsub hl1 hl2 hl3 hl4 hl12 hvl hlt' hlt hq4 HDS hcap
                  subst e1
                  subst e2
                  subst e3
                  have HDS := HDL
                  have hmin : min (L0 : Int) 0 = 0 := by omega
                  go_wp2_with fail
                  refine wp_region_plan 7 (.calm 0 (.calm 1 (.calm 2 (.calm 3 (.calm 4 (.calm 5 (.calm 6 .tail))))))) (by kernel_rfl) (by kernel_rfl) ?_
                  simp only [Plan.walk, operAt, List.getElem?_cons_succ, List.getElem?_cons_zero, Option.getD_some, List.drop_succ_cons, List.drop_zero]
                  repeat (refine wpX_calm (fun K hK => ?_); go_simp; first | (refine hK _ _ ?_; clear hK K) | (apply Exists.intro; refine ⟨fun _ => ?_, hK _ _ ?_⟩; (fail); clear hK K))
                  refine wpX_tail ?_
                  intro z
                  have hzs := z.size_le
                  simp at hzs
                  have hbf := obj_bel z hzf
                  have hbzz : Below wr.heap.size wr z.w := by (repeat' (first | (with_reducible first | exact Below.refl _ _ | exact Nat.le_refl _ | refine Below.bel ?_ ?_ | refine Below.alloc ?_ ?_ _ | refine Below.drew ?_ | refine Below.drawsN ?_ _ | refine Below.setCell ?_ ?_ _ | refine le_bel ?_ | refine le_alloc ?_ | refine le_setCell ?_ | refine le_drew ?_ | refine le_drawsN ?_) | (dsimp only; with_reducible first | refine le_bel ?_ | refine Nat.le_refl _ | refine le_bel_add ?_) | (with_reducible assumption) | omega | (dsimp only; omega)))
                  have HM := Lib.hid (show InsC (fun b => (w.heap.size + 1 ≤ b ∧ b < wr.heap.size ∧ (Value.slice (some ⟨gb, goff, none⟩) L0 L0).ownBlock ≠ some b) ∧ (Value.slice none 0 0).ownBlock ≠ some b) z.w (some ⟨gb, goff, none⟩) DL from (.inl HDE.out))
                  go_wp2_with (at_builtin; refine wpList_appG rfl (.tmp 80) (.tmp 85) 24 26 rfl i0 Tryz.underlying24 hi0 hz0 hz1 hz2 _ z.w.heap.size (fun b => w.heap.size + 1 ≤ b ∧ b < wr.heap.size ∧ (Value.slice (some ⟨gb, goff, none⟩) L0 L0).ownBlock ≠ some b) _ [] DL (some ⟨gb, goff, none⟩) 0 rfl (ownG_nil _ _ _ _) HM.out (by rw [HDS.out]; rfl) (by rw [HDL.out, List.length_nil]; omega) (Nat.le_refl _) ?_; intro va2 vc2 w1 hof hbw; rw [HDL.out, List.length_nil, Nat.zero_add] at hof; rw [HDL.out, List.length_nil, Nat.zero_add]; have HOD := Lib.hid hof; have HB1 := Lib.hid hbw; have hbf1 := Lib.hid (obj_below hbw (by omega) hbf); have hbws := hbw.size; clear hof hbw; refine Hid.out ?_)
                  refine Lib.hid ?_
                  obtain ⟨x0, x1, x2⟩ := box3 hbf1.out
                  obtain ⟨_, _, x3⟩ := box3f hbf1.out
                  have hfn := obj_set (i := 2) (.slice va2 0 vc2) hbf1.out
                  obtain ⟨k0, k1, k2⟩ := box3 hfn
                  have HBW1 := Lib.hid (hbzz.trans (HB1.out.mono (by omega)))
                  have hbw1 := HBW1.out
                  have HOS := Lib.hid (ownG_take HO.out L0 (by rw [HN.out]; omega))
                  have HLN := Lib.hid (show (st.take L0).length = L0 by rw [List.length_take, HN.out]; omega)
                  have HEQ := Lib.hid (show (if 6 ≤ 2 then st ++ [nd 1 (A6 : Int) []] else if 6 = 3 then st ++ [nd (5 + (R2 : Int)) 0 []] else if 6 = 4 then notM st n else joinM st n) = st.take L0 ++ [nd (3 + (R2 : Int)) 0 DL] by
                    rw [if_neg (by decide), if_neg (by decide), if_neg (by decide)]
                    unfold joinM cutM
                    rw [HN.out, hN2, hN4, hR2, HLL.out, HDD.out])
                  have HUI := Lib.hid (show InsF (fun b => w.heap.size + 1 ≤ b ∧ (Value.slice (some ⟨gb, goff, none⟩) L0 L0).ownBlock ≠ some b) ((w1.setCell ⟨wr.heap.size, 2, none⟩ (.slice va2 0 vc2)).alloc (.cells #[.int .i64 (3 + (R2 : Int)), .int .i64 0, .slice va2 0 vc2] 26)) va2 (nd (3 + (R2 : Int)) 0 DL).l from by
                    obtain ⟨oa5, oc5, hov5, hoi5⟩ := ownG_ins HOD.out
                    injection hov5 with y1 y2 y3
                    subst y1
                    have hav := fun b => ownG_avoid (b := b) HOS.out
                    refine InsF.of (w := w1.setCell ⟨wr.heap.size, 2, none⟩ (.slice va2 0 vc2)) ?_ ((Below.refl _ _).alloc (Nat.le_refl _) _)
                    refine (hoi5.move (fun c o u hc hu => ?_) (fun c _ hc => ?_))
                    · have hne : c ≠ wr.heap.size := by
                        rcases hc with hc | hc
                        · omega
                        · have := hc.2.1
                          omega
                      rw [World.cell?_of_block (Below.heap_setCell _ _ _ c hne)]
                      exact hu
                    · rcases hc with hc | hc
                      · exact ⟨by omega, hav c (.inl (by omega))⟩
                      · exact ⟨hc.1, hc.2.2⟩)
                  have hbz : Below wr.heap.size wr (((w1.setCell ⟨wr.heap.size, 2, none⟩ (.slice va2 0 vc2))).alloc (.cells #[.int .i64 (3 + (R2 : Int)), .int .i64 0, .slice va2 0 vc2] 26)) := by (repeat' (first | (with_reducible first | exact Below.refl _ _ | exact Nat.le_refl _ | refine Below.bel ?_ ?_ | refine Below.alloc ?_ ?_ _ | refine Below.drew ?_ | refine Below.drawsN ?_ _ | refine Below.setCell ?_ ?_ _ | refine le_bel ?_ | refine le_alloc ?_ | refine le_setCell ?_ | refine le_drew ?_ | refine le_drawsN ?_) | (dsimp only; with_reducible first | refine le_bel ?_ | refine Nat.le_refl _ | refine le_bel_add ?_) | (with_reducible assumption) | omega | (dsimp only; omega)))
                  have HOZ := Lib.hid (show OwnG (((w1.setCell ⟨wr.heap.size, 2, none⟩ (.slice va2 0 vc2))).alloc (.cells #[.int .i64 (3 + (R2 : Int)), .int .i64 0, .slice va2 0 vc2] 26)) (w.heap.size + 1) (fun b => w.heap.size + 1 ≤ b) 26 (.slice (some ⟨gb, goff, none⟩) L0 L0) (st.take L0) from ownG_bel HOS.out ⟨_, hbz⟩)
                  have hul : ((nd (3 + (R2 : Int)) 0 DL)).l.length = 0 := HDL.out
                  have HCZ := Lib.hid (show InsC (fun b => w.heap.size + 1 ≤ b ∧ (Value.slice (some ⟨gb, goff, none⟩) L0 L0).ownBlock ≠ some b) (((w1.setCell ⟨wr.heap.size, 2, none⟩ (.slice va2 0 vc2))).alloc (.cells #[.int .i64 (3 + (R2 : Int)), .int .i64 0, .slice va2 0 vc2] 26)) (some ⟨w1.heap.size, 0, none⟩) [(nd (3 + (R2 : Int)) 0 DL)] from
                    insC_one (u := (nd (3 + (R2 : Int)) 0 DL)) (E := 26) (ad := va2) (cap := vc2) (by rw [hul]; exact new_at _ _ (by simp)) HUI.out)
                  go_wp2_with (at_builtin; refine wpList_appG rfl (.tmp 93) (.tmp 95) 24 26 rfl i0 Tryz.underlying24 hi0 hz0 hz1 hz2 _ (w.heap.size + 1) (fun b => w.heap.size + 1 ≤ b) _ (st.take L0) [(nd (3 + (R2 : Int)) 0 DL)] (some ⟨w1.heap.size, 0, none⟩) 1 rfl HOZ.out HCZ.out rfl (by rw [HLN.out, List.length_singleton]; omega) (by simp; omega) ?_; intro va2 vc2 w4 hof hbw; rw [HLN.out, List.length_singleton] at hof; rw [HLN.out]; have HBW := Lib.hid hbw; have HOF := Lib.hid hof; have hbws := hbw.size; simp at hbws; clear hof hbw)
                  go_roundw
                  case rel => exact ⟨k + 1, by go_num, by omega, HST.out.next hbz HBW.out (by rw [HSTEP.out, HSX.out, HEQ.out]; exact HOF.out)⟩
                  case measure => simp [intOf]; omega
                · have hmin : min (N : Int) (N4 : Int) = (N4 : Int) := by omega
                  clear hDL hN hL0 hT h0
                  go_wp2_with fail
                  refine wp_region_plan 7 (.calm 0 (.calm 1 (.calm 2 (.calm 3 (.calm 4 (.calm 5 (.calm 6 .tail))))))) (by kernel_rfl) (by kernel_rfl) ?_
                  simp only [Plan.walk, operAt, List.getElem?_cons_succ, List.getElem?_cons_zero, Option.getD_some, List.drop_succ_cons, List.drop_zero]
                  repeat (refine wpX_calm (fun K hK => ?_); go_simp; first | (refine hK _ _ ?_; clear hK K) | (apply Exists.intro; refine ⟨fun _ => ?_, hK _ _ ?_⟩; (fail); clear hK K))
                  refine wpX_tail ?_
                  intro z
                  have hzs := z.size_le
                  simp at hzs
                  have hbf := obj_bel z hzf
                  have hbzz : Below wr.heap.size wr z.w := by (repeat' (first | (with_reducible first | exact Below.refl _ _ | exact Nat.le_refl _ | refine Below.bel ?_ ?_ | refine Below.alloc ?_ ?_ _ | refine Below.drew ?_ | refine Below.drawsN ?_ _ | refine Below.setCell ?_ ?_ _ | refine le_bel ?_ | refine le_alloc ?_ | refine le_setCell ?_ | refine le_drew ?_ | refine le_drawsN ?_) | (dsimp only; with_reducible first | refine le_bel ?_ | refine Nat.le_refl _ | refine le_bel_add ?_) | (with_reducible assumption) | omega | (dsimp only; omega)))
                  have HM := Lib.hid (show InsC (fun b => (w.heap.size + 1 ≤ b ∧ b < wr.heap.size ∧ (Value.slice (some ⟨gb, goff, none⟩) L0 vc).ownBlock ≠ some b) ∧ (Value.slice none 0 0).ownBlock ≠ some b) z.w (some ⟨gb, goff + L0 * 3, none⟩) DL from (.inr ⟨gb, goff + L0 * 3, rfl, by rw [← HDD.out]; exact ownG_dropC HO.out L0 L0 (fun k hk hq ho => ⟨⟨hq, hk, ho⟩, fun h => (by cases h)⟩) hbzz⟩))
                  go_wp2_with (at_builtin; refine wpList_appG rfl (.tmp 80) (.tmp 85) 24 26 rfl i0 Tryz.underlying24 hi0 hz0 hz1 hz2 _ z.w.heap.size (fun b => w.heap.size + 1 ≤ b ∧ b < wr.heap.size ∧ (Value.slice (some ⟨gb, goff, none⟩) L0 vc).ownBlock ≠ some b) _ [] DL (some ⟨gb, goff + L0 * 3, none⟩) (vc - L0) rfl (ownG_nil _ _ _ _) HM.out (by rw [HDS.out]; rfl) (by rw [HDL.out, List.length_nil]; omega) (Nat.le_refl _) ?_; intro va2 vc2 w1 hof hbw; rw [HDL.out, List.length_nil, Nat.zero_add] at hof; rw [HDL.out, List.length_nil, Nat.zero_add]; have HOD := Lib.hid hof; have HB1 := Lib.hid hbw; have hbf1 := Lib.hid (obj_below hbw (by omega) hbf); have hbws := hbw.size; clear hof hbw; refine Hid.out ?_)
                  refine Lib.hid ?_
                  obtain ⟨x0, x1, x2⟩ := box3 hbf1.out
                  obtain ⟨_, _, x3⟩ := box3f hbf1.out
                  have hfn := obj_set (i := 2) (.slice va2 N4 vc2) hbf1.out
                  obtain ⟨k0, k1, k2⟩ := box3 hfn
                  have HBW1 := Lib.hid (hbzz.trans (HB1.out.mono (by omega)))
                  have hbw1 := HBW1.out
                  have HOS := Lib.hid (ownG_take HO.out L0 (by rw [HN.out]; omega))
                  have HLN := Lib.hid (show (st.take L0).length = L0 by rw [List.length_take, HN.out]; omega)
                  have HEQ := Lib.hid (show (if 6 ≤ 2 then st ++ [nd 1 (A6 : Int) []] else if 6 = 3 then st ++ [nd (5 + (R2 : Int)) 0 []] else if 6 = 4 then notM st n else joinM st n) = st.take L0 ++ [nd (3 + (R2 : Int)) 0 DL] by
                    rw [if_neg (by decide), if_neg (by decide), if_neg (by decide)]
                    unfold joinM cutM
                    rw [HN.out, hN2, hN4, hR2, HLL.out, HDD.out])
                  have HUI := Lib.hid (show InsF (fun b => w.heap.size + 1 ≤ b ∧ (Value.slice (some ⟨gb, goff, none⟩) L0 vc).ownBlock ≠ some b) ((w1.setCell ⟨wr.heap.size, 2, none⟩ (.slice va2 N4 vc2)).alloc (.cells #[.int .i64 (3 + (R2 : Int)), .int .i64 0, .slice va2 N4 vc2] 26)) va2 (nd (3 + (R2 : Int)) 0 DL).l from by
                    obtain ⟨oa5, oc5, hov5, hoi5⟩ := ownG_ins HOD.out
                    injection hov5 with y1 y2 y3
                    subst y1
                    have hav := fun b => ownG_avoid (b := b) HOS.out
                    refine InsF.of (w := w1.setCell ⟨wr.heap.size, 2, none⟩ (.slice va2 N4 vc2)) ?_ ((Below.refl _ _).alloc (Nat.le_refl _) _)
                    refine (hoi5.move (fun c o u hc hu => ?_) (fun c _ hc => ?_))
                    · have hne : c ≠ wr.heap.size := by
                        rcases hc with hc | hc
                        · omega
                        · have := hc.2.1
                          omega
                      rw [World.cell?_of_block (Below.heap_setCell _ _ _ c hne)]
                      exact hu
                    · rcases hc with hc | hc
                      · exact ⟨by omega, hav c (.inl (by omega))⟩
                      · exact ⟨hc.1, hc.2.2⟩)
                  have hbz : Below wr.heap.size wr (((w1.setCell ⟨wr.heap.size, 2, none⟩ (.slice va2 N4 vc2))).alloc (.cells #[.int .i64 (3 + (R2 : Int)), .int .i64 0, .slice va2 N4 vc2] 26)) := by (repeat' (first | (with_reducible first | exact Below.refl _ _ | exact Nat.le_refl _ | refine Below.bel ?_ ?_ | refine Below.alloc ?_ ?_ _ | refine Below.drew ?_ | refine Below.drawsN ?_ _ | refine Below.setCell ?_ ?_ _ | refine le_bel ?_ | refine le_alloc ?_ | refine le_setCell ?_ | refine le_drew ?_ | refine le_drawsN ?_) | (dsimp only; with_reducible first | refine le_bel ?_ | refine Nat.le_refl _ | refine le_bel_add ?_) | (with_reducible assumption) | omega | (dsimp only; omega)))
                  have HOZ := Lib.hid (show OwnG (((w1.setCell ⟨wr.heap.size, 2, none⟩ (.slice va2 N4 vc2))).alloc (.cells #[.int .i64 (3 + (R2 : Int)), .int .i64 0, .slice va2 N4 vc2] 26)) (w.heap.size + 1) (fun b => w.heap.size + 1 ≤ b) 26 (.slice (some ⟨gb, goff, none⟩) L0 vc) (st.take L0) from ownG_bel HOS.out ⟨_, hbz⟩)
                  have hul : ((nd (3 + (R2 : Int)) 0 DL)).l.length = N4 := HDL.out
                  have HCZ := Lib.hid (show InsC (fun b => w.heap.size + 1 ≤ b ∧ (Value.slice (some ⟨gb, goff, none⟩) L0 vc).ownBlock ≠ some b) (((w1.setCell ⟨wr.heap.size, 2, none⟩ (.slice va2 N4 vc2))).alloc (.cells #[.int .i64 (3 + (R2 : Int)), .int .i64 0, .slice va2 N4 vc2] 26)) (some ⟨w1.heap.size, 0, none⟩) [(nd (3 + (R2 : Int)) 0 DL)] from
                    insC_one (u := (nd (3 + (R2 : Int)) 0 DL)) (E := 26) (ad := va2) (cap := vc2) (by rw [hul]; exact new_at _ _ (by simp)) HUI.out)
                  go_wp2_with (at_builtin; refine wpList_appG rfl (.tmp 93) (.tmp 95) 24 26 rfl i0 Tryz.underlying24 hi0 hz0 hz1 hz2 _ (w.heap.size + 1) (fun b => w.heap.size + 1 ≤ b) _ (st.take L0) [(nd (3 + (R2 : Int)) 0 DL)] (some ⟨w1.heap.size, 0, none⟩) 1 rfl HOZ.out HCZ.out rfl (by rw [HLN.out, List.length_singleton]; omega) (by simp; omega) ?_; intro va2 vc2 w4 hof hbw; rw [HLN.out, List.length_singleton] at hof; rw [HLN.out]; have HBW := Lib.hid hbw; have HOF := Lib.hid hof; have hbws := hbw.size; simp at hbws; clear hof hbw)
                  go_roundw
                  case rel => exact ⟨k + 1, by go_num, by omega, HST.out.next hbz HBW.out (by rw [HSTEP.out, HSX.out, HEQ.out]; exact HOF.out)⟩
                  case measure => simp [intOf]; omega
              · have hlt' : ¬ ((N4 : Int) < (N : Int)) := by omega
                have hl3 : (N : Int) ≤ (vc : Int) := by omega
                have hw0 : IntKind.i64.wrap 0 = 0 := by decide
                obtain ⟨DL, hDL⟩ : ∃ DL, st.drop 0 = DL := ⟨_, rfl⟩
                have HDL := Lib.hid (show DL.length = N by rw [← hDL, List.length_drop]; omega)
                have HDS := HDL
                have HDD := Lib.hid hDL
                have HLL := Lib.hid (show N - min N N4 = 0 by omega)
                have hmin : min (N : Int) (N4 : Int) = (N : Int) := by omega
                clear hDL hN hT h0
                go_wp2_with fail
                refine wp_region_plan 7 (.calm 0 (.calm 1 (.calm 2 (.calm 3 (.calm 4 (.calm 5 (.calm 6 .tail))))))) (by kernel_rfl) (by kernel_rfl) ?_
                simp only [Plan.walk, operAt, List.getElem?_cons_succ, List.getElem?_cons_zero, Option.getD_some, List.drop_succ_cons, List.drop_zero]
                repeat (refine wpX_calm (fun K hK => ?_); go_simp; first | (refine hK _ _ ?_; clear hK K) | (apply Exists.intro; refine ⟨fun _ => ?_, hK _ _ ?_⟩; (fail); clear hK K))
                refine wpX_tail ?_
                intro z
                have hzs := z.size_le
                simp at hzs
                have hbf := obj_bel z hzf
                have hbzz : Below wr.heap.size wr z.w := by (repeat' (first | (with_reducible first | exact Below.refl _ _ | exact Nat.le_refl _ | refine Below.bel ?_ ?_ | refine Below.alloc ?_ ?_ _ | refine Below.drew ?_ | refine Below.drawsN ?_ _ | refine Below.setCell ?_ ?_ _ | refine le_bel ?_ | refine le_alloc ?_ | refine le_setCell ?_ | refine le_drew ?_ | refine le_drawsN ?_) | (dsimp only; with_reducible first | refine le_bel ?_ | refine Nat.le_refl _ | refine le_bel_add ?_) | (with_reducible assumption) | omega | (dsimp only; omega)))
                have HM := Lib.hid (show InsC (fun b => (w.heap.size + 1 ≤ b ∧ b < wr.heap.size ∧ (Value.slice (some ⟨gb, goff, none⟩) 0 vc).ownBlock ≠ some b) ∧ (Value.slice none 0 0).ownBlock ≠ some b) z.w (some ⟨gb, goff, none⟩) DL from (.inr ⟨gb, goff, rfl, by rw [← HDD.out]; have hq := ownG_dropC (P := fun b => (w.heap.size + 1 ≤ b ∧ b < wr.heap.size ∧ (Value.slice (some ⟨gb, goff, none⟩) 0 vc).ownBlock ≠ some b) ∧ (Value.slice none 0 0).ownBlock ≠ some b) HO.out 0 0 (fun k hk hq ho => ⟨⟨hq, hk, ho⟩, fun h => (by cases h)⟩) hbzz; simpa using hq⟩))
                go_wp2_with (at_builtin; refine wpList_appG rfl (.tmp 80) (.tmp 85) 24 26 rfl i0 Tryz.underlying24 hi0 hz0 hz1 hz2 _ z.w.heap.size (fun b => w.heap.size + 1 ≤ b ∧ b < wr.heap.size ∧ (Value.slice (some ⟨gb, goff, none⟩) 0 vc).ownBlock ≠ some b) _ [] DL (some ⟨gb, goff, none⟩) vc rfl (ownG_nil _ _ _ _) HM.out (by rw [HDS.out]; rfl) (by rw [HDL.out, List.length_nil]; omega) (Nat.le_refl _) ?_; intro va2 vc2 w1 hof hbw; rw [HDL.out, List.length_nil, Nat.zero_add] at hof; rw [HDL.out, List.length_nil, Nat.zero_add]; have HOD := Lib.hid hof; have HB1 := Lib.hid hbw; have hbf1 := Lib.hid (obj_below hbw (by omega) hbf); have hbws := hbw.size; clear hof hbw; refine Hid.out ?_)
                refine Lib.hid ?_
                obtain ⟨x0, x1, x2⟩ := box3 hbf1.out
                obtain ⟨_, _, x3⟩ := box3f hbf1.out
                have hfn := obj_set (i := 2) (.slice va2 N vc2) hbf1.out
                obtain ⟨k0, k1, k2⟩ := box3 hfn
                have HBW1 := Lib.hid (hbzz.trans (HB1.out.mono (by omega)))
                have hbw1 := HBW1.out
                have HOS := Lib.hid (ownG_take HO.out 0 (by rw [HN.out]; omega))
                have HLN := Lib.hid (show (st.take 0).length = 0 by rw [List.length_take, HN.out]; omega)
                have HEQ := Lib.hid (show (if 6 ≤ 2 then st ++ [nd 1 (A6 : Int) []] else if 6 = 3 then st ++ [nd (5 + (R2 : Int)) 0 []] else if 6 = 4 then notM st n else joinM st n) = st.take 0 ++ [nd (3 + (R2 : Int)) 0 DL] by
                  rw [if_neg (by decide), if_neg (by decide), if_neg (by decide)]
                  unfold joinM cutM
                  rw [HN.out, hN2, hN4, hR2, HLL.out, HDD.out])
                have HUI := Lib.hid (show InsF (fun b => w.heap.size + 1 ≤ b ∧ (Value.slice (some ⟨gb, goff, none⟩) 0 vc).ownBlock ≠ some b) ((w1.setCell ⟨wr.heap.size, 2, none⟩ (.slice va2 N vc2)).alloc (.cells #[.int .i64 (3 + (R2 : Int)), .int .i64 0, .slice va2 N vc2] 26)) va2 (nd (3 + (R2 : Int)) 0 DL).l from by
                  obtain ⟨oa5, oc5, hov5, hoi5⟩ := ownG_ins HOD.out
                  injection hov5 with y1 y2 y3
                  subst y1
                  have hav := fun b => ownG_avoid (b := b) HOS.out
                  refine InsF.of (w := w1.setCell ⟨wr.heap.size, 2, none⟩ (.slice va2 N vc2)) ?_ ((Below.refl _ _).alloc (Nat.le_refl _) _)
                  refine (hoi5.move (fun c o u hc hu => ?_) (fun c _ hc => ?_))
                  · have hne : c ≠ wr.heap.size := by
                      rcases hc with hc | hc
                      · omega
                      · have := hc.2.1
                        omega
                    rw [World.cell?_of_block (Below.heap_setCell _ _ _ c hne)]
                    exact hu
                  · rcases hc with hc | hc
                    · exact ⟨by omega, hav c (.inl (by omega))⟩
                    · exact ⟨hc.1, hc.2.2⟩)
                have hbz : Below wr.heap.size wr (((w1.setCell ⟨wr.heap.size, 2, none⟩ (.slice va2 N vc2))).alloc (.cells #[.int .i64 (3 + (R2 : Int)), .int .i64 0, .slice va2 N vc2] 26)) := by (repeat' (first | (with_reducible first | exact Below.refl _ _ | exact Nat.le_refl _ | refine Below.bel ?_ ?_ | refine Below.alloc ?_ ?_ _ | refine Below.drew ?_ | refine Below.drawsN ?_ _ | refine Below.setCell ?_ ?_ _ | refine le_bel ?_ | refine le_alloc ?_ | refine le_setCell ?_ | refine le_drew ?_ | refine le_drawsN ?_) | (dsimp only; with_reducible first | refine le_bel ?_ | refine Nat.le_refl _ | refine le_bel_add ?_) | (with_reducible assumption) | omega | (dsimp only; omega)))
                have HOZ := Lib.hid (show OwnG (((w1.setCell ⟨wr.heap.size, 2, none⟩ (.slice va2 N vc2))).alloc (.cells #[.int .i64 (3 + (R2 : Int)), .int .i64 0, .slice va2 N vc2] 26)) (w.heap.size + 1) (fun b => w.heap.size + 1 ≤ b) 26 (.slice (some ⟨gb, goff, none⟩) 0 vc) (st.take 0) from ownG_bel HOS.out ⟨_, hbz⟩)
                have hul : ((nd (3 + (R2 : Int)) 0 DL)).l.length = N := HDL.out
                have HCZ := Lib.hid (show InsC (fun b => w.heap.size + 1 ≤ b ∧ (Value.slice (some ⟨gb, goff, none⟩) 0 vc).ownBlock ≠ some b) (((w1.setCell ⟨wr.heap.size, 2, none⟩ (.slice va2 N vc2))).alloc (.cells #[.int .i64 (3 + (R2 : Int)), .int .i64 0, .slice va2 N vc2] 26)) (some ⟨w1.heap.size, 0, none⟩) [(nd (3 + (R2 : Int)) 0 DL)] from
                  insC_one (u := (nd (3 + (R2 : Int)) 0 DL)) (E := 26) (ad := va2) (cap := vc2) (by rw [hul]; exact new_at _ _ (by simp)) HUI.out)
                go_wp2_with (at_builtin; refine wpList_appG rfl (.tmp 93) (.tmp 95) 24 26 rfl i0 Tryz.underlying24 hi0 hz0 hz1 hz2 _ (w.heap.size + 1) (fun b => w.heap.size + 1 ≤ b) _ (st.take 0) [(nd (3 + (R2 : Int)) 0 DL)] (some ⟨w1.heap.size, 0, none⟩) 1 rfl HOZ.out HCZ.out rfl (by rw [HLN.out, List.length_singleton]; omega) (by simp; omega) ?_; intro va2 vc2 w4 hof hbw; rw [HLN.out, List.length_singleton] at hof; rw [HLN.out]; have HBW := Lib.hid hbw; have HOF := Lib.hid hof; have hbws := hbw.size; simp at hbws; clear hof hbw)
                go_roundw
                case rel => exact ⟨k + 1, by go_num, by omega, HST.out.next hbz HBW.out (by rw [HSTEP.out, HSX.out, HEQ.out]; exact HOF.out)⟩
                case measure => simp [intOf]; omega
          · have hr8' : (C : Int) % 8 = 7 := by omega
            clear hr8
            rcases Nat.eq_zero_or_pos N with h0 | h0
            · subst h0
              have hst0 : st = [] := List.length_eq_zero_iff.1 hN
              have hlt' : ¬ ((N4 : Int) < 0) := by omega
              have HN := Lib.hid hN
              obtain ⟨DL, hDL⟩ : ∃ DL, st.drop 0 = DL := ⟨_, rfl⟩
              have HDL := Lib.hid (show DL.length = 0 by rw [← hDL, List.length_drop, hN])
              have HDS := HDL
              have HDD := Lib.hid hDL
              have HLL := Lib.hid (show 0 - min 0 N4 = 0 by omega)
              have HDE := Lib.hid (show DL = [] from List.length_eq_zero_iff.1 HDL.out)
              have hw0 : IntKind.i64.wrap 0 = 0 := by decide
              have hmin : min (0 : Int) (N4 : Int) = 0 := by omega
              rcases va with _ | ⟨gb, goff, ro⟩
              · have hvc : vc = 0 := by
                  obtain ⟨us, _, ⟨_, ⟨hv, _⟩ | ⟨_, _, _, hv, _⟩⟩, _⟩ := HO.out
                  · injection hv
                  · cases hv
                subst hvc
                clear hDL hN hT hst0
                go_wp2_with fail
                refine wp_region_plan 7 (.calm 0 (.calm 1 (.calm 2 (.calm 3 (.calm 4 (.calm 5 (.calm 6 .tail))))))) (by kernel_rfl) (by kernel_rfl) ?_
                simp only [Plan.walk, operAt, List.getElem?_cons_succ, List.getElem?_cons_zero, Option.getD_some, List.drop_succ_cons, List.drop_zero]
                repeat (refine wpX_calm (fun K hK => ?_); go_simp; first | (refine hK _ _ ?_; clear hK K) | (apply Exists.intro; refine ⟨fun _ => ?_, hK _ _ ?_⟩; (fail); clear hK K))
                refine wpX_tail ?_
                intro z
                have hzs := z.size_le
                simp at hzs
                have hbf := obj_bel z hzf
                have hbzz : Below wr.heap.size wr z.w := by (repeat' (first | (with_reducible first | exact Below.refl _ _ | exact Nat.le_refl _ | refine Below.bel ?_ ?_ | refine Below.alloc ?_ ?_ _ | refine Below.drew ?_ | refine Below.drawsN ?_ _ | refine Below.setCell ?_ ?_ _ | refine le_bel ?_ | refine le_alloc ?_ | refine le_setCell ?_ | refine le_drew ?_ | refine le_drawsN ?_) | (dsimp only; with_reducible first | refine le_bel ?_ | refine Nat.le_refl _ | refine le_bel_add ?_) | (with_reducible assumption) | omega | (dsimp only; omega)))
                have HM := Lib.hid (show InsC (fun b => (w.heap.size + 1 ≤ b ∧ b < wr.heap.size ∧ (Value.slice none 0 0).ownBlock ≠ some b) ∧ (Value.slice none 0 0).ownBlock ≠ some b) z.w none DL from (.inl HDE.out))
                go_wp2_with (at_builtin; refine wpList_appG rfl (.tmp 80) (.tmp 85) 24 26 rfl i0 Tryz.underlying24 hi0 hz0 hz1 hz2 _ z.w.heap.size (fun b => w.heap.size + 1 ≤ b ∧ b < wr.heap.size ∧ (Value.slice none 0 0).ownBlock ≠ some b) _ [] DL none 0 rfl (ownG_nil _ _ _ _) HM.out (by rw [HDS.out]; rfl) (by rw [HDL.out, List.length_nil]; omega) (Nat.le_refl _) ?_; intro va2 vc2 w1 hof hbw; rw [HDL.out, List.length_nil, Nat.zero_add] at hof; rw [HDL.out, List.length_nil, Nat.zero_add]; have HOD := Lib.hid hof; have HB1 := Lib.hid hbw; have hbf1 := Lib.hid (obj_below hbw (by omega) hbf); have hbws := hbw.size; clear hof hbw; refine Hid.out ?_)
                refine Lib.hid ?_
                obtain ⟨x0, x1, x2⟩ := box3 hbf1.out
                obtain ⟨_, _, x3⟩ := box3f hbf1.out
                have hfn := obj_set (i := 2) (.slice va2 0 vc2) hbf1.out
                obtain ⟨k0, k1, k2⟩ := box3 hfn
                have HBW1 := Lib.hid (hbzz.trans (HB1.out.mono (by omega)))
                have hbw1 := HBW1.out
                have HOS := Lib.hid (ownG_take HO.out 0 (by rw [HN.out]; omega))
                have HLN := Lib.hid (show (st.take 0).length = 0 by rw [List.length_take, HN.out]; omega)
                have HEQ := Lib.hid (show (if 7 ≤ 2 then st ++ [nd 1 (A6 : Int) []] else if 7 = 3 then st ++ [nd (5 + (R2 : Int)) 0 []] else if 7 = 4 then notM st n else joinM st n) = st.take 0 ++ [nd (3 + (R2 : Int)) 0 DL] by
                  rw [if_neg (by decide), if_neg (by decide), if_neg (by decide)]
                  unfold joinM cutM
                  rw [HN.out, hN2, hN4, hR2, HLL.out, HDD.out])
                have HUI := Lib.hid (show InsF (fun b => w.heap.size + 1 ≤ b ∧ (Value.slice none 0 0).ownBlock ≠ some b) ((w1.setCell ⟨wr.heap.size, 2, none⟩ (.slice va2 0 vc2)).alloc (.cells #[.int .i64 (3 + (R2 : Int)), .int .i64 0, .slice va2 0 vc2] 26)) va2 (nd (3 + (R2 : Int)) 0 DL).l from by
                  obtain ⟨oa5, oc5, hov5, hoi5⟩ := ownG_ins HOD.out
                  injection hov5 with y1 y2 y3
                  subst y1
                  have hav := fun b => ownG_avoid (b := b) HOS.out
                  refine InsF.of (w := w1.setCell ⟨wr.heap.size, 2, none⟩ (.slice va2 0 vc2)) ?_ ((Below.refl _ _).alloc (Nat.le_refl _) _)
                  refine (hoi5.move (fun c o u hc hu => ?_) (fun c _ hc => ?_))
                  · have hne : c ≠ wr.heap.size := by
                      rcases hc with hc | hc
                      · omega
                      · have := hc.2.1
                        omega
                    rw [World.cell?_of_block (Below.heap_setCell _ _ _ c hne)]
                    exact hu
                  · rcases hc with hc | hc
                    · exact ⟨by omega, hav c (.inl (by omega))⟩
                    · exact ⟨hc.1, hc.2.2⟩)
                have hbz : Below wr.heap.size wr (((w1.setCell ⟨wr.heap.size, 2, none⟩ (.slice va2 0 vc2))).alloc (.cells #[.int .i64 (3 + (R2 : Int)), .int .i64 0, .slice va2 0 vc2] 26)) := by (repeat' (first | (with_reducible first | exact Below.refl _ _ | exact Nat.le_refl _ | refine Below.bel ?_ ?_ | refine Below.alloc ?_ ?_ _ | refine Below.drew ?_ | refine Below.drawsN ?_ _ | refine Below.setCell ?_ ?_ _ | refine le_bel ?_ | refine le_alloc ?_ | refine le_setCell ?_ | refine le_drew ?_ | refine le_drawsN ?_) | (dsimp only; with_reducible first | refine le_bel ?_ | refine Nat.le_refl _ | refine le_bel_add ?_) | (with_reducible assumption) | omega | (dsimp only; omega)))
                have HOZ := Lib.hid (show OwnG (((w1.setCell ⟨wr.heap.size, 2, none⟩ (.slice va2 0 vc2))).alloc (.cells #[.int .i64 (3 + (R2 : Int)), .int .i64 0, .slice va2 0 vc2] 26)) (w.heap.size + 1) (fun b => w.heap.size + 1 ≤ b) 26 (.slice none 0 0) (st.take 0) from ownG_bel HOS.out ⟨_, hbz⟩)
                have hul : ((nd (3 + (R2 : Int)) 0 DL)).l.length = 0 := HDL.out
                have HCZ := Lib.hid (show InsC (fun b => w.heap.size + 1 ≤ b ∧ (Value.slice none 0 0).ownBlock ≠ some b) (((w1.setCell ⟨wr.heap.size, 2, none⟩ (.slice va2 0 vc2))).alloc (.cells #[.int .i64 (3 + (R2 : Int)), .int .i64 0, .slice va2 0 vc2] 26)) (some ⟨w1.heap.size, 0, none⟩) [(nd (3 + (R2 : Int)) 0 DL)] from
                  insC_one (u := (nd (3 + (R2 : Int)) 0 DL)) (E := 26) (ad := va2) (cap := vc2) (by rw [hul]; exact new_at _ _ (by simp)) HUI.out)
                go_wp2_with (at_builtin; refine wpList_appG rfl (.tmp 93) (.tmp 95) 24 26 rfl i0 Tryz.underlying24 hi0 hz0 hz1 hz2 _ (w.heap.size + 1) (fun b => w.heap.size + 1 ≤ b) _ (st.take 0) [(nd (3 + (R2 : Int)) 0 DL)] (some ⟨w1.heap.size, 0, none⟩) 1 rfl HOZ.out HCZ.out rfl (by rw [HLN.out, List.length_singleton]; omega) (by simp; omega) ?_; intro va2 vc2 w4 hof hbw; rw [HLN.out, List.length_singleton] at hof; rw [HLN.out]; have HBW := Lib.hid hbw; have HOF := Lib.hid hof; have hbws := hbw.size; simp at hbws; clear hof hbw)
                go_roundw
                case rel => exact ⟨k + 1, by go_num, by omega, HST.out.next hbz HBW.out (by rw [HSTEP.out, HSX.out, HEQ.out]; exact HOF.out)⟩
                case measure => simp [intOf]; omega
              · have hro : ro = none := by
                  obtain ⟨us, _, ⟨_, ⟨hv, _⟩ | ⟨_, _, _, hv, _⟩⟩, _⟩ := HO.out
                  · cases hv
                  · injection hv with e1 e2 e3
                    injection e1 with e1
                    injection e1
                subst hro
                clear hDL hN hT hst0
                go_wp2_with fail
                refine wp_region_plan 7 (.calm 0 (.calm 1 (.calm 2 (.calm 3 (.calm 4 (.calm 5 (.calm 6 .tail))))))) (by kernel_rfl) (by kernel_rfl) ?_
                simp only [Plan.walk, operAt, List.getElem?_cons_succ, List.getElem?_cons_zero, Option.getD_some, List.drop_succ_cons, List.drop_zero]
                repeat (refine wpX_calm (fun K hK => ?_); go_simp; first | (refine hK _ _ ?_; clear hK K) | (apply Exists.intro; refine ⟨fun _ => ?_, hK _ _ ?_⟩; (fail); clear hK K))
                refine wpX_tail ?_
                intro z
                have hzs := z.size_le
                simp at hzs
                have hbf := obj_bel z hzf
                have hbzz : Below wr.heap.size wr z.w := by (repeat' (first | (with_reducible first | exact Below.refl _ _ | exact Nat.le_refl _ | refine Below.bel ?_ ?_ | refine Below.alloc ?_ ?_ _ | refine Below.drew ?_ | refine Below.drawsN ?_ _ | refine Below.setCell ?_ ?_ _ | refine le_bel ?_ | refine le_alloc ?_ | refine le_setCell ?_ | refine le_drew ?_ | refine le_drawsN ?_) | (dsimp only; with_reducible first | refine le_bel ?_ | refine Nat.le_refl _ | refine le_bel_add ?_) | (with_reducible assumption) | omega | (dsimp only; omega)))
                have HM := Lib.hid (show InsC (fun b => (w.heap.size + 1 ≤ b ∧ b < wr.heap.size ∧ (Value.slice (some ⟨gb, goff, none⟩) 0 vc).ownBlock ≠ some b) ∧ (Value.slice none 0 0).ownBlock ≠ some b) z.w (some ⟨gb, goff, none⟩) DL from (.inl HDE.out))
                go_wp2_with (at_builtin; refine wpList_appG rfl (.tmp 80) (.tmp 85) 24 26 rfl i0 Tryz.underlying24 hi0 hz0 hz1 hz2 _ z.w.heap.size (fun b => w.heap.size + 1 ≤ b ∧ b < wr.heap.size ∧ (Value.slice (some ⟨gb, goff, none⟩) 0 vc).ownBlock ≠ some b) _ [] DL (some ⟨gb, goff, none⟩) vc rfl (ownG_nil _ _ _ _) HM.out (by rw [HDS.out]; rfl) (by rw [HDL.out, List.length_nil]; omega) (Nat.le_refl _) ?_; intro va2 vc2 w1 hof hbw; rw [HDL.out, List.length_nil, Nat.zero_add] at hof; rw [HDL.out, List.length_nil, Nat.zero_add]; have HOD := Lib.hid hof; have HB1 := Lib.hid hbw; have hbf1 := Lib.hid (obj_below hbw (by omega) hbf); have hbws := hbw.size; clear hof hbw; refine Hid.out ?_)
                refine Lib.hid ?_
                obtain ⟨x0, x1, x2⟩ := box3 hbf1.out
                obtain ⟨_, _, x3⟩ := box3f hbf1.out
                have hfn := obj_set (i := 2) (.slice va2 0 vc2) hbf1.out
                obtain ⟨k0, k1, k2⟩ := box3 hfn
                have HBW1 := Lib.hid (hbzz.trans (HB1.out.mono (by omega)))
                have hbw1 := HBW1.out
                have HOS := Lib.hid (ownG_take HO.out 0 (by rw [HN.out]; omega))
                have HLN := Lib.hid (show (st.take 0).length = 0 by rw [List.length_take, HN.out]; omega)
                have HEQ := Lib.hid (show (if 7 ≤ 2 then st ++ [nd 1 (A6 : Int) []] else if 7 = 3 then st ++ [nd (5 + (R2 : Int)) 0 []] else if 7 = 4 then notM st n else joinM st n) = st.take 0 ++ [nd (3 + (R2 : Int)) 0 DL] by
                  rw [if_neg (by decide), if_neg (by decide), if_neg (by decide)]
                  unfold joinM cutM
                  rw [HN.out, hN2, hN4, hR2, HLL.out, HDD.out])
                have HUI := Lib.hid (show InsF (fun b => w.heap.size + 1 ≤ b ∧ (Value.slice (some ⟨gb, goff, none⟩) 0 vc).ownBlock ≠ some b) ((w1.setCell ⟨wr.heap.size, 2, none⟩ (.slice va2 0 vc2)).alloc (.cells #[.int .i64 (3 + (R2 : Int)), .int .i64 0, .slice va2 0 vc2] 26)) va2 (nd (3 + (R2 : Int)) 0 DL).l from by
                  obtain ⟨oa5, oc5, hov5, hoi5⟩ := ownG_ins HOD.out
                  injection hov5 with y1 y2 y3
                  subst y1
                  have hav := fun b => ownG_avoid (b := b) HOS.out
                  refine InsF.of (w := w1.setCell ⟨wr.heap.size, 2, none⟩ (.slice va2 0 vc2)) ?_ ((Below.refl _ _).alloc (Nat.le_refl _) _)
                  refine (hoi5.move (fun c o u hc hu => ?_) (fun c _ hc => ?_))
                  · have hne : c ≠ wr.heap.size := by
                      rcases hc with hc | hc
                      · omega
                      · have := hc.2.1
                        omega
                    rw [World.cell?_of_block (Below.heap_setCell _ _ _ c hne)]
                    exact hu
                  · rcases hc with hc | hc
                    · exact ⟨by omega, hav c (.inl (by omega))⟩
                    · exact ⟨hc.1, hc.2.2⟩)
                have hbz : Below wr.heap.size wr (((w1.setCell ⟨wr.heap.size, 2, none⟩ (.slice va2 0 vc2))).alloc (.cells #[.int .i64 (3 + (R2 : Int)), .int .i64 0, .slice va2 0 vc2] 26)) := by (repeat' (first | (with_reducible first | exact Below.refl _ _ | exact Nat.le_refl _ | refine Below.bel ?_ ?_ | refine Below.alloc ?_ ?_ _ | refine Below.drew ?_ | refine Below.drawsN ?_ _ | refine Below.setCell ?_ ?_ _ | refine le_bel ?_ | refine le_alloc ?_ | refine le_setCell ?_ | refine le_drew ?_ | refine le_drawsN ?_) | (dsimp only; with_reducible first | refine le_bel ?_ | refine Nat.le_refl _ | refine le_bel_add ?_) | (with_reducible assumption) | omega | (dsimp only; omega)))
                have HOZ := Lib.hid (show OwnG (((w1.setCell ⟨wr.heap.size, 2, none⟩ (.slice va2 0 vc2))).alloc (.cells #[.int .i64 (3 + (R2 : Int)), .int .i64 0, .slice va2 0 vc2] 26)) (w.heap.size + 1) (fun b => w.heap.size + 1 ≤ b) 26 (.slice (some ⟨gb, goff, none⟩) 0 vc) (st.take 0) from ownG_bel HOS.out ⟨_, hbz⟩)
                have hul : ((nd (3 + (R2 : Int)) 0 DL)).l.length = 0 := HDL.out
                have HCZ := Lib.hid (show InsC (fun b => w.heap.size + 1 ≤ b ∧ (Value.slice (some ⟨gb, goff, none⟩) 0 vc).ownBlock ≠ some b) (((w1.setCell ⟨wr.heap.size, 2, none⟩ (.slice va2 0 vc2))).alloc (.cells #[.int .i64 (3 + (R2 : Int)), .int .i64 0, .slice va2 0 vc2] 26)) (some ⟨w1.heap.size, 0, none⟩) [(nd (3 + (R2 : Int)) 0 DL)] from
                  insC_one (u := (nd (3 + (R2 : Int)) 0 DL)) (E := 26) (ad := va2) (cap := vc2) (by rw [hul]; exact new_at _ _ (by simp)) HUI.out)
                go_wp2_with (at_builtin; refine wpList_appG rfl (.tmp 93) (.tmp 95) 24 26 rfl i0 Tryz.underlying24 hi0 hz0 hz1 hz2 _ (w.heap.size + 1) (fun b => w.heap.size + 1 ≤ b) _ (st.take 0) [(nd (3 + (R2 : Int)) 0 DL)] (some ⟨w1.heap.size, 0, none⟩) 1 rfl HOZ.out HCZ.out rfl (by rw [HLN.out, List.length_singleton]; omega) (by simp; omega) ?_; intro va2 vc2 w4 hof hbw; rw [HLN.out, List.length_singleton] at hof; rw [HLN.out]; have HBW := Lib.hid hbw; have HOF := Lib.hid hof; have hbws := hbw.size; simp at hbws; clear hof hbw)
                go_roundw
                case rel => exact ⟨k + 1, by go_num, by omega, HST.out.next hbz HBW.out (by rw [HSTEP.out, HSX.out, HEQ.out]; exact HOF.out)⟩
                case measure => simp [intOf]; omega
            · obtain ⟨oa, oc, hov, hoi⟩ := ownG_ins HO.out
              injection hov with h1 h2 h3
              subst h1 h3
              obtain ⟨gb, goff, hadd, hgp, hgcs⟩ := insF_at hoi (by omega)
              subst hadd
              have hcap := ownG_cap HO.out
              have HN := Lib.hid hN
              clear h2 hoi hgcs hgp
              rcases Nat.lt_or_ge N4 N with hlt | hge
              · have hlt' : (N4 : Int) < (N : Int) := by omega
                obtain ⟨L0, hL0⟩ : ∃ L0, N - N4 = L0 := ⟨_, rfl⟩
                have hsub : (N : Int) - (N4 : Int) = (L0 : Int) := by omega
                have hl1 : (0 : Int) ≤ (L0 : Int) := by omega
                have hl2 : (L0 : Int) ≤ (N : Int) := by omega
                have hl3 : (N : Int) ≤ (vc : Int) := by omega
                obtain ⟨DL, hDL⟩ : ∃ DL, st.drop L0 = DL := ⟨_, rfl⟩
                have HDL := Lib.hid (show DL.length = N4 by rw [← hDL, List.length_drop]; omega)
                have HDD := Lib.hid hDL
                have HLL := Lib.hid (show N - min N N4 = L0 by omega)
                have hwL : IntKind.i64.wrap (L0 : Int) = (L0 : Int) := IntWalk.i64_in _ (by omega)
                have hl12 : (0 ≤ (L0 : Int) ∧ (L0 : Int) ≤ (N : Int)) := ⟨hl1, hl2⟩
                have hl4 : (L0 : Int) ≤ (vc : Int) := by omega
                have HDS := Lib.hid (show DL.length = N - L0 by rw [← hDL, List.length_drop, hN])
                by_cases hvl : vc = L0
                · have e1 : N4 = 0 := by omega
                  have e2 : vc = N := by omega
                  have e3 : L0 = N := by omega
                  have HDE := Lib.hid (show DL = [] from List.length_eq_zero_iff.1 (by have := HDS.out; omega))
                  have hq4' : (N2 : Int) % 4 = 0 := by omega
                  have hlt2 : (0 : Int) < (N : Int) := by omega
                  clear hDL hN hL0 hT h0 hsub hl1 hl2 hl3 hl4 hl12 hvl hlt' hlt hq4 HDS hcap
                  subst e1
                  subst e2
                  subst e3
                  have HDS := HDL
                  have hmin : min (L0 : Int) 0 = 0 := by omega
                  go_wp2_with fail
                  refine wp_region_plan 7 (.calm 0 (.calm 1 (.calm 2 (.calm 3 (.calm 4 (.calm 5 (.calm 6 .tail))))))) (by kernel_rfl) (by kernel_rfl) ?_
                  simp only [Plan.walk, operAt, List.getElem?_cons_succ, List.getElem?_cons_zero, Option.getD_some, List.drop_succ_cons, List.drop_zero]
                  repeat (refine wpX_calm (fun K hK => ?_); go_simp; first | (refine hK _ _ ?_; clear hK K) | (apply Exists.intro; refine ⟨fun _ => ?_, hK _ _ ?_⟩; (fail); clear hK K))
                  refine wpX_tail ?_
                  intro z
                  have hzs := z.size_le
                  simp at hzs
                  have hbf := obj_bel z hzf
                  have hbzz : Below wr.heap.size wr z.w := by (repeat' (first | (with_reducible first | exact Below.refl _ _ | exact Nat.le_refl _ | refine Below.bel ?_ ?_ | refine Below.alloc ?_ ?_ _ | refine Below.drew ?_ | refine Below.drawsN ?_ _ | refine Below.setCell ?_ ?_ _ | refine le_bel ?_ | refine le_alloc ?_ | refine le_setCell ?_ | refine le_drew ?_ | refine le_drawsN ?_) | (dsimp only; with_reducible first | refine le_bel ?_ | refine Nat.le_refl _ | refine le_bel_add ?_) | (with_reducible assumption) | omega | (dsimp only; omega)))
                  have HM := Lib.hid (show InsC (fun b => (w.heap.size + 1 ≤ b ∧ b < wr.heap.size ∧ (Value.slice (some ⟨gb, goff, none⟩) L0 L0).ownBlock ≠ some b) ∧ (Value.slice none 0 0).ownBlock ≠ some b) z.w (some ⟨gb, goff, none⟩) DL from (.inl HDE.out))
                  go_wp2_with (at_builtin; refine wpList_appG rfl (.tmp 80) (.tmp 85) 24 26 rfl i0 Tryz.underlying24 hi0 hz0 hz1 hz2 _ z.w.heap.size (fun b => w.heap.size + 1 ≤ b ∧ b < wr.heap.size ∧ (Value.slice (some ⟨gb, goff, none⟩) L0 L0).ownBlock ≠ some b) _ [] DL (some ⟨gb, goff, none⟩) 0 rfl (ownG_nil _ _ _ _) HM.out (by rw [HDS.out]; rfl) (by rw [HDL.out, List.length_nil]; omega) (Nat.le_refl _) ?_; intro va2 vc2 w1 hof hbw; rw [HDL.out, List.length_nil, Nat.zero_add] at hof; rw [HDL.out, List.length_nil, Nat.zero_add]; have HOD := Lib.hid hof; have HB1 := Lib.hid hbw; have hbf1 := Lib.hid (obj_below hbw (by omega) hbf); have hbws := hbw.size; clear hof hbw; refine Hid.out ?_)
                  refine Lib.hid ?_
                  obtain ⟨x0, x1, x2⟩ := box3 hbf1.out
                  obtain ⟨_, _, x3⟩ := box3f hbf1.out
                  have hfn := obj_set (i := 2) (.slice va2 0 vc2) hbf1.out
                  obtain ⟨k0, k1, k2⟩ := box3 hfn
                  have HBW1 := Lib.hid (hbzz.trans (HB1.out.mono (by omega)))
                  have hbw1 := HBW1.out
                  have HOS := Lib.hid (ownG_take HO.out L0 (by rw [HN.out]; omega))
                  have HLN := Lib.hid (show (st.take L0).length = L0 by rw [List.length_take, HN.out]; omega)
                  have HEQ := Lib.hid (show (if 7 ≤ 2 then st ++ [nd 1 (A6 : Int) []] else if 7 = 3 then st ++ [nd (5 + (R2 : Int)) 0 []] else if 7 = 4 then notM st n else joinM st n) = st.take L0 ++ [nd (3 + (R2 : Int)) 0 DL] by
                    rw [if_neg (by decide), if_neg (by decide), if_neg (by decide)]
                    unfold joinM cutM
                    rw [HN.out, hN2, hN4, hR2, HLL.out, HDD.out])
                  have HUI := Lib.hid (show InsF (fun b => w.heap.size + 1 ≤ b ∧ (Value.slice (some ⟨gb, goff, none⟩) L0 L0).ownBlock ≠ some b) ((w1.setCell ⟨wr.heap.size, 2, none⟩ (.slice va2 0 vc2)).alloc (.cells #[.int .i64 (3 + (R2 : Int)), .int .i64 0, .slice va2 0 vc2] 26)) va2 (nd (3 + (R2 : Int)) 0 DL).l from by
                    obtain ⟨oa5, oc5, hov5, hoi5⟩ := ownG_ins HOD.out
                    injection hov5 with y1 y2 y3
                    subst y1
                    have hav := fun b => ownG_avoid (b := b) HOS.out
                    refine InsF.of (w := w1.setCell ⟨wr.heap.size, 2, none⟩ (.slice va2 0 vc2)) ?_ ((Below.refl _ _).alloc (Nat.le_refl _) _)
                    refine (hoi5.move (fun c o u hc hu => ?_) (fun c _ hc => ?_))
                    · have hne : c ≠ wr.heap.size := by
                        rcases hc with hc | hc
                        · omega
                        · have := hc.2.1
                          omega
                      rw [World.cell?_of_block (Below.heap_setCell _ _ _ c hne)]
                      exact hu
                    · rcases hc with hc | hc
                      · exact ⟨by omega, hav c (.inl (by omega))⟩
                      · exact ⟨hc.1, hc.2.2⟩)
                  have hbz : Below wr.heap.size wr (((w1.setCell ⟨wr.heap.size, 2, none⟩ (.slice va2 0 vc2))).alloc (.cells #[.int .i64 (3 + (R2 : Int)), .int .i64 0, .slice va2 0 vc2] 26)) := by (repeat' (first | (with_reducible first | exact Below.refl _ _ | exact Nat.le_refl _ | refine Below.bel ?_ ?_ | refine Below.alloc ?_ ?_ _ | refine Below.drew ?_ | refine Below.drawsN ?_ _ | refine Below.setCell ?_ ?_ _ | refine le_bel ?_ | refine le_alloc ?_ | refine le_setCell ?_ | refine le_drew ?_ | refine le_drawsN ?_) | (dsimp only; with_reducible first | refine le_bel ?_ | refine Nat.le_refl _ | refine le_bel_add ?_) | (with_reducible assumption) | omega | (dsimp only; omega)))
                  have HOZ := Lib.hid (show OwnG (((w1.setCell ⟨wr.heap.size, 2, none⟩ (.slice va2 0 vc2))).alloc (.cells #[.int .i64 (3 + (R2 : Int)), .int .i64 0, .slice va2 0 vc2] 26)) (w.heap.size + 1) (fun b => w.heap.size + 1 ≤ b) 26 (.slice (some ⟨gb, goff, none⟩) L0 L0) (st.take L0) from ownG_bel HOS.out ⟨_, hbz⟩)
                  have hul : ((nd (3 + (R2 : Int)) 0 DL)).l.length = 0 := HDL.out
                  have HCZ := Lib.hid (show InsC (fun b => w.heap.size + 1 ≤ b ∧ (Value.slice (some ⟨gb, goff, none⟩) L0 L0).ownBlock ≠ some b) (((w1.setCell ⟨wr.heap.size, 2, none⟩ (.slice va2 0 vc2))).alloc (.cells #[.int .i64 (3 + (R2 : Int)), .int .i64 0, .slice va2 0 vc2] 26)) (some ⟨w1.heap.size, 0, none⟩) [(nd (3 + (R2 : Int)) 0 DL)] from
                    insC_one (u := (nd (3 + (R2 : Int)) 0 DL)) (E := 26) (ad := va2) (cap := vc2) (by rw [hul]; exact new_at _ _ (by simp)) HUI.out)
                  go_wp2_with (at_builtin; refine wpList_appG rfl (.tmp 93) (.tmp 95) 24 26 rfl i0 Tryz.underlying24 hi0 hz0 hz1 hz2 _ (w.heap.size + 1) (fun b => w.heap.size + 1 ≤ b) _ (st.take L0) [(nd (3 + (R2 : Int)) 0 DL)] (some ⟨w1.heap.size, 0, none⟩) 1 rfl HOZ.out HCZ.out rfl (by rw [HLN.out, List.length_singleton]; omega) (by simp; omega) ?_; intro va2 vc2 w4 hof hbw; rw [HLN.out, List.length_singleton] at hof; rw [HLN.out]; have HBW := Lib.hid hbw; have HOF := Lib.hid hof; have hbws := hbw.size; simp at hbws; clear hof hbw)
                  go_roundw
                  case rel => exact ⟨k + 1, by go_num, by omega, HST.out.next hbz HBW.out (by rw [HSTEP.out, HSX.out, HEQ.out]; exact HOF.out)⟩
                  case measure => simp [intOf]; omega
                · have hmin : min (N : Int) (N4 : Int) = (N4 : Int) := by omega
                  clear hDL hN hL0 hT h0
                  go_wp2_with fail
                  refine wp_region_plan 7 (.calm 0 (.calm 1 (.calm 2 (.calm 3 (.calm 4 (.calm 5 (.calm 6 .tail))))))) (by kernel_rfl) (by kernel_rfl) ?_
                  simp only [Plan.walk, operAt, List.getElem?_cons_succ, List.getElem?_cons_zero, Option.getD_some, List.drop_succ_cons, List.drop_zero]
                  repeat (refine wpX_calm (fun K hK => ?_); go_simp; first | (refine hK _ _ ?_; clear hK K) | (apply Exists.intro; refine ⟨fun _ => ?_, hK _ _ ?_⟩; (fail); clear hK K))
                  refine wpX_tail ?_
                  intro z
                  have hzs := z.size_le
                  simp at hzs
                  have hbf := obj_bel z hzf
                  have hbzz : Below wr.heap.size wr z.w := by (repeat' (first | (with_reducible first | exact Below.refl _ _ | exact Nat.le_refl _ | refine Below.bel ?_ ?_ | refine Below.alloc ?_ ?_ _ | refine Below.drew ?_ | refine Below.drawsN ?_ _ | refine Below.setCell ?_ ?_ _ | refine le_bel ?_ | refine le_alloc ?_ | refine le_setCell ?_ | refine le_drew ?_ | refine le_drawsN ?_) | (dsimp only; with_reducible first | refine le_bel ?_ | refine Nat.le_refl _ | refine le_bel_add ?_) | (with_reducible assumption) | omega | (dsimp only; omega)))
                  have HM := Lib.hid (show InsC (fun b => (w.heap.size + 1 ≤ b ∧ b < wr.heap.size ∧ (Value.slice (some ⟨gb, goff, none⟩) L0 vc).ownBlock ≠ some b) ∧ (Value.slice none 0 0).ownBlock ≠ some b) z.w (some ⟨gb, goff + L0 * 3, none⟩) DL from (.inr ⟨gb, goff + L0 * 3, rfl, by rw [← HDD.out]; exact ownG_dropC HO.out L0 L0 (fun k hk hq ho => ⟨⟨hq, hk, ho⟩, fun h => (by cases h)⟩) hbzz⟩))
                  go_wp2_with (at_builtin; refine wpList_appG rfl (.tmp 80) (.tmp 85) 24 26 rfl i0 Tryz.underlying24 hi0 hz0 hz1 hz2 _ z.w.heap.size (fun b => w.heap.size + 1 ≤ b ∧ b < wr.heap.size ∧ (Value.slice (some ⟨gb, goff, none⟩) L0 vc).ownBlock ≠ some b) _ [] DL (some ⟨gb, goff + L0 * 3, none⟩) (vc - L0) rfl (ownG_nil _ _ _ _) HM.out (by rw [HDS.out]; rfl) (by rw [HDL.out, List.length_nil]; omega) (Nat.le_refl _) ?_; intro va2 vc2 w1 hof hbw; rw [HDL.out, List.length_nil, Nat.zero_add] at hof; rw [HDL.out, List.length_nil, Nat.zero_add]; have HOD := Lib.hid hof; have HB1 := Lib.hid hbw; have hbf1 := Lib.hid (obj_below hbw (by omega) hbf); have hbws := hbw.size; clear hof hbw; refine Hid.out ?_)
                  refine Lib.hid ?_
                  obtain ⟨x0, x1, x2⟩ := box3 hbf1.out
                  obtain ⟨_, _, x3⟩ := box3f hbf1.out
                  have hfn := obj_set (i := 2) (.slice va2 N4 vc2) hbf1.out
                  obtain ⟨k0, k1, k2⟩ := box3 hfn
                  have HBW1 := Lib.hid (hbzz.trans (HB1.out.mono (by omega)))
                  have hbw1 := HBW1.out
                  have HOS := Lib.hid (ownG_take HO.out L0 (by rw [HN.out]; omega))
                  have HLN := Lib.hid (show (st.take L0).length = L0 by rw [List.length_take, HN.out]; omega)
                  have HEQ := Lib.hid (show (if 7 ≤ 2 then st ++ [nd 1 (A6 : Int) []] else if 7 = 3 then st ++ [nd (5 + (R2 : Int)) 0 []] else if 7 = 4 then notM st n else joinM st n) = st.take L0 ++ [nd (3 + (R2 : Int)) 0 DL] by
                    rw [if_neg (by decide), if_neg (by decide), if_neg (by decide)]
                    unfold joinM cutM
                    rw [HN.out, hN2, hN4, hR2, HLL.out, HDD.out])
                  have HUI := Lib.hid (show InsF (fun b => w.heap.size + 1 ≤ b ∧ (Value.slice (some ⟨gb, goff, none⟩) L0 vc).ownBlock ≠ some b) ((w1.setCell ⟨wr.heap.size, 2, none⟩ (.slice va2 N4 vc2)).alloc (.cells #[.int .i64 (3 + (R2 : Int)), .int .i64 0, .slice va2 N4 vc2] 26)) va2 (nd (3 + (R2 : Int)) 0 DL).l from by
                    obtain ⟨oa5, oc5, hov5, hoi5⟩ := ownG_ins HOD.out
                    injection hov5 with y1 y2 y3
                    subst y1
                    have hav := fun b => ownG_avoid (b := b) HOS.out
                    refine InsF.of (w := w1.setCell ⟨wr.heap.size, 2, none⟩ (.slice va2 N4 vc2)) ?_ ((Below.refl _ _).alloc (Nat.le_refl _) _)
                    refine (hoi5.move (fun c o u hc hu => ?_) (fun c _ hc => ?_))
                    · have hne : c ≠ wr.heap.size := by
                        rcases hc with hc | hc
                        · omega
                        · have := hc.2.1
                          omega
                      rw [World.cell?_of_block (Below.heap_setCell _ _ _ c hne)]
                      exact hu
                    · rcases hc with hc | hc
                      · exact ⟨by omega, hav c (.inl (by omega))⟩
                      · exact ⟨hc.1, hc.2.2⟩)
                  have hbz : Below wr.heap.size wr (((w1.setCell ⟨wr.heap.size, 2, none⟩ (.slice va2 N4 vc2))).alloc (.cells #[.int .i64 (3 + (R2 : Int)), .int .i64 0, .slice va2 N4 vc2] 26)) := by (repeat' (first | (with_reducible first | exact Below.refl _ _ | exact Nat.le_refl _ | refine Below.bel ?_ ?_ | refine Below.alloc ?_ ?_ _ | refine Below.drew ?_ | refine Below.drawsN ?_ _ | refine Below.setCell ?_ ?_ _ | refine le_bel ?_ | refine le_alloc ?_ | refine le_setCell ?_ | refine le_drew ?_ | refine le_drawsN ?_) | (dsimp only; with_reducible first | refine le_bel ?_ | refine Nat.le_refl _ | refine le_bel_add ?_) | (with_reducible assumption) | omega | (dsimp only; omega)))
                  have HOZ := Lib.hid (show OwnG (((w1.setCell ⟨wr.heap.size, 2, none⟩ (.slice va2 N4 vc2))).alloc (.cells #[.int .i64 (3 + (R2 : Int)), .int .i64 0, .slice va2 N4 vc2] 26)) (w.heap.size + 1) (fun b => w.heap.size + 1 ≤ b) 26 (.slice (some ⟨gb, goff, none⟩) L0 vc) (st.take L0) from ownG_bel HOS.out ⟨_, hbz⟩)
                  have hul : ((nd (3 + (R2 : Int)) 0 DL)).l.length = N4 := HDL.out
                  have HCZ := Lib.hid (show InsC (fun b => w.heap.size + 1 ≤ b ∧ (Value.slice (some ⟨gb, goff, none⟩) L0 vc).ownBlock ≠ some b) (((w1.setCell ⟨wr.heap.size, 2, none⟩ (.slice va2 N4 vc2))).alloc (.cells #[.int .i64 (3 + (R2 : Int)), .int .i64 0, .slice va2 N4 vc2] 26)) (some ⟨w1.heap.size, 0, none⟩) [(nd (3 + (R2 : Int)) 0 DL)] from
                    insC_one (u := (nd (3 + (R2 : Int)) 0 DL)) (E := 26) (ad := va2) (cap := vc2) (by rw [hul]; exact new_at _ _ (by simp)) HUI.out)
                  go_wp2_with (at_builtin; refine wpList_appG rfl (.tmp 93) (.tmp 95) 24 26 rfl i0 Tryz.underlying24 hi0 hz0 hz1 hz2 _ (w.heap.size + 1) (fun b => w.heap.size + 1 ≤ b) _ (st.take L0) [(nd (3 + (R2 : Int)) 0 DL)] (some ⟨w1.heap.size, 0, none⟩) 1 rfl HOZ.out HCZ.out rfl (by rw [HLN.out, List.length_singleton]; omega) (by simp; omega) ?_; intro va2 vc2 w4 hof hbw; rw [HLN.out, List.length_singleton] at hof; rw [HLN.out]; have HBW := Lib.hid hbw; have HOF := Lib.hid hof; have hbws := hbw.size; simp at hbws; clear hof hbw)
                  go_roundw
                  case rel => exact ⟨k + 1, by go_num, by omega, HST.out.next hbz HBW.out (by rw [HSTEP.out, HSX.out, HEQ.out]; exact HOF.out)⟩
                  case measure => simp [intOf]; omega
              · have hlt' : ¬ ((N4 : Int) < (N : Int)) := by omega
                have hl3 : (N : Int) ≤ (vc : Int) := by omega
                have hw0 : IntKind.i64.wrap 0 = 0 := by decide
                obtain ⟨DL, hDL⟩ : ∃ DL, st.drop 0 = DL := ⟨_, rfl⟩
                have HDL := Lib.hid (show DL.length = N by rw [← hDL, List.length_drop]; omega)
                have HDS := HDL
                have HDD := Lib.hid hDL
                have HLL := Lib.hid (show N - min N N4 = 0 by omega)
                have hmin : min (N : Int) (N4 : Int) = (N : Int) := by omega
                clear hDL hN hT h0
                go_wp2_with fail
                refine wp_region_plan 7 (.calm 0 (.calm 1 (.calm 2 (.calm 3 (.calm 4 (.calm 5 (.calm 6 .tail))))))) (by kernel_rfl) (by kernel_rfl) ?_
                simp only [Plan.walk, operAt, List.getElem?_cons_succ, List.getElem?_cons_zero, Option.getD_some, List.drop_succ_cons, List.drop_zero]
                repeat (refine wpX_calm (fun K hK => ?_); go_simp; first | (refine hK _ _ ?_; clear hK K) | (apply Exists.intro; refine ⟨fun _ => ?_, hK _ _ ?_⟩; (fail); clear hK K))
                refine wpX_tail ?_
                intro z
                have hzs := z.size_le
                simp at hzs
                have hbf := obj_bel z hzf
                have hbzz : Below wr.heap.size wr z.w := by (repeat' (first | (with_reducible first | exact Below.refl _ _ | exact Nat.le_refl _ | refine Below.bel ?_ ?_ | refine Below.alloc ?_ ?_ _ | refine Below.drew ?_ | refine Below.drawsN ?_ _ | refine Below.setCell ?_ ?_ _ | refine le_bel ?_ | refine le_alloc ?_ | refine le_setCell ?_ | refine le_drew ?_ | refine le_drawsN ?_) | (dsimp only; with_reducible first | refine le_bel ?_ | refine Nat.le_refl _ | refine le_bel_add ?_) | (with_reducible assumption) | omega | (dsimp only; omega)))
                have HM := Lib.hid (show InsC (fun b => (w.heap.size + 1 ≤ b ∧ b < wr.heap.size ∧ (Value.slice (some ⟨gb, goff, none⟩) 0 vc).ownBlock ≠ some b) ∧ (Value.slice none 0 0).ownBlock ≠ some b) z.w (some ⟨gb, goff, none⟩) DL from (.inr ⟨gb, goff, rfl, by rw [← HDD.out]; have hq := ownG_dropC (P := fun b => (w.heap.size + 1 ≤ b ∧ b < wr.heap.size ∧ (Value.slice (some ⟨gb, goff, none⟩) 0 vc).ownBlock ≠ some b) ∧ (Value.slice none 0 0).ownBlock ≠ some b) HO.out 0 0 (fun k hk hq ho => ⟨⟨hq, hk, ho⟩, fun h => (by cases h)⟩) hbzz; simpa using hq⟩))
                go_wp2_with (at_builtin; refine wpList_appG rfl (.tmp 80) (.tmp 85) 24 26 rfl i0 Tryz.underlying24 hi0 hz0 hz1 hz2 _ z.w.heap.size (fun b => w.heap.size + 1 ≤ b ∧ b < wr.heap.size ∧ (Value.slice (some ⟨gb, goff, none⟩) 0 vc).ownBlock ≠ some b) _ [] DL (some ⟨gb, goff, none⟩) vc rfl (ownG_nil _ _ _ _) HM.out (by rw [HDS.out]; rfl) (by rw [HDL.out, List.length_nil]; omega) (Nat.le_refl _) ?_; intro va2 vc2 w1 hof hbw; rw [HDL.out, List.length_nil, Nat.zero_add] at hof; rw [HDL.out, List.length_nil, Nat.zero_add]; have HOD := Lib.hid hof; have HB1 := Lib.hid hbw; have hbf1 := Lib.hid (obj_below hbw (by omega) hbf); have hbws := hbw.size; clear hof hbw; refine Hid.out ?_)
                refine Lib.hid ?_
                obtain ⟨x0, x1, x2⟩ := box3 hbf1.out
                obtain ⟨_, _, x3⟩ := box3f hbf1.out
                have hfn := obj_set (i := 2) (.slice va2 N vc2) hbf1.out
                obtain ⟨k0, k1, k2⟩ := box3 hfn
                have HBW1 := Lib.hid (hbzz.trans (HB1.out.mono (by omega)))
                have hbw1 := HBW1.out
                have HOS := Lib.hid (ownG_take HO.out 0 (by rw [HN.out]; omega))
                have HLN := Lib.hid (show (st.take 0).length = 0 by rw [List.length_take, HN.out]; omega)
                have HEQ := Lib.hid (show (if 7 ≤ 2 then st ++ [nd 1 (A6 : Int) []] else if 7 = 3 then st ++ [nd (5 + (R2 : Int)) 0 []] else if 7 = 4 then notM st n else joinM st n) = st.take 0 ++ [nd (3 + (R2 : Int)) 0 DL] by
                  rw [if_neg (by decide), if_neg (by decide), if_neg (by decide)]
                  unfold joinM cutM
                  rw [HN.out, hN2, hN4, hR2, HLL.out, HDD.out])
                have HUI := Lib.hid (show InsF (fun b => w.heap.size + 1 ≤ b ∧ (Value.slice (some ⟨gb, goff, none⟩) 0 vc).ownBlock ≠ some b) ((w1.setCell ⟨wr.heap.size, 2, none⟩ (.slice va2 N vc2)).alloc (.cells #[.int .i64 (3 + (R2 : Int)), .int .i64 0, .slice va2 N vc2] 26)) va2 (nd (3 + (R2 : Int)) 0 DL).l from by
                  obtain ⟨oa5, oc5, hov5, hoi5⟩ := ownG_ins HOD.out
                  injection hov5 with y1 y2 y3
                  subst y1
                  have hav := fun b => ownG_avoid (b := b) HOS.out
                  refine InsF.of (w := w1.setCell ⟨wr.heap.size, 2, none⟩ (.slice va2 N vc2)) ?_ ((Below.refl _ _).alloc (Nat.le_refl _) _)
                  refine (hoi5.move (fun c o u hc hu => ?_) (fun c _ hc => ?_))
                  · have hne : c ≠ wr.heap.size := by
                      rcases hc with hc | hc
                      · omega
                      · have := hc.2.1
                        omega
                    rw [World.cell?_of_block (Below.heap_setCell _ _ _ c hne)]
                    exact hu
                  · rcases hc with hc | hc
                    · exact ⟨by omega, hav c (.inl (by omega))⟩
                    · exact ⟨hc.1, hc.2.2⟩)
                have hbz : Below wr.heap.size wr (((w1.setCell ⟨wr.heap.size, 2, none⟩ (.slice va2 N vc2))).alloc (.cells #[.int .i64 (3 + (R2 : Int)), .int .i64 0, .slice va2 N vc2] 26)) := by (repeat' (first | (with_reducible first | exact Below.refl _ _ | exact Nat.le_refl _ | refine Below.bel ?_ ?_ | refine Below.alloc ?_ ?_ _ | refine Below.drew ?_ | refine Below.drawsN ?_ _ | refine Below.setCell ?_ ?_ _ | refine le_bel ?_ | refine le_alloc ?_ | refine le_setCell ?_ | refine le_drew ?_ | refine le_drawsN ?_) | (dsimp only; with_reducible first | refine le_bel ?_ | refine Nat.le_refl _ | refine le_bel_add ?_) | (with_reducible assumption) | omega | (dsimp only; omega)))
                have HOZ := Lib.hid (show OwnG (((w1.setCell ⟨wr.heap.size, 2, none⟩ (.slice va2 N vc2))).alloc (.cells #[.int .i64 (3 + (R2 : Int)), .int .i64 0, .slice va2 N vc2] 26)) (w.heap.size + 1) (fun b => w.heap.size + 1 ≤ b) 26 (.slice (some ⟨gb, goff, none⟩) 0 vc) (st.take 0) from ownG_bel HOS.out ⟨_, hbz⟩)
                have hul : ((nd (3 + (R2 : Int)) 0 DL)).l.length = N := HDL.out
                have HCZ := Lib.hid (show InsC (fun b => w.heap.size + 1 ≤ b ∧ (Value.slice (some ⟨gb, goff, none⟩) 0 vc).ownBlock ≠ some b) (((w1.setCell ⟨wr.heap.size, 2, none⟩ (.slice va2 N vc2))).alloc (.cells #[.int .i64 (3 + (R2 : Int)), .int .i64 0, .slice va2 N vc2] 26)) (some ⟨w1.heap.size, 0, none⟩) [(nd (3 + (R2 : Int)) 0 DL)] from
                  insC_one (u := (nd (3 + (R2 : Int)) 0 DL)) (E := 26) (ad := va2) (cap := vc2) (by rw [hul]; exact new_at _ _ (by simp)) HUI.out)
                go_wp2_with (at_builtin; refine wpList_appG rfl (.tmp 93) (.tmp 95) 24 26 rfl i0 Tryz.underlying24 hi0 hz0 hz1 hz2 _ (w.heap.size + 1) (fun b => w.heap.size + 1 ≤ b) _ (st.take 0) [(nd (3 + (R2 : Int)) 0 DL)] (some ⟨w1.heap.size, 0, none⟩) 1 rfl HOZ.out HCZ.out rfl (by rw [HLN.out, List.length_singleton]; omega) (by simp; omega) ?_; intro va2 vc2 w4 hof hbw; rw [HLN.out, List.length_singleton] at hof; rw [HLN.out]; have HBW := Lib.hid hbw; have HOF := Lib.hid hof; have hbws := hbw.size; simp at hbws; clear hof hbw)
                go_roundw
                case rel => exact ⟨k + 1, by go_num, by omega, HST.out.next hbz HBW.out (by rw [HSTEP.out, HSX.out, HEQ.out]; exact HOF.out)⟩
                case measure => simp [intOf]; omega
    · have hke : k = code.length := by omega
      subst hke
      have f0 : decide ((code.length : Int) < (code.length : Int)) = false := decide_eq_false (by omega)
      obtain ⟨g0, g1, g2⟩ := box3f hrz
      obtain ⟨r0, r1, r2⟩ := box3 hrz
      have HMK := Lib.hid (show mkF code = lastM st by
        rw [← hstk, List.take_length]
        unfold mkF lastM
        rw [List.take_of_length_le hl]
        rfl)
      obtain ⟨oa, oc, hov, hoi⟩ := ownG_ins hown
      injection hov with h1 h2 h3
      subst h1 h3
      have HOI := Lib.hid (hoi.imp (Q := fun b => w.heap.size + 1 ≤ b) fun b _ hb => by rcases hb with hb | hb <;> exact hb)
      have HBF := Lib.hid hb
      clear h2 hoi hown HST hb hgood
      by_cases h1 : N = 1
      · subst h1
        obtain ⟨t, ht⟩ := List.length_eq_one_iff.1 hN
        rw [ht] at HMK HOI
        rw [show lastM [t] = t from rfl] at HMK
        obtain ⟨gb, goff, hadd, hgp, hgcs⟩ := insF_at HOI.out (by simp)
        subst hadd
        obtain ⟨c0, c1, ad', cap', c2, hit⟩ := cellF_open (hgcs 0 t rfl)
        rw [Nat.zero_mul, Nat.add_zero] at c0 c1 c2
        have HIT := Lib.hid hit
        clear hgcs hit ht hN hstk
        go_wp2
        have hR := obj_set3 (.int .i64 t.k) (.int .i64 t.a) (.slice ad' t.l.length cap') hrz
        obtain ⟨s0, s1, s2⟩ := box3 hR
        exact bodyPost_ret (v := .agg #[.int .i64 t.k, .int .i64 t.a, .slice ad' t.l.length cap']) (by simp [results, Tryz.results14, go_sem, s0, s1, s2]) rfl (by rw [HMK.out]; exact RetF.mk (t := t) ad' cap' rfl (((HBF.out.setCell (p := ⟨w.heap.size, 0, none⟩) (by simp) _).setCell (p := ⟨w.heap.size, 1, none⟩) (by simp) _).setCell (p := ⟨w.heap.size, 2, none⟩) (by simp) _) (insF_set3 (m := w.heap.size + 1) (by omega) (by omega) HIT.out))
      · have f1 : ((N : Int) == 1) = false := beq_eq_false_iff_ne.2 (by omega)
        have HMK2 := Lib.hid (show mkF code = nd 3 0 st by
          rw [HMK.out]
          match st, hN with
          | [], _ => rfl
          | [t], hN => exact absurd hN (fun e => h1 e.symm)
          | t :: u :: r, _ => rfl)
        have HN := Lib.hid hN
        clear hN hstk h1 HMK
        go_wp2
        have hR := obj_set3 (.int .i64 3) (.int .i64 0) (.slice va N vc) hrz
        obtain ⟨s0, s1, s2⟩ := box3 hR
        exact bodyPost_ret (v := .agg #[.int .i64 3, .int .i64 0, .slice va N vc]) (by simp [results, Tryz.results14, go_sem, s0, s1, s2]) rfl (by rw [HMK2.out]; exact RetF.mk (t := nd 3 0 st) va vc (by show _ = Value.agg #[.int .i64 3, .int .i64 0, .slice va st.length vc]; rw [HN.out]) (((HBF.out.setCell (p := ⟨w.heap.size, 0, none⟩) (by simp) _).setCell (p := ⟨w.heap.size, 1, none⟩) (by simp) _).setCell (p := ⟨w.heap.size, 2, none⟩) (by simp) _) (insF_set3 (m := w.heap.size + 1) (by omega) (by omega) HOI.out))
end Go.Proofs.YtkdmhjlcgpnjpaaGreatDoor
