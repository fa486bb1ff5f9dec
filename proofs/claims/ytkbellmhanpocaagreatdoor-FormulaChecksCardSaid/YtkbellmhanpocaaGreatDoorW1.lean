/- The simplified form of a join. -/
import Derived.Carry
import Derived.Test.YtkbellmhanpocaaGreatDoorH3
import Derived.Test.YtkbellmhanpocaaGreatDoorG8
import Derived.Test.YtkbellmhanpocaaGreatDoorFm
import Derived.Test.YtkbellmhanpocaaGreatDoorFt
import Derived.Test.YtkbellmhanpocaaGreatDoorCm
namespace Go.Proofs.YtkbellmhanpocaaGreatDoor
set_option linter.unusedVariables false
set_option linter.unusedSimpArgs false
open Go.RowKit F
attribute [local go_sem low] Bel.cell Bel.frozen alloc_cell alloc_frozen

def JSt (w wr : World) (v : Value) (l : List F) (fo rz : Obj) : Prop :=
  OwnG wr (w.heap.size + 2) (fun b => w.heap.size + 2 ≤ b) 26 v l ∧ wr.heap[w.heap.size]? = some fo ∧ wr.heap[w.heap.size + 1]? = some rz ∧ Below w.heap.size w wr ∧ w.heap.size + 2 ≤ wr.heap.size
theorem JSt.next {w wr Z w1 : World} {v v' : Value} {l l' : List F} {fo rz : Obj} (h : JSt w wr v l fo rz) (hz : Below wr.heap.size wr Z) (hb : Below (w.heap.size + 2) Z w1) (ho : OwnG w1 (w.heap.size + 2) (fun b => w.heap.size + 2 ≤ b) 26 v' l') : JSt w w1 v' l' fo rz := by
  obtain ⟨_, a1, a2, a3, a4⟩ := h
  have hsz : w.heap.size + 2 ≤ w1.heap.size := Nat.le_trans a4 (Nat.le_trans hz.size hb.size)
  exact ⟨ho, obj_below hb (by omega) (obj_bel ⟨_, hz⟩ a1), obj_below hb (by omega) (obj_bel ⟨_, hz⟩ a2), (a3.trans (hz.mono a3.size)).trans (hb.mono (by omega)), hsz⟩
theorem zeroBool (w : World) : (zeroValue 4).run Tryz.prog w = .ok (.bool false) w := by kernel_rfl
set_option maxRecDepth 100000 in
set_option maxHeartbeats 12800000 in
theorem joined_and (tl : List F) (ad : Option Addr) (cap : Nat) (w : World) (hi : InsF (fun c => c < w.heap.size) w ad tl) (hok : ∀ u ∈ tl, okT u) (hn : nodesL tl ≤ 10000) (hT : Tab w)
    (HS : ∀ u ∈ tl, ∀ ad cap W, Below w.heap.size w W → InsF (fun c => c < w.heap.size) W ad u.l → Calls Tryz.prog 46 #[.agg #[.int .i64 u.k, .int .i64 u.a, .slice ad u.l.length cap]] W (RetF (smp u) W)) :
    Calls Tryz.prog 56 #[.agg #[.int .i64 3, .int .i64 0, .slice ad tl.length cap]] w (RetF (joinF 3 (smpL 3 tl)) w) := by
  obtain ⟨i0, hi0, hz0, hz1, hz2⟩ := info_parts Tryz.infoF
  have hlen : tl.length ≤ 10000 := Nat.le_trans (length_nodesL tl) hn
  have HSH := Lib.hid HS
  have HOK := Lib.hid hok
  have HNN := Lib.hid hn
  have HTT := Lib.hid hT
  clear HS hok hn hT
  go_enter Tryz.func56, Tryz.ntmps56
  go_wp2
  go_loopw [5, 25] (fun v i wr => ∃ k : Nat, i = .int .i64 (k : Int) ∧ k ≤ tl.length ∧ JSt w wr v (smpL 3 (tl.take k)) (.cells #[.int .i64 3, .int .i64 0, .slice ad tl.length cap] 26 (0, 0)) (.cells #[.int .i64 0, .int .i64 0, .slice none 0 0] 26 (0, 0))) (fun _ i _ => tl.length - (intOf i).toNat)
  case atStart => exact ⟨0, rfl, by omega, ownG_nil _ _ _ _, heap2_0 _ _ _, heap2_1 _ _ _, by (repeat' (first | (with_reducible exact Below.refl _ _) | (with_reducible exact Nat.le_refl _) | (with_reducible refine Below.bel ?_ ?_) | (with_reducible refine Below.alloc ?_ ?_ _) | (with_reducible refine Below.drew ?_) | (with_reducible refine Below.drawsN ?_ _) | (with_reducible refine Below.setCell ?_ ?_ _) | (with_reducible refine le_bel ?_) | (with_reducible refine le_alloc ?_) | (with_reducible refine le_setCell ?_) | (with_reducible refine le_drew ?_) | (with_reducible refine le_drawsN ?_) | (dsimp only; with_reducible refine le_bel ?_) | (dsimp only; with_reducible refine Nat.le_refl _) | (dsimp only; with_reducible refine le_bel_add ?_) | (with_reducible assumption) | omega | (dsimp only; omega))), by simp⟩
  case round =>
    obtain ⟨k, rfl, hk, hst⟩ := hrel
    have HST := Lib.hid hst
    obtain ⟨hown, hfo, hrz, hb, hsz⟩ := hst
    have hiW := below_move hi (fun _ h => h) hb
    obtain ⟨va, vc, rfl⟩ := ownG_val hown
    obtain ⟨b0, b1, b2⟩ := box3 hfo
    have hsm := smpL_take_size 3 tl k (okL_of HOK.out)
    have hnn := HNN.out
    have hll := length_nodesL (smpL 3 (tl.take k))
    rcases Nat.lt_or_ge k tl.length with hkl | hkl
    · obtain ⟨u, hu⟩ := some_at hkl
      have hum := List.mem_of_getElem? hu
      obtain ⟨bb, off, hadd, hp, hcs⟩ := insF_at hiW (by omega)
      cases hadd
      obtain ⟨c0, c1, ad', cap', c2, hiu⟩ := cellF_open (hcs k u hu)
      have f0 : decide ((k : Int) < (tl.length : Int)) = true := decide_eq_true (by omega)
      have hib : (0 ≤ (k : Int) ∧ (k : Int) < (tl.length : Int)) := ⟨by omega, by omega⟩
      have HC := HSH.out u hum ad' cap'
      have hsu2 := (smp_size u (HOK.out u hum)).1
      have hun := nodesL_mem hum
      have hsn := smpL_snoc 3 (tl.take k) u
      have hlk : (tl.take (k + 1)) = tl.take k ++ [u] := by rw [List.take_add_one, hu]; rfl
      rw [← hlk] at hsn
      obtain ⟨su, hsu⟩ : ∃ su, smp u = su := ⟨_, rfl⟩
      rw [hsu] at HC hsu2 hsn
      have hsul : su.l.length ≤ 10000 := by have := length_nodesL su.l; rw [nodes_l] at hsu2; omega
      obtain ⟨LK, hLK⟩ : ∃ LK, smpL 3 (tl.take k) = LK := ⟨_, rfl⟩
      rw [hLK] at hown hsn hll hsm ⊢
      have HLK := Lib.hid hLK
      have HSN := Lib.hid hsn
      have HCC := Lib.hid HC
      have HI := Lib.hid hiu
      have HO := Lib.hid hown
      clear hcs hiW hiu hown hu hsu hp HC hsn hlk hLK hum
      go_wp2_with fail
      refine (HCC.out _ (by (repeat' (first | (with_reducible exact Below.refl _ _) | (with_reducible exact Nat.le_refl _) | (with_reducible refine Below.bel ?_ ?_) | (with_reducible refine Below.alloc ?_ ?_ _) | (with_reducible refine Below.drew ?_) | (with_reducible refine Below.drawsN ?_ _) | (with_reducible refine Below.setCell ?_ ?_ _) | (with_reducible refine le_bel ?_) | (with_reducible refine le_alloc ?_) | (with_reducible refine le_setCell ?_) | (with_reducible refine le_drew ?_) | (with_reducible refine le_drawsN ?_) | (dsimp only; with_reducible refine le_bel ?_) | (dsimp only; with_reducible refine Nat.le_refl _) | (dsimp only; with_reducible refine le_bel_add ?_) | (with_reducible assumption) | omega | (dsimp only; omega)))) (HI.out.of (by (repeat' (first | (with_reducible exact Below.refl _ _) | (with_reducible exact Nat.le_refl _) | (with_reducible refine Below.bel ?_ ?_) | (with_reducible refine Below.alloc ?_ ?_ _) | (with_reducible refine Below.drew ?_) | (with_reducible refine Below.drawsN ?_ _) | (with_reducible refine Below.setCell ?_ ?_ _) | (with_reducible refine le_bel ?_) | (with_reducible refine le_alloc ?_) | (with_reducible refine le_setCell ?_) | (with_reducible refine le_drew ?_) | (with_reducible refine le_drawsN ?_) | (dsimp only; with_reducible refine le_bel ?_) | (dsimp only; with_reducible refine Nat.le_refl _) | (dsimp only; with_reducible refine le_bel_add ?_) | (with_reducible assumption) | omega | (dsimp only; omega)))))).mono ?_
      rintro _ _ ⟨_, rfl, y, rfl, ad5, cap5, rfl, hi5⟩
      have hys := y.size_le
      simp at hys
      have HI5 := Lib.hid hi5
      have hfo2 := obj_bel ⟨y.w, (by (repeat' (first | (with_reducible exact Below.refl _ _) | (with_reducible exact Nat.le_refl _) | (with_reducible refine Below.bel ?_ ?_) | (with_reducible refine Below.alloc ?_ ?_ _) | (with_reducible refine Below.drew ?_) | (with_reducible refine Below.drawsN ?_ _) | (with_reducible refine Below.setCell ?_ ?_ _) | (with_reducible refine le_bel ?_) | (with_reducible refine le_alloc ?_) | (with_reducible refine le_setCell ?_) | (with_reducible refine le_drew ?_) | (with_reducible refine le_drawsN ?_) | (dsimp only; with_reducible refine le_bel ?_) | (dsimp only; with_reducible refine Nat.le_refl _) | (dsimp only; with_reducible refine le_bel_add ?_) | (with_reducible assumption) | omega | (dsimp only; omega))) : Below wr.heap.size wr y.w)⟩ hfo
      obtain ⟨d0, d1, d2⟩ := box3 hfo2
      clear hi5
      dsimp only
      by_cases hsk : su.k = 3
      · have fk : (su.k == 3) = true := beq_iff_eq.2 hsk
        rw [if_pos hsk] at HSN
        have hbz : Below wr.heap.size wr (y.w.alloc (.cells #[.int .i64 su.k, .int .i64 su.a, .slice ad5 su.l.length cap5] 26)) := by (repeat' (first | (with_reducible exact Below.refl _ _) | (with_reducible exact Nat.le_refl _) | (with_reducible refine Below.bel ?_ ?_) | (with_reducible refine Below.alloc ?_ ?_ _) | (with_reducible refine Below.drew ?_) | (with_reducible refine Below.drawsN ?_ _) | (with_reducible refine Below.setCell ?_ ?_ _) | (with_reducible refine le_bel ?_) | (with_reducible refine le_alloc ?_) | (with_reducible refine le_setCell ?_) | (with_reducible refine le_drew ?_) | (with_reducible refine le_drawsN ?_) | (dsimp only; with_reducible refine le_bel ?_) | (dsimp only; with_reducible refine Nat.le_refl _) | (dsimp only; with_reducible refine le_bel_add ?_) | (with_reducible assumption) | omega | (dsimp only; omega)))
        have HOZ := Lib.hid (ownG_bel HO.out ⟨_, hbz⟩)
        have HCZ := Lib.hid (show InsF (fun b => w.heap.size + 2 ≤ b ∧ (Value.slice va LK.length vc).ownBlock ≠ some b) (y.w.alloc (.cells #[.int .i64 su.k, .int .i64 su.a, .slice ad5 su.l.length cap5] 26)) ad5 su.l from
          (HI5.out.of (by (repeat' (first | (with_reducible exact Below.refl _ _) | (with_reducible exact Nat.le_refl _) | (with_reducible refine Below.bel ?_ ?_) | (with_reducible refine Below.alloc ?_ ?_ _) | (with_reducible refine Below.drew ?_) | (with_reducible refine Below.drawsN ?_ _) | (with_reducible refine Below.setCell ?_ ?_ _) | (with_reducible refine le_bel ?_) | (with_reducible refine le_alloc ?_) | (with_reducible refine le_setCell ?_) | (with_reducible refine le_drew ?_) | (with_reducible refine le_drawsN ?_) | (dsimp only; with_reducible refine le_bel ?_) | (dsimp only; with_reducible refine Nat.le_refl _) | (dsimp only; with_reducible refine le_bel_add ?_) | (with_reducible assumption) | omega | (dsimp only; omega))))).imp fun b _ hb => ⟨by simp at hb; omega, ownG_avoid HO.out (.inl (by simp at hb; omega))⟩)
        clear hsk
        go_wp2_with (at_builtin; refine wpList_appG rfl _ _ 24 26 rfl i0 Tryz.underlying24 hi0 hz0 hz1 hz2 _ (w.heap.size + 2) (fun b => w.heap.size + 2 ≤ b) _ LK su.l ad5 cap5 rfl HOZ.out HCZ.out.c rfl (by omega) (by simp; omega) ?_; intro va2 vc2 w1 hof hbw; have HBW := Lib.hid hbw; have HOF := Lib.hid hof; have hbws := hbw.size; simp at hbws; clear hof hbw)
        go_roundw
        case rel => exact ⟨k + 1, by go_num, by omega, HST.out.next hbz HBW.out (by rw [HSN.out]; exact HOF.out)⟩
        case measure => simp [intOf]; omega
      · have fk : (su.k == 3) = false := beq_eq_false_iff_ne.2 hsk
        rw [if_neg hsk] at HSN
        have hbz : Below wr.heap.size wr ((y.w.alloc (.cells #[.int .i64 su.k, .int .i64 su.a, .slice ad5 su.l.length cap5] 26)).alloc (.cells #[.int .i64 su.k, .int .i64 su.a, .slice ad5 su.l.length cap5] 26)) := by (repeat' (first | (with_reducible exact Below.refl _ _) | (with_reducible exact Nat.le_refl _) | (with_reducible refine Below.bel ?_ ?_) | (with_reducible refine Below.alloc ?_ ?_ _) | (with_reducible refine Below.drew ?_) | (with_reducible refine Below.drawsN ?_ _) | (with_reducible refine Below.setCell ?_ ?_ _) | (with_reducible refine le_bel ?_) | (with_reducible refine le_alloc ?_) | (with_reducible refine le_setCell ?_) | (with_reducible refine le_drew ?_) | (with_reducible refine le_drawsN ?_) | (dsimp only; with_reducible refine le_bel ?_) | (dsimp only; with_reducible refine Nat.le_refl _) | (dsimp only; with_reducible refine le_bel_add ?_) | (with_reducible assumption) | omega | (dsimp only; omega)))
        have HOZ := Lib.hid (ownG_bel HO.out ⟨_, hbz⟩)
        have HCZ := Lib.hid (show InsF (fun b => w.heap.size + 2 ≤ b ∧ (Value.slice va LK.length vc).ownBlock ≠ some b) ((y.w.alloc (.cells #[.int .i64 su.k, .int .i64 su.a, .slice ad5 su.l.length cap5] 26)).alloc (.cells #[.int .i64 su.k, .int .i64 su.a, .slice ad5 su.l.length cap5] 26)) (some ⟨y.w.heap.size + 1, 0, none⟩) [su] from
          insF_one (E := 26) (ad := ad5) (cap := cap5) (heap2_1 _ _ _) ⟨by omega, ownG_avoid HO.out (.inl (by omega))⟩ ((HI5.out.of (by (repeat' (first | (with_reducible exact Below.refl _ _) | (with_reducible exact Nat.le_refl _) | (with_reducible refine Below.bel ?_ ?_) | (with_reducible refine Below.alloc ?_ ?_ _) | (with_reducible refine Below.drew ?_) | (with_reducible refine Below.drawsN ?_ _) | (with_reducible refine Below.setCell ?_ ?_ _) | (with_reducible refine le_bel ?_) | (with_reducible refine le_alloc ?_) | (with_reducible refine le_setCell ?_) | (with_reducible refine le_drew ?_) | (with_reducible refine le_drawsN ?_) | (dsimp only; with_reducible refine le_bel ?_) | (dsimp only; with_reducible refine Nat.le_refl _) | (dsimp only; with_reducible refine le_bel_add ?_) | (with_reducible assumption) | omega | (dsimp only; omega))))).imp fun b _ hb => ⟨by simp at hb; omega, ownG_avoid HO.out (.inl (by simp at hb; omega))⟩))
        clear hsk
        go_wp2_with (at_builtin; refine wpList_appG rfl _ _ 24 26 rfl i0 Tryz.underlying24 hi0 hz0 hz1 hz2 _ (w.heap.size + 2) (fun b => w.heap.size + 2 ≤ b) _ LK [su] (some ⟨y.w.heap.size + 1, 0, none⟩) 1 rfl HOZ.out HCZ.out.c rfl (by simp; omega) (by simp; omega) ?_; intro va2 vc2 w1 hof hbw; have HBW := Lib.hid hbw; have HOF := Lib.hid hof; have hbws := hbw.size; simp at hbws; clear hof hbw)
        go_roundw
        case rel => exact ⟨k + 1, by go_num, by omega, HST.out.next hbz HBW.out (by rw [HSN.out]; exact HOF.out)⟩
        case measure => simp [intOf]; omega
    · have hke : k = tl.length := by omega
      subst hke
      have f0 : decide ((tl.length : Int) < (tl.length : Int)) = false := decide_eq_false (by omega)
      rw [List.take_length] at hown hll hsm ⊢
      have hLok := smpL_ok 3 tl (okL_of HOK.out) hnn
      obtain ⟨L, hL⟩ : ∃ L, smpL 3 tl = L := ⟨_, rfl⟩
      rw [hL] at hown hll hsm hLok ⊢
      have HLOK := Lib.hid hLok
      have HLE := Lib.hid hL
      obtain ⟨w1, hw1⟩ : ∃ w1, w1 = wr := ⟨_, rfl⟩
      subst hw1
      obtain ⟨la, lc, hv, hL1⟩ := ownG_ins hown
      injection hv with e1 e2 e3
      subst e1 e3
      have HB1 := Lib.hid hb
      have HW1 := Lib.hid (And.intro hfo hrz)
      have HL1 := Lib.hid hL1
      have hT1 := HTT.out.of hb
      have HT1 := Lib.hid hT1
      have hmm := @run_makeMap Tryz.prog
      clear HST hiW hown e2 hL hi HSH HOK HNN HTT hfo hrz hb hLok hT1 hL1
      have hLl : L.length ≤ 10000 := by omega
      go_wp2
      go_loopw [48] (fun i wr => ∃ j : Nat, i = .int .i64 (j : Int) ∧ j ≤ L.length ∧ SetM Tryz.prog 9 4 wr w1.heap.size j (revT (L.take j)) ∧ Below w1.heap.size w1 wr ∧ w1.heap.size + 1 ≤ wr.heap.size) (fun i _ => L.length - (intOf i).toNat)
      case atStart => exact ⟨0, rfl, by omega, setM_made w1 _ _ _, (Below.refl _ _).alloc (Nat.le_refl _) _, by simp⟩
      case round =>
        obtain ⟨j, rfl, hj, hset, hb2, hs2⟩ := hrel
        have hiW := HL1.out.of hb2
        rcases Nat.lt_or_ge j L.length with hjl | hjl
        · obtain ⟨g, hg⟩ := some_at hjl
          have hgm := List.mem_of_getElem? hg
          obtain ⟨bb, off, hadd, hp, hcs⟩ := insF_at hiW (by omega)
          cases hadd
          obtain ⟨c0, c1, ad', cap', c2, hig⟩ := cellF_open (hcs j g hg)
          have f1 : decide ((j : Int) < (L.length : Int)) = true := decide_eq_true (by omega)
          have hib : (0 ≤ (j : Int) ∧ (j : Int) < (L.length : Int)) := ⟨by omega, by omega⟩
          have hgn : nodes g ≤ 10000 := nodes_mem_ok hgm (by omega)
          have hgt := txt_len g (HLOK.out g hgm)
          have HX := Lib.hid (fun (P : Nat → Prop) W (hi : InsF P W ad' g.l) hT => text_any P g ad' cap' W hi (HLOK.out g hgm) (by omega) hT)
          have HRV := Lib.hid (show txt g :: revT (L.take j) = revT (L.take (j + 1)) by rw [List.take_add_one, hg]; exact (revT_snoc _ _).symm)
          have HIG := Lib.hid hig
          have HSET := Lib.hid hset
          have HB2 := Lib.hid hb2
          have HT2 := Lib.hid (HT1.out.of hb2)
          have hm1 := hset.lt
          clear hcs hiW hig hp hg hset hb2
          go_wp2_with fail
          refine (HX.out _ _ (HIG.out.of (by (repeat' (first | (with_reducible exact Below.refl _ _) | (with_reducible exact Nat.le_refl _) | (with_reducible refine Below.bel ?_ ?_) | (with_reducible refine Below.alloc ?_ ?_ _) | (with_reducible refine Below.drew ?_) | (with_reducible refine Below.drawsN ?_ _) | (with_reducible refine Below.setCell ?_ ?_ _) | (with_reducible refine le_bel ?_) | (with_reducible refine le_alloc ?_) | (with_reducible refine le_setCell ?_) | (with_reducible refine le_drew ?_) | (with_reducible refine le_drawsN ?_) | (dsimp only; with_reducible refine le_bel ?_) | (dsimp only; with_reducible refine Nat.le_refl _) | (dsimp only; with_reducible refine le_bel_add ?_) | (with_reducible assumption) | omega | (dsimp only; omega))))) (HT2.out.of (by (repeat' (first | (with_reducible exact Below.refl _ _) | (with_reducible exact Nat.le_refl _) | (with_reducible refine Below.bel ?_ ?_) | (with_reducible refine Below.alloc ?_ ?_ _) | (with_reducible refine Below.drew ?_) | (with_reducible refine Below.drawsN ?_ _) | (with_reducible refine Below.setCell ?_ ?_ _) | (with_reducible refine le_bel ?_) | (with_reducible refine le_alloc ?_) | (with_reducible refine le_setCell ?_) | (with_reducible refine le_drew ?_) | (with_reducible refine le_drawsN ?_) | (dsimp only; with_reducible refine le_bel ?_) | (dsimp only; with_reducible refine Nat.le_refl _) | (dsimp only; with_reducible refine le_bel_add ?_) | (with_reducible assumption) | omega | (dsimp only; omega)))))).mono ?_
          rintro _ _ ⟨rfl, y, rfl⟩
          have hys := y.size_le
          simp at hys
          have hby : Below wr.heap.size wr y.w := by (repeat' (first | (with_reducible exact Below.refl _ _) | (with_reducible exact Nat.le_refl _) | (with_reducible refine Below.bel ?_ ?_) | (with_reducible refine Below.alloc ?_ ?_ _) | (with_reducible refine Below.drew ?_) | (with_reducible refine Below.drawsN ?_ _) | (with_reducible refine Below.setCell ?_ ?_ _) | (with_reducible refine le_bel ?_) | (with_reducible refine le_alloc ?_) | (with_reducible refine le_setCell ?_) | (with_reducible refine le_drew ?_) | (with_reducible refine le_drawsN ?_) | (dsimp only; with_reducible refine le_bel ?_) | (dsimp only; with_reducible refine Nat.le_refl _) | (dsimp only; with_reducible refine le_bel_add ?_) | (with_reducible assumption) | omega | (dsimp only; omega)))
          have HSY := Lib.hid (HSET.out.heap fun o ho => obj_bel ⟨y.w, hby⟩ ho)
          have HBY := Lib.hid (HB2.out.trans (hby.mono (by omega)))
          dsimp only
          go_wp2_with (at_mapUpdate; refine wpList_update_set _ rfl _ _ _ _ rfl 9 4 Tryz.underlying9 Tryz.underlying99 Tryz.underlying4 w1.heap.size j (revT (L.take j)) rfl HSY.out (by unfold maxLen; omega) (txt g) rfl (by unfold maxLen; omega) rfl ?_; intro w3 hset3 hg3; have HS3 := Lib.hid hset3; have HG3 := Lib.hid hg3; have hs3 := hg3.size; clear hset3 hg3)
          go_roundw
          case rel => exact ⟨j + 1, by go_num, by omega, by rw [← HRV.out]; exact HS3.out, HBY.out.grown HG3.out (by omega) (fun k e => by injection e with e; omega), by omega⟩
          case measure => simp [intOf]; omega
        · have hje : j = L.length := by omega
          subst hje
          have f1 : decide ((L.length : Int) < (L.length : Int)) = false := decide_eq_false (by omega)
          rw [List.take_length] at hset
          obtain ⟨w2, hw2⟩ : ∃ w2, w2 = wr := ⟨_, rfl⟩
          subst hw2
          have hb12 : Below w.heap.size w w2 := HB1.out.trans (hb2.mono HB1.out.size)
          have hfo2 := obj_below hb2 (by omega) HW1.out.1
          have hrz2 := obj_below hb2 (by omega) HW1.out.2
          obtain ⟨e0, e1, e2⟩ := box3 hfo2
          have HSET := Lib.hid hset
          have HB2 := Lib.hid hb12
          have HL2 := Lib.hid (hiW.imp fun b hb hq => (show (w.heap.size + 2 ≤ b ∧ b < w2.heap.size) from ⟨by omega, hb⟩))
          have HT2 := Lib.hid (HT1.out.of hb2)
          have HRZ := Lib.hid hrz2
          have hm1 := hset.lt
          clear hset hb2 hb12 hiW HL1 HT1 HB1 HW1 hrz2
          go_wp2
          go_loopw [62] (fun i wr => ∃ (j n : Nat) (v : Value), i = .int .i64 (j : Int) ∧ j ≤ L.length ∧ (L.take j).any (bad 3 L) = false ∧ OwnG wr (w2.heap.size + 2) (fun b => w.heap.size + 2 ≤ b ∧ b < w2.heap.size) 26 v (dd 3 [] (L.take j)) ∧
            wr.heap[w2.heap.size]? = some (.cells #[.int .i64 3, .int .i64 0, v] 26 (0, 0)) ∧ SetM Tryz.prog 9 4 wr (w2.heap.size + 1) n (revT (dd 3 [] (L.take j))) ∧ n ≤ j ∧ Below w2.heap.size w2 wr ∧ w2.heap.size + 2 ≤ wr.heap.size) (fun i _ => L.length - (intOf i).toNat)
          case atStart =>
            exact ⟨0, 0, .slice none 0 0, rfl, by omega, rfl, ownG_nil _ _ _ _, heap2_0 _ _ _, by
              have := setM_made (w2.alloc (.cells #[.int .i64 3, .int .i64 0, .slice none 0 0] 26)) Tryz.prog 9 4
              rw [World.size_alloc] at this
              exact this, Nat.le_refl _, by (repeat' (first | (with_reducible exact Below.refl _ _) | (with_reducible exact Nat.le_refl _) | (with_reducible refine Below.bel ?_ ?_) | (with_reducible refine Below.alloc ?_ ?_ _) | (with_reducible refine Below.drew ?_) | (with_reducible refine Below.drawsN ?_ _) | (with_reducible refine Below.setCell ?_ ?_ _) | (with_reducible refine le_bel ?_) | (with_reducible refine le_alloc ?_) | (with_reducible refine le_setCell ?_) | (with_reducible refine le_drew ?_) | (with_reducible refine le_drawsN ?_) | (dsimp only; with_reducible refine le_bel ?_) | (dsimp only; with_reducible refine Nat.le_refl _) | (dsimp only; with_reducible refine le_bel_add ?_) | (with_reducible assumption) | omega | (dsimp only; omega))), by simp⟩
          case round =>
            obtain ⟨j, n, v, rfl, hj, hbad, hown, hbox, hset3, hnj, hb3, hs3⟩ := hrel
            have hiW := HL2.out.of hb3
            rcases Nat.lt_or_ge j L.length with hjl | hjl
            · obtain ⟨g, hg⟩ := some_at hjl
              have hgm := List.mem_of_getElem? hg
              have hgok := HLOK.out g hgm
              obtain ⟨bb, off, hadd, hp, hcs⟩ := insF_at hiW (by omega)
              cases hadd
              obtain ⟨va3, vc3, rfl⟩ := ownG_val hown
              obtain ⟨c0, c1, ad', cap', c2, hig⟩ := cellF_open (hcs j g hg)
              have f1 : decide ((j : Int) < (L.length : Int)) = true := decide_eq_true (by omega)
              have hib : (0 ≤ (j : Int) ∧ (j : Int) < (L.length : Int)) := ⟨by omega, by omega⟩
              have hgn : nodes g ≤ 10000 := nodes_mem_ok hgm (by omega)
              have hgt := txt_len g hgok
              have HX := Lib.hid (fun (P : Nat → Prop) W (hi : InsF P W ad' g.l) hT => text_any P g ad' cap' W hi hgok (by omega) hT)
              have HTK := Lib.hid (show L.take (j + 1) = L.take j ++ [g] by rw [List.take_add_one, hg]; rfl)
              have hD := fun u (hu : u ∈ dd 3 [] (L.take j)) => dd_ok HLOK.out j u hu
              have hDl := dd_len 3 (L.take j) []
              rw [List.length_nil, List.length_take] at hDl
              have HDS := Lib.hid (dd_snoc 3 g (L.take j) [])
              rw [← HTK.out] at HDS
              obtain ⟨D, hDD⟩ : ∃ D, dd 3 [] (L.take j) = D := ⟨_, rfl⟩
              rw [hDD] at hown hset3 hD hDl HDS hbox
              have HIG := Lib.hid hig
              have HO := Lib.hid hown
              have HS3 := Lib.hid hset3
              have HB3 := Lib.hid hb3
              have HT3 := Lib.hid (HT2.out.of hb3)
              have HSW := Lib.hid (HSET.out.heap fun o ho => obj_below hb3 hm1 ho)
              have HBX := Lib.hid hbox
              have HBAD := Lib.hid (And.intro hbad hDD)
              have hm3 := hset3.lt
              have HRW := Lib.hid (obj_below hb3 (by omega) HRZ.out)
              have HGL := Lib.hid (And.intro hgm hgok)
              have HDM := Lib.hid (show txt g ∈ revT D ↔ g ∈ D from mem_revT hgok hD)
              clear hcs hiW hp hg hbad hown hbox hset3 hb3 hDD hD hgm hgok hig
              by_cases hst : g.k = 5
              · have f2 : (g.k == 5) = true := beq_iff_eq.2 hst
                have HBB : bad 3 L g = true := by simp [bad, strong, hst]
                clear hst
                have hjs : joinF 3 L = nd 5 0 [] := by
                  unfold joinF
                  rw [if_pos (List.any_eq_true.2 ⟨g, HGL.out.1, HBB⟩)]
                  rfl
                have HJS := Lib.hid hjs
                have hwz : Below wr.heap.size wr ((wr.alloc (.cells #[.int .i64 g.k, .int .i64 g.a, .slice ad' g.l.length cap'] 26))) := by (repeat' (first | (with_reducible exact Below.refl _ _) | (with_reducible exact Nat.le_refl _) | (with_reducible refine Below.bel ?_ ?_) | (with_reducible refine Below.alloc ?_ ?_ _) | (with_reducible refine Below.drew ?_) | (with_reducible refine Below.drawsN ?_ _) | (with_reducible refine Below.setCell ?_ ?_ _) | (with_reducible refine le_bel ?_) | (with_reducible refine le_alloc ?_) | (with_reducible refine le_setCell ?_) | (with_reducible refine le_drew ?_) | (with_reducible refine le_drawsN ?_) | (dsimp only; with_reducible refine le_bel ?_) | (dsimp only; with_reducible refine Nat.le_refl _) | (dsimp only; with_reducible refine le_bel_add ?_) | (with_reducible assumption) | omega | (dsimp only; omega)))
                have hrz3 := obj_bel ⟨_, hwz⟩ HRW.out
                obtain ⟨r0, r1, r2⟩ := box3 hrz3
                obtain ⟨q0, q1, q2⟩ := box3f hrz3
                have HBF := Lib.hid ((HB2.out.trans (HB3.out.mono HB2.out.size)).trans (hwz.mono (by have := HB2.out.size; have := HB3.out.size; omega)))
                clear hjs HBB
                go_wp2
                have hR := obj_set3 (.int .i64 5) (.int .i64 0) (.slice none 0 0) hrz3
                obtain ⟨s0, s1, s2⟩ := box3 hR
                exact bodyPost_ret (v := .agg #[.int .i64 5, .int .i64 0, .slice none 0 0]) (by simp [results, Tryz.results56, go_sem, s0, s1, s2]) rfl (by rw [HLE.out, HJS.out]; exact RetF.mk none 0 rfl (((HBF.out.setCell (p := ⟨w.heap.size + 1, 0, none⟩) (by simp) _).setCell (p := ⟨w.heap.size + 1, 1, none⟩) (by simp) _).setCell (p := ⟨w.heap.size + 1, 2, none⟩) (by simp) _) (insF_nil _ _ _))
              · have f2 : (g.k == 5) = false := beq_eq_false_iff_ne.2 hst
                by_cases h2 : g.k = 2
                · have f4 : (g.k == 2) = true := beq_iff_eq.2 h2
                  obtain ⟨h, hgl⟩ : ∃ h, g.l = [h] := by
                    have hs := okT_s HGL.out.2
                    rw [F_eta g] at hs
                    rcases single_cases hs with ⟨e, _⟩ | ⟨_, _, h, e⟩ | ⟨e, _⟩ | ⟨e, _⟩
                    · omega
                    · exact ⟨h, e⟩
                    · omega
                    · omega
                  have hh : h ∈ g.l := by rw [hgl]; exact List.mem_singleton_self h
                  have hhok : okT h := okL_mem (okT_l HGL.out.2) hh
                  have hhn : nodes h ≤ 10000 := by have := nodesL_mem hh; rw [nodes_l] at hgn; omega
                  obtain ⟨bb2, off2, hadd, hp2, hcs2⟩ := insF_at HIG.out (by rw [hgl]; simp)
                  subst hadd
                  obtain ⟨d0, d1, ad2, cap2, d2, hih⟩ := cellF_open (hcs2 0 h (by rw [hgl]; rfl))
                  rw [Nat.zero_mul, Nat.add_zero] at d0 d1 d2
                  have hib2 : (0 : Int) < (g.l.length : Int) := by rw [hgl]; simp
                  have HXH := Lib.hid (fun (P : Nat → Prop) W (hi : InsF P W ad2 h.l) hT => text_any P h ad2 cap2 W hi hhok (by omega) hT)
                  have hht := txt_len h hhok
                  have HIH := Lib.hid hih
                  have HMH := Lib.hid (show txt h ∈ revT L ↔ h ∈ L from mem_revT hhok HLOK.out)
                  have HGH := Lib.hid (And.intro hst (And.intro h2 hgl))
                  clear hst h2 hgl hh hhok hp2 hcs2 hih
                  go_wp2_with fail
                  refine (HXH.out _ _ (HIH.out.of (by (repeat' (first | (with_reducible exact Below.refl _ _) | (with_reducible exact Nat.le_refl _) | (with_reducible refine Below.bel ?_ ?_) | (with_reducible refine Below.alloc ?_ ?_ _) | (with_reducible refine Below.drew ?_) | (with_reducible refine Below.drawsN ?_ _) | (with_reducible refine Below.setCell ?_ ?_ _) | (with_reducible refine le_bel ?_) | (with_reducible refine le_alloc ?_) | (with_reducible refine le_setCell ?_) | (with_reducible refine le_drew ?_) | (with_reducible refine le_drawsN ?_) | (dsimp only; with_reducible refine le_bel ?_) | (dsimp only; with_reducible refine Nat.le_refl _) | (dsimp only; with_reducible refine le_bel_add ?_) | (with_reducible assumption) | omega | (dsimp only; omega))))) (HT3.out.of (by (repeat' (first | (with_reducible exact Below.refl _ _) | (with_reducible exact Nat.le_refl _) | (with_reducible refine Below.bel ?_ ?_) | (with_reducible refine Below.alloc ?_ ?_ _) | (with_reducible refine Below.drew ?_) | (with_reducible refine Below.drawsN ?_ _) | (with_reducible refine Below.setCell ?_ ?_ _) | (with_reducible refine le_bel ?_) | (with_reducible refine le_alloc ?_) | (with_reducible refine le_setCell ?_) | (with_reducible refine le_drew ?_) | (with_reducible refine le_drawsN ?_) | (dsimp only; with_reducible refine le_bel ?_) | (dsimp only; with_reducible refine Nat.le_refl _) | (dsimp only; with_reducible refine le_bel_add ?_) | (with_reducible assumption) | omega | (dsimp only; omega)))))).mono ?_
                  rintro _ _ ⟨rfl, y, rfl⟩
                  have hyz := y.size_le
                  simp at hyz
                  have hby : Below wr.heap.size wr y.w := by (repeat' (first | (with_reducible exact Below.refl _ _) | (with_reducible exact Nat.le_refl _) | (with_reducible refine Below.bel ?_ ?_) | (with_reducible refine Below.alloc ?_ ?_ _) | (with_reducible refine Below.drew ?_) | (with_reducible refine Below.drawsN ?_ _) | (with_reducible refine Below.setCell ?_ ?_ _) | (with_reducible refine le_bel ?_) | (with_reducible refine le_alloc ?_) | (with_reducible refine le_setCell ?_) | (with_reducible refine le_drew ?_) | (with_reducible refine le_drawsN ?_) | (dsimp only; with_reducible refine le_bel ?_) | (dsimp only; with_reducible refine Nat.le_refl _) | (dsimp only; with_reducible refine le_bel_add ?_) | (with_reducible assumption) | omega | (dsimp only; omega)))
                  have hlk := setM_run Tryz.underlying9 Tryz.underlying99 Tryz.underlying4 (zeroBool y.w) (show SetM Tryz.prog 9 4 y.w w1.heap.size L.length (revT L) from HSW.out.heap fun o ho => obj_bel ⟨y.w, hby⟩ ho) (txt h) (by unfold maxLen; omega)
                  have hxo : y.w.heap[wr.heap.size]? = some (.cells #[.int .i64 g.k, .int .i64 g.a, .slice (some ⟨bb2, off2, none⟩) g.l.length cap'] 26 (0, 0)) := obj_bel y (World.alloc_heap_new _ _)
                  dsimp only
                  by_cases hin : h ∈ L
                  · rw [decide_eq_true (HMH.out.2 hin)] at hlk
                    have HBB : bad 3 L g = true := by rw [bad, HGH.out.2.2]; simp [headF, hin, HGH.out.2.1]
                    clear hin
                    have hjs : joinF 3 L = nd 5 0 [] := by
                      unfold joinF
                      rw [if_pos (List.any_eq_true.2 ⟨g, HGL.out.1, HBB⟩)]
                      rfl
                    have HJS := Lib.hid hjs
                    have hwz : Below wr.heap.size wr (y.w) := by (repeat' (first | (with_reducible exact Below.refl _ _) | (with_reducible exact Nat.le_refl _) | (with_reducible refine Below.bel ?_ ?_) | (with_reducible refine Below.alloc ?_ ?_ _) | (with_reducible refine Below.drew ?_) | (with_reducible refine Below.drawsN ?_ _) | (with_reducible refine Below.setCell ?_ ?_ _) | (with_reducible refine le_bel ?_) | (with_reducible refine le_alloc ?_) | (with_reducible refine le_setCell ?_) | (with_reducible refine le_drew ?_) | (with_reducible refine le_drawsN ?_) | (dsimp only; with_reducible refine le_bel ?_) | (dsimp only; with_reducible refine Nat.le_refl _) | (dsimp only; with_reducible refine le_bel_add ?_) | (with_reducible assumption) | omega | (dsimp only; omega)))
                    have hrz3 := obj_bel ⟨_, hwz⟩ HRW.out
                    obtain ⟨r0, r1, r2⟩ := box3 hrz3
                    obtain ⟨q0, q1, q2⟩ := box3f hrz3
                    have HBF := Lib.hid ((HB2.out.trans (HB3.out.mono HB2.out.size)).trans (hwz.mono (by have := HB2.out.size; have := HB3.out.size; omega)))
                    clear hjs HBB
                    go_wp2
                    have hR := obj_set3 (.int .i64 5) (.int .i64 0) (.slice none 0 0) hrz3
                    obtain ⟨s0, s1, s2⟩ := box3 hR
                    exact bodyPost_ret (v := .agg #[.int .i64 5, .int .i64 0, .slice none 0 0]) (by simp [results, Tryz.results56, go_sem, s0, s1, s2]) rfl (by rw [HLE.out, HJS.out]; exact RetF.mk none 0 rfl (((HBF.out.setCell (p := ⟨w.heap.size + 1, 0, none⟩) (by simp) _).setCell (p := ⟨w.heap.size + 1, 1, none⟩) (by simp) _).setCell (p := ⟨w.heap.size + 1, 2, none⟩) (by simp) _) (insF_nil _ _ _))
                  · rw [decide_eq_false (fun h' => hin (HMH.out.1 h'))] at hlk
                    have HNB : [g].any (bad 3 L) = false := by
                      have := HGH.out.1
                      simp [bad, strong, this, HGH.out.2.2, headF, hin]
                    clear hin
                    have hzs : wr.heap.size + 1 ≤ (y.w).heap.size ∧ Below wr.heap.size wr (y.w) := ⟨by first | exact hyz | simp, by (repeat' (first | (with_reducible exact Below.refl _ _) | (with_reducible exact Nat.le_refl _) | (with_reducible refine Below.bel ?_ ?_) | (with_reducible refine Below.alloc ?_ ?_ _) | (with_reducible refine Below.drew ?_) | (with_reducible refine Below.drawsN ?_ _) | (with_reducible refine Below.setCell ?_ ?_ _) | (with_reducible refine le_bel ?_) | (with_reducible refine le_alloc ?_) | (with_reducible refine le_setCell ?_) | (with_reducible refine le_drew ?_) | (with_reducible refine le_drawsN ?_) | (dsimp only; with_reducible refine le_bel ?_) | (dsimp only; with_reducible refine Nat.le_refl _) | (dsimp only; with_reducible refine le_bel_add ?_) | (with_reducible assumption) | omega | (dsimp only; omega)))⟩
                    obtain ⟨hzs, hzb⟩ := hzs
                    have HZB := Lib.hid hzb
                    clear hzb
                    go_wp2_with fail
                    refine (HX.out _ _ (HIG.out.of HZB.out) (HT3.out.of HZB.out)).mono ?_
                    rintro _ _ ⟨rfl, y2, rfl⟩
                    have hys2 := y2.size_le
                    have hxo2 := obj_bel y2 hxo
                    obtain ⟨x0, x1, x2⟩ := box3 hxo2
                    have hzb2 : Below wr.heap.size wr y2.w := HZB.out.trans (y2.below.mono (by omega))
                    have HS32 := Lib.hid (show SetM Tryz.prog 9 4 y2.w (w2.heap.size + 1) n (revT D) from HS3.out.heap fun o ho => obj_bel ⟨y2.w, hzb2⟩ ho)
                    have HO2 := Lib.hid (show OwnG y2.w (w2.heap.size + 2) (fun b => w.heap.size + 2 ≤ b ∧ b < w2.heap.size) 26 (.slice va3 D.length vc3) D from ownG_bel HO.out ⟨y2.w, hzb2⟩)
                    have hbo2 : y2.w.heap[w2.heap.size]? = some (.cells #[.int .i64 3, .int .i64 0, .slice va3 D.length vc3] 26 (0, 0)) := obj_bel ⟨y2.w, hzb2⟩ HBX.out
                    obtain ⟨z0, z1, z2⟩ := box3 hbo2
                    have HB32 := Lib.hid (HB3.out.trans (hzb2.mono (by omega)))
                    have HZB2 := Lib.hid hzb2
                    clear hzb2
                    dsimp only
                    by_cases hw : g.k = 6
                    · have f3 : (g.k != 6) = false := by simp [hw]
                      have HDS2 := HDS
                      rw [if_pos (.inl hw)] at HDS2
                      clear hw
                      go_wp2
                      go_roundw
                      case rel => exact ⟨j + 1, n, _, by go_num, by omega, by rw [HTK.out, List.any_append, HBAD.out.1, Bool.false_or]; exact HNB, by rw [HDS2.out]; exact HO2.out, hbo2, by rw [HDS2.out]; exact HS32.out, by omega, HB32.out, by have := HB32.out.size; omega⟩
                      case measure => simp [intOf]; omega
                    · have f3 : (g.k != 6) = true := by simp [hw]
                      by_cases hin : g ∈ D
                      · have hlk := setM_run Tryz.underlying9 Tryz.underlying99 Tryz.underlying4 (zeroBool y2.w) HS32.out (txt g) (by unfold maxLen; omega)
                        rw [decide_eq_true (HDM.out.2 hin)] at hlk
                        have HDS2 := HDS
                        rw [if_pos (.inr hin)] at HDS2
                        clear hw hin
                        go_wp2
                        go_roundw
                        case rel => exact ⟨j + 1, n, _, by go_num, by omega, by rw [HTK.out, List.any_append, HBAD.out.1, Bool.false_or]; exact HNB, by rw [HDS2.out]; exact HO2.out, hbo2, by rw [HDS2.out]; exact HS32.out, by omega, HB32.out, by have := HB32.out.size; omega⟩
                        case measure => simp [intOf]; omega
                      · have hlk := setM_run Tryz.underlying9 Tryz.underlying99 Tryz.underlying4 (zeroBool y2.w) HS32.out (txt g) (by unfold maxLen; omega)
                        rw [decide_eq_false (fun h => hin (HDM.out.1 h))] at hlk
                        have HDS2 := HDS
                        rw [if_neg (fun h => h.elim hw hin)] at HDS2
                        clear hw hin
                        obtain ⟨_, _, z3⟩ := box3f hbo2
                        have hbz : Below y2.w.heap.size y2.w (y2.w.alloc (.cells #[.int .i64 g.k, .int .i64 g.a, .slice (some ⟨bb2, off2, none⟩) g.l.length cap'] 26)) := by (repeat' (first | (with_reducible exact Below.refl _ _) | (with_reducible exact Nat.le_refl _) | (with_reducible refine Below.bel ?_ ?_) | (with_reducible refine Below.alloc ?_ ?_ _) | (with_reducible refine Below.drew ?_) | (with_reducible refine Below.drawsN ?_ _) | (with_reducible refine Below.setCell ?_ ?_ _) | (with_reducible refine le_bel ?_) | (with_reducible refine le_alloc ?_) | (with_reducible refine le_setCell ?_) | (with_reducible refine le_drew ?_) | (with_reducible refine le_drawsN ?_) | (dsimp only; with_reducible refine le_bel ?_) | (dsimp only; with_reducible refine Nat.le_refl _) | (dsimp only; with_reducible refine le_bel_add ?_) | (with_reducible assumption) | omega | (dsimp only; omega)))
                        have HOZ := Lib.hid (show OwnG (y2.w.alloc (.cells #[.int .i64 g.k, .int .i64 g.a, .slice (some ⟨bb2, off2, none⟩) g.l.length cap'] 26)) (w2.heap.size + 2) (fun b => w.heap.size + 2 ≤ b ∧ b < w2.heap.size) 26 (.slice va3 D.length vc3) D from ownG_bel HO2.out ⟨_, hbz⟩)
                        have HCZ := Lib.hid (show InsC (fun b => (w.heap.size + 2 ≤ b ∧ b < w2.heap.size) ∧ (Value.slice va3 D.length vc3).ownBlock ≠ some b) (y2.w.alloc (.cells #[.int .i64 g.k, .int .i64 g.a, .slice (some ⟨bb2, off2, none⟩) g.l.length cap'] 26)) (some ⟨y2.w.heap.size, 0, none⟩) [g] from
                          insC_one (E := 26) (ad := (some ⟨bb2, off2, none⟩)) (cap := cap') (World.alloc_heap_new _ _) ((HIG.out.of (HZB2.out.alloc (by omega) _)).imp fun b _ hb => ⟨hb, ownG_avoid HO.out (.inr (by omega))⟩))
                        have HSZ := Lib.hid (show SetM Tryz.prog 9 4 (y2.w.alloc (.cells #[.int .i64 g.k, .int .i64 g.a, .slice (some ⟨bb2, off2, none⟩) g.l.length cap'] 26)) (w2.heap.size + 1) n (revT D) from HS32.out.heap fun o ho => obj_bel ⟨_, hbz⟩ ho)
                        have HBZ := Lib.hid (show (y2.w.alloc (.cells #[.int .i64 g.k, .int .i64 g.a, .slice (some ⟨bb2, off2, none⟩) g.l.length cap'] 26)).heap[w2.heap.size]? = some (.cells #[.int .i64 3, .int .i64 0, .slice va3 D.length vc3] 26 (0, 0)) from obj_bel ⟨_, hbz⟩ hbo2)
                        go_wp2_with (first | (at_builtin; refine wpList_appG rfl _ _ 24 26 rfl i0 Tryz.underlying24 hi0 hz0 hz1 hz2 _ (w2.heap.size + 2) (fun b => w.heap.size + 2 ≤ b ∧ b < w2.heap.size) _ D [g] (some ⟨y2.w.heap.size, 0, none⟩) 1 rfl HOZ.out HCZ.out rfl (by simp; omega) (by simp; omega) ?_; intro va2 vc2 w4 hof hbw; have HBW := Lib.hid hbw; have HOF := Lib.hid hof; have HB4 := Lib.hid (obj_below hbw (by omega) HBZ.out); have HS4 := Lib.hid (HSZ.out.heap fun o ho => obj_below hbw (by omega) ho); obtain ⟨j0, j1, j2⟩ := box3 HB4.out; obtain ⟨_, _, j3⟩ := box3f HB4.out; have hbws := hbw.size; simp at hbws; clear hof hbw) | (at_mapUpdate; refine wpList_update_set _ rfl _ _ _ _ rfl 9 4 Tryz.underlying9 Tryz.underlying99 Tryz.underlying4 (w2.heap.size + 1) n (revT D) rfl (HS4.out.heap fun o ho => obj_ne _ (by omega) ho) (by unfold maxLen; omega) (txt g) rfl (by unfold maxLen; omega) rfl ?_; intro w5 hset5 hg5; have HS5 := Lib.hid hset5; have HG5 := Lib.hid hg5; have hs5 := hg5.size; clear hset5 hg5))
                        simp at hs5
                        have hk45 : ∀ b o, w4.heap[b]? = some o → b ≠ w2.heap.size → b ≠ w2.heap.size + 1 → w5.heap[b]? = some o := fun b o ho h1 h2 =>
                          (HG5.out.block b (by have := (Array.getElem?_eq_some_iff.1 ho).1; simpa using this) (fun e => h2 (by injection e))).trans (obj_ne _ h1 ho)
                        have HK45 := Lib.hid hk45
                        have hbx5 := (HG5.out.block w2.heap.size (by simp; omega) (fun e => by injection e with e; omega)).trans (obj_set (i := 2) (.slice va2 (D.length + [g].length) vc2) HB4.out)
                        have HBX5 := Lib.hid hbx5
                        have hb45 : Below w2.heap.size w4 w5 := ((Below.refl _ w4).setCell (p := ⟨w2.heap.size, 2, none⟩) (Nat.le_refl _) _).grown HG5.out (by simp; omega) (fun k e => by injection e with e; exact (show w2.heap.size ≤ k by omega))
                        have HB45 := Lib.hid hb45
                        have HOM := Lib.hid (ownG_move HOF.out (w' := w5) (fun b o ho hq => by
                          have hbb : b ≠ w2.heap.size ∧ b ≠ w2.heap.size + 1 := by
                            rcases hq with hq | hq
                            · have := ownG_block HOF.out hq
                              omega
                            · have := hq.2
                              omega
                          exact HK45.out b o ho hbb.1 hbb.2))
                        clear hk45 hbx5 hb45
                        go_roundw
                        case rel => exact ⟨j + 1, n + 1, _, by go_num, by omega, by rw [HTK.out, List.any_append, HBAD.out.1, Bool.false_or]; exact HNB, by rw [HDS2.out]; exact HOM.out, HBX5.out, by rw [HDS2.out, revT_snoc]; exact HS5.out, by omega, (HB32.out.trans ((hbz.mono (by omega)).trans (HBW.out.mono (by omega)))).trans HB45.out, by omega⟩
                        case measure => simp [intOf]; omega
                · have f4 : (g.k == 2) = false := beq_eq_false_iff_ne.2 h2
                  have HNB : [g].any (bad 3 L) = false := by simp [bad, strong, hst, h2]
                  have hxo : (wr.alloc (.cells #[.int .i64 g.k, .int .i64 g.a, .slice ad' g.l.length cap'] 26)).heap[wr.heap.size]? = some (.cells #[.int .i64 g.k, .int .i64 g.a, .slice ad' g.l.length cap'] 26 (0, 0)) := World.alloc_heap_new _ _
                  clear hst h2
                  have hzs : wr.heap.size + 1 ≤ ((wr.alloc (.cells #[.int .i64 g.k, .int .i64 g.a, .slice ad' g.l.length cap'] 26))).heap.size ∧ Below wr.heap.size wr ((wr.alloc (.cells #[.int .i64 g.k, .int .i64 g.a, .slice ad' g.l.length cap'] 26))) := ⟨by first | exact hyz | simp, by (repeat' (first | (with_reducible exact Below.refl _ _) | (with_reducible exact Nat.le_refl _) | (with_reducible refine Below.bel ?_ ?_) | (with_reducible refine Below.alloc ?_ ?_ _) | (with_reducible refine Below.drew ?_) | (with_reducible refine Below.drawsN ?_ _) | (with_reducible refine Below.setCell ?_ ?_ _) | (with_reducible refine le_bel ?_) | (with_reducible refine le_alloc ?_) | (with_reducible refine le_setCell ?_) | (with_reducible refine le_drew ?_) | (with_reducible refine le_drawsN ?_) | (dsimp only; with_reducible refine le_bel ?_) | (dsimp only; with_reducible refine Nat.le_refl _) | (dsimp only; with_reducible refine le_bel_add ?_) | (with_reducible assumption) | omega | (dsimp only; omega)))⟩
                  obtain ⟨hzs, hzb⟩ := hzs
                  have HZB := Lib.hid hzb
                  clear hzb
                  go_wp2_with fail
                  refine (HX.out _ _ (HIG.out.of HZB.out) (HT3.out.of HZB.out)).mono ?_
                  rintro _ _ ⟨rfl, y2, rfl⟩
                  have hys2 := y2.size_le
                  have hxo2 := obj_bel y2 hxo
                  obtain ⟨x0, x1, x2⟩ := box3 hxo2
                  have hzb2 : Below wr.heap.size wr y2.w := HZB.out.trans (y2.below.mono (by omega))
                  have HS32 := Lib.hid (show SetM Tryz.prog 9 4 y2.w (w2.heap.size + 1) n (revT D) from HS3.out.heap fun o ho => obj_bel ⟨y2.w, hzb2⟩ ho)
                  have HO2 := Lib.hid (show OwnG y2.w (w2.heap.size + 2) (fun b => w.heap.size + 2 ≤ b ∧ b < w2.heap.size) 26 (.slice va3 D.length vc3) D from ownG_bel HO.out ⟨y2.w, hzb2⟩)
                  have hbo2 : y2.w.heap[w2.heap.size]? = some (.cells #[.int .i64 3, .int .i64 0, .slice va3 D.length vc3] 26 (0, 0)) := obj_bel ⟨y2.w, hzb2⟩ HBX.out
                  obtain ⟨z0, z1, z2⟩ := box3 hbo2
                  have HB32 := Lib.hid (HB3.out.trans (hzb2.mono (by omega)))
                  have HZB2 := Lib.hid hzb2
                  clear hzb2
                  dsimp only
                  by_cases hw : g.k = 6
                  · have f3 : (g.k != 6) = false := by simp [hw]
                    have HDS2 := HDS
                    rw [if_pos (.inl hw)] at HDS2
                    clear hw
                    go_wp2
                    go_roundw
                    case rel => exact ⟨j + 1, n, _, by go_num, by omega, by rw [HTK.out, List.any_append, HBAD.out.1, Bool.false_or]; exact HNB, by rw [HDS2.out]; exact HO2.out, hbo2, by rw [HDS2.out]; exact HS32.out, by omega, HB32.out, by have := HB32.out.size; omega⟩
                    case measure => simp [intOf]; omega
                  · have f3 : (g.k != 6) = true := by simp [hw]
                    by_cases hin : g ∈ D
                    · have hlk := setM_run Tryz.underlying9 Tryz.underlying99 Tryz.underlying4 (zeroBool y2.w) HS32.out (txt g) (by unfold maxLen; omega)
                      rw [decide_eq_true (HDM.out.2 hin)] at hlk
                      have HDS2 := HDS
                      rw [if_pos (.inr hin)] at HDS2
                      clear hw hin
                      go_wp2
                      go_roundw
                      case rel => exact ⟨j + 1, n, _, by go_num, by omega, by rw [HTK.out, List.any_append, HBAD.out.1, Bool.false_or]; exact HNB, by rw [HDS2.out]; exact HO2.out, hbo2, by rw [HDS2.out]; exact HS32.out, by omega, HB32.out, by have := HB32.out.size; omega⟩
                      case measure => simp [intOf]; omega
                    · have hlk := setM_run Tryz.underlying9 Tryz.underlying99 Tryz.underlying4 (zeroBool y2.w) HS32.out (txt g) (by unfold maxLen; omega)
                      rw [decide_eq_false (fun h => hin (HDM.out.1 h))] at hlk
                      have HDS2 := HDS
                      rw [if_neg (fun h => h.elim hw hin)] at HDS2
                      clear hw hin
                      obtain ⟨_, _, z3⟩ := box3f hbo2
                      have hbz : Below y2.w.heap.size y2.w (y2.w.alloc (.cells #[.int .i64 g.k, .int .i64 g.a, .slice ad' g.l.length cap'] 26)) := by (repeat' (first | (with_reducible exact Below.refl _ _) | (with_reducible exact Nat.le_refl _) | (with_reducible refine Below.bel ?_ ?_) | (with_reducible refine Below.alloc ?_ ?_ _) | (with_reducible refine Below.drew ?_) | (with_reducible refine Below.drawsN ?_ _) | (with_reducible refine Below.setCell ?_ ?_ _) | (with_reducible refine le_bel ?_) | (with_reducible refine le_alloc ?_) | (with_reducible refine le_setCell ?_) | (with_reducible refine le_drew ?_) | (with_reducible refine le_drawsN ?_) | (dsimp only; with_reducible refine le_bel ?_) | (dsimp only; with_reducible refine Nat.le_refl _) | (dsimp only; with_reducible refine le_bel_add ?_) | (with_reducible assumption) | omega | (dsimp only; omega)))
                      have HOZ := Lib.hid (show OwnG (y2.w.alloc (.cells #[.int .i64 g.k, .int .i64 g.a, .slice ad' g.l.length cap'] 26)) (w2.heap.size + 2) (fun b => w.heap.size + 2 ≤ b ∧ b < w2.heap.size) 26 (.slice va3 D.length vc3) D from ownG_bel HO2.out ⟨_, hbz⟩)
                      have HCZ := Lib.hid (show InsC (fun b => (w.heap.size + 2 ≤ b ∧ b < w2.heap.size) ∧ (Value.slice va3 D.length vc3).ownBlock ≠ some b) (y2.w.alloc (.cells #[.int .i64 g.k, .int .i64 g.a, .slice ad' g.l.length cap'] 26)) (some ⟨y2.w.heap.size, 0, none⟩) [g] from
                        insC_one (E := 26) (ad := ad') (cap := cap') (World.alloc_heap_new _ _) ((HIG.out.of (HZB2.out.alloc (by omega) _)).imp fun b _ hb => ⟨hb, ownG_avoid HO.out (.inr (by omega))⟩))
                      have HSZ := Lib.hid (show SetM Tryz.prog 9 4 (y2.w.alloc (.cells #[.int .i64 g.k, .int .i64 g.a, .slice ad' g.l.length cap'] 26)) (w2.heap.size + 1) n (revT D) from HS32.out.heap fun o ho => obj_bel ⟨_, hbz⟩ ho)
                      have HBZ := Lib.hid (show (y2.w.alloc (.cells #[.int .i64 g.k, .int .i64 g.a, .slice ad' g.l.length cap'] 26)).heap[w2.heap.size]? = some (.cells #[.int .i64 3, .int .i64 0, .slice va3 D.length vc3] 26 (0, 0)) from obj_bel ⟨_, hbz⟩ hbo2)
                      go_wp2_with (first | (at_builtin; refine wpList_appG rfl _ _ 24 26 rfl i0 Tryz.underlying24 hi0 hz0 hz1 hz2 _ (w2.heap.size + 2) (fun b => w.heap.size + 2 ≤ b ∧ b < w2.heap.size) _ D [g] (some ⟨y2.w.heap.size, 0, none⟩) 1 rfl HOZ.out HCZ.out rfl (by simp; omega) (by simp; omega) ?_; intro va2 vc2 w4 hof hbw; have HBW := Lib.hid hbw; have HOF := Lib.hid hof; have HB4 := Lib.hid (obj_below hbw (by omega) HBZ.out); have HS4 := Lib.hid (HSZ.out.heap fun o ho => obj_below hbw (by omega) ho); obtain ⟨j0, j1, j2⟩ := box3 HB4.out; obtain ⟨_, _, j3⟩ := box3f HB4.out; have hbws := hbw.size; simp at hbws; clear hof hbw) | (at_mapUpdate; refine wpList_update_set _ rfl _ _ _ _ rfl 9 4 Tryz.underlying9 Tryz.underlying99 Tryz.underlying4 (w2.heap.size + 1) n (revT D) rfl (HS4.out.heap fun o ho => obj_ne _ (by omega) ho) (by unfold maxLen; omega) (txt g) rfl (by unfold maxLen; omega) rfl ?_; intro w5 hset5 hg5; have HS5 := Lib.hid hset5; have HG5 := Lib.hid hg5; have hs5 := hg5.size; clear hset5 hg5))
                      simp at hs5
                      have hk45 : ∀ b o, w4.heap[b]? = some o → b ≠ w2.heap.size → b ≠ w2.heap.size + 1 → w5.heap[b]? = some o := fun b o ho h1 h2 =>
                        (HG5.out.block b (by have := (Array.getElem?_eq_some_iff.1 ho).1; simpa using this) (fun e => h2 (by injection e))).trans (obj_ne _ h1 ho)
                      have HK45 := Lib.hid hk45
                      have hbx5 := (HG5.out.block w2.heap.size (by simp; omega) (fun e => by injection e with e; omega)).trans (obj_set (i := 2) (.slice va2 (D.length + [g].length) vc2) HB4.out)
                      have HBX5 := Lib.hid hbx5
                      have hb45 : Below w2.heap.size w4 w5 := ((Below.refl _ w4).setCell (p := ⟨w2.heap.size, 2, none⟩) (Nat.le_refl _) _).grown HG5.out (by simp; omega) (fun k e => by injection e with e; exact (show w2.heap.size ≤ k by omega))
                      have HB45 := Lib.hid hb45
                      have HOM := Lib.hid (ownG_move HOF.out (w' := w5) (fun b o ho hq => by
                        have hbb : b ≠ w2.heap.size ∧ b ≠ w2.heap.size + 1 := by
                          rcases hq with hq | hq
                          · have := ownG_block HOF.out hq
                            omega
                          · have := hq.2
                            omega
                        exact HK45.out b o ho hbb.1 hbb.2))
                      clear hk45 hbx5 hb45
                      go_roundw
                      case rel => exact ⟨j + 1, n + 1, _, by go_num, by omega, by rw [HTK.out, List.any_append, HBAD.out.1, Bool.false_or]; exact HNB, by rw [HDS2.out]; exact HOM.out, HBX5.out, by rw [HDS2.out, revT_snoc]; exact HS5.out, by omega, (HB32.out.trans ((hbz.mono (by omega)).trans (HBW.out.mono (by omega)))).trans HB45.out, by omega⟩
                      case measure => simp [intOf]; omega
            · have hje : j = L.length := by omega
              subst hje
              have f1 : decide ((L.length : Int) < (L.length : Int)) = false := decide_eq_false (by omega)
              rw [List.take_length] at hown hbad
              have hrz3 := obj_below hb3 (by omega) HRZ.out
              obtain ⟨r0, r1, r2⟩ := box3 hrz3
              obtain ⟨q0, q1, q2⟩ := box3f hrz3
              have hjj : joinF 3 L = pickF 3 (dd 3 [] L) := by unfold joinF; rw [if_neg (by rw [hbad]; decide)]
              obtain ⟨D, hD⟩ : ∃ D, dd 3 [] L = D := ⟨_, rfl⟩
              obtain ⟨va3, vc3, rfl⟩ := ownG_val hown
              rw [hD] at hown hjj hbox
              have HJJ := Lib.hid hjj
              obtain ⟨z0, z1, z2⟩ := box3 hbox
              have HBF := Lib.hid (HB2.out.trans (hb3.mono HB2.out.size))
              obtain ⟨oa, oc, hov, hoi⟩ := ownG_ins hown
              injection hov with e1 e2 e3
              subst e1 e3
              have HOI := Lib.hid (show InsF (fun b => w.heap.size + 2 ≤ b) wr va3 D from hoi.imp fun b _ hb => by rcases hb with hb | hb <;> omega)
              clear e2 hoi hown hset3 hiW hjj hbad hb3 hbox hD
              have hmv : ∀ (ad : Option Addr) (l : List F) (a b c : Value), InsF (fun b => w.heap.size + 2 ≤ b) wr ad l → InsF (fun b => w.heap.size ≤ b) (((wr.setCell ⟨w.heap.size + 1, 0, none⟩ a).setCell ⟨w.heap.size + 1, 1, none⟩ b).setCell ⟨w.heap.size + 1, 2, none⟩ c) ad l := fun ad l a b c h => by
                refine (h.move (fun c o u hc hu => ?_) (fun b _ h => h)).imp (fun b _ h => by omega)
                have hne : c ≠ w.heap.size + 1 := by omega
                rw [World.cell?_of_block (Below.heap_setCell _ _ _ c hne), World.cell?_of_block (Below.heap_setCell _ _ _ c hne), World.cell?_of_block (Below.heap_setCell _ _ _ c hne)]
                exact hu
              have HMV := Lib.hid hmv
              clear hmv
              rcases D with _ | ⟨t, _ | ⟨t2, r⟩⟩
              · rw [List.length_nil] at z2
                go_wp2
                have hR := obj_set3 (.int .i64 6) (.int .i64 0) (.slice none 0 0) hrz3
                obtain ⟨s0, s1, s2⟩ := box3 hR
                exact bodyPost_ret (v := .agg #[.int .i64 6, .int .i64 0, .slice none 0 0]) (by simp [results, Tryz.results56, go_sem, s0, s1, s2]) rfl (by rw [HLE.out, HJJ.out]; exact RetF.mk (t := nd 6 0 []) none 0 rfl (((HBF.out.setCell (p := ⟨w.heap.size + 1, 0, none⟩) (by simp) _).setCell (p := ⟨w.heap.size + 1, 1, none⟩) (by simp) _).setCell (p := ⟨w.heap.size + 1, 2, none⟩) (by simp) _) (insF_nil _ _ _))
              · obtain ⟨bb, off, rfl, hp, hcs⟩ := insF_at HOI.out (by simp)
                obtain ⟨c0, c1, ad', cap', c2, hit⟩ := cellF_open (hcs 0 t rfl)
                rw [Nat.zero_mul, Nat.add_zero] at c0 c1 c2
                have HIT := Lib.hid hit
                clear hcs hit
                rw [List.length_singleton] at z2
                go_wp2
                have hR := obj_set3 (.int .i64 t.k) (.int .i64 t.a) (.slice ad' t.l.length cap') hrz3
                obtain ⟨s0, s1, s2⟩ := box3 hR
                exact bodyPost_ret (v := .agg #[.int .i64 t.k, .int .i64 t.a, .slice ad' t.l.length cap']) (by simp [results, Tryz.results56, go_sem, s0, s1, s2]) rfl (by rw [HLE.out, HJJ.out]; exact RetF.mk (t := t) ad' cap' rfl (((HBF.out.setCell (p := ⟨w.heap.size + 1, 0, none⟩) (by simp) _).setCell (p := ⟨w.heap.size + 1, 1, none⟩) (by simp) _).setCell (p := ⟨w.heap.size + 1, 2, none⟩) (by simp) _) (HMV.out _ _ _ _ _ HIT.out))
              · rw [show pickF 3 (t :: t2 :: r) = nd 3 0 (t :: t2 :: r) from rfl] at HJJ
                obtain ⟨DD, hDD⟩ : ∃ DD, t :: t2 :: r = DD := ⟨_, rfl⟩
                have hdl : 2 ≤ DD.length := by rw [← hDD]; simp
                rw [hDD] at HOI z2 HJJ
                clear hDD
                have f5 : ((DD.length : Int) == 0) = false := beq_eq_false_iff_ne.2 (by omega)
                have f6 : ((DD.length : Int) == 1) = false := beq_eq_false_iff_ne.2 (by omega)
                go_wp2
                have hR := obj_set3 (.int .i64 3) (.int .i64 0) (.slice va3 DD.length vc3) hrz3
                obtain ⟨s0, s1, s2⟩ := box3 hR
                exact bodyPost_ret (v := .agg #[.int .i64 3, .int .i64 0, .slice va3 DD.length vc3]) (by simp [results, Tryz.results56, go_sem, s0, s1, s2]) rfl (by rw [HLE.out, HJJ.out]; exact RetF.mk va3 vc3 rfl (((HBF.out.setCell (p := ⟨w.heap.size + 1, 0, none⟩) (by simp) _).setCell (p := ⟨w.heap.size + 1, 1, none⟩) (by simp) _).setCell (p := ⟨w.heap.size + 1, 2, none⟩) (by simp) _) (HMV.out _ _ _ _ _ HOI.out))
set_option maxRecDepth 100000 in
set_option maxHeartbeats 12800000 in
theorem joined_or (tl : List F) (ad : Option Addr) (cap : Nat) (w : World) (hi : InsF (fun c => c < w.heap.size) w ad tl) (hok : ∀ u ∈ tl, okT u) (hn : nodesL tl ≤ 10000) (hT : Tab w)
    (HS : ∀ u ∈ tl, ∀ ad cap W, Below w.heap.size w W → InsF (fun c => c < w.heap.size) W ad u.l → Calls Tryz.prog 46 #[.agg #[.int .i64 u.k, .int .i64 u.a, .slice ad u.l.length cap]] W (RetF (smp u) W)) :
    Calls Tryz.prog 56 #[.agg #[.int .i64 4, .int .i64 0, .slice ad tl.length cap]] w (RetF (joinF 4 (smpL 4 tl)) w) := by
  obtain ⟨i0, hi0, hz0, hz1, hz2⟩ := info_parts Tryz.infoF
  have hlen : tl.length ≤ 10000 := Nat.le_trans (length_nodesL tl) hn
  have HSH := Lib.hid HS
  have HOK := Lib.hid hok
  have HNN := Lib.hid hn
  have HTT := Lib.hid hT
  clear HS hok hn hT
  go_enter Tryz.func56, Tryz.ntmps56
  go_wp2
  go_loopw [5, 25] (fun v i wr => ∃ k : Nat, i = .int .i64 (k : Int) ∧ k ≤ tl.length ∧ JSt w wr v (smpL 4 (tl.take k)) (.cells #[.int .i64 4, .int .i64 0, .slice ad tl.length cap] 26 (0, 0)) (.cells #[.int .i64 0, .int .i64 0, .slice none 0 0] 26 (0, 0))) (fun _ i _ => tl.length - (intOf i).toNat)
  case atStart => exact ⟨0, rfl, by omega, ownG_nil _ _ _ _, heap2_0 _ _ _, heap2_1 _ _ _, by (repeat' (first | (with_reducible exact Below.refl _ _) | (with_reducible exact Nat.le_refl _) | (with_reducible refine Below.bel ?_ ?_) | (with_reducible refine Below.alloc ?_ ?_ _) | (with_reducible refine Below.drew ?_) | (with_reducible refine Below.drawsN ?_ _) | (with_reducible refine Below.setCell ?_ ?_ _) | (with_reducible refine le_bel ?_) | (with_reducible refine le_alloc ?_) | (with_reducible refine le_setCell ?_) | (with_reducible refine le_drew ?_) | (with_reducible refine le_drawsN ?_) | (dsimp only; with_reducible refine le_bel ?_) | (dsimp only; with_reducible refine Nat.le_refl _) | (dsimp only; with_reducible refine le_bel_add ?_) | (with_reducible assumption) | omega | (dsimp only; omega))), by simp⟩
  case round =>
    obtain ⟨k, rfl, hk, hst⟩ := hrel
    have HST := Lib.hid hst
    obtain ⟨hown, hfo, hrz, hb, hsz⟩ := hst
    have hiW := below_move hi (fun _ h => h) hb
    obtain ⟨va, vc, rfl⟩ := ownG_val hown
    obtain ⟨b0, b1, b2⟩ := box3 hfo
    have hsm := smpL_take_size 4 tl k (okL_of HOK.out)
    have hnn := HNN.out
    have hll := length_nodesL (smpL 4 (tl.take k))
    rcases Nat.lt_or_ge k tl.length with hkl | hkl
    · obtain ⟨u, hu⟩ := some_at hkl
      have hum := List.mem_of_getElem? hu
      obtain ⟨bb, off, hadd, hp, hcs⟩ := insF_at hiW (by omega)
      cases hadd
      obtain ⟨c0, c1, ad', cap', c2, hiu⟩ := cellF_open (hcs k u hu)
      have f0 : decide ((k : Int) < (tl.length : Int)) = true := decide_eq_true (by omega)
      have hib : (0 ≤ (k : Int) ∧ (k : Int) < (tl.length : Int)) := ⟨by omega, by omega⟩
      have HC := HSH.out u hum ad' cap'
      have hsu2 := (smp_size u (HOK.out u hum)).1
      have hun := nodesL_mem hum
      have hsn := smpL_snoc 4 (tl.take k) u
      have hlk : (tl.take (k + 1)) = tl.take k ++ [u] := by rw [List.take_add_one, hu]; rfl
      rw [← hlk] at hsn
      obtain ⟨su, hsu⟩ : ∃ su, smp u = su := ⟨_, rfl⟩
      rw [hsu] at HC hsu2 hsn
      have hsul : su.l.length ≤ 10000 := by have := length_nodesL su.l; rw [nodes_l] at hsu2; omega
      obtain ⟨LK, hLK⟩ : ∃ LK, smpL 4 (tl.take k) = LK := ⟨_, rfl⟩
      rw [hLK] at hown hsn hll hsm ⊢
      have HLK := Lib.hid hLK
      have HSN := Lib.hid hsn
      have HCC := Lib.hid HC
      have HI := Lib.hid hiu
      have HO := Lib.hid hown
      clear hcs hiW hiu hown hu hsu hp HC hsn hlk hLK hum
      go_wp2_with fail
      refine (HCC.out _ (by (repeat' (first | (with_reducible exact Below.refl _ _) | (with_reducible exact Nat.le_refl _) | (with_reducible refine Below.bel ?_ ?_) | (with_reducible refine Below.alloc ?_ ?_ _) | (with_reducible refine Below.drew ?_) | (with_reducible refine Below.drawsN ?_ _) | (with_reducible refine Below.setCell ?_ ?_ _) | (with_reducible refine le_bel ?_) | (with_reducible refine le_alloc ?_) | (with_reducible refine le_setCell ?_) | (with_reducible refine le_drew ?_) | (with_reducible refine le_drawsN ?_) | (dsimp only; with_reducible refine le_bel ?_) | (dsimp only; with_reducible refine Nat.le_refl _) | (dsimp only; with_reducible refine le_bel_add ?_) | (with_reducible assumption) | omega | (dsimp only; omega)))) (HI.out.of (by (repeat' (first | (with_reducible exact Below.refl _ _) | (with_reducible exact Nat.le_refl _) | (with_reducible refine Below.bel ?_ ?_) | (with_reducible refine Below.alloc ?_ ?_ _) | (with_reducible refine Below.drew ?_) | (with_reducible refine Below.drawsN ?_ _) | (with_reducible refine Below.setCell ?_ ?_ _) | (with_reducible refine le_bel ?_) | (with_reducible refine le_alloc ?_) | (with_reducible refine le_setCell ?_) | (with_reducible refine le_drew ?_) | (with_reducible refine le_drawsN ?_) | (dsimp only; with_reducible refine le_bel ?_) | (dsimp only; with_reducible refine Nat.le_refl _) | (dsimp only; with_reducible refine le_bel_add ?_) | (with_reducible assumption) | omega | (dsimp only; omega)))))).mono ?_
      rintro _ _ ⟨_, rfl, y, rfl, ad5, cap5, rfl, hi5⟩
      have hys := y.size_le
      simp at hys
      have HI5 := Lib.hid hi5
      have hfo2 := obj_bel ⟨y.w, (by (repeat' (first | (with_reducible exact Below.refl _ _) | (with_reducible exact Nat.le_refl _) | (with_reducible refine Below.bel ?_ ?_) | (with_reducible refine Below.alloc ?_ ?_ _) | (with_reducible refine Below.drew ?_) | (with_reducible refine Below.drawsN ?_ _) | (with_reducible refine Below.setCell ?_ ?_ _) | (with_reducible refine le_bel ?_) | (with_reducible refine le_alloc ?_) | (with_reducible refine le_setCell ?_) | (with_reducible refine le_drew ?_) | (with_reducible refine le_drawsN ?_) | (dsimp only; with_reducible refine le_bel ?_) | (dsimp only; with_reducible refine Nat.le_refl _) | (dsimp only; with_reducible refine le_bel_add ?_) | (with_reducible assumption) | omega | (dsimp only; omega))) : Below wr.heap.size wr y.w)⟩ hfo
      obtain ⟨d0, d1, d2⟩ := box3 hfo2
      clear hi5
      dsimp only
      by_cases hsk : su.k = 4
      · have fk : (su.k == 4) = true := beq_iff_eq.2 hsk
        rw [if_pos hsk] at HSN
        have hbz : Below wr.heap.size wr (y.w.alloc (.cells #[.int .i64 su.k, .int .i64 su.a, .slice ad5 su.l.length cap5] 26)) := by (repeat' (first | (with_reducible exact Below.refl _ _) | (with_reducible exact Nat.le_refl _) | (with_reducible refine Below.bel ?_ ?_) | (with_reducible refine Below.alloc ?_ ?_ _) | (with_reducible refine Below.drew ?_) | (with_reducible refine Below.drawsN ?_ _) | (with_reducible refine Below.setCell ?_ ?_ _) | (with_reducible refine le_bel ?_) | (with_reducible refine le_alloc ?_) | (with_reducible refine le_setCell ?_) | (with_reducible refine le_drew ?_) | (with_reducible refine le_drawsN ?_) | (dsimp only; with_reducible refine le_bel ?_) | (dsimp only; with_reducible refine Nat.le_refl _) | (dsimp only; with_reducible refine le_bel_add ?_) | (with_reducible assumption) | omega | (dsimp only; omega)))
        have HOZ := Lib.hid (ownG_bel HO.out ⟨_, hbz⟩)
        have HCZ := Lib.hid (show InsF (fun b => w.heap.size + 2 ≤ b ∧ (Value.slice va LK.length vc).ownBlock ≠ some b) (y.w.alloc (.cells #[.int .i64 su.k, .int .i64 su.a, .slice ad5 su.l.length cap5] 26)) ad5 su.l from
          (HI5.out.of (by (repeat' (first | (with_reducible exact Below.refl _ _) | (with_reducible exact Nat.le_refl _) | (with_reducible refine Below.bel ?_ ?_) | (with_reducible refine Below.alloc ?_ ?_ _) | (with_reducible refine Below.drew ?_) | (with_reducible refine Below.drawsN ?_ _) | (with_reducible refine Below.setCell ?_ ?_ _) | (with_reducible refine le_bel ?_) | (with_reducible refine le_alloc ?_) | (with_reducible refine le_setCell ?_) | (with_reducible refine le_drew ?_) | (with_reducible refine le_drawsN ?_) | (dsimp only; with_reducible refine le_bel ?_) | (dsimp only; with_reducible refine Nat.le_refl _) | (dsimp only; with_reducible refine le_bel_add ?_) | (with_reducible assumption) | omega | (dsimp only; omega))))).imp fun b _ hb => ⟨by simp at hb; omega, ownG_avoid HO.out (.inl (by simp at hb; omega))⟩)
        clear hsk
        go_wp2_with (at_builtin; refine wpList_appG rfl _ _ 24 26 rfl i0 Tryz.underlying24 hi0 hz0 hz1 hz2 _ (w.heap.size + 2) (fun b => w.heap.size + 2 ≤ b) _ LK su.l ad5 cap5 rfl HOZ.out HCZ.out.c rfl (by omega) (by simp; omega) ?_; intro va2 vc2 w1 hof hbw; have HBW := Lib.hid hbw; have HOF := Lib.hid hof; have hbws := hbw.size; simp at hbws; clear hof hbw)
        go_roundw
        case rel => exact ⟨k + 1, by go_num, by omega, HST.out.next hbz HBW.out (by rw [HSN.out]; exact HOF.out)⟩
        case measure => simp [intOf]; omega
      · have fk : (su.k == 4) = false := beq_eq_false_iff_ne.2 hsk
        rw [if_neg hsk] at HSN
        have hbz : Below wr.heap.size wr ((y.w.alloc (.cells #[.int .i64 su.k, .int .i64 su.a, .slice ad5 su.l.length cap5] 26)).alloc (.cells #[.int .i64 su.k, .int .i64 su.a, .slice ad5 su.l.length cap5] 26)) := by (repeat' (first | (with_reducible exact Below.refl _ _) | (with_reducible exact Nat.le_refl _) | (with_reducible refine Below.bel ?_ ?_) | (with_reducible refine Below.alloc ?_ ?_ _) | (with_reducible refine Below.drew ?_) | (with_reducible refine Below.drawsN ?_ _) | (with_reducible refine Below.setCell ?_ ?_ _) | (with_reducible refine le_bel ?_) | (with_reducible refine le_alloc ?_) | (with_reducible refine le_setCell ?_) | (with_reducible refine le_drew ?_) | (with_reducible refine le_drawsN ?_) | (dsimp only; with_reducible refine le_bel ?_) | (dsimp only; with_reducible refine Nat.le_refl _) | (dsimp only; with_reducible refine le_bel_add ?_) | (with_reducible assumption) | omega | (dsimp only; omega)))
        have HOZ := Lib.hid (ownG_bel HO.out ⟨_, hbz⟩)
        have HCZ := Lib.hid (show InsF (fun b => w.heap.size + 2 ≤ b ∧ (Value.slice va LK.length vc).ownBlock ≠ some b) ((y.w.alloc (.cells #[.int .i64 su.k, .int .i64 su.a, .slice ad5 su.l.length cap5] 26)).alloc (.cells #[.int .i64 su.k, .int .i64 su.a, .slice ad5 su.l.length cap5] 26)) (some ⟨y.w.heap.size + 1, 0, none⟩) [su] from
          insF_one (E := 26) (ad := ad5) (cap := cap5) (heap2_1 _ _ _) ⟨by omega, ownG_avoid HO.out (.inl (by omega))⟩ ((HI5.out.of (by (repeat' (first | (with_reducible exact Below.refl _ _) | (with_reducible exact Nat.le_refl _) | (with_reducible refine Below.bel ?_ ?_) | (with_reducible refine Below.alloc ?_ ?_ _) | (with_reducible refine Below.drew ?_) | (with_reducible refine Below.drawsN ?_ _) | (with_reducible refine Below.setCell ?_ ?_ _) | (with_reducible refine le_bel ?_) | (with_reducible refine le_alloc ?_) | (with_reducible refine le_setCell ?_) | (with_reducible refine le_drew ?_) | (with_reducible refine le_drawsN ?_) | (dsimp only; with_reducible refine le_bel ?_) | (dsimp only; with_reducible refine Nat.le_refl _) | (dsimp only; with_reducible refine le_bel_add ?_) | (with_reducible assumption) | omega | (dsimp only; omega))))).imp fun b _ hb => ⟨by simp at hb; omega, ownG_avoid HO.out (.inl (by simp at hb; omega))⟩))
        clear hsk
        go_wp2_with (at_builtin; refine wpList_appG rfl _ _ 24 26 rfl i0 Tryz.underlying24 hi0 hz0 hz1 hz2 _ (w.heap.size + 2) (fun b => w.heap.size + 2 ≤ b) _ LK [su] (some ⟨y.w.heap.size + 1, 0, none⟩) 1 rfl HOZ.out HCZ.out.c rfl (by simp; omega) (by simp; omega) ?_; intro va2 vc2 w1 hof hbw; have HBW := Lib.hid hbw; have HOF := Lib.hid hof; have hbws := hbw.size; simp at hbws; clear hof hbw)
        go_roundw
        case rel => exact ⟨k + 1, by go_num, by omega, HST.out.next hbz HBW.out (by rw [HSN.out]; exact HOF.out)⟩
        case measure => simp [intOf]; omega
    · have hke : k = tl.length := by omega
      subst hke
      have f0 : decide ((tl.length : Int) < (tl.length : Int)) = false := decide_eq_false (by omega)
      rw [List.take_length] at hown hll hsm ⊢
      have hLok := smpL_ok 4 tl (okL_of HOK.out) hnn
      obtain ⟨L, hL⟩ : ∃ L, smpL 4 tl = L := ⟨_, rfl⟩
      rw [hL] at hown hll hsm hLok ⊢
      have HLOK := Lib.hid hLok
      have HLE := Lib.hid hL
      obtain ⟨w1, hw1⟩ : ∃ w1, w1 = wr := ⟨_, rfl⟩
      subst hw1
      obtain ⟨la, lc, hv, hL1⟩ := ownG_ins hown
      injection hv with e1 e2 e3
      subst e1 e3
      have HB1 := Lib.hid hb
      have HW1 := Lib.hid (And.intro hfo hrz)
      have HL1 := Lib.hid hL1
      have hT1 := HTT.out.of hb
      have HT1 := Lib.hid hT1
      have hmm := @run_makeMap Tryz.prog
      clear HST hiW hown e2 hL hi HSH HOK HNN HTT hfo hrz hb hLok hT1 hL1
      have hLl : L.length ≤ 10000 := by omega
      go_wp2
      go_loopw [48] (fun i wr => ∃ j : Nat, i = .int .i64 (j : Int) ∧ j ≤ L.length ∧ SetM Tryz.prog 9 4 wr w1.heap.size j (revT (L.take j)) ∧ Below w1.heap.size w1 wr ∧ w1.heap.size + 1 ≤ wr.heap.size) (fun i _ => L.length - (intOf i).toNat)
      case atStart => exact ⟨0, rfl, by omega, setM_made w1 _ _ _, (Below.refl _ _).alloc (Nat.le_refl _) _, by simp⟩
      case round =>
        obtain ⟨j, rfl, hj, hset, hb2, hs2⟩ := hrel
        have hiW := HL1.out.of hb2
        rcases Nat.lt_or_ge j L.length with hjl | hjl
        · obtain ⟨g, hg⟩ := some_at hjl
          have hgm := List.mem_of_getElem? hg
          obtain ⟨bb, off, hadd, hp, hcs⟩ := insF_at hiW (by omega)
          cases hadd
          obtain ⟨c0, c1, ad', cap', c2, hig⟩ := cellF_open (hcs j g hg)
          have f1 : decide ((j : Int) < (L.length : Int)) = true := decide_eq_true (by omega)
          have hib : (0 ≤ (j : Int) ∧ (j : Int) < (L.length : Int)) := ⟨by omega, by omega⟩
          have hgn : nodes g ≤ 10000 := nodes_mem_ok hgm (by omega)
          have hgt := txt_len g (HLOK.out g hgm)
          have HX := Lib.hid (fun (P : Nat → Prop) W (hi : InsF P W ad' g.l) hT => text_any P g ad' cap' W hi (HLOK.out g hgm) (by omega) hT)
          have HRV := Lib.hid (show txt g :: revT (L.take j) = revT (L.take (j + 1)) by rw [List.take_add_one, hg]; exact (revT_snoc _ _).symm)
          have HIG := Lib.hid hig
          have HSET := Lib.hid hset
          have HB2 := Lib.hid hb2
          have HT2 := Lib.hid (HT1.out.of hb2)
          have hm1 := hset.lt
          clear hcs hiW hig hp hg hset hb2
          go_wp2_with fail
          refine (HX.out _ _ (HIG.out.of (by (repeat' (first | (with_reducible exact Below.refl _ _) | (with_reducible exact Nat.le_refl _) | (with_reducible refine Below.bel ?_ ?_) | (with_reducible refine Below.alloc ?_ ?_ _) | (with_reducible refine Below.drew ?_) | (with_reducible refine Below.drawsN ?_ _) | (with_reducible refine Below.setCell ?_ ?_ _) | (with_reducible refine le_bel ?_) | (with_reducible refine le_alloc ?_) | (with_reducible refine le_setCell ?_) | (with_reducible refine le_drew ?_) | (with_reducible refine le_drawsN ?_) | (dsimp only; with_reducible refine le_bel ?_) | (dsimp only; with_reducible refine Nat.le_refl _) | (dsimp only; with_reducible refine le_bel_add ?_) | (with_reducible assumption) | omega | (dsimp only; omega))))) (HT2.out.of (by (repeat' (first | (with_reducible exact Below.refl _ _) | (with_reducible exact Nat.le_refl _) | (with_reducible refine Below.bel ?_ ?_) | (with_reducible refine Below.alloc ?_ ?_ _) | (with_reducible refine Below.drew ?_) | (with_reducible refine Below.drawsN ?_ _) | (with_reducible refine Below.setCell ?_ ?_ _) | (with_reducible refine le_bel ?_) | (with_reducible refine le_alloc ?_) | (with_reducible refine le_setCell ?_) | (with_reducible refine le_drew ?_) | (with_reducible refine le_drawsN ?_) | (dsimp only; with_reducible refine le_bel ?_) | (dsimp only; with_reducible refine Nat.le_refl _) | (dsimp only; with_reducible refine le_bel_add ?_) | (with_reducible assumption) | omega | (dsimp only; omega)))))).mono ?_
          rintro _ _ ⟨rfl, y, rfl⟩
          have hys := y.size_le
          simp at hys
          have hby : Below wr.heap.size wr y.w := by (repeat' (first | (with_reducible exact Below.refl _ _) | (with_reducible exact Nat.le_refl _) | (with_reducible refine Below.bel ?_ ?_) | (with_reducible refine Below.alloc ?_ ?_ _) | (with_reducible refine Below.drew ?_) | (with_reducible refine Below.drawsN ?_ _) | (with_reducible refine Below.setCell ?_ ?_ _) | (with_reducible refine le_bel ?_) | (with_reducible refine le_alloc ?_) | (with_reducible refine le_setCell ?_) | (with_reducible refine le_drew ?_) | (with_reducible refine le_drawsN ?_) | (dsimp only; with_reducible refine le_bel ?_) | (dsimp only; with_reducible refine Nat.le_refl _) | (dsimp only; with_reducible refine le_bel_add ?_) | (with_reducible assumption) | omega | (dsimp only; omega)))
          have HSY := Lib.hid (HSET.out.heap fun o ho => obj_bel ⟨y.w, hby⟩ ho)
          have HBY := Lib.hid (HB2.out.trans (hby.mono (by omega)))
          dsimp only
          go_wp2_with (at_mapUpdate; refine wpList_update_set _ rfl _ _ _ _ rfl 9 4 Tryz.underlying9 Tryz.underlying99 Tryz.underlying4 w1.heap.size j (revT (L.take j)) rfl HSY.out (by unfold maxLen; omega) (txt g) rfl (by unfold maxLen; omega) rfl ?_; intro w3 hset3 hg3; have HS3 := Lib.hid hset3; have HG3 := Lib.hid hg3; have hs3 := hg3.size; clear hset3 hg3)
          go_roundw
          case rel => exact ⟨j + 1, by go_num, by omega, by rw [← HRV.out]; exact HS3.out, HBY.out.grown HG3.out (by omega) (fun k e => by injection e with e; omega), by omega⟩
          case measure => simp [intOf]; omega
        · have hje : j = L.length := by omega
          subst hje
          have f1 : decide ((L.length : Int) < (L.length : Int)) = false := decide_eq_false (by omega)
          rw [List.take_length] at hset
          obtain ⟨w2, hw2⟩ : ∃ w2, w2 = wr := ⟨_, rfl⟩
          subst hw2
          have hb12 : Below w.heap.size w w2 := HB1.out.trans (hb2.mono HB1.out.size)
          have hfo2 := obj_below hb2 (by omega) HW1.out.1
          have hrz2 := obj_below hb2 (by omega) HW1.out.2
          obtain ⟨e0, e1, e2⟩ := box3 hfo2
          have HSET := Lib.hid hset
          have HB2 := Lib.hid hb12
          have HL2 := Lib.hid (hiW.imp fun b hb hq => (show (w.heap.size + 2 ≤ b ∧ b < w2.heap.size) from ⟨by omega, hb⟩))
          have HT2 := Lib.hid (HT1.out.of hb2)
          have HRZ := Lib.hid hrz2
          have hm1 := hset.lt
          clear hset hb2 hb12 hiW HL1 HT1 HB1 HW1 hrz2
          go_wp2
          go_loopw [62] (fun i wr => ∃ (j n : Nat) (v : Value), i = .int .i64 (j : Int) ∧ j ≤ L.length ∧ (L.take j).any (bad 4 L) = false ∧ OwnG wr (w2.heap.size + 2) (fun b => w.heap.size + 2 ≤ b ∧ b < w2.heap.size) 26 v (dd 4 [] (L.take j)) ∧
            wr.heap[w2.heap.size]? = some (.cells #[.int .i64 4, .int .i64 0, v] 26 (0, 0)) ∧ SetM Tryz.prog 9 4 wr (w2.heap.size + 1) n (revT (dd 4 [] (L.take j))) ∧ n ≤ j ∧ Below w2.heap.size w2 wr ∧ w2.heap.size + 2 ≤ wr.heap.size) (fun i _ => L.length - (intOf i).toNat)
          case atStart =>
            exact ⟨0, 0, .slice none 0 0, rfl, by omega, rfl, ownG_nil _ _ _ _, heap2_0 _ _ _, by
              have := setM_made (w2.alloc (.cells #[.int .i64 4, .int .i64 0, .slice none 0 0] 26)) Tryz.prog 9 4
              rw [World.size_alloc] at this
              exact this, Nat.le_refl _, by (repeat' (first | (with_reducible exact Below.refl _ _) | (with_reducible exact Nat.le_refl _) | (with_reducible refine Below.bel ?_ ?_) | (with_reducible refine Below.alloc ?_ ?_ _) | (with_reducible refine Below.drew ?_) | (with_reducible refine Below.drawsN ?_ _) | (with_reducible refine Below.setCell ?_ ?_ _) | (with_reducible refine le_bel ?_) | (with_reducible refine le_alloc ?_) | (with_reducible refine le_setCell ?_) | (with_reducible refine le_drew ?_) | (with_reducible refine le_drawsN ?_) | (dsimp only; with_reducible refine le_bel ?_) | (dsimp only; with_reducible refine Nat.le_refl _) | (dsimp only; with_reducible refine le_bel_add ?_) | (with_reducible assumption) | omega | (dsimp only; omega))), by simp⟩
          case round =>
            obtain ⟨j, n, v, rfl, hj, hbad, hown, hbox, hset3, hnj, hb3, hs3⟩ := hrel
            have hiW := HL2.out.of hb3
            rcases Nat.lt_or_ge j L.length with hjl | hjl
            · obtain ⟨g, hg⟩ := some_at hjl
              have hgm := List.mem_of_getElem? hg
              have hgok := HLOK.out g hgm
              obtain ⟨bb, off, hadd, hp, hcs⟩ := insF_at hiW (by omega)
              cases hadd
              obtain ⟨va3, vc3, rfl⟩ := ownG_val hown
              obtain ⟨c0, c1, ad', cap', c2, hig⟩ := cellF_open (hcs j g hg)
              have f1 : decide ((j : Int) < (L.length : Int)) = true := decide_eq_true (by omega)
              have hib : (0 ≤ (j : Int) ∧ (j : Int) < (L.length : Int)) := ⟨by omega, by omega⟩
              have hgn : nodes g ≤ 10000 := nodes_mem_ok hgm (by omega)
              have hgt := txt_len g hgok
              have HX := Lib.hid (fun (P : Nat → Prop) W (hi : InsF P W ad' g.l) hT => text_any P g ad' cap' W hi hgok (by omega) hT)
              have HTK := Lib.hid (show L.take (j + 1) = L.take j ++ [g] by rw [List.take_add_one, hg]; rfl)
              have hD := fun u (hu : u ∈ dd 4 [] (L.take j)) => dd_ok HLOK.out j u hu
              have hDl := dd_len 4 (L.take j) []
              rw [List.length_nil, List.length_take] at hDl
              have HDS := Lib.hid (dd_snoc 4 g (L.take j) [])
              rw [← HTK.out] at HDS
              obtain ⟨D, hDD⟩ : ∃ D, dd 4 [] (L.take j) = D := ⟨_, rfl⟩
              rw [hDD] at hown hset3 hD hDl HDS hbox
              have HIG := Lib.hid hig
              have HO := Lib.hid hown
              have HS3 := Lib.hid hset3
              have HB3 := Lib.hid hb3
              have HT3 := Lib.hid (HT2.out.of hb3)
              have HSW := Lib.hid (HSET.out.heap fun o ho => obj_below hb3 hm1 ho)
              have HBX := Lib.hid hbox
              have HBAD := Lib.hid (And.intro hbad hDD)
              have hm3 := hset3.lt
              have HRW := Lib.hid (obj_below hb3 (by omega) HRZ.out)
              have HGL := Lib.hid (And.intro hgm hgok)
              have HDM := Lib.hid (show txt g ∈ revT D ↔ g ∈ D from mem_revT hgok hD)
              clear hcs hiW hp hg hbad hown hbox hset3 hb3 hDD hD hgm hgok hig
              by_cases hst : g.k = 6
              · have f2 : (g.k == 6) = true := beq_iff_eq.2 hst
                have HBB : bad 4 L g = true := by simp [bad, strong, hst]
                clear hst
                have hjs : joinF 4 L = nd 6 0 [] := by
                  unfold joinF
                  rw [if_pos (List.any_eq_true.2 ⟨g, HGL.out.1, HBB⟩)]
                  rfl
                have HJS := Lib.hid hjs
                have hwz : Below wr.heap.size wr ((wr.alloc (.cells #[.int .i64 g.k, .int .i64 g.a, .slice ad' g.l.length cap'] 26))) := by (repeat' (first | (with_reducible exact Below.refl _ _) | (with_reducible exact Nat.le_refl _) | (with_reducible refine Below.bel ?_ ?_) | (with_reducible refine Below.alloc ?_ ?_ _) | (with_reducible refine Below.drew ?_) | (with_reducible refine Below.drawsN ?_ _) | (with_reducible refine Below.setCell ?_ ?_ _) | (with_reducible refine le_bel ?_) | (with_reducible refine le_alloc ?_) | (with_reducible refine le_setCell ?_) | (with_reducible refine le_drew ?_) | (with_reducible refine le_drawsN ?_) | (dsimp only; with_reducible refine le_bel ?_) | (dsimp only; with_reducible refine Nat.le_refl _) | (dsimp only; with_reducible refine le_bel_add ?_) | (with_reducible assumption) | omega | (dsimp only; omega)))
                have hrz3 := obj_bel ⟨_, hwz⟩ HRW.out
                obtain ⟨r0, r1, r2⟩ := box3 hrz3
                obtain ⟨q0, q1, q2⟩ := box3f hrz3
                have HBF := Lib.hid ((HB2.out.trans (HB3.out.mono HB2.out.size)).trans (hwz.mono (by have := HB2.out.size; have := HB3.out.size; omega)))
                clear hjs HBB
                go_wp2
                have hR := obj_set3 (.int .i64 6) (.int .i64 0) (.slice none 0 0) hrz3
                obtain ⟨s0, s1, s2⟩ := box3 hR
                exact bodyPost_ret (v := .agg #[.int .i64 6, .int .i64 0, .slice none 0 0]) (by simp [results, Tryz.results56, go_sem, s0, s1, s2]) rfl (by rw [HLE.out, HJS.out]; exact RetF.mk none 0 rfl (((HBF.out.setCell (p := ⟨w.heap.size + 1, 0, none⟩) (by simp) _).setCell (p := ⟨w.heap.size + 1, 1, none⟩) (by simp) _).setCell (p := ⟨w.heap.size + 1, 2, none⟩) (by simp) _) (insF_nil _ _ _))
              · have f2 : (g.k == 6) = false := beq_eq_false_iff_ne.2 hst
                by_cases h2 : g.k = 2
                · have f4 : (g.k == 2) = true := beq_iff_eq.2 h2
                  obtain ⟨h, hgl⟩ : ∃ h, g.l = [h] := by
                    have hs := okT_s HGL.out.2
                    rw [F_eta g] at hs
                    rcases single_cases hs with ⟨e, _⟩ | ⟨_, _, h, e⟩ | ⟨e, _⟩ | ⟨e, _⟩
                    · omega
                    · exact ⟨h, e⟩
                    · omega
                    · omega
                  have hh : h ∈ g.l := by rw [hgl]; exact List.mem_singleton_self h
                  have hhok : okT h := okL_mem (okT_l HGL.out.2) hh
                  have hhn : nodes h ≤ 10000 := by have := nodesL_mem hh; rw [nodes_l] at hgn; omega
                  obtain ⟨bb2, off2, hadd, hp2, hcs2⟩ := insF_at HIG.out (by rw [hgl]; simp)
                  subst hadd
                  obtain ⟨d0, d1, ad2, cap2, d2, hih⟩ := cellF_open (hcs2 0 h (by rw [hgl]; rfl))
                  rw [Nat.zero_mul, Nat.add_zero] at d0 d1 d2
                  have hib2 : (0 : Int) < (g.l.length : Int) := by rw [hgl]; simp
                  have HXH := Lib.hid (fun (P : Nat → Prop) W (hi : InsF P W ad2 h.l) hT => text_any P h ad2 cap2 W hi hhok (by omega) hT)
                  have hht := txt_len h hhok
                  have HIH := Lib.hid hih
                  have HMH := Lib.hid (show txt h ∈ revT L ↔ h ∈ L from mem_revT hhok HLOK.out)
                  have HGH := Lib.hid (And.intro hst (And.intro h2 hgl))
                  clear hst h2 hgl hh hhok hp2 hcs2 hih
                  go_wp2_with fail
                  refine (HXH.out _ _ (HIH.out.of (by (repeat' (first | (with_reducible exact Below.refl _ _) | (with_reducible exact Nat.le_refl _) | (with_reducible refine Below.bel ?_ ?_) | (with_reducible refine Below.alloc ?_ ?_ _) | (with_reducible refine Below.drew ?_) | (with_reducible refine Below.drawsN ?_ _) | (with_reducible refine Below.setCell ?_ ?_ _) | (with_reducible refine le_bel ?_) | (with_reducible refine le_alloc ?_) | (with_reducible refine le_setCell ?_) | (with_reducible refine le_drew ?_) | (with_reducible refine le_drawsN ?_) | (dsimp only; with_reducible refine le_bel ?_) | (dsimp only; with_reducible refine Nat.le_refl _) | (dsimp only; with_reducible refine le_bel_add ?_) | (with_reducible assumption) | omega | (dsimp only; omega))))) (HT3.out.of (by (repeat' (first | (with_reducible exact Below.refl _ _) | (with_reducible exact Nat.le_refl _) | (with_reducible refine Below.bel ?_ ?_) | (with_reducible refine Below.alloc ?_ ?_ _) | (with_reducible refine Below.drew ?_) | (with_reducible refine Below.drawsN ?_ _) | (with_reducible refine Below.setCell ?_ ?_ _) | (with_reducible refine le_bel ?_) | (with_reducible refine le_alloc ?_) | (with_reducible refine le_setCell ?_) | (with_reducible refine le_drew ?_) | (with_reducible refine le_drawsN ?_) | (dsimp only; with_reducible refine le_bel ?_) | (dsimp only; with_reducible refine Nat.le_refl _) | (dsimp only; with_reducible refine le_bel_add ?_) | (with_reducible assumption) | omega | (dsimp only; omega)))))).mono ?_
                  rintro _ _ ⟨rfl, y, rfl⟩
                  have hyz := y.size_le
                  simp at hyz
                  have hby : Below wr.heap.size wr y.w := by (repeat' (first | (with_reducible exact Below.refl _ _) | (with_reducible exact Nat.le_refl _) | (with_reducible refine Below.bel ?_ ?_) | (with_reducible refine Below.alloc ?_ ?_ _) | (with_reducible refine Below.drew ?_) | (with_reducible refine Below.drawsN ?_ _) | (with_reducible refine Below.setCell ?_ ?_ _) | (with_reducible refine le_bel ?_) | (with_reducible refine le_alloc ?_) | (with_reducible refine le_setCell ?_) | (with_reducible refine le_drew ?_) | (with_reducible refine le_drawsN ?_) | (dsimp only; with_reducible refine le_bel ?_) | (dsimp only; with_reducible refine Nat.le_refl _) | (dsimp only; with_reducible refine le_bel_add ?_) | (with_reducible assumption) | omega | (dsimp only; omega)))
                  have hlk := setM_run Tryz.underlying9 Tryz.underlying99 Tryz.underlying4 (zeroBool y.w) (show SetM Tryz.prog 9 4 y.w w1.heap.size L.length (revT L) from HSW.out.heap fun o ho => obj_bel ⟨y.w, hby⟩ ho) (txt h) (by unfold maxLen; omega)
                  have hxo : y.w.heap[wr.heap.size]? = some (.cells #[.int .i64 g.k, .int .i64 g.a, .slice (some ⟨bb2, off2, none⟩) g.l.length cap'] 26 (0, 0)) := obj_bel y (World.alloc_heap_new _ _)
                  dsimp only
                  by_cases hin : h ∈ L
                  · rw [decide_eq_true (HMH.out.2 hin)] at hlk
                    have HBB : bad 4 L g = true := by rw [bad, HGH.out.2.2]; simp [headF, hin, HGH.out.2.1]
                    clear hin
                    have hjs : joinF 4 L = nd 6 0 [] := by
                      unfold joinF
                      rw [if_pos (List.any_eq_true.2 ⟨g, HGL.out.1, HBB⟩)]
                      rfl
                    have HJS := Lib.hid hjs
                    have hwz : Below wr.heap.size wr (y.w) := by (repeat' (first | (with_reducible exact Below.refl _ _) | (with_reducible exact Nat.le_refl _) | (with_reducible refine Below.bel ?_ ?_) | (with_reducible refine Below.alloc ?_ ?_ _) | (with_reducible refine Below.drew ?_) | (with_reducible refine Below.drawsN ?_ _) | (with_reducible refine Below.setCell ?_ ?_ _) | (with_reducible refine le_bel ?_) | (with_reducible refine le_alloc ?_) | (with_reducible refine le_setCell ?_) | (with_reducible refine le_drew ?_) | (with_reducible refine le_drawsN ?_) | (dsimp only; with_reducible refine le_bel ?_) | (dsimp only; with_reducible refine Nat.le_refl _) | (dsimp only; with_reducible refine le_bel_add ?_) | (with_reducible assumption) | omega | (dsimp only; omega)))
                    have hrz3 := obj_bel ⟨_, hwz⟩ HRW.out
                    obtain ⟨r0, r1, r2⟩ := box3 hrz3
                    obtain ⟨q0, q1, q2⟩ := box3f hrz3
                    have HBF := Lib.hid ((HB2.out.trans (HB3.out.mono HB2.out.size)).trans (hwz.mono (by have := HB2.out.size; have := HB3.out.size; omega)))
                    clear hjs HBB
                    go_wp2
                    have hR := obj_set3 (.int .i64 6) (.int .i64 0) (.slice none 0 0) hrz3
                    obtain ⟨s0, s1, s2⟩ := box3 hR
                    exact bodyPost_ret (v := .agg #[.int .i64 6, .int .i64 0, .slice none 0 0]) (by simp [results, Tryz.results56, go_sem, s0, s1, s2]) rfl (by rw [HLE.out, HJS.out]; exact RetF.mk none 0 rfl (((HBF.out.setCell (p := ⟨w.heap.size + 1, 0, none⟩) (by simp) _).setCell (p := ⟨w.heap.size + 1, 1, none⟩) (by simp) _).setCell (p := ⟨w.heap.size + 1, 2, none⟩) (by simp) _) (insF_nil _ _ _))
                  · rw [decide_eq_false (fun h' => hin (HMH.out.1 h'))] at hlk
                    have HNB : [g].any (bad 4 L) = false := by
                      have := HGH.out.1
                      simp [bad, strong, this, HGH.out.2.2, headF, hin]
                    clear hin
                    have hzs : wr.heap.size + 1 ≤ (y.w).heap.size ∧ Below wr.heap.size wr (y.w) := ⟨by first | exact hyz | simp, by (repeat' (first | (with_reducible exact Below.refl _ _) | (with_reducible exact Nat.le_refl _) | (with_reducible refine Below.bel ?_ ?_) | (with_reducible refine Below.alloc ?_ ?_ _) | (with_reducible refine Below.drew ?_) | (with_reducible refine Below.drawsN ?_ _) | (with_reducible refine Below.setCell ?_ ?_ _) | (with_reducible refine le_bel ?_) | (with_reducible refine le_alloc ?_) | (with_reducible refine le_setCell ?_) | (with_reducible refine le_drew ?_) | (with_reducible refine le_drawsN ?_) | (dsimp only; with_reducible refine le_bel ?_) | (dsimp only; with_reducible refine Nat.le_refl _) | (dsimp only; with_reducible refine le_bel_add ?_) | (with_reducible assumption) | omega | (dsimp only; omega)))⟩
                    obtain ⟨hzs, hzb⟩ := hzs
                    have HZB := Lib.hid hzb
                    clear hzb
                    go_wp2_with fail
                    refine (HX.out _ _ (HIG.out.of HZB.out) (HT3.out.of HZB.out)).mono ?_
                    rintro _ _ ⟨rfl, y2, rfl⟩
                    have hys2 := y2.size_le
                    have hxo2 := obj_bel y2 hxo
                    obtain ⟨x0, x1, x2⟩ := box3 hxo2
                    have hzb2 : Below wr.heap.size wr y2.w := HZB.out.trans (y2.below.mono (by omega))
                    have HS32 := Lib.hid (show SetM Tryz.prog 9 4 y2.w (w2.heap.size + 1) n (revT D) from HS3.out.heap fun o ho => obj_bel ⟨y2.w, hzb2⟩ ho)
                    have HO2 := Lib.hid (show OwnG y2.w (w2.heap.size + 2) (fun b => w.heap.size + 2 ≤ b ∧ b < w2.heap.size) 26 (.slice va3 D.length vc3) D from ownG_bel HO.out ⟨y2.w, hzb2⟩)
                    have hbo2 : y2.w.heap[w2.heap.size]? = some (.cells #[.int .i64 4, .int .i64 0, .slice va3 D.length vc3] 26 (0, 0)) := obj_bel ⟨y2.w, hzb2⟩ HBX.out
                    obtain ⟨z0, z1, z2⟩ := box3 hbo2
                    have HB32 := Lib.hid (HB3.out.trans (hzb2.mono (by omega)))
                    have HZB2 := Lib.hid hzb2
                    clear hzb2
                    dsimp only
                    by_cases hw : g.k = 5
                    · have f3 : (g.k != 5) = false := by simp [hw]
                      have HDS2 := HDS
                      rw [if_pos (.inl hw)] at HDS2
                      clear hw
                      go_wp2
                      go_roundw
                      case rel => exact ⟨j + 1, n, _, by go_num, by omega, by rw [HTK.out, List.any_append, HBAD.out.1, Bool.false_or]; exact HNB, by rw [HDS2.out]; exact HO2.out, hbo2, by rw [HDS2.out]; exact HS32.out, by omega, HB32.out, by have := HB32.out.size; omega⟩
                      case measure => simp [intOf]; omega
                    · have f3 : (g.k != 5) = true := by simp [hw]
                      by_cases hin : g ∈ D
                      · have hlk := setM_run Tryz.underlying9 Tryz.underlying99 Tryz.underlying4 (zeroBool y2.w) HS32.out (txt g) (by unfold maxLen; omega)
                        rw [decide_eq_true (HDM.out.2 hin)] at hlk
                        have HDS2 := HDS
                        rw [if_pos (.inr hin)] at HDS2
                        clear hw hin
                        go_wp2
                        go_roundw
                        case rel => exact ⟨j + 1, n, _, by go_num, by omega, by rw [HTK.out, List.any_append, HBAD.out.1, Bool.false_or]; exact HNB, by rw [HDS2.out]; exact HO2.out, hbo2, by rw [HDS2.out]; exact HS32.out, by omega, HB32.out, by have := HB32.out.size; omega⟩
                        case measure => simp [intOf]; omega
                      · have hlk := setM_run Tryz.underlying9 Tryz.underlying99 Tryz.underlying4 (zeroBool y2.w) HS32.out (txt g) (by unfold maxLen; omega)
                        rw [decide_eq_false (fun h => hin (HDM.out.1 h))] at hlk
                        have HDS2 := HDS
                        rw [if_neg (fun h => h.elim hw hin)] at HDS2
                        clear hw hin
                        obtain ⟨_, _, z3⟩ := box3f hbo2
                        have hbz : Below y2.w.heap.size y2.w (y2.w.alloc (.cells #[.int .i64 g.k, .int .i64 g.a, .slice (some ⟨bb2, off2, none⟩) g.l.length cap'] 26)) := by (repeat' (first | (with_reducible exact Below.refl _ _) | (with_reducible exact Nat.le_refl _) | (with_reducible refine Below.bel ?_ ?_) | (with_reducible refine Below.alloc ?_ ?_ _) | (with_reducible refine Below.drew ?_) | (with_reducible refine Below.drawsN ?_ _) | (with_reducible refine Below.setCell ?_ ?_ _) | (with_reducible refine le_bel ?_) | (with_reducible refine le_alloc ?_) | (with_reducible refine le_setCell ?_) | (with_reducible refine le_drew ?_) | (with_reducible refine le_drawsN ?_) | (dsimp only; with_reducible refine le_bel ?_) | (dsimp only; with_reducible refine Nat.le_refl _) | (dsimp only; with_reducible refine le_bel_add ?_) | (with_reducible assumption) | omega | (dsimp only; omega)))
                        have HOZ := Lib.hid (show OwnG (y2.w.alloc (.cells #[.int .i64 g.k, .int .i64 g.a, .slice (some ⟨bb2, off2, none⟩) g.l.length cap'] 26)) (w2.heap.size + 2) (fun b => w.heap.size + 2 ≤ b ∧ b < w2.heap.size) 26 (.slice va3 D.length vc3) D from ownG_bel HO2.out ⟨_, hbz⟩)
                        have HCZ := Lib.hid (show InsC (fun b => (w.heap.size + 2 ≤ b ∧ b < w2.heap.size) ∧ (Value.slice va3 D.length vc3).ownBlock ≠ some b) (y2.w.alloc (.cells #[.int .i64 g.k, .int .i64 g.a, .slice (some ⟨bb2, off2, none⟩) g.l.length cap'] 26)) (some ⟨y2.w.heap.size, 0, none⟩) [g] from
                          insC_one (E := 26) (ad := (some ⟨bb2, off2, none⟩)) (cap := cap') (World.alloc_heap_new _ _) ((HIG.out.of (HZB2.out.alloc (by omega) _)).imp fun b _ hb => ⟨hb, ownG_avoid HO.out (.inr (by omega))⟩))
                        have HSZ := Lib.hid (show SetM Tryz.prog 9 4 (y2.w.alloc (.cells #[.int .i64 g.k, .int .i64 g.a, .slice (some ⟨bb2, off2, none⟩) g.l.length cap'] 26)) (w2.heap.size + 1) n (revT D) from HS32.out.heap fun o ho => obj_bel ⟨_, hbz⟩ ho)
                        have HBZ := Lib.hid (show (y2.w.alloc (.cells #[.int .i64 g.k, .int .i64 g.a, .slice (some ⟨bb2, off2, none⟩) g.l.length cap'] 26)).heap[w2.heap.size]? = some (.cells #[.int .i64 4, .int .i64 0, .slice va3 D.length vc3] 26 (0, 0)) from obj_bel ⟨_, hbz⟩ hbo2)
                        go_wp2_with (first | (at_builtin; refine wpList_appG rfl _ _ 24 26 rfl i0 Tryz.underlying24 hi0 hz0 hz1 hz2 _ (w2.heap.size + 2) (fun b => w.heap.size + 2 ≤ b ∧ b < w2.heap.size) _ D [g] (some ⟨y2.w.heap.size, 0, none⟩) 1 rfl HOZ.out HCZ.out rfl (by simp; omega) (by simp; omega) ?_; intro va2 vc2 w4 hof hbw; have HBW := Lib.hid hbw; have HOF := Lib.hid hof; have HB4 := Lib.hid (obj_below hbw (by omega) HBZ.out); have HS4 := Lib.hid (HSZ.out.heap fun o ho => obj_below hbw (by omega) ho); obtain ⟨j0, j1, j2⟩ := box3 HB4.out; obtain ⟨_, _, j3⟩ := box3f HB4.out; have hbws := hbw.size; simp at hbws; clear hof hbw) | (at_mapUpdate; refine wpList_update_set _ rfl _ _ _ _ rfl 9 4 Tryz.underlying9 Tryz.underlying99 Tryz.underlying4 (w2.heap.size + 1) n (revT D) rfl (HS4.out.heap fun o ho => obj_ne _ (by omega) ho) (by unfold maxLen; omega) (txt g) rfl (by unfold maxLen; omega) rfl ?_; intro w5 hset5 hg5; have HS5 := Lib.hid hset5; have HG5 := Lib.hid hg5; have hs5 := hg5.size; clear hset5 hg5))
                        simp at hs5
                        have hk45 : ∀ b o, w4.heap[b]? = some o → b ≠ w2.heap.size → b ≠ w2.heap.size + 1 → w5.heap[b]? = some o := fun b o ho h1 h2 =>
                          (HG5.out.block b (by have := (Array.getElem?_eq_some_iff.1 ho).1; simpa using this) (fun e => h2 (by injection e))).trans (obj_ne _ h1 ho)
                        have HK45 := Lib.hid hk45
                        have hbx5 := (HG5.out.block w2.heap.size (by simp; omega) (fun e => by injection e with e; omega)).trans (obj_set (i := 2) (.slice va2 (D.length + [g].length) vc2) HB4.out)
                        have HBX5 := Lib.hid hbx5
                        have hb45 : Below w2.heap.size w4 w5 := ((Below.refl _ w4).setCell (p := ⟨w2.heap.size, 2, none⟩) (Nat.le_refl _) _).grown HG5.out (by simp; omega) (fun k e => by injection e with e; exact (show w2.heap.size ≤ k by omega))
                        have HB45 := Lib.hid hb45
                        have HOM := Lib.hid (ownG_move HOF.out (w' := w5) (fun b o ho hq => by
                          have hbb : b ≠ w2.heap.size ∧ b ≠ w2.heap.size + 1 := by
                            rcases hq with hq | hq
                            · have := ownG_block HOF.out hq
                              omega
                            · have := hq.2
                              omega
                          exact HK45.out b o ho hbb.1 hbb.2))
                        clear hk45 hbx5 hb45
                        go_roundw
                        case rel => exact ⟨j + 1, n + 1, _, by go_num, by omega, by rw [HTK.out, List.any_append, HBAD.out.1, Bool.false_or]; exact HNB, by rw [HDS2.out]; exact HOM.out, HBX5.out, by rw [HDS2.out, revT_snoc]; exact HS5.out, by omega, (HB32.out.trans ((hbz.mono (by omega)).trans (HBW.out.mono (by omega)))).trans HB45.out, by omega⟩
                        case measure => simp [intOf]; omega
                · have f4 : (g.k == 2) = false := beq_eq_false_iff_ne.2 h2
                  have HNB : [g].any (bad 4 L) = false := by simp [bad, strong, hst, h2]
                  have hxo : (wr.alloc (.cells #[.int .i64 g.k, .int .i64 g.a, .slice ad' g.l.length cap'] 26)).heap[wr.heap.size]? = some (.cells #[.int .i64 g.k, .int .i64 g.a, .slice ad' g.l.length cap'] 26 (0, 0)) := World.alloc_heap_new _ _
                  clear hst h2
                  have hzs : wr.heap.size + 1 ≤ ((wr.alloc (.cells #[.int .i64 g.k, .int .i64 g.a, .slice ad' g.l.length cap'] 26))).heap.size ∧ Below wr.heap.size wr ((wr.alloc (.cells #[.int .i64 g.k, .int .i64 g.a, .slice ad' g.l.length cap'] 26))) := ⟨by first | exact hyz | simp, by (repeat' (first | (with_reducible exact Below.refl _ _) | (with_reducible exact Nat.le_refl _) | (with_reducible refine Below.bel ?_ ?_) | (with_reducible refine Below.alloc ?_ ?_ _) | (with_reducible refine Below.drew ?_) | (with_reducible refine Below.drawsN ?_ _) | (with_reducible refine Below.setCell ?_ ?_ _) | (with_reducible refine le_bel ?_) | (with_reducible refine le_alloc ?_) | (with_reducible refine le_setCell ?_) | (with_reducible refine le_drew ?_) | (with_reducible refine le_drawsN ?_) | (dsimp only; with_reducible refine le_bel ?_) | (dsimp only; with_reducible refine Nat.le_refl _) | (dsimp only; with_reducible refine le_bel_add ?_) | (with_reducible assumption) | omega | (dsimp only; omega)))⟩
                  obtain ⟨hzs, hzb⟩ := hzs
                  have HZB := Lib.hid hzb
                  clear hzb
                  go_wp2_with fail
                  refine (HX.out _ _ (HIG.out.of HZB.out) (HT3.out.of HZB.out)).mono ?_
                  rintro _ _ ⟨rfl, y2, rfl⟩
                  have hys2 := y2.size_le
                  have hxo2 := obj_bel y2 hxo
                  obtain ⟨x0, x1, x2⟩ := box3 hxo2
                  have hzb2 : Below wr.heap.size wr y2.w := HZB.out.trans (y2.below.mono (by omega))
                  have HS32 := Lib.hid (show SetM Tryz.prog 9 4 y2.w (w2.heap.size + 1) n (revT D) from HS3.out.heap fun o ho => obj_bel ⟨y2.w, hzb2⟩ ho)
                  have HO2 := Lib.hid (show OwnG y2.w (w2.heap.size + 2) (fun b => w.heap.size + 2 ≤ b ∧ b < w2.heap.size) 26 (.slice va3 D.length vc3) D from ownG_bel HO.out ⟨y2.w, hzb2⟩)
                  have hbo2 : y2.w.heap[w2.heap.size]? = some (.cells #[.int .i64 4, .int .i64 0, .slice va3 D.length vc3] 26 (0, 0)) := obj_bel ⟨y2.w, hzb2⟩ HBX.out
                  obtain ⟨z0, z1, z2⟩ := box3 hbo2
                  have HB32 := Lib.hid (HB3.out.trans (hzb2.mono (by omega)))
                  have HZB2 := Lib.hid hzb2
                  clear hzb2
                  dsimp only
                  by_cases hw : g.k = 5
                  · have f3 : (g.k != 5) = false := by simp [hw]
                    have HDS2 := HDS
                    rw [if_pos (.inl hw)] at HDS2
                    clear hw
                    go_wp2
                    go_roundw
                    case rel => exact ⟨j + 1, n, _, by go_num, by omega, by rw [HTK.out, List.any_append, HBAD.out.1, Bool.false_or]; exact HNB, by rw [HDS2.out]; exact HO2.out, hbo2, by rw [HDS2.out]; exact HS32.out, by omega, HB32.out, by have := HB32.out.size; omega⟩
                    case measure => simp [intOf]; omega
                  · have f3 : (g.k != 5) = true := by simp [hw]
                    by_cases hin : g ∈ D
                    · have hlk := setM_run Tryz.underlying9 Tryz.underlying99 Tryz.underlying4 (zeroBool y2.w) HS32.out (txt g) (by unfold maxLen; omega)
                      rw [decide_eq_true (HDM.out.2 hin)] at hlk
                      have HDS2 := HDS
                      rw [if_pos (.inr hin)] at HDS2
                      clear hw hin
                      go_wp2
                      go_roundw
                      case rel => exact ⟨j + 1, n, _, by go_num, by omega, by rw [HTK.out, List.any_append, HBAD.out.1, Bool.false_or]; exact HNB, by rw [HDS2.out]; exact HO2.out, hbo2, by rw [HDS2.out]; exact HS32.out, by omega, HB32.out, by have := HB32.out.size; omega⟩
                      case measure => simp [intOf]; omega
                    · have hlk := setM_run Tryz.underlying9 Tryz.underlying99 Tryz.underlying4 (zeroBool y2.w) HS32.out (txt g) (by unfold maxLen; omega)
                      rw [decide_eq_false (fun h => hin (HDM.out.1 h))] at hlk
                      have HDS2 := HDS
                      rw [if_neg (fun h => h.elim hw hin)] at HDS2
                      clear hw hin
                      obtain ⟨_, _, z3⟩ := box3f hbo2
                      have hbz : Below y2.w.heap.size y2.w (y2.w.alloc (.cells #[.int .i64 g.k, .int .i64 g.a, .slice ad' g.l.length cap'] 26)) := by (repeat' (first | (with_reducible exact Below.refl _ _) | (with_reducible exact Nat.le_refl _) | (with_reducible refine Below.bel ?_ ?_) | (with_reducible refine Below.alloc ?_ ?_ _) | (with_reducible refine Below.drew ?_) | (with_reducible refine Below.drawsN ?_ _) | (with_reducible refine Below.setCell ?_ ?_ _) | (with_reducible refine le_bel ?_) | (with_reducible refine le_alloc ?_) | (with_reducible refine le_setCell ?_) | (with_reducible refine le_drew ?_) | (with_reducible refine le_drawsN ?_) | (dsimp only; with_reducible refine le_bel ?_) | (dsimp only; with_reducible refine Nat.le_refl _) | (dsimp only; with_reducible refine le_bel_add ?_) | (with_reducible assumption) | omega | (dsimp only; omega)))
                      have HOZ := Lib.hid (show OwnG (y2.w.alloc (.cells #[.int .i64 g.k, .int .i64 g.a, .slice ad' g.l.length cap'] 26)) (w2.heap.size + 2) (fun b => w.heap.size + 2 ≤ b ∧ b < w2.heap.size) 26 (.slice va3 D.length vc3) D from ownG_bel HO2.out ⟨_, hbz⟩)
                      have HCZ := Lib.hid (show InsC (fun b => (w.heap.size + 2 ≤ b ∧ b < w2.heap.size) ∧ (Value.slice va3 D.length vc3).ownBlock ≠ some b) (y2.w.alloc (.cells #[.int .i64 g.k, .int .i64 g.a, .slice ad' g.l.length cap'] 26)) (some ⟨y2.w.heap.size, 0, none⟩) [g] from
                        insC_one (E := 26) (ad := ad') (cap := cap') (World.alloc_heap_new _ _) ((HIG.out.of (HZB2.out.alloc (by omega) _)).imp fun b _ hb => ⟨hb, ownG_avoid HO.out (.inr (by omega))⟩))
                      have HSZ := Lib.hid (show SetM Tryz.prog 9 4 (y2.w.alloc (.cells #[.int .i64 g.k, .int .i64 g.a, .slice ad' g.l.length cap'] 26)) (w2.heap.size + 1) n (revT D) from HS32.out.heap fun o ho => obj_bel ⟨_, hbz⟩ ho)
                      have HBZ := Lib.hid (show (y2.w.alloc (.cells #[.int .i64 g.k, .int .i64 g.a, .slice ad' g.l.length cap'] 26)).heap[w2.heap.size]? = some (.cells #[.int .i64 4, .int .i64 0, .slice va3 D.length vc3] 26 (0, 0)) from obj_bel ⟨_, hbz⟩ hbo2)
                      go_wp2_with (first | (at_builtin; refine wpList_appG rfl _ _ 24 26 rfl i0 Tryz.underlying24 hi0 hz0 hz1 hz2 _ (w2.heap.size + 2) (fun b => w.heap.size + 2 ≤ b ∧ b < w2.heap.size) _ D [g] (some ⟨y2.w.heap.size, 0, none⟩) 1 rfl HOZ.out HCZ.out rfl (by simp; omega) (by simp; omega) ?_; intro va2 vc2 w4 hof hbw; have HBW := Lib.hid hbw; have HOF := Lib.hid hof; have HB4 := Lib.hid (obj_below hbw (by omega) HBZ.out); have HS4 := Lib.hid (HSZ.out.heap fun o ho => obj_below hbw (by omega) ho); obtain ⟨j0, j1, j2⟩ := box3 HB4.out; obtain ⟨_, _, j3⟩ := box3f HB4.out; have hbws := hbw.size; simp at hbws; clear hof hbw) | (at_mapUpdate; refine wpList_update_set _ rfl _ _ _ _ rfl 9 4 Tryz.underlying9 Tryz.underlying99 Tryz.underlying4 (w2.heap.size + 1) n (revT D) rfl (HS4.out.heap fun o ho => obj_ne _ (by omega) ho) (by unfold maxLen; omega) (txt g) rfl (by unfold maxLen; omega) rfl ?_; intro w5 hset5 hg5; have HS5 := Lib.hid hset5; have HG5 := Lib.hid hg5; have hs5 := hg5.size; clear hset5 hg5))
                      simp at hs5
                      have hk45 : ∀ b o, w4.heap[b]? = some o → b ≠ w2.heap.size → b ≠ w2.heap.size + 1 → w5.heap[b]? = some o := fun b o ho h1 h2 =>
                        (HG5.out.block b (by have := (Array.getElem?_eq_some_iff.1 ho).1; simpa using this) (fun e => h2 (by injection e))).trans (obj_ne _ h1 ho)
                      have HK45 := Lib.hid hk45
                      have hbx5 := (HG5.out.block w2.heap.size (by simp; omega) (fun e => by injection e with e; omega)).trans (obj_set (i := 2) (.slice va2 (D.length + [g].length) vc2) HB4.out)
                      have HBX5 := Lib.hid hbx5
                      have hb45 : Below w2.heap.size w4 w5 := ((Below.refl _ w4).setCell (p := ⟨w2.heap.size, 2, none⟩) (Nat.le_refl _) _).grown HG5.out (by simp; omega) (fun k e => by injection e with e; exact (show w2.heap.size ≤ k by omega))
                      have HB45 := Lib.hid hb45
                      have HOM := Lib.hid (ownG_move HOF.out (w' := w5) (fun b o ho hq => by
                        have hbb : b ≠ w2.heap.size ∧ b ≠ w2.heap.size + 1 := by
                          rcases hq with hq | hq
                          · have := ownG_block HOF.out hq
                            omega
                          · have := hq.2
                            omega
                        exact HK45.out b o ho hbb.1 hbb.2))
                      clear hk45 hbx5 hb45
                      go_roundw
                      case rel => exact ⟨j + 1, n + 1, _, by go_num, by omega, by rw [HTK.out, List.any_append, HBAD.out.1, Bool.false_or]; exact HNB, by rw [HDS2.out]; exact HOM.out, HBX5.out, by rw [HDS2.out, revT_snoc]; exact HS5.out, by omega, (HB32.out.trans ((hbz.mono (by omega)).trans (HBW.out.mono (by omega)))).trans HB45.out, by omega⟩
                      case measure => simp [intOf]; omega
            · have hje : j = L.length := by omega
              subst hje
              have f1 : decide ((L.length : Int) < (L.length : Int)) = false := decide_eq_false (by omega)
              rw [List.take_length] at hown hbad
              have hrz3 := obj_below hb3 (by omega) HRZ.out
              obtain ⟨r0, r1, r2⟩ := box3 hrz3
              obtain ⟨q0, q1, q2⟩ := box3f hrz3
              have hjj : joinF 4 L = pickF 4 (dd 4 [] L) := by unfold joinF; rw [if_neg (by rw [hbad]; decide)]
              obtain ⟨D, hD⟩ : ∃ D, dd 4 [] L = D := ⟨_, rfl⟩
              obtain ⟨va3, vc3, rfl⟩ := ownG_val hown
              rw [hD] at hown hjj hbox
              have HJJ := Lib.hid hjj
              obtain ⟨z0, z1, z2⟩ := box3 hbox
              have HBF := Lib.hid (HB2.out.trans (hb3.mono HB2.out.size))
              obtain ⟨oa, oc, hov, hoi⟩ := ownG_ins hown
              injection hov with e1 e2 e3
              subst e1 e3
              have HOI := Lib.hid (show InsF (fun b => w.heap.size + 2 ≤ b) wr va3 D from hoi.imp fun b _ hb => by rcases hb with hb | hb <;> omega)
              clear e2 hoi hown hset3 hiW hjj hbad hb3 hbox hD
              have hmv : ∀ (ad : Option Addr) (l : List F) (a b c : Value), InsF (fun b => w.heap.size + 2 ≤ b) wr ad l → InsF (fun b => w.heap.size ≤ b) (((wr.setCell ⟨w.heap.size + 1, 0, none⟩ a).setCell ⟨w.heap.size + 1, 1, none⟩ b).setCell ⟨w.heap.size + 1, 2, none⟩ c) ad l := fun ad l a b c h => by
                refine (h.move (fun c o u hc hu => ?_) (fun b _ h => h)).imp (fun b _ h => by omega)
                have hne : c ≠ w.heap.size + 1 := by omega
                rw [World.cell?_of_block (Below.heap_setCell _ _ _ c hne), World.cell?_of_block (Below.heap_setCell _ _ _ c hne), World.cell?_of_block (Below.heap_setCell _ _ _ c hne)]
                exact hu
              have HMV := Lib.hid hmv
              clear hmv
              rcases D with _ | ⟨t, _ | ⟨t2, r⟩⟩
              · rw [List.length_nil] at z2
                go_wp2
                have hR := obj_set3 (.int .i64 5) (.int .i64 0) (.slice none 0 0) hrz3
                obtain ⟨s0, s1, s2⟩ := box3 hR
                exact bodyPost_ret (v := .agg #[.int .i64 5, .int .i64 0, .slice none 0 0]) (by simp [results, Tryz.results56, go_sem, s0, s1, s2]) rfl (by rw [HLE.out, HJJ.out]; exact RetF.mk (t := nd 5 0 []) none 0 rfl (((HBF.out.setCell (p := ⟨w.heap.size + 1, 0, none⟩) (by simp) _).setCell (p := ⟨w.heap.size + 1, 1, none⟩) (by simp) _).setCell (p := ⟨w.heap.size + 1, 2, none⟩) (by simp) _) (insF_nil _ _ _))
              · obtain ⟨bb, off, rfl, hp, hcs⟩ := insF_at HOI.out (by simp)
                obtain ⟨c0, c1, ad', cap', c2, hit⟩ := cellF_open (hcs 0 t rfl)
                rw [Nat.zero_mul, Nat.add_zero] at c0 c1 c2
                have HIT := Lib.hid hit
                clear hcs hit
                rw [List.length_singleton] at z2
                go_wp2
                have hR := obj_set3 (.int .i64 t.k) (.int .i64 t.a) (.slice ad' t.l.length cap') hrz3
                obtain ⟨s0, s1, s2⟩ := box3 hR
                exact bodyPost_ret (v := .agg #[.int .i64 t.k, .int .i64 t.a, .slice ad' t.l.length cap']) (by simp [results, Tryz.results56, go_sem, s0, s1, s2]) rfl (by rw [HLE.out, HJJ.out]; exact RetF.mk (t := t) ad' cap' rfl (((HBF.out.setCell (p := ⟨w.heap.size + 1, 0, none⟩) (by simp) _).setCell (p := ⟨w.heap.size + 1, 1, none⟩) (by simp) _).setCell (p := ⟨w.heap.size + 1, 2, none⟩) (by simp) _) (HMV.out _ _ _ _ _ HIT.out))
              · rw [show pickF 4 (t :: t2 :: r) = nd 4 0 (t :: t2 :: r) from rfl] at HJJ
                obtain ⟨DD, hDD⟩ : ∃ DD, t :: t2 :: r = DD := ⟨_, rfl⟩
                have hdl : 2 ≤ DD.length := by rw [← hDD]; simp
                rw [hDD] at HOI z2 HJJ
                clear hDD
                have f5 : ((DD.length : Int) == 0) = false := beq_eq_false_iff_ne.2 (by omega)
                have f6 : ((DD.length : Int) == 1) = false := beq_eq_false_iff_ne.2 (by omega)
                go_wp2
                have hR := obj_set3 (.int .i64 4) (.int .i64 0) (.slice va3 DD.length vc3) hrz3
                obtain ⟨s0, s1, s2⟩ := box3 hR
                exact bodyPost_ret (v := .agg #[.int .i64 4, .int .i64 0, .slice va3 DD.length vc3]) (by simp [results, Tryz.results56, go_sem, s0, s1, s2]) rfl (by rw [HLE.out, HJJ.out]; exact RetF.mk va3 vc3 rfl (((HBF.out.setCell (p := ⟨w.heap.size + 1, 0, none⟩) (by simp) _).setCell (p := ⟨w.heap.size + 1, 1, none⟩) (by simp) _).setCell (p := ⟨w.heap.size + 1, 2, none⟩) (by simp) _) (HMV.out _ _ _ _ _ HOI.out))
end Go.Proofs.YtkbellmhanpocaaGreatDoor
