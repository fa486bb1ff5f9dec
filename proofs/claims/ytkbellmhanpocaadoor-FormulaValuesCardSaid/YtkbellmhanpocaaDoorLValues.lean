/- The walk of FormulaValues. -/
import Derived.Test.YtkbellmhanpocaaDoorK1
import Derived.Test.YtkbellmhanpocaaDoorK2
import Derived.Test.YtkbellmhanpocaaDoorR1
namespace Go.Proofs.YtkbellmhanpocaaDoor
set_option linter.unusedVariables false
set_option linter.unusedSimpArgs false
open Go.RowKit F
attribute [local go_sem low] Bel.cell Bel.frozen alloc_cell alloc_frozen

set_option maxRecDepth 100000 in
theorem lawValues_long (p q : Option Addr) (n m cap cap' : Nat) (w : World) (hT : Tab w) (hn : 30 < n ∨ 10 < m) : Calls Tryd.prog 7 #[.slice p n cap, .slice q m cap'] w (Ret (.bool true) w) := by
  have HT := Lib.hid hT
  clear hT
  by_cases h : 30 < n
  · have f0 : decide ((30 : Int) < (n : Int)) = true := decide_eq_true (by omega)
    go_enter Tryd.func7, Tryd.ntmps7
    go_wp2_with fail
    (with_reducible refine (known_any _ (HT.out.of (by (repeat' (first | (with_reducible exact Below.refl _ _) | (with_reducible exact Nat.le_refl _) | (with_reducible refine Below.bel ?_ ?_) | (with_reducible refine Below.alloc ?_ ?_ _) | (with_reducible refine Below.drew ?_) | (with_reducible refine Below.drawsN ?_ _) | (with_reducible refine Below.setCell ?_ ?_ _) | (with_reducible refine le_bel ?_) | (with_reducible refine le_alloc ?_) | (with_reducible refine le_setCell ?_) | (with_reducible refine le_drew ?_) | (with_reducible refine le_drawsN ?_) | (dsimp only; with_reducible refine le_bel ?_) | (dsimp only; with_reducible refine Nat.le_refl _) | (dsimp only; with_reducible refine le_bel_add ?_) | (with_reducible assumption) | omega | (dsimp only; omega)))))).mono ?_)
    rintro _ _ ⟨rfl, y1, rfl⟩
    go_wp2_with fail
    (with_reducible refine (known_any _ (HT.out.of (by (repeat' (first | (with_reducible exact Below.refl _ _) | (with_reducible exact Nat.le_refl _) | (with_reducible refine Below.bel ?_ ?_) | (with_reducible refine Below.alloc ?_ ?_ _) | (with_reducible refine Below.drew ?_) | (with_reducible refine Below.drawsN ?_ _) | (with_reducible refine Below.setCell ?_ ?_ _) | (with_reducible refine le_bel ?_) | (with_reducible refine le_alloc ?_) | (with_reducible refine le_setCell ?_) | (with_reducible refine le_drew ?_) | (with_reducible refine le_drawsN ?_) | (dsimp only; with_reducible refine le_bel ?_) | (dsimp only; with_reducible refine Nat.le_refl _) | (dsimp only; with_reducible refine le_bel_add ?_) | (with_reducible assumption) | omega | (dsimp only; omega)))))).mono ?_)
    rintro _ _ ⟨rfl, y2, rfl⟩
    go_wp2
    go_ret
    exact Ret.mk (by rfl) (by (repeat' (first | (with_reducible exact Below.refl _ _) | (with_reducible exact Nat.le_refl _) | (with_reducible refine Below.bel ?_ ?_) | (with_reducible refine Below.alloc ?_ ?_ _) | (with_reducible refine Below.drew ?_) | (with_reducible refine Below.drawsN ?_ _) | (with_reducible refine Below.setCell ?_ ?_ _) | (with_reducible refine le_bel ?_) | (with_reducible refine le_alloc ?_) | (with_reducible refine le_setCell ?_) | (with_reducible refine le_drew ?_) | (with_reducible refine le_drawsN ?_) | (dsimp only; with_reducible refine le_bel ?_) | (dsimp only; with_reducible refine Nat.le_refl _) | (dsimp only; with_reducible refine le_bel_add ?_) | (with_reducible assumption) | omega | (dsimp only; omega))))
  · have f0 : decide ((30 : Int) < (n : Int)) = false := decide_eq_false (by omega)
    have f1 : decide ((10 : Int) < (m : Int)) = true := decide_eq_true (by omega)
    go_enter Tryd.func7, Tryd.ntmps7
    go_wp2_with fail
    (with_reducible refine (known_any _ (HT.out.of (by (repeat' (first | (with_reducible exact Below.refl _ _) | (with_reducible exact Nat.le_refl _) | (with_reducible refine Below.bel ?_ ?_) | (with_reducible refine Below.alloc ?_ ?_ _) | (with_reducible refine Below.drew ?_) | (with_reducible refine Below.drawsN ?_ _) | (with_reducible refine Below.setCell ?_ ?_ _) | (with_reducible refine le_bel ?_) | (with_reducible refine le_alloc ?_) | (with_reducible refine le_setCell ?_) | (with_reducible refine le_drew ?_) | (with_reducible refine le_drawsN ?_) | (dsimp only; with_reducible refine le_bel ?_) | (dsimp only; with_reducible refine Nat.le_refl _) | (dsimp only; with_reducible refine le_bel_add ?_) | (with_reducible assumption) | omega | (dsimp only; omega)))))).mono ?_)
    rintro _ _ ⟨rfl, y1, rfl⟩
    go_wp2_with fail
    (with_reducible refine (known_any _ (HT.out.of (by (repeat' (first | (with_reducible exact Below.refl _ _) | (with_reducible exact Nat.le_refl _) | (with_reducible refine Below.bel ?_ ?_) | (with_reducible refine Below.alloc ?_ ?_ _) | (with_reducible refine Below.drew ?_) | (with_reducible refine Below.drawsN ?_ _) | (with_reducible refine Below.setCell ?_ ?_ _) | (with_reducible refine le_bel ?_) | (with_reducible refine le_alloc ?_) | (with_reducible refine le_setCell ?_) | (with_reducible refine le_drew ?_) | (with_reducible refine le_drawsN ?_) | (dsimp only; with_reducible refine le_bel ?_) | (dsimp only; with_reducible refine Nat.le_refl _) | (dsimp only; with_reducible refine le_bel_add ?_) | (with_reducible assumption) | omega | (dsimp only; omega)))))).mono ?_)
    rintro _ _ ⟨rfl, y2, rfl⟩
    go_wp2
    go_ret
    exact Ret.mk (by rfl) (by (repeat' (first | (with_reducible exact Below.refl _ _) | (with_reducible exact Nat.le_refl _) | (with_reducible refine Below.bel ?_ ?_) | (with_reducible refine Below.alloc ?_ ?_ _) | (with_reducible refine Below.drew ?_) | (with_reducible refine Below.drawsN ?_ _) | (with_reducible refine Below.setCell ?_ ?_ _) | (with_reducible refine le_bel ?_) | (with_reducible refine le_alloc ?_) | (with_reducible refine le_setCell ?_) | (with_reducible refine le_drew ?_) | (with_reducible refine le_drawsN ?_) | (dsimp only; with_reducible refine le_bel ?_) | (dsimp only; with_reducible refine Nat.le_refl _) | (dsimp only; with_reducible refine le_bel_add ?_) | (with_reducible assumption) | omega | (dsimp only; omega))))
theorem envL_envB {bl : List Bool} (hn : bl.length ≤ 10) {a : Int} (h0 : 0 ≤ a) (h1 : a < bl.length) : envL bl a = envB (bitsK bl bl.length) a := by
  unfold envL envB
  rw [bitsK_test, decide_eq_true (show a < 64 by omega), decide_eq_true (show a.toNat < bl.length by omega)]
  simp
theorem or_step {bl : List Bool} {k : Nat} (h : bl.getD k false = true) (hk : k < 10) : bits .or .u64 ((bitsK bl k : Nat) : Int) (IntKind.u64.wrap (2 ^ k)) = ((bitsK bl (k + 1) : Nat) : Int) := by
  have h1 := bitsK_lt bl k
  have h2 : 2 ^ k ≤ 2 ^ 10 := Nat.pow_le_pow_right (by decide) (by omega)
  have e : IntKind.u64.wrap (2 ^ k) = ((2 ^ k : Nat) : Int) := by
    rw [show ((2 : Int) ^ k) = ((2 ^ k : Nat) : Int) by simp]
    generalize 2 ^ k = z at *
    simp [IntKind.wrap, IntKind.bits, IntKind.signed]
    omega
  rw [e, u64_or_nat _ _ (by omega) (by omega), bitsK, if_pos h]
set_option maxRecDepth 100000 in
set_option maxHeartbeats 12800000 in
theorem lawValues_any (code : List UInt8) (ca : Option Addr) (cc : Nat) (bl : List Bool) (va : Option Addr) (vc : Nat) (w : World) (hT : Tab w) (hs : ShowsV w (.slice ca code.length cc) (bytesV code)) (hv : ShowsV w (.slice va bl.length vc) (boolsV bl))
    (hl : code.length ≤ 30) (hbl : bl.length ≤ 10) : Calls Tryd.prog 7 #[.slice ca code.length cc, .slice va bl.length vc] w (Ret (.bool true) w) := by
  have f0 : decide ((30 : Int) < (code.length : Int)) = false := decide_eq_false (by omega)
  have f1 : decide ((10 : Int) < (bl.length : Int)) = false := decide_eq_false (by omega)
  have HT := Lib.hid hT
  have HV := Lib.hid hv
  have HM := Lib.hid (fun W (hW : Below w.heap.size w W) => Make_any code ca cc W (showsV_of hs hW) hl)
  obtain ⟨g1, g2, g3, g4⟩ := mkF_good code
  obtain ⟨t, ht⟩ : ∃ t, mkF code = t := ⟨_, rfl⟩
  rw [ht] at HM g1 g2 g3 g4
  have hpre : preL [t] = pre t := by rw [preL, preL, List.append_nil]
  have hsp := supF_spec [t]
  rw [hpre] at hsp
  have hs6 : ∀ x ∈ supF [t], 0 ≤ x ∧ x < 6 := fun x hx => by
    obtain ⟨u, hu, hk, rfl⟩ := (hsp.2 x).1 hx
    exact g2 u hu hk
  have hocc : ∀ x, occ x t = true ↔ x ∈ supF [t] := fun x => (occ_iff x t g1).trans (hsp.2 x).symm
  have HTR := Lib.hid (fun (P : Nat → Prop) ad cap w' hi => Tree_any (nodes t) t (Nat.le_refl _) P ad cap w' hi (by omega))
  have HS := Lib.hid (fun (P : Nat → Prop) ad cap w' hi => Support_ok P t ad cap w' hi g1 (by omega) (by omega))
  have HO := Lib.hid (fun (x : Int) (P : Nat → Prop) ad cap w' hi => refOccurs_any x (nodes t) t (Nat.le_refl _) P ad cap w' hi (by omega))
  have hb10 : bitsK bl bl.length < 18446744073709551616 := Nat.lt_of_lt_of_le (bitsK_lt bl bl.length) (by
    have : 2 ^ bl.length ≤ 2 ^ 10 := Nat.pow_le_pow_right (by decide) hbl
    omega)
  have HRV := Lib.hid (fun (P : Nat → Prop) ad cap w' hi => refValue_any (bitsK bl bl.length) hb10 (nodes t) t (Nat.le_refl _) g1 P ad cap w' hi (by omega))
  have HE1 := fun (he : enough bl t) => Lib.hid (fun (P : Nat → Prop) ad cap w' hi hv => Value_ok P t ad cap w' bl va vc hi g1 (by omega) (by omega) hv (by omega) he)
  have HE2 := fun (he : ¬ enough bl t) => Lib.hid (fun (P : Nat → Prop) ad cap w' hi => Value_size P t ad cap w' bl va vc hi g1 (by omega) (by omega) (by omega) he)
  have hval : enough bl t → val (envL bl) t = val (envB (bitsK bl bl.length)) t := fun he => val_congr t g1 fun x hx => by
    have hx2 := (hocc x).1 hx
    exact envL_envB hbl (hs6 x hx2).1 (he x hx2)
  have hls : (supF [t]).length ≤ 100 := by have := supF_len [t]; rw [nodesL, nodesL] at this; omega
  obtain ⟨ls, hlse⟩ : ∃ ls, supF [t] = ls := ⟨_, rfl⟩
  unfold enough at HE1 HE2 hval
  rw [hlse] at HS hsp hs6 hocc HE1 HE2 hval hls
  have HSP := Lib.hid (And.intro hsp.1 (And.intro hs6 hocc))
  clear hT hs hv ht g1 g2 g3 g4 hpre hsp hs6 hocc hb10 hlse
  have hLN : (boolsV bl).length = bl.length := by simp [boolsV]
  by_cases he : ∀ x ∈ ls, x < bl.length
  · have HV1 := HE1 he
    rw [hval he] at HV1
    have HEE := Lib.hid he
    clear HE1 HE2 hval he
    go_enter Tryd.func7, Tryd.ntmps7
    go_wp2_with fail
    (with_reducible refine (known_any _ (HT.out.of (by (repeat' (first | (with_reducible exact Below.refl _ _) | (with_reducible exact Nat.le_refl _) | (with_reducible refine Below.bel ?_ ?_) | (with_reducible refine Below.alloc ?_ ?_ _) | (with_reducible refine Below.drew ?_) | (with_reducible refine Below.drawsN ?_ _) | (with_reducible refine Below.setCell ?_ ?_ _) | (with_reducible refine le_bel ?_) | (with_reducible refine le_alloc ?_) | (with_reducible refine le_setCell ?_) | (with_reducible refine le_drew ?_) | (with_reducible refine le_drawsN ?_) | (dsimp only; with_reducible refine le_bel ?_) | (dsimp only; with_reducible refine Nat.le_refl _) | (dsimp only; with_reducible refine le_bel_add ?_) | (with_reducible assumption) | omega | (dsimp only; omega)))))).mono ?_)
    rintro _ _ ⟨rfl, y1, rfl⟩
    go_wp2_with fail
    refine (HM.out _ (by (repeat' (first | (with_reducible exact Below.refl _ _) | (with_reducible exact Nat.le_refl _) | (with_reducible refine Below.bel ?_ ?_) | (with_reducible refine Below.alloc ?_ ?_ _) | (with_reducible refine Below.drew ?_) | (with_reducible refine Below.drawsN ?_ _) | (with_reducible refine Below.setCell ?_ ?_ _) | (with_reducible refine le_bel ?_) | (with_reducible refine le_alloc ?_) | (with_reducible refine le_setCell ?_) | (with_reducible refine le_drew ?_) | (with_reducible refine le_drawsN ?_) | (dsimp only; with_reducible refine le_bel ?_) | (dsimp only; with_reducible refine Nat.le_refl _) | (dsimp only; with_reducible refine le_bel_add ?_) | (with_reducible assumption) | omega | (dsimp only; omega))))).mono ?_
    rintro _ _ ⟨_, rfl, y2, rfl, ad2, cap2, rfl, hi2⟩
    have HI2 := Lib.hid hi2
    have hs2 := y2.size_le
    have hb2 := World.alloc_heap_new y2.w (.cells #[.int .i64 t.k, .int .i64 t.a, .slice ad2 t.l.length cap2] 25)
    clear hi2
    dsimp only
    go_wp2_with fail
    refine (HTR.out _ _ _ _ (HI2.out.of (by (repeat' (first | (with_reducible exact Below.refl _ _) | (with_reducible exact Nat.le_refl _) | (with_reducible refine Below.bel ?_ ?_) | (with_reducible refine Below.alloc ?_ ?_ _) | (with_reducible refine Below.drew ?_) | (with_reducible refine Below.drawsN ?_ _) | (with_reducible refine Below.setCell ?_ ?_ _) | (with_reducible refine le_bel ?_) | (with_reducible refine le_alloc ?_) | (with_reducible refine le_setCell ?_) | (with_reducible refine le_drew ?_) | (with_reducible refine le_drawsN ?_) | (dsimp only; with_reducible refine le_bel ?_) | (dsimp only; with_reducible refine Nat.le_refl _) | (dsimp only; with_reducible refine le_bel_add ?_) | (with_reducible assumption) | omega | (dsimp only; omega)))))).mono ?_
    rintro _ _ ⟨_, rfl, y3, rfl, ad3, cap3, rfl, hi3⟩
    have HI3 := Lib.hid hi3
    have hs3 := y3.size_le
    simp at hs3
    have hb3 := obj_bel y3 hb2
    have hx3 := obj_bel ⟨_, (by (repeat' (first | (with_reducible exact Below.refl _ _) | (with_reducible exact Nat.le_refl _) | (with_reducible refine Below.bel ?_ ?_) | (with_reducible refine Below.alloc ?_ ?_ _) | (with_reducible refine Below.drew ?_) | (with_reducible refine Below.drawsN ?_ _) | (with_reducible refine Below.setCell ?_ ?_ _) | (with_reducible refine le_bel ?_) | (with_reducible refine le_alloc ?_) | (with_reducible refine le_setCell ?_) | (with_reducible refine le_drew ?_) | (with_reducible refine le_drawsN ?_) | (dsimp only; with_reducible refine le_bel ?_) | (dsimp only; with_reducible refine Nat.le_refl _) | (dsimp only; with_reducible refine le_bel_add ?_) | (with_reducible assumption) | omega | (dsimp only; omega))) : Below y3.w.heap.size y3.w (y3.w.alloc (.cells #[.int .i64 t.k, .int .i64 t.a, .slice ad3 t.l.length cap3] 36)))⟩ hb3
    have ht3 := World.alloc_heap_new y3.w (.cells #[.int .i64 t.k, .int .i64 t.a, .slice ad3 t.l.length cap3] 36)
    obtain ⟨c0, c1, c2⟩ := box3 hx3
    clear hi3
    dsimp only
    go_wp2_with fail
    refine ((HV1.out _ _ _ _ (HI2.out.of (by (repeat' (first | (with_reducible exact Below.refl _ _) | (with_reducible exact Nat.le_refl _) | (with_reducible refine Below.bel ?_ ?_) | (with_reducible refine Below.alloc ?_ ?_ _) | (with_reducible refine Below.drew ?_) | (with_reducible refine Below.drawsN ?_ _) | (with_reducible refine Below.setCell ?_ ?_ _) | (with_reducible refine le_bel ?_) | (with_reducible refine le_alloc ?_) | (with_reducible refine le_setCell ?_) | (with_reducible refine le_drew ?_) | (with_reducible refine le_drawsN ?_) | (dsimp only; with_reducible refine le_bel ?_) | (dsimp only; with_reducible refine Nat.le_refl _) | (dsimp only; with_reducible refine le_bel_add ?_) | (with_reducible assumption) | omega | (dsimp only; omega))))) (showsV_of HV.out (by (repeat' (first | (with_reducible exact Below.refl _ _) | (with_reducible exact Nat.le_refl _) | (with_reducible refine Below.bel ?_ ?_) | (with_reducible refine Below.alloc ?_ ?_ _) | (with_reducible refine Below.drew ?_) | (with_reducible refine Below.drawsN ?_ _) | (with_reducible refine Below.setCell ?_ ?_ _) | (with_reducible refine le_bel ?_) | (with_reducible refine le_alloc ?_) | (with_reducible refine le_setCell ?_) | (with_reducible refine le_drew ?_) | (with_reducible refine le_drawsN ?_) | (dsimp only; with_reducible refine le_bel ?_) | (dsimp only; with_reducible refine Nat.le_refl _) | (dsimp only; with_reducible refine le_bel_add ?_) | (with_reducible assumption) | omega | (dsimp only; omega))))))).mono ?_
    rintro _ _ ⟨rfl, y4, rfl⟩
    have hs4 := y4.size_le
    simp at hs4
    have hx4 := obj_bel y4 hx3
    have ht4 := obj_bel y4 ht3
    obtain ⟨d0, d1, d2⟩ := box3 hx4
    dsimp only
    go_wp2_with fail
    refine (HS.out _ _ _ _ (HI2.out.of (by (repeat' (first | (with_reducible exact Below.refl _ _) | (with_reducible exact Nat.le_refl _) | (with_reducible refine Below.bel ?_ ?_) | (with_reducible refine Below.alloc ?_ ?_ _) | (with_reducible refine Below.drew ?_) | (with_reducible refine Below.drawsN ?_ _) | (with_reducible refine Below.setCell ?_ ?_ _) | (with_reducible refine le_bel ?_) | (with_reducible refine le_alloc ?_) | (with_reducible refine le_setCell ?_) | (with_reducible refine le_drew ?_) | (with_reducible refine le_drawsN ?_) | (dsimp only; with_reducible refine le_bel ?_) | (dsimp only; with_reducible refine Nat.le_refl _) | (dsimp only; with_reducible refine le_bel_add ?_) | (with_reducible assumption) | omega | (dsimp only; omega)))))).mono ?_
    rintro _ _ ⟨v5, rfl, y5, rfl, hown⟩
    have HOW := Lib.hid hown
    have hs5 := y5.size_le
    have ht5 := obj_bel y5 ht4
    have HT5 := Lib.hid ht5
    have HB5 := Lib.hid (show Below w.heap.size w y5.w by (repeat' (first | (with_reducible exact Below.refl _ _) | (with_reducible exact Nat.le_refl _) | (with_reducible refine Below.bel ?_ ?_) | (with_reducible refine Below.alloc ?_ ?_ _) | (with_reducible refine Below.drew ?_) | (with_reducible refine Below.drawsN ?_ _) | (with_reducible refine Below.setCell ?_ ?_ _) | (with_reducible refine le_bel ?_) | (with_reducible refine le_alloc ?_) | (with_reducible refine le_setCell ?_) | (with_reducible refine le_drew ?_) | (with_reducible refine le_drawsN ?_) | (dsimp only; with_reducible refine le_bel ?_) | (dsimp only; with_reducible refine Nat.le_refl _) | (dsimp only; with_reducible refine le_bel_add ?_) | (with_reducible assumption) | omega | (dsimp only; omega))))
    have HI5 := Lib.hid (HI3.out.of (by (repeat' (first | (with_reducible exact Below.refl _ _) | (with_reducible exact Nat.le_refl _) | (with_reducible refine Below.bel ?_ ?_) | (with_reducible refine Below.alloc ?_ ?_ _) | (with_reducible refine Below.drew ?_) | (with_reducible refine Below.drawsN ?_ _) | (with_reducible refine Below.setCell ?_ ?_ _) | (with_reducible refine le_bel ?_) | (with_reducible refine le_alloc ?_) | (with_reducible refine le_setCell ?_) | (with_reducible refine le_drew ?_) | (with_reducible refine le_drawsN ?_) | (dsimp only; with_reducible refine le_bel ?_) | (dsimp only; with_reducible refine Nat.le_refl _) | (dsimp only; with_reducible refine le_bel_add ?_) | (with_reducible assumption) | omega | (dsimp only; omega))) : Below y3.w.heap.size y3.w y5.w))
    clear hown
    dsimp only
    go_wp2
    go_loopw [11, 12] (fun bv i wr => ∃ k : Nat, i = .int .i64 (k : Int) ∧ k ≤ bl.length ∧ bv = .int .u64 (bitsK bl k : Nat) ∧ Below y5.w.heap.size y5.w wr) (fun _ i _ => 100 - (intOf i).toNat)
    case atStart => exact ⟨0, rfl, by omega, rfl, Below.refl _ _⟩
    case round =>
      obtain ⟨k, rfl, hk, rfl, hb⟩ := hrel
      rcases Nat.lt_or_ge k bl.length with hkl | hkl
      · obtain ⟨x, hx⟩ := some_at hkl
        have hxv : (boolsV bl)[k]? = some (.bool x) := by unfold boolsV; rw [List.getElem?_map, hx]; rfl
        have hxd : bl.getD k false = x := by rw [List.getD_eq_getElem?_getD, hx]; rfl
        rcases showsV_of HV.out (HB5.out.trans (hb.mono HB5.out.size)) with ⟨h0, _⟩ | ⟨b, off, cp, hv, _, hcells⟩
        · rw [h0] at hxv; cases hxv
        · injection hv with e1 e2 e3
          subst e1
          have hcell := hcells k _ hxv
          have hib : (0 ≤ (k : Int) ∧ (k : Int) < (bl.length : Int)) := ⟨by omega, by omega⟩
          have f2 : decide ((k : Int) < (bl.length : Int)) = true := decide_eq_true (by omega)
          have HXD := Lib.hid hxd
          clear e2 e3 hxv hx hcells hxd
          cases x
          · go_wp2
            go_roundw
            case rel => exact ⟨k + 1, by go_num, by omega, by rw [bitsK, HXD.out]; rfl, hb⟩
            case measure => simp [intOf]; omega
          · go_wp2
            have HOR := Lib.hid (or_step HXD.out (by omega))
            go_roundw
            case rel => exact ⟨k + 1, by go_num, by omega, by rw [HOR.out], hb⟩
            case measure => simp [intOf]; omega
      · have hke : k = bl.length := by omega
        subst hke
        have f2 : decide ((bl.length : Int) < (bl.length : Int)) = false := decide_eq_false (by omega)
        obtain ⟨w6, hw6⟩ : ∃ w6, w6 = wr := ⟨_, rfl⟩
        subst hw6
        obtain ⟨a5, c5, rfl, hcl⟩ := showsV_at (ownV_shows HOW.out)
        have hil : (intsV ls).length = ls.length := by simp [intsV]
        rw [hil] at hcl ⊢
        have HCL := Lib.hid hcl
        have HB6 := Lib.hid hb
        clear hcl hil
        go_wp2
        go_loopw [13, 14, 15] (fun kv ev xv wr => ∃ x : Nat, xv = .int .i64 (x : Int) ∧ x ≤ 6 ∧ kv = .int .i64 (cntL ls x : Nat) ∧ ev = .bool (decide (∀ y ∈ ls, y < (x : Int) → y < bl.length)) ∧ Below w6.heap.size w6 wr) (fun _ _ i _ => 100 - (intOf i).toNat)
        case atStart => exact ⟨0, rfl, by omega, by rw [show cntL ls (0 : Nat) = 0 from cntL_zero fun x hx => (HSP.out.2.1 x hx).1]; rfl, by rw [decide_eq_true (fun y hy h => by have := (HSP.out.2.1 y hy).1; omega)], Below.refl _ _⟩
        case round =>
          obtain ⟨x, rfl, hx6, rfl, rfl, hb2⟩ := hrel
          have hb5 := HB6.out.trans (hb2.mono HB6.out.size)
          have htb := obj_bel ⟨wr, hb5⟩ HT5.out
          obtain ⟨p0, p1, p2⟩ := box3 htb
          rcases Nat.lt_or_ge x 6 with hlt | hge
          · have f3 : decide ((x : Int) < 6) = true := decide_eq_true (by omega)
            have hcs := cntL_succ (x := (x : Int)) HSP.out.1
            go_wp2_with fail
            refine (HO.out (x : Int) _ _ _ _ (HI5.out.of hb5)).mono ?_
            rintro _ _ ⟨rfl, y7, rfl⟩
            have hs7 := y7.size_le
            have hb7 := hb2.trans (y7.below.mono hb2.size)
            dsimp only
            by_cases ho : (x : Int) ∈ ls
            · rw [(HSP.out.2.2 x).2 ho]
              rw [if_pos ho] at hcs
              have hat := cntL_at HSP.out.1 ho
              obtain ⟨M, hM⟩ : ∃ M, cntL ls (x : Int) = M := ⟨_, rfl⟩
              rw [hM] at hcs hat ⊢
              have hlen : M < ls.length := (List.getElem?_eq_some_iff.1 hat).1
              obtain ⟨gb, go, hadd, hcc⟩ := HCL.out (by omega)
              subst hadd
              have hcell := below_cell (HB6.out.trans (hb7.mono HB6.out.size)) _ _ _ (hcc M (.int .i64 x) (by unfold intsV; rw [List.getElem?_map, hat]; rfl))
              have hib : (0 ≤ (M : Int) ∧ (M : Int) < (ls.length : Int)) := ⟨by omega, by omega⟩
              have f4 : decide ((ls.length : Int) ≤ (M : Int)) = false := decide_eq_false (by omega)
              have f5 : ((x : Int) != (x : Int)) = false := by simp
              have HCS := Lib.hid hcs
              have HEN := Lib.hid (show decide (∀ y ∈ ls, y < ((x + 1 : Nat) : Int) → y < bl.length) = (decide (∀ y ∈ ls, y < (x : Int) → y < bl.length) && decide ((x : Int) < (bl.length : Int))) from by
                rw [← Bool.decide_and]
                refine decide_eq_decide.2 ⟨fun h => ⟨fun y hy hl => h y hy (by omega), h x ho (by omega)⟩, fun h y hy hl => ?_⟩
                rcases Int.lt_trichotomy y x with h' | h' | h'
                · exact h.1 y hy h'
                · rw [h']; exact h.2
                · omega)
              obtain ⟨en, hen⟩ : ∃ en, decide (∀ y ∈ ls, y < (x : Int) → y < bl.length) = en := ⟨_, rfl⟩
              rw [hen] at HEN ⊢
              clear hcs hat ho hcc hen hM
              cases en
              · go_wp2
                go_roundw
                case rel => exact ⟨x + 1, by go_num, by omega, by rw [show (((x + 1 : Nat)) : Int) = (x : Int) + 1 by omega, HCS.out]; go_num, by rw [HEN.out]; rfl, hb7⟩
                case measure => simp [intOf]; omega
              · go_wp2
                go_roundw
                case rel => exact ⟨x + 1, by go_num, by omega, by rw [show (((x + 1 : Nat)) : Int) = (x : Int) + 1 by omega, HCS.out]; go_num, by rw [HEN.out, Bool.true_and]; exact congrArg Value.bool (decide_eq_decide.2 (by omega)), hb7⟩
                case measure => simp [intOf]; omega
            · rw [show occ (x : Int) t = false from by cases hoc : occ (x : Int) t; rfl; exact absurd ((HSP.out.2.2 x).1 hoc) ho]
              rw [if_neg ho, Nat.add_zero] at hcs
              have HCS := Lib.hid hcs
              have HEN := Lib.hid (show decide (∀ y ∈ ls, y < ((x + 1 : Nat) : Int) → y < bl.length) = decide (∀ y ∈ ls, y < (x : Int) → y < bl.length) from decide_eq_decide.2 ⟨fun h y hy hl => h y hy (by omega), fun h y hy hl => h y hy (by
                rcases Int.lt_trichotomy y x with h' | h' | h'
                · exact h'
                · rw [h'] at hy; exact absurd hy ho
                · omega)⟩)
              clear hcs ho
              go_wp2
              go_roundw
              case rel => exact ⟨x + 1, by go_num, by omega, by rw [show (((x + 1 : Nat)) : Int) = (x : Int) + 1 by omega, HCS.out], by rw [HEN.out], hb7⟩
              case measure => simp [intOf]; omega
          · have hxe : x = 6 := by omega
            subst hxe
            rw [show cntL ls ((6 : Nat) : Int) = ls.length from cntL_all fun y hy => (HSP.out.2.1 y hy).2]
            have f4 : ((ls.length : Int) != (ls.length : Int)) = false := by simp
            have HBW := Lib.hid (HB5.out.trans ((HB6.out.mono HB5.out.size).trans (hb2.mono (Nat.le_trans HB5.out.size HB6.out.size))))
            rw [show decide (∀ y ∈ ls, y < ((6 : Nat) : Int) → y < bl.length) = true from decide_eq_true fun y hy _ => HEE.out y hy]
            go_wp2_with fail
            refine (HRV.out _ _ _ _ (HI5.out.of hb5)).mono ?_
            rintro _ _ ⟨rfl, y9, rfl⟩
            have hbw0 := HBW.out
            have hbw1 := hbw0.size
            dsimp only
            go_wp2
            go_ret
            exact Ret.mk (by rfl) (by (repeat' (first | (with_reducible exact Below.refl _ _) | (with_reducible exact Nat.le_refl _) | (with_reducible refine Below.bel ?_ ?_) | (with_reducible refine Below.alloc ?_ ?_ _) | (with_reducible refine Below.drew ?_) | (with_reducible refine Below.drawsN ?_ _) | (with_reducible refine Below.setCell ?_ ?_ _) | (with_reducible refine le_bel ?_) | (with_reducible refine le_alloc ?_) | (with_reducible refine le_setCell ?_) | (with_reducible refine le_drew ?_) | (with_reducible refine le_drawsN ?_) | (dsimp only; with_reducible refine le_bel ?_) | (dsimp only; with_reducible refine Nat.le_refl _) | (dsimp only; with_reducible refine le_bel_add ?_) | (with_reducible assumption) | omega | (dsimp only; omega))))
  · have HV1 := HE2 he
    have HEE := Lib.hid he
    clear HE1 HE2 hval he
    go_enter Tryd.func7, Tryd.ntmps7
    go_wp2_with fail
    (with_reducible refine (known_any _ (HT.out.of (by (repeat' (first | (with_reducible exact Below.refl _ _) | (with_reducible exact Nat.le_refl _) | (with_reducible refine Below.bel ?_ ?_) | (with_reducible refine Below.alloc ?_ ?_ _) | (with_reducible refine Below.drew ?_) | (with_reducible refine Below.drawsN ?_ _) | (with_reducible refine Below.setCell ?_ ?_ _) | (with_reducible refine le_bel ?_) | (with_reducible refine le_alloc ?_) | (with_reducible refine le_setCell ?_) | (with_reducible refine le_drew ?_) | (with_reducible refine le_drawsN ?_) | (dsimp only; with_reducible refine le_bel ?_) | (dsimp only; with_reducible refine Nat.le_refl _) | (dsimp only; with_reducible refine le_bel_add ?_) | (with_reducible assumption) | omega | (dsimp only; omega)))))).mono ?_)
    rintro _ _ ⟨rfl, y1, rfl⟩
    go_wp2_with fail
    refine (HM.out _ (by (repeat' (first | (with_reducible exact Below.refl _ _) | (with_reducible exact Nat.le_refl _) | (with_reducible refine Below.bel ?_ ?_) | (with_reducible refine Below.alloc ?_ ?_ _) | (with_reducible refine Below.drew ?_) | (with_reducible refine Below.drawsN ?_ _) | (with_reducible refine Below.setCell ?_ ?_ _) | (with_reducible refine le_bel ?_) | (with_reducible refine le_alloc ?_) | (with_reducible refine le_setCell ?_) | (with_reducible refine le_drew ?_) | (with_reducible refine le_drawsN ?_) | (dsimp only; with_reducible refine le_bel ?_) | (dsimp only; with_reducible refine Nat.le_refl _) | (dsimp only; with_reducible refine le_bel_add ?_) | (with_reducible assumption) | omega | (dsimp only; omega))))).mono ?_
    rintro _ _ ⟨_, rfl, y2, rfl, ad2, cap2, rfl, hi2⟩
    have HI2 := Lib.hid hi2
    have hs2 := y2.size_le
    have hb2 := World.alloc_heap_new y2.w (.cells #[.int .i64 t.k, .int .i64 t.a, .slice ad2 t.l.length cap2] 25)
    clear hi2
    dsimp only
    go_wp2_with fail
    refine (HTR.out _ _ _ _ (HI2.out.of (by (repeat' (first | (with_reducible exact Below.refl _ _) | (with_reducible exact Nat.le_refl _) | (with_reducible refine Below.bel ?_ ?_) | (with_reducible refine Below.alloc ?_ ?_ _) | (with_reducible refine Below.drew ?_) | (with_reducible refine Below.drawsN ?_ _) | (with_reducible refine Below.setCell ?_ ?_ _) | (with_reducible refine le_bel ?_) | (with_reducible refine le_alloc ?_) | (with_reducible refine le_setCell ?_) | (with_reducible refine le_drew ?_) | (with_reducible refine le_drawsN ?_) | (dsimp only; with_reducible refine le_bel ?_) | (dsimp only; with_reducible refine Nat.le_refl _) | (dsimp only; with_reducible refine le_bel_add ?_) | (with_reducible assumption) | omega | (dsimp only; omega)))))).mono ?_
    rintro _ _ ⟨_, rfl, y3, rfl, ad3, cap3, rfl, hi3⟩
    have HI3 := Lib.hid hi3
    have hs3 := y3.size_le
    simp at hs3
    have hb3 := obj_bel y3 hb2
    have hx3 := obj_bel ⟨_, (by (repeat' (first | (with_reducible exact Below.refl _ _) | (with_reducible exact Nat.le_refl _) | (with_reducible refine Below.bel ?_ ?_) | (with_reducible refine Below.alloc ?_ ?_ _) | (with_reducible refine Below.drew ?_) | (with_reducible refine Below.drawsN ?_ _) | (with_reducible refine Below.setCell ?_ ?_ _) | (with_reducible refine le_bel ?_) | (with_reducible refine le_alloc ?_) | (with_reducible refine le_setCell ?_) | (with_reducible refine le_drew ?_) | (with_reducible refine le_drawsN ?_) | (dsimp only; with_reducible refine le_bel ?_) | (dsimp only; with_reducible refine Nat.le_refl _) | (dsimp only; with_reducible refine le_bel_add ?_) | (with_reducible assumption) | omega | (dsimp only; omega))) : Below y3.w.heap.size y3.w (y3.w.alloc (.cells #[.int .i64 t.k, .int .i64 t.a, .slice ad3 t.l.length cap3] 36)))⟩ hb3
    have ht3 := World.alloc_heap_new y3.w (.cells #[.int .i64 t.k, .int .i64 t.a, .slice ad3 t.l.length cap3] 36)
    obtain ⟨c0, c1, c2⟩ := box3 hx3
    clear hi3
    dsimp only
    go_wp2_with fail
    refine ((HV1.out _ _ _ _ (HI2.out.of (by (repeat' (first | (with_reducible exact Below.refl _ _) | (with_reducible exact Nat.le_refl _) | (with_reducible refine Below.bel ?_ ?_) | (with_reducible refine Below.alloc ?_ ?_ _) | (with_reducible refine Below.drew ?_) | (with_reducible refine Below.drawsN ?_ _) | (with_reducible refine Below.setCell ?_ ?_ _) | (with_reducible refine le_bel ?_) | (with_reducible refine le_alloc ?_) | (with_reducible refine le_setCell ?_) | (with_reducible refine le_drew ?_) | (with_reducible refine le_drawsN ?_) | (dsimp only; with_reducible refine le_bel ?_) | (dsimp only; with_reducible refine Nat.le_refl _) | (dsimp only; with_reducible refine le_bel_add ?_) | (with_reducible assumption) | omega | (dsimp only; omega))))))).mono ?_
    rintro _ _ ⟨rfl, y4, rfl⟩
    have hs4 := y4.size_le
    simp at hs4
    have hx4 := obj_bel y4 hx3
    have ht4 := obj_bel y4 ht3
    obtain ⟨d0, d1, d2⟩ := box3 hx4
    dsimp only
    go_wp2_with fail
    refine (HS.out _ _ _ _ (HI2.out.of (by (repeat' (first | (with_reducible exact Below.refl _ _) | (with_reducible exact Nat.le_refl _) | (with_reducible refine Below.bel ?_ ?_) | (with_reducible refine Below.alloc ?_ ?_ _) | (with_reducible refine Below.drew ?_) | (with_reducible refine Below.drawsN ?_ _) | (with_reducible refine Below.setCell ?_ ?_ _) | (with_reducible refine le_bel ?_) | (with_reducible refine le_alloc ?_) | (with_reducible refine le_setCell ?_) | (with_reducible refine le_drew ?_) | (with_reducible refine le_drawsN ?_) | (dsimp only; with_reducible refine le_bel ?_) | (dsimp only; with_reducible refine Nat.le_refl _) | (dsimp only; with_reducible refine le_bel_add ?_) | (with_reducible assumption) | omega | (dsimp only; omega)))))).mono ?_
    rintro _ _ ⟨v5, rfl, y5, rfl, hown⟩
    have HOW := Lib.hid hown
    have hs5 := y5.size_le
    have ht5 := obj_bel y5 ht4
    have HT5 := Lib.hid ht5
    have HB5 := Lib.hid (show Below w.heap.size w y5.w by (repeat' (first | (with_reducible exact Below.refl _ _) | (with_reducible exact Nat.le_refl _) | (with_reducible refine Below.bel ?_ ?_) | (with_reducible refine Below.alloc ?_ ?_ _) | (with_reducible refine Below.drew ?_) | (with_reducible refine Below.drawsN ?_ _) | (with_reducible refine Below.setCell ?_ ?_ _) | (with_reducible refine le_bel ?_) | (with_reducible refine le_alloc ?_) | (with_reducible refine le_setCell ?_) | (with_reducible refine le_drew ?_) | (with_reducible refine le_drawsN ?_) | (dsimp only; with_reducible refine le_bel ?_) | (dsimp only; with_reducible refine Nat.le_refl _) | (dsimp only; with_reducible refine le_bel_add ?_) | (with_reducible assumption) | omega | (dsimp only; omega))))
    have HI5 := Lib.hid (HI3.out.of (by (repeat' (first | (with_reducible exact Below.refl _ _) | (with_reducible exact Nat.le_refl _) | (with_reducible refine Below.bel ?_ ?_) | (with_reducible refine Below.alloc ?_ ?_ _) | (with_reducible refine Below.drew ?_) | (with_reducible refine Below.drawsN ?_ _) | (with_reducible refine Below.setCell ?_ ?_ _) | (with_reducible refine le_bel ?_) | (with_reducible refine le_alloc ?_) | (with_reducible refine le_setCell ?_) | (with_reducible refine le_drew ?_) | (with_reducible refine le_drawsN ?_) | (dsimp only; with_reducible refine le_bel ?_) | (dsimp only; with_reducible refine Nat.le_refl _) | (dsimp only; with_reducible refine le_bel_add ?_) | (with_reducible assumption) | omega | (dsimp only; omega))) : Below y3.w.heap.size y3.w y5.w))
    clear hown
    dsimp only
    go_wp2
    go_loopw [11, 12] (fun bv i wr => ∃ k : Nat, i = .int .i64 (k : Int) ∧ k ≤ bl.length ∧ bv = .int .u64 (bitsK bl k : Nat) ∧ Below y5.w.heap.size y5.w wr) (fun _ i _ => 100 - (intOf i).toNat)
    case atStart => exact ⟨0, rfl, by omega, rfl, Below.refl _ _⟩
    case round =>
      obtain ⟨k, rfl, hk, rfl, hb⟩ := hrel
      rcases Nat.lt_or_ge k bl.length with hkl | hkl
      · obtain ⟨x, hx⟩ := some_at hkl
        have hxv : (boolsV bl)[k]? = some (.bool x) := by unfold boolsV; rw [List.getElem?_map, hx]; rfl
        have hxd : bl.getD k false = x := by rw [List.getD_eq_getElem?_getD, hx]; rfl
        rcases showsV_of HV.out (HB5.out.trans (hb.mono HB5.out.size)) with ⟨h0, _⟩ | ⟨b, off, cp, hv, _, hcells⟩
        · rw [h0] at hxv; cases hxv
        · injection hv with e1 e2 e3
          subst e1
          have hcell := hcells k _ hxv
          have hib : (0 ≤ (k : Int) ∧ (k : Int) < (bl.length : Int)) := ⟨by omega, by omega⟩
          have f2 : decide ((k : Int) < (bl.length : Int)) = true := decide_eq_true (by omega)
          have HXD := Lib.hid hxd
          clear e2 e3 hxv hx hcells hxd
          cases x
          · go_wp2
            go_roundw
            case rel => exact ⟨k + 1, by go_num, by omega, by rw [bitsK, HXD.out]; rfl, hb⟩
            case measure => simp [intOf]; omega
          · go_wp2
            have HOR := Lib.hid (or_step HXD.out (by omega))
            go_roundw
            case rel => exact ⟨k + 1, by go_num, by omega, by rw [HOR.out], hb⟩
            case measure => simp [intOf]; omega
      · have hke : k = bl.length := by omega
        subst hke
        have f2 : decide ((bl.length : Int) < (bl.length : Int)) = false := decide_eq_false (by omega)
        obtain ⟨w6, hw6⟩ : ∃ w6, w6 = wr := ⟨_, rfl⟩
        subst hw6
        obtain ⟨a5, c5, rfl, hcl⟩ := showsV_at (ownV_shows HOW.out)
        have hil : (intsV ls).length = ls.length := by simp [intsV]
        rw [hil] at hcl ⊢
        have HCL := Lib.hid hcl
        have HB6 := Lib.hid hb
        clear hcl hil
        go_wp2
        go_loopw [13, 14, 15] (fun kv ev xv wr => ∃ x : Nat, xv = .int .i64 (x : Int) ∧ x ≤ 6 ∧ kv = .int .i64 (cntL ls x : Nat) ∧ ev = .bool (decide (∀ y ∈ ls, y < (x : Int) → y < bl.length)) ∧ Below w6.heap.size w6 wr) (fun _ _ i _ => 100 - (intOf i).toNat)
        case atStart => exact ⟨0, rfl, by omega, by rw [show cntL ls (0 : Nat) = 0 from cntL_zero fun x hx => (HSP.out.2.1 x hx).1]; rfl, by rw [decide_eq_true (fun y hy h => by have := (HSP.out.2.1 y hy).1; omega)], Below.refl _ _⟩
        case round =>
          obtain ⟨x, rfl, hx6, rfl, rfl, hb2⟩ := hrel
          have hb5 := HB6.out.trans (hb2.mono HB6.out.size)
          have htb := obj_bel ⟨wr, hb5⟩ HT5.out
          obtain ⟨p0, p1, p2⟩ := box3 htb
          rcases Nat.lt_or_ge x 6 with hlt | hge
          · have f3 : decide ((x : Int) < 6) = true := decide_eq_true (by omega)
            have hcs := cntL_succ (x := (x : Int)) HSP.out.1
            go_wp2_with fail
            refine (HO.out (x : Int) _ _ _ _ (HI5.out.of hb5)).mono ?_
            rintro _ _ ⟨rfl, y7, rfl⟩
            have hs7 := y7.size_le
            have hb7 := hb2.trans (y7.below.mono hb2.size)
            dsimp only
            by_cases ho : (x : Int) ∈ ls
            · rw [(HSP.out.2.2 x).2 ho]
              rw [if_pos ho] at hcs
              have hat := cntL_at HSP.out.1 ho
              obtain ⟨M, hM⟩ : ∃ M, cntL ls (x : Int) = M := ⟨_, rfl⟩
              rw [hM] at hcs hat ⊢
              have hlen : M < ls.length := (List.getElem?_eq_some_iff.1 hat).1
              obtain ⟨gb, go, hadd, hcc⟩ := HCL.out (by omega)
              subst hadd
              have hcell := below_cell (HB6.out.trans (hb7.mono HB6.out.size)) _ _ _ (hcc M (.int .i64 x) (by unfold intsV; rw [List.getElem?_map, hat]; rfl))
              have hib : (0 ≤ (M : Int) ∧ (M : Int) < (ls.length : Int)) := ⟨by omega, by omega⟩
              have f4 : decide ((ls.length : Int) ≤ (M : Int)) = false := decide_eq_false (by omega)
              have f5 : ((x : Int) != (x : Int)) = false := by simp
              have HCS := Lib.hid hcs
              have HEN := Lib.hid (show decide (∀ y ∈ ls, y < ((x + 1 : Nat) : Int) → y < bl.length) = (decide (∀ y ∈ ls, y < (x : Int) → y < bl.length) && decide ((x : Int) < (bl.length : Int))) from by
                rw [← Bool.decide_and]
                refine decide_eq_decide.2 ⟨fun h => ⟨fun y hy hl => h y hy (by omega), h x ho (by omega)⟩, fun h y hy hl => ?_⟩
                rcases Int.lt_trichotomy y x with h' | h' | h'
                · exact h.1 y hy h'
                · rw [h']; exact h.2
                · omega)
              obtain ⟨en, hen⟩ : ∃ en, decide (∀ y ∈ ls, y < (x : Int) → y < bl.length) = en := ⟨_, rfl⟩
              rw [hen] at HEN ⊢
              clear hcs hat ho hcc hen hM
              cases en
              · go_wp2
                go_roundw
                case rel => exact ⟨x + 1, by go_num, by omega, by rw [show (((x + 1 : Nat)) : Int) = (x : Int) + 1 by omega, HCS.out]; go_num, by rw [HEN.out]; rfl, hb7⟩
                case measure => simp [intOf]; omega
              · go_wp2
                go_roundw
                case rel => exact ⟨x + 1, by go_num, by omega, by rw [show (((x + 1 : Nat)) : Int) = (x : Int) + 1 by omega, HCS.out]; go_num, by rw [HEN.out, Bool.true_and]; exact congrArg Value.bool (decide_eq_decide.2 (by omega)), hb7⟩
                case measure => simp [intOf]; omega
            · rw [show occ (x : Int) t = false from by cases hoc : occ (x : Int) t; rfl; exact absurd ((HSP.out.2.2 x).1 hoc) ho]
              rw [if_neg ho, Nat.add_zero] at hcs
              have HCS := Lib.hid hcs
              have HEN := Lib.hid (show decide (∀ y ∈ ls, y < ((x + 1 : Nat) : Int) → y < bl.length) = decide (∀ y ∈ ls, y < (x : Int) → y < bl.length) from decide_eq_decide.2 ⟨fun h y hy hl => h y hy (by omega), fun h y hy hl => h y hy (by
                rcases Int.lt_trichotomy y x with h' | h' | h'
                · exact h'
                · rw [h'] at hy; exact absurd hy ho
                · omega)⟩)
              clear hcs ho
              go_wp2
              go_roundw
              case rel => exact ⟨x + 1, by go_num, by omega, by rw [show (((x + 1 : Nat)) : Int) = (x : Int) + 1 by omega, HCS.out], by rw [HEN.out], hb7⟩
              case measure => simp [intOf]; omega
          · have hxe : x = 6 := by omega
            subst hxe
            rw [show cntL ls ((6 : Nat) : Int) = ls.length from cntL_all fun y hy => (HSP.out.2.1 y hy).2]
            have f4 : ((ls.length : Int) != (ls.length : Int)) = false := by simp
            have HBW := Lib.hid (HB5.out.trans ((HB6.out.mono HB5.out.size).trans (hb2.mono (Nat.le_trans HB5.out.size HB6.out.size))))
            rw [show decide (∀ y ∈ ls, y < ((6 : Nat) : Int) → y < bl.length) = false from decide_eq_false fun h => HEE.out fun y hy => h y hy (HSP.out.2.1 y hy).2]
            go_wp2
            have hbw := HBW.out
            go_ret
            exact Ret.mk (by rfl) (by (repeat' (first | (with_reducible exact Below.refl _ _) | (with_reducible exact Nat.le_refl _) | (with_reducible refine Below.bel ?_ ?_) | (with_reducible refine Below.alloc ?_ ?_ _) | (with_reducible refine Below.drew ?_) | (with_reducible refine Below.drawsN ?_ _) | (with_reducible refine Below.setCell ?_ ?_ _) | (with_reducible refine le_bel ?_) | (with_reducible refine le_alloc ?_) | (with_reducible refine le_setCell ?_) | (with_reducible refine le_drew ?_) | (with_reducible refine le_drawsN ?_) | (dsimp only; with_reducible refine le_bel ?_) | (dsimp only; with_reducible refine Nat.le_refl _) | (dsimp only; with_reducible refine le_bel_add ?_) | (with_reducible assumption) | omega | (dsimp only; omega))))
end Go.Proofs.YtkbellmhanpocaaDoor
