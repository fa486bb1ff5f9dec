/- The reference's walk and check of a diagram. -/
import Derived.Test.YtkdmhjlcgpnjpaaGreatDoorXD
namespace Go.Proofs.YtkdmhjlcgpnjpaaGreatDoor
set_option linter.unusedVariables false
set_option linter.unusedSimpArgs false
open Go.RowKit Go.Maps
attribute [local go_sem low] Bel.cell Bel.frozen alloc_cell alloc_frozen

/-- What the reference's walk returns. -/
def RetWk (base : Nat) (l : List Nat) (w : World) (e : Ending) (w' : World) : Prop := ∃ v, e = .returned v ∧ OwnN w' base v l ∧ Below base w w' ∧ w.heap.size ≤ w'.heap.size
set_option maxRecDepth 100000 in
set_option maxHeartbeats 12800000 in
theorem lwalk_any {N : List (Nat × Nat × Nat)} (hN : Good N) (hl : N.length ≤ 1000) (base : Nat) (ad : Option Addr) (cap : Nat) : ∀ (K p : Nat), p < K → p < N.length + 2 → ∀ (l : List Nat) (v : Value) (w : World), Ordr3 N l → base ≤ w.heap.size → OwnN w base v l → InD base w ad (N.map z3) →
    Calls Tryz.prog 83 #[.slice ad N.length cap, .int .i64 (p : Int), v] w (RetWk base (dfs3 N (p + 1) p l) w) := by
  intro K
  induction K with
  | zero => intro p h; omega
  | succ K ih =>
    intro p hpK hp l v w ho hbs how hi
    obtain ⟨i0, hi0, hz0, hz1, hz2⟩ := info_parts Tryz.infoI
    have hoN := dfs3_ordr hN (p + 1) p l (Nat.lt_succ_self p) hp ho
    have hll := ordr3_len hoN
    have hl0 := ordr3_len ho
    obtain ⟨a1, c1, rfl, hcs0⟩ := ownN_sl how
    have HO := Lib.hid how
    rcases Nat.lt_or_ge p 2 with hp2 | hp2
    · have f0 : decide ((p : Int) < 2) = true := decide_eq_true (by omega)
      have e : dfs3 N (p + 1) p l = l := by rw [dfs3, if_pos (.inl hp2)]
      rw [e]
      clear ih hi how hcs0 ho hoN hll e
      go_enter Tryz.func83, Tryz.ntmps83
      go_wp2
      exact bodyPost_ret (v := .slice a1 l.length c1) (by simp [results, Tryz.results83, go_sem]) rfl ⟨_, rfl, HO.out, Below.refl _ _, Nat.le_refl _⟩
    · have f0 : decide ((p : Int) < 2) = false := decide_eq_false (by omega)
      have HCS := Lib.hid hcs0
      have HIH := Lib.hid ih
      have HI := Lib.hid hi
      have HOR := Lib.hid ho
      have hon := hoN.2
      have HON := Lib.hid hon
      have HLL := Lib.hid hll
      obtain ⟨X, hX⟩ : ∃ X, dfs3 N (p + 1) p l = X := ⟨_, rfl⟩
      rw [hX] at HON HLL ⊢
      have HX := Lib.hid hX
      clear ih hi how hcs0 ho hoN hll hX hon
      go_enter Tryz.func83, Tryz.ntmps83
      go_wp2
      go_loopw [7] (fun iv wr => ∃ k : Nat, iv = .int .i64 (k : Int) ∧ k ≤ l.length ∧ (∀ j, j < k → l[j]? ≠ some p) ∧ ∃ y : Bel w, wr = y.w) (fun iv _ => l.length - (intOf iv).toNat)
      case atStart => exact ⟨0, rfl, Nat.zero_le _, fun j h => by omega, ⟨w, Below.refl _ _⟩, rfl⟩
      case round =>
        obtain ⟨k, rfl, hk, hno, y, rfl⟩ := hrel
        have HNO := Lib.hid hno
        clear hno
        rcases Nat.lt_or_ge k l.length with hkl | hkl
        · obtain ⟨u, hu⟩ : ∃ u, l[k]? = some u := ⟨_, List.getElem?_eq_getElem hkl⟩
          obtain ⟨g, hadd, hgb, hgl, hcell⟩ := HCS.out k u hu
          subst hadd
          have c0 := cell_in y.below hcell
          have f2 : decide ((k : Int) < (l.length : Int)) = true := decide_eq_true (by omega)
          have hib : (0 ≤ (k : Int) ∧ (k : Int) < (l.length : Int)) := ⟨by omega, by omega⟩
          have HU := Lib.hid hu
          clear hcell hu
          by_cases he : u = p
          · have f3 : ((u : Int) == (p : Int)) = true := beq_iff_eq.2 (by omega)
            have HE := Lib.hid he
            clear he
            go_wp2
            have hmem : p ∈ l := by
              have hu := HU.out
              rw [HE.out] at hu
              exact List.mem_of_getElem? hu
            have hx := HX.out
            rw [dfs3, if_pos (.inr hmem)] at hx
            rw [← hx]
            exact bodyPost_ret (v := .slice (some ⟨g, 0, none⟩) l.length c1) (by simp [results, Tryz.results83, go_sem]) rfl ⟨_, rfl, OwnN.bel HO.out y.below, y.below.mono hbs, y.below.size⟩
          · have f3 : ((u : Int) == (p : Int)) = false := beq_eq_false_iff_ne.2 (by omega)
            have HE := Lib.hid he
            clear he
            go_wp2
            go_roundw
            case rel =>
              refine ⟨k + 1, by go_num, by omega, fun j hj => ?_, ⟨y.w, by (repeat' (first | (with_reducible first | exact Below.refl _ _ | exact Nat.le_refl _ | refine Below.bel ?_ ?_ | refine Below.alloc ?_ ?_ _ | refine Below.drew ?_ | refine Below.drawsN ?_ _ | refine Below.setCell ?_ ?_ _ | refine le_bel ?_ | refine le_alloc ?_ | refine le_setCell ?_ | refine le_drew ?_ | refine le_drawsN ?_) | (dsimp only; with_reducible first | refine le_bel ?_ | refine Nat.le_refl _ | refine le_bel_add ?_) | (with_reducible assumption) | omega | (dsimp only; omega)))⟩, rfl⟩
              rcases Nat.lt_or_ge j k with h | h
              · exact HNO.out j h
              · have : j = k := by omega
                rw [this, HU.out]
                intro e
                injection e with e
                exact HE.out e
            case measure => simp [intOf]; omega
        · have hke : k = l.length := by omega
          subst hke
          have hm : p ∉ l := fun h => by
            obtain ⟨j, hj⟩ := List.mem_iff_getElem?.1 h
            exact HNO.out j (List.getElem?_eq_some_iff.1 hj).1 hj
          obtain ⟨b1, b2, _⟩ := node3_ok hN hp hp2
          have e : dfs3 N (p + 1) p l = dfs3 N ((node3 N p).2.2 + 1) (node3 N p).2.2 (dfs3 N ((node3 N p).2.1 + 1) (node3 N p).2.1 l) ++ [p] := by
            rw [dfs3, if_neg (fun h => h.elim (fun h => by omega) hm), dfs3_fuel hN p ((node3 N p).2.1 + 1) (node3 N p).2.1 l (by omega) (by omega) (by omega), dfs3_fuel hN p ((node3 N p).2.2 + 1) (node3 N p).2.2 _ (by omega) (by omega) (by omega)]
          have HX2 := Lib.hid (HX.out.symm.trans e)
          have ho1 := dfs3_ordr hN ((node3 N p).2.1 + 1) (node3 N p).2.1 l (Nat.lt_succ_self _) (by omega) HOR.out
          have hbw := y.below.mono hbs
          have hys := y.size_le
          obtain ⟨g, off, hadd, hg, hcs⟩ := (HI.out.of hbw) (by rw [List.length_map]; omega)
          subst hadd
          obtain ⟨x0, x1, x2⟩ := hcs (p - 2) (z3 (node3 N p)) (by rw [List.getElem?_map, node3_some hp hp2]; rfl)
          dsimp only [z3] at x0 x1 x2
          obtain ⟨xn, hxn⟩ : ∃ xn, (node3 N p).2.1 = xn := ⟨_, rfl⟩
          obtain ⟨xy, hxy⟩ : ∃ xy, (node3 N p).2.2 = xy := ⟨_, rfl⟩
          rw [hxn] at x1 b1 ho1
          rw [hxy] at x2 b2
          rw [hxn, hxy] at HX2
          have HO1 := Lib.hid ho1
          have HORR := Lib.hid HOR.out
          have HXY := Lib.hid hxy
          obtain ⟨l1, hl1⟩ : ∃ l1, dfs3 N (xn + 1) xn l = l1 := ⟨_, rfl⟩
          obtain ⟨l2, hl2⟩ : ∃ l2, dfs3 N (xy + 1) xy l1 = l2 := ⟨_, rfl⟩
          rw [hl1] at HX2 HO1
          rw [hl2] at HX2
          have hlX := HLL.out
          rw [HX2.out, List.length_append, List.length_singleton] at hlX
          rw [HX2.out]
          have HL1 := Lib.hid hl1
          have HL2 := Lib.hid hl2
          have HP := Lib.hid (node3_some hp hp2)
          obtain ⟨q, hqe⟩ : ∃ q, p - 2 = q := ⟨_, rfl⟩
          rw [hqe] at x0 x1 x2 HP
          have hq : ((p : Int) - 2) = (q : Int) := by omega
          have hib : (0 ≤ (q : Int) ∧ (q : Int) < (N.length : Int)) := ⟨by omega, by omega⟩
          have f2 : decide ((l.length : Int) < (l.length : Int)) = false := decide_eq_false (by omega)
          have HOy := Lib.hid (OwnN.bel HO.out y.below)
          obtain ⟨W1, hW1⟩ : ∃ W1, y.w = W1 := ⟨_, rfl⟩
          rw [hW1] at x0 x1 x2 hbw hys HOy ⊢
          have HB1 := Lib.hid hbw
          clear hm e ho1 hcs hxn hxy hl1 hl2 hbw hW1 y HON HX HLL HOR HCS HNO x0 x2
          go_wp2_with fail
          refine (HIH.out xn (by omega) (by omega) l _ W1 HORR.out (by omega) HOy.out (HI.out.of HB1.out)).mono ?_
          rintro _ W2 ⟨v1, rfl, how1, hb1, hs1⟩
          rw [HL1.out] at how1
          have HB2 := Lib.hid (HB1.out.trans hb1)
          have HOW1 := Lib.hid how1
          obtain ⟨g', off', hadd, _, hcs1⟩ := (HI.out.of HB2.out) (by rw [List.length_map]; omega)
          cases hadd
          obtain ⟨-, -, x2⟩ := hcs1 q (z3 (node3 N p)) (by rw [List.getElem?_map, HP.out]; rfl)
          dsimp only [z3] at x2
          rw [HXY.out] at x2
          clear how1 hb1 hcs1 x1
          dsimp only
          go_wp2_with fail
          refine (HIH.out xy (by omega) (by omega) l1 _ W2 HO1.out (by omega) HOW1.out (HI.out.of HB2.out)).mono ?_
          rintro _ W3 ⟨v2, rfl, how2, hb2, hs2⟩
          rw [HL2.out] at how2
          have HB3 := Lib.hid (HB2.out.trans hb2)
          have HOW2 := Lib.hid (show W3.ownsRow base 3 1 v2 l2.length (natsV l2) from how2)
          have hbs3 : base ≤ W3.heap.size := by omega
          have hws3 : w.heap.size ≤ W3.heap.size := by omega
          clear how2 hb2 x2 HIH HOy HORR HO1 HI HOW1 HO hys hs1 hs2 HL1 HL2 HXY HP hib
          dsimp only
          go_wp2_with (at_builtin; refine wpList_append_own _ rfl _ _ 71 rfl base 3 i0 (.int .i64 0) 1 8 Tryz.underlying71 hi0 hz0 hz1 hz2 rfl (by decide) v2 l2.length (natsV l2) rfl (World.ownsRow.alloc (HOW2.out) _) ⟨W3.heap.size, 0, none⟩ 1 1 [.int .i64 (p : Int)] rfl rfl (cell_one_new _ _ _) (by simp [Value.oneCell']) (by unfold maxLen; omega) (by omega) (by simp; omega) ?_; intro v4 w4 hown4 hgrow4 hnil4; clear hnil4; obtain ⟨g4, cap4, rfl⟩ := ownsRow_succ hown4; have HN4 := Lib.hid hown4; have HG4 := Lib.hid hgrow4; clear hown4 hgrow4)
          go_wp2
          have hrow : OwnN w4 base (.slice (some ⟨g4, 0, none⟩) (l2.length + 1) cap4) (l2 ++ [p]) := by
            show w4.ownsRow base 3 1 _ (l2 ++ [p]).length (natsV (l2 ++ [p]))
            rw [natsV_app, List.length_append]
            exact HN4.out
          have hb4 := ((Below.refl base W3).alloc hbs3 (.cells #[.int .i64 (p : Int)] 3)).grown HG4.out (by simp; omega) (fun k hk => (World.ownsRow.lt HOW2.out k hk).1)
          have hs4 := HG4.out.size
          rw [World.size_alloc] at hs4
          exact bodyPost_ret (v := .slice (some ⟨g4, 0, none⟩) (l2.length + 1) cap4) (by simp [results, Tryz.results83, go_sem]) rfl ⟨_, rfl, (by first | exact hrow | (rw [HX2.out]; exact hrow)), HB3.out.trans hb4, by omega⟩
end Go.Proofs.YtkdmhjlcgpnjpaaGreatDoor
