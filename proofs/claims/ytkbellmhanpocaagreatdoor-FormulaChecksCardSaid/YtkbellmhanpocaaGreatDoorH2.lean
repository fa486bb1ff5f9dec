/- write: the text of a formula. -/
import Derived.Test.YtkbellmhanpocaaGreatDoorH1
import Derived.Test.YtkbellmhanpocaaGreatDoorCm
import Derived.Test.YtkbellmhanpocaaGreatDoorG10
import Derived.Shelf.Strconv.Itoa3
namespace Go.Proofs.YtkbellmhanpocaaGreatDoor
set_option linter.unusedVariables false
set_option linter.unusedSimpArgs false
open Go.RowKit Go.Shelf Go.Sort F
attribute [local go_sem low] Bel.cell Bel.frozen alloc_cell alloc_frozen

/-- The library's table of powers lies in the world. -/
def Tab (w : World) : Prop := Lib.TabIs Tryz.prog w "internal/strconv.uint64pow10" .u64 Lib.pow10Tab
theorem gTab : Tryz.prog.globalNamed "internal/strconv.uint64pow10" = some 2 := by kernel_rfl
theorem Tab.lt {w : World} (h : Tab w) : 2 < w.heap.size := by
  have h' := h
  unfold Tab Lib.TabIs World.var? at h'
  simp only [gTab, Option.bind_some] at h'
  refine Nat.lt_of_not_le fun h0 => ?_
  rw [Array.getElem?_eq_none h0] at h'
  cases h'
theorem Tab.ofB {w w' : World} {B : Nat} (h : Tab w) (hB : 2 < B) (hb : Below B w w') : Tab w' := var?_below hb gTab hB h
theorem Tab.of {w w' : World} (h : Tab w) (hb : Below w.heap.size w w') : Tab w' := h.ofB h.lt hb
theorem below_grow (w : World) (k : Nat) (os : Array Obj) : Below w.heap.size w (Sort.grow (w.drewN k) os) :=
  ⟨rfl, rfl, rfl, by simp [Sort.grow], fun i hi => by
    show (w.heap ++ os)[i]? = _
    rw [Array.getElem?_append, if_pos hi]⟩
theorem itoa_any (n : Int) (w : World) (h0 : -9223372036854775808 ≤ n) (h1 : n ≤ 9223372036854775807) (hT : Tab w) :
    Calls Tryz.prog 66 #[.int .i64 n] w (Ret (.string ⟨(Lib.itoa n).toArray⟩) w) :=
  (Tryz.strconv_Itoa n h0 h1 w hT).mono fun _ _ ⟨he, k, os, hw⟩ => ⟨he, ⟨_, below_grow w k os⟩, hw⟩
/-- A builder that has been let alone. -/
theorem isB_bel {B b : Nat} {l : List UInt8} {w : World} (h : IsB B b l w) (y : Bel w) : IsB B b l y.w := by
  rcases h with ⟨hB, v, hb, hown, hne⟩ | ⟨hB, v, hb, hown, hne⟩
  · exact .inl ⟨hB, v, obj_bel y hb, World.ownsRow.kept hown (bel_grown y) (by cases hv : v.ownBlock <;> simp), hne⟩
  · exact .inr ⟨hB, v, obj_bel y hb, World.ownsRow.kept hown (bel_grown y) (by cases hv : v.ownBlock <;> simp), hne⟩
theorem isB_of {B b : Nat} {l : List UInt8} {w w' : World} (h : IsB B b l w) (hb : Below w.heap.size w w') : IsB B b l w' := isB_bel h ⟨w', hb⟩
theorem isB_lt {B b : Nat} {l : List UInt8} {w : World} (h : IsB B b l w) : B ≤ b ∧ b < w.heap.size := by
  rcases h with ⟨hB, v, hb, _⟩ | ⟨hB, v, hb, _⟩ <;> exact ⟨hB, (Array.getElem?_eq_some_iff.1 hb).1⟩
theorem kept_of {e : TypeId} {b : Option Nat} {w w' : World} (hb : Below w.heap.size w w') : Lib.OthersKept e b w w' := fun _ _ h _ _ => obj_bel ⟨w', hb⟩ h
theorem kept_box {b k : Nat} {w w' : World} {x y z : Value} (h : Lib.OthersKept 5 (some b) w w') (hb : w.heap[k]? = some (.cells #[x, y, z] 26 (0, 0))) (hne : k ≠ b) : w'.heap[k]? = some (.cells #[x, y, z] 26 (0, 0)) :=
  h k _ hb (fun e => hne (by injection e)) (fun c fz e => by injection e with e1 e2 e3; cases e2)
def WrRet (B b : Nat) (l : List UInt8) (w : World) (e : Ending) (w' : World) : Prop := (∃ v, e = .returned v) ∧ IsB B b l w' ∧ Below B w w' ∧ Lib.OthersKept 5 (some b) w w'
theorem txtL_take {l : List F} {k : Nat} {u : F} (h : l[k]? = some u) : txtL (l.take (k + 1)) = txtL (l.take k) ++ (if k = 0 then txt u else 32 :: txt u) := by
  rw [List.take_add_one, h]
  show txtL (l.take k ++ [u]) = _
  rw [txtL_snoc]
  have hk := (List.getElem?_eq_some_iff.1 h).1
  by_cases h0 : k = 0
  · subst h0; rfl
  · rw [if_neg h0, if_neg]
    intro e
    have := congrArg List.length e
    rw [List.length_take, List.length_nil] at this
    omega
theorem txtL_take_len {l : List F} (ho : okL l) (k : Nat) : (txtL (l.take k)).length ≤ 6 * nodesL l := by
  have h1 : okL (l.take k) := okL_of fun t ht => okL_mem ho (List.mem_of_mem_take ht)
  have h2 := txtL_len _ h1
  have h3 : nodesL l = nodesL (l.take k) + nodesL (l.drop k) := by
    conv => lhs; rw [← List.take_append_drop k l]
    exact nodesL_app _ _
  omega
set_option maxRecDepth 100000 in
set_option maxHeartbeats 12800000 in
theorem write_any (B b : Nat) (hg : 2 < B) : ∀ (N : Nat) (t : F), nodes t ≤ N → okT t → ∀ (ad : Option Addr) (cap : Nat) (l : List UInt8) (w : World), InsF (fun c => c < B) w ad t.l → IsB B b l w → Tab w → B ≤ w.heap.size → nodes t ≤ 100000000 → l.length + 6 * nodes t ≤ 10000000000 →
    Calls Tryz.prog 57 #[.agg #[.int .i64 t.k, .int .i64 t.a, .slice ad t.l.length cap], .pointer (some ⟨b, 0, none⟩)] w (WrRet B b (l ++ txt t) w) := by
  intro N
  induction N with
  | zero => intro t h; have := nodes_pos t; omega
  | succ N ih =>
    intro t hN hok ad cap l w hi hbu hT hBw hbig hl
    have HNL := Lib.hid (show nodesL t.l ≤ N by rw [nodes_l] at hN; omega)
    have HBIG := Lib.hid (show nodesL t.l ≤ 100000000 by rw [nodes_l] at hbig; omega)
    have HL := Lib.hid (show l.length + 6 + 6 * nodesL t.l ≤ 10000000000 by rw [nodes_l] at hl; omega)
    have hlen : t.l.length ≤ 100000000 := Nat.le_trans (length_nodesL t.l) HBIG.out
    have HOKL := Lib.hid (okT_l hok)
    have HI := Lib.hid hi
    have HBU := Lib.hid hbu
    have HT := Lib.hid hT
    clear hN hbig hl hi hbu hT
    obtain ⟨tk, ta, tl⟩ := t
    simp only [F.k, F.a, F.l] at HNL HBIG HL hlen HI HOKL ⊢
    rcases single_cases hok.1 with ⟨rfl, h1, h2, rfl⟩ | ⟨rfl, rfl, t, rfl⟩ | ⟨hk, rfl, hl⟩ | ⟨hk, rfl, rfl⟩
    · rw [txt, if_pos rfl, ← dgs_itoa h1]
      have hdl : (Lib.itoa ta).length ≤ 21 := Lib.itoa_length_le ta (by omega) (by omega)
      go_enter Tryz.func57, Tryz.ntmps57
      go_wp2_with fail
      refine (itoa_any ta _ (by omega) (by omega) (HT.out.of (by (repeat' (first | (with_reducible exact Below.refl _ _) | (with_reducible exact Nat.le_refl _) | (with_reducible refine Below.bel ?_ ?_) | (with_reducible refine Below.alloc ?_ ?_ _) | (with_reducible refine Below.drew ?_) | (with_reducible refine Below.drawsN ?_ _) | (with_reducible refine Below.setCell ?_ ?_ _) | (with_reducible refine le_bel ?_) | (with_reducible refine le_alloc ?_) | (with_reducible refine le_setCell ?_) | (with_reducible refine le_drew ?_) | (with_reducible refine le_drawsN ?_) | (dsimp only; with_reducible refine le_bel ?_) | (dsimp only; with_reducible refine Nat.le_refl _) | (dsimp only; with_reducible refine le_bel_add ?_) | (with_reducible assumption) | omega | (dsimp only; omega)))))).mono ?_
      rintro _ _ ⟨rfl, y, rfl⟩
      have hys := y.size_le
      dsimp only
      go_wp2_with fail
      rw [show (ByteArray.mk #[120]) ++ ⟨(Lib.itoa ta).toArray⟩ = ⟨(120 :: Lib.itoa ta).toArray⟩ from bytes_app [120] _]
      refine (writeB_any B b l (120 :: Lib.itoa ta) _ (isB_of HBU.out (by (repeat' (first | (with_reducible exact Below.refl _ _) | (with_reducible exact Nat.le_refl _) | (with_reducible refine Below.bel ?_ ?_) | (with_reducible refine Below.alloc ?_ ?_ _) | (with_reducible refine Below.drew ?_) | (with_reducible refine Below.drawsN ?_ _) | (with_reducible refine Below.setCell ?_ ?_ _) | (with_reducible refine le_bel ?_) | (with_reducible refine le_alloc ?_) | (with_reducible refine le_setCell ?_) | (with_reducible refine le_drew ?_) | (with_reducible refine le_drawsN ?_) | (dsimp only; with_reducible refine le_bel ?_) | (dsimp only; with_reducible refine Nat.le_refl _) | (dsimp only; with_reducible refine le_bel_add ?_) | (with_reducible assumption) | omega | (dsimp only; omega))))) (by simp only [List.length_cons]; have := HL.out; omega) (by (repeat' (first | (with_reducible exact Below.refl _ _) | (with_reducible exact Nat.le_refl _) | (with_reducible refine Below.bel ?_ ?_) | (with_reducible refine Below.alloc ?_ ?_ _) | (with_reducible refine Below.drew ?_) | (with_reducible refine Below.drawsN ?_ _) | (with_reducible refine Below.setCell ?_ ?_ _) | (with_reducible refine le_bel ?_) | (with_reducible refine le_alloc ?_) | (with_reducible refine le_setCell ?_) | (with_reducible refine le_drew ?_) | (with_reducible refine le_drawsN ?_) | (dsimp only; with_reducible refine le_bel ?_) | (dsimp only; with_reducible refine Nat.le_refl _) | (dsimp only; with_reducible refine le_bel_add ?_) | (with_reducible assumption) | omega | (dsimp only; omega))))).mono ?_
      rintro _ w2 ⟨rfl, hb2, hbl2, hok2⟩
      have HB2 := Lib.hid hb2
      have HBL := Lib.hid (show Below B w w2 from Below.trans (by (repeat' (first | (with_reducible exact Below.refl _ _) | (with_reducible exact Nat.le_refl _) | (with_reducible refine Below.bel ?_ ?_) | (with_reducible refine Below.alloc ?_ ?_ _) | (with_reducible refine Below.drew ?_) | (with_reducible refine Below.drawsN ?_ _) | (with_reducible refine Below.setCell ?_ ?_ _) | (with_reducible refine le_bel ?_) | (with_reducible refine le_alloc ?_) | (with_reducible refine le_setCell ?_) | (with_reducible refine le_drew ?_) | (with_reducible refine le_drawsN ?_) | (dsimp only; with_reducible refine le_bel ?_) | (dsimp only; with_reducible refine Nat.le_refl _) | (dsimp only; with_reducible refine le_bel_add ?_) | (with_reducible assumption) | omega | (dsimp only; omega)))) hbl2)
      have HOK := Lib.hid ((kept_of (b := some b) (by (repeat' (first | (with_reducible exact Below.refl _ _) | (with_reducible exact Nat.le_refl _) | (with_reducible refine Below.bel ?_ ?_) | (with_reducible refine Below.alloc ?_ ?_ _) | (with_reducible refine Below.drew ?_) | (with_reducible refine Below.drawsN ?_ _) | (with_reducible refine Below.setCell ?_ ?_ _) | (with_reducible refine le_bel ?_) | (with_reducible refine le_alloc ?_) | (with_reducible refine le_setCell ?_) | (with_reducible refine le_drew ?_) | (with_reducible refine le_drawsN ?_) | (dsimp only; with_reducible refine le_bel ?_) | (dsimp only; with_reducible refine Nat.le_refl _) | (dsimp only; with_reducible refine le_bel_add ?_) | (with_reducible assumption) | omega | (dsimp only; omega))) : Below w.heap.size w y.w)).trans hok2)
      clear hb2 hbl2 hok2
      dsimp only
      go_wp2
      go_end0
      exact ⟨⟨_, rfl⟩, HB2.out, HBL.out, HOK.out⟩
    · -- Not
      rw [txt, if_neg (by decide), if_pos rfl, txtH]
      obtain ⟨bb, off, rfl, hp, hcs⟩ := insF_at HI.out (by simp)
      obtain ⟨c0, c1, ad', cap', c2, hiu⟩ := cellF_open (hcs 0 t rfl)
      rw [Nat.zero_mul, Nat.add_zero] at c0 c1 c2
      have HIU := Lib.hid hiu
      have HN := Lib.hid (by have h1 := HNL.out; have h2 := HBIG.out; have h3 := HL.out; rw [nodesL] at h1 h2 h3; exact (⟨by omega, by omega, by omega⟩ : nodes t ≤ N ∧ nodes t ≤ 100000000 ∧ l.length + 6 + 6 * nodes t ≤ 10000000000))
      have hbl := isB_lt HBU.out
      clear hiu hcs
      go_enter Tryz.func57, Tryz.ntmps57
      go_wp2_with fail
      refine (writeC_any B b l 33 _ (isB_of HBU.out (by (repeat' (first | (with_reducible exact Below.refl _ _) | (with_reducible exact Nat.le_refl _) | (with_reducible refine Below.bel ?_ ?_) | (with_reducible refine Below.alloc ?_ ?_ _) | (with_reducible refine Below.drew ?_) | (with_reducible refine Below.drawsN ?_ _) | (with_reducible refine Below.setCell ?_ ?_ _) | (with_reducible refine le_bel ?_) | (with_reducible refine le_alloc ?_) | (with_reducible refine le_setCell ?_) | (with_reducible refine le_drew ?_) | (with_reducible refine le_drawsN ?_) | (dsimp only; with_reducible refine le_bel ?_) | (dsimp only; with_reducible refine Nat.le_refl _) | (dsimp only; with_reducible refine le_bel_add ?_) | (with_reducible assumption) | omega | (dsimp only; omega))))) (by have := HL.out; omega) (by (repeat' (first | (with_reducible exact Below.refl _ _) | (with_reducible exact Nat.le_refl _) | (with_reducible refine Below.bel ?_ ?_) | (with_reducible refine Below.alloc ?_ ?_ _) | (with_reducible refine Below.drew ?_) | (with_reducible refine Below.drawsN ?_ _) | (with_reducible refine Below.setCell ?_ ?_ _) | (with_reducible refine le_bel ?_) | (with_reducible refine le_alloc ?_) | (with_reducible refine le_setCell ?_) | (with_reducible refine le_drew ?_) | (with_reducible refine le_drawsN ?_) | (dsimp only; with_reducible refine le_bel ?_) | (dsimp only; with_reducible refine Nat.le_refl _) | (dsimp only; with_reducible refine le_bel_add ?_) | (with_reducible assumption) | omega | (dsimp only; omega))))).mono ?_
      rintro _ w2 ⟨rfl, hb2, hbl2, hok2⟩
      have HB2 := Lib.hid hb2
      have hBw2 : Below B w w2 := Below.trans (by (repeat' (first | (with_reducible exact Below.refl _ _) | (with_reducible exact Nat.le_refl _) | (with_reducible refine Below.bel ?_ ?_) | (with_reducible refine Below.alloc ?_ ?_ _) | (with_reducible refine Below.drew ?_) | (with_reducible refine Below.drawsN ?_ _) | (with_reducible refine Below.setCell ?_ ?_ _) | (with_reducible refine le_bel ?_) | (with_reducible refine le_alloc ?_) | (with_reducible refine le_setCell ?_) | (with_reducible refine le_drew ?_) | (with_reducible refine le_drawsN ?_) | (dsimp only; with_reducible refine le_bel ?_) | (dsimp only; with_reducible refine Nat.le_refl _) | (dsimp only; with_reducible refine le_bel_add ?_) | (with_reducible assumption) | omega | (dsimp only; omega)))) hbl2
      have HOK := Lib.hid ((kept_of (b := some b) (by (repeat' (first | (with_reducible exact Below.refl _ _) | (with_reducible exact Nat.le_refl _) | (with_reducible refine Below.bel ?_ ?_) | (with_reducible refine Below.alloc ?_ ?_ _) | (with_reducible refine Below.drew ?_) | (with_reducible refine Below.drawsN ?_ _) | (with_reducible refine Below.setCell ?_ ?_ _) | (with_reducible refine le_bel ?_) | (with_reducible refine le_alloc ?_) | (with_reducible refine le_setCell ?_) | (with_reducible refine le_drew ?_) | (with_reducible refine le_drawsN ?_) | (dsimp only; with_reducible refine le_bel ?_) | (dsimp only; with_reducible refine Nat.le_refl _) | (dsimp only; with_reducible refine le_bel_add ?_) | (with_reducible assumption) | omega | (dsimp only; omega))) : Below w.heap.size w (w.alloc (.cells #[.int .i64 2, .int .i64 0, .slice (some ⟨bb, off, none⟩) 1 cap] 26)))).trans hok2)
      have hfb := kept_box hok2 (World.alloc_heap_new w _) (by omega)
      obtain ⟨d0, d1, d2⟩ := box3 hfb
      have e0 := (hBw2.cell (p := ⟨bb, off, none⟩) hp).trans c0
      have e1 := (hBw2.cell (p := ⟨bb, off + 1, none⟩) hp).trans c1
      have e2 := (hBw2.cell (p := ⟨bb, off + 2, none⟩) hp).trans c2
      have hs2 := hBw2.size
      have HBL := Lib.hid hBw2
      clear hb2 hbl2 hok2 hfb hBw2
      dsimp only
      go_wp2_with fail
      refine (ih t HN.out.1 HOKL.out.1 ad' cap' (l ++ [33]) _ (below_move HIU.out (fun _ h => h) HBL.out) HB2.out (HT.out.ofB hg HBL.out) (by omega) HN.out.2.1 (by simp only [List.length_append, List.length_singleton]; have := HN.out.2.2; omega)).mono ?_
      rintro _ w3 ⟨⟨v, rfl⟩, hb3, hbl3, hok3⟩
      have HB3 := Lib.hid (And.intro hb3 (And.intro hbl3 hok3))
      clear hb3 hbl3 hok3
      dsimp only
      go_wp2
      go_end0
      exact ⟨⟨_, rfl⟩, by have := HB3.out.1; rwa [List.append_assoc] at this, HBL.out.trans HB3.out.2.1, HOK.out.trans HB3.out.2.2⟩
    · -- And, Or
      have e5 : txt (nd tk 0 tl) = (if tk = 3 then 38 else 124) :: 40 :: (txtL tl ++ [41]) := by
        rw [txt, if_neg (by omega), if_neg (by omega), if_neg (by omega), if_neg (by omega)]
      rw [e5]
      clear e5
      have hbl := isB_lt HBU.out
      rcases hk with rfl | rfl
      · rw [if_pos rfl]
        go_enter Tryz.func57, Tryz.ntmps57
        go_wp2_with fail
        refine (writeB_any B b l [38, 40] _ (isB_of HBU.out (by (repeat' (first | (with_reducible exact Below.refl _ _) | (with_reducible exact Nat.le_refl _) | (with_reducible refine Below.bel ?_ ?_) | (with_reducible refine Below.alloc ?_ ?_ _) | (with_reducible refine Below.drew ?_) | (with_reducible refine Below.drawsN ?_ _) | (with_reducible refine Below.setCell ?_ ?_ _) | (with_reducible refine le_bel ?_) | (with_reducible refine le_alloc ?_) | (with_reducible refine le_setCell ?_) | (with_reducible refine le_drew ?_) | (with_reducible refine le_drawsN ?_) | (dsimp only; with_reducible refine le_bel ?_) | (dsimp only; with_reducible refine Nat.le_refl _) | (dsimp only; with_reducible refine le_bel_add ?_) | (with_reducible assumption) | omega | (dsimp only; omega))))) (by have := HL.out; simp only [List.length_cons, List.length_nil]; omega) (by (repeat' (first | (with_reducible exact Below.refl _ _) | (with_reducible exact Nat.le_refl _) | (with_reducible refine Below.bel ?_ ?_) | (with_reducible refine Below.alloc ?_ ?_ _) | (with_reducible refine Below.drew ?_) | (with_reducible refine Below.drawsN ?_ _) | (with_reducible refine Below.setCell ?_ ?_ _) | (with_reducible refine le_bel ?_) | (with_reducible refine le_alloc ?_) | (with_reducible refine le_setCell ?_) | (with_reducible refine le_drew ?_) | (with_reducible refine le_drawsN ?_) | (dsimp only; with_reducible refine le_bel ?_) | (dsimp only; with_reducible refine Nat.le_refl _) | (dsimp only; with_reducible refine le_bel_add ?_) | (with_reducible assumption) | omega | (dsimp only; omega))))).mono ?_
        rintro _ w2 ⟨rfl, hb2, hbl2, hok2⟩
        have HB2 := Lib.hid hb2
        have HBL := Lib.hid (show Below B w w2 from Below.trans (by (repeat' (first | (with_reducible exact Below.refl _ _) | (with_reducible exact Nat.le_refl _) | (with_reducible refine Below.bel ?_ ?_) | (with_reducible refine Below.alloc ?_ ?_ _) | (with_reducible refine Below.drew ?_) | (with_reducible refine Below.drawsN ?_ _) | (with_reducible refine Below.setCell ?_ ?_ _) | (with_reducible refine le_bel ?_) | (with_reducible refine le_alloc ?_) | (with_reducible refine le_setCell ?_) | (with_reducible refine le_drew ?_) | (with_reducible refine le_drawsN ?_) | (dsimp only; with_reducible refine le_bel ?_) | (dsimp only; with_reducible refine Nat.le_refl _) | (dsimp only; with_reducible refine le_bel_add ?_) | (with_reducible assumption) | omega | (dsimp only; omega)))) hbl2)
        have HOK := Lib.hid ((kept_of (b := some b) (by (repeat' (first | (with_reducible exact Below.refl _ _) | (with_reducible exact Nat.le_refl _) | (with_reducible refine Below.bel ?_ ?_) | (with_reducible refine Below.alloc ?_ ?_ _) | (with_reducible refine Below.drew ?_) | (with_reducible refine Below.drawsN ?_ _) | (with_reducible refine Below.setCell ?_ ?_ _) | (with_reducible refine le_bel ?_) | (with_reducible refine le_alloc ?_) | (with_reducible refine le_setCell ?_) | (with_reducible refine le_drew ?_) | (with_reducible refine le_drawsN ?_) | (dsimp only; with_reducible refine le_bel ?_) | (dsimp only; with_reducible refine Nat.le_refl _) | (dsimp only; with_reducible refine le_bel_add ?_) | (with_reducible assumption) | omega | (dsimp only; omega))) : Below w.heap.size w ((w.alloc (.cells #[.int .i64 3, .int .i64 0, .slice ad tl.length cap] 26)).alloc (.cells #[.string ⟨#[38, 40]⟩, .string ⟨#[124, 40]⟩] 9)))).trans hok2)
        have hfb := kept_box hok2 (heap2_0 w _ _) (by omega)
        obtain ⟨d0, d1, d2⟩ := box3 hfb
        have hs2 := HBL.out.size
        clear hb2 hbl2 hok2 hfb
        dsimp only
        go_wp2
        go_loopw [19] (fun i wr => ∃ k : Nat, i = .int .i64 (k : Int) ∧ k ≤ tl.length ∧ IsB B b (l ++ [38, 40] ++ txtL (tl.take k)) wr ∧ Below B w wr ∧ Lib.OthersKept 5 (some b) w wr) (fun i _ => tl.length - (intOf i).toNat)
        case atStart => exact ⟨0, rfl, by omega, by rw [List.take_zero, txtL, List.append_nil]; exact HB2.out, HBL.out, HOK.out⟩
        case round =>
          obtain ⟨k, rfl, hkl0, hbk, hbw, hok⟩ := hrel
          have hiW := below_move HI.out (fun _ h => h) hbw
          have hbs := hbw.size
          have hbk2 := isB_lt hbk
          have HTL := Lib.hid (txtL_take_len HOKL.out k)
          have HBK := Lib.hid hbk
          have HBW := Lib.hid hbw
          have HOW := Lib.hid hok
          rcases Nat.lt_or_ge k tl.length with hkl | hkl
          · obtain ⟨u, hu⟩ := some_at hkl
            obtain ⟨bb, off, hadd, hp, hcs⟩ := insF_at hiW (by omega)
            cases hadd
            obtain ⟨c0, c1, ad', cap', c2, hiu⟩ := cellF_open (hcs k u hu)
            have f0 : decide ((k : Int) < (tl.length : Int)) = true := decide_eq_true (by omega)
            have HIU := Lib.hid hiu
            have HTK := Lib.hid (txtL_take hu)
            have hmem := List.mem_of_getElem? hu
            have HN := Lib.hid (⟨Nat.le_trans (nodesL_mem hmem) HNL.out, Nat.le_trans (nodesL_mem hmem) HBIG.out, okL_mem HOKL.out hmem⟩ : nodes u ≤ N ∧ nodes u ≤ 100000000 ∧ okT u)
            have HSZ := Lib.hid (show (txtL (tl.take k)).length + 1 + 6 * nodes u ≤ 6 * nodesL tl + 1 by
              have h1 : okL (tl.take k) := okL_of fun t ht => okL_mem HOKL.out (List.mem_of_mem_take ht)
              have h2 := txtL_len _ h1
              have h3 : nodesL tl = nodesL (tl.take k) + (nodes u + nodesL (tl.drop (k + 1))) := by
                conv => lhs; rw [← List.take_append_drop k tl, nodesL_app, drop_at hu, nodesL]
              omega)
            clear hcs hiW hiu hu hmem hbk hbw hok
            rcases Nat.eq_zero_or_pos k with hk0 | hk0
            · subst hk0
              rw [Nat.zero_mul, Nat.add_zero] at c0 c1 c2
              have f2 : decide ((0 : Int) < (tl.length : Int)) = true := decide_eq_true (by omega)
              go_wp2_with fail
              refine (ih u HN.out.1 HN.out.2.2 ad' cap' _ _ (HIU.out.of (by (repeat' (first | (with_reducible exact Below.refl _ _) | (with_reducible exact Nat.le_refl _) | (with_reducible refine Below.bel ?_ ?_) | (with_reducible refine Below.alloc ?_ ?_ _) | (with_reducible refine Below.drew ?_) | (with_reducible refine Below.drawsN ?_ _) | (with_reducible refine Below.setCell ?_ ?_ _) | (with_reducible refine le_bel ?_) | (with_reducible refine le_alloc ?_) | (with_reducible refine le_setCell ?_) | (with_reducible refine le_drew ?_) | (with_reducible refine le_drawsN ?_) | (dsimp only; with_reducible refine le_bel ?_) | (dsimp only; with_reducible refine Nat.le_refl _) | (dsimp only; with_reducible refine le_bel_add ?_) | (with_reducible assumption) | omega | (dsimp only; omega))))) (isB_of HBK.out (by (repeat' (first | (with_reducible exact Below.refl _ _) | (with_reducible exact Nat.le_refl _) | (with_reducible refine Below.bel ?_ ?_) | (with_reducible refine Below.alloc ?_ ?_ _) | (with_reducible refine Below.drew ?_) | (with_reducible refine Below.drawsN ?_ _) | (with_reducible refine Below.setCell ?_ ?_ _) | (with_reducible refine le_bel ?_) | (with_reducible refine le_alloc ?_) | (with_reducible refine le_setCell ?_) | (with_reducible refine le_drew ?_) | (with_reducible refine le_drawsN ?_) | (dsimp only; with_reducible refine le_bel ?_) | (dsimp only; with_reducible refine Nat.le_refl _) | (dsimp only; with_reducible refine le_bel_add ?_) | (with_reducible assumption) | omega | (dsimp only; omega))))) (HT.out.ofB hg (Below.trans HBW.out (by (repeat' (first | (with_reducible exact Below.refl _ _) | (with_reducible exact Nat.le_refl _) | (with_reducible refine Below.bel ?_ ?_) | (with_reducible refine Below.alloc ?_ ?_ _) | (with_reducible refine Below.drew ?_) | (with_reducible refine Below.drawsN ?_ _) | (with_reducible refine Below.setCell ?_ ?_ _) | (with_reducible refine le_bel ?_) | (with_reducible refine le_alloc ?_) | (with_reducible refine le_setCell ?_) | (with_reducible refine le_drew ?_) | (with_reducible refine le_drawsN ?_) | (dsimp only; with_reducible refine le_bel ?_) | (dsimp only; with_reducible refine Nat.le_refl _) | (dsimp only; with_reducible refine le_bel_add ?_) | (with_reducible assumption) | omega | (dsimp only; omega)))))) (by (repeat' (first | (with_reducible exact Below.refl _ _) | (with_reducible exact Nat.le_refl _) | (with_reducible refine Below.bel ?_ ?_) | (with_reducible refine Below.alloc ?_ ?_ _) | (with_reducible refine Below.drew ?_) | (with_reducible refine Below.drawsN ?_ _) | (with_reducible refine Below.setCell ?_ ?_ _) | (with_reducible refine le_bel ?_) | (with_reducible refine le_alloc ?_) | (with_reducible refine le_setCell ?_) | (with_reducible refine le_drew ?_) | (with_reducible refine le_drawsN ?_) | (dsimp only; with_reducible refine le_bel ?_) | (dsimp only; with_reducible refine Nat.le_refl _) | (dsimp only; with_reducible refine le_bel_add ?_) | (with_reducible assumption) | omega | (dsimp only; omega)))) HN.out.2.1 (by have h1 := HSZ.out; have h2 := HL.out; simp only [List.length_append, List.length_cons, List.length_nil]; omega)).mono ?_
              rintro _ w4 ⟨⟨v, rfl⟩, hb4, hbl4, hok4⟩
              have HB4 := Lib.hid (And.intro hb4 (And.intro hbl4 hok4))
              clear hb4 hbl4 hok4
              dsimp only
              go_wp2
              go_roundw
              case rel =>
                refine ⟨_, _, _, _, _, _, _, _, _, _, _, _, _, _, _, ⟨0 + 1, ?_, by omega, ?_, ?_, ?_⟩, rfl⟩
                · go_num
                · have h := HB4.out.1; rw [HTK.out]; simp only [if_true]; rw [← List.append_assoc]; exact h
                · exact (HBW.out.trans (by (repeat' (first | (with_reducible exact Below.refl _ _) | (with_reducible exact Nat.le_refl _) | (with_reducible refine Below.bel ?_ ?_) | (with_reducible refine Below.alloc ?_ ?_ _) | (with_reducible refine Below.drew ?_) | (with_reducible refine Below.drawsN ?_ _) | (with_reducible refine Below.setCell ?_ ?_ _) | (with_reducible refine le_bel ?_) | (with_reducible refine le_alloc ?_) | (with_reducible refine le_setCell ?_) | (with_reducible refine le_drew ?_) | (with_reducible refine le_drawsN ?_) | (dsimp only; with_reducible refine le_bel ?_) | (dsimp only; with_reducible refine Nat.le_refl _) | (dsimp only; with_reducible refine le_bel_add ?_) | (with_reducible assumption) | omega | (dsimp only; omega))))).trans HB4.out.2.1
                · exact (HOW.out.trans (kept_of (by (repeat' (first | (with_reducible exact Below.refl _ _) | (with_reducible exact Nat.le_refl _) | (with_reducible refine Below.bel ?_ ?_) | (with_reducible refine Below.alloc ?_ ?_ _) | (with_reducible refine Below.drew ?_) | (with_reducible refine Below.drawsN ?_ _) | (with_reducible refine Below.setCell ?_ ?_ _) | (with_reducible refine le_bel ?_) | (with_reducible refine le_alloc ?_) | (with_reducible refine le_setCell ?_) | (with_reducible refine le_drew ?_) | (with_reducible refine le_drawsN ?_) | (dsimp only; with_reducible refine le_bel ?_) | (dsimp only; with_reducible refine Nat.le_refl _) | (dsimp only; with_reducible refine le_bel_add ?_) | (with_reducible assumption) | omega | (dsimp only; omega)))))).trans HB4.out.2.2
              case measure => simp [intOf]; omega
            · have f1 : decide (0 < (k : Int)) = true := decide_eq_true (by omega)
              have HK0 := Lib.hid (show k ≠ 0 by omega)
              go_wp2_with fail
              refine (writeC_any B b _ 32 _ (isB_of HBK.out (by (repeat' (first | (with_reducible exact Below.refl _ _) | (with_reducible exact Nat.le_refl _) | (with_reducible refine Below.bel ?_ ?_) | (with_reducible refine Below.alloc ?_ ?_ _) | (with_reducible refine Below.drew ?_) | (with_reducible refine Below.drawsN ?_ _) | (with_reducible refine Below.setCell ?_ ?_ _) | (with_reducible refine le_bel ?_) | (with_reducible refine le_alloc ?_) | (with_reducible refine le_setCell ?_) | (with_reducible refine le_drew ?_) | (with_reducible refine le_drawsN ?_) | (dsimp only; with_reducible refine le_bel ?_) | (dsimp only; with_reducible refine Nat.le_refl _) | (dsimp only; with_reducible refine le_bel_add ?_) | (with_reducible assumption) | omega | (dsimp only; omega))))) (by have h1 := HSZ.out; have h2 := HL.out; simp only [List.length_append, List.length_cons, List.length_nil]; omega) (by (repeat' (first | (with_reducible exact Below.refl _ _) | (with_reducible exact Nat.le_refl _) | (with_reducible refine Below.bel ?_ ?_) | (with_reducible refine Below.alloc ?_ ?_ _) | (with_reducible refine Below.drew ?_) | (with_reducible refine Below.drawsN ?_ _) | (with_reducible refine Below.setCell ?_ ?_ _) | (with_reducible refine le_bel ?_) | (with_reducible refine le_alloc ?_) | (with_reducible refine le_setCell ?_) | (with_reducible refine le_drew ?_) | (with_reducible refine le_drawsN ?_) | (dsimp only; with_reducible refine le_bel ?_) | (dsimp only; with_reducible refine Nat.le_refl _) | (dsimp only; with_reducible refine le_bel_add ?_) | (with_reducible assumption) | omega | (dsimp only; omega))))).mono ?_
              rintro _ w3 ⟨rfl, hb3, hbl3, hok3⟩
              have hxb := kept_box hok3 (World.alloc_heap_new wr _) (by omega)
              obtain ⟨x0, x1, x2⟩ := box3 hxb
              have hs3 := hbl3.size
              simp at hs3
              have HB3 := Lib.hid (And.intro hb3 (And.intro hbl3 hok3))
              have HI3 := Lib.hid (below_move HIU.out (fun _ h => h) (show Below B wr w3 from Below.trans (by (repeat' (first | (with_reducible exact Below.refl _ _) | (with_reducible exact Nat.le_refl _) | (with_reducible refine Below.bel ?_ ?_) | (with_reducible refine Below.alloc ?_ ?_ _) | (with_reducible refine Below.drew ?_) | (with_reducible refine Below.drawsN ?_ _) | (with_reducible refine Below.setCell ?_ ?_ _) | (with_reducible refine le_bel ?_) | (with_reducible refine le_alloc ?_) | (with_reducible refine le_setCell ?_) | (with_reducible refine le_drew ?_) | (with_reducible refine le_drawsN ?_) | (dsimp only; with_reducible refine le_bel ?_) | (dsimp only; with_reducible refine Nat.le_refl _) | (dsimp only; with_reducible refine le_bel_add ?_) | (with_reducible assumption) | omega | (dsimp only; omega)))) hbl3))
              have HW3 := Lib.hid (show Below B w w3 from HBW.out.trans (Below.trans (by (repeat' (first | (with_reducible exact Below.refl _ _) | (with_reducible exact Nat.le_refl _) | (with_reducible refine Below.bel ?_ ?_) | (with_reducible refine Below.alloc ?_ ?_ _) | (with_reducible refine Below.drew ?_) | (with_reducible refine Below.drawsN ?_ _) | (with_reducible refine Below.setCell ?_ ?_ _) | (with_reducible refine le_bel ?_) | (with_reducible refine le_alloc ?_) | (with_reducible refine le_setCell ?_) | (with_reducible refine le_drew ?_) | (with_reducible refine le_drawsN ?_) | (dsimp only; with_reducible refine le_bel ?_) | (dsimp only; with_reducible refine Nat.le_refl _) | (dsimp only; with_reducible refine le_bel_add ?_) | (with_reducible assumption) | omega | (dsimp only; omega)))) hbl3))
              clear hb3 hbl3 hok3 hxb
              dsimp only
              go_wp2_with fail
              refine (ih u HN.out.1 HN.out.2.2 ad' cap' _ _ HI3.out HB3.out.1 (HT.out.ofB hg HW3.out) (by omega) HN.out.2.1 (by have h1 := HSZ.out; have h2 := HL.out; simp only [List.length_append, List.length_cons, List.length_nil]; omega)).mono ?_
              rintro _ w4 ⟨⟨v, rfl⟩, hb4, hbl4, hok4⟩
              have HB4 := Lib.hid (And.intro hb4 (And.intro hbl4 hok4))
              clear hb4 hbl4 hok4
              dsimp only
              go_wp2
              go_roundw
              case rel => exact ⟨k + 1, by go_num, by omega, by have h := HB4.out.1; rw [HTK.out, if_neg HK0.out, ← List.append_assoc]; rw [List.append_assoc _ [32] (txt u)] at h; exact h, HW3.out.trans HB4.out.2.1, ((HOW.out.trans (kept_of (by (repeat' (first | (with_reducible exact Below.refl _ _) | (with_reducible exact Nat.le_refl _) | (with_reducible refine Below.bel ?_ ?_) | (with_reducible refine Below.alloc ?_ ?_ _) | (with_reducible refine Below.drew ?_) | (with_reducible refine Below.drawsN ?_ _) | (with_reducible refine Below.setCell ?_ ?_ _) | (with_reducible refine le_bel ?_) | (with_reducible refine le_alloc ?_) | (with_reducible refine le_setCell ?_) | (with_reducible refine le_drew ?_) | (with_reducible refine le_drawsN ?_) | (dsimp only; with_reducible refine le_bel ?_) | (dsimp only; with_reducible refine Nat.le_refl _) | (dsimp only; with_reducible refine le_bel_add ?_) | (with_reducible assumption) | omega | (dsimp only; omega)))))).trans HB3.out.2.2).trans HB4.out.2.2⟩
              case measure => simp [intOf]; omega
          · have hke : k = tl.length := by omega
            subst hke
            have f0 : decide ((tl.length : Int) < (tl.length : Int)) = false := decide_eq_false (by omega)
            rw [List.take_length] at HTL HBK
            clear hiW hbk
            go_wp2_with fail
            refine (writeC_any B b _ 41 _ HBK.out (by have h1 := HTL.out; have h2 := HL.out; simp only [List.length_append, List.length_cons, List.length_nil]; omega) (by omega)).mono ?_
            rintro _ w5 ⟨rfl, hb5, hbl5, hok5⟩
            have HB5 := Lib.hid (And.intro hb5 (And.intro hbl5 hok5))
            clear hb5 hbl5 hok5
            dsimp only
            go_wp2
            go_end0
            exact ⟨⟨_, rfl⟩, by have h := HB5.out.1; simp only [List.append_assoc, List.cons_append, List.nil_append] at h; exact h, HBW.out.trans HB5.out.2.1, HOW.out.trans HB5.out.2.2⟩
      · rw [if_neg (by decide)]
        go_enter Tryz.func57, Tryz.ntmps57
        go_wp2_with fail
        refine (writeB_any B b l [124, 40] _ (isB_of HBU.out (by (repeat' (first | (with_reducible exact Below.refl _ _) | (with_reducible exact Nat.le_refl _) | (with_reducible refine Below.bel ?_ ?_) | (with_reducible refine Below.alloc ?_ ?_ _) | (with_reducible refine Below.drew ?_) | (with_reducible refine Below.drawsN ?_ _) | (with_reducible refine Below.setCell ?_ ?_ _) | (with_reducible refine le_bel ?_) | (with_reducible refine le_alloc ?_) | (with_reducible refine le_setCell ?_) | (with_reducible refine le_drew ?_) | (with_reducible refine le_drawsN ?_) | (dsimp only; with_reducible refine le_bel ?_) | (dsimp only; with_reducible refine Nat.le_refl _) | (dsimp only; with_reducible refine le_bel_add ?_) | (with_reducible assumption) | omega | (dsimp only; omega))))) (by have := HL.out; simp only [List.length_cons, List.length_nil]; omega) (by (repeat' (first | (with_reducible exact Below.refl _ _) | (with_reducible exact Nat.le_refl _) | (with_reducible refine Below.bel ?_ ?_) | (with_reducible refine Below.alloc ?_ ?_ _) | (with_reducible refine Below.drew ?_) | (with_reducible refine Below.drawsN ?_ _) | (with_reducible refine Below.setCell ?_ ?_ _) | (with_reducible refine le_bel ?_) | (with_reducible refine le_alloc ?_) | (with_reducible refine le_setCell ?_) | (with_reducible refine le_drew ?_) | (with_reducible refine le_drawsN ?_) | (dsimp only; with_reducible refine le_bel ?_) | (dsimp only; with_reducible refine Nat.le_refl _) | (dsimp only; with_reducible refine le_bel_add ?_) | (with_reducible assumption) | omega | (dsimp only; omega))))).mono ?_
        rintro _ w2 ⟨rfl, hb2, hbl2, hok2⟩
        have HB2 := Lib.hid hb2
        have HBL := Lib.hid (show Below B w w2 from Below.trans (by (repeat' (first | (with_reducible exact Below.refl _ _) | (with_reducible exact Nat.le_refl _) | (with_reducible refine Below.bel ?_ ?_) | (with_reducible refine Below.alloc ?_ ?_ _) | (with_reducible refine Below.drew ?_) | (with_reducible refine Below.drawsN ?_ _) | (with_reducible refine Below.setCell ?_ ?_ _) | (with_reducible refine le_bel ?_) | (with_reducible refine le_alloc ?_) | (with_reducible refine le_setCell ?_) | (with_reducible refine le_drew ?_) | (with_reducible refine le_drawsN ?_) | (dsimp only; with_reducible refine le_bel ?_) | (dsimp only; with_reducible refine Nat.le_refl _) | (dsimp only; with_reducible refine le_bel_add ?_) | (with_reducible assumption) | omega | (dsimp only; omega)))) hbl2)
        have HOK := Lib.hid ((kept_of (b := some b) (by (repeat' (first | (with_reducible exact Below.refl _ _) | (with_reducible exact Nat.le_refl _) | (with_reducible refine Below.bel ?_ ?_) | (with_reducible refine Below.alloc ?_ ?_ _) | (with_reducible refine Below.drew ?_) | (with_reducible refine Below.drawsN ?_ _) | (with_reducible refine Below.setCell ?_ ?_ _) | (with_reducible refine le_bel ?_) | (with_reducible refine le_alloc ?_) | (with_reducible refine le_setCell ?_) | (with_reducible refine le_drew ?_) | (with_reducible refine le_drawsN ?_) | (dsimp only; with_reducible refine le_bel ?_) | (dsimp only; with_reducible refine Nat.le_refl _) | (dsimp only; with_reducible refine le_bel_add ?_) | (with_reducible assumption) | omega | (dsimp only; omega))) : Below w.heap.size w ((w.alloc (.cells #[.int .i64 4, .int .i64 0, .slice ad tl.length cap] 26)).alloc (.cells #[.string ⟨#[38, 40]⟩, .string ⟨#[124, 40]⟩] 9)))).trans hok2)
        have hfb := kept_box hok2 (heap2_0 w _ _) (by omega)
        obtain ⟨d0, d1, d2⟩ := box3 hfb
        have hs2 := HBL.out.size
        clear hb2 hbl2 hok2 hfb
        dsimp only
        go_wp2
        go_loopw [19] (fun i wr => ∃ k : Nat, i = .int .i64 (k : Int) ∧ k ≤ tl.length ∧ IsB B b (l ++ [124, 40] ++ txtL (tl.take k)) wr ∧ Below B w wr ∧ Lib.OthersKept 5 (some b) w wr) (fun i _ => tl.length - (intOf i).toNat)
        case atStart => exact ⟨0, rfl, by omega, by rw [List.take_zero, txtL, List.append_nil]; exact HB2.out, HBL.out, HOK.out⟩
        case round =>
          obtain ⟨k, rfl, hkl0, hbk, hbw, hok⟩ := hrel
          have hiW := below_move HI.out (fun _ h => h) hbw
          have hbs := hbw.size
          have hbk2 := isB_lt hbk
          have HTL := Lib.hid (txtL_take_len HOKL.out k)
          have HBK := Lib.hid hbk
          have HBW := Lib.hid hbw
          have HOW := Lib.hid hok
          rcases Nat.lt_or_ge k tl.length with hkl | hkl
          · obtain ⟨u, hu⟩ := some_at hkl
            obtain ⟨bb, off, hadd, hp, hcs⟩ := insF_at hiW (by omega)
            cases hadd
            obtain ⟨c0, c1, ad', cap', c2, hiu⟩ := cellF_open (hcs k u hu)
            have f0 : decide ((k : Int) < (tl.length : Int)) = true := decide_eq_true (by omega)
            have HIU := Lib.hid hiu
            have HTK := Lib.hid (txtL_take hu)
            have hmem := List.mem_of_getElem? hu
            have HN := Lib.hid (⟨Nat.le_trans (nodesL_mem hmem) HNL.out, Nat.le_trans (nodesL_mem hmem) HBIG.out, okL_mem HOKL.out hmem⟩ : nodes u ≤ N ∧ nodes u ≤ 100000000 ∧ okT u)
            have HSZ := Lib.hid (show (txtL (tl.take k)).length + 1 + 6 * nodes u ≤ 6 * nodesL tl + 1 by
              have h1 : okL (tl.take k) := okL_of fun t ht => okL_mem HOKL.out (List.mem_of_mem_take ht)
              have h2 := txtL_len _ h1
              have h3 : nodesL tl = nodesL (tl.take k) + (nodes u + nodesL (tl.drop (k + 1))) := by
                conv => lhs; rw [← List.take_append_drop k tl, nodesL_app, drop_at hu, nodesL]
              omega)
            clear hcs hiW hiu hu hmem hbk hbw hok
            rcases Nat.eq_zero_or_pos k with hk0 | hk0
            · subst hk0
              rw [Nat.zero_mul, Nat.add_zero] at c0 c1 c2
              have f2 : decide ((0 : Int) < (tl.length : Int)) = true := decide_eq_true (by omega)
              go_wp2_with fail
              refine (ih u HN.out.1 HN.out.2.2 ad' cap' _ _ (HIU.out.of (by (repeat' (first | (with_reducible exact Below.refl _ _) | (with_reducible exact Nat.le_refl _) | (with_reducible refine Below.bel ?_ ?_) | (with_reducible refine Below.alloc ?_ ?_ _) | (with_reducible refine Below.drew ?_) | (with_reducible refine Below.drawsN ?_ _) | (with_reducible refine Below.setCell ?_ ?_ _) | (with_reducible refine le_bel ?_) | (with_reducible refine le_alloc ?_) | (with_reducible refine le_setCell ?_) | (with_reducible refine le_drew ?_) | (with_reducible refine le_drawsN ?_) | (dsimp only; with_reducible refine le_bel ?_) | (dsimp only; with_reducible refine Nat.le_refl _) | (dsimp only; with_reducible refine le_bel_add ?_) | (with_reducible assumption) | omega | (dsimp only; omega))))) (isB_of HBK.out (by (repeat' (first | (with_reducible exact Below.refl _ _) | (with_reducible exact Nat.le_refl _) | (with_reducible refine Below.bel ?_ ?_) | (with_reducible refine Below.alloc ?_ ?_ _) | (with_reducible refine Below.drew ?_) | (with_reducible refine Below.drawsN ?_ _) | (with_reducible refine Below.setCell ?_ ?_ _) | (with_reducible refine le_bel ?_) | (with_reducible refine le_alloc ?_) | (with_reducible refine le_setCell ?_) | (with_reducible refine le_drew ?_) | (with_reducible refine le_drawsN ?_) | (dsimp only; with_reducible refine le_bel ?_) | (dsimp only; with_reducible refine Nat.le_refl _) | (dsimp only; with_reducible refine le_bel_add ?_) | (with_reducible assumption) | omega | (dsimp only; omega))))) (HT.out.ofB hg (Below.trans HBW.out (by (repeat' (first | (with_reducible exact Below.refl _ _) | (with_reducible exact Nat.le_refl _) | (with_reducible refine Below.bel ?_ ?_) | (with_reducible refine Below.alloc ?_ ?_ _) | (with_reducible refine Below.drew ?_) | (with_reducible refine Below.drawsN ?_ _) | (with_reducible refine Below.setCell ?_ ?_ _) | (with_reducible refine le_bel ?_) | (with_reducible refine le_alloc ?_) | (with_reducible refine le_setCell ?_) | (with_reducible refine le_drew ?_) | (with_reducible refine le_drawsN ?_) | (dsimp only; with_reducible refine le_bel ?_) | (dsimp only; with_reducible refine Nat.le_refl _) | (dsimp only; with_reducible refine le_bel_add ?_) | (with_reducible assumption) | omega | (dsimp only; omega)))))) (by (repeat' (first | (with_reducible exact Below.refl _ _) | (with_reducible exact Nat.le_refl _) | (with_reducible refine Below.bel ?_ ?_) | (with_reducible refine Below.alloc ?_ ?_ _) | (with_reducible refine Below.drew ?_) | (with_reducible refine Below.drawsN ?_ _) | (with_reducible refine Below.setCell ?_ ?_ _) | (with_reducible refine le_bel ?_) | (with_reducible refine le_alloc ?_) | (with_reducible refine le_setCell ?_) | (with_reducible refine le_drew ?_) | (with_reducible refine le_drawsN ?_) | (dsimp only; with_reducible refine le_bel ?_) | (dsimp only; with_reducible refine Nat.le_refl _) | (dsimp only; with_reducible refine le_bel_add ?_) | (with_reducible assumption) | omega | (dsimp only; omega)))) HN.out.2.1 (by have h1 := HSZ.out; have h2 := HL.out; simp only [List.length_append, List.length_cons, List.length_nil]; omega)).mono ?_
              rintro _ w4 ⟨⟨v, rfl⟩, hb4, hbl4, hok4⟩
              have HB4 := Lib.hid (And.intro hb4 (And.intro hbl4 hok4))
              clear hb4 hbl4 hok4
              dsimp only
              go_wp2
              go_roundw
              case rel =>
                refine ⟨_, _, _, _, _, _, _, _, _, _, _, _, _, _, _, ⟨0 + 1, ?_, by omega, ?_, ?_, ?_⟩, rfl⟩
                · go_num
                · have h := HB4.out.1; rw [HTK.out]; simp only [if_true]; rw [← List.append_assoc]; exact h
                · exact (HBW.out.trans (by (repeat' (first | (with_reducible exact Below.refl _ _) | (with_reducible exact Nat.le_refl _) | (with_reducible refine Below.bel ?_ ?_) | (with_reducible refine Below.alloc ?_ ?_ _) | (with_reducible refine Below.drew ?_) | (with_reducible refine Below.drawsN ?_ _) | (with_reducible refine Below.setCell ?_ ?_ _) | (with_reducible refine le_bel ?_) | (with_reducible refine le_alloc ?_) | (with_reducible refine le_setCell ?_) | (with_reducible refine le_drew ?_) | (with_reducible refine le_drawsN ?_) | (dsimp only; with_reducible refine le_bel ?_) | (dsimp only; with_reducible refine Nat.le_refl _) | (dsimp only; with_reducible refine le_bel_add ?_) | (with_reducible assumption) | omega | (dsimp only; omega))))).trans HB4.out.2.1
                · exact (HOW.out.trans (kept_of (by (repeat' (first | (with_reducible exact Below.refl _ _) | (with_reducible exact Nat.le_refl _) | (with_reducible refine Below.bel ?_ ?_) | (with_reducible refine Below.alloc ?_ ?_ _) | (with_reducible refine Below.drew ?_) | (with_reducible refine Below.drawsN ?_ _) | (with_reducible refine Below.setCell ?_ ?_ _) | (with_reducible refine le_bel ?_) | (with_reducible refine le_alloc ?_) | (with_reducible refine le_setCell ?_) | (with_reducible refine le_drew ?_) | (with_reducible refine le_drawsN ?_) | (dsimp only; with_reducible refine le_bel ?_) | (dsimp only; with_reducible refine Nat.le_refl _) | (dsimp only; with_reducible refine le_bel_add ?_) | (with_reducible assumption) | omega | (dsimp only; omega)))))).trans HB4.out.2.2
              case measure => simp [intOf]; omega
            · have f1 : decide (0 < (k : Int)) = true := decide_eq_true (by omega)
              have HK0 := Lib.hid (show k ≠ 0 by omega)
              go_wp2_with fail
              refine (writeC_any B b _ 32 _ (isB_of HBK.out (by (repeat' (first | (with_reducible exact Below.refl _ _) | (with_reducible exact Nat.le_refl _) | (with_reducible refine Below.bel ?_ ?_) | (with_reducible refine Below.alloc ?_ ?_ _) | (with_reducible refine Below.drew ?_) | (with_reducible refine Below.drawsN ?_ _) | (with_reducible refine Below.setCell ?_ ?_ _) | (with_reducible refine le_bel ?_) | (with_reducible refine le_alloc ?_) | (with_reducible refine le_setCell ?_) | (with_reducible refine le_drew ?_) | (with_reducible refine le_drawsN ?_) | (dsimp only; with_reducible refine le_bel ?_) | (dsimp only; with_reducible refine Nat.le_refl _) | (dsimp only; with_reducible refine le_bel_add ?_) | (with_reducible assumption) | omega | (dsimp only; omega))))) (by have h1 := HSZ.out; have h2 := HL.out; simp only [List.length_append, List.length_cons, List.length_nil]; omega) (by (repeat' (first | (with_reducible exact Below.refl _ _) | (with_reducible exact Nat.le_refl _) | (with_reducible refine Below.bel ?_ ?_) | (with_reducible refine Below.alloc ?_ ?_ _) | (with_reducible refine Below.drew ?_) | (with_reducible refine Below.drawsN ?_ _) | (with_reducible refine Below.setCell ?_ ?_ _) | (with_reducible refine le_bel ?_) | (with_reducible refine le_alloc ?_) | (with_reducible refine le_setCell ?_) | (with_reducible refine le_drew ?_) | (with_reducible refine le_drawsN ?_) | (dsimp only; with_reducible refine le_bel ?_) | (dsimp only; with_reducible refine Nat.le_refl _) | (dsimp only; with_reducible refine le_bel_add ?_) | (with_reducible assumption) | omega | (dsimp only; omega))))).mono ?_
              rintro _ w3 ⟨rfl, hb3, hbl3, hok3⟩
              have hxb := kept_box hok3 (World.alloc_heap_new wr _) (by omega)
              obtain ⟨x0, x1, x2⟩ := box3 hxb
              have hs3 := hbl3.size
              simp at hs3
              have HB3 := Lib.hid (And.intro hb3 (And.intro hbl3 hok3))
              have HI3 := Lib.hid (below_move HIU.out (fun _ h => h) (show Below B wr w3 from Below.trans (by (repeat' (first | (with_reducible exact Below.refl _ _) | (with_reducible exact Nat.le_refl _) | (with_reducible refine Below.bel ?_ ?_) | (with_reducible refine Below.alloc ?_ ?_ _) | (with_reducible refine Below.drew ?_) | (with_reducible refine Below.drawsN ?_ _) | (with_reducible refine Below.setCell ?_ ?_ _) | (with_reducible refine le_bel ?_) | (with_reducible refine le_alloc ?_) | (with_reducible refine le_setCell ?_) | (with_reducible refine le_drew ?_) | (with_reducible refine le_drawsN ?_) | (dsimp only; with_reducible refine le_bel ?_) | (dsimp only; with_reducible refine Nat.le_refl _) | (dsimp only; with_reducible refine le_bel_add ?_) | (with_reducible assumption) | omega | (dsimp only; omega)))) hbl3))
              have HW3 := Lib.hid (show Below B w w3 from HBW.out.trans (Below.trans (by (repeat' (first | (with_reducible exact Below.refl _ _) | (with_reducible exact Nat.le_refl _) | (with_reducible refine Below.bel ?_ ?_) | (with_reducible refine Below.alloc ?_ ?_ _) | (with_reducible refine Below.drew ?_) | (with_reducible refine Below.drawsN ?_ _) | (with_reducible refine Below.setCell ?_ ?_ _) | (with_reducible refine le_bel ?_) | (with_reducible refine le_alloc ?_) | (with_reducible refine le_setCell ?_) | (with_reducible refine le_drew ?_) | (with_reducible refine le_drawsN ?_) | (dsimp only; with_reducible refine le_bel ?_) | (dsimp only; with_reducible refine Nat.le_refl _) | (dsimp only; with_reducible refine le_bel_add ?_) | (with_reducible assumption) | omega | (dsimp only; omega)))) hbl3))
              clear hb3 hbl3 hok3 hxb
              dsimp only
              go_wp2_with fail
              refine (ih u HN.out.1 HN.out.2.2 ad' cap' _ _ HI3.out HB3.out.1 (HT.out.ofB hg HW3.out) (by omega) HN.out.2.1 (by have h1 := HSZ.out; have h2 := HL.out; simp only [List.length_append, List.length_cons, List.length_nil]; omega)).mono ?_
              rintro _ w4 ⟨⟨v, rfl⟩, hb4, hbl4, hok4⟩
              have HB4 := Lib.hid (And.intro hb4 (And.intro hbl4 hok4))
              clear hb4 hbl4 hok4
              dsimp only
              go_wp2
              go_roundw
              case rel => exact ⟨k + 1, by go_num, by omega, by have h := HB4.out.1; rw [HTK.out, if_neg HK0.out, ← List.append_assoc]; rw [List.append_assoc _ [32] (txt u)] at h; exact h, HW3.out.trans HB4.out.2.1, ((HOW.out.trans (kept_of (by (repeat' (first | (with_reducible exact Below.refl _ _) | (with_reducible exact Nat.le_refl _) | (with_reducible refine Below.bel ?_ ?_) | (with_reducible refine Below.alloc ?_ ?_ _) | (with_reducible refine Below.drew ?_) | (with_reducible refine Below.drawsN ?_ _) | (with_reducible refine Below.setCell ?_ ?_ _) | (with_reducible refine le_bel ?_) | (with_reducible refine le_alloc ?_) | (with_reducible refine le_setCell ?_) | (with_reducible refine le_drew ?_) | (with_reducible refine le_drawsN ?_) | (dsimp only; with_reducible refine le_bel ?_) | (dsimp only; with_reducible refine Nat.le_refl _) | (dsimp only; with_reducible refine le_bel_add ?_) | (with_reducible assumption) | omega | (dsimp only; omega)))))).trans HB3.out.2.2).trans HB4.out.2.2⟩
              case measure => simp [intOf]; omega
          · have hke : k = tl.length := by omega
            subst hke
            have f0 : decide ((tl.length : Int) < (tl.length : Int)) = false := decide_eq_false (by omega)
            rw [List.take_length] at HTL HBK
            clear hiW hbk
            go_wp2_with fail
            refine (writeC_any B b _ 41 _ HBK.out (by have h1 := HTL.out; have h2 := HL.out; simp only [List.length_append, List.length_cons, List.length_nil]; omega) (by omega)).mono ?_
            rintro _ w5 ⟨rfl, hb5, hbl5, hok5⟩
            have HB5 := Lib.hid (And.intro hb5 (And.intro hbl5 hok5))
            clear hb5 hbl5 hok5
            dsimp only
            go_wp2
            go_end0
            exact ⟨⟨_, rfl⟩, by have h := HB5.out.1; simp only [List.append_assoc, List.cons_append, List.nil_append] at h; exact h, HBW.out.trans HB5.out.2.1, HOW.out.trans HB5.out.2.2⟩
    · -- a constant
      have e5 : txt (nd tk 0 []) = [if tk = 5 then 48 else 49] := by
        rcases hk with rfl | rfl <;> rfl
      rw [e5]
      clear e5
      have hbl := isB_lt HBU.out
      rcases hk with rfl | rfl
      · go_enter Tryz.func57, Tryz.ntmps57
        go_wp2_with fail
        refine (writeC_any B b l 48 _ (isB_of HBU.out (by (repeat' (first | (with_reducible exact Below.refl _ _) | (with_reducible exact Nat.le_refl _) | (with_reducible refine Below.bel ?_ ?_) | (with_reducible refine Below.alloc ?_ ?_ _) | (with_reducible refine Below.drew ?_) | (with_reducible refine Below.drawsN ?_ _) | (with_reducible refine Below.setCell ?_ ?_ _) | (with_reducible refine le_bel ?_) | (with_reducible refine le_alloc ?_) | (with_reducible refine le_setCell ?_) | (with_reducible refine le_drew ?_) | (with_reducible refine le_drawsN ?_) | (dsimp only; with_reducible refine le_bel ?_) | (dsimp only; with_reducible refine Nat.le_refl _) | (dsimp only; with_reducible refine le_bel_add ?_) | (with_reducible assumption) | omega | (dsimp only; omega))))) (by have := HL.out; omega) (by (repeat' (first | (with_reducible exact Below.refl _ _) | (with_reducible exact Nat.le_refl _) | (with_reducible refine Below.bel ?_ ?_) | (with_reducible refine Below.alloc ?_ ?_ _) | (with_reducible refine Below.drew ?_) | (with_reducible refine Below.drawsN ?_ _) | (with_reducible refine Below.setCell ?_ ?_ _) | (with_reducible refine le_bel ?_) | (with_reducible refine le_alloc ?_) | (with_reducible refine le_setCell ?_) | (with_reducible refine le_drew ?_) | (with_reducible refine le_drawsN ?_) | (dsimp only; with_reducible refine le_bel ?_) | (dsimp only; with_reducible refine Nat.le_refl _) | (dsimp only; with_reducible refine le_bel_add ?_) | (with_reducible assumption) | omega | (dsimp only; omega))))).mono ?_
        rintro _ w2 ⟨rfl, hb2, hbl2, hok2⟩
        have HB2 := Lib.hid hb2
        have HBL := Lib.hid (show Below B w w2 from Below.trans (by (repeat' (first | (with_reducible exact Below.refl _ _) | (with_reducible exact Nat.le_refl _) | (with_reducible refine Below.bel ?_ ?_) | (with_reducible refine Below.alloc ?_ ?_ _) | (with_reducible refine Below.drew ?_) | (with_reducible refine Below.drawsN ?_ _) | (with_reducible refine Below.setCell ?_ ?_ _) | (with_reducible refine le_bel ?_) | (with_reducible refine le_alloc ?_) | (with_reducible refine le_setCell ?_) | (with_reducible refine le_drew ?_) | (with_reducible refine le_drawsN ?_) | (dsimp only; with_reducible refine le_bel ?_) | (dsimp only; with_reducible refine Nat.le_refl _) | (dsimp only; with_reducible refine le_bel_add ?_) | (with_reducible assumption) | omega | (dsimp only; omega)))) hbl2)
        have HOK := Lib.hid ((kept_of (b := some b) (by (repeat' (first | (with_reducible exact Below.refl _ _) | (with_reducible exact Nat.le_refl _) | (with_reducible refine Below.bel ?_ ?_) | (with_reducible refine Below.alloc ?_ ?_ _) | (with_reducible refine Below.drew ?_) | (with_reducible refine Below.drawsN ?_ _) | (with_reducible refine Below.setCell ?_ ?_ _) | (with_reducible refine le_bel ?_) | (with_reducible refine le_alloc ?_) | (with_reducible refine le_setCell ?_) | (with_reducible refine le_drew ?_) | (with_reducible refine le_drawsN ?_) | (dsimp only; with_reducible refine le_bel ?_) | (dsimp only; with_reducible refine Nat.le_refl _) | (dsimp only; with_reducible refine le_bel_add ?_) | (with_reducible assumption) | omega | (dsimp only; omega))) : Below w.heap.size w (w.alloc (.cells #[.int .i64 5, .int .i64 0, .slice ad 0 cap] 26)))).trans hok2)
        clear hb2 hbl2 hok2
        dsimp only
        go_wp2
        go_end0
        exact ⟨⟨_, rfl⟩, HB2.out, HBL.out, HOK.out⟩
      · go_enter Tryz.func57, Tryz.ntmps57
        go_wp2_with fail
        refine (writeC_any B b l 49 _ (isB_of HBU.out (by (repeat' (first | (with_reducible exact Below.refl _ _) | (with_reducible exact Nat.le_refl _) | (with_reducible refine Below.bel ?_ ?_) | (with_reducible refine Below.alloc ?_ ?_ _) | (with_reducible refine Below.drew ?_) | (with_reducible refine Below.drawsN ?_ _) | (with_reducible refine Below.setCell ?_ ?_ _) | (with_reducible refine le_bel ?_) | (with_reducible refine le_alloc ?_) | (with_reducible refine le_setCell ?_) | (with_reducible refine le_drew ?_) | (with_reducible refine le_drawsN ?_) | (dsimp only; with_reducible refine le_bel ?_) | (dsimp only; with_reducible refine Nat.le_refl _) | (dsimp only; with_reducible refine le_bel_add ?_) | (with_reducible assumption) | omega | (dsimp only; omega))))) (by have := HL.out; omega) (by (repeat' (first | (with_reducible exact Below.refl _ _) | (with_reducible exact Nat.le_refl _) | (with_reducible refine Below.bel ?_ ?_) | (with_reducible refine Below.alloc ?_ ?_ _) | (with_reducible refine Below.drew ?_) | (with_reducible refine Below.drawsN ?_ _) | (with_reducible refine Below.setCell ?_ ?_ _) | (with_reducible refine le_bel ?_) | (with_reducible refine le_alloc ?_) | (with_reducible refine le_setCell ?_) | (with_reducible refine le_drew ?_) | (with_reducible refine le_drawsN ?_) | (dsimp only; with_reducible refine le_bel ?_) | (dsimp only; with_reducible refine Nat.le_refl _) | (dsimp only; with_reducible refine le_bel_add ?_) | (with_reducible assumption) | omega | (dsimp only; omega))))).mono ?_
        rintro _ w2 ⟨rfl, hb2, hbl2, hok2⟩
        have HB2 := Lib.hid hb2
        have HBL := Lib.hid (show Below B w w2 from Below.trans (by (repeat' (first | (with_reducible exact Below.refl _ _) | (with_reducible exact Nat.le_refl _) | (with_reducible refine Below.bel ?_ ?_) | (with_reducible refine Below.alloc ?_ ?_ _) | (with_reducible refine Below.drew ?_) | (with_reducible refine Below.drawsN ?_ _) | (with_reducible refine Below.setCell ?_ ?_ _) | (with_reducible refine le_bel ?_) | (with_reducible refine le_alloc ?_) | (with_reducible refine le_setCell ?_) | (with_reducible refine le_drew ?_) | (with_reducible refine le_drawsN ?_) | (dsimp only; with_reducible refine le_bel ?_) | (dsimp only; with_reducible refine Nat.le_refl _) | (dsimp only; with_reducible refine le_bel_add ?_) | (with_reducible assumption) | omega | (dsimp only; omega)))) hbl2)
        have HOK := Lib.hid ((kept_of (b := some b) (by (repeat' (first | (with_reducible exact Below.refl _ _) | (with_reducible exact Nat.le_refl _) | (with_reducible refine Below.bel ?_ ?_) | (with_reducible refine Below.alloc ?_ ?_ _) | (with_reducible refine Below.drew ?_) | (with_reducible refine Below.drawsN ?_ _) | (with_reducible refine Below.setCell ?_ ?_ _) | (with_reducible refine le_bel ?_) | (with_reducible refine le_alloc ?_) | (with_reducible refine le_setCell ?_) | (with_reducible refine le_drew ?_) | (with_reducible refine le_drawsN ?_) | (dsimp only; with_reducible refine le_bel ?_) | (dsimp only; with_reducible refine Nat.le_refl _) | (dsimp only; with_reducible refine le_bel_add ?_) | (with_reducible assumption) | omega | (dsimp only; omega))) : Below w.heap.size w (w.alloc (.cells #[.int .i64 6, .int .i64 0, .slice ad 0 cap] 26)))).trans hok2)
        clear hb2 hbl2 hok2
        dsimp only
        go_wp2
        go_end0
        exact ⟨⟨_, rfl⟩, HB2.out, HBL.out, HOK.out⟩
end Go.Proofs.YtkbellmhanpocaaGreatDoor
