/- The walk of FractionLists. -/
import Derived.Test.YtoncbkkhfblpdaaDoorI
import Derived.OwnWalk
namespace Go.Proofs.YtoncbkkhfblpdaaDoor
open Go.RowKit
attribute [local go_sem low] Bel.cell Bel.frozen alloc_cell alloc_frozen

theorem ownsRow_bel {W : World} {base : Nat} {e : TypeId} {size : Nat} {v : Value} {n : Nat} {xs : List Value} (x : Bel W) (h : W.ownsRow base e size v n xs) : x.w.ownsRow base e size v n xs := by
  obtain ⟨h1, h2⟩ := h
  refine ⟨h1, ?_⟩
  rcases h2 with h2 | ⟨g, cap, cur, hv, hg, hh, r⟩
  · exact .inl h2
  · have hlt : g < W.heap.size := by
      refine Nat.lt_of_not_le fun h => ?_
      rw [Array.getElem?_eq_none h] at hh
      cases hh
    exact .inr ⟨g, cap, cur, hv, hg, by rw [x.below.block g hlt]; exact hh, r⟩

theorem ownsRow_base {W : World} {base : Nat} {e : TypeId} {size : Nat} {v : Value} {n : Nat} {xs : List Value} (h : W.ownsRow base e size v n xs) (k : Nat) (hk : v.ownBlock = some k) : base ≤ k := by
  rcases h.2 with ⟨rfl, _⟩ | ⟨g, cap, cur, rfl, hg, _⟩
  · cases hk
  · cases hk
    exact hg

/-- The cells of a list of fractions. -/
def fl : List (Int × Int) → List Value
  | [] => []
  | (n, d) :: r => .int .i64 n :: .int .i64 d :: fl r
theorem fl_length : ∀ l : List (Int × Int), (fl l).length = l.length * 2
  | [] => rfl
  | (n, d) :: r => by rw [fl, List.length_cons, List.length_cons, fl_length r, List.length_cons]; omega
theorem fl_append : ∀ l r : List (Int × Int), fl (l ++ r) = fl l ++ fl r
  | [], r => rfl
  | (n, d) :: l, r => by rw [List.cons_append, fl, fl, fl_append l r]; rfl
theorem fl_get : ∀ (l : List (Int × Int)) (i : Nat) (n d : Int), l[i]? = some (n, d) → (fl l)[i * 2]? = some (.int .i64 n) ∧ (fl l)[i * 2 + 1]? = some (.int .i64 d)
  | [], i, n, d, h => by simp at h
  | (n', d') :: r, 0, n, d, h => by simp at h; obtain ⟨rfl, rfl⟩ := h; exact ⟨rfl, rfl⟩
  | (n', d') :: r, i + 1, n, d, h => by
    have := fl_get r i n d (by simpa using h)
    rw [fl, show (i + 1) * 2 = i * 2 + 1 + 1 by omega, show i * 2 + 1 + 1 + 1 = (i * 2 + 1) + 1 + 1 by omega]
    simpa using this

/-- The slice at block b holds these described fractions. -/
def Smalls (w : World) (b off : Nat) (xs : List (Int × Int)) : Prop :=
  ∀ (i : Nat) (n d : Int), xs[i]? = some (n, d) → w.cell? ⟨b, off + i * 2, none⟩ = some (.int .i16 n) ∧ w.cell? ⟨b, off + i * 2 + 1, none⟩ = some (.int .u8 d)
def mks (l : List (Int × Int)) : List (Int × Int) := l.map fun p => (smN p.1 p.2, smD p.1 p.2)
theorem mks_length (l : List (Int × Int)) : (mks l).length = l.length := by simp [mks]
theorem mks_right {l : List (Int × Int)} (h : ∀ p ∈ l, -32768 ≤ p.1 ∧ p.1 ≤ 32767 ∧ 0 ≤ p.2 ∧ p.2 ≤ 255) : ∀ p ∈ mks l, right p.1 p.2 = true := by
  intro p hp
  obtain ⟨q, hq, rfl⟩ := List.mem_map.1 hp
  obtain ⟨h1, h2, h3, h4⟩ := h q hq
  exact small_right _ _ h1 h2 h3 h4
theorem mks_take {l : List (Int × Int)} {k : Nat} {n d : Int} (h : l[k]? = some (n, d)) : (mks l).take (k + 1) = (mks l).take k ++ [(smN n d, smD n d)] := by
  rw [List.take_add_one, show (mks l)[k]? = some (smN n d, smD n d) by simp [mks, h]]
  rfl
theorem Tryd.info24 : (Tryd.prog.info? 24).map (fun i => (i.zero, i.size, i.bytes)) = some (some (.agg #[.int .i64 0, .int .i64 0]), 2, 16) := by kernel_rfl

theorem sum_own {w : World} {base : Nat} {v : Value} {xs : List (Int × Int)} (hl : xs.length ≤ 8) (hr : ∀ p ∈ xs, right p.1 p.2 = true) (h : w.ownsRow base 24 2 v xs.length (fl xs)) (W : World) (hb : Below w.heap.size w W) :
    Calls Tryd.prog 22 #[v] W (Ret (.tuple #[.agg #[.int .i64 (sumL 0 1 xs).1, .int .i64 (sumL 0 1 xs).2.1], .int .i64 (sumL 0 1 xs).2.2]) W) ∧
    Calls Tryd.prog 23 #[v] W (Ret (.tuple #[.agg #[.int .i64 (sumL 0 1 xs).1, .int .i64 (sumL 0 1 xs).2.1], .int .i64 (sumL 0 1 xs).2.2]) W) := by
  have h' := h
  rcases h.2 with ⟨rfl, hn⟩ | ⟨g, cap, cur, rfl, r⟩
  · obtain rfl : xs = [] := List.eq_nil_of_length_eq_zero hn
    exact ⟨sum_nil W, refsum_nil W⟩
  · have hf : Fracs W g 0 xs := by
      intro i n d hi
      obtain ⟨e1, e2⟩ := fl_get xs i n d hi
      have hlt := (List.getElem?_eq_some_iff.1 hi).1
      have c1 := h'.cellAt (i * 2) (by omega)
      have c2 := h'.cellAt (i * 2 + 1) (by omega)
      rw [e1] at c1
      rw [e2] at c2
      rw [Nat.zero_add]
      exact ⟨cell_carry hb c1, cell_carry hb c2⟩
    exact ⟨sum_any g 0 cap xs W hl hf hr, refsum_any g 0 cap xs W hl hf hr⟩

set_option maxHeartbeats 3200000 in
theorem fractionLists_some (b off cap : Nat) (l : List (Int × Int)) (w : World) (hT : Tab w) (hl : l.length ≤ 8) (hx : Smalls w b off l) (hr : ∀ p ∈ l, -32768 ≤ p.1 ∧ p.1 ≤ 32767 ∧ 0 ≤ p.2 ∧ p.2 ≤ 255) :
    Calls Tryd.prog 6 #[.slice (some ⟨b, off, none⟩) l.length cap] w (Ret (.bool true) w) := by
  have HT := Lib.hid hT
  have HX := Lib.hid hx
  have HR := Lib.hid hr
  clear hT hx hr
  obtain ⟨i0, hi, hz0, hz1, hz2⟩ := info_parts Tryd.info24
  go_enter Tryd.func6, Tryd.ntmps6
  go_wp2_with fail
  (with_reducible refine (known_any _ (HT.out.of (by (repeat' (first | (with_reducible exact Below.refl _ _) | (with_reducible exact Nat.le_refl _) | (with_reducible refine Below.bel ?_ ?_) | (with_reducible refine Below.alloc ?_ ?_ _) | (with_reducible refine Below.drew ?_) | (with_reducible refine Below.drawsN ?_ _) | (with_reducible refine Below.setCell ?_ ?_ _) | (with_reducible refine le_bel ?_) | (with_reducible refine le_alloc ?_) | (with_reducible refine le_setCell ?_) | (with_reducible refine le_drew ?_) | (with_reducible refine le_drawsN ?_) | (dsimp only; with_reducible refine le_bel ?_) | (dsimp only; with_reducible refine Nat.le_refl _) | (dsimp only; with_reducible refine le_bel_add ?_) | (with_reducible assumption) | omega | (dsimp only; omega)))))).mono ?_)
  rintro _ _ ⟨rfl, x1, rfl⟩
  go_wp2
  go_loopw [3, 4] (fun v i wr => ∃ k : Nat, k ≤ l.length ∧ i = .int .i64 (k : Int) ∧ wr.ownsRow w.heap.size 24 2 v k (fl ((mks l).take k)) ∧ Below w.heap.size w wr) (fun _ i _ => l.length - (intOf i).toNat)
  case atStart => exact ⟨0, by omega, rfl, World.ownsRow_nil _ _ _ _, by (repeat' (first | (with_reducible exact Below.refl _ _) | (with_reducible exact Nat.le_refl _) | (with_reducible refine Below.bel ?_ ?_) | (with_reducible refine Below.alloc ?_ ?_ _) | (with_reducible refine Below.drew ?_) | (with_reducible refine Below.drawsN ?_ _) | (with_reducible refine Below.setCell ?_ ?_ _) | (with_reducible refine le_bel ?_) | (with_reducible refine le_alloc ?_) | (with_reducible refine le_setCell ?_) | (with_reducible refine le_drew ?_) | (with_reducible refine le_drawsN ?_) | (dsimp only; with_reducible refine le_bel ?_) | (dsimp only; with_reducible refine Nat.le_refl _) | (dsimp only; with_reducible refine le_bel_add ?_) | (with_reducible assumption) | omega | (dsimp only; omega)))⟩
  case round =>
    obtain ⟨k, hk, rfl, hown, hb⟩ := hrel
    have hbs := hb.size
    by_cases hlt : k < l.length
    · obtain ⟨⟨n, d⟩, he⟩ : ∃ p, l[k]? = some p := ⟨_, List.getElem?_eq_getElem hlt⟩
      obtain ⟨hc1, hc2⟩ := HX.out k n d he
      have hc1 := cell_carry hb hc1
      have hc2 := cell_carry hb hc2
      obtain ⟨g1, g2, g3, g4⟩ := HR.out (n, d) (List.mem_of_getElem? he)
      dsimp only at g1 g2 g3 g4
      have HE := Lib.hid he
      clear he
      have HO := Lib.hid hown
      clear hown
      go_wp2_with fail
      (with_reducible refine (small_any _ _ _ g1 g2 g3 g4).mono ?_)
      rintro _ _ ⟨rfl, y, rfl⟩
      have hys := y.size_le
      go_wp2_with (at_builtin; refine wpList_append_own _ rfl _ _ 40 rfl w.heap.size 24 i0 (.agg #[.int .i64 0, .int .i64 0]) 2 16 Tryd.underlying40 hi hz0 hz1 hz2 rfl (by decide) _ _ _ rfl ((ownsRow_bel y HO.out).alloc _) ⟨y.w.heap.size, 0, none⟩ 1 1 [.int .i64 (smN n d), .int .i64 (smD n d)] rfl rfl ?c1 ?c2 ?c3 ?c4 ?c5 ?_)
      case c1 =>
        intro j u hj
        match j, hj with
        | 0, hj => simp at hj; subst hj; simp [Addr.add]
        | 1, hj => simp at hj; subst hj; simp [Addr.add]
      case c2 => intro u hu; simp at hu; rcases hu with rfl | rfl <;> rfl
      case c3 => unfold maxLen; omega
      case c4 => omega
      case c5 => simp; omega
      intro v' w1 hown' hgrow _
      have hb1 : Below w.heap.size w w1 := Below.grown (w := y.w.alloc (.cells #[.int .i64 (smN n d), .int .i64 (smD n d)] 24)) (by (repeat' (first | (with_reducible exact Below.refl _ _) | (with_reducible exact Nat.le_refl _) | (with_reducible refine Below.bel ?_ ?_) | (with_reducible refine Below.alloc ?_ ?_ _) | (with_reducible refine Below.drew ?_) | (with_reducible refine Below.drawsN ?_ _) | (with_reducible refine Below.setCell ?_ ?_ _) | (with_reducible refine le_bel ?_) | (with_reducible refine le_alloc ?_) | (with_reducible refine le_setCell ?_) | (with_reducible refine le_drew ?_) | (with_reducible refine le_drawsN ?_) | (dsimp only; with_reducible refine le_bel ?_) | (dsimp only; with_reducible refine Nat.le_refl _) | (dsimp only; with_reducible refine le_bel_add ?_) | (with_reducible assumption) | omega | (dsimp only; omega)))) hgrow (by simp; omega) (fun k hk => ownsRow_base HO.out k hk)
      have HW := Lib.hid hown'
      clear hown' hgrow
      go_wp2
      go_roundw
      case rel =>
        refine ⟨k + 1, by omega, by go_num, ?_, hb1⟩
        rw [mks_take HE.out, fl_append]
        exact HW.out
      case measure => simp [intOf]; omega
    · obtain rfl : k = l.length := by omega
      have h1 := hown
      rw [List.take_of_length_le (by rw [mks_length]; omega)] at h1
      have h2 : wr.ownsRow w.heap.size 24 2 u3 (mks l).length (fl (mks l)) := by rw [mks_length]; exact h1
      have HS := Lib.hid (fun W hW => sum_own (by rw [mks_length]; exact hl) (mks_right HR.out) h2 W hW)
      clear hown h1 h2
      go_wp2_with fail
      (with_reducible refine ((HS.out _ (by (repeat' (first | (with_reducible exact Below.refl _ _) | (with_reducible exact Nat.le_refl _) | (with_reducible refine Below.bel ?_ ?_) | (with_reducible refine Below.alloc ?_ ?_ _) | (with_reducible refine Below.drew ?_) | (with_reducible refine Below.drawsN ?_ _) | (with_reducible refine Below.setCell ?_ ?_ _) | (with_reducible refine le_bel ?_) | (with_reducible refine le_alloc ?_) | (with_reducible refine le_setCell ?_) | (with_reducible refine le_drew ?_) | (with_reducible refine le_drawsN ?_) | (dsimp only; with_reducible refine le_bel ?_) | (dsimp only; with_reducible refine Nat.le_refl _) | (dsimp only; with_reducible refine le_bel_add ?_) | (with_reducible assumption) | omega | (dsimp only; omega))))).1).mono ?_)
      rintro _ _ ⟨rfl, y1, rfl⟩
      go_wp2_with fail
      (with_reducible refine ((HS.out _ (by (repeat' (first | (with_reducible exact Below.refl _ _) | (with_reducible exact Nat.le_refl _) | (with_reducible refine Below.bel ?_ ?_) | (with_reducible refine Below.alloc ?_ ?_ _) | (with_reducible refine Below.drew ?_) | (with_reducible refine Below.drawsN ?_ _) | (with_reducible refine Below.setCell ?_ ?_ _) | (with_reducible refine le_bel ?_) | (with_reducible refine le_alloc ?_) | (with_reducible refine le_setCell ?_) | (with_reducible refine le_drew ?_) | (with_reducible refine le_drawsN ?_) | (dsimp only; with_reducible refine le_bel ?_) | (dsimp only; with_reducible refine Nat.le_refl _) | (dsimp only; with_reducible refine le_bel_add ?_) | (with_reducible assumption) | omega | (dsimp only; omega))))).2).mono ?_)
      rintro _ _ ⟨rfl, y2, rfl⟩
      generalize (sumL 0 1 (mks l)).1 = a1 at *
      generalize (sumL 0 1 (mks l)).2.1 = a2 at *
      generalize (sumL 0 1 (mks l)).2.2 = a3 at *
      go_wp2
      go_ret
      exact Ret.mk (by simp) (by (repeat' (first | (with_reducible exact Below.refl _ _) | (with_reducible exact Nat.le_refl _) | (with_reducible refine Below.bel ?_ ?_) | (with_reducible refine Below.alloc ?_ ?_ _) | (with_reducible refine Below.drew ?_) | (with_reducible refine Below.drawsN ?_ _) | (with_reducible refine Below.setCell ?_ ?_ _) | (with_reducible refine le_bel ?_) | (with_reducible refine le_alloc ?_) | (with_reducible refine le_setCell ?_) | (with_reducible refine le_drew ?_) | (with_reducible refine le_drawsN ?_) | (dsimp only; with_reducible refine le_bel ?_) | (dsimp only; with_reducible refine Nat.le_refl _) | (dsimp only; with_reducible refine le_bel_add ?_) | (with_reducible assumption) | omega | (dsimp only; omega))))

set_option maxHeartbeats 1600000 in
theorem fractionLists_long (b off len cap : Nat) (w : World) (hT : Tab w) (hl : 8 < len) :
    Calls Tryd.prog 6 #[.slice (some ⟨b, off, none⟩) len cap] w (Ret (.bool true) w) := by
  have HT := Lib.hid hT
  clear hT
  go_enter Tryd.func6, Tryd.ntmps6
  go_wp2_with fail
  (with_reducible refine (known_any _ (HT.out.of (by (repeat' (first | (with_reducible exact Below.refl _ _) | (with_reducible exact Nat.le_refl _) | (with_reducible refine Below.bel ?_ ?_) | (with_reducible refine Below.alloc ?_ ?_ _) | (with_reducible refine Below.drew ?_) | (with_reducible refine Below.drawsN ?_ _) | (with_reducible refine Below.setCell ?_ ?_ _) | (with_reducible refine le_bel ?_) | (with_reducible refine le_alloc ?_) | (with_reducible refine le_setCell ?_) | (with_reducible refine le_drew ?_) | (with_reducible refine le_drawsN ?_) | (dsimp only; with_reducible refine le_bel ?_) | (dsimp only; with_reducible refine Nat.le_refl _) | (dsimp only; with_reducible refine le_bel_add ?_) | (with_reducible assumption) | omega | (dsimp only; omega)))))).mono ?_)
  rintro _ _ ⟨rfl, x1, rfl⟩
  go_wp2_with fail
  (with_reducible refine (known_any _ (HT.out.of (by (repeat' (first | (with_reducible exact Below.refl _ _) | (with_reducible exact Nat.le_refl _) | (with_reducible refine Below.bel ?_ ?_) | (with_reducible refine Below.alloc ?_ ?_ _) | (with_reducible refine Below.drew ?_) | (with_reducible refine Below.drawsN ?_ _) | (with_reducible refine Below.setCell ?_ ?_ _) | (with_reducible refine le_bel ?_) | (with_reducible refine le_alloc ?_) | (with_reducible refine le_setCell ?_) | (with_reducible refine le_drew ?_) | (with_reducible refine le_drawsN ?_) | (dsimp only; with_reducible refine le_bel ?_) | (dsimp only; with_reducible refine Nat.le_refl _) | (dsimp only; with_reducible refine le_bel_add ?_) | (with_reducible assumption) | omega | (dsimp only; omega)))))).mono ?_)
  rintro _ _ ⟨rfl, x2, rfl⟩
  go_wp2
  go_ret
  exact Ret.mk (by rfl) (by (repeat' (first | (with_reducible exact Below.refl _ _) | (with_reducible exact Nat.le_refl _) | (with_reducible refine Below.bel ?_ ?_) | (with_reducible refine Below.alloc ?_ ?_ _) | (with_reducible refine Below.drew ?_) | (with_reducible refine Below.drawsN ?_ _) | (with_reducible refine Below.setCell ?_ ?_ _) | (with_reducible refine le_bel ?_) | (with_reducible refine le_alloc ?_) | (with_reducible refine le_setCell ?_) | (with_reducible refine le_drew ?_) | (with_reducible refine le_drawsN ?_) | (dsimp only; with_reducible refine le_bel ?_) | (dsimp only; with_reducible refine Nat.le_refl _) | (dsimp only; with_reducible refine le_bel_add ?_) | (with_reducible assumption) | omega | (dsimp only; omega))))

set_option maxHeartbeats 1600000 in
theorem fractionLists_nil (w : World) (hT : Tab w) : Calls Tryd.prog 6 #[.slice none 0 0] w (Ret (.bool true) w) := by
  have HT := Lib.hid hT
  clear hT
  go_enter Tryd.func6, Tryd.ntmps6
  go_wp2_with fail
  (with_reducible refine (known_any _ (HT.out.of (by (repeat' (first | (with_reducible exact Below.refl _ _) | (with_reducible exact Nat.le_refl _) | (with_reducible refine Below.bel ?_ ?_) | (with_reducible refine Below.alloc ?_ ?_ _) | (with_reducible refine Below.drew ?_) | (with_reducible refine Below.drawsN ?_ _) | (with_reducible refine Below.setCell ?_ ?_ _) | (with_reducible refine le_bel ?_) | (with_reducible refine le_alloc ?_) | (with_reducible refine le_setCell ?_) | (with_reducible refine le_drew ?_) | (with_reducible refine le_drawsN ?_) | (dsimp only; with_reducible refine le_bel ?_) | (dsimp only; with_reducible refine Nat.le_refl _) | (dsimp only; with_reducible refine le_bel_add ?_) | (with_reducible assumption) | omega | (dsimp only; omega)))))).mono ?_)
  rintro _ _ ⟨rfl, x1, rfl⟩
  go_wp2
  refine wp_loop_rounds 1 ?_
  rw [rounds_succ]
  go_wp2_with fail
  (with_reducible refine (sum_nil _).mono ?_)
  rintro _ _ ⟨rfl, y1, rfl⟩
  go_wp2_with fail
  (with_reducible refine (refsum_nil _).mono ?_)
  rintro _ _ ⟨rfl, y2, rfl⟩
  go_wp2
  go_ret
  exact Ret.mk (by simp) (by (repeat' (first | (with_reducible exact Below.refl _ _) | (with_reducible exact Nat.le_refl _) | (with_reducible refine Below.bel ?_ ?_) | (with_reducible refine Below.alloc ?_ ?_ _) | (with_reducible refine Below.drew ?_) | (with_reducible refine Below.drawsN ?_ _) | (with_reducible refine Below.setCell ?_ ?_ _) | (with_reducible refine le_bel ?_) | (with_reducible refine le_alloc ?_) | (with_reducible refine le_setCell ?_) | (with_reducible refine le_drew ?_) | (with_reducible refine le_drawsN ?_) | (dsimp only; with_reducible refine le_bel ?_) | (dsimp only; with_reducible refine Nat.le_refl _) | (dsimp only; with_reducible refine le_bel_add ?_) | (with_reducible assumption) | omega | (dsimp only; omega))))

set_option maxHeartbeats 1600000 in
theorem fractionLists_zero (a : Addr) (cap : Nat) (w : World) (hT : Tab w) : Calls Tryd.prog 6 #[.slice (some a) 0 cap] w (Ret (.bool true) w) := by
  have HT := Lib.hid hT
  clear hT
  go_enter Tryd.func6, Tryd.ntmps6
  go_wp2_with fail
  (with_reducible refine (known_any _ (HT.out.of (by (repeat' (first | (with_reducible exact Below.refl _ _) | (with_reducible exact Nat.le_refl _) | (with_reducible refine Below.bel ?_ ?_) | (with_reducible refine Below.alloc ?_ ?_ _) | (with_reducible refine Below.drew ?_) | (with_reducible refine Below.drawsN ?_ _) | (with_reducible refine Below.setCell ?_ ?_ _) | (with_reducible refine le_bel ?_) | (with_reducible refine le_alloc ?_) | (with_reducible refine le_setCell ?_) | (with_reducible refine le_drew ?_) | (with_reducible refine le_drawsN ?_) | (dsimp only; with_reducible refine le_bel ?_) | (dsimp only; with_reducible refine Nat.le_refl _) | (dsimp only; with_reducible refine le_bel_add ?_) | (with_reducible assumption) | omega | (dsimp only; omega)))))).mono ?_)
  rintro _ _ ⟨rfl, x1, rfl⟩
  go_wp2
  refine wp_loop_rounds 1 ?_
  rw [rounds_succ]
  go_wp2_with fail
  (with_reducible refine (sum_nil _).mono ?_)
  rintro _ _ ⟨rfl, y1, rfl⟩
  go_wp2_with fail
  (with_reducible refine (refsum_nil _).mono ?_)
  rintro _ _ ⟨rfl, y2, rfl⟩
  go_wp2
  go_ret
  exact Ret.mk (by simp) (by (repeat' (first | (with_reducible exact Below.refl _ _) | (with_reducible exact Nat.le_refl _) | (with_reducible refine Below.bel ?_ ?_) | (with_reducible refine Below.alloc ?_ ?_ _) | (with_reducible refine Below.drew ?_) | (with_reducible refine Below.drawsN ?_ _) | (with_reducible refine Below.setCell ?_ ?_ _) | (with_reducible refine le_bel ?_) | (with_reducible refine le_alloc ?_) | (with_reducible refine le_setCell ?_) | (with_reducible refine le_drew ?_) | (with_reducible refine le_drawsN ?_) | (dsimp only; with_reducible refine le_bel ?_) | (dsimp only; with_reducible refine Nat.le_refl _) | (dsimp only; with_reducible refine le_bel_add ?_) | (with_reducible assumption) | omega | (dsimp only; omega))))
end Go.Proofs.YtoncbkkhfblpdaaDoor
