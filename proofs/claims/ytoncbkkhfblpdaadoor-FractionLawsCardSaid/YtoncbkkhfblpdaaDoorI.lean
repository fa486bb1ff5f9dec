/- Sums of lists. -/
import Derived.Test.YtoncbkkhfblpdaaDoorH
import Derived.Test.YtoncbkkhfblpdaaDoorTail
import Derived.Deep.RegionHeld3
namespace Go.Proofs.YtoncbkkhfblpdaaDoor
open Go.RowKit
attribute [local go_sem] Bel.cell Bel.frozen
attribute [local go_sem low] alloc_cell alloc_frozen

/-- The sum of a list on top of a fraction: numerator, denominator, error. -/
def sumL : Int → Int → List (Int × Int) → Int × Int × Int
  | n, d, [] => (n, d, 0)
  | n, d, (m, e) :: r => if mk3 (n * e + m * d) (d * e) = 0 then sumL (mk1 (n * e + m * d) (d * e)) (mk2 (n * e + m * d) (d * e)) r else (0, 0, mk3 (n * e + m * d) (d * e))

/-- The slice at block b holds these fractions. -/
def Fracs (w : World) (b off : Nat) (xs : List (Int × Int)) : Prop :=
  ∀ (i : Nat) (n d : Int), xs[i]? = some (n, d) → w.cell? ⟨b, off + i * 2, none⟩ = some (.int .i64 n) ∧ w.cell? ⟨b, off + i * 2 + 1, none⟩ = some (.int .i64 d)

/-- Two cells of the call's own. -/
def Own2 (w : World) (B : Nat) (n d : Int) : Prop :=
  w.cell? ⟨B, 0, none⟩ = some (.int .i64 n) ∧ w.cell? ⟨B, 1, none⟩ = some (.int .i64 d) ∧ w.frozen? ⟨B, 0, none⟩ = false ∧ w.frozen? ⟨B, 1, none⟩ = false
theorem cell_carry {w wr : World} {p : Addr} {v : Value} (hb : Below w.heap.size w wr) (h : w.cell? p = some v) : wr.cell? p = some v := by
  rw [hb.cell (World.block_lt_of_cell? w p h), h]

theorem add_right {n d m e : Int} (h1 : right n d = true) (h2 : right m e = true) (h : mk3 (n * e + m * d) (d * e) = 0) : right (mk1 (n * e + m * d) (d * e)) (mk2 (n * e + m * d) (d * e)) = true := by
  obtain ⟨r1, _⟩ := right_spec h1
  obtain ⟨s1, _⟩ := right_spec h2
  have h0 : d * e ≠ 0 := by
    have := Int.mul_pos (show 0 < d by omega) (show 0 < e by omega)
    omega
  cases hf : fits (n * e + m * d) (d * e) with
  | true =>
    obtain ⟨e1, e2, _⟩ := mk_fit h0 hf
    rw [e1, e2]
    exact fits_right _ _ h0 hf
  | false =>
    rw [(mk_lim h0 hf).2.2] at h
    cases h
theorem ret3 {a b c a' b' c' : Int} (h1 : a = a') (h2 : b = b') (h3 : c = c') : Value.tuple #[.agg #[.int .i64 a, .int .i64 b], .int .i64 c] = .tuple #[.agg #[.int .i64 a', .int .i64 b'], .int .i64 c'] := by
  rw [h1, h2, h3]

set_option maxHeartbeats 1600000 in
theorem sum_any (b off cap : Nat) (xs : List (Int × Int)) (w : World) (hl : xs.length ≤ 8) (hx : Fracs w b off xs) (hr : ∀ p ∈ xs, right p.1 p.2 = true) :
    Calls Tryd.prog 22 #[.slice (some ⟨b, off, none⟩) xs.length cap] w (Ret (.tuple #[.agg #[.int .i64 (sumL 0 1 xs).1, .int .i64 (sumL 0 1 xs).2.1], .int .i64 (sumL 0 1 xs).2.2]) w) := by
  go_enter Tryd.func22, Tryd.ntmps22
  go_wp2
  go_loopw [14] (fun i wr => ∃ k : Nat, k ≤ xs.length ∧ i = .int .i64 (k : Int) ∧ ∃ x : Bel (w.alloc (.cells #[.int .i64 0, .int .i64 0] 24)), wr = x.w) (fun i _ => xs.length - (intOf i).toNat)
  case atStart => exact ⟨0, by omega, rfl, ⟨_, Below.refl _ _⟩, rfl⟩
  case round =>
    obtain ⟨k, hk, rfl, x, rfl⟩ := hrel
    by_cases hlt : k < xs.length
    · obtain ⟨⟨n, d⟩, he⟩ : ∃ p, xs[k]? = some p := ⟨_, List.getElem?_eq_getElem hlt⟩
      have hk1 := Lib.hid (chk_ok (hr (n, d) (List.mem_of_getElem? he)))
      obtain ⟨hc1, hc2⟩ := hx k n d he
      have HX := Lib.hid hx
      have HR := Lib.hid hr
      clear hx hr he
      go_wp2_with fail
      (with_reducible refine (check_any _ _ _).mono ?_)
      rintro _ _ ⟨rfl, y, rfl⟩
      rw [hk1.out]
      go_wp2
      go_roundw
      case rel => exact ⟨k + 1, by omega, by go_num, ⟨_, by (repeat' (first | (with_reducible exact Below.refl _ _) | (with_reducible exact Nat.le_refl _) | (with_reducible refine Below.bel ?_ ?_) | (with_reducible refine Below.alloc ?_ ?_ _) | (with_reducible refine Below.drew ?_) | (with_reducible refine Below.drawsN ?_ _) | (with_reducible refine Below.setCell ?_ ?_ _) | (with_reducible refine le_bel ?_) | (with_reducible refine le_alloc ?_) | (with_reducible refine le_setCell ?_) | (with_reducible refine le_drew ?_) | (with_reducible refine le_drawsN ?_) | (dsimp only; with_reducible refine le_bel ?_) | (dsimp only; with_reducible refine Nat.le_refl _) | (dsimp only; with_reducible refine le_bel_add ?_) | (with_reducible assumption) | omega | (dsimp only; omega)))⟩, rfl⟩
      case measure => simp [intOf]; omega
    · go_wp2
      have hB : w.heap.size < x.w.heap.size := by have := x.size_le; simp at this; omega
      go_loopw [28] (fun i wr => ∃ (k : Nat) (n d : Int), k ≤ xs.length ∧ i = .int .i64 (k : Int) ∧ right n d = true ∧ sumL n d (xs.drop k) = sumL 0 1 xs ∧ Own2 wr w.heap.size 0 0 ∧ Own2 wr x.w.heap.size n d ∧ Below w.heap.size w wr) (fun i _ => xs.length - (intOf i).toNat)
      case atStart =>
        refine ⟨0, 0, 1, by omega, rfl, by decide +kernel, rfl, ?_, ?_, by (repeat' (first | (with_reducible exact Below.refl _ _) | (with_reducible exact Nat.le_refl _) | (with_reducible refine Below.bel ?_ ?_) | (with_reducible refine Below.alloc ?_ ?_ _) | (with_reducible refine Below.drew ?_) | (with_reducible refine Below.drawsN ?_ _) | (with_reducible refine Below.setCell ?_ ?_ _) | (with_reducible refine le_bel ?_) | (with_reducible refine le_alloc ?_) | (with_reducible refine le_setCell ?_) | (with_reducible refine le_drew ?_) | (with_reducible refine le_drawsN ?_) | (dsimp only; with_reducible refine le_bel ?_) | (dsimp only; with_reducible refine Nat.le_refl _) | (dsimp only; with_reducible refine le_bel_add ?_) | (with_reducible assumption) | omega | (dsimp only; omega)))⟩
        · unfold Own2; simp [go_sem]
        · unfold Own2; simp [go_sem]
      case round =>
        obtain ⟨k, n, d, hk, rfl, hnd, hs, ⟨o1, o2, o3, o4⟩, ⟨s1, s2, s3, s4⟩, hb⟩ := hrel
        have hbs := hb.size
        by_cases hlt2 : k < xs.length
        · obtain ⟨⟨m, e⟩, he⟩ : ∃ p, xs[k]? = some p := ⟨_, List.getElem?_eq_getElem hlt2⟩
          have hme := Lib.hid (hr (m, e) (List.mem_of_getElem? he))
          obtain ⟨hc1, hc2⟩ := hx k m e he
          have hc1 := cell_carry hb hc1
          have hc2 := cell_carry hb hc2
          have HX := Lib.hid hx
          have HR := Lib.hid hr
          have hd : xs.drop k = (m, e) :: xs.drop (k + 1) := by
            rw [List.drop_eq_getElem_cons hlt2]
            have := List.getElem?_eq_getElem hlt2
            rw [he] at this
            rw [← Option.some.inj this]
          rw [hd] at hs
          have HS := Lib.hid hs
          have HN := Lib.hid hnd
          clear hx hr he hs hd hnd
          go_wp2_with fail
          (with_reducible refine (add_any _ _ _ _ _ HN.out hme.out).mono ?_)
          rintro _ _ ⟨rfl, y, rfl⟩
          have hst := HS.out
          have hrt := add_right HN.out hme.out
          rw [sumL] at hst
          generalize mk1 (n * e + m * d) (d * e) = a1 at *
          generalize mk2 (n * e + m * d) (d * e) = a2 at *
          generalize mk3 (n * e + m * d) (d * e) = a3 at *
          by_cases h3 : a3 = 0
          · have e3 : (a3 != 0) = false := by rw [h3]; rfl
            rw [if_pos h3] at hst
            have H1 := Lib.hid hst
            have H2 := Lib.hid (hrt h3)
            clear h3 hst hrt
            go_wp2
            go_roundw
            case rel =>
              refine ⟨k + 1, a1, a2, by omega, by go_num, H2.out, H1.out, ?_, ?_, by (repeat' (first | (with_reducible exact Below.refl _ _) | (with_reducible exact Nat.le_refl _) | (with_reducible refine Below.bel ?_ ?_) | (with_reducible refine Below.alloc ?_ ?_ _) | (with_reducible refine Below.drew ?_) | (with_reducible refine Below.drawsN ?_ _) | (with_reducible refine Below.setCell ?_ ?_ _) | (with_reducible refine le_bel ?_) | (with_reducible refine le_alloc ?_) | (with_reducible refine le_setCell ?_) | (with_reducible refine le_drew ?_) | (with_reducible refine le_drawsN ?_) | (dsimp only; with_reducible refine le_bel ?_) | (dsimp only; with_reducible refine Nat.le_refl _) | (dsimp only; with_reducible refine le_bel_add ?_) | (with_reducible assumption) | omega | (dsimp only; omega)))⟩
              · unfold Own2; simp [go_sem, o1, o2, o3, o4]
              · unfold Own2; simp [go_sem, s1, s2, s3, s4]
            case measure => simp [intOf]; omega
          · have e3 : (a3 != 0) = true := by rw [bne_iff_ne]; exact h3
            rw [if_neg h3] at hst
            have H1 := Lib.hid hst
            clear h3 hst hrt
            go_wp2
            refine bodyPost_ret (v := .tuple #[.agg #[.int .i64 0, .int .i64 0], .int .i64 a3]) (by simp [results, Tryd.results22, go_sem, o1, o2, o3, o4]) rfl (Ret.mk (by rw [← H1.out]) (by (repeat' (first | (with_reducible exact Below.refl _ _) | (with_reducible exact Nat.le_refl _) | (with_reducible refine Below.bel ?_ ?_) | (with_reducible refine Below.alloc ?_ ?_ _) | (with_reducible refine Below.drew ?_) | (with_reducible refine Below.drawsN ?_ _) | (with_reducible refine Below.setCell ?_ ?_ _) | (with_reducible refine le_bel ?_) | (with_reducible refine le_alloc ?_) | (with_reducible refine le_setCell ?_) | (with_reducible refine le_drew ?_) | (with_reducible refine le_drawsN ?_) | (dsimp only; with_reducible refine le_bel ?_) | (dsimp only; with_reducible refine Nat.le_refl _) | (dsimp only; with_reducible refine le_bel_add ?_) | (with_reducible assumption) | omega | (dsimp only; omega)))))
        · obtain rfl : k = xs.length := by omega
          have H1 := Lib.hid hs
          clear hs
          go_wp2
          refine bodyPost_ret (v := .tuple #[.agg #[.int .i64 n, .int .i64 d], .int .i64 0]) (by simp [results, Tryd.results22, go_sem, o1, o2, o3, o4, s1, s2]) rfl (Ret.mk (by rw [← H1.out, List.drop_length, sumL]) (by (repeat' (first | (with_reducible exact Below.refl _ _) | (with_reducible exact Nat.le_refl _) | (with_reducible refine Below.bel ?_ ?_) | (with_reducible refine Below.alloc ?_ ?_ _) | (with_reducible refine Below.drew ?_) | (with_reducible refine Below.drawsN ?_ _) | (with_reducible refine Below.setCell ?_ ?_ _) | (with_reducible refine le_bel ?_) | (with_reducible refine le_alloc ?_) | (with_reducible refine le_setCell ?_) | (with_reducible refine le_drew ?_) | (with_reducible refine le_drawsN ?_) | (dsimp only; with_reducible refine le_bel ?_) | (dsimp only; with_reducible refine Nat.le_refl _) | (dsimp only; with_reducible refine le_bel_add ?_) | (with_reducible assumption) | omega | (dsimp only; omega)))))

theorem sum_nil (w : World) : Calls Tryd.prog 22 #[.slice none 0 0] w (Ret (.tuple #[.agg #[.int .i64 0, .int .i64 1], .int .i64 0]) w) := by
  go_enter Tryd.func22, Tryd.ntmps22
  go_wp2
  refine wp_loop_rounds 1 ?_
  rw [rounds_succ]
  go_wp2
  refine wp_loop_rounds 1 ?_
  rw [rounds_succ]
  go_wp2
  refine bodyPost_ret (v := .tuple #[.agg #[.int .i64 0, .int .i64 1], .int .i64 0]) (by simp [results, Tryd.results22, go_sem]) rfl (Ret.mk (by rfl) (by (repeat' (first | (with_reducible exact Below.refl _ _) | (with_reducible exact Nat.le_refl _) | (with_reducible refine Below.bel ?_ ?_) | (with_reducible refine Below.alloc ?_ ?_ _) | (with_reducible refine Below.drew ?_) | (with_reducible refine Below.drawsN ?_ _) | (with_reducible refine Below.setCell ?_ ?_ _) | (with_reducible refine le_bel ?_) | (with_reducible refine le_alloc ?_) | (with_reducible refine le_setCell ?_) | (with_reducible refine le_drew ?_) | (with_reducible refine le_drawsN ?_) | (dsimp only; with_reducible refine le_bel ?_) | (dsimp only; with_reducible refine Nat.le_refl _) | (dsimp only; with_reducible refine le_bel_add ?_) | (with_reducible assumption) | omega | (dsimp only; omega)))))
theorem refsum_nil (w : World) : Calls Tryd.prog 23 #[.slice none 0 0] w (Ret (.tuple #[.agg #[.int .i64 0, .int .i64 1], .int .i64 0]) w) := by
  go_enter Tryd.func23, Tryd.ntmps23
  go_wp2
  refine wp_loop_rounds 1 ?_
  rw [rounds_succ]
  go_wp2
  refine wp_loop_rounds 1 ?_
  rw [rounds_succ]
  go_wp2
  refine bodyPost_ret (v := .tuple #[.agg #[.int .i64 0, .int .i64 1], .int .i64 0]) (by simp [results, Tryd.results23, go_sem]) rfl (Ret.mk (by rfl) (by (repeat' (first | (with_reducible exact Below.refl _ _) | (with_reducible exact Nat.le_refl _) | (with_reducible refine Below.bel ?_ ?_) | (with_reducible refine Below.alloc ?_ ?_ _) | (with_reducible refine Below.drew ?_) | (with_reducible refine Below.drawsN ?_ _) | (with_reducible refine Below.setCell ?_ ?_ _) | (with_reducible refine le_bel ?_) | (with_reducible refine le_alloc ?_) | (with_reducible refine le_setCell ?_) | (with_reducible refine le_drew ?_) | (with_reducible refine le_drawsN ?_) | (dsimp only; with_reducible refine le_bel ?_) | (dsimp only; with_reducible refine Nat.le_refl _) | (dsimp only; with_reducible refine le_bel_add ?_) | (with_reducible assumption) | omega | (dsimp only; omega)))))

set_option maxHeartbeats 1600000 in
theorem refsum_any (b off cap : Nat) (xs : List (Int × Int)) (w : World) (hl : xs.length ≤ 8) (hx : Fracs w b off xs) (hr : ∀ p ∈ xs, right p.1 p.2 = true) :
    Calls Tryd.prog 23 #[.slice (some ⟨b, off, none⟩) xs.length cap] w (Ret (.tuple #[.agg #[.int .i64 (sumL 0 1 xs).1, .int .i64 (sumL 0 1 xs).2.1], .int .i64 (sumL 0 1 xs).2.2]) w) := by
  go_enter Tryd.func23, Tryd.ntmps23
  go_wp2
  go_loopw [4] (fun i wr => ∃ k : Nat, k ≤ xs.length ∧ i = .int .i64 (k : Int) ∧ ∃ x : Bel (w.alloc (.cells #[.int .i64 0, .int .i64 0] 24)), wr = x.w) (fun i _ => xs.length - (intOf i).toNat)
  case atStart => exact ⟨0, by omega, rfl, ⟨_, Below.refl _ _⟩, rfl⟩
  case round =>
    obtain ⟨k, hk, rfl, x, rfl⟩ := hrel
    by_cases hlt : k < xs.length
    · obtain ⟨⟨n, d⟩, he⟩ : ∃ p, xs[k]? = some p := ⟨_, List.getElem?_eq_getElem hlt⟩
      have hk1 := Lib.hid (hr (n, d) (List.mem_of_getElem? he))
      obtain ⟨hc1, hc2⟩ := hx k n d he
      have HX := Lib.hid hx
      have HR := Lib.hid hr
      clear hx hr he
      go_wp2_with fail
      (with_reducible refine (right_any _ _ _).mono ?_)
      rintro _ _ ⟨rfl, y, rfl⟩
      rw [hk1.out]
      go_wp2
      go_roundw
      case rel => exact ⟨k + 1, by omega, by go_num, ⟨_, by (repeat' (first | (with_reducible exact Below.refl _ _) | (with_reducible exact Nat.le_refl _) | (with_reducible refine Below.bel ?_ ?_) | (with_reducible refine Below.alloc ?_ ?_ _) | (with_reducible refine Below.drew ?_) | (with_reducible refine Below.drawsN ?_ _) | (with_reducible refine Below.setCell ?_ ?_ _) | (with_reducible refine le_bel ?_) | (with_reducible refine le_alloc ?_) | (with_reducible refine le_setCell ?_) | (with_reducible refine le_drew ?_) | (with_reducible refine le_drawsN ?_) | (dsimp only; with_reducible refine le_bel ?_) | (dsimp only; with_reducible refine Nat.le_refl _) | (dsimp only; with_reducible refine le_bel_add ?_) | (with_reducible assumption) | omega | (dsimp only; omega)))⟩, rfl⟩
      case measure => simp [intOf]; omega
    · go_wp2
      have hB : w.heap.size < x.w.heap.size := by have := x.size_le; simp at this; omega
      go_loopw [6] (fun i wr => ∃ (k : Nat) (n d : Int), k ≤ xs.length ∧ i = .int .i64 (k : Int) ∧ right n d = true ∧ sumL n d (xs.drop k) = sumL 0 1 xs ∧ Own2 wr w.heap.size 0 0 ∧ Own2 wr x.w.heap.size n d ∧ Below w.heap.size w wr) (fun i _ => xs.length - (intOf i).toNat)
      case atStart =>
        refine ⟨0, 0, 1, by omega, rfl, by decide +kernel, rfl, ?_, ?_, by (repeat' (first | (with_reducible exact Below.refl _ _) | (with_reducible exact Nat.le_refl _) | (with_reducible refine Below.bel ?_ ?_) | (with_reducible refine Below.alloc ?_ ?_ _) | (with_reducible refine Below.drew ?_) | (with_reducible refine Below.drawsN ?_ _) | (with_reducible refine Below.setCell ?_ ?_ _) | (with_reducible refine le_bel ?_) | (with_reducible refine le_alloc ?_) | (with_reducible refine le_setCell ?_) | (with_reducible refine le_drew ?_) | (with_reducible refine le_drawsN ?_) | (dsimp only; with_reducible refine le_bel ?_) | (dsimp only; with_reducible refine Nat.le_refl _) | (dsimp only; with_reducible refine le_bel_add ?_) | (with_reducible assumption) | omega | (dsimp only; omega)))⟩
        · unfold Own2; simp [go_sem]
        · unfold Own2; simp [go_sem]
      case round =>
        obtain ⟨k, n, d, hk, rfl, hnd, hs, ⟨o1, o2, o3, o4⟩, ⟨s1, s2, s3, s4⟩, hb⟩ := hrel
        have hbs := hb.size
        by_cases hlt2 : k < xs.length
        · obtain ⟨⟨m, e⟩, he⟩ : ∃ p, xs[k]? = some p := ⟨_, List.getElem?_eq_getElem hlt2⟩
          have hme := Lib.hid (hr (m, e) (List.mem_of_getElem? he))
          obtain ⟨hc1, hc2⟩ := hx k m e he
          have hc1 := cell_carry hb hc1
          have hc2 := cell_carry hb hc2
          have HX := Lib.hid hx
          have HR := Lib.hid hr
          have hd : xs.drop k = (m, e) :: xs.drop (k + 1) := by
            rw [List.drop_eq_getElem_cons hlt2]
            have := List.getElem?_eq_getElem hlt2
            rw [he] at this
            rw [← Option.some.inj this]
          rw [hd] at hs
          have HS := Lib.hid hs
          have HN := Lib.hid hnd
          clear hx hr he hs hd hnd
          go_wp2_with fail
          have SK : Hid (∀ v : World, Below wr.heap.size wr v → v.cell? ⟨x.w.heap.size, 0, none⟩ = some (.int .i64 n) ∧ v.cell? ⟨x.w.heap.size, 1, none⟩ = some (.int .i64 d) ∧ v.cell? ⟨b, off + k * 2, none⟩ = some (.int .i64 m) ∧ v.cell? ⟨b, off + k * 2 + 1, none⟩ = some (.int .i64 e) ∧ Below wr.heap.size wr v) := fun v hv => ⟨cell_carry hv s1, cell_carry hv s2, cell_carry hv hc1, cell_carry hv hc2, hv⟩
          have hx1 : x.w.heap.size < wr.heap.size := World.block_lt_of_cell? wr _ s1
          go_region_held3 (fun v => v.cell? ⟨x.w.heap.size, 0, none⟩ = some (.int .i64 n) ∧ v.cell? ⟨x.w.heap.size, 1, none⟩ = some (.int .i64 d) ∧ v.cell? ⟨b, off + k * 2, none⟩ = some (.int .i64 m) ∧ v.cell? ⟨b, off + k * 2 + 1, none⟩ = some (.int .i64 e) ∧ Below wr.heap.size wr v) (exact SK.out _ (by (repeat' (first | (with_reducible exact Below.refl _ _) | (with_reducible exact Nat.le_refl _) | (with_reducible refine Below.bel ?_ ?_) | (with_reducible refine Below.alloc ?_ ?_ _) | (with_reducible refine Below.drew ?_) | (with_reducible refine Below.drawsN ?_ _) | (with_reducible refine Below.setCell ?_ ?_ _) | (with_reducible refine le_bel ?_) | (with_reducible refine le_alloc ?_) | (with_reducible refine le_setCell ?_) | (with_reducible refine le_drew ?_) | (with_reducible refine le_drawsN ?_) | (dsimp only; with_reducible refine le_bel ?_) | (dsimp only; with_reducible refine Nat.le_refl _) | (dsimp only; with_reducible refine le_bel_add ?_) | (with_reducible assumption) | omega | (dsimp only; omega))))) (first | (go_at_call 47; refine (refadd_any _ _ _ _ _ HN.out hme.out).mono ?_; rintro _ _ ⟨rfl, y, rfl⟩; have hy := y.size_le))
          all_goals
            have hst := HS.out
            have hrt := add_right HN.out hme.out
            rw [sumL] at hst
            generalize mk1 (n * e + m * d) (d * e) = a1 at *
            generalize mk2 (n * e + m * d) (d * e) = a2 at *
            generalize mk3 (n * e + m * d) (d * e) = a3 at *
            by_cases h3 : a3 = 0
            · have e3 : (a3 != 0) = false := by rw [h3]; rfl
              rw [if_pos h3] at hst
              have H1 := Lib.hid hst
              have H2 := Lib.hid (hrt h3)
              clear h3 hst hrt
              go_wp2
              go_roundw
              case rel =>
                refine ⟨k + 1, a1, a2, by omega, by go_num, H2.out, H1.out, ?_, ?_, by (repeat' (first | (with_reducible exact Below.refl _ _) | (with_reducible exact Nat.le_refl _) | (with_reducible refine Below.bel ?_ ?_) | (with_reducible refine Below.alloc ?_ ?_ _) | (with_reducible refine Below.drew ?_) | (with_reducible refine Below.drawsN ?_ _) | (with_reducible refine Below.setCell ?_ ?_ _) | (with_reducible refine le_bel ?_) | (with_reducible refine le_alloc ?_) | (with_reducible refine le_setCell ?_) | (with_reducible refine le_drew ?_) | (with_reducible refine le_drawsN ?_) | (dsimp only; with_reducible refine le_bel ?_) | (dsimp only; with_reducible refine Nat.le_refl _) | (dsimp only; with_reducible refine le_bel_add ?_) | (with_reducible assumption) | omega | (dsimp only; omega)))⟩
                · unfold Own2; simp [go_sem, o1, o2, o3, o4]
                · unfold Own2; simp [go_sem, s1, s2, s3, s4]
              case measure => simp [intOf]; omega
            · have e3 : (a3 != 0) = true := by rw [bne_iff_ne]; exact h3
              rw [if_neg h3] at hst
              have H1 := Lib.hid hst
              clear h3 hst hrt
              go_wp2
              refine bodyPost_ret (v := .tuple #[.agg #[.int .i64 0, .int .i64 0], .int .i64 a3]) (by simp [results, Tryd.results23, go_sem, o1, o2, o3, o4]) rfl (Ret.mk (by rw [← H1.out]) (by (repeat' (first | (with_reducible exact Below.refl _ _) | (with_reducible exact Nat.le_refl _) | (with_reducible refine Below.bel ?_ ?_) | (with_reducible refine Below.alloc ?_ ?_ _) | (with_reducible refine Below.drew ?_) | (with_reducible refine Below.drawsN ?_ _) | (with_reducible refine Below.setCell ?_ ?_ _) | (with_reducible refine le_bel ?_) | (with_reducible refine le_alloc ?_) | (with_reducible refine le_setCell ?_) | (with_reducible refine le_drew ?_) | (with_reducible refine le_drawsN ?_) | (dsimp only; with_reducible refine le_bel ?_) | (dsimp only; with_reducible refine Nat.le_refl _) | (dsimp only; with_reducible refine le_bel_add ?_) | (with_reducible assumption) | omega | (dsimp only; omega)))))
        · obtain rfl : k = xs.length := by omega
          have H1 := Lib.hid hs
          clear hs
          go_wp2
          refine bodyPost_ret (v := .tuple #[.agg #[.int .i64 n, .int .i64 d], .int .i64 0]) (by simp [results, Tryd.results23, go_sem, o1, o2, o3, o4, s1, s2]) rfl (Ret.mk (by rw [← H1.out, List.drop_length, sumL]) (by (repeat' (first | (with_reducible exact Below.refl _ _) | (with_reducible exact Nat.le_refl _) | (with_reducible refine Below.bel ?_ ?_) | (with_reducible refine Below.alloc ?_ ?_ _) | (with_reducible refine Below.drew ?_) | (with_reducible refine Below.drawsN ?_ _) | (with_reducible refine Below.setCell ?_ ?_ _) | (with_reducible refine le_bel ?_) | (with_reducible refine le_alloc ?_) | (with_reducible refine le_setCell ?_) | (with_reducible refine le_drew ?_) | (with_reducible refine le_drawsN ?_) | (dsimp only; with_reducible refine le_bel ?_) | (dsimp only; with_reducible refine Nat.le_refl _) | (dsimp only; with_reducible refine le_bel_add ?_) | (with_reducible assumption) | omega | (dsimp only; omega)))))
end Go.Proofs.YtoncbkkhfblpdaaDoor
