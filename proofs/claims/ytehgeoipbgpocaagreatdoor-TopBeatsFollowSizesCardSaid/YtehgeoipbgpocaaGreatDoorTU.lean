/- Beats: frequency, direction, beats. Beats: beats, and the three functions that are asked. Beats: Frequency, Direction, Beats. -/
import Derived.Test.YtehgeoipbgpocaaGreatDoorTQ
import Derived.Test.YtehgeoipbgpocaaGreatDoorTS
namespace Go.Proofs.YtehgeoipbgpocaaGreatDoor
set_option linter.unusedVariables false
set_option linter.unusedSimpArgs false
open Go.RowKit
attribute [local go_sem low] Bel.cell Bel.frozen alloc_cell alloc_frozen
attribute [local go_sem] calmOp chainOp yieldsC grows

def farO (o : Option Sz) : Prop := ∀ s, o = some s → far s
def RetF (c : Cir) (p n : Nat) (w : World) (e : Ending) (w' : World) : Prop := (∃ x : Bel w, w' = x.w) ∧ ((∃ er : Int, er ≠ 0 ∧ farO (btM c 69 n) ∧ e = .returned (.tuple #[.agg #[.int .i64 0, .int .i64 0], .int .i64 er])) ∨
  ∃ s lo hi, btM c 69 n = some s ∧ Bnd s lo hi ∧ e = .returned (.tuple #[.agg #[.int .i64 ((p : Int) * (lo : Nat)), .int .i64 ((p : Int) * (hi : Nat))], .int .i64 0]))
theorem RetF.no {c : Cir} {p n : Nat} {w w' : World} {er : Int} (h0 : er ≠ 0) (h : farO (btM c 69 n)) (hb : Below w.heap.size w w') : RetF c p n w (.returned (.tuple #[.agg #[.int .i64 0, .int .i64 0], .int .i64 er])) w' := ⟨⟨⟨w', hb⟩, rfl⟩, .inl ⟨er, h0, h, rfl⟩⟩
theorem RetF.yes {c : Cir} {p n : Nat} {w w' : World} {s : Sz} {lo hi : Nat} (h0 : btM c 69 n = some s) (h : Bnd s lo hi) (hb : Below w.heap.size w w') :
    RetF c p n w (.returned (.tuple #[.agg #[.int .i64 ((p : Int) * (lo : Nat)), .int .i64 ((p : Int) * (hi : Nat))], .int .i64 0])) w' := ⟨⟨⟨w', hb⟩, rfl⟩, .inr ⟨s, lo, hi, h0, h, rfl⟩⟩
theorem mul_bd0 {p n : Nat} (hp : p ≤ 1000) (hn : n ≤ 128000001) : 0 ≤ (p : Int) * (n : Int) ∧ (p : Int) * (n : Int) ≤ 128000001000 := by
  have h := Nat.mul_le_mul hp hn
  have e : (p : Int) * (n : Int) = ((p * n : Nat) : Int) := (Int.natCast_mul p n).symm
  omega
set_option maxRecDepth 100000 in
set_option maxHeartbeats 6400000 in
theorem frequency_any (c : Cir) (p n : Nat) (w : World) (hC : chkC c = 0) (hp : p ≤ 1000) (hn : n ≤ 127) (hT : I.Tab w) : Calls Tryz.prog 51 #[.agg (tunA c p), .int .i64 (n : Int)] w (RetF c p n w) := by
  have HT := Lib.hid hT
  have HB := Lib.hid (fun w' hT => tBetween_any c 69 n w' hC (by omega) (by omega) hT)
  rw [show cirV c = .agg (cirA c) from rfl, show ((69 : Nat) : Int) = 69 from rfl] at HB
  clear hT hC
  cases ho : btM c 69 n with
  | none =>
    have HF := Lib.hid (show farO (btM c 69 n) from fun s h => by rw [ho] at h; cases h)
    rw [ho, oV_none] at HB
    clear ho
    go_enter Tryz.func51, Tryz.ntmps51
    go_wp2_with (refine wpList_ldV rfl _ rfl _ rfl c p (obj_alloc _ (obj_new _ _)) ?_)
    (with_reducible refine (HB.out _ (HT.out.of (by (repeat' (first | (with_reducible first | apply Zl1 | apply Zl2 | apply Zl3 | apply Zl4 | apply Zl5 | apply Zl6 | apply Zl7 | apply Zl8 | apply Zl9 | apply Zla | apply Zlb | apply Zlc) | (dsimp only; with_reducible first | apply Zl8 | apply Zl2 | apply Zld) | with_reducible assumption | omega | (dsimp only; omega)))))).mono ?_)
    rintro _ _ ⟨rfl, x, rfl⟩
    have hxs := x.size_le
    dsimp only
    go_wp2
    refine bodyPost_ret (v := .tuple #[.agg #[.int .i64 0, .int .i64 0], .int .i64 4]) (by simp [results, Tryz.results51, go_sem]) rfl (RetF.no (by decide) HF.out (by (repeat' (first | (with_reducible first | apply Zl1 | apply Zl2 | apply Zl3 | apply Zl4 | apply Zl5 | apply Zl6 | apply Zl7 | apply Zl8 | apply Zl9 | apply Zla | apply Zlb | apply Zlc) | (dsimp only; with_reducible first | apply Zl8 | apply Zl2 | apply Zld) | with_reducible assumption | omega | (dsimp only; omega)))))
  | some s =>
    obtain ⟨_, _, _, _, hs, _⟩ := bt_val ho
    have HR := Lib.hid (fun w' hT => bRatio_any s w' hs hT)
    have HO := Lib.hid ho
    rw [ho, oV_some] at HB
    rw [szV] at HR
    clear ho hs
    go_enter Tryz.func51, Tryz.ntmps51
    go_wp2_with (refine wpList_ldV rfl _ rfl _ rfl c p (obj_alloc _ (obj_new _ _)) ?_)
    (with_reducible refine (HB.out _ (HT.out.of (by (repeat' (first | (with_reducible first | apply Zl1 | apply Zl2 | apply Zl3 | apply Zl4 | apply Zl5 | apply Zl6 | apply Zl7 | apply Zl8 | apply Zl9 | apply Zla | apply Zlb | apply Zlc) | (dsimp only; with_reducible first | apply Zl8 | apply Zl2 | apply Zld) | with_reducible assumption | omega | (dsimp only; omega)))))).mono ?_)
    rintro _ _ ⟨rfl, x, rfl⟩
    have hxs := x.size_le
    dsimp only
    go_wp2_with fail
    (with_reducible refine (HR.out _ (HT.out.of (by (repeat' (first | (with_reducible first | apply Zl1 | apply Zl2 | apply Zl3 | apply Zl4 | apply Zl5 | apply Zl6 | apply Zl7 | apply Zl8 | apply Zl9 | apply Zla | apply Zlb | apply Zlc) | (dsimp only; with_reducible first | apply Zl8 | apply Zl2 | apply Zld) | with_reducible assumption | omega | (dsimp only; omega)))))).mono ?_)
    rintro _ _ ⟨⟨y, rfl⟩, h⟩
    have hys := y.size_le
    have hc := tun_cell (show y.w.heap[w.heap.size]? = some (.cells (tunA c (p : Int)) 38) by
      repeat' (with_reducible first | exact obj_alloc _ (obj_new _ _) | exact obj_new _ _ | apply obj_bel | apply obj_alloc))
    rcases h with ⟨hf, rfl⟩ | ⟨lo, hi, hb, rfl⟩
    · have HF := Lib.hid (show farO (btM c 69 n) from fun s' h => by rw [HO.out] at h; injection h with h; subst h; exact hf)
      clear hf
      dsimp only
      go_wp2
      refine bodyPost_ret (v := .tuple #[.agg #[.int .i64 0, .int .i64 0], .int .i64 3]) (by simp [results, Tryz.results51, go_sem]) rfl (RetF.no (by decide) HF.out (by (repeat' (first | (with_reducible first | apply Zl1 | apply Zl2 | apply Zl3 | apply Zl4 | apply Zl5 | apply Zl6 | apply Zl7 | apply Zl8 | apply Zl9 | apply Zla | apply Zlb | apply Zlc) | (dsimp only; with_reducible first | apply Zl8 | apply Zl2 | apply Zld) | with_reducible assumption | omega | (dsimp only; omega)))))
    · obtain ⟨b1, b2⟩ := mul_bd0 hp (show lo ≤ 128000001 by have := hb.le; omega)
      obtain ⟨b3, b4⟩ := mul_bd0 hp (show hi ≤ 128000001 by have := hb.le; omega)
      have HBN := Lib.hid hb
      clear hb
      dsimp only
      go_wp2
      refine bodyPost_ret (v := .tuple #[.agg #[.int .i64 ((p : Int) * (lo : Nat)), .int .i64 ((p : Int) * (hi : Nat))], .int .i64 0]) (by simp [results, Tryz.results51, go_sem]) rfl (RetF.yes HO.out HBN.out (by (repeat' (first | (with_reducible first | apply Zl1 | apply Zl2 | apply Zl3 | apply Zl4 | apply Zl5 | apply Zl6 | apply Zl7 | apply Zl8 | apply Zl9 | apply Zla | apply Zlb | apply Zlc) | (dsimp only; with_reducible first | apply Zl8 | apply Zl2 | apply Zld) | with_reducible assumption | omega | (dsimp only; omega)))))

/-! ### direction -/
def dirD (m : Nat) (o : Option Sz) : Int := match o with
  | none => 0
  | some s => cmS s (puS m)
set_option maxRecDepth 100000 in
set_option maxHeartbeats 6400000 in
theorem direction_any (c : Cir) (p l m : Nat) (w : World) (hC : chkC c = 0) (hm : isP m) (hl : l + m ≤ 127) (hT : I.Tab w) :
    Calls Tryz.prog 46 #[.agg (tunA c p), .agg #[.int .i64 (l : Int), .int .i64 (m : Int)]] w (Ret (.tuple #[.int .i64 (dirD m (btM c l (l + m))), .int .i64 (oE (btM c l (l + m)))]) w) := by
  have HT := Lib.hid hT
  obtain ⟨hm1, hm2⟩ := isP_bd hm
  obtain ⟨u1, u2, hps, u3, u4, u5, u6⟩ := pu_all hm
  clear hps
  have HP := Lib.hid (fun w' => partials_ok m hm w')
  have HR := Lib.hid (fun w' => ratio_any (pI m) (qI m) w' (by omega) (by omega) (by omega) (by omega))
  rw [u1] at HR
  rw [show ratS (pI m) (qI m) = puS m from rfl] at HR
  obtain ⟨t, ht⟩ : ∃ t, l + m = t := ⟨_, rfl⟩
  have hlm : (l : Int) + (m : Int) = (t : Int) := by omega
  have HB := Lib.hid (fun w' hT => tBetween_any c l t w' hC (by omega) (by omega) hT)
  rw [show cirV c = .agg (cirA c) from rfl] at HB
  rw [ht]
  generalize (pI m : Int) = pp at *
  generalize (qI m : Int) = qq at *
  clear hT hC hm
  cases ho : btM c l t with
  | none =>
    rw [ho, oV_none] at HB
    generalize puS m = z at *
    rw [szV] at HR
    clear ho
    go_enter Tryz.func46, Tryz.ntmps46
    go_wp2_with fail
    (with_reducible refine (HP.out _).mono ?_)
    rintro _ _ ⟨rfl, x, rfl⟩
    have hxs := x.size_le
    go_wp2_with fail
    (with_reducible refine (HR.out _).mono ?_)
    rintro _ _ ⟨rfl, y, rfl⟩
    have hys := y.size_le
    have hob : y.w.heap[w.heap.size]? = some (.cells (tunA c (p : Int)) 38) := by
      repeat' (with_reducible first | exact obj_alloc _ (obj_new _ _) | exact obj_new _ _ | apply obj_bel | apply obj_alloc)
    have HOB := Lib.hid hob
    clear hob
    go_wp2_with (refine wpList_ldV rfl _ rfl _ rfl c p (obj_alloc _ HOB.out) ?_)
    (with_reducible refine (HB.out _ (HT.out.of (by (repeat' (first | (with_reducible first | apply Zl1 | apply Zl2 | apply Zl3 | apply Zl4 | apply Zl5 | apply Zl6 | apply Zl7 | apply Zl8 | apply Zl9 | apply Zla | apply Zlb | apply Zlc) | (dsimp only; with_reducible first | apply Zl8 | apply Zl2 | apply Zld) | with_reducible assumption | omega | (dsimp only; omega)))))).mono ?_)
    rintro _ _ ⟨rfl, v, rfl⟩
    have hvs := v.size_le
    dsimp only
    go_wp2
    refine bodyPost_ret (v := .tuple #[.int .i64 0, .int .i64 4]) (by simp [results, Tryz.results46, go_sem]) rfl (Ret.mk (by rfl) (by (repeat' (first | (with_reducible first | apply Zl1 | apply Zl2 | apply Zl3 | apply Zl4 | apply Zl5 | apply Zl6 | apply Zl7 | apply Zl8 | apply Zl9 | apply Zla | apply Zlb | apply Zlc) | (dsimp only; with_reducible first | apply Zl8 | apply Zl2 | apply Zld) | with_reducible assumption | omega | (dsimp only; omega)))))
  | some s =>
    obtain ⟨_, _, _, _, hs, _⟩ := bt_val ho
    have HC := Lib.hid (fun w' hT => cmp_oct hs u2 w' hT)
    rw [ho, oV_some] at HB
    rw [show dirD m (some s) = cmS s (puS m) from rfl, show oE (some s) = 0 from rfl]
    generalize puS m = z at *
    generalize cmS s z = r at *
    rw [szV] at HR
    simp only [szV] at HC
    clear ho hs
    go_enter Tryz.func46, Tryz.ntmps46
    go_wp2_with fail
    (with_reducible refine (HP.out _).mono ?_)
    rintro _ _ ⟨rfl, x, rfl⟩
    have hxs := x.size_le
    go_wp2_with fail
    (with_reducible refine (HR.out _).mono ?_)
    rintro _ _ ⟨rfl, y, rfl⟩
    have hys := y.size_le
    have hob : y.w.heap[w.heap.size]? = some (.cells (tunA c (p : Int)) 38) := by
      repeat' (with_reducible first | exact obj_alloc _ (obj_new _ _) | exact obj_new _ _ | apply obj_bel | apply obj_alloc)
    have HOB := Lib.hid hob
    clear hob
    go_wp2_with (refine wpList_ldV rfl _ rfl _ rfl c p (obj_alloc _ HOB.out) ?_)
    (with_reducible refine (HB.out _ (HT.out.of (by (repeat' (first | (with_reducible first | apply Zl1 | apply Zl2 | apply Zl3 | apply Zl4 | apply Zl5 | apply Zl6 | apply Zl7 | apply Zl8 | apply Zl9 | apply Zla | apply Zlb | apply Zlc) | (dsimp only; with_reducible first | apply Zl8 | apply Zl2 | apply Zld) | with_reducible assumption | omega | (dsimp only; omega)))))).mono ?_)
    rintro _ _ ⟨rfl, v, rfl⟩
    have hvs := v.size_le
    dsimp only
    go_wp2_with fail
    (with_reducible refine (HC.out _ (HT.out.of (by (repeat' (first | (with_reducible first | apply Zl1 | apply Zl2 | apply Zl3 | apply Zl4 | apply Zl5 | apply Zl6 | apply Zl7 | apply Zl8 | apply Zl9 | apply Zla | apply Zlb | apply Zlc) | (dsimp only; with_reducible first | apply Zl8 | apply Zl2 | apply Zld) | with_reducible assumption | omega | (dsimp only; omega)))))).mono ?_)
    rintro _ _ ⟨rfl, u, rfl⟩
    have hus := u.size_le
    dsimp only
    go_wp2
    refine bodyPost_ret (v := .tuple #[.int .i64 r, .int .i64 0]) (by simp [results, Tryz.results46, go_sem]) rfl (Ret.mk (by rfl) (by (repeat' (first | (with_reducible first | apply Zl1 | apply Zl2 | apply Zl3 | apply Zl4 | apply Zl5 | apply Zl6 | apply Zl7 | apply Zl8 | apply Zl9 | apply Zla | apply Zlb | apply Zlc) | (dsimp only; with_reducible first | apply Zl8 | apply Zl2 | apply Zld) | with_reducible assumption | omega | (dsimp only; omega)))))
end Go.Proofs.YtehgeoipbgpocaaGreatDoor

namespace Go.Proofs.YtehgeoipbgpocaaGreatDoor
set_option linter.unusedVariables false
set_option linter.unusedSimpArgs false
open Go.RowKit
attribute [local go_sem low] Bel.cell Bel.frozen alloc_cell alloc_frozen
attribute [local go_sem] calmOp chainOp yieldsC grows

def noB (c : Cir) (l m : Nat) : Prop := btM c l (l + m) = none ∨ farO (btM c 69 l) ∨ farO (btM c 69 (l + m))
def RetB (c : Cir) (p l m : Nat) (w : World) (e : Ending) (w' : World) : Prop := (∃ x : Bel w, w' = x.w) ∧ ((∃ er : Int, er ≠ 0 ∧ noB c l m ∧ e = .returned (.tuple #[.agg #[.int .i64 0, .int .i64 0], .int .i64 er])) ∨
  ∃ x y : Int, BtN c l m p x y ∧ e = .returned (.tuple #[.agg #[.int .i64 x, .int .i64 y], .int .i64 0]))
theorem RetB.no {c : Cir} {p l m : Nat} {w w' : World} {er : Int} (h0 : er ≠ 0) (h : noB c l m) (hb : Below w.heap.size w w') : RetB c p l m w (.returned (.tuple #[.agg #[.int .i64 0, .int .i64 0], .int .i64 er])) w' := ⟨⟨⟨w', hb⟩, rfl⟩, .inl ⟨er, h0, h, rfl⟩⟩
theorem RetB.yes {c : Cir} {p l m : Nat} {w w' : World} {x y : Int} (h : BtN c l m p x y) (hb : Below w.heap.size w w') : RetB c p l m w (.returned (.tuple #[.agg #[.int .i64 x, .int .i64 y], .int .i64 0])) w' := ⟨⟨⟨w', hb⟩, rfl⟩, .inr ⟨x, y, h, rfl⟩⟩
theorem pq_bd {m p n : Nat} {x : Int} (hm : isP m) (hx : x = pI m ∨ x = qI m) (hp : p ≤ 1000) (hn : n ≤ 128000001) : 0 ≤ x * ((p : Int) * (n : Int)) ∧ x * ((p : Int) * (n : Int)) ≤ 1024000008000 := by
  obtain ⟨_, _, _, h1, h2, h3, h4⟩ := pu_all hm
  obtain ⟨b1, b2⟩ := mul_bd0 hp hn
  have hx0 : 0 ≤ x ∧ x ≤ 8 := by rcases hx with rfl | rfl <;> omega
  refine ⟨Int.mul_nonneg hx0.1 b1, ?_⟩
  have := Int.mul_le_mul hx0.2 b2 b1 (by omega)
  omega
theorem cmS_three (s t : Sz) : cmS s t = 1 ∨ cmS s t = -1 ∨ (cmS s t ≠ 1 ∧ cmS s t ≠ -1) := by omega
theorem froz2 {w : World} {b : Nat} {x0 x1 : Value} {t : TypeId} (h : w.heap[b]? = some (.cells #[x0, x1] t)) : w.frozen? ⟨b, 0, none⟩ = false ∧ w.frozen? ⟨b, 1, none⟩ = false := ⟨(made_cell h 0).2, (made_cell h 1).2⟩
set_option maxRecDepth 100000 in
set_option maxHeartbeats 12800000 in
theorem beats_any (c : Cir) (p l m : Nat) (w : World) (hC : chkC c = 0) (hp : p ≤ 1000) (hm : isP m) (hl : l + m ≤ 127) (hT : I.Tab w) :
    Calls Tryz.prog 48 #[.agg (tunA c p), .agg #[.int .i64 (l : Int), .int .i64 (m : Int)]] w (RetB c p l m w) := by
  have HT := Lib.hid hT
  obtain ⟨hm1, hm2⟩ := isP_bd hm
  have HP := Lib.hid (fun w' => partials_ok m hm w')
  have HD := Lib.hid (fun w' hT => direction_any c p l m w' hC hm hl hT)
  have HFL := Lib.hid (fun w' hT => frequency_any c p l w' hC hp (by omega) hT)
  obtain ⟨t, ht⟩ : ∃ t, l + m = t := ⟨_, rfl⟩
  have HFU := Lib.hid (fun w' hT => frequency_any c p t w' hC hp (by omega) hT)
  have HNU := Lib.hid (fun hf : farO (btM c 69 t) => (show noB c l m from .inr (.inr (by rw [ht]; exact hf))))
  have HPB := Lib.hid (fun (x : Int) (n : Nat) (hx : x = pI m ∨ x = qI m) (hn : n ≤ 128000001) => pq_bd hm hx hp hn)
  have HM := Lib.hid hm
  have hlm : (l : Int) + (m : Int) = (t : Int) := by omega
  have HTT := Lib.hid ht
  clear ht
  clear hT hC hm
  cases ho : btM c l (l + m) with
  | none =>
    have HN := Lib.hid (show noB c l m from .inl ho)
    rw [ho] at HD
    rw [show dirD m none = 0 from rfl, show oE none = 4 from rfl] at HD
    clear ho
    generalize (pI m : Int) = pp at *
    generalize (qI m : Int) = qq at *
    go_enter Tryz.func48, Tryz.ntmps48
    go_wp2_with fail
    (with_reducible refine (HP.out _).mono ?_)
    rintro _ _ ⟨rfl, x, rfl⟩
    have hxs := x.size_le
    have hx0 : x.w.heap[w.heap.size]? = some (.cells (tunA c (p : Int)) 38) := obj_bel x (obj_alloc _ (obj_alloc _ (obj_new _ _)))
    have hx1 : x.w.heap[w.heap.size + 1]? = some (.cells #[.int .i64 (l : Int), .int .i64 (m : Int)] 29) := obj_bel x (obj_alloc _ (obj_new1 _ _ _))
    have hx2 : x.w.heap[w.heap.size + 2]? = some (.cells #[.int .i64 0, .int .i64 0] 53) := obj_bel x (obj_new2 _ _ _ _)
    have hxb : Below w.heap.size w x.w := by (repeat' (first | (with_reducible first | apply Zl1 | apply Zl2 | apply Zl3 | apply Zl4 | apply Zl5 | apply Zl6 | apply Zl7 | apply Zl8 | apply Zl9 | apply Zla | apply Zlb | apply Zlc) | (dsimp only; with_reducible first | apply Zl8 | apply Zl2 | apply Zld) | with_reducible assumption | omega | (dsimp only; omega)))
    obtain ⟨X, hX⟩ : ∃ X, x.w = X := ⟨_, rfl⟩
    rw [hX] at hx0 hx1 hx2 hxb
    rw [hX]
    clear hX hxs
    clear x
    have hXl := obj_lt hx2
    have HX0 := Lib.hid hx0
    have HX1 := Lib.hid hx1
    have HX2 := Lib.hid hx2
    clear hx0 hx1 hx2
    obtain ⟨c0, c1⟩ := cell2 HX1.out
    go_wp2_with (refine wpList_ldU rfl _ rfl _ rfl c p HX0.out ?_)
    (with_reducible refine (HD.out _ (HT.out.of (by (repeat' (first | (with_reducible first | apply Zl1 | apply Zl2 | apply Zl3 | apply Zl4 | apply Zl5 | apply Zl6 | apply Zl7 | apply Zl8 | apply Zl9 | apply Zla | apply Zlb | apply Zlc) | (dsimp only; with_reducible first | apply Zl8 | apply Zl2 | apply Zld) | with_reducible assumption | omega | (dsimp only; omega)))))).mono ?_)
    rintro _ _ ⟨rfl, y, rfl⟩
    have hys := y.size_le
    have HY0 := Lib.hid (obj_bel y HX0.out)
    have HY1 := Lib.hid (obj_bel y HX1.out)
    have HY2 := Lib.hid (obj_bel y HX2.out)
    clear c0 c1
    dsimp only
    obtain ⟨d0, d1⟩ := cell2 (HY2.out)
    obtain ⟨f0, f1⟩ := froz2 (HY2.out)
    go_wp2_with fail
    refine ret_obj (b := w.heap.size + 2) (vs := #[.int .i64 0, .int .i64 0]) (T := 53) (v := .tuple #[.agg #[.int .i64 0, .int .i64 0], .int .i64 4]) (obj_set (i := 1) _ (obj_set (i := 0) _ (HY2.out))) (fun W' hW' => ?_) rfl ?_
    · obtain ⟨a0, a1⟩ := cell2 hW'
      simp [results, Tryz.results48, go_sem, a0, a1]
    · exact RetB.no (by decide) HN.out (by (repeat' (first | (with_reducible first | apply Zl1 | apply Zl2 | apply Zl3 | apply Zl4 | apply Zl5 | apply Zl6 | apply Zl7 | apply Zl8 | apply Zl9 | apply Zla | apply Zlb | apply Zlc) | (dsimp only; with_reducible first | apply Zl8 | apply Zl2 | apply Zld) | with_reducible assumption | omega | (dsimp only; omega))))
  | some s =>
    have HO := Lib.hid ho
    rw [ho] at HD
    rw [show dirD m (some s) = cmS s (puS m) from rfl, show oE (some s) = 0 from rfl] at HD
    clear ho
    have HMKB := Lib.hid (fun (u v : Sz) (a b e f : Nat) (x y : Int) (h2 : btM c 69 t = some u) (h3 : btM c 69 l = some v) (b1 : Bnd u a b) (b2 : Bnd v e f) (hx : x = bLo (cmS s (puS m)) (pI m) (qI m) (p * a) (p * b) (p * e) (p * f)) (hy : y = bHi (cmS s (puS m)) (pI m) (qI m) (p * a) (p * b) (p * e) (p * f)) => (⟨⟨s, u, v, a, b, e, f, HO.out, by rw [HTT.out]; exact h2, h3, b1, b2, hx, hy⟩⟩ : BtN c l m p x y))
    generalize hpp : (pI m : Int) = pp at *
    generalize hqq : (qI m : Int) = qq at *
    have HPP := Lib.hid hpp.symm
    have HQQ := Lib.hid hqq.symm
    clear hpp hqq
    generalize cmS s (puS m) = d at *
    go_enter Tryz.func48, Tryz.ntmps48
    go_wp2_with fail
    (with_reducible refine (HP.out _).mono ?_)
    rintro _ _ ⟨rfl, x, rfl⟩
    have hxs := x.size_le
    have hx0 : x.w.heap[w.heap.size]? = some (.cells (tunA c (p : Int)) 38) := obj_bel x (obj_alloc _ (obj_alloc _ (obj_new _ _)))
    have hx1 : x.w.heap[w.heap.size + 1]? = some (.cells #[.int .i64 (l : Int), .int .i64 (m : Int)] 29) := obj_bel x (obj_alloc _ (obj_new1 _ _ _))
    have hx2 : x.w.heap[w.heap.size + 2]? = some (.cells #[.int .i64 0, .int .i64 0] 53) := obj_bel x (obj_new2 _ _ _ _)
    have hxb : Below w.heap.size w x.w := by (repeat' (first | (with_reducible first | apply Zl1 | apply Zl2 | apply Zl3 | apply Zl4 | apply Zl5 | apply Zl6 | apply Zl7 | apply Zl8 | apply Zl9 | apply Zla | apply Zlb | apply Zlc) | (dsimp only; with_reducible first | apply Zl8 | apply Zl2 | apply Zld) | with_reducible assumption | omega | (dsimp only; omega)))
    obtain ⟨X, hX⟩ : ∃ X, x.w = X := ⟨_, rfl⟩
    rw [hX] at hx0 hx1 hx2 hxb
    rw [hX]
    clear hX hxs
    clear x
    have hXl := obj_lt hx2
    have HX0 := Lib.hid hx0
    have HX1 := Lib.hid hx1
    have HX2 := Lib.hid hx2
    clear hx0 hx1 hx2
    obtain ⟨c0, c1⟩ := cell2 HX1.out
    go_wp2_with (refine wpList_ldU rfl _ rfl _ rfl c p HX0.out ?_)
    (with_reducible refine (HD.out _ (HT.out.of (by (repeat' (first | (with_reducible first | apply Zl1 | apply Zl2 | apply Zl3 | apply Zl4 | apply Zl5 | apply Zl6 | apply Zl7 | apply Zl8 | apply Zl9 | apply Zla | apply Zlb | apply Zlc) | (dsimp only; with_reducible first | apply Zl8 | apply Zl2 | apply Zld) | with_reducible assumption | omega | (dsimp only; omega)))))).mono ?_)
    rintro _ _ ⟨rfl, y, rfl⟩
    have hys := y.size_le
    have HY0 := Lib.hid (obj_bel y HX0.out)
    have HY1 := Lib.hid (obj_bel y HX1.out)
    have HY2 := Lib.hid (obj_bel y HX2.out)
    clear c0 c1
    dsimp only
    obtain ⟨c0, c1⟩ := cell2 HY1.out
    go_wp2_with (refine wpList_ldU rfl _ rfl _ rfl c p HY0.out ?_)
    (with_reducible refine (HFL.out _ (HT.out.of (by (repeat' (first | (with_reducible first | apply Zl1 | apply Zl2 | apply Zl3 | apply Zl4 | apply Zl5 | apply Zl6 | apply Zl7 | apply Zl8 | apply Zl9 | apply Zla | apply Zlb | apply Zlc) | (dsimp only; with_reducible first | apply Zl8 | apply Zl2 | apply Zld) | with_reducible assumption | omega | (dsimp only; omega)))))).mono ?_)
    rintro _ _ ⟨⟨z, rfl⟩, h⟩
    have hzs := z.size_le
    have HZ0 := Lib.hid (obj_bel z HY0.out)
    have HZ1 := Lib.hid (obj_bel z HY1.out)
    have HZ2 := Lib.hid (obj_bel z HY2.out)
    clear c0 c1
    rcases h with ⟨er, her, hf, rfl⟩ | ⟨sl, ll, lh, hsl, hbl, rfl⟩
    · have HN := Lib.hid (show noB c l m from .inr (.inl hf))
      have he0 : (er != 0) = true := by rw [bne_iff_ne]; exact her
      have HER := Lib.hid her
      clear hf her
      dsimp only
      obtain ⟨d0, d1⟩ := cell2 (HZ2.out)
      obtain ⟨f0, f1⟩ := froz2 (HZ2.out)
      go_wp2_with fail
      refine ret_obj (b := w.heap.size + 2) (vs := #[.int .i64 0, .int .i64 0]) (T := 53) (v := .tuple #[.agg #[.int .i64 0, .int .i64 0], .int .i64 er]) (obj_set (i := 1) _ (obj_set (i := 0) _ ((obj_alloc (.cells #[.int .i64 0, .int .i64 0] 53) HZ2.out)))) (fun W' hW' => ?_) rfl ?_
      · obtain ⟨a0, a1⟩ := cell2 hW'
        simp [results, Tryz.results48, go_sem, a0, a1]
      · exact RetB.no HER.out HN.out (by (repeat' (first | (with_reducible first | apply Zl1 | apply Zl2 | apply Zl3 | apply Zl4 | apply Zl5 | apply Zl6 | apply Zl7 | apply Zl8 | apply Zl9 | apply Zla | apply Zlb | apply Zlc) | (dsimp only; with_reducible first | apply Zl8 | apply Zl2 | apply Zld) | with_reducible assumption | omega | (dsimp only; omega))))
    · have HSL := Lib.hid hsl
      have HBL := Lib.hid hbl
      clear hsl hbl
      dsimp only
      obtain ⟨c0, c1⟩ := cell2 HZ1.out
      go_wp2_with (refine wpList_ldU rfl _ rfl _ rfl c p (obj_alloc _ HZ0.out) ?_)
      (with_reducible refine (HFU.out _ (HT.out.of (by (repeat' (first | (with_reducible first | apply Zl1 | apply Zl2 | apply Zl3 | apply Zl4 | apply Zl5 | apply Zl6 | apply Zl7 | apply Zl8 | apply Zl9 | apply Zla | apply Zlb | apply Zlc) | (dsimp only; with_reducible first | apply Zl8 | apply Zl2 | apply Zld) | with_reducible assumption | omega | (dsimp only; omega)))))).mono ?_)
      rintro _ _ ⟨⟨v, rfl⟩, h⟩
      have hvs := v.size_le
      have HV1 := Lib.hid (obj_bel v (obj_new z.w (.cells #[.int .i64 ((p : Int) * (ll : Nat)), .int .i64 ((p : Int) * (lh : Nat))] 53)))
      have HV2 := Lib.hid (obj_bel v (obj_alloc (.cells #[.int .i64 ((p : Int) * (ll : Nat)), .int .i64 ((p : Int) * (lh : Nat))] 53) HZ2.out))
      clear c0 c1
      rcases h with ⟨er, her, hf, rfl⟩ | ⟨su, ul, uh, hsu, hbu, rfl⟩
      · have HN := Lib.hid (HNU.out hf)
        have he0 : (er != 0) = true := by rw [bne_iff_ne]; exact her
        have HER := Lib.hid her
        clear hf her
        dsimp only
        obtain ⟨d0, d1⟩ := cell2 (HV2.out)
        obtain ⟨f0, f1⟩ := froz2 (HV2.out)
        go_wp2_with fail
        refine ret_obj (b := w.heap.size + 2) (vs := #[.int .i64 0, .int .i64 0]) (T := 53) (v := .tuple #[.agg #[.int .i64 0, .int .i64 0], .int .i64 er]) (obj_set (i := 1) _ (obj_set (i := 0) _ ((obj_alloc (.cells #[.int .i64 0, .int .i64 0] 53) HV2.out)))) (fun W' hW' => ?_) rfl ?_
        · obtain ⟨a0, a1⟩ := cell2 hW'
          simp [results, Tryz.results48, go_sem, a0, a1]
        · exact RetB.no HER.out HN.out (by (repeat' (first | (with_reducible first | apply Zl1 | apply Zl2 | apply Zl3 | apply Zl4 | apply Zl5 | apply Zl6 | apply Zl7 | apply Zl8 | apply Zl9 | apply Zla | apply Zlb | apply Zlc) | (dsimp only; with_reducible first | apply Zl8 | apply Zl2 | apply Zld) | with_reducible assumption | omega | (dsimp only; omega))))
      · have HSU := Lib.hid hsu
        have HBU := Lib.hid hbu
        have k1 := HPB.out pp ll (.inl rfl) (by have := HBL.out.le; omega)
        have k2 := HPB.out pp lh (.inl rfl) (by have := HBL.out.le; omega)
        have k3 := HPB.out qq ul (.inr rfl) (by have := HBU.out.le; omega)
        have k4 := HPB.out qq uh (.inr rfl) (by have := HBU.out.le; omega)
        have HFIN := Lib.hid (fun x y hx hy => HMKB.out su sl ul uh ll lh x y HSU.out HSL.out HBU.out HBL.out hx hy)
        clear hsu hbu
        dsimp only
        have k5 : (0 : Int) ≤ 1024000008000 := by decide
        obtain ⟨d0, d1⟩ := cell2 HV2.out
        obtain ⟨f0, f1⟩ := froz2 HV2.out
        obtain ⟨g0, g1⟩ := cell2 HV1.out
        generalize (p : Int) * (ll : Nat) = ell at *
        generalize (p : Int) * (lh : Nat) = elh at *
        generalize (p : Int) * (ul : Nat) = eul at *
        generalize (p : Int) * (uh : Nat) = euh at *
        generalize h1 : pp * ell = t1 at *
        generalize h2 : pp * elh = t2 at *
        generalize h3 : qq * eul = t3 at *
        generalize h4 : qq * euh = t4 at *
        have H1 := Lib.hid h1
        have H2 := Lib.hid h2
        have H3 := Lib.hid h3
        have H4 := Lib.hid h4
        by_cases hd1 : d = 1
        · subst hd1
          go_wp2_with fail
          refine ret_obj (b := w.heap.size + 2) (vs := #[.int .i64 (max 0 (t3 - t2)), .int .i64 (t4 - t1)]) (T := 53) (v := .tuple #[.agg #[.int .i64 (max 0 (t3 - t2)), .int .i64 (t4 - t1)], .int .i64 0]) (obj_set (i := 1) _ (obj_set (i := 0) _ (obj_alloc (.cells #[.int .i64 eul, .int .i64 euh] 53) HV2.out))) (fun W' hW' => ?_) rfl ?_
          · obtain ⟨a0, a1⟩ := cell2 hW'
            simp [results, Tryz.results48, go_sem, a0, a1]
          · exact RetB.yes (HFIN.out (max 0 (t3 - t2)) (t4 - t1) (by unfold bLo; (rw [if_pos rfl]; simp only [H1.out, H2.out, H3.out, H4.out])) (by unfold bHi; (rw [if_pos rfl]; simp only [H1.out, H2.out, H3.out, H4.out]))) (by (repeat' (first | (with_reducible first | apply Zl1 | apply Zl2 | apply Zl3 | apply Zl4 | apply Zl5 | apply Zl6 | apply Zl7 | apply Zl8 | apply Zl9 | apply Zla | apply Zlb | apply Zlc) | (dsimp only; with_reducible first | apply Zl8 | apply Zl2 | apply Zld) | with_reducible assumption | omega | (dsimp only; omega))))
        · by_cases hd2 : d = -1
          · subst hd2
            go_wp2_with fail
            refine ret_obj (b := w.heap.size + 2) (vs := #[.int .i64 (max 0 (t1 - t4)), .int .i64 (t2 - t3)]) (T := 53) (v := .tuple #[.agg #[.int .i64 (max 0 (t1 - t4)), .int .i64 (t2 - t3)], .int .i64 0]) (obj_set (i := 1) _ (obj_set (i := 0) _ (obj_alloc (.cells #[.int .i64 eul, .int .i64 euh] 53) HV2.out))) (fun W' hW' => ?_) rfl ?_
            · obtain ⟨a0, a1⟩ := cell2 hW'
              simp [results, Tryz.results48, go_sem, a0, a1]
            · exact RetB.yes (HFIN.out (max 0 (t1 - t4)) (t2 - t3) (by unfold bLo; (rw [if_neg (by decide), if_pos rfl]; simp only [H1.out, H2.out, H3.out, H4.out])) (by unfold bHi; (rw [if_neg (by decide), if_pos rfl]; simp only [H1.out, H2.out, H3.out, H4.out]))) (by (repeat' (first | (with_reducible first | apply Zl1 | apply Zl2 | apply Zl3 | apply Zl4 | apply Zl5 | apply Zl6 | apply Zl7 | apply Zl8 | apply Zl9 | apply Zla | apply Zlb | apply Zlc) | (dsimp only; with_reducible first | apply Zl8 | apply Zl2 | apply Zld) | with_reducible assumption | omega | (dsimp only; omega))))
          · have e1 : (d == 1) = false := by rw [beq_eq_false_iff_ne]; exact hd1
            have e2 : (d == -1) = false := by rw [beq_eq_false_iff_ne]; exact hd2
            have HD1 := Lib.hid hd1
            have HD2 := Lib.hid hd2
            clear hd1 hd2
            go_wp2_with fail
            refine ret_obj (b := w.heap.size + 2) (vs := #[.int .i64 0, .int .i64 0]) (T := 53) (v := .tuple #[.agg #[.int .i64 0, .int .i64 0], .int .i64 0]) (obj_set (i := 1) _ (obj_set (i := 0) _ (obj_alloc (.cells #[.int .i64 eul, .int .i64 euh] 53) HV2.out))) (fun W' hW' => ?_) rfl ?_
            · obtain ⟨a0, a1⟩ := cell2 hW'
              simp [results, Tryz.results48, go_sem, a0, a1]
            · exact RetB.yes (HFIN.out 0 0 (by unfold bLo; (rw [if_neg HD1.out, if_neg HD2.out])) (by unfold bHi; (rw [if_neg HD1.out, if_neg HD2.out]))) (by (repeat' (first | (with_reducible first | apply Zl1 | apply Zl2 | apply Zl3 | apply Zl4 | apply Zl5 | apply Zl6 | apply Zl7 | apply Zl8 | apply Zl9 | apply Zla | apply Zlb | apply Zlc) | (dsimp only; with_reducible first | apply Zl8 | apply Zl2 | apply Zld) | with_reducible assumption | omega | (dsimp only; omega))))
end Go.Proofs.YtehgeoipbgpocaaGreatDoor

namespace Go.Proofs.YtehgeoipbgpocaaGreatDoor
set_option linter.unusedVariables false
set_option linter.unusedSimpArgs false
open Go.RowKit
attribute [local go_sem low] Bel.cell Bel.frozen alloc_cell alloc_frozen
attribute [local go_sem] calmOp chainOp yieldsC grows

set_option maxRecDepth 100000 in
set_option maxHeartbeats 6400000 in
theorem aFrequency_any (c : Cir) (p n : Nat) (w : World) (hC : chkC c = 0) (hp0 : 1 ≤ p) (hp : p ≤ 1000) (hn : n ≤ 127) (hT : I.Tab w) : Calls Tryz.prog 15 #[.agg (tunA c p), .int .i64 (n : Int)] w (RetF c p n w) := by
  have HT := Lib.hid hT
  have HCK := Lib.hid (fun w' => bCheck_any c (p : Int) w' hC (by omega) (by omega))
  have HN := Lib.hid (fun w' => note_yes (n : Int) w' (by omega) (by omega))
  have HF := Lib.hid (fun w' hT => frequency_any c p n w' hC hp hn hT)
  clear hT hC
  go_enter Tryz.func15, Tryz.ntmps15
  go_wp2_with (refine wpList_ldU rfl _ rfl _ rfl c p (obj_alloc _ (obj_new _ _)) ?_)
  (with_reducible refine (HCK.out _).mono ?_)
  rintro _ _ ⟨rfl, x, rfl⟩
  have hxs := x.size_le
  go_wp2_with fail
  (with_reducible refine (HN.out _).mono ?_)
  rintro _ _ ⟨rfl, y, rfl⟩
  have hys := y.size_le
  have hy0 : y.w.heap[w.heap.size]? = some (.cells (tunA c (p : Int)) 38) := obj_bel y (obj_bel x (obj_alloc _ (obj_new _ _)))
  have hy1 : y.w.heap[w.heap.size + 1]? = some (.cells #[.int .i64 0, .int .i64 0] 53) := obj_bel y (obj_bel x (obj_new1 _ _ _))
  have HY0 := Lib.hid hy0
  have HY1 := Lib.hid hy1
  have hyl := obj_lt hy1
  clear hy0 hy1
  go_wp2_with (refine wpList_ldU rfl _ rfl _ rfl c p HY0.out ?_)
  (with_reducible refine (HF.out _ (HT.out.of (by (repeat' (first | (with_reducible first | apply Zl1 | apply Zl2 | apply Zl3 | apply Zl4 | apply Zl5 | apply Zl6 | apply Zl7 | apply Zl8 | apply Zl9 | apply Zla | apply Zlb | apply Zlc) | (dsimp only; with_reducible first | apply Zl8 | apply Zl2 | apply Zld) | with_reducible assumption | omega | (dsimp only; omega)))))).mono ?_)
  rintro _ _ ⟨⟨z, rfl⟩, h⟩
  have hzs := z.size_le
  have HZ1 := Lib.hid (obj_bel z HY1.out)
  obtain ⟨d0, d1⟩ := cell2 HZ1.out
  obtain ⟨f0, f1⟩ := froz2 HZ1.out
  rcases h with ⟨er, her, hf, rfl⟩ | ⟨s, lo, hi, hs, hb, rfl⟩
  · have HA := Lib.hid her
    have HB := Lib.hid hf
    clear her hf
    dsimp only
    go_wp2_with fail
    refine ret_obj (b := w.heap.size + 1) (vs := #[.int .i64 0, .int .i64 0]) (T := 53) (v := .tuple #[.agg #[.int .i64 0, .int .i64 0], .int .i64 er]) (obj_set (i := 1) _ (obj_set (i := 0) _ HZ1.out)) (fun W' hW' => ?_) rfl ?_
    · obtain ⟨a0, a1⟩ := cell2 hW'
      simp [results, Tryz.results15, go_sem, a0, a1]
    · exact (RetF.no HA.out HB.out (by (repeat' (first | (with_reducible first | apply Zl1 | apply Zl2 | apply Zl3 | apply Zl4 | apply Zl5 | apply Zl6 | apply Zl7 | apply Zl8 | apply Zl9 | apply Zla | apply Zlb | apply Zlc) | (dsimp only; with_reducible first | apply Zl8 | apply Zl2 | apply Zld) | with_reducible assumption | omega | (dsimp only; omega)))))
  · have HA := Lib.hid hs
    have HB := Lib.hid hb
    clear hs hb
    dsimp only
    go_wp2_with fail
    refine ret_obj (b := w.heap.size + 1) (vs := #[.int .i64 ((p : Int) * (lo : Nat)), .int .i64 ((p : Int) * (hi : Nat))]) (T := 53) (v := .tuple #[.agg #[.int .i64 ((p : Int) * (lo : Nat)), .int .i64 ((p : Int) * (hi : Nat))], .int .i64 0]) (obj_set (i := 1) _ (obj_set (i := 0) _ HZ1.out)) (fun W' hW' => ?_) rfl ?_
    · obtain ⟨a0, a1⟩ := cell2 hW'
      simp [results, Tryz.results15, go_sem, a0, a1]
    · exact (RetF.yes HA.out HB.out (by (repeat' (first | (with_reducible first | apply Zl1 | apply Zl2 | apply Zl3 | apply Zl4 | apply Zl5 | apply Zl6 | apply Zl7 | apply Zl8 | apply Zl9 | apply Zla | apply Zlb | apply Zlc) | (dsimp only; with_reducible first | apply Zl8 | apply Zl2 | apply Zld) | with_reducible assumption | omega | (dsimp only; omega)))))

set_option maxRecDepth 100000 in
set_option maxHeartbeats 6400000 in
theorem aDirection_any (c : Cir) (p l m : Nat) (w : World) (hC : chkC c = 0) (hp0 : 1 ≤ p) (hp : p ≤ 1000) (hm : isP m) (hl : l + m ≤ 127) (hT : I.Tab w) :
    Calls Tryz.prog 13 #[.agg (tunA c p), .agg #[.int .i64 (l : Int), .int .i64 (m : Int)]] w (Ret (.tuple #[.int .i64 (dirD m (btM c l (l + m))), .int .i64 (oE (btM c l (l + m)))]) w) := by
  have HT := Lib.hid hT
  have HCK := Lib.hid (fun B w' hB => ucheck_ok c (p : Int) l m B w' hC (by omega) (by omega) hm hl hB)
  have HD := Lib.hid (fun w' hT => direction_any c p l m w' hC hm hl hT)
  generalize dirD m (btM c l (l + m)) = d at *
  generalize oE (btM c l (l + m)) = e at *
  clear hT hC hm
  go_enter Tryz.func13, Tryz.ntmps13
  go_wp2_with (refine wpList_ldU rfl _ rfl _ rfl c p (obj_alloc _ (obj_new _ _)) ?_)
  (with_reducible refine (HCK.out (w.heap.size + 1 + 1) _ (obj_new2 _ _ _ _)).mono ?_)
  rintro _ _ ⟨rfl, x, rfl⟩
  have hxs := x.size_le
  have hx0 : x.w.heap[w.heap.size]? = some (.cells (tunA c (p : Int)) 38) := obj_bel x (obj_alloc _ (obj_alloc _ (obj_new _ _)))
  have HX0 := Lib.hid hx0
  clear hx0
  go_wp2_with (refine wpList_ldU rfl _ rfl _ rfl c p HX0.out ?_)
  (with_reducible refine (HD.out _ (HT.out.of (by (repeat' (first | (with_reducible first | apply Zl1 | apply Zl2 | apply Zl3 | apply Zl4 | apply Zl5 | apply Zl6 | apply Zl7 | apply Zl8 | apply Zl9 | apply Zla | apply Zlb | apply Zlc) | (dsimp only; with_reducible first | apply Zl8 | apply Zl2 | apply Zld) | with_reducible assumption | omega | (dsimp only; omega)))))).mono ?_)
  rintro _ _ ⟨rfl, y, rfl⟩
  have hys := y.size_le
  dsimp only
  go_wp2
  refine bodyPost_ret (v := .tuple #[.int .i64 d, .int .i64 e]) (by simp [results, Tryz.results13, go_sem]) rfl (Ret.mk (by rfl) (by (repeat' (first | (with_reducible first | apply Zl1 | apply Zl2 | apply Zl3 | apply Zl4 | apply Zl5 | apply Zl6 | apply Zl7 | apply Zl8 | apply Zl9 | apply Zla | apply Zlb | apply Zlc) | (dsimp only; with_reducible first | apply Zl8 | apply Zl2 | apply Zld) | with_reducible assumption | omega | (dsimp only; omega)))))

theorem szE_no {c : Cir} {l m : Nat} (h : szE c l m ≠ 0) : noB c l m := by
  unfold noB
  cases h1 : btM c l (l + m) with
  | none => exact .inl rfl
  | some s =>
    cases h2 : btM c 69 l with
    | none => exact .inr (.inl fun s h => by cases h)
    | some t =>
      cases h3 : btM c 69 (l + m) with
      | none => exact .inr (.inr fun s h => by cases h)
      | some u => exact absurd (szE_0 (by rw [h1]; rfl) (by rw [h2]; rfl) (by rw [h3]; rfl)) h
theorem szE_val (c : Cir) (l m : Nat) : szE c l m = 0 ∨ szE c l m = 4 := by
  unfold szE
  split
  · exact .inl rfl
  · exact .inr rfl
set_option maxRecDepth 100000 in
set_option maxHeartbeats 6400000 in
theorem aBeats_any (c : Cir) (p l m : Nat) (w : World) (hC : chkC c = 0) (hp0 : 1 ≤ p) (hp : p ≤ 1000) (hm : isP m) (hl : l + m ≤ 127) (hT : I.Tab w) :
    Calls Tryz.prog 14 #[.agg (tunA c p), .agg #[.int .i64 (l : Int), .int .i64 (m : Int)]] w (RetB c p l m w) := by
  have HT := Lib.hid hT
  have HCK := Lib.hid (fun B w' hB => ucheck_ok c (p : Int) l m B w' hC (by omega) (by omega) hm hl hB)
  have HSZ := Lib.hid (fun B w' hB hT => sizes_any c (p : Int) l m B w' hC hm hl hB hT)
  have HBT := Lib.hid (fun w' hT => beats_any c p l m w' hC hp hm hl hT)
  have HNO := Lib.hid (@szE_no c l m)
  have hv := szE_val c l m
  generalize szE c l m = E at *
  clear hT hC hm
  go_enter Tryz.func14, Tryz.ntmps14
  go_wp2_with (refine wpList_ldU rfl _ rfl _ rfl c p (obj_alloc _ (obj_alloc _ (obj_new _ _))) ?_)
  (with_reducible refine (HCK.out (w.heap.size + 1 + 1 + 1) _ (obj_new3 _ _ _ _ _)).mono ?_)
  rintro _ _ ⟨rfl, x, rfl⟩
  have hxs := x.size_le
  have hx0 : x.w.heap[w.heap.size]? = some (.cells (tunA c (p : Int)) 38) := obj_bel x (obj_alloc _ (obj_alloc _ (obj_alloc _ (obj_new _ _))))
  have hx1 : x.w.heap[w.heap.size + 1]? = some (.cells #[.int .i64 (l : Int), .int .i64 (m : Int)] 29) := obj_bel x (obj_alloc _ (obj_alloc _ (obj_new1 _ _ _)))
  have hx2 : x.w.heap[w.heap.size + 2]? = some (.cells #[.int .i64 0, .int .i64 0] 53) := obj_bel x (obj_alloc _ (obj_new2 _ _ _ _))
  have hxl := obj_lt hx2
  have HX0 := Lib.hid hx0
  have HX1 := Lib.hid hx1
  have HX2 := Lib.hid hx2
  clear hx0 hx1 hx2
  obtain ⟨c0, c1⟩ := cell2 HX1.out
  go_wp2_with (refine wpList_ldU rfl _ rfl _ rfl c p HX0.out ?_)
  (with_reducible refine (HSZ.out _ _ (obj_new _ _) (HT.out.of (by (repeat' (first | (with_reducible first | apply Zl1 | apply Zl2 | apply Zl3 | apply Zl4 | apply Zl5 | apply Zl6 | apply Zl7 | apply Zl8 | apply Zl9 | apply Zla | apply Zlb | apply Zlc) | (dsimp only; with_reducible first | apply Zl8 | apply Zl2 | apply Zld) | with_reducible assumption | omega | (dsimp only; omega)))))).mono ?_)
  rintro _ _ ⟨rfl, y, rfl⟩
  have hys := y.size_le
  have HY0 := Lib.hid (obj_bel y (obj_alloc (.cells #[.int .i64 (l : Int), .int .i64 (m : Int)] 29) HX0.out))
  have HY1 := Lib.hid (obj_bel y (obj_alloc (.cells #[.int .i64 (l : Int), .int .i64 (m : Int)] 29) HX1.out))
  have HY2 := Lib.hid (obj_bel y (obj_alloc (.cells #[.int .i64 (l : Int), .int .i64 (m : Int)] 29) HX2.out))
  clear c0 c1
  rcases hv with rfl | rfl
  · obtain ⟨c0, c1⟩ := cell2 HY1.out
    go_wp2_with (refine wpList_ldU rfl _ rfl _ rfl c p HY0.out ?_)
    (with_reducible refine (HBT.out _ (HT.out.of (by (repeat' (first | (with_reducible first | apply Zl1 | apply Zl2 | apply Zl3 | apply Zl4 | apply Zl5 | apply Zl6 | apply Zl7 | apply Zl8 | apply Zl9 | apply Zla | apply Zlb | apply Zlc) | (dsimp only; with_reducible first | apply Zl8 | apply Zl2 | apply Zld) | with_reducible assumption | omega | (dsimp only; omega)))))).mono ?_)
    rintro _ _ ⟨⟨z, rfl⟩, h⟩
    have hzs := z.size_le
    have HZ1 := Lib.hid (obj_bel z HY2.out)
    obtain ⟨d0, d1⟩ := cell2 HZ1.out
    obtain ⟨f0, f1⟩ := froz2 HZ1.out
    rcases h with ⟨er, her, hf, rfl⟩ | ⟨a, b, hb, rfl⟩
    · have HA := Lib.hid her
      have HB := Lib.hid hf
      clear her hf
      dsimp only
      go_wp2_with fail
      refine ret_obj (b := w.heap.size + 2) (vs := #[.int .i64 0, .int .i64 0]) (T := 53) (v := .tuple #[.agg #[.int .i64 0, .int .i64 0], .int .i64 er]) (obj_set (i := 1) _ (obj_set (i := 0) _ HZ1.out)) (fun W' hW' => ?_) rfl ?_
      · obtain ⟨a0, a1⟩ := cell2 hW'
        simp [results, Tryz.results14, go_sem, a0, a1]
      · exact (RetB.no HA.out HB.out (by (repeat' (first | (with_reducible first | apply Zl1 | apply Zl2 | apply Zl3 | apply Zl4 | apply Zl5 | apply Zl6 | apply Zl7 | apply Zl8 | apply Zl9 | apply Zla | apply Zlb | apply Zlc) | (dsimp only; with_reducible first | apply Zl8 | apply Zl2 | apply Zld) | with_reducible assumption | omega | (dsimp only; omega)))))
    · have HB := Lib.hid hb
      clear hb
      dsimp only
      go_wp2_with fail
      refine ret_obj (b := w.heap.size + 2) (vs := #[.int .i64 a, .int .i64 b]) (T := 53) (v := .tuple #[.agg #[.int .i64 a, .int .i64 b], .int .i64 0]) (obj_set (i := 1) _ (obj_set (i := 0) _ HZ1.out)) (fun W' hW' => ?_) rfl ?_
      · obtain ⟨a0, a1⟩ := cell2 hW'
        simp [results, Tryz.results14, go_sem, a0, a1]
      · exact (RetB.yes HB.out (by (repeat' (first | (with_reducible first | apply Zl1 | apply Zl2 | apply Zl3 | apply Zl4 | apply Zl5 | apply Zl6 | apply Zl7 | apply Zl8 | apply Zl9 | apply Zla | apply Zlb | apply Zlc) | (dsimp only; with_reducible first | apply Zl8 | apply Zl2 | apply Zld) | with_reducible assumption | omega | (dsimp only; omega)))))
  · have HN := Lib.hid (HNO.out (by decide))
    have HZ1 := HY2
    obtain ⟨d0, d1⟩ := cell2 HZ1.out
    obtain ⟨f0, f1⟩ := froz2 HZ1.out
    dsimp only
    go_wp2_with fail
    refine ret_obj (b := w.heap.size + 2) (vs := #[.int .i64 0, .int .i64 0]) (T := 53) (v := .tuple #[.agg #[.int .i64 0, .int .i64 0], .int .i64 4]) (obj_set (i := 1) _ (obj_set (i := 0) _ HZ1.out)) (fun W' hW' => ?_) rfl ?_
    · obtain ⟨a0, a1⟩ := cell2 hW'
      simp [results, Tryz.results14, go_sem, a0, a1]
    · exact (RetB.no (by decide) HN.out (by (repeat' (first | (with_reducible first | apply Zl1 | apply Zl2 | apply Zl3 | apply Zl4 | apply Zl5 | apply Zl6 | apply Zl7 | apply Zl8 | apply Zl9 | apply Zla | apply Zlb | apply Zlc) | (dsimp only; with_reducible first | apply Zl8 | apply Zl2 | apply Zld) | with_reducible assumption | omega | (dsimp only; omega)))))
set_option maxRecDepth 100000 in
set_option maxHeartbeats 6400000 in
theorem aBeats_far (c : Cir) (p l m : Nat) (w : World) (hC : chkC c = 0) (hp0 : 1 ≤ p) (hp : p ≤ 1000) (hm : isP m) (hl : 127 < l + m) (hl2 : l ≤ 1000) :
    Calls Tryz.prog 14 #[.agg (tunA c p), .agg #[.int .i64 (l : Int), .int .i64 (m : Int)]] w (Ret (.tuple #[.agg #[.int .i64 0, .int .i64 0], .int .i64 3]) w) := by
  have HCK := Lib.hid (fun B w' hB => ucheck_far c (p : Int) l m B w' hC (by omega) (by omega) hm ⟨hl, hl2⟩ hB)
  clear hC hm
  go_enter Tryz.func14, Tryz.ntmps14
  go_wp2_with (refine wpList_ldU rfl _ rfl _ rfl c p (obj_alloc _ (obj_alloc _ (obj_new _ _))) ?_)
  (with_reducible refine (HCK.out (w.heap.size + 1 + 1 + 1) _ (obj_new3 _ _ _ _ _)).mono ?_)
  rintro _ _ ⟨rfl, x, rfl⟩
  have hxs := x.size_le
  have hx2 : x.w.heap[w.heap.size + 2]? = some (.cells #[.int .i64 0, .int .i64 0] 53) := obj_bel x (obj_alloc _ (obj_new2 _ _ _ _))
  have hxl := obj_lt hx2
  have HZ1 := Lib.hid hx2
  clear hx2
  obtain ⟨d0, d1⟩ := cell2 HZ1.out
  obtain ⟨f0, f1⟩ := froz2 HZ1.out
  dsimp only
  go_wp2_with fail
  refine ret_obj (b := w.heap.size + 2) (vs := #[.int .i64 0, .int .i64 0]) (T := 53) (v := .tuple #[.agg #[.int .i64 0, .int .i64 0], .int .i64 3]) (obj_set (i := 1) _ (obj_set (i := 0) _ HZ1.out)) (fun W' hW' => ?_) rfl ?_
  · obtain ⟨a0, a1⟩ := cell2 hW'
    simp [results, Tryz.results14, go_sem, a0, a1]
  · exact (Ret.mk rfl (by (repeat' (first | (with_reducible first | apply Zl1 | apply Zl2 | apply Zl3 | apply Zl4 | apply Zl5 | apply Zl6 | apply Zl7 | apply Zl8 | apply Zl9 | apply Zla | apply Zlb | apply Zlc) | (dsimp only; with_reducible first | apply Zl8 | apply Zl2 | apply Zld) | with_reducible assumption | omega | (dsimp only; omega)))))
end Go.Proofs.YtehgeoipbgpocaaGreatDoor
