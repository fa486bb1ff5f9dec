/- Circles of fifths: fifth. -/
import Derived.Test.YtehgeoipbgpocaaGreatDoorTc
import Derived.Deep.RegionHeld3
namespace Go.Proofs.YtehgeoipbgpocaaGreatDoor
set_option linter.unusedVariables false
set_option linter.unusedSimpArgs false
open Go.RowKit
attribute [local go_sem low] Bel.cell Bel.frozen alloc_cell alloc_frozen
attribute [local go_sem] calmOp chainOp yieldsC grows floatOp Oper.floats Oper.calm yieldsR

theorem obj_ne6 {W : World} {b c : Nat} {o : Obj} (x0 x1 x2 x3 x4 x5 : Value) (hne : b ≠ c) (h : W.heap[b]? = some o) :
    ((((((W.setCell ⟨c, 0, none⟩ x0).setCell ⟨c, 1, none⟩ x1).setCell ⟨c, 2, none⟩ x2).setCell ⟨c, 3, none⟩ x3).setCell ⟨c, 4, none⟩ x4).setCell ⟨c, 5, none⟩ x5).heap[b]? = some o :=
  obj_ne _ hne (obj_ne _ hne (obj_ne _ hne (obj_ne _ hne (obj_ne _ hne (obj_ne _ hne h)))))
theorem below_set6 {w W : World} {c : Nat} (x0 x1 x2 x3 x4 x5 : Value) (h : Below w.heap.size w W) (hc : w.heap.size ≤ c) :
    Below w.heap.size w ((((((W.setCell ⟨c, 0, none⟩ x0).setCell ⟨c, 1, none⟩ x1).setCell ⟨c, 2, none⟩ x2).setCell ⟨c, 3, none⟩ x3).setCell ⟨c, 4, none⟩ x4).setCell ⟨c, 5, none⟩ x5) :=
  (((((h.setCell hc _).setCell hc _).setCell hc _).setCell hc _).setCell hc _).setCell hc _
theorem run_allocS (o : Oper) (t : TypeId) (ho : o.op = .alloc t) (ht : t ∈ [45]) (a : Act) (w : World) : (execOp a.eval o).run Tryz.prog w = .ok (.value (ptr w.heap.size)) (w.alloc ((fun _ => .cells #[.int .i64 0, .int .i64 0, .int .i64 0, .int .i64 0, .int .i64 0, .int .i64 0] 45 : TypeId → Obj) t)) := by
  obtain rfl : t = 45 := by simpa using ht
  unfold execOp
  rw [ho]
  simp [go_sem, ptr]
/-- A fifth less a part of a comma. -/
def fiM (s cm : Sz) (p : Q) : Option Sz := if scE cm p = 0 then (if opE subQ s (scS cm p) = 0 then some (opS subQ s (scS cm p)) else none) else none
def fiS (c : Cir) (i : Nat) : Option Sz := (fiM fifS pytS (c i).1).bind fun s => fiM s synS (c i).2
theorem fiM_ok {s cm : Sz} {p : Q} (h1 : scE cm p = 0) (h2 : opE subQ s (scS cm p) = 0) : fiM s cm p = some (opS subQ s (scS cm p)) := by
  unfold fiM; rw [if_pos h1, if_pos h2]
theorem fiM_no1 {s cm : Sz} {p : Q} (h1 : scE cm p ≠ 0) : fiM s cm p = none := by
  unfold fiM; rw [if_neg h1]
theorem fiM_no2 {s cm : Sz} {p : Q} (h1 : scE cm p = 0) (h2 : opE subQ s (scS cm p) ≠ 0) : fiM s cm p = none := by
  unfold fiM; rw [if_pos h1, if_neg h2]
theorem fiS_1 {c : Cir} {i : Nat} (h : fiM fifS pytS (c i).1 = none) : fiS c i = none := by unfold fiS; rw [h]; rfl
theorem fiS_2 {c : Cir} {i : Nat} {s : Sz} (h : fiM fifS pytS (c i).1 = some s) : fiS c i = fiM s synS (c i).2 := by unfold fiS; rw [h]; rfl
set_option maxRecDepth 100000 in
set_option maxHeartbeats 6400000 in
theorem fifth_any (c : Cir) (i : Nat) (w : World) (hi : i < 12) : Calls Tryz.prog 160 #[cirV c, .int .i64 (i : Int)] w (Ret (oV (fiS c i)) w) := by
  have hVc : cirV c = .agg (cirA c) := rfl
  obtain ⟨y0, y1, y2, y3⟩ := cir_get c i hi
  obtain ⟨p, hp⟩ : ∃ p, (c i).1 = p := ⟨_, rfl⟩
  obtain ⟨q, hq⟩ : ∃ q, (c i).2 = q := ⟨_, rfl⟩
  have HF1 := Lib.hid (@fiS_1 c i)
  have HF2 := Lib.hid (fun s h => @fiS_2 c i s h)
  rw [hp] at HF1 HF2 y0 y1
  rw [hq] at HF2 y2 y3
  rw [hVc]
  have hi0 : (i : Int) < 12 := by omega
  generalize hRR : oV (fiS c i) = RR at *
  have HRR := Lib.hid hRR
  clear hp hq hVc hRR
  have HN := Lib.hid n_fif
  rw [szV] at HN
  obtain ⟨s0, hs0⟩ : ∃ s, fifS = s := ⟨_, rfl⟩
  rw [hs0] at HN HF1 HF2
  have HS0 := Lib.hid hs0
  clear hs0
  go_enter Tryz.func160, Tryz.ntmps160
  go_wp2_with fail
  (with_reducible refine (HN.out _).mono ?_)
  rintro _ _ ⟨rfl, x, rfl⟩
  have hxs := x.size_le
  go_wp2_with fail
  have hyc : (x.w.alloc (.cells #[.int .i64 s0.a.n, .int .i64 s0.a.d, .int .i64 s0.b.n, .int .i64 s0.b.d, .int .i64 s0.c.n, .int .i64 s0.c.d] 45)).heap[w.heap.size]? = some (.cells (cirA c) 36) := by
    repeat' (with_reducible first | exact obj_alloc _ (obj_new _ _) | apply obj_bel | apply obj_alloc)
  have hyr : (x.w.alloc (.cells #[.int .i64 s0.a.n, .int .i64 s0.a.d, .int .i64 s0.b.n, .int .i64 s0.b.d, .int .i64 s0.c.n, .int .i64 s0.c.d] 45)).heap[w.heap.size + 1]? = some (.cells #[.int .i64 0, .int .i64 0, .int .i64 0, .int .i64 0, .int .i64 0, .int .i64 0] 45) := by
    repeat' (with_reducible first | exact obj_new1 _ _ _ | apply obj_bel | apply obj_alloc)
  have hys := obj_new x.w (.cells #[.int .i64 s0.a.n, .int .i64 s0.a.d, .int .i64 s0.b.n, .int .i64 s0.b.d, .int .i64 s0.c.n, .int .i64 s0.c.d] 45)
  have hyb : Below w.heap.size w (x.w.alloc (.cells #[.int .i64 s0.a.n, .int .i64 s0.a.d, .int .i64 s0.b.n, .int .i64 s0.b.d, .int .i64 s0.c.n, .int .i64 s0.c.d] 45)) := by (repeat' (first | (with_reducible first | apply Zl1 | apply Zl2 | apply Zl3 | apply Zl4 | apply Zl5 | apply Zl6 | apply Zl7 | apply Zl8 | apply Zl9 | apply Zla | apply Zlb | apply Zlc) | (dsimp only; with_reducible first | apply Zl8 | apply Zl2 | apply Zld) | with_reducible assumption | omega | (dsimp only; omega)))
  generalize x.w.alloc (.cells #[.int .i64 s0.a.n, .int .i64 s0.a.d, .int .i64 s0.b.n, .int .i64 s0.b.d, .int .i64 s0.c.n, .int .i64 s0.c.d] 45) = Y at *
  rw [World.size_alloc, World.size_alloc] at hxs
  generalize x.w.heap.size = SB at *
  rw [Nat.mul_comm] at y0 y1 y2 y3
  have k0 : Y.cell? ⟨w.heap.size, i * 4, none⟩ = some (.int .i64 p.n) := (made_cell hyc _).1.trans y0
  have k1 : Y.cell? ⟨w.heap.size, i * 4 + 1, none⟩ = some (.int .i64 p.d) := (made_cell hyc _).1.trans y1
  have k2 : Y.cell? ⟨w.heap.size, i * 4 + 2, none⟩ = some (.int .i64 q.n) := (made_cell hyc _).1.trans y2
  have k3 : Y.cell? ⟨w.heap.size, i * 4 + 3, none⟩ = some (.int .i64 q.d) := (made_cell hyc _).1.trans y3
  have hyl := obj_lt hys
  have hyw := hyb.size
  have SK := Lib.hid (show ∀ V : World, Below Y.heap.size Y V → V.cell? ⟨w.heap.size, i * 4, none⟩ = some (.int .i64 p.n) ∧ V.cell? ⟨w.heap.size, i * 4 + 1, none⟩ = some (.int .i64 p.d) ∧ V.cell? ⟨w.heap.size, i * 4 + 2, none⟩ = some (.int .i64 q.n) ∧ V.cell? ⟨w.heap.size, i * 4 + 3, none⟩ = some (.int .i64 q.d) ∧ Below Y.heap.size Y V from fun V h => ⟨cell_carry h k0, cell_carry h k1, cell_carry h k2, cell_carry h k3, h⟩)
  have hRf : Below Y.heap.size Y Y := Below.refl _ _
  have HYR := Lib.hid hyr
  have HYS := Lib.hid hys
  have HYB := Lib.hid hyb
  clear hyc hyr hys hyb y0 y1 y2 y3 HN
  go_region_held3 (fun V => V.cell? ⟨w.heap.size, i * 4, none⟩ = some (.int .i64 p.n) ∧ V.cell? ⟨w.heap.size, i * 4 + 1, none⟩ = some (.int .i64 p.d) ∧ V.cell? ⟨w.heap.size, i * 4 + 2, none⟩ = some (.int .i64 q.n) ∧ V.cell? ⟨w.heap.size, i * 4 + 3, none⟩ = some (.int .i64 q.d) ∧ Below Y.heap.size Y V) (exact SK.out _ (by (repeat' (first | (with_reducible first | apply Zl1 | apply Zl2 | apply Zl3 | apply Zl4 | apply Zl5 | apply Zl6 | apply Zl7 | apply Zl8 | apply Zl9 | apply Zla | apply Zlb | apply Zlc) | (dsimp only; with_reducible first | apply Zl8 | apply Zl2 | apply Zld) | with_reducible assumption | omega | (dsimp only; omega))))) (fail)
  rename_i hHeld
  have hzr : ((Y.alloc (.cells #[.string ⟨#[112, 121, 116, 104, 97, 103, 111, 114, 101, 97, 110]⟩, .int .i64 p.n, .int .i64 p.d, .string ⟨#[115, 121, 110, 116, 111, 110, 105, 99]⟩, .int .i64 q.n, .int .i64 q.d] 347)).drew).heap[Y.heap.size]? = some (.cells #[.string ⟨#[112, 121, 116, 104, 97, 103, 111, 114, 101, 97, 110]⟩, .int .i64 p.n, .int .i64 p.d, .string ⟨#[115, 121, 110, 116, 111, 110, 105, 99]⟩, .int .i64 q.n, .int .i64 q.d] 347) := obj_drew (obj_new _ _)
  have hzy : Below Y.heap.size Y ((Y.alloc (.cells #[.string ⟨#[112, 121, 116, 104, 97, 103, 111, 114, 101, 97, 110]⟩, .int .i64 p.n, .int .i64 p.d, .string ⟨#[115, 121, 110, 116, 111, 110, 105, 99]⟩, .int .i64 q.n, .int .i64 q.d] 347)).drew) := by (repeat' (first | (with_reducible first | apply Zl1 | apply Zl2 | apply Zl3 | apply Zl4 | apply Zl5 | apply Zl6 | apply Zl7 | apply Zl8 | apply Zl9 | apply Zla | apply Zlb | apply Zlc) | (dsimp only; with_reducible first | apply Zl8 | apply Zl2 | apply Zld) | with_reducible assumption | omega | (dsimp only; omega)))
  generalize (Y.alloc (.cells #[.string ⟨#[112, 121, 116, 104, 97, 103, 111, 114, 101, 97, 110]⟩, .int .i64 p.n, .int .i64 p.d, .string ⟨#[115, 121, 110, 116, 111, 110, 105, 99]⟩, .int .i64 q.n, .int .i64 q.d] 347)).drew = Z at *
  have hz1 := obj_below hzy (by omega) HYR.out
  have hz2 := obj_below hzy (by omega) HYS.out
  have hzb := HYB.out.trans (hzy.mono hyw)
  have hzw := hzy.size
  have hzl := obj_lt hzr
  have HZ1 := Lib.hid hz1
  have HZ2 := Lib.hid hz2
  have HZR := Lib.hid hzr
  have HZB := Lib.hid hzb
  generalize Y.heap.size = RB at *
  clear hHeld hzr hzy hz1 hz2 hzb k0 k1 k2 k3 SK hRf HYR HYS HYB
  clear Y
  go_wp2_with fail
  go_loopw [24] (fun jv wr => ∃ (j : Nat) (s : Sz), j ≤ 2 ∧ (j = 0 → s = s0) ∧ (j = 1 → fiM s0 pytS p = some s) ∧ (j = 2 → ∃ s1, fiM s0 pytS p = some s1 ∧ fiM s1 synS q = some s) ∧ jv = .int .i64 (j : Int) ∧ Below w.heap.size w wr ∧
      wr.heap[w.heap.size + 1]? = some (.cells #[.int .i64 0, .int .i64 0, .int .i64 0, .int .i64 0, .int .i64 0, .int .i64 0] 45) ∧
      wr.heap[SB]? = some (.cells #[.int .i64 s.a.n, .int .i64 s.a.d, .int .i64 s.b.n, .int .i64 s.b.d, .int .i64 s.c.n, .int .i64 s.c.d] 45) ∧
      wr.heap[RB]? = some (.cells #[.string ⟨#[112, 121, 116, 104, 97, 103, 111, 114, 101, 97, 110]⟩, .int .i64 p.n, .int .i64 p.d, .string ⟨#[115, 121, 110, 116, 111, 110, 105, 99]⟩, .int .i64 q.n, .int .i64 q.d] 347)) (fun jv _ => 2 - (intOf jv).toNat)
  case atStart => exact ⟨0, s0, by omega, fun _ => rfl, fun h => by omega, fun h => by omega, rfl, HZB.out, HZ1.out, HZ2.out, HZR.out⟩
  case round =>
    obtain ⟨j, s, hj, hj0, hj1, hj2', rfl, hB, ho1, ho2, ho3⟩ := hrel
    have HJ0 := Lib.hid hj0
    have HJ1 := Lib.hid hj1
    have HJ2 := Lib.hid hj2'
    have HO1 := Lib.hid ho1
    have HO2 := Lib.hid ho2
    have HO3 := Lib.hid ho3
    have hbs := hB.size
    have hl1 := obj_lt ho1
    have hl2 := obj_lt ho2
    have hl3 := obj_lt ho3
    clear hj0 hj1 hj2' HZ1 HZ2 HZR HZB
    by_cases hj2 : j < 2
    · obtain ⟨g0, g1, g2, g3, g4, g5⟩ := cells6 ho3
      clear ho1 ho2 ho3
      rcases (show j = 0 ∨ j = 1 by omega) with rfl | rfl
      · clear hj2 hj
        have HCN := Lib.hid n_pyt
        have HSC := Lib.hid (fun w' => iscale_any pytS p w')
        rw [szV] at HCN
        generalize hfm : scE pytS p = se at *
        have HFM := Lib.hid hfm
        clear hfm
        have hQ : (p).V = .agg #[.int .i64 (p).n, .int .i64 (p).d] := rfl
        rw [hQ, szV pytS] at HSC
        generalize hls : scS pytS p = less at *
        have HLS := Lib.hid hls
        clear hls hQ
        rw [szV less] at HSC
        obtain ⟨cs, hcs⟩ : ∃ cs, pytS = cs := ⟨_, rfl⟩
        rw [hcs] at HCN HSC
        clear hcs
        go_wp2_with fail
        obtain ⟨Y, hY⟩ : ∃ Y, wr.alloc (.cells #[.string ⟨(#[112, 121, 116, 104, 97, 103, 111, 114, 101, 97, 110])⟩, .int .i64 (p).n, .int .i64 (p).d] 347) = Y := ⟨_, rfl⟩
        have hy1 := obj_alloc (.cells #[.string ⟨(#[112, 121, 116, 104, 97, 103, 111, 114, 101, 97, 110])⟩, .int .i64 (p).n, .int .i64 (p).d] 347) HO1.out
        have hy2 := obj_alloc (.cells #[.string ⟨(#[112, 121, 116, 104, 97, 103, 111, 114, 101, 97, 110])⟩, .int .i64 (p).n, .int .i64 (p).d] 347) HO2.out
        have hy3 := obj_alloc (.cells #[.string ⟨(#[112, 121, 116, 104, 97, 103, 111, 114, 101, 97, 110])⟩, .int .i64 (p).n, .int .i64 (p).d] 347) HO3.out
        have hy4 := obj_new wr (.cells #[.string ⟨(#[112, 121, 116, 104, 97, 103, 111, 114, 101, 97, 110])⟩, .int .i64 (p).n, .int .i64 (p).d] 347)
        have hyb : Below w.heap.size w (wr.alloc (.cells #[.string ⟨(#[112, 121, 116, 104, 97, 103, 111, 114, 101, 97, 110])⟩, .int .i64 (p).n, .int .i64 (p).d] 347)) := by (repeat' (first | (with_reducible first | apply Zl1 | apply Zl2 | apply Zl3 | apply Zl4 | apply Zl5 | apply Zl6 | apply Zl7 | apply Zl8 | apply Zl9 | apply Zla | apply Zlb | apply Zlc) | (dsimp only; with_reducible first | apply Zl8 | apply Zl2 | apply Zld) | with_reducible assumption | omega | (dsimp only; omega)))
        have hyz : (wr.alloc (.cells #[.string ⟨(#[112, 121, 116, 104, 97, 103, 111, 114, 101, 97, 110])⟩, .int .i64 (p).n, .int .i64 (p).d] 347)).heap.size = wr.heap.size + 1 := World.size_alloc _ _
        rw [hY] at hy1 hy2 hy3 hy4 hyb hyz ⊢
        clear hY
        obtain ⟨TB, hTB⟩ : ∃ TB, wr.heap.size = TB := ⟨_, rfl⟩
        rw [hTB] at hy4 hyz hbs hl1 hl2 hl3 ⊢
        obtain ⟨t0, t1, t2⟩ := cells3 hy4
        clear hTB hB HO1 HO2 HO3 g0 g1 g2 g3 g4 g5
        clear wr
        have SK := Lib.hid (show ∀ V : World, Below Y.heap.size Y V → V.cell? ⟨TB, 0, none⟩ = some (.string ⟨(#[112, 121, 116, 104, 97, 103, 111, 114, 101, 97, 110])⟩) ∧ V.cell? ⟨TB, 1, none⟩ = some (.int .i64 (p).n) ∧ V.cell? ⟨TB, 2, none⟩ = some (.int .i64 (p).d) ∧ Below Y.heap.size Y V from fun V h => ⟨cell_carry h t0, cell_carry h t1, cell_carry h t2, h⟩)
        have hRf : Below Y.heap.size Y Y := Below.refl _ _
        have hc0 := obj_new Y (.cells #[.int .i64 0, .int .i64 0, .int .i64 0, .int .i64 0, .int .i64 0, .int .i64 0] 45)
        go_region_held3 (fun V => V.cell? ⟨TB, 0, none⟩ = some (.string ⟨(#[112, 121, 116, 104, 97, 103, 111, 114, 101, 97, 110])⟩) ∧ V.cell? ⟨TB, 1, none⟩ = some (.int .i64 (p).n) ∧ V.cell? ⟨TB, 2, none⟩ = some (.int .i64 (p).d) ∧ Below Y.heap.size Y V) (exact SK.out _ (by (repeat' (first | (with_reducible first | apply Zl1 | apply Zl2 | apply Zl3 | apply Zl4 | apply Zl5 | apply Zl6 | apply Zl7 | apply Zl8 | apply Zl9 | apply Zla | apply Zlb | apply Zlc) | (dsimp only; with_reducible first | apply Zl8 | apply Zl2 | apply Zld) | with_reducible assumption | omega | (dsimp only; omega))))) (first | (go_at_call 53; refine (HCN.out _).mono ?_; rintro _ _ ⟨rfl, u, rfl⟩; have hus := u.size_le) | (go_at_call 219; refine (HSC.out _).mono ?_; rintro _ _ ⟨rfl, v, rfl⟩; have hvs := v.size_le))
        · rename_i hHeld
          have hzy := hHeld.2.2.2
          have hzn := obj_new v.w (.cells #[.int .i64 less.a.n, .int .i64 less.a.d, .int .i64 less.b.n, .int .i64 less.b.d, .int .i64 less.c.n, .int .i64 less.c.d] 45)
          have hvl : Y.heap.size ≤ v.w.heap.size := by (repeat' (first | (with_reducible first | apply Zl1 | apply Zl2 | apply Zl3 | apply Zl4 | apply Zl5 | apply Zl6 | apply Zl7 | apply Zl8 | apply Zl9 | apply Zla | apply Zlb | apply Zlc) | (dsimp only; with_reducible first | apply Zl8 | apply Zl2 | apply Zld) | with_reducible assumption | omega | (dsimp only; omega)))
          clear hHeld hc0
          generalize v.w.alloc (.cells #[.int .i64 less.a.n, .int .i64 less.a.d, .int .i64 less.b.n, .int .i64 less.b.d, .int .i64 less.c.n, .int .i64 less.c.d] 45) = W at *
          generalize v.w.heap.size = LB at *
          clear hvs hus
          clear v
          clear u
          have hz1 := obj_below hzy (by omega) hy1
          have hz2 := obj_below hzy (by omega) hy2
          have hz3 := obj_below hzy (by omega) hy3
          have hzb := hyb.trans (hzy.mono hyb.size)
          have hlz := obj_lt hzn
          have hzw := hzy.size
          have HW1 := Lib.hid hz1
          have HW2 := Lib.hid hz2
          have HW3 := Lib.hid hz3
          have HWN := Lib.hid hzn
          have HWB := Lib.hid hzb
          obtain ⟨e0, e1, e2, e3, e4, e5⟩ := cells6 hzn
          obtain ⟨c0, c1, c2, c3, c4, c5⟩ := cells6 hz2
          clear hzn hz1 hz2 hz3 hzb hzy hy1 hy2 hy3 hy4 hyb SK hRf t0 t1 t2 HCN HSC
          by_cases hse : se = 0
          · have n0 : (se != 0) = false := by simpa using hse
            have HSE := Lib.hid hse
            have HSUB := Lib.hid (fun w' => isub_any s less w')
            rw [szV s, szV less] at HSUB
            obtain ⟨r, hr⟩ : ∃ r, opS subQ s less = r := ⟨_, rfl⟩
            obtain ⟨re, hre⟩ : ∃ re, opE subQ s less = re := ⟨_, rfl⟩
            rw [hr, hre, szV r] at HSUB
            have HR := Lib.hid hr
            have HRE := Lib.hid hre
            clear hse hr hre
            go_wp2_with fail
            (with_reducible refine (HSUB.out _).mono ?_)
            rintro _ _ ⟨rfl, d, rfl⟩
            have hds := d.size_le
            have hd1 := obj_bel d HW1.out
            have hd2 := obj_bel d HW2.out
            have hd3 := obj_bel d HW3.out
            have hdb : Below w.heap.size w d.w := HWB.out.trans (d.below.mono HWB.out.size)
            obtain ⟨D, hD⟩ : ∃ D, d.w = D := ⟨_, rfl⟩
            rw [hD] at hds hd1 hd2 hd3 hdb ⊢
            clear hD d
            clear e0 e1 e2 e3 e4 e5 c0 c1 c2 c3 c4 c5
            obtain ⟨f0, f1, f2, f3, f4, f5⟩ := froz6 hd2
            obtain ⟨e0, e1, e2, e3, e4, e5⟩ := cells6 hd2
            obtain ⟨b0, b1, b2, b3, b4, b5⟩ := froz6 hd1
            obtain ⟨c0, c1, c2, c3, c4, c5⟩ := cells6 hd1
            have HD1 := Lib.hid (obj_ne6 (.int .i64 r.a.n) (.int .i64 r.a.d) (.int .i64 r.b.n) (.int .i64 r.b.d) (.int .i64 r.c.n) (.int .i64 r.c.d) (show w.heap.size + 1 ≠ SB by omega) hd1)
            have HD2 := Lib.hid (obj_set6 (.int .i64 r.a.n) (.int .i64 r.a.d) (.int .i64 r.b.n) (.int .i64 r.b.d) (.int .i64 r.c.n) (.int .i64 r.c.d) hd2)
            have HD3 := Lib.hid (obj_ne6 (.int .i64 r.a.n) (.int .i64 r.a.d) (.int .i64 r.b.n) (.int .i64 r.b.d) (.int .i64 r.c.n) (.int .i64 r.c.d) (show RB ≠ SB by omega) hd3)
            have HDB := Lib.hid (below_set6 (.int .i64 r.a.n) (.int .i64 r.a.d) (.int .i64 r.b.n) (.int .i64 r.b.d) (.int .i64 r.c.n) (.int .i64 r.c.d) hdb (show w.heap.size ≤ SB by omega))
            have hD1l := obj_lt hd1
            clear hd1 hd2 hd3 HW1 HW2 HW3 HWN HWB
            dsimp only
            by_cases hre : re = 0
            · have n1 : (re != 0) = false := by simpa using hre
              have HNW : Hid (fiM s pytS p = some r) := Lib.hid (by rw [fiM_ok (HFM.out.trans HSE.out) (by rw [HLS.out, HRE.out]; exact hre), HLS.out, HR.out])
              clear hre
              go_wp2_with fail
              go_roundw
              case rel => exact ⟨0 + 1, r, by omega, (fun h => by omega), (fun _ => (HJ0.out (by first | trivial | rfl)) ▸ HNW.out), (fun h => by omega), rfl, HDB.out, HD1.out, HD2.out, HD3.out⟩
              case measure => simp [intOf]
            · have n1 : (re != 0) = true := by simpa using hre
              have HNO : Hid (fiM s pytS p = none) := Lib.hid (fiM_no2 (HFM.out.trans HSE.out) (by rw [HLS.out, HRE.out]; exact hre))
              have HNR : Hid (fiS c i = none) := Lib.hid ((HF1.out ((HJ0.out (by first | trivial | rfl)) ▸ HNO.out)))
              have hdbl := HDB.out
              clear hre
              go_wp2
              refine ret_obj (b := w.heap.size + 1) (vs := #[.int .i64 0, .int .i64 0, .int .i64 0, .int .i64 0, .int .i64 0, .int .i64 0]) (T := 45) (v := .tuple #[.agg #[.int .i64 0, .int .i64 0, .int .i64 0, .int .i64 0, .int .i64 0, .int .i64 0], .int .i64 4]) (obj_set6 _ _ _ _ _ _ HD1.out) (fun W' hW' => ?_) rfl ?_
              · obtain ⟨a0, a1, a2, a3, a4, a5⟩ := cells6 hW'
                simp [results, Tryz.results160, go_sem, a0, a1, a2, a3, a4, a5]
              · exact Ret.mk (by rw [← HRR.out, HNR.out]; rfl) (by (repeat' (first | (with_reducible first | apply Zl1 | apply Zl2 | apply Zl3 | apply Zl4 | apply Zl5 | apply Zl6 | apply Zl7 | apply Zl8 | apply Zl9 | apply Zla | apply Zlb | apply Zlc) | (dsimp only; with_reducible first | apply Zl8 | apply Zl2 | apply Zld) | with_reducible assumption | omega | (dsimp only; omega))))
          · have n0 : (se != 0) = true := by simpa using hse
            have HNO : Hid (fiM s pytS p = none) := Lib.hid (fiM_no1 (by rw [HFM.out]; exact hse))
            have HNR : Hid (fiS c i = none) := Lib.hid ((HF1.out ((HJ0.out (by first | trivial | rfl)) ▸ HNO.out)))
            have hw1o := HW1.out
            obtain ⟨b0, b1, b2, b3, b4, b5⟩ := froz6 hw1o
            obtain ⟨h0, h1, h2, h3, h4, h5⟩ := cells6 hw1o
            have hwbl := HWB.out
            clear hse hw1o
            go_wp2
            refine ret_obj (b := w.heap.size + 1) (vs := #[.int .i64 0, .int .i64 0, .int .i64 0, .int .i64 0, .int .i64 0, .int .i64 0]) (T := 45) (v := .tuple #[.agg #[.int .i64 0, .int .i64 0, .int .i64 0, .int .i64 0, .int .i64 0, .int .i64 0], .int .i64 4]) (obj_set6 _ _ _ _ _ _ HW1.out) (fun W' hW' => ?_) rfl ?_
            · obtain ⟨a0, a1, a2, a3, a4, a5⟩ := cells6 hW'
              simp [results, Tryz.results160, go_sem, a0, a1, a2, a3, a4, a5]
            · exact Ret.mk (by rw [← HRR.out, HNR.out]; rfl) (by (repeat' (first | (with_reducible first | apply Zl1 | apply Zl2 | apply Zl3 | apply Zl4 | apply Zl5 | apply Zl6 | apply Zl7 | apply Zl8 | apply Zl9 | apply Zla | apply Zlb | apply Zlc) | (dsimp only; with_reducible first | apply Zl8 | apply Zl2 | apply Zld) | with_reducible assumption | omega | (dsimp only; omega))))
        · rename_i hHeld
          have hzy := hHeld.2.2.2
          have hzn := obj_set6 (.int .i64 less.a.n) (.int .i64 less.a.d) (.int .i64 less.b.n) (.int .i64 less.b.d) (.int .i64 less.c.n) (.int .i64 less.c.d) (obj_bel v (obj_new u.w (.cells #[.int .i64 0, .int .i64 0, .int .i64 0, .int .i64 0, .int .i64 0, .int .i64 0] 45)))
          have hvl : Y.heap.size ≤ u.w.heap.size := by (repeat' (first | (with_reducible first | apply Zl1 | apply Zl2 | apply Zl3 | apply Zl4 | apply Zl5 | apply Zl6 | apply Zl7 | apply Zl8 | apply Zl9 | apply Zla | apply Zlb | apply Zlc) | (dsimp only; with_reducible first | apply Zl8 | apply Zl2 | apply Zld) | with_reducible assumption | omega | (dsimp only; omega)))
          clear hHeld hc0
          generalize ((((((v.w.setCell ⟨u.w.heap.size, 0, none⟩ (.int .i64 less.a.n)).setCell ⟨u.w.heap.size, 1, none⟩ (.int .i64 less.a.d)).setCell ⟨u.w.heap.size, 2, none⟩ (.int .i64 less.b.n)).setCell ⟨u.w.heap.size, 3, none⟩ (.int .i64 less.b.d)).setCell ⟨u.w.heap.size, 4, none⟩ (.int .i64 less.c.n)).setCell ⟨u.w.heap.size, 5, none⟩ (.int .i64 less.c.d)) = W at *
          generalize u.w.heap.size = LB at *
          clear hvs hus
          clear v
          clear u
          have hz1 := obj_below hzy (by omega) hy1
          have hz2 := obj_below hzy (by omega) hy2
          have hz3 := obj_below hzy (by omega) hy3
          have hzb := hyb.trans (hzy.mono hyb.size)
          have hlz := obj_lt hzn
          have hzw := hzy.size
          have HW1 := Lib.hid hz1
          have HW2 := Lib.hid hz2
          have HW3 := Lib.hid hz3
          have HWN := Lib.hid hzn
          have HWB := Lib.hid hzb
          obtain ⟨e0, e1, e2, e3, e4, e5⟩ := cells6 hzn
          obtain ⟨c0, c1, c2, c3, c4, c5⟩ := cells6 hz2
          clear hzn hz1 hz2 hz3 hzb hzy hy1 hy2 hy3 hy4 hyb SK hRf t0 t1 t2 HCN HSC
          by_cases hse : se = 0
          · have n0 : (se != 0) = false := by simpa using hse
            have HSE := Lib.hid hse
            have HSUB := Lib.hid (fun w' => isub_any s less w')
            rw [szV s, szV less] at HSUB
            obtain ⟨r, hr⟩ : ∃ r, opS subQ s less = r := ⟨_, rfl⟩
            obtain ⟨re, hre⟩ : ∃ re, opE subQ s less = re := ⟨_, rfl⟩
            rw [hr, hre, szV r] at HSUB
            have HR := Lib.hid hr
            have HRE := Lib.hid hre
            clear hse hr hre
            go_wp2_with fail
            (with_reducible refine (HSUB.out _).mono ?_)
            rintro _ _ ⟨rfl, d, rfl⟩
            have hds := d.size_le
            have hd1 := obj_bel d HW1.out
            have hd2 := obj_bel d HW2.out
            have hd3 := obj_bel d HW3.out
            have hdb : Below w.heap.size w d.w := HWB.out.trans (d.below.mono HWB.out.size)
            obtain ⟨D, hD⟩ : ∃ D, d.w = D := ⟨_, rfl⟩
            rw [hD] at hds hd1 hd2 hd3 hdb ⊢
            clear hD d
            clear e0 e1 e2 e3 e4 e5 c0 c1 c2 c3 c4 c5
            obtain ⟨f0, f1, f2, f3, f4, f5⟩ := froz6 hd2
            obtain ⟨e0, e1, e2, e3, e4, e5⟩ := cells6 hd2
            obtain ⟨b0, b1, b2, b3, b4, b5⟩ := froz6 hd1
            obtain ⟨c0, c1, c2, c3, c4, c5⟩ := cells6 hd1
            have HD1 := Lib.hid (obj_ne6 (.int .i64 r.a.n) (.int .i64 r.a.d) (.int .i64 r.b.n) (.int .i64 r.b.d) (.int .i64 r.c.n) (.int .i64 r.c.d) (show w.heap.size + 1 ≠ SB by omega) hd1)
            have HD2 := Lib.hid (obj_set6 (.int .i64 r.a.n) (.int .i64 r.a.d) (.int .i64 r.b.n) (.int .i64 r.b.d) (.int .i64 r.c.n) (.int .i64 r.c.d) hd2)
            have HD3 := Lib.hid (obj_ne6 (.int .i64 r.a.n) (.int .i64 r.a.d) (.int .i64 r.b.n) (.int .i64 r.b.d) (.int .i64 r.c.n) (.int .i64 r.c.d) (show RB ≠ SB by omega) hd3)
            have HDB := Lib.hid (below_set6 (.int .i64 r.a.n) (.int .i64 r.a.d) (.int .i64 r.b.n) (.int .i64 r.b.d) (.int .i64 r.c.n) (.int .i64 r.c.d) hdb (show w.heap.size ≤ SB by omega))
            have hD1l := obj_lt hd1
            clear hd1 hd2 hd3 HW1 HW2 HW3 HWN HWB
            dsimp only
            by_cases hre : re = 0
            · have n1 : (re != 0) = false := by simpa using hre
              have HNW : Hid (fiM s pytS p = some r) := Lib.hid (by rw [fiM_ok (HFM.out.trans HSE.out) (by rw [HLS.out, HRE.out]; exact hre), HLS.out, HR.out])
              clear hre
              go_wp2_with fail
              go_roundw
              case rel => exact ⟨0 + 1, r, by omega, (fun h => by omega), (fun _ => (HJ0.out (by first | trivial | rfl)) ▸ HNW.out), (fun h => by omega), rfl, HDB.out, HD1.out, HD2.out, HD3.out⟩
              case measure => simp [intOf]
            · have n1 : (re != 0) = true := by simpa using hre
              have HNO : Hid (fiM s pytS p = none) := Lib.hid (fiM_no2 (HFM.out.trans HSE.out) (by rw [HLS.out, HRE.out]; exact hre))
              have HNR : Hid (fiS c i = none) := Lib.hid ((HF1.out ((HJ0.out (by first | trivial | rfl)) ▸ HNO.out)))
              have hdbl := HDB.out
              clear hre
              go_wp2
              refine ret_obj (b := w.heap.size + 1) (vs := #[.int .i64 0, .int .i64 0, .int .i64 0, .int .i64 0, .int .i64 0, .int .i64 0]) (T := 45) (v := .tuple #[.agg #[.int .i64 0, .int .i64 0, .int .i64 0, .int .i64 0, .int .i64 0, .int .i64 0], .int .i64 4]) (obj_set6 _ _ _ _ _ _ HD1.out) (fun W' hW' => ?_) rfl ?_
              · obtain ⟨a0, a1, a2, a3, a4, a5⟩ := cells6 hW'
                simp [results, Tryz.results160, go_sem, a0, a1, a2, a3, a4, a5]
              · exact Ret.mk (by rw [← HRR.out, HNR.out]; rfl) (by (repeat' (first | (with_reducible first | apply Zl1 | apply Zl2 | apply Zl3 | apply Zl4 | apply Zl5 | apply Zl6 | apply Zl7 | apply Zl8 | apply Zl9 | apply Zla | apply Zlb | apply Zlc) | (dsimp only; with_reducible first | apply Zl8 | apply Zl2 | apply Zld) | with_reducible assumption | omega | (dsimp only; omega))))
          · have n0 : (se != 0) = true := by simpa using hse
            have HNO : Hid (fiM s pytS p = none) := Lib.hid (fiM_no1 (by rw [HFM.out]; exact hse))
            have HNR : Hid (fiS c i = none) := Lib.hid ((HF1.out ((HJ0.out (by first | trivial | rfl)) ▸ HNO.out)))
            have hw1o := HW1.out
            obtain ⟨b0, b1, b2, b3, b4, b5⟩ := froz6 hw1o
            obtain ⟨h0, h1, h2, h3, h4, h5⟩ := cells6 hw1o
            have hwbl := HWB.out
            clear hse hw1o
            go_wp2
            refine ret_obj (b := w.heap.size + 1) (vs := #[.int .i64 0, .int .i64 0, .int .i64 0, .int .i64 0, .int .i64 0, .int .i64 0]) (T := 45) (v := .tuple #[.agg #[.int .i64 0, .int .i64 0, .int .i64 0, .int .i64 0, .int .i64 0, .int .i64 0], .int .i64 4]) (obj_set6 _ _ _ _ _ _ HW1.out) (fun W' hW' => ?_) rfl ?_
            · obtain ⟨a0, a1, a2, a3, a4, a5⟩ := cells6 hW'
              simp [results, Tryz.results160, go_sem, a0, a1, a2, a3, a4, a5]
            · exact Ret.mk (by rw [← HRR.out, HNR.out]; rfl) (by (repeat' (first | (with_reducible first | apply Zl1 | apply Zl2 | apply Zl3 | apply Zl4 | apply Zl5 | apply Zl6 | apply Zl7 | apply Zl8 | apply Zl9 | apply Zla | apply Zlb | apply Zlc) | (dsimp only; with_reducible first | apply Zl8 | apply Zl2 | apply Zld) | with_reducible assumption | omega | (dsimp only; omega))))
        · rename_i hHeld
          have hzy := hHeld.2.2.2
          rw [hyz] at hc0
          have hzn := obj_set6 (.int .i64 less.a.n) (.int .i64 less.a.d) (.int .i64 less.b.n) (.int .i64 less.b.d) (.int .i64 less.c.n) (.int .i64 less.c.d) (obj_bel v (obj_bel u hc0))
          have hvl : Y.heap.size ≤ TB + 1 := by omega
          clear hHeld hc0
          generalize ((((((v.w.setCell ⟨TB + 1, 0, none⟩ (.int .i64 less.a.n)).setCell ⟨TB + 1, 1, none⟩ (.int .i64 less.a.d)).setCell ⟨TB + 1, 2, none⟩ (.int .i64 less.b.n)).setCell ⟨TB + 1, 3, none⟩ (.int .i64 less.b.d)).setCell ⟨TB + 1, 4, none⟩ (.int .i64 less.c.n)).setCell ⟨TB + 1, 5, none⟩ (.int .i64 less.c.d)) = W at *
          clear hvs hus
          clear v
          clear u
          obtain ⟨LB, hLB⟩ : ∃ LB, TB + 1 = LB := ⟨_, rfl⟩
          rw [hLB] at hzn hvl ⊢
          clear hLB
          have hz1 := obj_below hzy (by omega) hy1
          have hz2 := obj_below hzy (by omega) hy2
          have hz3 := obj_below hzy (by omega) hy3
          have hzb := hyb.trans (hzy.mono hyb.size)
          have hlz := obj_lt hzn
          have hzw := hzy.size
          have HW1 := Lib.hid hz1
          have HW2 := Lib.hid hz2
          have HW3 := Lib.hid hz3
          have HWN := Lib.hid hzn
          have HWB := Lib.hid hzb
          obtain ⟨e0, e1, e2, e3, e4, e5⟩ := cells6 hzn
          obtain ⟨c0, c1, c2, c3, c4, c5⟩ := cells6 hz2
          clear hzn hz1 hz2 hz3 hzb hzy hy1 hy2 hy3 hy4 hyb SK hRf t0 t1 t2 HCN HSC
          by_cases hse : se = 0
          · have n0 : (se != 0) = false := by simpa using hse
            have HSE := Lib.hid hse
            have HSUB := Lib.hid (fun w' => isub_any s less w')
            rw [szV s, szV less] at HSUB
            obtain ⟨r, hr⟩ : ∃ r, opS subQ s less = r := ⟨_, rfl⟩
            obtain ⟨re, hre⟩ : ∃ re, opE subQ s less = re := ⟨_, rfl⟩
            rw [hr, hre, szV r] at HSUB
            have HR := Lib.hid hr
            have HRE := Lib.hid hre
            clear hse hr hre
            go_wp2_with fail
            (with_reducible refine (HSUB.out _).mono ?_)
            rintro _ _ ⟨rfl, d, rfl⟩
            have hds := d.size_le
            have hd1 := obj_bel d HW1.out
            have hd2 := obj_bel d HW2.out
            have hd3 := obj_bel d HW3.out
            have hdb : Below w.heap.size w d.w := HWB.out.trans (d.below.mono HWB.out.size)
            obtain ⟨D, hD⟩ : ∃ D, d.w = D := ⟨_, rfl⟩
            rw [hD] at hds hd1 hd2 hd3 hdb ⊢
            clear hD d
            clear e0 e1 e2 e3 e4 e5 c0 c1 c2 c3 c4 c5
            obtain ⟨f0, f1, f2, f3, f4, f5⟩ := froz6 hd2
            obtain ⟨e0, e1, e2, e3, e4, e5⟩ := cells6 hd2
            obtain ⟨b0, b1, b2, b3, b4, b5⟩ := froz6 hd1
            obtain ⟨c0, c1, c2, c3, c4, c5⟩ := cells6 hd1
            have HD1 := Lib.hid (obj_ne6 (.int .i64 r.a.n) (.int .i64 r.a.d) (.int .i64 r.b.n) (.int .i64 r.b.d) (.int .i64 r.c.n) (.int .i64 r.c.d) (show w.heap.size + 1 ≠ SB by omega) hd1)
            have HD2 := Lib.hid (obj_set6 (.int .i64 r.a.n) (.int .i64 r.a.d) (.int .i64 r.b.n) (.int .i64 r.b.d) (.int .i64 r.c.n) (.int .i64 r.c.d) hd2)
            have HD3 := Lib.hid (obj_ne6 (.int .i64 r.a.n) (.int .i64 r.a.d) (.int .i64 r.b.n) (.int .i64 r.b.d) (.int .i64 r.c.n) (.int .i64 r.c.d) (show RB ≠ SB by omega) hd3)
            have HDB := Lib.hid (below_set6 (.int .i64 r.a.n) (.int .i64 r.a.d) (.int .i64 r.b.n) (.int .i64 r.b.d) (.int .i64 r.c.n) (.int .i64 r.c.d) hdb (show w.heap.size ≤ SB by omega))
            have hD1l := obj_lt hd1
            clear hd1 hd2 hd3 HW1 HW2 HW3 HWN HWB
            dsimp only
            by_cases hre : re = 0
            · have n1 : (re != 0) = false := by simpa using hre
              have HNW : Hid (fiM s pytS p = some r) := Lib.hid (by rw [fiM_ok (HFM.out.trans HSE.out) (by rw [HLS.out, HRE.out]; exact hre), HLS.out, HR.out])
              clear hre
              go_wp2_with fail
              go_roundw
              case rel => exact ⟨0 + 1, r, by omega, (fun h => by omega), (fun _ => (HJ0.out (by first | trivial | rfl)) ▸ HNW.out), (fun h => by omega), rfl, HDB.out, HD1.out, HD2.out, HD3.out⟩
              case measure => simp [intOf]
            · have n1 : (re != 0) = true := by simpa using hre
              have HNO : Hid (fiM s pytS p = none) := Lib.hid (fiM_no2 (HFM.out.trans HSE.out) (by rw [HLS.out, HRE.out]; exact hre))
              have HNR : Hid (fiS c i = none) := Lib.hid ((HF1.out ((HJ0.out (by first | trivial | rfl)) ▸ HNO.out)))
              have hdbl := HDB.out
              clear hre
              go_wp2
              refine ret_obj (b := w.heap.size + 1) (vs := #[.int .i64 0, .int .i64 0, .int .i64 0, .int .i64 0, .int .i64 0, .int .i64 0]) (T := 45) (v := .tuple #[.agg #[.int .i64 0, .int .i64 0, .int .i64 0, .int .i64 0, .int .i64 0, .int .i64 0], .int .i64 4]) (obj_set6 _ _ _ _ _ _ HD1.out) (fun W' hW' => ?_) rfl ?_
              · obtain ⟨a0, a1, a2, a3, a4, a5⟩ := cells6 hW'
                simp [results, Tryz.results160, go_sem, a0, a1, a2, a3, a4, a5]
              · exact Ret.mk (by rw [← HRR.out, HNR.out]; rfl) (by (repeat' (first | (with_reducible first | apply Zl1 | apply Zl2 | apply Zl3 | apply Zl4 | apply Zl5 | apply Zl6 | apply Zl7 | apply Zl8 | apply Zl9 | apply Zla | apply Zlb | apply Zlc) | (dsimp only; with_reducible first | apply Zl8 | apply Zl2 | apply Zld) | with_reducible assumption | omega | (dsimp only; omega))))
          · have n0 : (se != 0) = true := by simpa using hse
            have HNO : Hid (fiM s pytS p = none) := Lib.hid (fiM_no1 (by rw [HFM.out]; exact hse))
            have HNR : Hid (fiS c i = none) := Lib.hid ((HF1.out ((HJ0.out (by first | trivial | rfl)) ▸ HNO.out)))
            have hw1o := HW1.out
            obtain ⟨b0, b1, b2, b3, b4, b5⟩ := froz6 hw1o
            obtain ⟨h0, h1, h2, h3, h4, h5⟩ := cells6 hw1o
            have hwbl := HWB.out
            clear hse hw1o
            go_wp2
            refine ret_obj (b := w.heap.size + 1) (vs := #[.int .i64 0, .int .i64 0, .int .i64 0, .int .i64 0, .int .i64 0, .int .i64 0]) (T := 45) (v := .tuple #[.agg #[.int .i64 0, .int .i64 0, .int .i64 0, .int .i64 0, .int .i64 0, .int .i64 0], .int .i64 4]) (obj_set6 _ _ _ _ _ _ HW1.out) (fun W' hW' => ?_) rfl ?_
            · obtain ⟨a0, a1, a2, a3, a4, a5⟩ := cells6 hW'
              simp [results, Tryz.results160, go_sem, a0, a1, a2, a3, a4, a5]
            · exact Ret.mk (by rw [← HRR.out, HNR.out]; rfl) (by (repeat' (first | (with_reducible first | apply Zl1 | apply Zl2 | apply Zl3 | apply Zl4 | apply Zl5 | apply Zl6 | apply Zl7 | apply Zl8 | apply Zl9 | apply Zla | apply Zlb | apply Zlc) | (dsimp only; with_reducible first | apply Zl8 | apply Zl2 | apply Zld) | with_reducible assumption | omega | (dsimp only; omega))))
      · clear hj2 hj
        have HCN := Lib.hid n_syn
        have HSC := Lib.hid (fun w' => iscale_any synS q w')
        rw [szV] at HCN
        generalize hfm : scE synS q = se at *
        have HFM := Lib.hid hfm
        clear hfm
        have hQ : (q).V = .agg #[.int .i64 (q).n, .int .i64 (q).d] := rfl
        rw [hQ, szV synS] at HSC
        generalize hls : scS synS q = less at *
        have HLS := Lib.hid hls
        clear hls hQ
        rw [szV less] at HSC
        obtain ⟨cs, hcs⟩ : ∃ cs, synS = cs := ⟨_, rfl⟩
        rw [hcs] at HCN HSC
        clear hcs
        go_wp2_with fail
        obtain ⟨Y, hY⟩ : ∃ Y, wr.alloc (.cells #[.string ⟨(#[115, 121, 110, 116, 111, 110, 105, 99])⟩, .int .i64 (q).n, .int .i64 (q).d] 347) = Y := ⟨_, rfl⟩
        have hy1 := obj_alloc (.cells #[.string ⟨(#[115, 121, 110, 116, 111, 110, 105, 99])⟩, .int .i64 (q).n, .int .i64 (q).d] 347) HO1.out
        have hy2 := obj_alloc (.cells #[.string ⟨(#[115, 121, 110, 116, 111, 110, 105, 99])⟩, .int .i64 (q).n, .int .i64 (q).d] 347) HO2.out
        have hy3 := obj_alloc (.cells #[.string ⟨(#[115, 121, 110, 116, 111, 110, 105, 99])⟩, .int .i64 (q).n, .int .i64 (q).d] 347) HO3.out
        have hy4 := obj_new wr (.cells #[.string ⟨(#[115, 121, 110, 116, 111, 110, 105, 99])⟩, .int .i64 (q).n, .int .i64 (q).d] 347)
        have hyb : Below w.heap.size w (wr.alloc (.cells #[.string ⟨(#[115, 121, 110, 116, 111, 110, 105, 99])⟩, .int .i64 (q).n, .int .i64 (q).d] 347)) := by (repeat' (first | (with_reducible first | apply Zl1 | apply Zl2 | apply Zl3 | apply Zl4 | apply Zl5 | apply Zl6 | apply Zl7 | apply Zl8 | apply Zl9 | apply Zla | apply Zlb | apply Zlc) | (dsimp only; with_reducible first | apply Zl8 | apply Zl2 | apply Zld) | with_reducible assumption | omega | (dsimp only; omega)))
        have hyz : (wr.alloc (.cells #[.string ⟨(#[115, 121, 110, 116, 111, 110, 105, 99])⟩, .int .i64 (q).n, .int .i64 (q).d] 347)).heap.size = wr.heap.size + 1 := World.size_alloc _ _
        rw [hY] at hy1 hy2 hy3 hy4 hyb hyz ⊢
        clear hY
        obtain ⟨TB, hTB⟩ : ∃ TB, wr.heap.size = TB := ⟨_, rfl⟩
        rw [hTB] at hy4 hyz hbs hl1 hl2 hl3 ⊢
        obtain ⟨t0, t1, t2⟩ := cells3 hy4
        clear hTB hB HO1 HO2 HO3 g0 g1 g2 g3 g4 g5
        clear wr
        have SK := Lib.hid (show ∀ V : World, Below Y.heap.size Y V → V.cell? ⟨TB, 0, none⟩ = some (.string ⟨(#[115, 121, 110, 116, 111, 110, 105, 99])⟩) ∧ V.cell? ⟨TB, 1, none⟩ = some (.int .i64 (q).n) ∧ V.cell? ⟨TB, 2, none⟩ = some (.int .i64 (q).d) ∧ Below Y.heap.size Y V from fun V h => ⟨cell_carry h t0, cell_carry h t1, cell_carry h t2, h⟩)
        have hRf : Below Y.heap.size Y Y := Below.refl _ _
        have hc0 := obj_new Y (.cells #[.int .i64 0, .int .i64 0, .int .i64 0, .int .i64 0, .int .i64 0, .int .i64 0] 45)
        go_region_held3 (fun V => V.cell? ⟨TB, 0, none⟩ = some (.string ⟨(#[115, 121, 110, 116, 111, 110, 105, 99])⟩) ∧ V.cell? ⟨TB, 1, none⟩ = some (.int .i64 (q).n) ∧ V.cell? ⟨TB, 2, none⟩ = some (.int .i64 (q).d) ∧ Below Y.heap.size Y V) (exact SK.out _ (by (repeat' (first | (with_reducible first | apply Zl1 | apply Zl2 | apply Zl3 | apply Zl4 | apply Zl5 | apply Zl6 | apply Zl7 | apply Zl8 | apply Zl9 | apply Zla | apply Zlb | apply Zlc) | (dsimp only; with_reducible first | apply Zl8 | apply Zl2 | apply Zld) | with_reducible assumption | omega | (dsimp only; omega))))) (first | (go_at_call 53; refine (HCN.out _).mono ?_; rintro _ _ ⟨rfl, u, rfl⟩; have hus := u.size_le) | (go_at_call 219; refine (HSC.out _).mono ?_; rintro _ _ ⟨rfl, v, rfl⟩; have hvs := v.size_le))
        · rename_i hHeld
          have hzy := hHeld.2.2.2
          have hzn := obj_new v.w (.cells #[.int .i64 less.a.n, .int .i64 less.a.d, .int .i64 less.b.n, .int .i64 less.b.d, .int .i64 less.c.n, .int .i64 less.c.d] 45)
          have hvl : Y.heap.size ≤ v.w.heap.size := by (repeat' (first | (with_reducible first | apply Zl1 | apply Zl2 | apply Zl3 | apply Zl4 | apply Zl5 | apply Zl6 | apply Zl7 | apply Zl8 | apply Zl9 | apply Zla | apply Zlb | apply Zlc) | (dsimp only; with_reducible first | apply Zl8 | apply Zl2 | apply Zld) | with_reducible assumption | omega | (dsimp only; omega)))
          clear hHeld hc0
          generalize v.w.alloc (.cells #[.int .i64 less.a.n, .int .i64 less.a.d, .int .i64 less.b.n, .int .i64 less.b.d, .int .i64 less.c.n, .int .i64 less.c.d] 45) = W at *
          generalize v.w.heap.size = LB at *
          clear hvs hus
          clear v
          clear u
          have hz1 := obj_below hzy (by omega) hy1
          have hz2 := obj_below hzy (by omega) hy2
          have hz3 := obj_below hzy (by omega) hy3
          have hzb := hyb.trans (hzy.mono hyb.size)
          have hlz := obj_lt hzn
          have hzw := hzy.size
          have HW1 := Lib.hid hz1
          have HW2 := Lib.hid hz2
          have HW3 := Lib.hid hz3
          have HWN := Lib.hid hzn
          have HWB := Lib.hid hzb
          obtain ⟨e0, e1, e2, e3, e4, e5⟩ := cells6 hzn
          obtain ⟨c0, c1, c2, c3, c4, c5⟩ := cells6 hz2
          clear hzn hz1 hz2 hz3 hzb hzy hy1 hy2 hy3 hy4 hyb SK hRf t0 t1 t2 HCN HSC
          by_cases hse : se = 0
          · have n0 : (se != 0) = false := by simpa using hse
            have HSE := Lib.hid hse
            have HSUB := Lib.hid (fun w' => isub_any s less w')
            rw [szV s, szV less] at HSUB
            obtain ⟨r, hr⟩ : ∃ r, opS subQ s less = r := ⟨_, rfl⟩
            obtain ⟨re, hre⟩ : ∃ re, opE subQ s less = re := ⟨_, rfl⟩
            rw [hr, hre, szV r] at HSUB
            have HR := Lib.hid hr
            have HRE := Lib.hid hre
            clear hse hr hre
            go_wp2_with fail
            (with_reducible refine (HSUB.out _).mono ?_)
            rintro _ _ ⟨rfl, d, rfl⟩
            have hds := d.size_le
            have hd1 := obj_bel d HW1.out
            have hd2 := obj_bel d HW2.out
            have hd3 := obj_bel d HW3.out
            have hdb : Below w.heap.size w d.w := HWB.out.trans (d.below.mono HWB.out.size)
            obtain ⟨D, hD⟩ : ∃ D, d.w = D := ⟨_, rfl⟩
            rw [hD] at hds hd1 hd2 hd3 hdb ⊢
            clear hD d
            clear e0 e1 e2 e3 e4 e5 c0 c1 c2 c3 c4 c5
            obtain ⟨f0, f1, f2, f3, f4, f5⟩ := froz6 hd2
            obtain ⟨e0, e1, e2, e3, e4, e5⟩ := cells6 hd2
            obtain ⟨b0, b1, b2, b3, b4, b5⟩ := froz6 hd1
            obtain ⟨c0, c1, c2, c3, c4, c5⟩ := cells6 hd1
            have HD1 := Lib.hid (obj_ne6 (.int .i64 r.a.n) (.int .i64 r.a.d) (.int .i64 r.b.n) (.int .i64 r.b.d) (.int .i64 r.c.n) (.int .i64 r.c.d) (show w.heap.size + 1 ≠ SB by omega) hd1)
            have HD2 := Lib.hid (obj_set6 (.int .i64 r.a.n) (.int .i64 r.a.d) (.int .i64 r.b.n) (.int .i64 r.b.d) (.int .i64 r.c.n) (.int .i64 r.c.d) hd2)
            have HD3 := Lib.hid (obj_ne6 (.int .i64 r.a.n) (.int .i64 r.a.d) (.int .i64 r.b.n) (.int .i64 r.b.d) (.int .i64 r.c.n) (.int .i64 r.c.d) (show RB ≠ SB by omega) hd3)
            have HDB := Lib.hid (below_set6 (.int .i64 r.a.n) (.int .i64 r.a.d) (.int .i64 r.b.n) (.int .i64 r.b.d) (.int .i64 r.c.n) (.int .i64 r.c.d) hdb (show w.heap.size ≤ SB by omega))
            have hD1l := obj_lt hd1
            clear hd1 hd2 hd3 HW1 HW2 HW3 HWN HWB
            dsimp only
            by_cases hre : re = 0
            · have n1 : (re != 0) = false := by simpa using hre
              have HNW : Hid (fiM s synS q = some r) := Lib.hid (by rw [fiM_ok (HFM.out.trans HSE.out) (by rw [HLS.out, HRE.out]; exact hre), HLS.out, HR.out])
              clear hre
              go_wp2_with fail
              go_roundw
              case rel => exact ⟨1 + 1, r, by omega, (fun h => by omega), (fun h => by omega), (fun _ => ⟨s, HJ1.out (by first | trivial | rfl), HNW.out⟩), rfl, HDB.out, HD1.out, HD2.out, HD3.out⟩
              case measure => simp [intOf]
            · have n1 : (re != 0) = true := by simpa using hre
              have HNO : Hid (fiM s synS q = none) := Lib.hid (fiM_no2 (HFM.out.trans HSE.out) (by rw [HLS.out, HRE.out]; exact hre))
              have HNR : Hid (fiS c i = none) := Lib.hid (((HF2.out s (HJ1.out (by first | trivial | rfl))).trans HNO.out))
              have hdbl := HDB.out
              clear hre
              go_wp2
              refine ret_obj (b := w.heap.size + 1) (vs := #[.int .i64 0, .int .i64 0, .int .i64 0, .int .i64 0, .int .i64 0, .int .i64 0]) (T := 45) (v := .tuple #[.agg #[.int .i64 0, .int .i64 0, .int .i64 0, .int .i64 0, .int .i64 0, .int .i64 0], .int .i64 4]) (obj_set6 _ _ _ _ _ _ HD1.out) (fun W' hW' => ?_) rfl ?_
              · obtain ⟨a0, a1, a2, a3, a4, a5⟩ := cells6 hW'
                simp [results, Tryz.results160, go_sem, a0, a1, a2, a3, a4, a5]
              · exact Ret.mk (by rw [← HRR.out, HNR.out]; rfl) (by (repeat' (first | (with_reducible first | apply Zl1 | apply Zl2 | apply Zl3 | apply Zl4 | apply Zl5 | apply Zl6 | apply Zl7 | apply Zl8 | apply Zl9 | apply Zla | apply Zlb | apply Zlc) | (dsimp only; with_reducible first | apply Zl8 | apply Zl2 | apply Zld) | with_reducible assumption | omega | (dsimp only; omega))))
          · have n0 : (se != 0) = true := by simpa using hse
            have HNO : Hid (fiM s synS q = none) := Lib.hid (fiM_no1 (by rw [HFM.out]; exact hse))
            have HNR : Hid (fiS c i = none) := Lib.hid (((HF2.out s (HJ1.out (by first | trivial | rfl))).trans HNO.out))
            have hw1o := HW1.out
            obtain ⟨b0, b1, b2, b3, b4, b5⟩ := froz6 hw1o
            obtain ⟨h0, h1, h2, h3, h4, h5⟩ := cells6 hw1o
            have hwbl := HWB.out
            clear hse hw1o
            go_wp2
            refine ret_obj (b := w.heap.size + 1) (vs := #[.int .i64 0, .int .i64 0, .int .i64 0, .int .i64 0, .int .i64 0, .int .i64 0]) (T := 45) (v := .tuple #[.agg #[.int .i64 0, .int .i64 0, .int .i64 0, .int .i64 0, .int .i64 0, .int .i64 0], .int .i64 4]) (obj_set6 _ _ _ _ _ _ HW1.out) (fun W' hW' => ?_) rfl ?_
            · obtain ⟨a0, a1, a2, a3, a4, a5⟩ := cells6 hW'
              simp [results, Tryz.results160, go_sem, a0, a1, a2, a3, a4, a5]
            · exact Ret.mk (by rw [← HRR.out, HNR.out]; rfl) (by (repeat' (first | (with_reducible first | apply Zl1 | apply Zl2 | apply Zl3 | apply Zl4 | apply Zl5 | apply Zl6 | apply Zl7 | apply Zl8 | apply Zl9 | apply Zla | apply Zlb | apply Zlc) | (dsimp only; with_reducible first | apply Zl8 | apply Zl2 | apply Zld) | with_reducible assumption | omega | (dsimp only; omega))))
        · rename_i hHeld
          have hzy := hHeld.2.2.2
          have hzn := obj_set6 (.int .i64 less.a.n) (.int .i64 less.a.d) (.int .i64 less.b.n) (.int .i64 less.b.d) (.int .i64 less.c.n) (.int .i64 less.c.d) (obj_bel v (obj_new u.w (.cells #[.int .i64 0, .int .i64 0, .int .i64 0, .int .i64 0, .int .i64 0, .int .i64 0] 45)))
          have hvl : Y.heap.size ≤ u.w.heap.size := by (repeat' (first | (with_reducible first | apply Zl1 | apply Zl2 | apply Zl3 | apply Zl4 | apply Zl5 | apply Zl6 | apply Zl7 | apply Zl8 | apply Zl9 | apply Zla | apply Zlb | apply Zlc) | (dsimp only; with_reducible first | apply Zl8 | apply Zl2 | apply Zld) | with_reducible assumption | omega | (dsimp only; omega)))
          clear hHeld hc0
          generalize ((((((v.w.setCell ⟨u.w.heap.size, 0, none⟩ (.int .i64 less.a.n)).setCell ⟨u.w.heap.size, 1, none⟩ (.int .i64 less.a.d)).setCell ⟨u.w.heap.size, 2, none⟩ (.int .i64 less.b.n)).setCell ⟨u.w.heap.size, 3, none⟩ (.int .i64 less.b.d)).setCell ⟨u.w.heap.size, 4, none⟩ (.int .i64 less.c.n)).setCell ⟨u.w.heap.size, 5, none⟩ (.int .i64 less.c.d)) = W at *
          generalize u.w.heap.size = LB at *
          clear hvs hus
          clear v
          clear u
          have hz1 := obj_below hzy (by omega) hy1
          have hz2 := obj_below hzy (by omega) hy2
          have hz3 := obj_below hzy (by omega) hy3
          have hzb := hyb.trans (hzy.mono hyb.size)
          have hlz := obj_lt hzn
          have hzw := hzy.size
          have HW1 := Lib.hid hz1
          have HW2 := Lib.hid hz2
          have HW3 := Lib.hid hz3
          have HWN := Lib.hid hzn
          have HWB := Lib.hid hzb
          obtain ⟨e0, e1, e2, e3, e4, e5⟩ := cells6 hzn
          obtain ⟨c0, c1, c2, c3, c4, c5⟩ := cells6 hz2
          clear hzn hz1 hz2 hz3 hzb hzy hy1 hy2 hy3 hy4 hyb SK hRf t0 t1 t2 HCN HSC
          by_cases hse : se = 0
          · have n0 : (se != 0) = false := by simpa using hse
            have HSE := Lib.hid hse
            have HSUB := Lib.hid (fun w' => isub_any s less w')
            rw [szV s, szV less] at HSUB
            obtain ⟨r, hr⟩ : ∃ r, opS subQ s less = r := ⟨_, rfl⟩
            obtain ⟨re, hre⟩ : ∃ re, opE subQ s less = re := ⟨_, rfl⟩
            rw [hr, hre, szV r] at HSUB
            have HR := Lib.hid hr
            have HRE := Lib.hid hre
            clear hse hr hre
            go_wp2_with fail
            (with_reducible refine (HSUB.out _).mono ?_)
            rintro _ _ ⟨rfl, d, rfl⟩
            have hds := d.size_le
            have hd1 := obj_bel d HW1.out
            have hd2 := obj_bel d HW2.out
            have hd3 := obj_bel d HW3.out
            have hdb : Below w.heap.size w d.w := HWB.out.trans (d.below.mono HWB.out.size)
            obtain ⟨D, hD⟩ : ∃ D, d.w = D := ⟨_, rfl⟩
            rw [hD] at hds hd1 hd2 hd3 hdb ⊢
            clear hD d
            clear e0 e1 e2 e3 e4 e5 c0 c1 c2 c3 c4 c5
            obtain ⟨f0, f1, f2, f3, f4, f5⟩ := froz6 hd2
            obtain ⟨e0, e1, e2, e3, e4, e5⟩ := cells6 hd2
            obtain ⟨b0, b1, b2, b3, b4, b5⟩ := froz6 hd1
            obtain ⟨c0, c1, c2, c3, c4, c5⟩ := cells6 hd1
            have HD1 := Lib.hid (obj_ne6 (.int .i64 r.a.n) (.int .i64 r.a.d) (.int .i64 r.b.n) (.int .i64 r.b.d) (.int .i64 r.c.n) (.int .i64 r.c.d) (show w.heap.size + 1 ≠ SB by omega) hd1)
            have HD2 := Lib.hid (obj_set6 (.int .i64 r.a.n) (.int .i64 r.a.d) (.int .i64 r.b.n) (.int .i64 r.b.d) (.int .i64 r.c.n) (.int .i64 r.c.d) hd2)
            have HD3 := Lib.hid (obj_ne6 (.int .i64 r.a.n) (.int .i64 r.a.d) (.int .i64 r.b.n) (.int .i64 r.b.d) (.int .i64 r.c.n) (.int .i64 r.c.d) (show RB ≠ SB by omega) hd3)
            have HDB := Lib.hid (below_set6 (.int .i64 r.a.n) (.int .i64 r.a.d) (.int .i64 r.b.n) (.int .i64 r.b.d) (.int .i64 r.c.n) (.int .i64 r.c.d) hdb (show w.heap.size ≤ SB by omega))
            have hD1l := obj_lt hd1
            clear hd1 hd2 hd3 HW1 HW2 HW3 HWN HWB
            dsimp only
            by_cases hre : re = 0
            · have n1 : (re != 0) = false := by simpa using hre
              have HNW : Hid (fiM s synS q = some r) := Lib.hid (by rw [fiM_ok (HFM.out.trans HSE.out) (by rw [HLS.out, HRE.out]; exact hre), HLS.out, HR.out])
              clear hre
              go_wp2_with fail
              go_roundw
              case rel => exact ⟨1 + 1, r, by omega, (fun h => by omega), (fun h => by omega), (fun _ => ⟨s, HJ1.out (by first | trivial | rfl), HNW.out⟩), rfl, HDB.out, HD1.out, HD2.out, HD3.out⟩
              case measure => simp [intOf]
            · have n1 : (re != 0) = true := by simpa using hre
              have HNO : Hid (fiM s synS q = none) := Lib.hid (fiM_no2 (HFM.out.trans HSE.out) (by rw [HLS.out, HRE.out]; exact hre))
              have HNR : Hid (fiS c i = none) := Lib.hid (((HF2.out s (HJ1.out (by first | trivial | rfl))).trans HNO.out))
              have hdbl := HDB.out
              clear hre
              go_wp2
              refine ret_obj (b := w.heap.size + 1) (vs := #[.int .i64 0, .int .i64 0, .int .i64 0, .int .i64 0, .int .i64 0, .int .i64 0]) (T := 45) (v := .tuple #[.agg #[.int .i64 0, .int .i64 0, .int .i64 0, .int .i64 0, .int .i64 0, .int .i64 0], .int .i64 4]) (obj_set6 _ _ _ _ _ _ HD1.out) (fun W' hW' => ?_) rfl ?_
              · obtain ⟨a0, a1, a2, a3, a4, a5⟩ := cells6 hW'
                simp [results, Tryz.results160, go_sem, a0, a1, a2, a3, a4, a5]
              · exact Ret.mk (by rw [← HRR.out, HNR.out]; rfl) (by (repeat' (first | (with_reducible first | apply Zl1 | apply Zl2 | apply Zl3 | apply Zl4 | apply Zl5 | apply Zl6 | apply Zl7 | apply Zl8 | apply Zl9 | apply Zla | apply Zlb | apply Zlc) | (dsimp only; with_reducible first | apply Zl8 | apply Zl2 | apply Zld) | with_reducible assumption | omega | (dsimp only; omega))))
          · have n0 : (se != 0) = true := by simpa using hse
            have HNO : Hid (fiM s synS q = none) := Lib.hid (fiM_no1 (by rw [HFM.out]; exact hse))
            have HNR : Hid (fiS c i = none) := Lib.hid (((HF2.out s (HJ1.out (by first | trivial | rfl))).trans HNO.out))
            have hw1o := HW1.out
            obtain ⟨b0, b1, b2, b3, b4, b5⟩ := froz6 hw1o
            obtain ⟨h0, h1, h2, h3, h4, h5⟩ := cells6 hw1o
            have hwbl := HWB.out
            clear hse hw1o
            go_wp2
            refine ret_obj (b := w.heap.size + 1) (vs := #[.int .i64 0, .int .i64 0, .int .i64 0, .int .i64 0, .int .i64 0, .int .i64 0]) (T := 45) (v := .tuple #[.agg #[.int .i64 0, .int .i64 0, .int .i64 0, .int .i64 0, .int .i64 0, .int .i64 0], .int .i64 4]) (obj_set6 _ _ _ _ _ _ HW1.out) (fun W' hW' => ?_) rfl ?_
            · obtain ⟨a0, a1, a2, a3, a4, a5⟩ := cells6 hW'
              simp [results, Tryz.results160, go_sem, a0, a1, a2, a3, a4, a5]
            · exact Ret.mk (by rw [← HRR.out, HNR.out]; rfl) (by (repeat' (first | (with_reducible first | apply Zl1 | apply Zl2 | apply Zl3 | apply Zl4 | apply Zl5 | apply Zl6 | apply Zl7 | apply Zl8 | apply Zl9 | apply Zla | apply Zlb | apply Zlc) | (dsimp only; with_reducible first | apply Zl8 | apply Zl2 | apply Zld) | with_reducible assumption | omega | (dsimp only; omega))))
        · rename_i hHeld
          have hzy := hHeld.2.2.2
          rw [hyz] at hc0
          have hzn := obj_set6 (.int .i64 less.a.n) (.int .i64 less.a.d) (.int .i64 less.b.n) (.int .i64 less.b.d) (.int .i64 less.c.n) (.int .i64 less.c.d) (obj_bel v (obj_bel u hc0))
          have hvl : Y.heap.size ≤ TB + 1 := by omega
          clear hHeld hc0
          generalize ((((((v.w.setCell ⟨TB + 1, 0, none⟩ (.int .i64 less.a.n)).setCell ⟨TB + 1, 1, none⟩ (.int .i64 less.a.d)).setCell ⟨TB + 1, 2, none⟩ (.int .i64 less.b.n)).setCell ⟨TB + 1, 3, none⟩ (.int .i64 less.b.d)).setCell ⟨TB + 1, 4, none⟩ (.int .i64 less.c.n)).setCell ⟨TB + 1, 5, none⟩ (.int .i64 less.c.d)) = W at *
          clear hvs hus
          clear v
          clear u
          obtain ⟨LB, hLB⟩ : ∃ LB, TB + 1 = LB := ⟨_, rfl⟩
          rw [hLB] at hzn hvl ⊢
          clear hLB
          have hz1 := obj_below hzy (by omega) hy1
          have hz2 := obj_below hzy (by omega) hy2
          have hz3 := obj_below hzy (by omega) hy3
          have hzb := hyb.trans (hzy.mono hyb.size)
          have hlz := obj_lt hzn
          have hzw := hzy.size
          have HW1 := Lib.hid hz1
          have HW2 := Lib.hid hz2
          have HW3 := Lib.hid hz3
          have HWN := Lib.hid hzn
          have HWB := Lib.hid hzb
          obtain ⟨e0, e1, e2, e3, e4, e5⟩ := cells6 hzn
          obtain ⟨c0, c1, c2, c3, c4, c5⟩ := cells6 hz2
          clear hzn hz1 hz2 hz3 hzb hzy hy1 hy2 hy3 hy4 hyb SK hRf t0 t1 t2 HCN HSC
          by_cases hse : se = 0
          · have n0 : (se != 0) = false := by simpa using hse
            have HSE := Lib.hid hse
            have HSUB := Lib.hid (fun w' => isub_any s less w')
            rw [szV s, szV less] at HSUB
            obtain ⟨r, hr⟩ : ∃ r, opS subQ s less = r := ⟨_, rfl⟩
            obtain ⟨re, hre⟩ : ∃ re, opE subQ s less = re := ⟨_, rfl⟩
            rw [hr, hre, szV r] at HSUB
            have HR := Lib.hid hr
            have HRE := Lib.hid hre
            clear hse hr hre
            go_wp2_with fail
            (with_reducible refine (HSUB.out _).mono ?_)
            rintro _ _ ⟨rfl, d, rfl⟩
            have hds := d.size_le
            have hd1 := obj_bel d HW1.out
            have hd2 := obj_bel d HW2.out
            have hd3 := obj_bel d HW3.out
            have hdb : Below w.heap.size w d.w := HWB.out.trans (d.below.mono HWB.out.size)
            obtain ⟨D, hD⟩ : ∃ D, d.w = D := ⟨_, rfl⟩
            rw [hD] at hds hd1 hd2 hd3 hdb ⊢
            clear hD d
            clear e0 e1 e2 e3 e4 e5 c0 c1 c2 c3 c4 c5
            obtain ⟨f0, f1, f2, f3, f4, f5⟩ := froz6 hd2
            obtain ⟨e0, e1, e2, e3, e4, e5⟩ := cells6 hd2
            obtain ⟨b0, b1, b2, b3, b4, b5⟩ := froz6 hd1
            obtain ⟨c0, c1, c2, c3, c4, c5⟩ := cells6 hd1
            have HD1 := Lib.hid (obj_ne6 (.int .i64 r.a.n) (.int .i64 r.a.d) (.int .i64 r.b.n) (.int .i64 r.b.d) (.int .i64 r.c.n) (.int .i64 r.c.d) (show w.heap.size + 1 ≠ SB by omega) hd1)
            have HD2 := Lib.hid (obj_set6 (.int .i64 r.a.n) (.int .i64 r.a.d) (.int .i64 r.b.n) (.int .i64 r.b.d) (.int .i64 r.c.n) (.int .i64 r.c.d) hd2)
            have HD3 := Lib.hid (obj_ne6 (.int .i64 r.a.n) (.int .i64 r.a.d) (.int .i64 r.b.n) (.int .i64 r.b.d) (.int .i64 r.c.n) (.int .i64 r.c.d) (show RB ≠ SB by omega) hd3)
            have HDB := Lib.hid (below_set6 (.int .i64 r.a.n) (.int .i64 r.a.d) (.int .i64 r.b.n) (.int .i64 r.b.d) (.int .i64 r.c.n) (.int .i64 r.c.d) hdb (show w.heap.size ≤ SB by omega))
            have hD1l := obj_lt hd1
            clear hd1 hd2 hd3 HW1 HW2 HW3 HWN HWB
            dsimp only
            by_cases hre : re = 0
            · have n1 : (re != 0) = false := by simpa using hre
              have HNW : Hid (fiM s synS q = some r) := Lib.hid (by rw [fiM_ok (HFM.out.trans HSE.out) (by rw [HLS.out, HRE.out]; exact hre), HLS.out, HR.out])
              clear hre
              go_wp2_with fail
              go_roundw
              case rel => exact ⟨1 + 1, r, by omega, (fun h => by omega), (fun h => by omega), (fun _ => ⟨s, HJ1.out (by first | trivial | rfl), HNW.out⟩), rfl, HDB.out, HD1.out, HD2.out, HD3.out⟩
              case measure => simp [intOf]
            · have n1 : (re != 0) = true := by simpa using hre
              have HNO : Hid (fiM s synS q = none) := Lib.hid (fiM_no2 (HFM.out.trans HSE.out) (by rw [HLS.out, HRE.out]; exact hre))
              have HNR : Hid (fiS c i = none) := Lib.hid (((HF2.out s (HJ1.out (by first | trivial | rfl))).trans HNO.out))
              have hdbl := HDB.out
              clear hre
              go_wp2
              refine ret_obj (b := w.heap.size + 1) (vs := #[.int .i64 0, .int .i64 0, .int .i64 0, .int .i64 0, .int .i64 0, .int .i64 0]) (T := 45) (v := .tuple #[.agg #[.int .i64 0, .int .i64 0, .int .i64 0, .int .i64 0, .int .i64 0, .int .i64 0], .int .i64 4]) (obj_set6 _ _ _ _ _ _ HD1.out) (fun W' hW' => ?_) rfl ?_
              · obtain ⟨a0, a1, a2, a3, a4, a5⟩ := cells6 hW'
                simp [results, Tryz.results160, go_sem, a0, a1, a2, a3, a4, a5]
              · exact Ret.mk (by rw [← HRR.out, HNR.out]; rfl) (by (repeat' (first | (with_reducible first | apply Zl1 | apply Zl2 | apply Zl3 | apply Zl4 | apply Zl5 | apply Zl6 | apply Zl7 | apply Zl8 | apply Zl9 | apply Zla | apply Zlb | apply Zlc) | (dsimp only; with_reducible first | apply Zl8 | apply Zl2 | apply Zld) | with_reducible assumption | omega | (dsimp only; omega))))
          · have n0 : (se != 0) = true := by simpa using hse
            have HNO : Hid (fiM s synS q = none) := Lib.hid (fiM_no1 (by rw [HFM.out]; exact hse))
            have HNR : Hid (fiS c i = none) := Lib.hid (((HF2.out s (HJ1.out (by first | trivial | rfl))).trans HNO.out))
            have hw1o := HW1.out
            obtain ⟨b0, b1, b2, b3, b4, b5⟩ := froz6 hw1o
            obtain ⟨h0, h1, h2, h3, h4, h5⟩ := cells6 hw1o
            have hwbl := HWB.out
            clear hse hw1o
            go_wp2
            refine ret_obj (b := w.heap.size + 1) (vs := #[.int .i64 0, .int .i64 0, .int .i64 0, .int .i64 0, .int .i64 0, .int .i64 0]) (T := 45) (v := .tuple #[.agg #[.int .i64 0, .int .i64 0, .int .i64 0, .int .i64 0, .int .i64 0, .int .i64 0], .int .i64 4]) (obj_set6 _ _ _ _ _ _ HW1.out) (fun W' hW' => ?_) rfl ?_
            · obtain ⟨a0, a1, a2, a3, a4, a5⟩ := cells6 hW'
              simp [results, Tryz.results160, go_sem, a0, a1, a2, a3, a4, a5]
            · exact Ret.mk (by rw [← HRR.out, HNR.out]; rfl) (by (repeat' (first | (with_reducible first | apply Zl1 | apply Zl2 | apply Zl3 | apply Zl4 | apply Zl5 | apply Zl6 | apply Zl7 | apply Zl8 | apply Zl9 | apply Zla | apply Zlb | apply Zlc) | (dsimp only; with_reducible first | apply Zl8 | apply Zl2 | apply Zld) | with_reducible assumption | omega | (dsimp only; omega))))
    · obtain rfl : j = 2 := by omega
      obtain ⟨s1, z1, z2⟩ := HJ2.out (by first | trivial | rfl)
      have HNR : Hid (fiS c i = some s) := Lib.hid ((HF2.out s1 z1).trans z2)
      obtain ⟨e0, e1, e2, e3, e4, e5⟩ := cells6 ho2
      obtain ⟨b0, b1, b2, b3, b4, b5⟩ := froz6 ho1
      obtain ⟨h0, h1, h2, h3, h4, h5⟩ := cells6 ho1
      clear hj2 hj ho1 ho2 ho3 z1 z2
      go_wp2
      refine ret_obj (b := w.heap.size + 1) (vs := #[.int .i64 s.a.n, .int .i64 s.a.d, .int .i64 s.b.n, .int .i64 s.b.d, .int .i64 s.c.n, .int .i64 s.c.d]) (T := 45) (v := .tuple #[.agg #[.int .i64 s.a.n, .int .i64 s.a.d, .int .i64 s.b.n, .int .i64 s.b.d, .int .i64 s.c.n, .int .i64 s.c.d], .int .i64 0]) (obj_set6 _ _ _ _ _ _ HO1.out) (fun W' hW' => ?_) rfl ?_
      · obtain ⟨a0, a1, a2, a3, a4, a5⟩ := cells6 hW'
        simp [results, Tryz.results160, go_sem, a0, a1, a2, a3, a4, a5]
      · exact Ret.mk (by rw [← HRR.out, HNR.out]; rfl) (by (repeat' (first | (with_reducible first | apply Zl1 | apply Zl2 | apply Zl3 | apply Zl4 | apply Zl5 | apply Zl6 | apply Zl7 | apply Zl8 | apply Zl9 | apply Zla | apply Zlb | apply Zlc) | (dsimp only; with_reducible first | apply Zl8 | apply Zl2 | apply Zld) | with_reducible assumption | omega | (dsimp only; omega))))
end Go.Proofs.YtehgeoipbgpocaaGreatDoor
