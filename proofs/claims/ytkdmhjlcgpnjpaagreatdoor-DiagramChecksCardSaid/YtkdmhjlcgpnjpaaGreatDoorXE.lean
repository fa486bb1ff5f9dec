/- Combining diagrams: checks, newBuilder, combine. The functions that combine places. -/
import Derived.Test.YtkdmhjlcgpnjpaaGreatDoorXD
import Derived.Test.YtkdmhjlcgpnjpaaGreatDoorX8
import Derived.Test.YtkdmhjlcgpnjpaaGreatDoorX9
namespace Go.Proofs.YtkdmhjlcgpnjpaaGreatDoor
set_option linter.unusedVariables false
set_option linter.unusedSimpArgs false
open Go.RowKit Go.Maps
attribute [local go_sem low] Bel.cell Bel.frozen alloc_cell alloc_frozen
attribute [local go_sem] calmOp chainOp yieldsC grows
variable {rk : Nat → Nat}

/-- A diagram that is an argument: address and capacity, nodes, root. -/
abbrev DI := Option Addr × Nat × List (Int × Int × Int) × Int
def DIok (w : World) (x : DI) : Prop := InD w.heap.size w x.1 x.2.2.1 ∧ InI x.2.2.1 ∧ x.2.2.1.length ≤ 50000 ∧ inI x.2.2.2
def DIs (w : World) (g off : Nat) (ds : List DI) : Prop := ∀ (j : Nat) (x : DI), ds[j]? = some x → w.cell? ⟨g, off + j * 2, none⟩ = some (.slice x.1 x.2.2.1.length x.2.1) ∧ w.cell? ⟨g, off + j * 2 + 1, none⟩ = some (.int .i64 x.2.2.2)
/-- The first error of diagrams. -/
def firstD : List DI → Nat
  | [] => 0
  | x :: r => if chkD x.2.2.1 x.2.2.2 = 0 then firstD r else chkD x.2.2.1 x.2.2.2
theorem firstD_at : ∀ (ds : List DI) (k : Nat), (∀ (j : Nat) (x : DI), j < k → ds[j]? = some x → chkD x.2.2.1 x.2.2.2 = 0) → firstD ds = firstD (ds.drop k)
  | ds, 0, _ => rfl
  | [], k + 1, _ => rfl
  | x :: r, k + 1, h => by
    rw [firstD, if_pos (h 0 x (by omega) rfl), firstD_at r k fun j y hj hy => h (j + 1) y (by omega) (by simpa using hy)]
    rfl
theorem DIok.of {w w' : World} {x : DI} (h : DIok w x) (hb : Below w.heap.size w w') : DIok w' x := ⟨(h.1.of hb).up hb.size, h.2⟩
theorem DIs.of {w w' : World} {g off : Nat} {ds : List DI} (h : DIs w g off ds) (hb : Below w.heap.size w w') : DIs w' g off ds := fun j x hx => ⟨cell_in hb (h j x hx).1, cell_in hb (h j x hx).2⟩
set_option maxRecDepth 100000 in
set_option maxHeartbeats 6400000 in
theorem checks_any (ds : List DI) (g off c : Nat) (w : World) (hok : ∀ x ∈ ds, DIok w x) (hds : DIs w g off ds) (hl : ds.length ≤ 1000000) :
    Calls Tryz.prog 95 #[.slice (some ⟨g, off, none⟩) ds.length c] w (Ret (.int .i64 (firstD ds : Nat)) w) := by
  have HOK := Lib.hid hok
  have HDS := Lib.hid hds
  obtain ⟨q, hq⟩ : ∃ q, firstD ds = q := ⟨_, rfl⟩
  rw [hq]
  have HQ := Lib.hid hq
  clear hok hds hq
  go_enter Tryz.func95, Tryz.ntmps95
  go_wp2
  go_loopw [8] (fun iv wr => ∃ k : Nat, iv = .int .i64 (k : Int) ∧ k ≤ ds.length ∧ (∀ (j : Nat) (x : DI), j < k → ds[j]? = some x → chkD x.2.2.1 x.2.2.2 = 0) ∧ Below w.heap.size w wr) (fun iv _ => ds.length - (intOf iv).toNat)
  case atStart => exact ⟨0, rfl, by omega, fun j x hj => by omega, Below.refl _ _⟩
  case round =>
    obtain ⟨k, rfl, hk, hz, hbe⟩ := hrel
    have HZ := Lib.hid hz
    have hfd := firstD_at ds k hz
    rw [HQ.out] at hfd
    have HFD := Lib.hid hfd
    clear hz hfd
    have hsz := hbe.size
    rcases Nat.lt_or_ge k ds.length with hkl | hkl
    · obtain ⟨x, hx⟩ : ∃ x, ds[k]? = some x := ⟨_, List.getElem?_eq_getElem hkl⟩
      obtain ⟨c0, c1⟩ := HDS.out.of hbe k x hx
      obtain ⟨o1, o2, o3, o4⟩ := (HOK.out x (List.mem_of_getElem? hx)).of hbe
      have HX := Lib.hid hx
      obtain ⟨ad, cap, L, r⟩ := x
      dsimp only at c0 c1 o1 o2 o3 o4
      have HC := Lib.hid (fun w' (hb : Below wr.heap.size wr w') => dCheck_any L o2 o3 ad cap r o4 w' ((o1.of hb).up hb.size))
      have f0 : decide ((k : Int) < (ds.length : Int)) = true := decide_eq_true (by omega)
      have hib : (0 ≤ (k : Int) ∧ (k : Int) < (ds.length : Int)) := ⟨by omega, by omega⟩
      have hdr := drop_at hx
      obtain ⟨p, hp⟩ : ∃ p, chkD L r = p := ⟨_, rfl⟩
      rw [hp] at HC
      have HP := Lib.hid hp
      have HDR := Lib.hid hdr
      clear hx o1 o2 o3 o4 hp hdr
      by_cases h0 : p = 0
      · subst h0
        go_wp2_with fail
        refine (HC.out _ (by (repeat' (first | (with_reducible first | exact Below.refl _ _ | exact Nat.le_refl _ | refine Below.bel ?_ ?_ | refine Below.alloc ?_ ?_ _ | refine Below.drew ?_ | refine Below.drawsN ?_ _ | refine Below.setCell ?_ ?_ _ | refine le_bel ?_ | refine le_alloc ?_ | refine le_setCell ?_ | refine le_drew ?_ | refine le_drawsN ?_) | (dsimp only; with_reducible first | refine le_bel ?_ | refine Nat.le_refl _ | refine le_bel_add ?_) | (with_reducible assumption) | omega | (dsimp only; omega))))).mono ?_
        rintro _ _ ⟨rfl, y1, rfl⟩
        dsimp only
        go_wp2
        go_roundw
        case rel =>
          refine ⟨k + 1, by go_num, by omega, fun j y hj hy => ?_, by (repeat' (first | (with_reducible first | exact Below.refl _ _ | exact Nat.le_refl _ | refine Below.bel ?_ ?_ | refine Below.alloc ?_ ?_ _ | refine Below.drew ?_ | refine Below.drawsN ?_ _ | refine Below.setCell ?_ ?_ _ | refine le_bel ?_ | refine le_alloc ?_ | refine le_setCell ?_ | refine le_drew ?_ | refine le_drawsN ?_) | (dsimp only; with_reducible first | refine le_bel ?_ | refine Nat.le_refl _ | refine le_bel_add ?_) | (with_reducible assumption) | omega | (dsimp only; omega)))⟩
          by_cases e : j = k
          · subst e
            rw [HX.out] at hy
            injection hy with hy
            subst hy
            exact HP.out
          · exact HZ.out j y (by omega) hy
        case measure => simp [intOf]; omega
      · have hqp : q = p := by
          have := HFD.out
          rw [HDR.out, firstD, if_neg (by dsimp only; rw [HP.out]; exact h0)] at this
          dsimp only at this
          rw [HP.out] at this
          exact this
        subst hqp
        have f2 : ((q : Int) != 0) = true := by simp; omega
        go_wp2_with fail
        refine (HC.out _ (by (repeat' (first | (with_reducible first | exact Below.refl _ _ | exact Nat.le_refl _ | refine Below.bel ?_ ?_ | refine Below.alloc ?_ ?_ _ | refine Below.drew ?_ | refine Below.drawsN ?_ _ | refine Below.setCell ?_ ?_ _ | refine le_bel ?_ | refine le_alloc ?_ | refine le_setCell ?_ | refine le_drew ?_ | refine le_drawsN ?_) | (dsimp only; with_reducible first | refine le_bel ?_ | refine Nat.le_refl _ | refine le_bel_add ?_) | (with_reducible assumption) | omega | (dsimp only; omega))))).mono ?_
        rintro _ _ ⟨rfl, y1, rfl⟩
        dsimp only
        go_wp2
        go_ret
        exact Ret.mk (by rfl) (by (repeat' (first | (with_reducible first | exact Below.refl _ _ | exact Nat.le_refl _ | refine Below.bel ?_ ?_ | refine Below.alloc ?_ ?_ _ | refine Below.drew ?_ | refine Below.drawsN ?_ _ | refine Below.setCell ?_ ?_ _ | refine le_bel ?_ | refine le_alloc ?_ | refine le_setCell ?_ | refine le_drew ?_ | refine le_drawsN ?_) | (dsimp only; with_reducible first | refine le_bel ?_ | refine Nat.le_refl _ | refine le_bel_add ?_) | (with_reducible assumption) | omega | (dsimp only; omega))))
    · have hke : k = ds.length := by omega
      subst hke
      have hq0 : q = 0 := by
        have := HFD.out
        rw [List.drop_length] at this
        exact this
      subst hq0
      have f0 : decide ((ds.length : Int) < (ds.length : Int)) = false := decide_eq_false (by omega)
      go_wp2
      go_ret
      exact Ret.mk (by rfl) (by (repeat' (first | (with_reducible first | exact Below.refl _ _ | exact Nat.le_refl _ | refine Below.bel ?_ ?_ | refine Below.alloc ?_ ?_ _ | refine Below.drew ?_ | refine Below.drawsN ?_ _ | refine Below.setCell ?_ ?_ _ | refine le_bel ?_ | refine le_alloc ?_ | refine le_setCell ?_ | refine le_drew ?_ | refine le_drawsN ?_) | (dsimp only; with_reducible first | refine le_bel ?_ | refine Nat.le_refl _ | refine le_bel_add ?_) | (with_reducible assumption) | omega | (dsimp only; omega))))
theorem dist_new (n : Nat) : n + 2 ≠ n ∧ n + 2 ≠ n + 1 ∧ n ≠ n + 1 ∧ n ≤ n + 2 ∧ n ≤ n ∧ n ≤ n + 1 ∧ n + 2 < n + 3 ∧ n < n + 3 ∧ n + 1 < n + 3 ∧ n + 3 ≤ n + 3 := by omega
set_option maxRecDepth 100000 in
theorem newBuilder_any (rk : Nat → Nat) (w : World) : Calls Tryz.prog 45 #[] w (fun e w' => e = .returned (.pointer (some ⟨w.heap.size + 2, 0, none⟩)) ∧ Bld rk w' w.heap.size (w.heap.size + 2) w.heap.size (w.heap.size + 1) (w.heap.size + 3) (.slice none 0 0) [] 0 ∧ Below w.heap.size w w') := by
  have hmm := @run_makeMap Tryz.prog
  go_enter Tryz.func45, Tryz.ntmps45
  go_wp2
  have a0 := funM_made w Tryz.prog 55 3
  obtain ⟨w1, e1⟩ : ∃ w1, w.alloc (.map #[] 0) = w1 := ⟨_, rfl⟩
  have s1 : w1.heap.size = w.heap.size + 1 := by rw [← e1, World.size_alloc]
  rw [e1] at a0 ⊢
  have b0 := a0.heap (w' := w1.alloc (.map #[] 0)) fun o ho => obj_alloc _ ho
  have b1 := funM_made w1 Tryz.prog 149 3
  obtain ⟨w2, e2⟩ : ∃ w2, w1.alloc (.map #[] 0) = w2 := ⟨_, rfl⟩
  have s2 : w2.heap.size = w.heap.size + 1 + 1 := by rw [← e2, World.size_alloc, s1]
  rw [s1] at b1
  rw [e2] at b0 b1 ⊢
  have c2 := World.alloc_heap_new w2 (.cells #[.slice none 0 0, .map (some w.heap.size), .map (some (w.heap.size + 1)), .bool false] 141 (0, 0))
  rw [s2] at c2
  refine bodyPost_ret (v := .pointer (some ⟨w.heap.size + 1 + 1, 0, none⟩)) (by simp [results, Tryz.results45, go_sem]) rfl ⟨rfl, ⟨c2, ownD_nil _ _ _, ⟨0, fun _ => none, b0.heap fun o ho => obj_alloc _ ho, Nat.le_refl _, fun i x hx => by simp at hx, fun x z hz => by cases hz⟩, ⟨0, fun _ => none, b1.heap fun o ho => obj_alloc _ ho, Nat.le_refl _, fun x z hz => by cases hz⟩, good_nil, fun x hx => (by cases hx), ?_⟩, ?_⟩
  · have h := dist_new w.heap.size
    rw [World.size_alloc, s2]
    omega
  · have h1 : Below w.heap.size w w1 := by rw [← e1]; exact (Below.refl _ w).alloc (Nat.le_refl _) _
    have h2 : Below w.heap.size w w2 := by rw [← e2]; exact h1.alloc (by omega) _
    exact h2.alloc (by omega) _
/-- A diagram that is an argument, and right. -/
abbrev DN := Option Addr × Nat × List (Nat × Nat × Nat) × Nat
def toI (x : DN) : DI := (x.1, x.2.1, x.2.2.1.map z3, (x.2.2.2 : Int))
structure DNok (rk : Nat → Nat) (w : World) (x : DN) : Prop where
  ind : InD w.heap.size w x.1 (x.2.2.1.map z3)
  good : Good x.2.2.1
  vars : ∀ y ∈ x.2.2.1, VarOk rk y.1
  len : x.2.2.1.length ≤ 50000
  root : x.2.2.2 < x.2.2.1.length + 2
  chk : chkD (x.2.2.1.map z3) (x.2.2.2 : Int) = 0
theorem inI_nat {n : Nat} (h : n ≤ 1000000) : inI (n : Int) := ⟨by omega, by omega⟩
theorem DNok.di {w : World} {x : DN} (h : DNok rk w x) : DIok w (toI x) := by
  refine ⟨h.ind, fun y hy => ?_, by show (x.2.2.1.map z3).length ≤ 50000; rw [List.length_map]; exact h.len, inI_nat (by have := h.root; have := h.len; omega)⟩
  obtain ⟨z, hz, rfl⟩ := List.mem_map.1 hy
  obtain ⟨i, hi⟩ := List.mem_iff_getElem?.1 hz
  obtain ⟨a1, a2, a3, _⟩ := h.good i z hi
  have hil := (List.getElem?_eq_some_iff.1 hi).1
  have := h.len
  exact ⟨inI_nat (by omega), inI_nat (by omega), inI_nat (by omega)⟩
theorem DNok.of {w w' : World} {x : DN} (h : DNok rk w x) (hb : Below w.heap.size w w') : DNok rk w' x := ⟨(h.ind.of hb).up hb.size, h.good, h.vars, h.len, h.root, h.chk⟩
/-- What a function that combines places returns. -/
def RetW (rk : Nat → Nat) (b0 B mp md base : Nat) (N : List (Nat × Nat × Nat)) (w : World) (c : Nat) (S : (Nat → Bool) → Bool) (e : Ending) (w' : World) : Prop :=
  ∃ (p : Nat) (v' : Value) (M : List (Nat × Nat × Nat)) (D' : Nat), e = .returned (.int .i64 (p : Int)) ∧ Bld rk w' b0 B mp md base v' (N ++ M) D' ∧ Below b0 w w' ∧ M.length ≤ c ∧ p < (N ++ M).length + 2 ∧ ∀ ρ, val3 ρ (N ++ M) p = S ρ
theorem RetB.w {b0 B mp md base : Nat} {v : Value} {N : List (Nat × Nat × Nat)} {D a c : Nat} {w w' : World} {S : (Nat → Bool) → Bool} {e : Ending} (h : RetB rk b0 B mp md base v N D w a c S e w') : RetW rk b0 B mp md base N w a S e w' := by
  obtain ⟨p, v', M, h1, h2, h3, h4, h5, h6⟩ := h
  exact ⟨p, v', M, _, h1, h2, h3.below, h4, h5, h6⟩
/-- A diagram, when a block before its own turns. -/
theorem InD.set {n0 : Nat} {w : World} {ad : Option Addr} {L : List (Int × Int × Int)} {b i n : Nat} {x : Value} (h : InD n0 w ad L) (hf : ∀ g off k, ad = some ⟨g, off, k⟩ → n ≤ g) (hb : b < n) : InD n0 (w.setCell ⟨b, i, none⟩ x) ad L := fun hl => by
  obtain ⟨g, off, he, hg, hc⟩ := h hl
  have hgn := hf g off none he
  refine ⟨g, off, he, hg, fun j y hj => ?_⟩
  have e : ∀ o : Nat, (w.setCell ⟨b, i, none⟩ x).cell? ⟨g, o, none⟩ = w.cell? ⟨g, o, none⟩ := fun o => World.cell?_of_block (Below.heap_setCell _ _ _ _ (fun e => by first | omega | (dsimp only at e; omega)))
  rw [e, e, e]
  exact hc j y hj
theorem Bld.grow {w w' : World} {b0 B mp md base : Nat} {v : Value} {N : List (Nat × Nat × Nat)} {D : Nat} (h : Bld rk w b0 B mp md base v N D) {row : Option Nat} (hg : w.grownBy w' row) (hb : ∀ g, row = some g → base ≤ g) (hv : ∀ g, row = some g → v.ownBlock ≠ some g) : Bld rk w' b0 B mp md base v N D := by
  cases row with
  | none => exact h.bel ((Below.refl _ w).grown hg (Nat.le_refl _) (fun k hk => by cases hk))
  | some g => exact h.row hg (hb g rfl) (hv g rfl)
/-- What combine returns: the diagram of a place with some values. -/
def RetC (rk : Nat → Nat) (n : Nat) (S : (Nat → Bool) → Bool) (w : World) (e : Ending) (w' : World) : Prop :=
  ∃ (N : List (Nat × Nat × Nat)) (p : Nat), Good N ∧ N.length ≤ n ∧ (∀ x ∈ N, VarOk rk x.1) ∧ p < N.length + 2 ∧ (∀ ρ, val3 ρ N p = S ρ) ∧ RetDg (canonD N p).1 (canonD N p).2 w e w'
set_option maxRecDepth 100000 in
set_option maxHeartbeats 6400000 in
theorem combine_bad (f : Nat) (caps : Array Value) (ds : List DI) (g off c : Nat) (w : World) (hok : ∀ x ∈ ds, DIok w x) (hds : DIs w g off ds) (hl : ds.length ≤ 1000000) (q : Nat) (hq : firstD ds = q) (h0 : q ≠ 0) :
    Calls Tryz.prog 58 #[.slice (some ⟨g, off, none⟩) ds.length c, .func (.func f) #[] caps] w (Ret (.tuple #[.agg #[.slice none 0 0, .int .i64 0], .int .i64 (q : Int)]) w) := by
  have HC := Lib.hid (fun w' (hb : Below w.heap.size w w') => checks_any ds g off c w' (fun x hx => (hok x hx).of hb) (hds.of hb) hl)
  rw [hq] at HC
  have f1 : ((q : Int) != 0) = true := by simp; omega
  clear hok hds hq h0
  go_enter Tryz.func58, Tryz.ntmps58
  go_wp2_with fail
  refine (HC.out _ (by (repeat' (first | (with_reducible first | exact Below.refl _ _ | exact Nat.le_refl _ | refine Below.bel ?_ ?_ | refine Below.alloc ?_ ?_ _ | refine Below.drew ?_ | refine Below.drawsN ?_ _ | refine Below.setCell ?_ ?_ _ | refine le_bel ?_ | refine le_alloc ?_ | refine le_setCell ?_ | refine le_drew ?_ | refine le_drawsN ?_) | (dsimp only; with_reducible first | refine le_bel ?_ | refine Nat.le_refl _ | refine le_bel_add ?_) | (with_reducible assumption) | omega | (dsimp only; omega))))).mono ?_
  rintro _ _ ⟨rfl, y1, rfl⟩
  dsimp only
  go_wp2
  have hBR := obj_in (show Below _ _ y1.w from y1.below) (World.alloc_heap_new w (.cells #[.slice none 0 0, .int .i64 0] 30 (0, 0)))
  obtain ⟨d0, d1⟩ : y1.w.cell? ⟨w.heap.size, 0, none⟩ = some (.slice none 0 0) ∧ y1.w.cell? ⟨w.heap.size, 1, none⟩ = some (.int .i64 0) := by
    refine ⟨?_, ?_⟩ <;> simp [World.cell?, hBR]
  refine bodyPost_ret (v := .tuple #[.agg #[.slice none 0 0, .int .i64 0], .int .i64 (q : Int)]) (by simp [results, Tryz.results58, go_sem, d0, d1]) rfl (Ret.mk rfl (by (repeat' (first | (with_reducible first | exact Below.refl _ _ | exact Nat.le_refl _ | refine Below.bel ?_ ?_ | refine Below.alloc ?_ ?_ _ | refine Below.drew ?_ | refine Below.drawsN ?_ _ | refine Below.setCell ?_ ?_ _ | refine le_bel ?_ | refine le_alloc ?_ | refine le_setCell ?_ | refine le_drew ?_ | refine le_drawsN ?_) | (dsimp only; with_reducible first | refine le_bel ?_ | refine Nat.le_refl _ | refine le_bel_add ?_) | (with_reducible assumption) | omega | (dsimp only; omega)))))
end Go.Proofs.YtkdmhjlcgpnjpaaGreatDoor

namespace Go.Proofs.YtkdmhjlcgpnjpaaGreatDoor
set_option linter.unusedVariables false
set_option linter.unusedSimpArgs false
open Go.RowKit Go.Maps
attribute [local go_sem low] Bel.cell Bel.frozen alloc_cell alloc_frozen
attribute [local go_sem] calmOp chainOp yieldsC grows
variable {rk : Nat → Nat}

end Go.Proofs.YtkdmhjlcgpnjpaaGreatDoor
