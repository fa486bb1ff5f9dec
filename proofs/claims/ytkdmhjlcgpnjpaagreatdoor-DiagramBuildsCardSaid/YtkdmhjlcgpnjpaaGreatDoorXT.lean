/- Table of a formula; the diagram of a formula is that of its table. -/
import Derived.Test.YtkdmhjlcgpnjpaaGreatDoorXI
import Derived.Test.YtkdmhjlcgpnjpaaGreatDoorR1
import Derived.Test.YtkdmhjlcgpnjpaaGreatDoorXG
import Derived.Test.YtkdmhjlcgpnjpaaGreatDoorG8
import Derived.Test.YtkdmhjlcgpnjpaaGreatDoorFv
namespace Go.Proofs.YtkdmhjlcgpnjpaaGreatDoor
set_option linter.unusedVariables false
set_option linter.unusedSimpArgs false
open Go.RowKit Go.Maps F
attribute [local go_sem low] Bel.cell Bel.frozen alloc_cell alloc_frozen

/-- The table of a formula. -/
def tabF (t : F) : Nat := ofB (fun v => val (envB v) t) 64
theorem tabF_lt (t : F) : tabF t < 2 ^ 64 := ofB_lt _ 64
theorem ofB_skip {f : Nat → Bool} {k : Nat} (h : f k = false) : ofB f (k + 1) = ofB f k := by rw [ofB, if_neg (by rw [h]; simp)]
set_option maxRecDepth 100000 in
set_option maxHeartbeats 6400000 in
theorem Table_any (P : Nat → Prop) (t : F) (ad : Option Addr) (cap : Nat) (w : World) (hi : InsF P w ad t.l) (hok : okT t) (hn : nodes t ≤ 1000) :
    Calls Tryz.prog 18 #[.agg #[.int .i64 t.k, .int .i64 t.a, .slice ad t.l.length cap]] w (Ret (.int .u64 (tabF t : Int)) w) := by
  have HI := Lib.hid hi
  have HT := Lib.hid (fun (P : Nat → Prop) ad cap w' hi => Tree_any (nodes t) t (Nat.le_refl _) P ad cap w' hi (by omega))
  have HV := Lib.hid (fun v (hv : v < 64) (P : Nat → Prop) ad cap w' hi => refValue_any v (by omega) (nodes t) t (Nat.le_refl _) hok P ad cap w' hi (by omega))
  unfold RetF at HT
  obtain ⟨r, hr⟩ : ∃ r, tabF t = r := ⟨_, rfl⟩
  obtain ⟨f, hf⟩ : ∃ f : Nat → Bool, (fun v => val (envB v) t) = f := ⟨_, rfl⟩
  have hf2 : ∀ v, val (envB v) t = f v := fun v => by rw [← hf]
  have HR := Lib.hid (show ofB f 64 = r by rw [← hf]; exact hr)
  simp only [hf2] at HV
  rw [hr]
  clear hi hok hn hr hf hf2
  go_enter Tryz.func18, Tryz.ntmps18
  go_wp2
  have hb0 : Below w.heap.size w (w.alloc (.cells #[.int .i64 t.k, .int .i64 t.a, .slice ad t.l.length cap] 26)) := by (repeat' (first | (with_reducible first | exact Below.refl _ _ | exact Nat.le_refl _ | refine Below.bel ?_ ?_ | refine Below.alloc ?_ ?_ _ | refine Below.drew ?_ | refine Below.drawsN ?_ _ | refine Below.setCell ?_ ?_ _ | refine le_bel ?_ | refine le_alloc ?_ | refine le_setCell ?_ | refine le_drew ?_ | refine le_drawsN ?_) | (dsimp only; with_reducible first | refine le_bel ?_ | refine Nat.le_refl _ | refine le_bel_add ?_) | (with_reducible assumption) | omega | (dsimp only; omega)))
  have o0 := World.alloc_heap_new w (.cells #[.int .i64 t.k, .int .i64 t.a, .slice ad t.l.length cap] 26)
  obtain ⟨Z, hZ⟩ : ∃ Z, w.alloc (.cells #[.int .i64 t.k, .int .i64 t.a, .slice ad t.l.length cap] 26) = Z := ⟨_, rfl⟩
  have hsz : Z.heap.size = w.heap.size + 1 := by rw [← hZ, World.size_alloc]
  rw [hZ] at hb0 o0 ⊢
  have HB := Lib.hid hb0
  have HO := Lib.hid o0
  clear hb0 o0 hZ
  go_loopw [3, 4] (fun tv iv wr => ∃ k : Nat, tv = .int .u64 ((ofB f k : Nat) : Int) ∧ iv = .int .u64 (k : Int) ∧ k ≤ 64 ∧ ∃ y : Bel Z, wr = y.w) (fun _ iv _ => 64 - (intOf iv).toNat)
  case atStart => exact ⟨0, rfl, rfl, by omega, ⟨Z, Below.refl _ _⟩, rfl⟩
  case round =>
    obtain ⟨k, rfl, rfl, hk, y, rfl⟩ := hrel
    have hys := y.size_le
    have oy := obj_bel y HO.out
    have hby : Below w.heap.size w y.w := HB.out.trans (y.below.mono HB.out.size)
    rcases Nat.lt_or_ge k 64 with hk2 | hk2
    · have f2 : decide ((k : Int) < 64) = true := decide_eq_true (by omega)
      obtain ⟨p0, p1, p2⟩ := box3 oy
      go_wp2_with fail
      refine (HT.out _ _ _ _ (HI.out.of hby)).mono ?_
      rintro _ _ ⟨_, rfl, y1, rfl, ad5, cap5, rfl, hi5⟩
      have hy1s := y1.size_le
      clear p0 p1 p2 oy
      dsimp only
      go_wp2_with fail
      refine (HV.out k hk2 _ _ _ _ hi5).mono ?_
      rintro _ _ ⟨rfl, y2, rfl⟩
      have hy2s := y2.size_le
      cases hb : f k
      · have hs := ofB_skip hb
        dsimp only
        go_wp2
        go_roundw
        case rel => exact ⟨k + 1, by rw [hs], by go_num, by omega, ⟨y2.w, by (repeat' (first | (with_reducible first | exact Below.refl _ _ | exact Nat.le_refl _ | refine Below.bel ?_ ?_ | refine Below.alloc ?_ ?_ _ | refine Below.drew ?_ | refine Below.drawsN ?_ _ | refine Below.setCell ?_ ?_ _ | refine le_bel ?_ | refine le_alloc ?_ | refine le_setCell ?_ | refine le_drew ?_ | refine le_drawsN ?_) | (dsimp only; with_reducible first | refine le_bel ?_ | refine Nat.le_refl _ | refine le_bel_add ?_) | (with_reducible assumption) | omega | (dsimp only; omega)))⟩, rfl⟩
        case measure => simp [intOf]; omega
      · have hs := or_ofB hb hk2
        dsimp only
        go_wp2
        go_roundw
        case rel => exact ⟨k + 1, rfl, by go_num, by omega, ⟨y2.w, by (repeat' (first | (with_reducible first | exact Below.refl _ _ | exact Nat.le_refl _ | refine Below.bel ?_ ?_ | refine Below.alloc ?_ ?_ _ | refine Below.drew ?_ | refine Below.drawsN ?_ _ | refine Below.setCell ?_ ?_ _ | refine le_bel ?_ | refine le_alloc ?_ | refine le_setCell ?_ | refine le_drew ?_ | refine le_drawsN ?_) | (dsimp only; with_reducible first | refine le_bel ?_ | refine Nat.le_refl _ | refine le_bel_add ?_) | (with_reducible assumption) | omega | (dsimp only; omega)))⟩, rfl⟩
        case measure => simp [intOf]; omega
    · obtain rfl : k = 64 := by omega
      rw [HR.out]
      go_wp2
      go_ret
      exact Ret.mk rfl hby
/-- The values of a formula of six variables are those of its table. -/
theorem vt_tab {t : F} (hok : okT t) (h6 : inV 6 (pre t)) (ρ : Nat → Bool) : vt t ρ = (tabF t).testBit (idx6 ρ) := by
  unfold tabF vt
  rw [ofB_test, decide_eq_true (idx6_lt ρ), Bool.true_and]
  refine val_congr t hok fun x hx => ?_
  obtain ⟨u, hu, hk, ha⟩ := (occ_iff x t hok).1 hx
  have h := h6 u hu hk
  rw [ha] at h
  unfold envB
  rw [decide_eq_true (by omega), Bool.true_and, idx6_test ρ _ (by omega)]
end Go.Proofs.YtkdmhjlcgpnjpaaGreatDoor
