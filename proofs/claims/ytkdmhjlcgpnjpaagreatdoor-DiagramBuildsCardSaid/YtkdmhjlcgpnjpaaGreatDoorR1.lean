/- The reference: Occurs and Value; Support (Support_ok); bits of a list of booleans. -/
import Derived.Test.YtkdmhjlcgpnjpaaGreatDoorFz
import Derived.Test.YtkdmhjlcgpnjpaaGreatDoorFt
import Derived.Test.YtkdmhjlcgpnjpaaGreatDoorG10
import Derived.Test.YtkdmhjlcgpnjpaaGreatDoorS2
import Derived.Test.YtkdmhjlcgpnjpaaGreatDoorFm
namespace Go.Proofs.YtkdmhjlcgpnjpaaGreatDoor
set_option linter.unusedVariables false
set_option linter.unusedSimpArgs false
open Go.RowKit F
attribute [local go_sem low] Bel.cell Bel.frozen alloc_cell alloc_frozen

/-- The values of variables that a word's bits give. -/
def envB (bits : Nat) (a : Int) : Bool := decide (a < 64) && bits.testBit a.toNat
theorem testBit_and1 (x n : Nat) (h : x < 18446744073709551616) : (bits .and .u64 ((x : Int) / 2 ^ n) 1 == 1) = x.testBit n := by
  have e : (x : Int) / 2 ^ n = ((x / 2 ^ n : Nat) : Int) := by simp
  have := u64_and_nat (x / 2 ^ n) 1 (Nat.lt_of_le_of_lt (Nat.div_le_self _ _) h) (by omega)
  rw [e, show (1 : Int) = ((1 : Nat) : Int) from rfl, this, Nat.testBit_eq_decide_div_mod_eq, Nat.and_one_is_mod, Bool.eq_iff_iff]
  simp only [beq_iff_eq, decide_eq_true_iff]
  omega
theorem valA_false {ρ : Int → Bool} {l : List F} {u : F} (h : u ∈ l) (hv : val ρ u = false) : valA ρ l = false := by
  cases hc : valA ρ l
  · rfl
  · rw [(valA_iff ρ l).1 hc u h] at hv; cases hv
theorem valO_true {ρ : Int → Bool} {l : List F} {u : F} (h : u ∈ l) (hv : val ρ u = true) : valO ρ l = true := (valO_iff ρ l).2 ⟨u, h, hv⟩
theorem valA_take (ρ : Int → Bool) (l : List F) (k : Nat) (u : F) (h : l[k]? = some u) : valA ρ (l.take (k + 1)) = (valA ρ (l.take k) && val ρ u) := by
  rw [List.take_add_one, h, valA_app]
  simp [valA]
theorem valO_take (ρ : Int → Bool) (l : List F) (k : Nat) (u : F) (h : l[k]? = some u) : valO ρ (l.take (k + 1)) = (valO ρ (l.take k) || val ρ u) := by
  rw [List.take_add_one, h, valO_app]
  simp [valO]
set_option maxRecDepth 100000 in
set_option maxHeartbeats 6400000 in
theorem refValue_any (bt : Nat) (hbt : bt < 18446744073709551616) : ∀ (N : Nat) (t : F), nodes t ≤ N → okT t → ∀ (P : Nat → Prop) (ad : Option Addr) (cap : Nat) (w : World), InsF P w ad t.l → nodes t ≤ 100000000 →
    Calls Tryz.prog 49 #[.agg #[.int .i64 t.k, .int .i64 t.a, .slice ad t.l.length cap], .int .u64 (bt : Int)] w (Ret (.bool (val (envB bt) t)) w) := by
  intro N
  induction N with
  | zero => intro t h; have := nodes_pos t; omega
  | succ N ih =>
    intro t hN hok P ad cap w hi hbig
    have HNL := Lib.hid (show nodesL t.l ≤ N by rw [nodes_l] at hN; omega)
    have HBIG := Lib.hid (show nodesL t.l ≤ 100000000 by rw [nodes_l] at hbig; omega)
    have hlen : t.l.length ≤ 100000000 := Nat.le_trans (length_nodesL t.l) HBIG.out
    have hlt : InsF (fun c => c < w.heap.size) w ad t.l := hi.imp fun b hb _ => hb
    have HOKL := Lib.hid (okT_l hok)
    clear hi hN hbig
    obtain ⟨tk, ta, tl⟩ := t
    simp only [F.k, F.a, F.l] at HNL HBIG hlen hlt HOKL ⊢
    have HC := Lib.hid (fun u (hu : u ∈ tl) ad' cap' w' (hiu : InsF (fun c => c < w.heap.size) w' ad' u.l) => ih u (Nat.le_trans (nodesL_mem hu) HNL.out) (okL_mem HOKL.out hu) _ ad' cap' w' hiu (Nat.le_trans (nodesL_mem hu) HBIG.out))
    rcases single_cases hok.1 with ⟨rfl, h1, h2, rfl⟩ | ⟨rfl, rfl, t, rfl⟩ | ⟨hk, rfl, hl⟩ | ⟨hk, rfl, rfl⟩
    · rw [show val (envB bt) (nd 1 ta []) = envB bt ta from by rw [val, if_pos rfl]]
      obtain ⟨A, rfl⟩ := Int.eq_ofNat_of_zero_le h1
      clear HC
      by_cases h64 : A < 64
      · have e : decide ((A : Int) < 64) = true := decide_eq_true (by omega)
        have H := Lib.hid (testBit_and1 bt A hbt)
        go_enter Tryz.func49, Tryz.ntmps49
        go_wp2
        go_ret
        exact Ret.mk (by (rw [envB, e, Bool.true_and, Int.toNat_natCast, ← H.out]; rfl)) (by (repeat' (first | (with_reducible first | exact Below.refl _ _ | exact Nat.le_refl _ | refine Below.bel ?_ ?_ | refine Below.alloc ?_ ?_ _ | refine Below.drew ?_ | refine Below.drawsN ?_ _ | refine Below.setCell ?_ ?_ _ | refine le_bel ?_ | refine le_alloc ?_ | refine le_setCell ?_ | refine le_drew ?_ | refine le_drawsN ?_) | (dsimp only; with_reducible first | refine le_bel ?_ | refine Nat.le_refl _ | refine le_bel_add ?_) | (with_reducible assumption) | omega | (dsimp only; omega))))
      · have e : decide ((A : Int) < 64) = false := decide_eq_false (by omega)
        go_enter Tryz.func49, Tryz.ntmps49
        go_wp2
        go_ret
        exact Ret.mk (by (rw [envB, e, Bool.false_and]; rfl)) (by (repeat' (first | (with_reducible first | exact Below.refl _ _ | exact Nat.le_refl _ | refine Below.bel ?_ ?_ | refine Below.alloc ?_ ?_ _ | refine Below.drew ?_ | refine Below.drawsN ?_ _ | refine Below.setCell ?_ ?_ _ | refine le_bel ?_ | refine le_alloc ?_ | refine le_setCell ?_ | refine le_drew ?_ | refine le_drawsN ?_) | (dsimp only; with_reducible first | refine le_bel ?_ | refine Nat.le_refl _ | refine le_bel_add ?_) | (with_reducible assumption) | omega | (dsimp only; omega))))
    · rw [show val (envB bt) (nd 2 0 [t]) = !val (envB bt) t from by rw [val, if_neg (by decide), if_pos rfl]; rfl]
      obtain ⟨bb, off, hadd, hp, hcs⟩ := insF_at hlt (by simp)
      subst hadd
      obtain ⟨c0, c1, ad', cap', c2, hit⟩ := cellF_open (hcs 0 t rfl)
      rw [Nat.zero_mul, Nat.add_zero] at c0 c1 c2
      have HCC := Lib.hid (HC.out t (List.mem_singleton_self t) ad' cap')
      have HI := Lib.hid hit
      clear hcs hlt hit hp HC
      simp only [List.length_singleton]
      go_enter Tryz.func49, Tryz.ntmps49
      go_wp2_with fail
      refine (HCC.out _ (HI.out.of (by (repeat' (first | (with_reducible first | exact Below.refl _ _ | exact Nat.le_refl _ | refine Below.bel ?_ ?_ | refine Below.alloc ?_ ?_ _ | refine Below.drew ?_ | refine Below.drawsN ?_ _ | refine Below.setCell ?_ ?_ _ | refine le_bel ?_ | refine le_alloc ?_ | refine le_setCell ?_ | refine le_drew ?_ | refine le_drawsN ?_) | (dsimp only; with_reducible first | refine le_bel ?_ | refine Nat.le_refl _ | refine le_bel_add ?_) | (with_reducible assumption) | omega | (dsimp only; omega)))))).mono ?_
      rintro _ _ ⟨rfl, y, rfl⟩
      dsimp only
      go_wp2
      go_ret
      exact Ret.mk (by rfl) (by (repeat' (first | (with_reducible first | exact Below.refl _ _ | exact Nat.le_refl _ | refine Below.bel ?_ ?_ | refine Below.alloc ?_ ?_ _ | refine Below.drew ?_ | refine Below.drawsN ?_ _ | refine Below.setCell ?_ ?_ _ | refine le_bel ?_ | refine le_alloc ?_ | refine le_setCell ?_ | refine le_drew ?_ | refine le_drawsN ?_) | (dsimp only; with_reducible first | refine le_bel ?_ | refine Nat.le_refl _ | refine le_bel_add ?_) | (with_reducible assumption) | omega | (dsimp only; omega))))
    · -- a join
      rcases hk with rfl | rfl
      · rw [show val (envB bt) (nd 3 0 tl) = valA (envB bt) tl from by rw [val, if_neg (by decide), if_neg (by decide), if_pos rfl]]
        go_enter Tryz.func49, Tryz.ntmps49
        go_wp2
        go_loopw [5] (fun i wr => ∃ k : Nat, i = .int .i64 (k : Int) ∧ k ≤ tl.length ∧ valA (envB bt) (tl.take k) = true ∧ wr.heap[w.heap.size]? = some (.cells #[.int .i64 3, .int .i64 0, .slice ad tl.length cap] 91 (0, 0)) ∧ Below w.heap.size w wr) (fun i _ => tl.length - (intOf i).toNat)
        case atStart => exact ⟨0, rfl, by omega, rfl, World.alloc_heap_new _ _, by (repeat' (first | (with_reducible first | exact Below.refl _ _ | exact Nat.le_refl _ | refine Below.bel ?_ ?_ | refine Below.alloc ?_ ?_ _ | refine Below.drew ?_ | refine Below.drawsN ?_ _ | refine Below.setCell ?_ ?_ _ | refine le_bel ?_ | refine le_alloc ?_ | refine le_setCell ?_ | refine le_drew ?_ | refine le_drawsN ?_) | (dsimp only; with_reducible first | refine le_bel ?_ | refine Nat.le_refl _ | refine le_bel_add ?_) | (with_reducible assumption) | omega | (dsimp only; omega)))⟩
        case round =>
          obtain ⟨k, rfl, hk, hno, hfb, hb⟩ := hrel
          have hiW := below_move hlt (fun _ h => h) hb
          obtain ⟨b0, b1, b2⟩ := box3 hfb
          have HFB := Lib.hid hfb
          have HNO := Lib.hid hno
          have hbs := hb.size
          clear hno
          rcases Nat.lt_or_ge k tl.length with hkl | hkl
          · obtain ⟨u, hu⟩ := some_at hkl
            obtain ⟨bb, off, hadd, hp, hcs⟩ := insF_at hiW (by omega)
            cases hadd
            obtain ⟨c0, c1, ad', cap', c2, hiu⟩ := cellF_open (hcs k u hu)
            have f0 : decide ((k : Int) < (tl.length : Int)) = true := decide_eq_true (by omega)
            have hib : (0 ≤ (k : Int) ∧ (k : Int) < (tl.length : Int)) := ⟨by omega, by omega⟩
            have HCU := HC.out u (List.mem_of_getElem? hu) ad' cap'
            obtain ⟨vu, hvu⟩ : ∃ vu, val (envB bt) u = vu := ⟨_, rfl⟩
            rw [hvu] at HCU
            have HCC := Lib.hid HCU
            have HI := Lib.hid hiu
            have HTK := Lib.hid (valA_take (envB bt) tl k u hu)
            have HUM := Lib.hid (And.intro (List.mem_of_getElem? hu) hvu)
            rw [HUM.out.2, HNO.out] at HTK
            clear hcs hiW hiu hu hp hvu HCU
            cases vu
            · go_wp2_with fail
              refine wp_region_bel (by kernel_rfl) (by kernel_rfl) ?_
              repeat (go_big_quiet_step ((go_at_call 49; exact bel_of (HCC.out _ (HI.out.of (by (repeat' (first | (with_reducible first | exact Below.refl _ _ | exact Nat.le_refl _ | refine Below.bel ?_ ?_ | refine Below.alloc ?_ ?_ _ | refine Below.drew ?_ | refine Below.drawsN ?_ _ | refine Below.setCell ?_ ?_ _ | refine le_bel ?_ | refine le_alloc ?_ | refine le_setCell ?_ | refine le_drew ?_ | refine le_drawsN ?_) | (dsimp only; with_reducible first | refine le_bel ?_ | refine Nat.le_refl _ | refine le_bel_add ?_) | (with_reducible assumption) | omega | (dsimp only; omega)))))))))
              refine wpQuiet_nil ?_
              rintro _ ⟨z, rfl⟩
              have HF2 := Lib.hid (obj_bel z HFB.out)
              have hzs := z.size_le
              obtain ⟨d0, d1, d2⟩ := box3 HF2.out
              have HBZ := Lib.hid (hb.trans (z.below.mono hbs))
              go_wp2
              go_ret
              exact Ret.mk (by (rw [valA_false HUM.out.1 HUM.out.2]; rfl)) (by (repeat' (first | (with_reducible first | exact Below.refl _ _ | exact Nat.le_refl _ | refine Below.bel ?_ ?_ | refine Below.alloc ?_ ?_ _ | refine Below.drew ?_ | refine Below.drawsN ?_ _ | refine Below.setCell ?_ ?_ _ | refine le_bel ?_ | refine le_alloc ?_ | refine le_setCell ?_ | refine le_drew ?_ | refine le_drawsN ?_) | (dsimp only; with_reducible first | refine le_bel ?_ | refine Nat.le_refl _ | refine le_bel_add ?_) | (with_reducible assumption) | omega | (dsimp only; omega))))
            · go_wp2_with fail
              refine wp_region_bel (by kernel_rfl) (by kernel_rfl) ?_
              repeat (go_big_quiet_step ((go_at_call 49; exact bel_of (HCC.out _ (HI.out.of (by (repeat' (first | (with_reducible first | exact Below.refl _ _ | exact Nat.le_refl _ | refine Below.bel ?_ ?_ | refine Below.alloc ?_ ?_ _ | refine Below.drew ?_ | refine Below.drawsN ?_ _ | refine Below.setCell ?_ ?_ _ | refine le_bel ?_ | refine le_alloc ?_ | refine le_setCell ?_ | refine le_drew ?_ | refine le_drawsN ?_) | (dsimp only; with_reducible first | refine le_bel ?_ | refine Nat.le_refl _ | refine le_bel_add ?_) | (with_reducible assumption) | omega | (dsimp only; omega)))))))))
              refine wpQuiet_nil ?_
              rintro _ ⟨z, rfl⟩
              have HF2 := Lib.hid (obj_bel z HFB.out)
              have hzs := z.size_le
              obtain ⟨d0, d1, d2⟩ := box3 HF2.out
              have HBZ := Lib.hid (hb.trans (z.below.mono hbs))
              go_wp2
              go_roundw
              case rel => exact ⟨k + 1, by go_num, by omega, by rw [HTK.out]; rfl, HF2.out, HBZ.out⟩
              case measure => simp [intOf]; omega
          · have hke : k = tl.length := by omega
            subst hke
            have f0 : decide ((tl.length : Int) < (tl.length : Int)) = false := decide_eq_false (by omega)
            clear hiW
            go_wp2
            go_ret
            exact Ret.mk (by (have := HNO.out; rw [List.take_length] at this; rw [this]; rfl)) (by (repeat' (first | (with_reducible first | exact Below.refl _ _ | exact Nat.le_refl _ | refine Below.bel ?_ ?_ | refine Below.alloc ?_ ?_ _ | refine Below.drew ?_ | refine Below.drawsN ?_ _ | refine Below.setCell ?_ ?_ _ | refine le_bel ?_ | refine le_alloc ?_ | refine le_setCell ?_ | refine le_drew ?_ | refine le_drawsN ?_) | (dsimp only; with_reducible first | refine le_bel ?_ | refine Nat.le_refl _ | refine le_bel_add ?_) | (with_reducible assumption) | omega | (dsimp only; omega))))
      · rw [show val (envB bt) (nd 4 0 tl) = valO (envB bt) tl from by rw [val, if_neg (by decide), if_neg (by decide), if_neg (by decide), if_pos rfl]]
        go_enter Tryz.func49, Tryz.ntmps49
        go_wp2
        go_loopw [5] (fun i wr => ∃ k : Nat, i = .int .i64 (k : Int) ∧ k ≤ tl.length ∧ valO (envB bt) (tl.take k) = false ∧ wr.heap[w.heap.size]? = some (.cells #[.int .i64 4, .int .i64 0, .slice ad tl.length cap] 91 (0, 0)) ∧ Below w.heap.size w wr) (fun i _ => tl.length - (intOf i).toNat)
        case atStart => exact ⟨0, rfl, by omega, rfl, World.alloc_heap_new _ _, by (repeat' (first | (with_reducible first | exact Below.refl _ _ | exact Nat.le_refl _ | refine Below.bel ?_ ?_ | refine Below.alloc ?_ ?_ _ | refine Below.drew ?_ | refine Below.drawsN ?_ _ | refine Below.setCell ?_ ?_ _ | refine le_bel ?_ | refine le_alloc ?_ | refine le_setCell ?_ | refine le_drew ?_ | refine le_drawsN ?_) | (dsimp only; with_reducible first | refine le_bel ?_ | refine Nat.le_refl _ | refine le_bel_add ?_) | (with_reducible assumption) | omega | (dsimp only; omega)))⟩
        case round =>
          obtain ⟨k, rfl, hk, hno, hfb, hb⟩ := hrel
          have hiW := below_move hlt (fun _ h => h) hb
          obtain ⟨b0, b1, b2⟩ := box3 hfb
          have HFB := Lib.hid hfb
          have HNO := Lib.hid hno
          have hbs := hb.size
          clear hno
          rcases Nat.lt_or_ge k tl.length with hkl | hkl
          · obtain ⟨u, hu⟩ := some_at hkl
            obtain ⟨bb, off, hadd, hp, hcs⟩ := insF_at hiW (by omega)
            cases hadd
            obtain ⟨c0, c1, ad', cap', c2, hiu⟩ := cellF_open (hcs k u hu)
            have f0 : decide ((k : Int) < (tl.length : Int)) = true := decide_eq_true (by omega)
            have hib : (0 ≤ (k : Int) ∧ (k : Int) < (tl.length : Int)) := ⟨by omega, by omega⟩
            have HCU := HC.out u (List.mem_of_getElem? hu) ad' cap'
            obtain ⟨vu, hvu⟩ : ∃ vu, val (envB bt) u = vu := ⟨_, rfl⟩
            rw [hvu] at HCU
            have HCC := Lib.hid HCU
            have HI := Lib.hid hiu
            have HTK := Lib.hid (valO_take (envB bt) tl k u hu)
            have HUM := Lib.hid (And.intro (List.mem_of_getElem? hu) hvu)
            rw [HUM.out.2, HNO.out] at HTK
            clear hcs hiW hiu hu hp hvu HCU
            cases vu
            · go_wp2_with fail
              refine wp_region_bel (by kernel_rfl) (by kernel_rfl) ?_
              repeat (go_big_quiet_step ((go_at_call 49; exact bel_of (HCC.out _ (HI.out.of (by (repeat' (first | (with_reducible first | exact Below.refl _ _ | exact Nat.le_refl _ | refine Below.bel ?_ ?_ | refine Below.alloc ?_ ?_ _ | refine Below.drew ?_ | refine Below.drawsN ?_ _ | refine Below.setCell ?_ ?_ _ | refine le_bel ?_ | refine le_alloc ?_ | refine le_setCell ?_ | refine le_drew ?_ | refine le_drawsN ?_) | (dsimp only; with_reducible first | refine le_bel ?_ | refine Nat.le_refl _ | refine le_bel_add ?_) | (with_reducible assumption) | omega | (dsimp only; omega)))))))))
              refine wpQuiet_nil ?_
              rintro _ ⟨z, rfl⟩
              have HF2 := Lib.hid (obj_bel z HFB.out)
              have hzs := z.size_le
              obtain ⟨d0, d1, d2⟩ := box3 HF2.out
              have HBZ := Lib.hid (hb.trans (z.below.mono hbs))
              go_wp2
              go_roundw
              case rel => exact ⟨k + 1, by go_num, by omega, by rw [HTK.out]; rfl, HF2.out, HBZ.out⟩
              case measure => simp [intOf]; omega
            · go_wp2_with fail
              refine wp_region_bel (by kernel_rfl) (by kernel_rfl) ?_
              repeat (go_big_quiet_step ((go_at_call 49; exact bel_of (HCC.out _ (HI.out.of (by (repeat' (first | (with_reducible first | exact Below.refl _ _ | exact Nat.le_refl _ | refine Below.bel ?_ ?_ | refine Below.alloc ?_ ?_ _ | refine Below.drew ?_ | refine Below.drawsN ?_ _ | refine Below.setCell ?_ ?_ _ | refine le_bel ?_ | refine le_alloc ?_ | refine le_setCell ?_ | refine le_drew ?_ | refine le_drawsN ?_) | (dsimp only; with_reducible first | refine le_bel ?_ | refine Nat.le_refl _ | refine le_bel_add ?_) | (with_reducible assumption) | omega | (dsimp only; omega)))))))))
              refine wpQuiet_nil ?_
              rintro _ ⟨z, rfl⟩
              have HF2 := Lib.hid (obj_bel z HFB.out)
              have hzs := z.size_le
              obtain ⟨d0, d1, d2⟩ := box3 HF2.out
              have HBZ := Lib.hid (hb.trans (z.below.mono hbs))
              go_wp2
              go_ret
              exact Ret.mk (by (rw [valO_true HUM.out.1 HUM.out.2]; rfl)) (by (repeat' (first | (with_reducible first | exact Below.refl _ _ | exact Nat.le_refl _ | refine Below.bel ?_ ?_ | refine Below.alloc ?_ ?_ _ | refine Below.drew ?_ | refine Below.drawsN ?_ _ | refine Below.setCell ?_ ?_ _ | refine le_bel ?_ | refine le_alloc ?_ | refine le_setCell ?_ | refine le_drew ?_ | refine le_drawsN ?_) | (dsimp only; with_reducible first | refine le_bel ?_ | refine Nat.le_refl _ | refine le_bel_add ?_) | (with_reducible assumption) | omega | (dsimp only; omega))))
          · have hke : k = tl.length := by omega
            subst hke
            have f0 : decide ((tl.length : Int) < (tl.length : Int)) = false := decide_eq_false (by omega)
            clear hiW
            go_wp2
            go_ret
            exact Ret.mk (by (have := HNO.out; rw [List.take_length] at this; rw [this]; rfl)) (by (repeat' (first | (with_reducible first | exact Below.refl _ _ | exact Nat.le_refl _ | refine Below.bel ?_ ?_ | refine Below.alloc ?_ ?_ _ | refine Below.drew ?_ | refine Below.drawsN ?_ _ | refine Below.setCell ?_ ?_ _ | refine le_bel ?_ | refine le_alloc ?_ | refine le_setCell ?_ | refine le_drew ?_ | refine le_drawsN ?_) | (dsimp only; with_reducible first | refine le_bel ?_ | refine Nat.le_refl _ | refine le_bel_add ?_) | (with_reducible assumption) | omega | (dsimp only; omega))))
    · clear HC
      rcases hk with rfl | rfl
      · rw [show val (envB bt) (nd 5 0 []) = false from rfl]
        go_enter Tryz.func49, Tryz.ntmps49
        go_wp2
        go_ret
        exact Ret.mk (by rfl) (by (repeat' (first | (with_reducible first | exact Below.refl _ _ | exact Nat.le_refl _ | refine Below.bel ?_ ?_ | refine Below.alloc ?_ ?_ _ | refine Below.drew ?_ | refine Below.drawsN ?_ _ | refine Below.setCell ?_ ?_ _ | refine le_bel ?_ | refine le_alloc ?_ | refine le_setCell ?_ | refine le_drew ?_ | refine le_drawsN ?_) | (dsimp only; with_reducible first | refine le_bel ?_ | refine Nat.le_refl _ | refine le_bel_add ?_) | (with_reducible assumption) | omega | (dsimp only; omega))))
      · rw [show val (envB bt) (nd 6 0 []) = true from rfl]
        go_enter Tryz.func49, Tryz.ntmps49
        go_wp2
        go_ret
        exact Ret.mk (by rfl) (by (repeat' (first | (with_reducible first | exact Below.refl _ _ | exact Nat.le_refl _ | refine Below.bel ?_ ?_ | refine Below.alloc ?_ ?_ _ | refine Below.drew ?_ | refine Below.drawsN ?_ _ | refine Below.setCell ?_ ?_ _ | refine le_bel ?_ | refine le_alloc ?_ | refine le_setCell ?_ | refine le_drew ?_ | refine le_drawsN ?_) | (dsimp only; with_reducible first | refine le_bel ?_ | refine Nat.le_refl _ | refine le_bel_add ?_) | (with_reducible assumption) | omega | (dsimp only; omega))))
end Go.Proofs.YtkdmhjlcgpnjpaaGreatDoor

namespace Go.Proofs.YtkdmhjlcgpnjpaaGreatDoor
set_option linter.unusedVariables false
set_option linter.unusedSimpArgs false
open Go.RowKit F
attribute [local go_sem low] Bel.cell Bel.frozen alloc_cell alloc_frozen

end Go.Proofs.YtkdmhjlcgpnjpaaGreatDoor
