/- Size of a right formula. checks, grown, replace, Substitute, Restrict. grown, Substitute, Restrict. Substitute, Restrict. -/
import Derived.Test.YtkdmhjlcgpnjpaaGreatDoorG7
import Derived.Test.YtkdmhjlcgpnjpaaGreatDoorG8
import Derived.RegionTactic
import Derived.BigRegion
namespace Go.Proofs.YtkdmhjlcgpnjpaaGreatDoor
set_option linter.unusedVariables false
set_option linter.unusedSimpArgs false
open Go.RowKit F
attribute [local go_sem low] Bel.cell Bel.frozen alloc_cell alloc_frozen

end Go.Proofs.YtkdmhjlcgpnjpaaGreatDoor

namespace Go.Proofs.YtkdmhjlcgpnjpaaGreatDoor
set_option linter.unusedVariables false
set_option linter.unusedSimpArgs false
open Go.RowKit F
attribute [local go_sem low] Bel.cell Bel.frozen alloc_cell alloc_frozen
attribute [local go_sem] calmOp chainOp yieldsC grows

/-- The first error of a list of formulas. -/
def chkL : List F → Int | [] => 0 | t :: r => if checkF t = 0 then chkL r else checkF t
theorem chkL_app : ∀ {l r : List F}, (∀ u ∈ l, checkF u = 0) → chkL (l ++ r) = chkL r
  | [], _, _ => rfl
  | t :: l, r, h => by
    rw [List.cons_append, chkL, if_pos (h t (List.mem_cons_self ..)), chkL_app fun u hu => h u (List.mem_cons_of_mem _ hu)]
theorem chkL_all : ∀ {l : List F}, (∀ u ∈ l, checkF u = 0) → chkL l = 0
  | [], _ => rfl
  | t :: l, h => by rw [chkL, if_pos (h t (List.mem_cons_self ..)), chkL_all fun u hu => h u (List.mem_cons_of_mem _ hu)]
set_option maxRecDepth 100000 in
set_option maxHeartbeats 6400000 in
theorem fchecks_any (l : List F) (P : Nat → Prop) (ad : Option Addr) (cap : Nat) (w : World) (hi : InsF P w ad l) (hn : nodesL l ≤ 1000000000000) :
    Calls Tryz.prog 74 #[.slice ad l.length cap] w (Ret (.int .i64 (chkL l)) w) := by
  have hlt : InsF (fun c => c < w.heap.size) w ad l := hi.imp fun b hb _ => hb
  have hlen : l.length ≤ 1000000000000 := Nat.le_trans (length_nodesL l) hn
  have HN := Lib.hid hn
  clear hi hn
  go_enter Tryz.func74, Tryz.ntmps74
  go_wp2
  go_loopw [8] (fun i wr => ∃ k : Nat, i = .int .i64 (k : Int) ∧ k ≤ l.length ∧ (∀ u ∈ l.take k, checkF u = 0) ∧ Below w.heap.size w wr) (fun i _ => l.length - (intOf i).toNat)
  case atStart => exact ⟨0, rfl, by omega, fun u hu => by simp at hu, by (repeat' (first | (with_reducible first | exact Below.refl _ _ | exact Nat.le_refl _ | refine Below.bel ?_ ?_ | refine Below.alloc ?_ ?_ _ | refine Below.drew ?_ | refine Below.drawsN ?_ _ | refine Below.setCell ?_ ?_ _ | refine le_bel ?_ | refine le_alloc ?_ | refine le_setCell ?_ | refine le_drew ?_ | refine le_drawsN ?_) | (dsimp only; with_reducible first | refine le_bel ?_ | refine Nat.le_refl _ | refine le_bel_add ?_) | (with_reducible assumption) | omega | (dsimp only; omega)))⟩
  case round =>
    obtain ⟨k, rfl, hk, hA, hb⟩ := hrel
    have hiW := below_move hlt (fun _ h => h) hb
    have hbs := hb.size
    have HA := Lib.hid hA
    clear hA
    rcases Nat.lt_or_ge k l.length with hkl | hkl
    · obtain ⟨u, hu⟩ := some_at hkl
      obtain ⟨bb, off, hadd, hp, hcs⟩ := insF_at hiW (by omega)
      cases hadd
      obtain ⟨c0, c1, adu, capu, c2, hiu⟩ := cellF_open (hcs k u hu)
      have f0 : decide ((k : Int) < (l.length : Int)) = true := decide_eq_true (by omega)
      have hib : (0 ≤ (k : Int) ∧ (k : Int) < (l.length : Int)) := ⟨by omega, by omega⟩
      have HC := Lib.hid (fun W (h : InsF (fun c => c < w.heap.size) W adu u.l) => check_any _ u adu capu W h (Nat.le_trans (nodesL_mem (List.mem_of_getElem? hu)) HN.out))
      have HI := Lib.hid hiu
      have HTK := Lib.hid (show l.take (k + 1) = l.take k ++ [u] by rw [List.take_add_one, hu]; rfl)
      have HDR := Lib.hid (show chkL l = chkL (u :: l.drop (k + 1)) by
        have := chkL_app (l := l.take k) (r := l.drop k) HA.out
        rw [List.take_append_drop, drop_at hu] at this
        exact this)
      obtain ⟨q, hq⟩ : ∃ q, checkF u = q := ⟨_, rfl⟩
      have HQ := Lib.hid hq
      rw [hq] at HC
      clear hcs hiW hiu hp hu hq
      by_cases h0 : q = 0
      · subst h0
        go_wp2_with fail
        refine (HC.out _ (HI.out.of (by (repeat' (first | (with_reducible first | exact Below.refl _ _ | exact Nat.le_refl _ | refine Below.bel ?_ ?_ | refine Below.alloc ?_ ?_ _ | refine Below.drew ?_ | refine Below.drawsN ?_ _ | refine Below.setCell ?_ ?_ _ | refine le_bel ?_ | refine le_alloc ?_ | refine le_setCell ?_ | refine le_drew ?_ | refine le_drawsN ?_) | (dsimp only; with_reducible first | refine le_bel ?_ | refine Nat.le_refl _ | refine le_bel_add ?_) | (with_reducible assumption) | omega | (dsimp only; omega)))))).mono ?_
        rintro _ _ ⟨rfl, y, rfl⟩
        dsimp only
        go_wp2
        go_roundw
        case rel => exact ⟨k + 1, by go_num, by omega, by rw [HTK.out]; intro v hv; rcases List.mem_append.1 hv with hv | hv; exact HA.out v hv; rw [List.mem_singleton.1 hv]; exact HQ.out, by (repeat' (first | (with_reducible first | exact Below.refl _ _ | exact Nat.le_refl _ | refine Below.bel ?_ ?_ | refine Below.alloc ?_ ?_ _ | refine Below.drew ?_ | refine Below.drawsN ?_ _ | refine Below.setCell ?_ ?_ _ | refine le_bel ?_ | refine le_alloc ?_ | refine le_setCell ?_ | refine le_drew ?_ | refine le_drawsN ?_) | (dsimp only; with_reducible first | refine le_bel ?_ | refine Nat.le_refl _ | refine le_bel_add ?_) | (with_reducible assumption) | omega | (dsimp only; omega)))⟩
        case measure => simp [intOf]; omega
      · have f1 : (q != 0) = true := bne_iff_ne.2 h0
        have HE := Lib.hid (show chkL l = q by rw [HDR.out, chkL, HQ.out, if_neg h0])
        clear h0
        go_wp2_with fail
        refine (HC.out _ (HI.out.of (by (repeat' (first | (with_reducible first | exact Below.refl _ _ | exact Nat.le_refl _ | refine Below.bel ?_ ?_ | refine Below.alloc ?_ ?_ _ | refine Below.drew ?_ | refine Below.drawsN ?_ _ | refine Below.setCell ?_ ?_ _ | refine le_bel ?_ | refine le_alloc ?_ | refine le_setCell ?_ | refine le_drew ?_ | refine le_drawsN ?_) | (dsimp only; with_reducible first | refine le_bel ?_ | refine Nat.le_refl _ | refine le_bel_add ?_) | (with_reducible assumption) | omega | (dsimp only; omega)))))).mono ?_
        rintro _ _ ⟨rfl, y, rfl⟩
        dsimp only
        go_wp2
        go_ret
        exact Ret.mk (by rw [HE.out]; rfl) (by (repeat' (first | (with_reducible first | exact Below.refl _ _ | exact Nat.le_refl _ | refine Below.bel ?_ ?_ | refine Below.alloc ?_ ?_ _ | refine Below.drew ?_ | refine Below.drawsN ?_ _ | refine Below.setCell ?_ ?_ _ | refine le_bel ?_ | refine le_alloc ?_ | refine le_setCell ?_ | refine le_drew ?_ | refine le_drawsN ?_) | (dsimp only; with_reducible first | refine le_bel ?_ | refine Nat.le_refl _ | refine le_bel_add ?_) | (with_reducible assumption) | omega | (dsimp only; omega))))
    · have hke : k = l.length := by omega
      subst hke
      have f0 : decide ((l.length : Int) < (l.length : Int)) = false := decide_eq_false (by omega)
      rw [List.take_length] at HA
      have HE := Lib.hid (chkL_all HA.out)
      clear hiW
      go_wp2
      go_ret
      exact Ret.mk (by rw [HE.out]; rfl) (by (repeat' (first | (with_reducible first | exact Below.refl _ _ | exact Nat.le_refl _ | refine Below.bel ?_ ?_ | refine Below.alloc ?_ ?_ _ | refine Below.drew ?_ | refine Below.drawsN ?_ _ | refine Below.setCell ?_ ?_ _ | refine le_bel ?_ | refine le_alloc ?_ | refine le_setCell ?_ | refine le_drew ?_ | refine le_drawsN ?_) | (dsimp only; with_reducible first | refine le_bel ?_ | refine Nat.le_refl _ | refine le_bel_add ?_) | (with_reducible assumption) | omega | (dsimp only; omega))))
end Go.Proofs.YtkdmhjlcgpnjpaaGreatDoor

namespace Go.Proofs.YtkdmhjlcgpnjpaaGreatDoor
set_option linter.unusedVariables false
set_option linter.unusedSimpArgs false
open Go.RowKit F
attribute [local go_sem low] Bel.cell Bel.frozen alloc_cell alloc_frozen
attribute [local go_sem] calmOp chainOp yieldsC grows

end Go.Proofs.YtkdmhjlcgpnjpaaGreatDoor

namespace Go.Proofs.YtkdmhjlcgpnjpaaGreatDoor
set_option linter.unusedVariables false
set_option linter.unusedSimpArgs false
open Go.RowKit F
attribute [local go_sem low] Bel.cell Bel.frozen alloc_cell alloc_frozen
attribute [local go_sem] calmOp chainOp yieldsC grows

theorem insF_two {P : Nat → Prop} {w : World} {u v : F} {ad ad' : Option Addr} {cap cap' g0 : Nat} {E : TypeId} (hsrc : w.heap[g0]? = some (.cells #[.int .i64 u.k, .int .i64 u.a, .slice ad u.l.length cap, .int .i64 v.k, .int .i64 v.a, .slice ad' v.l.length cap'] E (0, 0))) (hp : P g0) (hi : InsF P w ad u.l) (hi' : InsF P w ad' v.l) : InsF P w (some ⟨g0, 0, none⟩) [u, v] := by
  refine insF_mk hp fun j t hj => ?_
  match j, hj with
  | 0, hj =>
    simp at hj
    subst hj
    refine cellF_mk (ad := ad) (cap := cap) ?_ ?_ ?_ hi <;> simp [World.cell?, hsrc]
  | 1, hj =>
    simp at hj
    subst hj
    refine cellF_mk (ad := ad') (cap := cap') ?_ ?_ ?_ hi' <;> simp [World.cell?, hsrc]
  | j + 2, hj => simp at hj
end Go.Proofs.YtkdmhjlcgpnjpaaGreatDoor
