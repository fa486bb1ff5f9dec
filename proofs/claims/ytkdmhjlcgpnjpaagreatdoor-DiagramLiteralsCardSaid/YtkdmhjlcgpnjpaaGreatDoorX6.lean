/- The builder's formula. -/
import Derived.Test.YtkdmhjlcgpnjpaaGreatDoorX5
import Derived.Test.YtkdmhjlcgpnjpaaGreatDoorG5
import Derived.Test.YtkdmhjlcgpnjpaaGreatDoorFt
namespace Go.Proofs.YtkdmhjlcgpnjpaaGreatDoor
set_option linter.unusedVariables false
set_option linter.unusedSimpArgs false
open Go.RowKit Go.Maps F
attribute [local go_sem low] Bel.cell Bel.frozen alloc_cell alloc_frozen
attribute [local go_sem] calmOp chainOp yieldsC grows
variable {rk : Nat → Nat}

theorem RetB.after {b0 B mp md base : Nat} {v v1 : Value} {N M : List (Nat × Nat × Nat)} {D a c a2 c2 a3 c3 : Nat} {w w1 w2 : World} {S : (Nat → Bool) → Bool} {e : Ending} (hk : Kb b0 B mp md v w v1 w1) (hM : M.length ≤ a) (h : RetB rk b0 B mp md base v1 (N ++ M) (D + c) w1 a2 c2 S e w2) (ha : a + a2 ≤ a3) (hc : c + c2 ≤ c3) : RetB rk b0 B mp md base v N D w a3 c3 S e w2 := by
  obtain ⟨p, v2, M2, he, hB, hK, hM2, hp, hS⟩ := h
  refine ⟨p, v2, M ++ M2, he, ?_, hk.trans hK, by rw [List.length_append]; omega, by rw [← List.append_assoc]; exact hp, fun ρ => by rw [← List.append_assoc]; exact hS ρ⟩
  rw [← List.append_assoc]
  exact hB.mono (by omega)
theorem RetB.imp {b0 B mp md base : Nat} {v : Value} {N : List (Nat × Nat × Nat)} {D a c a3 c3 : Nat} {w w2 : World} {S S' : (Nat → Bool) → Bool} {e : Ending} (h : RetB rk b0 B mp md base v N D w a c S e w2) (ha : a ≤ a3) (hc : c ≤ c3) (hS' : ∀ ρ, S ρ = S' ρ) : RetB rk b0 B mp md base v N D w a3 c3 S' e w2 := by
  obtain ⟨p, v2, M2, he, hB, hK, hM2, hp, hS⟩ := h
  exact ⟨p, v2, M2, he, hB.mono (by omega), hK, by omega, hp, fun ρ => by rw [hS, hS']⟩
theorem RetB.ahead {b0 B mp md base : Nat} {v : Value} {N : List (Nat × Nat × Nat)} {D a c : Nat} {w w1 w2 : World} {S : (Nat → Bool) → Bool} {e : Ending} (hb : Below w.heap.size w w1) (hb0 : b0 ≤ w.heap.size) (h : RetB rk b0 B mp md base v N D w1 a c S e w2) : RetB rk b0 B mp md base v N D w a c S e w2 := by
  obtain ⟨p, v2, M2, he, hB, hK, hM2, hp, hS⟩ := h
  exact ⟨p, v2, M2, he, hB, hK.ahead hb hb0, hM2, hp, hS⟩
theorem choose6 {b0 B mp md base : Nat} {v : Value} {N : List (Nat × Nat × Nat)} {D : Nat} {w : World} (h : Bld rk6 w b0 B mp md base v N D) {p q r : Nat} (hp : p < N.length + 2) (hq : q < N.length + 2) (hr : r < N.length + 2) (hnl : N.length + 63 ≤ 1000000) (hdl : D + 63 ≤ 100000000) :
    Calls Tryz.prog 60 #[.pointer (some ⟨B, 0, none⟩), .int .i64 (p : Int), .int .i64 (q : Int), .int .i64 (r : Int)] w (RetB rk6 b0 B mp md base v N D w 63 63 (ite3 N p q r)) :=
  choose_any b0 B mp md base 6 63 rfl v N D p q r w h hp hq hr (Nat.sub_le _ _) (Nat.sub_le _ _) (Nat.sub_le _ _) hnl hdl
theorem valA_tk (ρ : Int → Bool) (l : List F) (k : Nat) (u : F) (h : l[k]? = some u) : valA ρ (l.take (k + 1)) = (valA ρ (l.take k) && val ρ u) := by
  rw [List.take_add_one, h, valA_app]
  simp [valA]
theorem valO_tk (ρ : Int → Bool) (l : List F) (k : Nat) (u : F) (h : l[k]? = some u) : valO ρ (l.take (k + 1)) = (valO ρ (l.take k) || val ρ u) := by
  rw [List.take_add_one, h, valO_app]
  simp [valO]
theorem valA_tkc (ρ : Nat → Bool) (l : List F) (k : Nat) (u : F) (h : l[k]? = some u) : valA (fun x => ρ x.toNat) (l.take (k + 1)) = (valA (fun x => ρ x.toNat) (l.take k) && val (fun x => ρ x.toNat) u) := valA_tk _ l k u h
theorem valO_tkc (ρ : Nat → Bool) (l : List F) (k : Nat) (u : F) (h : l[k]? = some u) : valO (fun x => ρ x.toNat) (l.take (k + 1)) = (valO (fun x => ρ x.toNat) (l.take k) || val (fun x => ρ x.toNat) u) := valO_tk _ l k u h
theorem nodesL_tk {l : List F} {k : Nat} {u : F} (h : l[k]? = some u) : nodesL (l.take (k + 1)) = nodesL (l.take k) + nodes u := by
  rw [List.take_add_one, h, nodesL_app]
  show _ + nodesL [u] = _
  rw [nodesL, nodesL, Nat.add_zero]
theorem nodesL_tkle (l : List F) (k : Nat) : nodesL (l.take k) ≤ nodesL l := by
  conv => rhs; rw [← List.take_append_drop k l, nodesL_app]
  omega
theorem nd_k6 (k a : Int) (l : List F) : (nd k a l).k = k := rfl
theorem nd_a6 (k a : Int) (l : List F) : (nd k a l).a = a := rfl
theorem nd_l6 (k a : Int) (l : List F) : (nd k a l).l = l := rfl
/-- The variables of a tree are the first six. -/
def V6 (t : F) : Prop := ∀ u ∈ pre t, u.k = 1 → 0 ≤ u.a ∧ u.a < 6
/-- The values of a tree. -/
def vt (t : F) (ρ : Nat → Bool) : Bool := val (fun x => ρ x.toNat) t
set_option maxRecDepth 100000 in
set_option maxHeartbeats 6400000 in
theorem bform_any (b0 B mp md base : Nat) : ∀ (K : Nat) (t : F), nodes t ≤ K → okT t → V6 t → ∀ (ad : Option Addr) (cap : Nat) (v : Value) (N : List (Nat × Nat × Nat)) (D : Nat) (w : World), InsF (fun c => c < b0) w ad t.l → Bld rk6 w b0 B mp md base v N D → N.length + 64 * nodes t ≤ 1000000 → D + 64 * nodes t ≤ 100000000 →
    Calls Tryz.prog 47 #[.pointer (some ⟨B, 0, none⟩), .agg #[.int .i64 t.k, .int .i64 t.a, .slice ad t.l.length cap]] w (RetB rk6 b0 B mp md base v N D w (64 * nodesL t.l + 1) (64 * nodesL t.l + 1) (vt t)) := by
  intro K
  induction K with
  | zero => intro t h; have := nodes_pos t; omega
  | succ K ih =>
    intro t hK hok hv6 ad cap v N D w hi h hnl hdl
    have hnt := nodes_l t
    have HNL := Lib.hid (show nodesL t.l ≤ K by omega)
    have hlen : t.l.length ≤ 100000000 := by have := length_nodesL t.l; omega
    have HOKL := Lib.hid (okT_l hok)
    have HV6 := Lib.hid (show ∀ u ∈ t.l, V6 u from fun u hu x hx => hv6 x (by rw [pre_eq]; exact List.mem_cons_of_mem _ (preL_mem hu hx)))
    have hk1 := hv6 t (by rw [pre_eq]; exact List.mem_cons_self ..)
    have hd := h.dist
    have hdb : b0 ≤ w.heap.size := by omega
    have HB := Lib.hid h
    have HIH := Lib.hid (fun (u : F) (hu : u ∈ t.l) => ih u (Nat.le_trans (nodesL_mem hu) HNL.out) (okL_mem HOKL.out hu) (HV6.out u hu))
    have HNM := Lib.hid (fun (u : F) (hu : u ∈ t.l) => nodesL_mem hu)
    clear ih hK hv6 h hd
    obtain ⟨tk, ta, tl⟩ := t
    simp only [nd_k6, nd_a6, nd_l6] at HNL hlen HOKL HV6 hk1 hi hnt HIH HNM ⊢
    rw [hnt] at hnl hdl
    clear hnt
    rcases single_cases hok.1 with ⟨rfl, h1, h2, rfl⟩ | ⟨rfl, rfl, t, rfl⟩ | ⟨hk, rfl, hl⟩ | ⟨hk, rfl, rfl⟩
    · obtain ⟨x, rfl⟩ : ∃ x : Nat, ta = (x : Int) := ⟨ta.toNat, by omega⟩
      have hx6 : x < 6 := by have := (hk1 rfl).2; omega
      have HN := Lib.hid (fun w' (h' : Bld rk6 w' b0 B mp md base v N D) => (show Calls Tryz.prog 88 #[.pointer (some ⟨B, 0, none⟩), .int .i64 (x : Int), .int .i64 0, .int .i64 1] w' (RetB rk6 b0 B mp md base v N D w' 1 0 (fun ρ => if ρ x then val3 ρ N 1 else val3 ρ N 0)) from node_any h' x 0 1 (varOk6 hx6) (by omega) (by omega) (fun _ => ⟨by unfold var3; rw [if_pos (by decide)]; omega, by unfold var3; rw [if_pos (by decide)]; omega⟩) (by omega)))
      clear hk1 HIH HNM
      go_enter Tryz.func47, Tryz.ntmps47
      go_wp2_with fail
      refine (HN.out _ (HB.out.bel (by (repeat' (first | (with_reducible exact Below.refl _ _) | (with_reducible exact Nat.le_refl _) | (with_reducible refine Below.bel ?_ ?_) | (with_reducible refine Below.alloc ?_ ?_ _) | (with_reducible refine Below.drew ?_) | (with_reducible refine Below.drawsN ?_ _) | (with_reducible refine Below.setCell ?_ ?_ _) | (with_reducible refine le_bel ?_) | (with_reducible refine le_alloc ?_) | (with_reducible refine le_setCell ?_) | (with_reducible refine le_drew ?_) | (with_reducible refine le_drawsN ?_) | (dsimp only; with_reducible refine le_bel ?_) | (dsimp only; with_reducible refine Nat.le_refl _) | (dsimp only; with_reducible refine le_bel_add ?_) | (with_reducible assumption) | omega | (dsimp only; omega)))))).mono ?_
      rintro _ W1 hR
      obtain ⟨p, v1, M, rfl, hB1, hK1, hM1, hp1, hv1⟩ := RetB.ahead (w := w) (by (repeat' (first | (with_reducible exact Below.refl _ _) | (with_reducible exact Nat.le_refl _) | (with_reducible refine Below.bel ?_ ?_) | (with_reducible refine Below.alloc ?_ ?_ _) | (with_reducible refine Below.drew ?_) | (with_reducible refine Below.drawsN ?_ _) | (with_reducible refine Below.setCell ?_ ?_ _) | (with_reducible refine le_bel ?_) | (with_reducible refine le_alloc ?_) | (with_reducible refine le_setCell ?_) | (with_reducible refine le_drew ?_) | (with_reducible refine le_drawsN ?_) | (dsimp only; with_reducible refine le_bel ?_) | (dsimp only; with_reducible refine Nat.le_refl _) | (dsimp only; with_reducible refine le_bel_add ?_) | (with_reducible assumption) | omega | (dsimp only; omega)))) hdb hR
      clear hR
      dsimp only
      go_wp2
      refine bodyPost_ret (v := .int .i64 (p : Int)) (by simp [results, Tryz.results47, go_sem]) rfl ⟨p, v1, M, rfl, hB1.mono (by omega), hK1, by omega, hp1, fun ρ => ?_⟩
      rw [hv1, val3_0, val3_1]
      show _ = val _ _
      rw [val, if_pos rfl]
      simp
    · obtain ⟨bb, off, hadd, hp, hcs⟩ := insF_at hi (by simp)
      subst hadd
      obtain ⟨c0, c1, ad', cap', c2, hit⟩ := cellF_open (hcs 0 t rfl)
      rw [Nat.zero_mul, Nat.add_zero] at c0 c1 c2
      have HCC := Lib.hid (HIH.out t (List.mem_singleton_self t) ad' cap' v N D)
      have HI := Lib.hid hit
      have hn1 : nodesL [t] = nodesL t.l + 1 := by rw [nodesL, nodesL, nodes_l]; omega
      have hnt : nodes t = nodesL t.l + 1 := by rw [nodes_l]; omega
      rw [hn1] at hnl hdl ⊢
      clear hcs hi hit hp hk1 HIH HNM hn1
      simp only [List.length_singleton]
      go_enter Tryz.func47, Tryz.ntmps47
      go_wp2_with fail
      refine (HCC.out _ (HI.out.of (by (repeat' (first | (with_reducible exact Below.refl _ _) | (with_reducible exact Nat.le_refl _) | (with_reducible refine Below.bel ?_ ?_) | (with_reducible refine Below.alloc ?_ ?_ _) | (with_reducible refine Below.drew ?_) | (with_reducible refine Below.drawsN ?_ _) | (with_reducible refine Below.setCell ?_ ?_ _) | (with_reducible refine le_bel ?_) | (with_reducible refine le_alloc ?_) | (with_reducible refine le_setCell ?_) | (with_reducible refine le_drew ?_) | (with_reducible refine le_drawsN ?_) | (dsimp only; with_reducible refine le_bel ?_) | (dsimp only; with_reducible refine Nat.le_refl _) | (dsimp only; with_reducible refine le_bel_add ?_) | (with_reducible assumption) | omega | (dsimp only; omega))))) (HB.out.bel (by (repeat' (first | (with_reducible exact Below.refl _ _) | (with_reducible exact Nat.le_refl _) | (with_reducible refine Below.bel ?_ ?_) | (with_reducible refine Below.alloc ?_ ?_ _) | (with_reducible refine Below.drew ?_) | (with_reducible refine Below.drawsN ?_ _) | (with_reducible refine Below.setCell ?_ ?_ _) | (with_reducible refine le_bel ?_) | (with_reducible refine le_alloc ?_) | (with_reducible refine le_setCell ?_) | (with_reducible refine le_drew ?_) | (with_reducible refine le_drawsN ?_) | (dsimp only; with_reducible refine le_bel ?_) | (dsimp only; with_reducible refine Nat.le_refl _) | (dsimp only; with_reducible refine le_bel_add ?_) | (with_reducible assumption) | omega | (dsimp only; omega))))) (by omega) (by omega)).mono ?_
      rintro _ W1 hR
      obtain ⟨p, v1, M, rfl, hB1, hK1, hM1, hp1, hv1⟩ := RetB.ahead (w := w) (by (repeat' (first | (with_reducible exact Below.refl _ _) | (with_reducible exact Nat.le_refl _) | (with_reducible refine Below.bel ?_ ?_) | (with_reducible refine Below.alloc ?_ ?_ _) | (with_reducible refine Below.drew ?_) | (with_reducible refine Below.drawsN ?_ _) | (with_reducible refine Below.setCell ?_ ?_ _) | (with_reducible refine le_bel ?_) | (with_reducible refine le_alloc ?_) | (with_reducible refine le_setCell ?_) | (with_reducible refine le_drew ?_) | (with_reducible refine le_drawsN ?_) | (dsimp only; with_reducible refine le_bel ?_) | (dsimp only; with_reducible refine Nat.le_refl _) | (dsimp only; with_reducible refine le_bel_add ?_) | (with_reducible assumption) | omega | (dsimp only; omega)))) hdb hR
      have HB1 := Lib.hid hB1
      have HK1 := Lib.hid hK1
      have HV1 := Lib.hid hv1
      have hml : (N ++ M).length = N.length + M.length := List.length_append
      clear hR HCC hB1 hK1 hv1
      dsimp only
      go_wp2_with fail
      refine (choose6 (p := p) (q := 0) (r := 1) HB1.out hp1 (by omega) (by omega) (by omega) (by omega)).mono ?_
      rintro _ W2 hR2
      have hR3 := (RetB.after HK1.out hM1 hR2 (a3 := 64 * (nodesL t.l + 1) + 1) (c3 := 64 * (nodesL t.l + 1) + 1) (by omega) (by omega)).imp (S' := vt (nd 2 0 [t])) (Nat.le_refl _) (Nat.le_refl _) fun ρ => by
        have e2 : vt (nd 2 0 [t]) ρ = !(vt t ρ) := by
          show val _ _ = _
          rw [val, if_neg (by decide), if_pos rfl]
          rfl
        unfold ite3
        rw [HV1.out ρ, val3_0, val3_1, e2]
        cases vt t ρ <;> rfl
      obtain ⟨p2, v2, M2, rfl, hR4⟩ := hR3
      clear hR2
      dsimp only
      go_wp2
      exact bodyPost_ret (v := .int .i64 (p2 : Int)) (by simp [results, Tryz.results47, go_sem]) rfl ⟨p2, v2, M2, rfl, hR4⟩
    · clear hk1
      rcases hk with rfl | rfl
      · have VV : ∀ ρ : Nat → Bool, vt (nd 3 0 tl) ρ = valA (fun x => ρ x.toNat) tl := fun ρ => by
          show val _ _ = _
          rw [val, if_neg (by decide), if_neg (by decide), if_pos rfl]
        go_enter Tryz.func47, Tryz.ntmps47
        go_wp2
        go_loopw [34, 5] (fun i pv wr => ∃ (k p : Nat) (v' : Value) (M : List (Nat × Nat × Nat)), i = .int .i64 (k : Int) ∧ pv = .int .i64 (p : Int) ∧ k ≤ tl.length ∧ Bld rk6 wr b0 B mp md base v' (N ++ M) (D + 64 * nodesL (tl.take k)) ∧ Kb b0 B mp md v w v' wr ∧ M.length ≤ 64 * nodesL (tl.take k) ∧ p < (N ++ M).length + 2 ∧ (∀ ρ : Nat → Bool, val3 ρ (N ++ M) p = valA (fun x => ρ x.toNat) (tl.take k)) ∧ w.heap.size ≤ wr.heap.size) (fun i _ _ => tl.length - (intOf i).toNat)
        case atStart =>
          exact ⟨0, 1, v, [], rfl, rfl, by omega, by rw [List.append_nil]; exact (HB.out.bel (by (repeat' (first | (with_reducible exact Below.refl _ _) | (with_reducible exact Nat.le_refl _) | (with_reducible refine Below.bel ?_ ?_) | (with_reducible refine Below.alloc ?_ ?_ _) | (with_reducible refine Below.drew ?_) | (with_reducible refine Below.drawsN ?_ _) | (with_reducible refine Below.setCell ?_ ?_ _) | (with_reducible refine le_bel ?_) | (with_reducible refine le_alloc ?_) | (with_reducible refine le_setCell ?_) | (with_reducible refine le_drew ?_) | (with_reducible refine le_drawsN ?_) | (dsimp only; with_reducible refine le_bel ?_) | (dsimp only; with_reducible refine Nat.le_refl _) | (dsimp only; with_reducible refine le_bel_add ?_) | (with_reducible assumption) | omega | (dsimp only; omega))))).mono (Nat.le_add_right _ _), (Kb.refl _ _ _ _ _ _).of_below (by (repeat' (first | (with_reducible exact Below.refl _ _) | (with_reducible exact Nat.le_refl _) | (with_reducible refine Below.bel ?_ ?_) | (with_reducible refine Below.alloc ?_ ?_ _) | (with_reducible refine Below.drew ?_) | (with_reducible refine Below.drawsN ?_ _) | (with_reducible refine Below.setCell ?_ ?_ _) | (with_reducible refine le_bel ?_) | (with_reducible refine le_alloc ?_) | (with_reducible refine le_setCell ?_) | (with_reducible refine le_drew ?_) | (with_reducible refine le_drawsN ?_) | (dsimp only; with_reducible refine le_bel ?_) | (dsimp only; with_reducible refine Nat.le_refl _) | (dsimp only; with_reducible refine le_bel_add ?_) | (with_reducible assumption) | omega | (dsimp only; omega)))) hdb, Nat.zero_le _, by rw [List.append_nil]; omega, fun ρ => by rw [List.append_nil]; exact val3_1 ρ N, by simp⟩
        case round =>
          obtain ⟨k, p, v', M, rfl, rfl, hk, hbl, hkb, hml, hpl, hvv, hsz⟩ := hrel
          have hiW := below_move hi (fun _ h => h) hkb.below
          have HBL := Lib.hid hbl
          have HKB := Lib.hid hkb
          have HVV := Lib.hid hvv
          have hnm : (N ++ M).length = N.length + M.length := List.length_append
          have hwb : b0 ≤ wr.heap.size := by omega
          clear hbl hkb hvv
          rcases Nat.lt_or_ge k tl.length with hkl | hkl
          · obtain ⟨u, hu⟩ := some_at hkl
            obtain ⟨bb, off, hadd, hp, hcs⟩ := insF_at hiW (by omega)
            cases hadd
            obtain ⟨c0, c1, ad', cap', c2, hiu⟩ := cellF_open (hcs k u hu)
            have f0 : decide ((k : Int) < (tl.length : Int)) = true := decide_eq_true (by omega)
            have hib : (0 ≤ (k : Int) ∧ (k : Int) < (tl.length : Int)) := ⟨by omega, by omega⟩
            have HCC := Lib.hid (HIH.out u (List.mem_of_getElem? hu) ad' cap' v' (N ++ M) (D + 64 * nodesL (tl.take k)))
            have HI := Lib.hid hiu
            have hnu : nodes u = nodesL u.l + 1 := by rw [nodes_l]; omega
            have htk := nodesL_tk hu
            have htl := nodesL_tkle tl (k + 1)
            have HTK := Lib.hid (fun ρ => valA_tkc ρ tl k u hu)
            rw [htk, hnu] at htl
            have HTN := Lib.hid htk
            clear hcs hiW hiu hu hp htk
            go_wp2_with fail
            refine (HCC.out _ (HI.out.of (by (repeat' (first | (with_reducible exact Below.refl _ _) | (with_reducible exact Nat.le_refl _) | (with_reducible refine Below.bel ?_ ?_) | (with_reducible refine Below.alloc ?_ ?_ _) | (with_reducible refine Below.drew ?_) | (with_reducible refine Below.drawsN ?_ _) | (with_reducible refine Below.setCell ?_ ?_ _) | (with_reducible refine le_bel ?_) | (with_reducible refine le_alloc ?_) | (with_reducible refine le_setCell ?_) | (with_reducible refine le_drew ?_) | (with_reducible refine le_drawsN ?_) | (dsimp only; with_reducible refine le_bel ?_) | (dsimp only; with_reducible refine Nat.le_refl _) | (dsimp only; with_reducible refine le_bel_add ?_) | (with_reducible assumption) | omega | (dsimp only; omega))))) (HBL.out.bel (by (repeat' (first | (with_reducible exact Below.refl _ _) | (with_reducible exact Nat.le_refl _) | (with_reducible refine Below.bel ?_ ?_) | (with_reducible refine Below.alloc ?_ ?_ _) | (with_reducible refine Below.drew ?_) | (with_reducible refine Below.drawsN ?_ _) | (with_reducible refine Below.setCell ?_ ?_ _) | (with_reducible refine le_bel ?_) | (with_reducible refine le_alloc ?_) | (with_reducible refine le_setCell ?_) | (with_reducible refine le_drew ?_) | (with_reducible refine le_drawsN ?_) | (dsimp only; with_reducible refine le_bel ?_) | (dsimp only; with_reducible refine Nat.le_refl _) | (dsimp only; with_reducible refine le_bel_add ?_) | (with_reducible assumption) | omega | (dsimp only; omega))))) (by omega) (by omega)).mono ?_
            rintro _ W1 hR
            obtain ⟨q, v1, M1, rfl, hB1, hK1, hM1, hq1, hv1⟩ := RetB.ahead (w := wr) (by (repeat' (first | (with_reducible exact Below.refl _ _) | (with_reducible exact Nat.le_refl _) | (with_reducible refine Below.bel ?_ ?_) | (with_reducible refine Below.alloc ?_ ?_ _) | (with_reducible refine Below.drew ?_) | (with_reducible refine Below.drawsN ?_ _) | (with_reducible refine Below.setCell ?_ ?_ _) | (with_reducible refine le_bel ?_) | (with_reducible refine le_alloc ?_) | (with_reducible refine le_setCell ?_) | (with_reducible refine le_drew ?_) | (with_reducible refine le_drawsN ?_) | (dsimp only; with_reducible refine le_bel ?_) | (dsimp only; with_reducible refine Nat.le_refl _) | (dsimp only; with_reducible refine le_bel_add ?_) | (with_reducible assumption) | omega | (dsimp only; omega)))) hwb hR
            have HB1 := Lib.hid hB1
            have HK1 := Lib.hid (HKB.out.trans hK1)
            have HV1 := Lib.hid hv1
            have hml1 : (N ++ M ++ M1).length = N.length + M.length + M1.length := by rw [List.length_append, hnm]
            have hsz1 := hK1.below.size
            clear hR HCC hB1 hK1 hv1
            dsimp only
            go_wp2_with fail
            refine (choose6 (p := q) (q := p) (r := 0) HB1.out hq1 (by omega) (by omega) (by omega) (by omega)).mono ?_
            rintro _ W2 ⟨p2, v2, M2, rfl, hB2, hK2, hM2, hp2, hv2⟩
            have hsz2 := hK2.below.size
            have HB2 := Lib.hid hB2
            have HK2 := Lib.hid (HK1.out.trans hK2)
            have HV2 := Lib.hid hv2
            have hml2 : (N ++ M ++ M1 ++ M2).length = N.length + M.length + M1.length + M2.length := by rw [List.length_append, hml1]
            clear hB2 hK2 hv2
            dsimp only
            go_wp2
            go_roundw
            case rel =>
              refine ⟨k + 1, p2, v2, M ++ (M1 ++ M2), by go_num, rfl, by omega, ?_, HK2.out, ?_, ?_, fun ρ => ?_, by omega⟩
              · rw [← List.append_assoc, ← List.append_assoc, HTN.out, hnu]
                exact HB2.out.mono (by omega)
              · rw [List.length_append, List.length_append, HTN.out, hnu]; omega
              · rw [← List.append_assoc, ← List.append_assoc]; exact hp2
              · rw [← List.append_assoc, ← List.append_assoc, HV2.out ρ, HTK.out]
                unfold ite3
                rw [HV1.out ρ, val3_app ρ (N ++ M) hpl M1, HVV.out ρ]
                unfold vt
                first | rw [val3_0] | rw [val3_1]
                cases val (fun x => ρ x.toNat) u <;> cases valA (fun x => ρ x.toNat) (tl.take k) <;> rfl
            case measure => simp [intOf]; omega
          · have hke : k = tl.length := by omega
            subst hke
            have f0 : decide ((tl.length : Int) < (tl.length : Int)) = false := decide_eq_false (by omega)
            clear hiW
            go_wp2
            refine bodyPost_ret (v := .int .i64 (p : Int)) (by simp [results, Tryz.results47, go_sem]) rfl ⟨p, v', M, rfl, ?_, HKB.out, ?_, hpl, fun ρ => ?_⟩
            · have := HBL.out; rw [List.take_length] at this; exact this.mono (by omega)
            · rw [List.take_length] at hml; omega
            · rw [HVV.out ρ, List.take_length, VV]
      · have VV : ∀ ρ : Nat → Bool, vt (nd 4 0 tl) ρ = valO (fun x => ρ x.toNat) tl := fun ρ => by
          show val _ _ = _
          rw [val, if_neg (by decide), if_neg (by decide), if_neg (by decide), if_pos rfl]
        go_enter Tryz.func47, Tryz.ntmps47
        go_wp2
        go_loopw [51, 8] (fun i pv wr => ∃ (k p : Nat) (v' : Value) (M : List (Nat × Nat × Nat)), i = .int .i64 (k : Int) ∧ pv = .int .i64 (p : Int) ∧ k ≤ tl.length ∧ Bld rk6 wr b0 B mp md base v' (N ++ M) (D + 64 * nodesL (tl.take k)) ∧ Kb b0 B mp md v w v' wr ∧ M.length ≤ 64 * nodesL (tl.take k) ∧ p < (N ++ M).length + 2 ∧ (∀ ρ : Nat → Bool, val3 ρ (N ++ M) p = valO (fun x => ρ x.toNat) (tl.take k)) ∧ w.heap.size ≤ wr.heap.size) (fun i _ _ => tl.length - (intOf i).toNat)
        case atStart =>
          exact ⟨0, 0, v, [], rfl, rfl, by omega, by rw [List.append_nil]; exact (HB.out.bel (by (repeat' (first | (with_reducible exact Below.refl _ _) | (with_reducible exact Nat.le_refl _) | (with_reducible refine Below.bel ?_ ?_) | (with_reducible refine Below.alloc ?_ ?_ _) | (with_reducible refine Below.drew ?_) | (with_reducible refine Below.drawsN ?_ _) | (with_reducible refine Below.setCell ?_ ?_ _) | (with_reducible refine le_bel ?_) | (with_reducible refine le_alloc ?_) | (with_reducible refine le_setCell ?_) | (with_reducible refine le_drew ?_) | (with_reducible refine le_drawsN ?_) | (dsimp only; with_reducible refine le_bel ?_) | (dsimp only; with_reducible refine Nat.le_refl _) | (dsimp only; with_reducible refine le_bel_add ?_) | (with_reducible assumption) | omega | (dsimp only; omega))))).mono (Nat.le_add_right _ _), (Kb.refl _ _ _ _ _ _).of_below (by (repeat' (first | (with_reducible exact Below.refl _ _) | (with_reducible exact Nat.le_refl _) | (with_reducible refine Below.bel ?_ ?_) | (with_reducible refine Below.alloc ?_ ?_ _) | (with_reducible refine Below.drew ?_) | (with_reducible refine Below.drawsN ?_ _) | (with_reducible refine Below.setCell ?_ ?_ _) | (with_reducible refine le_bel ?_) | (with_reducible refine le_alloc ?_) | (with_reducible refine le_setCell ?_) | (with_reducible refine le_drew ?_) | (with_reducible refine le_drawsN ?_) | (dsimp only; with_reducible refine le_bel ?_) | (dsimp only; with_reducible refine Nat.le_refl _) | (dsimp only; with_reducible refine le_bel_add ?_) | (with_reducible assumption) | omega | (dsimp only; omega)))) hdb, Nat.zero_le _, by rw [List.append_nil]; omega, fun ρ => by rw [List.append_nil]; exact val3_0 ρ N, by simp⟩
        case round =>
          obtain ⟨k, p, v', M, rfl, rfl, hk, hbl, hkb, hml, hpl, hvv, hsz⟩ := hrel
          have hiW := below_move hi (fun _ h => h) hkb.below
          have HBL := Lib.hid hbl
          have HKB := Lib.hid hkb
          have HVV := Lib.hid hvv
          have hnm : (N ++ M).length = N.length + M.length := List.length_append
          have hwb : b0 ≤ wr.heap.size := by omega
          clear hbl hkb hvv
          rcases Nat.lt_or_ge k tl.length with hkl | hkl
          · obtain ⟨u, hu⟩ := some_at hkl
            obtain ⟨bb, off, hadd, hp, hcs⟩ := insF_at hiW (by omega)
            cases hadd
            obtain ⟨c0, c1, ad', cap', c2, hiu⟩ := cellF_open (hcs k u hu)
            have f0 : decide ((k : Int) < (tl.length : Int)) = true := decide_eq_true (by omega)
            have hib : (0 ≤ (k : Int) ∧ (k : Int) < (tl.length : Int)) := ⟨by omega, by omega⟩
            have HCC := Lib.hid (HIH.out u (List.mem_of_getElem? hu) ad' cap' v' (N ++ M) (D + 64 * nodesL (tl.take k)))
            have HI := Lib.hid hiu
            have hnu : nodes u = nodesL u.l + 1 := by rw [nodes_l]; omega
            have htk := nodesL_tk hu
            have htl := nodesL_tkle tl (k + 1)
            have HTK := Lib.hid (fun ρ => valO_tkc ρ tl k u hu)
            rw [htk, hnu] at htl
            have HTN := Lib.hid htk
            clear hcs hiW hiu hu hp htk
            go_wp2_with fail
            refine (HCC.out _ (HI.out.of (by (repeat' (first | (with_reducible exact Below.refl _ _) | (with_reducible exact Nat.le_refl _) | (with_reducible refine Below.bel ?_ ?_) | (with_reducible refine Below.alloc ?_ ?_ _) | (with_reducible refine Below.drew ?_) | (with_reducible refine Below.drawsN ?_ _) | (with_reducible refine Below.setCell ?_ ?_ _) | (with_reducible refine le_bel ?_) | (with_reducible refine le_alloc ?_) | (with_reducible refine le_setCell ?_) | (with_reducible refine le_drew ?_) | (with_reducible refine le_drawsN ?_) | (dsimp only; with_reducible refine le_bel ?_) | (dsimp only; with_reducible refine Nat.le_refl _) | (dsimp only; with_reducible refine le_bel_add ?_) | (with_reducible assumption) | omega | (dsimp only; omega))))) (HBL.out.bel (by (repeat' (first | (with_reducible exact Below.refl _ _) | (with_reducible exact Nat.le_refl _) | (with_reducible refine Below.bel ?_ ?_) | (with_reducible refine Below.alloc ?_ ?_ _) | (with_reducible refine Below.drew ?_) | (with_reducible refine Below.drawsN ?_ _) | (with_reducible refine Below.setCell ?_ ?_ _) | (with_reducible refine le_bel ?_) | (with_reducible refine le_alloc ?_) | (with_reducible refine le_setCell ?_) | (with_reducible refine le_drew ?_) | (with_reducible refine le_drawsN ?_) | (dsimp only; with_reducible refine le_bel ?_) | (dsimp only; with_reducible refine Nat.le_refl _) | (dsimp only; with_reducible refine le_bel_add ?_) | (with_reducible assumption) | omega | (dsimp only; omega))))) (by omega) (by omega)).mono ?_
            rintro _ W1 hR
            obtain ⟨q, v1, M1, rfl, hB1, hK1, hM1, hq1, hv1⟩ := RetB.ahead (w := wr) (by (repeat' (first | (with_reducible exact Below.refl _ _) | (with_reducible exact Nat.le_refl _) | (with_reducible refine Below.bel ?_ ?_) | (with_reducible refine Below.alloc ?_ ?_ _) | (with_reducible refine Below.drew ?_) | (with_reducible refine Below.drawsN ?_ _) | (with_reducible refine Below.setCell ?_ ?_ _) | (with_reducible refine le_bel ?_) | (with_reducible refine le_alloc ?_) | (with_reducible refine le_setCell ?_) | (with_reducible refine le_drew ?_) | (with_reducible refine le_drawsN ?_) | (dsimp only; with_reducible refine le_bel ?_) | (dsimp only; with_reducible refine Nat.le_refl _) | (dsimp only; with_reducible refine le_bel_add ?_) | (with_reducible assumption) | omega | (dsimp only; omega)))) hwb hR
            have HB1 := Lib.hid hB1
            have HK1 := Lib.hid (HKB.out.trans hK1)
            have HV1 := Lib.hid hv1
            have hml1 : (N ++ M ++ M1).length = N.length + M.length + M1.length := by rw [List.length_append, hnm]
            have hsz1 := hK1.below.size
            clear hR HCC hB1 hK1 hv1
            dsimp only
            go_wp2_with fail
            refine (choose6 (p := q) (q := 1) (r := p) HB1.out hq1 (by omega) (by omega) (by omega) (by omega)).mono ?_
            rintro _ W2 ⟨p2, v2, M2, rfl, hB2, hK2, hM2, hp2, hv2⟩
            have hsz2 := hK2.below.size
            have HB2 := Lib.hid hB2
            have HK2 := Lib.hid (HK1.out.trans hK2)
            have HV2 := Lib.hid hv2
            have hml2 : (N ++ M ++ M1 ++ M2).length = N.length + M.length + M1.length + M2.length := by rw [List.length_append, hml1]
            clear hB2 hK2 hv2
            dsimp only
            go_wp2
            go_roundw
            case rel =>
              refine ⟨k + 1, p2, v2, M ++ (M1 ++ M2), by go_num, rfl, by omega, ?_, HK2.out, ?_, ?_, fun ρ => ?_, by omega⟩
              · rw [← List.append_assoc, ← List.append_assoc, HTN.out, hnu]
                exact HB2.out.mono (by omega)
              · rw [List.length_append, List.length_append, HTN.out, hnu]; omega
              · rw [← List.append_assoc, ← List.append_assoc]; exact hp2
              · rw [← List.append_assoc, ← List.append_assoc, HV2.out ρ, HTK.out]
                unfold ite3
                rw [HV1.out ρ, val3_app ρ (N ++ M) hpl M1, HVV.out ρ]
                unfold vt
                first | rw [val3_0] | rw [val3_1]
                cases val (fun x => ρ x.toNat) u <;> cases valO (fun x => ρ x.toNat) (tl.take k) <;> rfl
            case measure => simp [intOf]; omega
          · have hke : k = tl.length := by omega
            subst hke
            have f0 : decide ((tl.length : Int) < (tl.length : Int)) = false := decide_eq_false (by omega)
            clear hiW
            go_wp2
            refine bodyPost_ret (v := .int .i64 (p : Int)) (by simp [results, Tryz.results47, go_sem]) rfl ⟨p, v', M, rfl, ?_, HKB.out, ?_, hpl, fun ρ => ?_⟩
            · have := HBL.out; rw [List.take_length] at this; exact this.mono (by omega)
            · rw [List.take_length] at hml; omega
            · rw [HVV.out ρ, List.take_length, VV]
    · clear hk1 HIH HNM
      rcases hk with rfl | rfl
      · have hS : ∀ ρ, val3 ρ N 0 = vt (nd 5 0 []) ρ := fun ρ => by rw [val3_0]; rfl
        go_enter Tryz.func47, Tryz.ntmps47
        go_wp2_with fail
        refine bodyPost_ret (v := .int .i64 0) (by simp [results, Tryz.results47, go_sem]) rfl (RetB.same (p := 0) HB.out (by (repeat' (first | (with_reducible exact Below.refl _ _) | (with_reducible exact Nat.le_refl _) | (with_reducible refine Below.bel ?_ ?_) | (with_reducible refine Below.alloc ?_ ?_ _) | (with_reducible refine Below.drew ?_) | (with_reducible refine Below.drawsN ?_ _) | (with_reducible refine Below.setCell ?_ ?_ _) | (with_reducible refine le_bel ?_) | (with_reducible refine le_alloc ?_) | (with_reducible refine le_setCell ?_) | (with_reducible refine le_drew ?_) | (with_reducible refine le_drawsN ?_) | (dsimp only; with_reducible refine le_bel ?_) | (dsimp only; with_reducible refine Nat.le_refl _) | (dsimp only; with_reducible refine le_bel_add ?_) | (with_reducible assumption) | omega | (dsimp only; omega)))) (by omega) hS)
      · have hS : ∀ ρ, val3 ρ N 1 = vt (nd 6 0 []) ρ := fun ρ => by rw [val3_1]; rfl
        go_enter Tryz.func47, Tryz.ntmps47
        go_wp2_with fail
        refine bodyPost_ret (v := .int .i64 1) (by simp [results, Tryz.results47, go_sem]) rfl (RetB.same (p := 1) HB.out (by (repeat' (first | (with_reducible exact Below.refl _ _) | (with_reducible exact Nat.le_refl _) | (with_reducible refine Below.bel ?_ ?_) | (with_reducible refine Below.alloc ?_ ?_ _) | (with_reducible refine Below.drew ?_) | (with_reducible refine Below.drawsN ?_ _) | (with_reducible refine Below.setCell ?_ ?_ _) | (with_reducible refine le_bel ?_) | (with_reducible refine le_alloc ?_) | (with_reducible refine le_setCell ?_) | (with_reducible refine le_drew ?_) | (with_reducible refine le_drawsN ?_) | (dsimp only; with_reducible refine le_bel ?_) | (dsimp only; with_reducible refine Nat.le_refl _) | (dsimp only; with_reducible refine le_bel_add ?_) | (with_reducible assumption) | omega | (dsimp only; omega)))) (by omega) hS)
end Go.Proofs.YtkdmhjlcgpnjpaaGreatDoor
