/- Division of a magnitude by one limb. -/
import Derived.Test.YteglfhmmkoahfaaGreatDoorM4
namespace Go.Proofs.YteglfhmmkoahfaaGreatDoor
open Go.RowKit
attribute [local go_sem low] Bel.cell Bel.frozen alloc_cell alloc_frozen

theorem by_step {L M : List Nat} {j x p d q r c : Nat} (hx : M[j]? = some x) (hl : j < L.length) (h : vB (M.drop (j + 1)) = d * vB (L.drop (j + 1)) + c) (hp : c * 1000000000 + x = p) (hq : p / d = q) (hr : p % d = r) :
    vB (M.drop j) = d * vB ((L.set j q).drop j) + r := by
  have hjm := (List.getElem?_eq_some_iff.1 hx).1
  have e1 : M.drop j = x :: M.drop (j + 1) := by rw [List.drop_eq_getElem_cons hjm, (List.getElem?_eq_some_iff.1 hx).2]
  have e2 : (L.set j q).drop j = q :: L.drop (j + 1) := by
    rw [List.drop_eq_getElem_cons (by rw [List.length_set]; exact hl), List.getElem_set_self]
    congr 1
    rw [List.drop_set_of_lt (by omega)]
  have v : ∀ (y : Nat) (l : List Nat), vB (y :: l) = y + 1000000000 * vB l := fun _ _ => rfl
  rw [e1, e2, v, v, h]
  have e3 := Nat.div_add_mod p d
  rw [hq, hr] at e3
  rw [Nat.mul_add, Nat.mul_add, ← Nat.mul_assoc, ← Nat.mul_assoc, Nat.mul_comm d 1000000000]
  omega
theorem by_lim {c d x p q : Nat} (hc : c < d) (hx : x < 1000000000) (hp : c * 1000000000 + x = p) (hq : p / d = q) : q < 1000000000 := by
  rw [← hq]
  refine Nat.div_lt_of_lt_mul ?_
  have := Nat.mul_le_mul_right 1000000000 (show c + 1 ≤ d from hc)
  omega
theorem by_end {n d v r : Nat} (h : n = d * v + r) (hr : r < d) : v = n / d ∧ r = n % d := by
  rw [h, Nat.mul_add_div (by omega), Nat.div_eq_of_lt hr, Nat.mul_add_mod, Nat.mod_eq_of_lt hr]
  exact ⟨rfl, rfl⟩
/-- The call returns quotient and remainder. -/
def ByRet (w : World) (N R : Nat) (e : Ending) (w' : World) : Prop := ∃ v, e = .returned (.tuple #[v, .int .u64 (R : Int)]) ∧ ∃ y : Bel w, w' = y.w ∧ OwnV y.w w.heap.size 59 v (uVs (lim N))
theorem byRet_trim {w W : World} {a : Option Addr} {cap : Nat} {L : List Nat} {n R : Nat} (x : Bel W) (hW : Below w.heap.size w W) (ho : OwnV W w.heap.size 59 (.slice a L.length cap) (uVs L)) (hL : ∀ x ∈ L, x < 1000000000) (hv : vB L = n) :
    ByRet w n R (.returned (.tuple #[.slice a (trimL L).length cap, .int .u64 (R : Int)])) x.w := by
  have h1 := own_trim ho
  rw [trim_lim hL hv] at h1 ⊢
  exact ⟨_, rfl, ⟨x.w, Below.bel hW hW.size⟩, rfl, ownV_bel h1 x⟩
set_option maxRecDepth 100000 in
set_option maxHeartbeats 6400000 in
theorem by_any (a : Option Addr) (cap m d : Nat) (w : World) (h1 : Limbs w a (lim m)) (hl1 : (lim m).length ≤ 10000) (hd0 : 0 < d) (hd : d < 1000000000) :
    Calls Tryz.prog 62 #[.slice a (lim m).length cap, .int .u64 (d : Int)] w (ByRet w (m / d) (m % d)) := by
  obtain ⟨i0, hi0, hz0, hz1, hz2⟩ := info_parts Tryz.infoU
  obtain ⟨M, hM⟩ : ∃ M, lim m = M := ⟨_, rfl⟩
  have vM : vB M = m := by rw [← hM]; exact vB_lim m
  have bM : ∀ x ∈ M, x < 1000000000 := by rw [← hM]; exact lim_lt m
  obtain ⟨Q, hQ⟩ : ∃ Q, m / d = Q := ⟨_, rfl⟩
  obtain ⟨R, hR⟩ : ∃ R, m % d = R := ⟨_, rfl⟩
  rw [hM] at h1 hl1 ⊢
  rw [hQ, hR]
  clear hM
  have t1 : IntKind.i64.wrap ((M.length : Int) - 1) = (M.length : Int) - 1 := IntWalk.i64_in _ (by omega)
  have hdi : 1 ≤ (d : Int) := by omega
  go_enter Tryz.func62, Tryz.ntmps62
  go_wp2_with (at_make; refine wpList_make_full _ rfl _ _ 52 rfl (w.heap.size) 59 i0 (.int .u64 0) 1 Tryz.underlying52 hi0 hz0 hz1 _ _ _ _ (M.length) rfl rfl (by first | rfl | omega | (simp <;> omega)) (by first | rfl | omega | (simp <;> omega)) (by rw [hz2] <;> omega) (by unfold maxLen; omega) (by first | omega | (simp <;> omega)) ?_; intro wM hownM hgrowM)
  have hbM : Below w.heap.size w wM := (Below.refl _ _).grown hgrowM (Nat.le_refl _) (fun k e => by cases e)
  have ho0 : OwnV wM w.heap.size 59 (.slice (some ⟨w.heap.size, 0, none⟩) M.length M.length) (uVs (List.replicate M.length 0)) := by
    unfold OwnV
    rw [uVs_rep, List.length_replicate]
    have := hownM
    rw [Nat.mul_one, show (Value.int .u64 0).cells = #[Value.int .u64 0] from rfl, toList_madeCells_one] at this
    exact this
  clear hownM hgrowM
  go_loopw [7, 8] (fun c i wr => ∃ (k c' : Nat) (L : List Nat), i = .int .i64 ((k : Int) - 1) ∧ k ≤ M.length ∧ c = .int .u64 (c' : Int) ∧ c' < d ∧ L.length = M.length ∧ (∀ x ∈ L, x < 1000000000) ∧ vB (M.drop k) = d * vB (L.drop k) + c' ∧
    OwnV wr w.heap.size 59 (.slice (some ⟨w.heap.size, 0, none⟩) M.length M.length) (uVs L) ∧ Below w.heap.size w wr) (fun _ i _ => (intOf i + 1).toNat)
  case atStart => exact ⟨M.length, 0, List.replicate M.length 0, rfl, by omega, rfl, hd0, by rw [List.length_replicate], fun x hx => by rw [(List.mem_replicate.1 hx).2]; decide, by rw [List.drop_length, List.drop_of_length_le (by rw [List.length_replicate]; omega)]; simp [valB], ho0, hbM⟩
  case round =>
    clear ho0 hbM t1
    obtain ⟨k, c, L, rfl, hk, rfl, hc, hL, hlt, hv, hown, hb⟩ := hrel
    have hbs := hb.size
    have HO := Lib.hid hown
    clear hown
    by_cases h0 : k = 0
    · subst h0
      rw [List.drop_zero, List.drop_zero, vM] at hv
      obtain ⟨e1, e2⟩ := by_end hv hc
      have HV := Lib.hid (show vB L = Q by rw [e1, hQ])
      have HR := Lib.hid (show c = R by rw [e2, hR])
      have HL := Lib.hid hlt
      have hLb : L.length ≤ 100000 := by omega
      have HO2 := Lib.hid (show OwnV wr w.heap.size 59 (.slice (some ⟨w.heap.size, 0, none⟩) L.length M.length) (uVs L) by rw [hL]; exact HO.out)
      have HLe := Lib.hid hL
      clear hv hlt h1 e1 e2 hL HO hk
      go_wp2_with fail
      have HT2 := trim_own HO2.out hLb
      rw [HLe.out] at HT2
      (with_reducible refine HT2.mono ?_)
      rintro _ _ ⟨rfl, x, rfl⟩
      dsimp only
      go_wp2
      go_ret2
      have := byRet_trim (R := R) x hb HO2.out HL.out HV.out
      rw [HR.out]; exact this
    · obtain ⟨j, rfl⟩ : ∃ j, k = j + 1 := ⟨k - 1, by omega⟩
      obtain ⟨b1, o1, rfl, c1⟩ := h1 (by omega)
      obtain ⟨x, hx⟩ : ∃ x, M[j]? = some x := ⟨_, List.getElem?_eq_getElem (by omega)⟩
      have hx9 := bM x (List.mem_of_getElem? hx)
      have g1 := cell_carry hb (c1 j x hx)
      obtain ⟨z, hz1⟩ : ∃ z, L[j]? = some z := ⟨_, List.getElem?_eq_getElem (by omega)⟩
      obtain ⟨g3, f3⟩ := own_at HO.out hz1
      obtain ⟨p, hp⟩ : ∃ p, c * 1000000000 + x = p := ⟨_, rfl⟩
      have hp' : (c : Int) * 1000000000 + (x : Int) = (p : Int) := by omega
      have hpb : p ≤ 999999999999999999 := by omega
      have hcb : c ≤ 999999999 := by omega
      obtain ⟨q, hq⟩ : ∃ q, p / d = q := ⟨_, rfl⟩
      obtain ⟨r, hr⟩ : ∃ r, p % d = r := ⟨_, rfl⟩
      have hq' : (p : Int) / (d : Int) = (q : Int) := by rw [← hq]; simp
      have hr' : (p : Int) % (d : Int) = (r : Int) := by rw [← hr]; simp
      have hrd : r < d := by rw [← hr]; exact Nat.mod_lt _ hd0
      have hqb := by_lim hc hx9 hp hq
      have HV := Lib.hid (by_step hx (by omega) hv hp hq hr)
      have HL := Lib.hid (lt_set (j := j) hlt hqb)
      have HS := Lib.hid (own_store (by rw [hL]; exact HO.out) j q)
      have HLe := Lib.hid hL
      have t3 : ((j + 1 : Nat) : Int) - 1 = (j : Int) := by omega
      have t2 : IntKind.i64.wrap ((j : Int) - 1) = (j : Int) - 1 := IntWalk.i64_in _ (by omega)
      have hj1 : (j : Int) < (M.length : Int) := by omega
      rw [t3]
      clear hv hlt hp hq hr hx hz1 c1 h1 t3 hL
      go_wp2
      go_region
      go_wp2
      go_roundw
      case rel =>
        have hS' := HS.out.1
        rw [List.length_set, HLe.out] at hS'
        exact ⟨j, r, L.set j q, rfl, by omega, by rw [hr'], hrd, by rw [List.length_set, HLe.out], HL.out, HV.out, hS', by (repeat' (first | (with_reducible exact Below.refl _ _) | (with_reducible exact Nat.le_refl _) | (with_reducible refine Below.bel ?_ ?_) | (with_reducible refine Below.alloc ?_ ?_ _) | (with_reducible refine Below.drew ?_) | (with_reducible refine Below.drawsN ?_ _) | (with_reducible refine Below.setCell ?_ ?_ _) | (with_reducible refine le_bel ?_) | (with_reducible refine le_alloc ?_) | (with_reducible refine le_setCell ?_) | (with_reducible refine le_drew ?_) | (with_reducible refine le_drawsN ?_) | (dsimp only; with_reducible refine le_bel ?_) | (dsimp only; with_reducible refine Nat.le_refl _) | (dsimp only; with_reducible refine le_bel_add ?_) | (with_reducible assumption) | omega | (dsimp only; omega)))⟩
      case measure => simp [intOf] <;> omega
end Go.Proofs.YteglfhmmkoahfaaGreatDoor
