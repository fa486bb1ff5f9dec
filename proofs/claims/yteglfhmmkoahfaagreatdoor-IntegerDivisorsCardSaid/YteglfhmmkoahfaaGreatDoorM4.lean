/- Products of magnitudes. -/
import Derived.Test.YteglfhmmkoahfaaGreatDoorM2
namespace Go.Proofs.YteglfhmmkoahfaaGreatDoor
open Go.RowKit
attribute [local go_sem low] Bel.cell Bel.frozen alloc_cell alloc_frozen

theorem valB_set (B : Nat) (d : Nat) : ∀ (L : List Nat) (j x : Nat), L[j]? = some x → valB B (L.set j d) + B ^ j * x = valB B L + B ^ j * d
  | [], j, x, h => by simp at h
  | y :: r, 0, x, h => by simp at h; subst h; simp [valB]; omega
  | y :: r, j + 1, x, h => by
    have ih := valB_set B d r j x (by simpa using h)
    simp only [List.set_cons_succ, valB, Nat.pow_succ]
    have e : ∀ z : Nat, B ^ j * B * z = B * (B ^ j * z) := fun z => by rw [Nat.mul_comm (B ^ j) B, Nat.mul_assoc]
    rw [e, e]
    have h2 := congrArg (B * ·) ih
    simp only [Nat.mul_add] at h2
    omega
theorem vB_set {L : List Nat} {j x : Nat} (d : Nat) (h : L[j]? = some x) : vB (L.set j d) + 1000000000 ^ j * x = vB L + 1000000000 ^ j * d := valB_set _ d L j x h
theorem lt_set {L : List Nat} {j d : Nat} (h : ∀ x ∈ L, x < 1000000000) (hd : d < 1000000000) : ∀ x ∈ L.set j d, x < 1000000000 := fun x hx => by
  rcases List.mem_or_eq_of_mem_set hx with h1 | h1
  · exact h x h1
  · rw [h1]; exact hd
theorem uVs_set (L : List Nat) (j d : Nat) : uVs (L.set j d) = (uVs L).set j (.int .u64 (d : Int)) := by unfold uVs; rw [List.map_set]
theorem own_store {w : World} {base g cap : Nat} {L : List Nat} (h : OwnV w base 59 (.slice (some ⟨g, 0, none⟩) L.length cap) (uVs L)) (j d : Nat) :
    OwnV (w.setCell ⟨g, j, none⟩ (.int .u64 (d : Int))) base 59 (.slice (some ⟨g, 0, none⟩) (L.set j d).length cap) (uVs (L.set j d)) ∧ base ≤ g := by
  have hl := uVs_len L
  have h' := h
  unfold OwnV at h'
  rw [hl] at h'
  have h2 := (World.ownsRow.stored h' j (.int .u64 (d : Int))).1
  refine ⟨?_, ?_⟩
  · unfold OwnV
    rw [uVs_set, List.length_set, List.length_set, hl]
    exact h2
  · rcases h.2 with ⟨hv, _⟩ | ⟨g', cap', cur, hv, hb, _⟩
    · injection hv with e1; cases e1
    · injection hv with e1; cases e1; exact hb
theorem own_at {w : World} {base g cap n : Nat} {L : List Nat} (h : OwnV w base 59 (.slice (some ⟨g, 0, none⟩) n cap) (uVs L)) {j x : Nat} (hj : L[j]? = some x) :
    w.cell? ⟨g, j, none⟩ = some (.int .u64 (x : Int)) ∧ w.frozen? ⟨g, j, none⟩ = false := by
  have hl := uVs_len L
  obtain ⟨g', cap', hv, _, _, _, hc⟩ := ownV_cells h (by rw [hl]; have := (List.getElem?_eq_some_iff.1 hj).1; omega)
  injection hv with e1 e2 e3
  cases e1
  exact hc j _ (uVs_get hj)
/-- All limbs from some place on are 0. -/
def Zeros (L : List Nat) (k : Nat) : Prop := ∀ j x, k ≤ j → L[j]? = some x → x = 0
theorem zeros_set {L : List Nat} {k j d : Nat} (h : Zeros L k) (hj : j < k) : Zeros (L.set j d) k := fun i x hi hx => by
  rw [List.getElem?_set_ne (by omega)] at hx
  exact h i x hi hx
theorem zeros_rep (n k : Nat) : Zeros (List.replicate n 0) k := fun j x _ hx => by
  rw [List.getElem?_replicate] at hx
  split at hx
  · exact (Option.some.inj hx).symm
  · cases hx
theorem vB_rep (n : Nat) : vB (List.replicate n 0) = 0 := by
  induction n with
  | zero => rfl
  | succ n ih => 
    have e : vB (0 :: List.replicate n 0) = 0 + 1000000000 * vB (List.replicate n 0) := rfl
    rw [List.replicate_succ, e, ih]
theorem uVs_rep (n : Nat) : uVs (List.replicate n 0) = List.replicate n (.int .u64 0) := by unfold uVs; rw [List.map_replicate]; rfl
theorem times_step {L N : List Nat} {i k a b c x p d q P : Nat} (h : vB L + 1000000000 ^ (i + k) * c = P + 1000000000 ^ i * (a * vB (N.take k))) (hx : L[i + k]? = some x) (hb : vB (N.take (k + 1)) = vB (N.take k) + 1000000000 ^ k * b)
    (hp : x + a * b + c = p) (hd : p % 1000000000 = d) (hq : p / 1000000000 = q) : vB (L.set (i + k) d) + 1000000000 ^ (i + (k + 1)) * q = P + 1000000000 ^ i * (a * vB (N.take (k + 1))) := by
  have h1 := vB_set d hx
  have e : p = d + 1000000000 * q := by omega
  have e1 : 1000000000 ^ (i + (k + 1)) * q = 1000000000 ^ (i + k) * (1000000000 * q) := by rw [← Nat.add_assoc, Nat.pow_succ, Nat.mul_assoc]
  have e2 : 1000000000 ^ i * (a * vB (N.take (k + 1))) = 1000000000 ^ i * (a * vB (N.take k)) + 1000000000 ^ (i + k) * (a * b) := by
    rw [hb, Nat.mul_add, Nat.mul_add, Nat.pow_add, Nat.mul_assoc]
    congr 1
    congr 1
    rw [← Nat.mul_assoc, ← Nat.mul_assoc, Nat.mul_comm a]
  have e3 : 1000000000 ^ (i + k) * x + 1000000000 ^ (i + k) * (a * b) + 1000000000 ^ (i + k) * c = 1000000000 ^ (i + k) * d + 1000000000 ^ (i + k) * (1000000000 * q) := by
    rw [← Nat.mul_add, ← Nat.mul_add, ← Nat.mul_add, hp, e]
  rw [e1, e2]
  omega
theorem times_row {L N M : List Nat} {i a c n : Nat} (h : vB L + 1000000000 ^ (i + N.length) * c = vB (M.take i) * n + 1000000000 ^ i * (a * vB (N.take N.length))) (hN : vB N = n) (ha : vB (M.take (i + 1)) = vB (M.take i) + 1000000000 ^ i * a)
    (h0 : L[i + N.length]? = some 0) : vB (L.set (i + N.length) c) = vB (M.take (i + 1)) * n := by
  have h1 := vB_set c h0
  rw [List.take_length, hN] at h
  rw [ha, Nat.add_mul, Nat.mul_assoc]
  omega

set_option maxRecDepth 100000 in
set_option maxHeartbeats 6400000 in
theorem times_any (a b : Option Addr) (cap cap' m n : Nat) (w : World) (h1 : Limbs w a (lim m)) (h2 : Limbs w b (lim n)) (hl1 : (lim m).length ≤ 10000) (hl2 : (lim n).length ≤ 10000) :
    Calls Tryz.prog 44 #[.slice a (lim m).length cap, .slice b (lim n).length cap'] w (MagRet w (m * n)) := by
  obtain ⟨i0, hi0, hz0, hz1, hz2⟩ := info_parts Tryz.infoU
  obtain ⟨T, hT⟩ : ∃ T, (lim m).length + (lim n).length + 1 = T := ⟨_, rfl⟩
  have hT' : ((lim m).length : Int) + ((lim n).length : Int) + 1 = (T : Int) := by omega
  have hTb : T ≤ 20001 := by omega
  obtain ⟨S, hS⟩ : ∃ S, m * n = S := ⟨_, rfl⟩
  have vN := vB_lim n
  go_enter Tryz.func44, Tryz.ntmps44
  go_wp2_with (at_make; refine wpList_make_full _ rfl _ _ 52 rfl (w.heap.size) 59 i0 (.int .u64 0) 1 Tryz.underlying52 hi0 hz0 hz1 _ _ _ _ (T) rfl rfl (by first | rfl | omega | (simp <;> omega)) (by first | rfl | omega | (simp <;> omega)) (by rw [hz2] <;> omega) (by unfold maxLen; omega) (by first | omega | (simp <;> omega)) ?_; intro wM hownM hgrowM)
  have hbM : Below w.heap.size w wM := (Below.refl _ _).grown hgrowM (Nat.le_refl _) (fun k e => by cases e)
  have ho0 : OwnV wM w.heap.size 59 (.slice (some ⟨w.heap.size, 0, none⟩) T T) (uVs (List.replicate T 0)) := by
    unfold OwnV
    rw [uVs_rep, List.length_replicate]
    have := hownM
    rw [Nat.mul_one, show (Value.int .u64 0).cells = #[Value.int .u64 0] from rfl, toList_madeCells_one] at this
    exact this
  clear hownM hgrowM
  go_loopw [21] (fun i wr => ∃ (k : Nat) (L : List Nat), i = .int .i64 (k : Int) ∧ k ≤ (lim m).length ∧ L.length = T ∧ (∀ x ∈ L, x < 1000000000) ∧ vB L = vB ((lim m).take k) * n ∧ Zeros L (k + (lim n).length) ∧
    OwnV wr w.heap.size 59 (.slice (some ⟨w.heap.size, 0, none⟩) T T) (uVs L) ∧ Below w.heap.size w wr) (fun i _ => (lim m).length - (intOf i).toNat)
  case atStart => exact ⟨0, List.replicate T 0, rfl, by omega, by rw [List.length_replicate], fun x hx => by rw [(List.mem_replicate.1 hx).2]; decide, by rw [vB_rep]; simp [valB], zeros_rep _ _, ho0, hbM⟩
  case round =>
    clear ho0 hbM
    obtain ⟨i, L, rfl, hk, hL, hlt, hv, hz, hown, hb⟩ := hrel
    have hbs := hb.size
    have HO := Lib.hid hown
    clear hown
    by_cases hkm : i < (lim m).length
    · have hki : (i : Int) < ((lim m).length : Int) := by omega
      obtain ⟨b1, o1, rfl, c1⟩ := h1 (by omega)
      obtain ⟨x, hx⟩ : ∃ x, (lim m)[i]? = some x := ⟨_, List.getElem?_eq_getElem hkm⟩
      have hx9 := lim_at hx
      have g1 := cell_carry hb (c1 i x hx)
      have HX := Lib.hid (valB_take (B := 1000000000) hx)
      have HC1 := Lib.hid c1
      have HV := Lib.hid hv
      have HLt := Lib.hid hlt
      have HZ := Lib.hid hz
      clear hx c1 hv hlt hz h1
      obtain ⟨wo, rfl⟩ : ∃ wo : World, wo = wr := ⟨_, rfl⟩
      go_wp2
      go_loopw [8, 28] (fun c j wr => ∃ (k c' : Nat) (L : List Nat), j = .int .i64 (k : Int) ∧ k ≤ (lim n).length ∧ c = .int .u64 (c' : Int) ∧ c' < 1000000000 ∧ L.length = T ∧ (∀ x ∈ L, x < 1000000000) ∧
        vB L + 1000000000 ^ (i + k) * c' = vB ((lim m).take i) * n + 1000000000 ^ i * (x * vB ((lim n).take k)) ∧ Zeros L (i + (lim n).length) ∧
        OwnV wr w.heap.size 59 (.slice (some ⟨w.heap.size, 0, none⟩) T T) (uVs L) ∧ Below w.heap.size w wr) (fun _ j _ => (lim n).length - (intOf j).toNat)
      case atStart => exact ⟨0, 0, L, rfl, by omega, rfl, by omega, hL, HLt.out, by rw [HV.out]; simp [valB], HZ.out, HO.out, hb⟩
      case round =>
        clear g1 HLt HV HZ HO hb hbs hL L
        obtain ⟨k, c, L, rfl, hk2, rfl, hc, hL, hlt, hv, hz, hown, hb⟩ := hrel
        have hbs := hb.size
        have HO := Lib.hid hown
        clear hown
        by_cases hkn : k < (lim n).length
        · have hkj : (k : Int) < ((lim n).length : Int) := by omega
          obtain ⟨b2, o2, rfl, c2⟩ := h2 (by omega)
          obtain ⟨y, hy⟩ : ∃ y, (lim n)[k]? = some y := ⟨_, List.getElem?_eq_getElem hkn⟩
          have hy9 := lim_at hy
          have g2 := cell_carry hb (c2 k y hy)
          have ey := valB_take (B := 1000000000) hy
          obtain ⟨z, hz1⟩ : ∃ z, L[i + k]? = some z := ⟨_, List.getElem?_eq_getElem (by omega)⟩
          have hz9 : z < 1000000000 := hlt z (List.mem_of_getElem? hz1)
          obtain ⟨g3, f3⟩ := own_at HO.out hz1
          obtain ⟨p1, hp1⟩ : ∃ p, x * y = p := ⟨_, rfl⟩
          have hp1' : (x : Int) * (y : Int) = (p1 : Int) := by rw [← hp1]; simp
          have hp1b : p1 ≤ 999999998000000001 := by
            rw [← hp1]
            exact Nat.le_trans (Nat.mul_le_mul (show x ≤ 999999999 by omega) (show y ≤ 999999999 by omega)) (by decide)
          obtain ⟨p2, hp2⟩ : ∃ p, z + p1 = p := ⟨_, rfl⟩
          have hp2' : (z : Int) + (p1 : Int) = (p2 : Int) := by omega
          have hp2b : p2 ≤ 999999999000000000 := by omega
          obtain ⟨p, hp⟩ : ∃ q, p2 + c = q := ⟨_, rfl⟩
          have hp' : (p2 : Int) + (c : Int) = (p : Int) := by omega
          have hpb : p ≤ 999999999999999999 := by omega
          obtain ⟨d, hd⟩ : ∃ d, p % 1000000000 = d := ⟨_, rfl⟩
          obtain ⟨q, hq⟩ : ∃ q, p / 1000000000 = q := ⟨_, rfl⟩
          have hd' : (p : Int) % 1000000000 = (d : Int) := by omega
          have hq' : (p : Int) / 1000000000 = (q : Int) := by omega
          have hqb : q < 1000000000 := by omega
          have hij : (i : Int) + (k : Int) < (T : Int) := by omega
          have HV := Lib.hid (times_step hv hz1 ey (by omega) hd hq)
          have HL := Lib.hid (lt_set (j := i + k) hlt (show d < 1000000000 by omega))
          have HZ := Lib.hid (zeros_set (d := d) hz (show i + k < i + (lim n).length by omega))
          have HS := Lib.hid (own_store (by rw [hL]; exact HO.out) (i + k) d)
          have HLe := Lib.hid hL
          clear hv hlt hz hd hq hp hp1 hp2 ey hy hz1 c2 h2 hL
          go_wp2
          go_roundw
          case rel =>
            have hS' := HS.out.1
            rw [List.length_set, HLe.out] at hS'
            exact ⟨k + 1, q, L.set (i + k) d, by go_num, by omega, rfl, hqb, by rw [List.length_set, HLe.out], HL.out, HV.out, HZ.out, hS', by (repeat' (first | (with_reducible exact Below.refl _ _) | (with_reducible exact Nat.le_refl _) | (with_reducible refine Below.bel ?_ ?_) | (with_reducible refine Below.alloc ?_ ?_ _) | (with_reducible refine Below.drew ?_) | (with_reducible refine Below.drawsN ?_ _) | (with_reducible refine Below.setCell ?_ ?_ _) | (with_reducible refine le_bel ?_) | (with_reducible refine le_alloc ?_) | (with_reducible refine le_setCell ?_) | (with_reducible refine le_drew ?_) | (with_reducible refine le_drawsN ?_) | (dsimp only; with_reducible refine le_bel ?_) | (dsimp only; with_reducible refine Nat.le_refl _) | (dsimp only; with_reducible refine le_bel_add ?_) | (with_reducible assumption) | omega | (dsimp only; omega)))⟩
          case measure => simp [intOf]; omega
        · obtain rfl : k = (lim n).length := by omega
          have h0 : L[i + (lim n).length]? = some 0 := by
            obtain ⟨z, hz1⟩ : ∃ z, L[i + (lim n).length]? = some z := ⟨_, List.getElem?_eq_getElem (by omega)⟩
            rw [hz1, hz _ z (Nat.le_refl _) hz1]
          obtain ⟨g3, f3⟩ := own_at HO.out h0
          have hij : (i : Int) + ((lim n).length : Int) < (T : Int) := by omega
          have HV := Lib.hid (times_row hv vN HX.out h0)
          have HL := Lib.hid (lt_set (j := i + (lim n).length) hlt hc)
          have HZ := Lib.hid (show Zeros (L.set (i + (lim n).length) c) (i + 1 + (lim n).length) from zeros_set (fun j x hj hx => hz j x (by omega) hx) (by omega))
          have HS := Lib.hid (own_store (by rw [hL]; exact HO.out) (i + (lim n).length) c)
          have HLe := Lib.hid hL
          clear hv hlt hz h0 h2 hL
          go_wp2
          go_roundw
          case rel =>
            have hS' := HS.out.1
            rw [List.length_set, HLe.out] at hS'
            exact ⟨i + 1, L.set (i + (lim n).length) c, by go_num, by omega, by rw [List.length_set, HLe.out], HL.out, HV.out, HZ.out, hS', by (repeat' (first | (with_reducible exact Below.refl _ _) | (with_reducible exact Nat.le_refl _) | (with_reducible refine Below.bel ?_ ?_) | (with_reducible refine Below.alloc ?_ ?_ _) | (with_reducible refine Below.drew ?_) | (with_reducible refine Below.drawsN ?_ _) | (with_reducible refine Below.setCell ?_ ?_ _) | (with_reducible refine le_bel ?_) | (with_reducible refine le_alloc ?_) | (with_reducible refine le_setCell ?_) | (with_reducible refine le_drew ?_) | (with_reducible refine le_drawsN ?_) | (dsimp only; with_reducible refine le_bel ?_) | (dsimp only; with_reducible refine Nat.le_refl _) | (dsimp only; with_reducible refine le_bel_add ?_) | (with_reducible assumption) | omega | (dsimp only; omega)))⟩
          case measure => simp [intOf]; omega
    · obtain rfl : i = (lim m).length := by omega
      have HV := Lib.hid (show vB L = S by rw [hv, List.take_length, vB_lim, hS])
      have HL := Lib.hid hlt
      clear hT hT'
      subst hL
      have hLb : L.length ≤ 100000 := by omega
      clear hv hlt h1 h2 hk hkm hz
      go_wp2_with fail
      (with_reducible refine (trim_own HO.out hLb).mono ?_)
      rintro _ _ ⟨rfl, x, rfl⟩
      dsimp only
      go_wp2
      go_ret
      have := magRet_trim x hb HO.out HL.out HV.out
      rw [hS]; exact this
end Go.Proofs.YteglfhmmkoahfaaGreatDoor
