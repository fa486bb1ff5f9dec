/- times, with the room that its result has; slices.Clone. -/
import Derived.Test.YteglfhmmkoahfaaGreatDoorM4
import Derived.Test.YteglfhmmkoahfaaGreatDoorGA
namespace Go.Proofs.YteglfhmmkoahfaaGreatDoor
open Go.RowKit
attribute [local go_sem low] Bel.cell Bel.frozen alloc_cell alloc_frozen

/-- The call returns a new slice of a number's limbs, with room for C of them. -/
def MagCap (w : World) (N C : Nat) (e : Ending) (w' : World) : Prop := ∃ cap, e = .returned (.slice (some ⟨w.heap.size, 0, none⟩) (lim N).length cap) ∧ C ≤ cap ∧ ∃ y : Bel w, w' = y.w ∧ OwnV y.w w.heap.size 59 (.slice (some ⟨w.heap.size, 0, none⟩) (lim N).length cap) (uVs (lim N))
set_option maxRecDepth 100000 in
set_option maxHeartbeats 6400000 in
theorem times_cap (a b : Option Addr) (cap cap' m n : Nat) (w : World) (h1 : Limbs w a (lim m)) (h2 : Limbs w b (lim n)) (hl1 : (lim m).length ≤ 10000) (hl2 : (lim n).length ≤ 10000) :
    Calls Tryz.prog 44 #[.slice a (lim m).length cap, .slice b (lim n).length cap'] w (MagCap w (m * n) ((lim m).length + (lim n).length + 1)) := by
  obtain ⟨i0, hi0, hz0, hz1, hz2⟩ := info_parts Tryz.infoU
  obtain ⟨T, hT⟩ : ∃ T, (lim m).length + (lim n).length + 1 = T := ⟨_, rfl⟩
  have hT' : ((lim m).length : Int) + ((lim n).length : Int) + 1 = (T : Int) := by omega
  have hTb : T ≤ 20001 := by omega
  obtain ⟨S, hS⟩ : ∃ S, m * n = S := ⟨_, rfl⟩
  have vN := vB_lim n
  go_enter Tryz.func44, Tryz.ntmps44
  go_wp2_with (at_make; refine wpList_make_full _ rfl _ _ 52 rfl (w.heap.size) 59 i0 (.int .u64 0) 1 Tryz.underlying52 hi0 hz0 hz1 _ _ _ _ (T) rfl rfl (by first | rfl | omega | (simp <;> omega)) (by first | rfl | omega | (simp <;> omega)) (by rw [hz2] <;> omega) (by unfold maxLen; omega) (by first | omega | (simp <;> omega)) ?_; intro wM hownM hgrowM)
  have hbM : Below w.heap.size w wM := (Below.refl _ _).grown hgrowM (Nat.le_refl _) (fun k e => by cases e)
  have ho0 : OwnV wM w.heap.size 59 (.slice (some ⟨w.heap.size, 0, none⟩) T T) (uVs (List.replicate T 0)) := by
    unfold OwnV
    rw [uVs_rep, List.length_replicate]
    have := hownM
    rw [Nat.mul_one, show (Value.int .u64 0).cells = #[Value.int .u64 0] from rfl, toList_madeCells_one] at this
    exact this
  clear hownM hgrowM
  go_loopw [21] (fun i wr => ∃ (k : Nat) (L : List Nat), i = .int .i64 (k : Int) ∧ k ≤ (lim m).length ∧ L.length = T ∧ (∀ x ∈ L, x < 1000000000) ∧ vB L = vB ((lim m).take k) * n ∧ Zeros L (k + (lim n).length) ∧
    OwnV wr w.heap.size 59 (.slice (some ⟨w.heap.size, 0, none⟩) T T) (uVs L) ∧ Below w.heap.size w wr) (fun i _ => (lim m).length - (intOf i).toNat)
  case atStart => exact ⟨0, List.replicate T 0, rfl, by omega, by rw [List.length_replicate], fun x hx => by rw [(List.mem_replicate.1 hx).2]; decide, by rw [vB_rep]; simp [valB], zeros_rep _ _, ho0, hbM⟩
  case round =>
    clear ho0 hbM
    obtain ⟨i, L, rfl, hk, hL, hlt, hv, hz, hown, hb⟩ := hrel
    have hbs := hb.size
    have HO := Lib.hid hown
    clear hown
    by_cases hkm : i < (lim m).length
    · have hki : (i : Int) < ((lim m).length : Int) := by omega
      obtain ⟨b1, o1, rfl, c1⟩ := h1 (by omega)
      obtain ⟨x, hx⟩ : ∃ x, (lim m)[i]? = some x := ⟨_, List.getElem?_eq_getElem hkm⟩
      have hx9 := lim_at hx
      have g1 := cell_carry hb (c1 i x hx)
      have HX := Lib.hid (valB_take (B := 1000000000) hx)
      have HC1 := Lib.hid c1
      have HV := Lib.hid hv
      have HLt := Lib.hid hlt
      have HZ := Lib.hid hz
      clear hx c1 hv hlt hz h1
      obtain ⟨wo, rfl⟩ : ∃ wo : World, wo = wr := ⟨_, rfl⟩
      go_wp2
      go_loopw [8, 28] (fun c j wr => ∃ (k c' : Nat) (L : List Nat), j = .int .i64 (k : Int) ∧ k ≤ (lim n).length ∧ c = .int .u64 (c' : Int) ∧ c' < 1000000000 ∧ L.length = T ∧ (∀ x ∈ L, x < 1000000000) ∧
        vB L + 1000000000 ^ (i + k) * c' = vB ((lim m).take i) * n + 1000000000 ^ i * (x * vB ((lim n).take k)) ∧ Zeros L (i + (lim n).length) ∧
        OwnV wr w.heap.size 59 (.slice (some ⟨w.heap.size, 0, none⟩) T T) (uVs L) ∧ Below w.heap.size w wr) (fun _ j _ => (lim n).length - (intOf j).toNat)
      case atStart => exact ⟨0, 0, L, rfl, by omega, rfl, by omega, hL, HLt.out, by rw [HV.out]; simp [valB], HZ.out, HO.out, hb⟩
      case round =>
        clear g1 HLt HV HZ HO hb hbs hL L
        obtain ⟨k, c, L, rfl, hk2, rfl, hc, hL, hlt, hv, hz, hown, hb⟩ := hrel
        have hbs := hb.size
        have HO := Lib.hid hown
        clear hown
        by_cases hkn : k < (lim n).length
        · have hkj : (k : Int) < ((lim n).length : Int) := by omega
          obtain ⟨b2, o2, rfl, c2⟩ := h2 (by omega)
          obtain ⟨y, hy⟩ : ∃ y, (lim n)[k]? = some y := ⟨_, List.getElem?_eq_getElem hkn⟩
          have hy9 := lim_at hy
          have g2 := cell_carry hb (c2 k y hy)
          have ey := valB_take (B := 1000000000) hy
          obtain ⟨z, hz1⟩ : ∃ z, L[i + k]? = some z := ⟨_, List.getElem?_eq_getElem (by omega)⟩
          have hz9 : z < 1000000000 := hlt z (List.mem_of_getElem? hz1)
          obtain ⟨g3, f3⟩ := own_at HO.out hz1
          obtain ⟨p1, hp1⟩ : ∃ p, x * y = p := ⟨_, rfl⟩
          have hp1' : (x : Int) * (y : Int) = (p1 : Int) := by rw [← hp1]; simp
          have hp1b : p1 ≤ 999999998000000001 := by
            rw [← hp1]
            exact Nat.le_trans (Nat.mul_le_mul (show x ≤ 999999999 by omega) (show y ≤ 999999999 by omega)) (by decide)
          obtain ⟨p2, hp2⟩ : ∃ p, z + p1 = p := ⟨_, rfl⟩
          have hp2' : (z : Int) + (p1 : Int) = (p2 : Int) := by omega
          have hp2b : p2 ≤ 999999999000000000 := by omega
          obtain ⟨p, hp⟩ : ∃ q, p2 + c = q := ⟨_, rfl⟩
          have hp' : (p2 : Int) + (c : Int) = (p : Int) := by omega
          have hpb : p ≤ 999999999999999999 := by omega
          obtain ⟨d, hd⟩ : ∃ d, p % 1000000000 = d := ⟨_, rfl⟩
          obtain ⟨q, hq⟩ : ∃ q, p / 1000000000 = q := ⟨_, rfl⟩
          have hd' : (p : Int) % 1000000000 = (d : Int) := by omega
          have hq' : (p : Int) / 1000000000 = (q : Int) := by omega
          have hqb : q < 1000000000 := by omega
          have hij : (i : Int) + (k : Int) < (T : Int) := by omega
          have HV := Lib.hid (times_step hv hz1 ey (by omega) hd hq)
          have HL := Lib.hid (lt_set (j := i + k) hlt (show d < 1000000000 by omega))
          have HZ := Lib.hid (zeros_set (d := d) hz (show i + k < i + (lim n).length by omega))
          have HS := Lib.hid (own_store (by rw [hL]; exact HO.out) (i + k) d)
          have HLe := Lib.hid hL
          clear hv hlt hz hd hq hp hp1 hp2 ey hy hz1 c2 h2 hL
          go_wp2
          go_roundw
          case rel =>
            have hS' := HS.out.1
            rw [List.length_set, HLe.out] at hS'
            exact ⟨k + 1, q, L.set (i + k) d, by go_num, by omega, rfl, hqb, by rw [List.length_set, HLe.out], HL.out, HV.out, HZ.out, hS', by (repeat' (first | (with_reducible exact Below.refl _ _) | (with_reducible exact Nat.le_refl _) | (with_reducible refine Below.bel ?_ ?_) | (with_reducible refine Below.alloc ?_ ?_ _) | (with_reducible refine Below.drew ?_) | (with_reducible refine Below.drawsN ?_ _) | (with_reducible refine Below.setCell ?_ ?_ _) | (with_reducible refine le_bel ?_) | (with_reducible refine le_alloc ?_) | (with_reducible refine le_setCell ?_) | (with_reducible refine le_drew ?_) | (with_reducible refine le_drawsN ?_) | (dsimp only; with_reducible refine le_bel ?_) | (dsimp only; with_reducible refine Nat.le_refl _) | (dsimp only; with_reducible refine le_bel_add ?_) | (with_reducible assumption) | omega | (dsimp only; omega)))⟩
          case measure => simp [intOf]; omega
        · obtain rfl : k = (lim n).length := by omega
          have h0 : L[i + (lim n).length]? = some 0 := by
            obtain ⟨z, hz1⟩ : ∃ z, L[i + (lim n).length]? = some z := ⟨_, List.getElem?_eq_getElem (by omega)⟩
            rw [hz1, hz _ z (Nat.le_refl _) hz1]
          obtain ⟨g3, f3⟩ := own_at HO.out h0
          have hij : (i : Int) + ((lim n).length : Int) < (T : Int) := by omega
          have HV := Lib.hid (times_row hv vN HX.out h0)
          have HL := Lib.hid (lt_set (j := i + (lim n).length) hlt hc)
          have HZ := Lib.hid (show Zeros (L.set (i + (lim n).length) c) (i + 1 + (lim n).length) from zeros_set (fun j x hj hx => hz j x (by omega) hx) (by omega))
          have HS := Lib.hid (own_store (by rw [hL]; exact HO.out) (i + (lim n).length) c)
          have HLe := Lib.hid hL
          clear hv hlt hz h0 h2 hL
          go_wp2
          go_roundw
          case rel =>
            have hS' := HS.out.1
            rw [List.length_set, HLe.out] at hS'
            exact ⟨i + 1, L.set (i + (lim n).length) c, by go_num, by omega, by rw [List.length_set, HLe.out], HL.out, HV.out, HZ.out, hS', by (repeat' (first | (with_reducible exact Below.refl _ _) | (with_reducible exact Nat.le_refl _) | (with_reducible refine Below.bel ?_ ?_) | (with_reducible refine Below.alloc ?_ ?_ _) | (with_reducible refine Below.drew ?_) | (with_reducible refine Below.drawsN ?_ _) | (with_reducible refine Below.setCell ?_ ?_ _) | (with_reducible refine le_bel ?_) | (with_reducible refine le_alloc ?_) | (with_reducible refine le_setCell ?_) | (with_reducible refine le_drew ?_) | (with_reducible refine le_drawsN ?_) | (dsimp only; with_reducible refine le_bel ?_) | (dsimp only; with_reducible refine Nat.le_refl _) | (dsimp only; with_reducible refine le_bel_add ?_) | (with_reducible assumption) | omega | (dsimp only; omega)))⟩
          case measure => simp [intOf]; omega
    · obtain rfl : i = (lim m).length := by omega
      have HV := Lib.hid (show vB L = S by rw [hv, List.take_length, vB_lim, hS])
      have HL := Lib.hid hlt
      have HTC := Lib.hid hT
      clear hT hT'
      subst hL
      have hLb : L.length ≤ 100000 := by omega
      clear hv hlt h1 h2 hk hkm hz
      go_wp2_with fail
      (with_reducible refine (trim_own HO.out hLb).mono ?_)
      rintro _ _ ⟨rfl, x, rfl⟩
      dsimp only
      go_wp2
      go_ret
      have h1 := own_trim HO.out
      have h2 := trim_lim HL.out HV.out
      rw [h2] at h1 ⊢
      rw [hS]
      exact ⟨_, rfl, Nat.le_of_eq HTC.out, ⟨x.w, Below.bel hb hb.size⟩, rfl, ownV_bel h1 x⟩
theorem ownV_empty (w : World) (e : TypeId) : OwnV (w.alloc (.cells #[] e)) w.heap.size e (.slice (some ⟨w.heap.size, 0, none⟩) 0 0) [] := by
  refine ⟨rfl, .inr ⟨w.heap.size, 0, #[], rfl, Nat.le_refl _, ?_, Nat.le_refl _, by unfold maxLen; omega, rfl, rfl⟩⟩
  show (w.heap.push _)[w.heap.size]? = _
  simp
theorem uVs_one (l : List Nat) : ∀ u ∈ uVs l, u.oneCell' = true := fun u hu => by
  obtain ⟨z, _, rfl⟩ := List.mem_map.1 hu
  rfl
set_option maxRecDepth 100000 in
set_option maxHeartbeats 1600000 in
theorem clone_any (b off cap : Nat) (l : List Nat) (w : World) (h : ∀ (j x : Nat), l[j]? = some x → w.cell? ⟨b, off + j, none⟩ = some (.int .u64 (x : Int))) (hl : l.length ≤ 100000) :
    Calls Tryz.prog 64 #[.slice (some ⟨b, off, none⟩) l.length cap] w fun e w' => ∃ v, e = .returned v ∧ ∃ y : Bel w, w' = y.w ∧ OwnV y.w w.heap.size 59 v (uVs l) := by
  obtain ⟨i0, hi0, hz0, hz1, hz2⟩ := info_parts Tryz.infoU
  have hll := uVs_len l
  have hnews : ∀ (jj : Nat) u, (uVs l)[jj]? = some u → (w.alloc (.cells #[] 59)).cell? (Addr.add ⟨b, off, none⟩ jj) = some u := fun jj u hu => by
    unfold uVs at hu
    rw [List.getElem?_map] at hu
    cases hx : l[jj]? with
    | none => rw [hx] at hu; cases hu
    | some x =>
      rw [hx] at hu
      injection hu with hu
      subst hu
      have := cell_carry ((Below.refl w.heap.size w).alloc (Nat.le_refl _) (.cells #[] 59)) (h jj x hx)
      rw [show Addr.add ⟨b, off, none⟩ jj = ⟨b, off + jj, none⟩ by simp [Addr.add]]; exact this
  have HNW := Lib.hid hnews
  have HE := Lib.hid (ownV_empty w 59)
  clear h hnews
  have heq := fun wx : World => Lib.run_eql_slice_nil (P := Tryz.prog) wx 52 59 (some ⟨b, off, none⟩) l.length cap 0 0 Tryz.underlying52
  go_enter Tryz.func64, Tryz.ntmps64
  go_wp2_with (at_builtin; refine wpList_append_own _ rfl _ _ 52 rfl w.heap.size 59 i0 (.int .u64 0) 1 8 Tryz.underlying52 hi0 hz0 hz1 hz2 rfl (by decide) _ _ _ rfl HE.out ⟨b, off, none⟩ l.length cap (uVs l) rfl (by rw [hll, Nat.mul_one]) HNW.out (uVs_one l) (by unfold maxLen; simp; omega) (by simp; omega) (by simp) ?_; intro v1 w1 hown1 hgrow1 hnn1)
  obtain ⟨ho1, hb0⟩ := ownV_app HE.out (Below.refl _ _) (by simp) (by simp) (by rw [hll]) hown1 hgrow1
  have hb1 : Below w.heap.size w w1 := ((Below.refl _ _).alloc (Nat.le_refl _) _).trans hb0
  clear hown1 hgrow1 hnn1
  go_wp2
  go_ret
  exact ⟨_, rfl, ⟨w1, hb1⟩, rfl, ho1⟩
end Go.Proofs.YteglfhmmkoahfaaGreatDoor
