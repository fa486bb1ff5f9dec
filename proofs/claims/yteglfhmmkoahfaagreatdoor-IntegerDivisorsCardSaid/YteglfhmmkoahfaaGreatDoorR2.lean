/- The reference's group. -/
import Derived.Test.YteglfhmmkoahfaaGreatDoorR1
import Derived.Deep.RegionHeld3
import Derived.Deep.AppendLies
namespace Go.Proofs.YteglfhmmkoahfaaGreatDoor
open Go.RowKit
attribute [local go_sem low] Bel.cell Bel.frozen alloc_cell alloc_frozen

theorem group_step {t : List UInt8} {L : List Nat} {a N : Nat} (hv : numD t * 10000 ^ L.length + vG L = N) (hta : t.length = a + 4) : numD (t.take a) * 10000 ^ (L ++ [numD (t.drop a)]).length + vG (L ++ [numD (t.drop a)]) = N := by
  have h1 : numD t = numD (t.take a) * 10000 + numD (t.drop a) := by
    have := numD_app (t.take a) (t.drop a)
    rw [List.take_append_drop, List.length_drop, hta, Nat.add_sub_cancel_left] at this
    exact this
  rw [vG_snoc, List.length_append, List.length_singleton, Nat.pow_succ, ← hv, h1, Nat.add_mul, Nat.mul_assoc (numD (t.take a)) 10000, Nat.mul_comm 10000, Nat.mul_comm (numD (t.drop a))]
  omega
theorem group_end {t : List UInt8} {L : List Nat} {N : Nat} (hv : numD t * 10000 ^ L.length + vG L = N) : vG (L ++ [numD t]) = N := by rw [vG_snoc, Nat.mul_comm]; omega
theorem numD_4 {t : List UInt8} (h : Digits t) (hl : t.length ≤ 4) : numD t < 10000 := by
  have := numD_lt h
  have h2 : (10 : Nat) ^ t.length ≤ 10 ^ 4 := Nat.pow_le_pow_right (by decide) hl
  omega
set_option maxRecDepth 100000 in
set_option maxHeartbeats 6400000 in
theorem group_any (d : List UInt8) (w : World) (hd : Digits d) (h0 : d ≠ []) (hl : d.length ≤ 80000) : Calls Tryz.prog 51 #[.string ⟨d.toArray⟩] w (GrpRet w (numD d)) := by
  obtain ⟨i0, hi0, hz0, hz1, hz2⟩ := info_parts Tryz.infoI
  obtain ⟨N, hN⟩ : ∃ N, numD d = N := ⟨_, rfl⟩
  rw [hN]
  go_enter Tryz.func51, Tryz.ntmps51
  go_wp2
  go_loopw [0, 3] (fun s v wr => ∃ (t : List UInt8) (L : List Nat), s = .string ⟨t.toArray⟩ ∧ Digits t ∧ 0 < t.length ∧ t.length + 4 * L.length = d.length ∧ (∀ x ∈ L, x < 10000) ∧ numD t * 10000 ^ L.length + vG L = N ∧
    OwnV wr w.heap.size 3 v (iVs L) ∧ Below w.heap.size w wr) (fun s _ _ => match s with | .string b => b.size | _ => 0)
  case atStart => exact ⟨d, [], rfl, hd, List.length_pos_iff.2 h0, by simp, by simp, by simp [hN, valB], ownV_nil _ _ _, by (repeat' (first | (with_reducible exact Below.refl _ _) | (with_reducible exact Nat.le_refl _) | (with_reducible refine Below.bel ?_ ?_) | (with_reducible refine Below.alloc ?_ ?_ _) | (with_reducible refine Below.drew ?_) | (with_reducible refine Below.drawsN ?_ _) | (with_reducible refine Below.setCell ?_ ?_ _) | (with_reducible refine le_bel ?_) | (with_reducible refine le_alloc ?_) | (with_reducible refine le_setCell ?_) | (with_reducible refine le_drew ?_) | (with_reducible refine le_drawsN ?_) | (dsimp only; with_reducible refine le_bel ?_) | (dsimp only; with_reducible refine Nat.le_refl _) | (dsimp only; with_reducible refine le_bel_add ?_) | (with_reducible assumption) | omega | (dsimp only; omega)))⟩
  case round =>
    obtain ⟨t, L, rfl, ht, ht0, hlen, hlt, hv, hown, hb⟩ := hrel
    have hbs := hb.size
    have hLl := iVs_len L
    have HO := Lib.hid hown
    clear hown
    by_cases h4 : 4 < t.length
    · obtain ⟨a, ha⟩ : ∃ a, t.length = a + 4 := ⟨t.length - 4, by omega⟩
      have HV := Lib.hid (group_step hv ha)
      have hc4 : (t.drop a).length = 4 := by rw [List.length_drop]; omega
      have hdd := digits_drop ht a
      have hn4 := numD_4 hdd (by omega)
      have HL := Lib.hid (lt_snocG hlt hn4)
      have HA := Lib.hid (fun w' => atoi_ok (t.drop a) _ w' (by omega) (atoi_digits hdd (fun h => by rw [h] at hc4; simp at hc4) (by omega)))
      have HT := Lib.hid (digits_take ht a)
      have htl : (t.take a).length = a := by rw [List.length_take]; omega
      have e1 : decide ((4 : Int) < (t.length : Int)) = true := decide_eq_true (by omega)
      have t4 : IntKind.i64.wrap ((t.length : Int) - 4) = (a : Int) := by rw [IntWalk.i64_in _ (by omega)]; omega
      have hx1 : (ByteArray.mk t.toArray).extract a t.length = ⟨(t.drop a).toArray⟩ := extract_drop t a
      have hx2 : (ByteArray.mk t.toArray).extract 0 a = ⟨(t.take a).toArray⟩ := extract_take t a
      have hab : (a : Int) ≤ (t.length : Int) := by omega
      have ha0 : (0 : Int) ≤ (a : Int) := by omega
      have HLA := Lib.hid ha
      have ha1 : 0 < a := by omega
      clear hv hlt hdd h4 ha
      generalize t.drop a = c at *
      generalize t.take a = t2 at *
      generalize numD c = n at *
      go_wp2_with fail
      (with_reducible refine (HA.out _).mono ?_)
      rintro _ _ ⟨rfl, y, rfl⟩
      have hys := y.size_le
      have HOy := Lib.hid (ownV_bel HO.out y)
      dsimp only
      go_wp2_with fail
      go_region_held3 (fun _ => True) (trivial) ((refine step_append_lies _ (by rfl) _ _ _ (by rfl) w.heap.size 3 i0 (.int .i64 0) 1 8 Tryz.underlying67 hi0 hz0 hz1 hz2 rfl (by decide) _ _ _ (by rfl) (World.ownsRow.alloc (HOy.out) _) ⟨y.w.heap.size, 0, none⟩ 1 1 [.int .i64 (n : Int)] (by rfl) rfl (cell_one_new _ _ _) (by simp [Value.oneCell']) (by decide) (by unfold maxLen; omega) (by omega) (by simp; omega) _ rfl ?_; intro g1 cap1 w1 hown1 hgrow1 _ _))
      obtain ⟨ho1, hb1⟩ := ownV_app (HOy.out) ((Below.refl _ _).alloc (by omega) _).drew (by simp) (by omega) rfl hown1 hgrow1
      rw [hLl] at ho1
      rw [iVs_snoc] at ho1
      have hbw := (hb.trans (y.below.mono hbs)).trans hb1
      have HLL := Lib.hid (show L.length + 1 = (L ++ [n]).length by simp)
      clear hown1 hgrow1
      go_wp2
      go_roundw
      case rel => exact ⟨t2, L ++ [n], rfl, HT.out, by omega, by have h1 := HLA.out; have h2 := HLL.out; omega, HL.out, HV.out, ho1, hbw⟩
      case measure => have h1 := HLA.out; show t2.toArray.size < t.toArray.size; simp; omega
    · have e1 : decide ((4 : Int) < (t.length : Int)) = false := decide_eq_false (by omega)
      have hn4 := numD_4 ht (by omega)
      have HL := Lib.hid (lt_snocG hlt hn4)
      have HV := Lib.hid (group_end hv)
      have HA := Lib.hid (fun w' => atoi_ok t _ w' (by omega) (atoi_digits ht (List.length_pos_iff.1 ht0) (by omega)))
      clear hv hlt ht h4
      generalize numD t = n at *
      go_wp2_with fail
      (with_reducible refine (HA.out _).mono ?_)
      rintro _ _ ⟨rfl, y, rfl⟩
      have hys := y.size_le
      have HOy := Lib.hid (ownV_bel HO.out y)
      dsimp only
      go_wp2_with (at_builtin; refine wpList_append_own _ rfl _ _ 67 rfl (w.heap.size) 3 i0 (.int .i64 0) 1 8 Tryz.underlying67 hi0 hz0 hz1 hz2 rfl (by decide) _ _ _ rfl (World.ownsRow.alloc (HOy.out) _) ⟨y.w.heap.size, 0, none⟩ 1 1 [.int .i64 (n : Int)] rfl rfl (cell_one_new _ _ _) (by simp [Value.oneCell']) (by unfold maxLen; omega) (by omega) (by simp; omega) ?_; intro v1 w1 hown1 hgrow1 _; obtain ⟨g1, cap1, rfl⟩ := ownsRow_succ hown1; obtain ⟨ho1, hb1⟩ := ownV_app (HOy.out) ((Below.refl _ _).alloc (by omega) _) (by simp) (by omega) rfl hown1 hgrow1)
      have e : L.length + 1 = (L ++ [n]).length := by simp
      have hbw := (hb.trans (y.below.mono hbs)).trans hb1
      have ho2 : OwnV w1 w.heap.size 3 (.slice (some ⟨g1, 0, none⟩) (L ++ [n]).length cap1) (iVs (L ++ [n])) := by rw [← iVs_snoc, ← e, ← hLl]; exact ho1
      rw [e]
      (with_reducible refine (short_own ho2 (by rw [List.length_append, List.length_singleton]; omega)).mono ?_)
      rintro _ _ ⟨rfl, x, rfl⟩
      dsimp only
      go_wp2
      go_ret
      exact grpRet_trim x hbw ho2 HL.out HV.out
end Go.Proofs.YteglfhmmkoahfaaGreatDoor
