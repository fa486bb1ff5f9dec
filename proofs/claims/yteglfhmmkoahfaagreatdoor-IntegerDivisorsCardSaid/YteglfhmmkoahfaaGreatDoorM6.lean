/- The magnitude of digits. -/
import Derived.Test.YteglfhmmkoahfaaGreatDoorM4
import Derived.Test.YteglfhmmkoahfaaGreatDoorGB
import Derived.Lib.ConvBytes
import Derived.Lib.SmallJoins
namespace Go.Proofs.YteglfhmmkoahfaaGreatDoor
open Go.RowKit
attribute [local go_sem low] Bel.cell Bel.frozen alloc_cell alloc_frozen

theorem conv_bytes (W : World) (l : List UInt8) : ∃ (x : Bel W) (cap : Nat), (convert 9 75 (.string ⟨l.toArray⟩)).run Tryz.prog W = .ok (.slice (some ⟨W.heap.size, 0, none⟩) l.length cap) x.w ∧
    ∀ (j : Nat) (c : UInt8), l[j]? = some c → x.w.cell? ⟨W.heap.size, j, none⟩ = some (.int .u8 (c.toNat : Int)) := by
  have h := Lib.run_convert_string_bytes (P := Tryz.prog) W 9 75 5 ⟨l.toArray⟩ Tryz.underlying9 Tryz.underlying75 Tryz.underlying5
  refine ⟨⟨_, Go.Joins.below_bytesWorld W.heap.size W 5 ⟨l.toArray⟩ (Nat.le_refl _)⟩, grownCap W (ByteArray.mk l.toArray).size 0 5, ?_, fun (j : Nat) (c : UInt8) (hj : l[j]? = some c) => ?_⟩
  · exact h
  · have hjl := (List.getElem?_eq_some_iff.1 hj).1
    have := Lib.bytesWorld_cell W 5 ⟨l.toArray⟩ j (by show j < l.toArray.size; simpa using hjl)
    rw [this]
    show some (Value.int .u8 ((l.getD j 0).toNat : Int)) = _
    rw [List.getD_eq_getElem?_getD, hj]; rfl
theorem u8_sub {c : UInt8} (h : 48 ≤ c.toNat ∧ c.toNat ≤ 57) : IntKind.u8.wrap ((c.toNat : Int) - 48) = ((c.toNat - 48 : Nat) : Int) := by rw [IntKind.wrap_u8']; omega
set_option maxRecDepth 100000 in
set_option maxHeartbeats 6400000 in
theorem long_any (l : List UInt8) (w : World) (hd : Digits l) (hl : l.length ≤ 80000) : Calls Tryz.prog 61 #[.string ⟨l.toArray⟩] w (MagRet w (numD l)) := by
  obtain ⟨i0, hi0, hz0, hz1, hz2⟩ := info_parts Tryz.infoU
  obtain ⟨S, hS⟩ : ∃ S, numD l = S := ⟨_, rfl⟩
  rw [hS]
  have HD := Lib.hid hd
  clear hd
  go_enter Tryz.func61, Tryz.ntmps61
  go_wp2
  go_loopw [3, 4] (fun v i wr => ∃ (e : Nat) (z : Int) (L : List Nat), i = .int .i64 z ∧ e ≤ l.length ∧ z ≤ l.length ∧ -9 ≤ z ∧ ((z = (e : Int) ∧ l.length = e + 9 * L.length) ∨ (z ≤ 0 ∧ e = 0)) ∧ 9 * L.length ≤ l.length + 9 ∧ (∀ x ∈ L, x < 1000000000) ∧ vB L = numD (l.drop e) ∧
    OwnV wr w.heap.size 59 v (uVs L) ∧ Below w.heap.size w wr) (fun v i _ => (intOf i).toNat)
  case atStart => exact ⟨l.length, l.length, [], rfl, by omega, by omega, by omega, .inl ⟨rfl, by simp⟩, by simp, by simp, by rw [List.drop_length]; rfl, ownV_nil _ _ _, by (repeat' (first | (with_reducible exact Below.refl _ _) | (with_reducible exact Nat.le_refl _) | (with_reducible refine Below.bel ?_ ?_) | (with_reducible refine Below.alloc ?_ ?_ _) | (with_reducible refine Below.drew ?_) | (with_reducible refine Below.drawsN ?_ _) | (with_reducible refine Below.setCell ?_ ?_ _) | (with_reducible refine le_bel ?_) | (with_reducible refine le_alloc ?_) | (with_reducible refine le_setCell ?_) | (with_reducible refine le_drew ?_) | (with_reducible refine le_drawsN ?_) | (dsimp only; with_reducible refine le_bel ?_) | (dsimp only; with_reducible refine Nat.le_refl _) | (dsimp only; with_reducible refine le_bel_add ?_) | (with_reducible assumption) | omega | (dsimp only; omega)))⟩
  case round =>
    obtain ⟨e, z, L, rfl, he, hz, hz9, hez, hLb, hlt, hv, hown, hb⟩ := hrel
    have hbs := hb.size
    have hLl := uVs_len L
    have HO := Lib.hid hown
    clear hown
    by_cases h0 : 0 < z
    · obtain ⟨rfl, hlen⟩ : z = (e : Int) ∧ l.length = e + 9 * L.length := by omega
      have h0' : decide (0 < (e : Int)) = true := decide_eq_true h0
      have hel : (e : Int) ≤ (l.length : Int) := by omega
      by_cases h9 : 9 ≤ e
      · obtain ⟨a, ha⟩ : ∃ a, e - 9 = a := ⟨_, rfl⟩
        have h9' : (e : Int) - 9 = (a : Int) := by omega
        have hae : a ≤ e := by omega
        have hae' : (a : Int) ≤ (e : Int) := by omega
        have hx := extract_chunk l a e
        have hcl := @chunk_len l a e he
        obtain ⟨xb, capb, hcv, hcc⟩ := conv_bytes wr (chunk l a e)
        have HST := Lib.hid (long_step hae hlen hv)
        have HLT := Lib.hid (lt_snoc hlt (numD_chunk HD.out he (by omega : e ≤ a + 9)))
        have HCD := Lib.hid (@chunk_digits l a e HD.out)
        have HCC := Lib.hid hcc
        have HOx := Lib.hid (ownV_bel HO.out xb)
        have hxs := xb.size_le
        have hbx := Below.bel (x := xb) hb hbs
        generalize chunk l a e = ch at *
        have hch9 : ch.length ≤ 9 := by omega
        have HCL := Lib.hid hcl
        have HHL := Lib.hid hlen
        have HZE := Lib.hid hez
        clear hez hv hlt hcc hcl hlen
        obtain ⟨wo, rfl⟩ : ∃ wo : World, wo = wr := ⟨_, rfl⟩
        go_wp2
        go_loopw [5, 22] (fun c j wr => ∃ k : Nat, j = .int .i64 (k : Int) ∧ k ≤ ch.length ∧ c = .int .u64 (numD (ch.take k) : Nat) ∧ wr = xb.w) (fun _ j _ => ch.length - (intOf j).toNat)
        case atStart => refine ⟨0, ?_, ?_, ?_, ?_⟩ <;> first | rfl | trivial | omega
        case round =>
          obtain ⟨k, rfl, hk, rfl, rfl⟩ := hrel
          by_cases hkc : k < ch.length
          · have hki : (k : Int) < (ch.length : Int) := by omega
            obtain ⟨c, hc⟩ : ∃ c, ch[k]? = some c := ⟨_, List.getElem?_eq_getElem hkc⟩
            have g1 := HCC.out k c hc
            have hcb := HCD.out c (List.mem_of_getElem? hc)
            have hus := u8_sub hcb
            have hnx := numD_next hc
            have hnl : numD (ch.take k) < 1000000000 := by
              have := numD_lt (digits_take HCD.out k)
              exact Nat.lt_of_lt_of_le this (Nat.pow_le_pow_right (by decide) (by rw [List.length_take]; omega : (ch.take k).length ≤ 9))
            have hdb : c.toNat - 48 ≤ 9 := by omega
            obtain ⟨dg, hdg⟩ : ∃ d, c.toNat - 48 = d := ⟨_, rfl⟩
            rw [hdg] at hus hnx hdb
            have HNX := Lib.hid hnx
            clear hc hcb hdg hnx
            generalize numD (ch.take k) = v0 at *
            go_wp2
            go_roundw
            case rel => exact ⟨k + 1, by go_num, by omega, by rw [HNX.out]; go_num, by first | rfl | trivial⟩
            case measure => simp [intOf]; omega
          · obtain rfl : k = ch.length := by omega
            rw [List.take_length]
            go_wp2_with (at_builtin; refine wpList_append_own _ rfl _ _ 52 rfl (w.heap.size) 59 i0 (.int .u64 0) 1 8 Tryz.underlying52 hi0 hz0 hz1 hz2 rfl (by decide) _ _ _ rfl (World.ownsRow.alloc (HOx.out) _) ⟨xb.w.heap.size, 0, none⟩ 1 1 [.int .u64 (numD ch : Nat)] rfl rfl (cell_one_new _ _ _) (by simp [Value.oneCell']) (by unfold maxLen; omega) (by omega) (by simp; omega) ?_; intro v1 w1 hown1 hgrow1 _; obtain ⟨g1, cap1, rfl⟩ := ownsRow_succ hown1; obtain ⟨ho1, hb1⟩ := ownV_app (HOx.out) ((Below.refl _ _).alloc (by omega) _) (by simp) (by omega) rfl hown1 hgrow1)
            go_roundw
            case rel => exact ⟨a, (a:Int), L ++ [numD ch], rfl, by omega, by omega, by omega, (.inl ⟨rfl, by rw [List.length_append, List.length_singleton]; have hh := HHL.out; omega⟩), by rw [List.length_append, List.length_singleton]; have := HHL.out; omega, HLT.out, HST.out, by rw [← uVs_snoc]; rw [hLl] at ho1; exact ho1, hbx.trans hb1⟩
            case measure => simp [intOf]; omega
      · have h9' : (e : Int) < 9 := by omega
        have hae : 0 ≤ e := by omega
        have hx := extract_chunk l 0 e
        have hcl := @chunk_len l 0 e he
        obtain ⟨xb, capb, hcv, hcc⟩ := conv_bytes wr (chunk l 0 e)
        have HST := Lib.hid (long_step hae hlen hv)
        have HLT := Lib.hid (lt_snoc hlt (numD_chunk HD.out he (by omega : e ≤ 0 + 9)))
        have HCD := Lib.hid (@chunk_digits l 0 e HD.out)
        have HCC := Lib.hid hcc
        have HOx := Lib.hid (ownV_bel HO.out xb)
        have hxs := xb.size_le
        have hbx := Below.bel (x := xb) hb hbs
        generalize chunk l 0 e = ch at *
        have hch9 : ch.length ≤ 9 := by omega
        have HCL := Lib.hid hcl
        have HHL := Lib.hid hlen
        have HZE := Lib.hid hez
        clear hez hv hlt hcc hcl hlen
        obtain ⟨wo, rfl⟩ : ∃ wo : World, wo = wr := ⟨_, rfl⟩
        go_wp2
        go_loopw [5, 22] (fun c j wr => ∃ k : Nat, j = .int .i64 (k : Int) ∧ k ≤ ch.length ∧ c = .int .u64 (numD (ch.take k) : Nat) ∧ wr = xb.w) (fun _ j _ => ch.length - (intOf j).toNat)
        case atStart => refine ⟨0, ?_, ?_, ?_, ?_⟩ <;> first | rfl | trivial | omega
        case round =>
          obtain ⟨k, rfl, hk, rfl, rfl⟩ := hrel
          by_cases hkc : k < ch.length
          · have hki : (k : Int) < (ch.length : Int) := by omega
            obtain ⟨c, hc⟩ : ∃ c, ch[k]? = some c := ⟨_, List.getElem?_eq_getElem hkc⟩
            have g1 := HCC.out k c hc
            have hcb := HCD.out c (List.mem_of_getElem? hc)
            have hus := u8_sub hcb
            have hnx := numD_next hc
            have hnl : numD (ch.take k) < 1000000000 := by
              have := numD_lt (digits_take HCD.out k)
              exact Nat.lt_of_lt_of_le this (Nat.pow_le_pow_right (by decide) (by rw [List.length_take]; omega : (ch.take k).length ≤ 9))
            have hdb : c.toNat - 48 ≤ 9 := by omega
            obtain ⟨dg, hdg⟩ : ∃ d, c.toNat - 48 = d := ⟨_, rfl⟩
            rw [hdg] at hus hnx hdb
            have HNX := Lib.hid hnx
            clear hc hcb hdg hnx
            generalize numD (ch.take k) = v0 at *
            go_wp2
            go_roundw
            case rel => exact ⟨k + 1, by go_num, by omega, by rw [HNX.out]; go_num, by first | rfl | trivial⟩
            case measure => simp [intOf]; omega
          · obtain rfl : k = ch.length := by omega
            rw [List.take_length]
            go_wp2_with (at_builtin; refine wpList_append_own _ rfl _ _ 52 rfl (w.heap.size) 59 i0 (.int .u64 0) 1 8 Tryz.underlying52 hi0 hz0 hz1 hz2 rfl (by decide) _ _ _ rfl (World.ownsRow.alloc (HOx.out) _) ⟨xb.w.heap.size, 0, none⟩ 1 1 [.int .u64 (numD ch : Nat)] rfl rfl (cell_one_new _ _ _) (by simp [Value.oneCell']) (by unfold maxLen; omega) (by omega) (by simp; omega) ?_; intro v1 w1 hown1 hgrow1 _; obtain ⟨g1, cap1, rfl⟩ := ownsRow_succ hown1; obtain ⟨ho1, hb1⟩ := ownV_app (HOx.out) ((Below.refl _ _).alloc (by omega) _) (by simp) (by omega) rfl hown1 hgrow1)
            go_roundw
            case rel => exact ⟨0, ((e:Int) - 9), L ++ [numD ch], rfl, by omega, by omega, by omega, (.inr ⟨by omega, rfl⟩), by rw [List.length_append, List.length_singleton]; have := HHL.out; omega, HLT.out, HST.out, by rw [← uVs_snoc]; rw [hLl] at ho1; exact ho1, hbx.trans hb1⟩
            case measure => simp [intOf]; omega
    · obtain rfl : e = 0 := by omega
      have HV := Lib.hid (show vB L = S by rw [hv, List.drop_zero, hS])
      have HL := Lib.hid hlt
      have h0' : decide (0 < z) = false := decide_eq_false h0
      have ho2 := HO.out
      obtain ⟨a2, cap2, rfl, hc2⟩ := limbs_own ho2
      have hLb : L.length ≤ 100000 := by omega
      have HO2 := Lib.hid ho2
      clear hv hlt hc2 hez ho2 HO
      go_wp2_with fail
      (with_reducible refine (trim_own HO2.out hLb).mono ?_)
      rintro _ _ ⟨rfl, x, rfl⟩
      dsimp only
      go_wp2
      go_ret
      exact magRet_trim x hb HO2.out HL.out HV.out
end Go.Proofs.YteglfhmmkoahfaaGreatDoor
