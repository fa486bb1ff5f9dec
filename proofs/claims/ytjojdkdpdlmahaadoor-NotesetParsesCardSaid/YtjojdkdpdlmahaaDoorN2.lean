/- The reference's Words. -/
import Derived.Test.YtjojdkdpdlmahaaDoorN1
import Derived.Test.YtjojdkdpdlmahaaDoorPf
import Derived.Test.YtjojdkdpdlmahaaDoorE2
namespace Go.Proofs.YtjojdkdpdlmahaaDoor
open Go.RowKit
attribute [local go_sem low] Bel.cell Bel.frozen alloc_cell alloc_frozen

def strVs (l : List (List UInt8)) : List Value := l.map fun s => Value.string ⟨s.toArray⟩
theorem strVs_len (l : List (List UInt8)) : (strVs l).length = l.length := List.length_map _
theorem strVs_get {l : List (List UInt8)} {j : Nat} {s : List UInt8} (h : l[j]? = some s) : (strVs l)[j]? = some (.string ⟨s.toArray⟩) := by unfold strVs; rw [List.getElem?_map, h]; rfl
theorem strVs_set (pre : List (List UInt8)) (x y : List UInt8) : (strVs (pre ++ [x])).set pre.length (.string ⟨y.toArray⟩) = strVs (pre ++ [y]) := by
  unfold strVs
  rw [← List.map_set]
  simp
theorem ownV_store {w : World} {base g n cap : Nat} {e : TypeId} {l : List Value} (h : OwnV w base e (.slice (some ⟨g, 0, none⟩) n cap) l) (hn : n = l.length) (j : Nat) (x : Value) :
    OwnV (w.setCell ⟨g, j, none⟩ x) base e (.slice (some ⟨g, 0, none⟩) n cap) (l.set j x) ∧ base ≤ g := by
  subst hn
  refine ⟨?_, ?_⟩
  · unfold OwnV
    rw [List.length_set]
    exact (World.ownsRow.stored h j x).1
  · rcases h.2 with ⟨hv, _⟩ | ⟨g', cap', cur, hv, hb, _⟩
    · injection hv with e1; cases e1
    · injection hv with e1; cases e1; exact hb
theorem ownV_one (w : World) (e : TypeId) (x : Value) : OwnV (w.alloc (.cells #[x] e)) w.heap.size e (.slice (some ⟨w.heap.size, 0, none⟩) 1 1) [x] := by
  refine ⟨rfl, .inr ⟨w.heap.size, 1, #[x], rfl, Nat.le_refl _, ?_, Nat.le_refl _, by unfold maxLen; omega, rfl, rfl⟩⟩
  show (w.heap.push _)[w.heap.size]? = _
  simp
theorem wordsR_len : ∀ l : List UInt8, (wordsR l).length ≤ l.length + 1
  | [] => by simp [wordsR]
  | c :: r => by
    have ih := wordsR_len r
    rw [wordsR]
    split
    · simp; omega
    · split
      · rename_i h; rw [h] at ih; simp at ih ⊢; omega
      · simp
theorem wordsR_split (l : List UInt8) : ∃ pre x, wordsR l = pre ++ [x] := ⟨_, _, (List.dropLast_concat_getLast (wordsR_ne l)).symm⟩
theorem wordsR_mem : ∀ (l : List UInt8) (x : List UInt8), x ∈ wordsR l → x.length ≤ l.length
  | [], x, h => by simp [wordsR] at h; subst h; simp
  | c :: r, x, h => by
    rw [wordsR] at h
    split at h
    · rcases List.mem_cons.1 h with rfl | h
      · simp
      · have := wordsR_mem r x h; simp; omega
    · split at h
      · rename_i w t hw
        rcases List.mem_cons.1 h with rfl | h
        · have := wordsR_mem r w (by rw [hw]; simp); simp; omega
        · have := wordsR_mem r x (by rw [hw]; simp [h]); simp; omega
      · simp at h; subst h; simp
set_option maxRecDepth 100000 in
set_option maxHeartbeats 3200000 in
theorem refwords_any (l : List UInt8) (w : World) (hl : l.length ≤ 1000000000) :
    Calls Tryd.prog 41 #[.string ⟨l.toArray⟩] w fun e w' => ∃ v, e = .returned v ∧ ∃ y : Bel w, w' = y.w ∧ OwnV y.w w.heap.size 9 v (strVs (wordsR l)) := by
  obtain ⟨i0, hi0, hz0, hz1, hz2⟩ := info_parts Tryd.infoStr
  have ho0 := ownV_one w 9 (.string ⟨#[]⟩)
  go_enter Tryd.func41, Tryd.ntmps41
  go_wp2
  go_loopw [3, 4] (fun v i wr => ∃ (k : Nat), k ≤ l.length ∧ i = .int .i64 (k : Int) ∧ OwnV wr w.heap.size 9 v (strVs (wordsR (l.take k))) ∧ Below w.heap.size w wr) (fun v i _ => l.length - (intOf i).toNat)
  case atStart => exact ⟨0, by omega, rfl, ho0, by (repeat' (first | (with_reducible exact Below.refl _ _) | (with_reducible exact Nat.le_refl _) | (with_reducible refine Below.bel ?_ ?_) | (with_reducible refine Below.alloc ?_ ?_ _) | (with_reducible refine Below.drew ?_) | (with_reducible refine Below.drawsN ?_ _) | (with_reducible refine Below.setCell ?_ ?_ _) | (with_reducible refine le_bel ?_) | (with_reducible refine le_alloc ?_) | (with_reducible refine le_setCell ?_) | (with_reducible refine le_drew ?_) | (with_reducible refine le_drawsN ?_) | (dsimp only; with_reducible refine le_bel ?_) | (dsimp only; with_reducible refine Nat.le_refl _) | (dsimp only; with_reducible refine le_bel_add ?_) | (with_reducible assumption) | omega | (dsimp only; omega)))⟩
  case round =>
    clear ho0
    obtain ⟨k, hk, rfl, hown, hb⟩ := hrel
    have hbs := hb.size
    by_cases hkl : k < l.length
    · have hki : (k : Int) < (l.length : Int) := by omega
      obtain ⟨c, hc⟩ : ∃ c, l[k]? = some c := ⟨_, List.getElem?_eq_getElem hkl⟩
      have hcg : l[k]'hkl = c := by rw [List.getElem?_eq_getElem hkl] at hc; exact Option.some.inj hc
      have hkb : k < (ByteArray.mk l.toArray).size := by show k < l.toArray.size; simpa using hkl
      have hbk : (ByteArray.mk l.toArray)[k]'hkb = c := hcg
      obtain ⟨pre, x, hpx⟩ := wordsR_split (l.take k)
      have htk : l.take (k + 1) = l.take k ++ [c] := by rw [List.take_add_one, hc]; rfl
      have hsn := wordsR_snoc c (l.take k) pre x hpx
      rw [← htk] at hsn
      have hwl := wordsR_len (l.take k)
      have hxl := wordsR_mem (l.take k) x (by rw [hpx]; simp)
      rw [hpx] at hown hwl
      simp at hwl hxl
      have hpl : (strVs (pre ++ [x])).length = pre.length + 1 := by rw [strVs_len]; simp
      have HL := Lib.hid hpl
      have HO := Lib.hid hown
      clear hown htk hpx hc hpl
      by_cases hc32 : c = 32
      · subst hc32
        rw [if_pos rfl] at hsn
        have HS := Lib.hid hsn
        clear hsn
        have hvl := HL.out
        have hc' : ((((ByteArray.mk l.toArray)[k]'hkb).toNat : Int) == 32) = true := by rw [hbk]; rfl
        go_wp2_with (at_builtin; refine wpList_append_own _ rfl _ _ 59 rfl (w.heap.size) 9 i0 (.string ByteArray.empty) 1 16 Tryd.underlying59 hi0 hz0 hz1 hz2 rfl (by decide) _ _ _ rfl (World.ownsRow.alloc (HO.out) _) ⟨wr.heap.size, 0, none⟩ 1 1 [.string ⟨#[]⟩] rfl rfl (cell_one_new _ _ _) (by simp [Value.oneCell']) (by unfold maxLen; omega) (by omega) (by simp; omega) ?_; intro v1 w1 hown1 hgrow1 _; obtain ⟨g1, cap1, rfl⟩ := ownsRow_succ hown1; obtain ⟨ho1, hb1⟩ := ownV_app (HO.out) ((Below.refl _ _).alloc (by omega) _) (by simp) (by omega) rfl hown1 hgrow1)
        go_roundw
        case rel => exact ⟨k + 1, by omega, by go_num, by rw [HS.out]; have := ho1; rw [hvl] at this; rw [show strVs (pre ++ [x] ++ [[]]) = strVs (pre ++ [x]) ++ [.string ⟨#[]⟩] by unfold strVs; rw [List.map_append]; rfl]; exact this, hb.trans hb1⟩
        case measure => simp [intOf]; omega
      · rw [if_neg hc32] at hsn
        have hc' : ((c.toNat : Int) == 32) = false := by
          exact beq_eq_false_iff_ne.2 (fun h => hc32 (UInt8.toNat_inj.1 (by show c.toNat = 32; omega)))
        obtain ⟨g, cap, rfl, hgb, hgl, hcap, hcc⟩ := ownV_cells HO.out (by rw [HL.out]; omega)
        have hxg := hcc pre.length (.string ⟨x.toArray⟩) (strVs_get (by simp))
        obtain ⟨g1, f1⟩ := hxg
        have hst := ownV_store HO.out rfl pre.length (.string ⟨(x ++ [c]).toArray⟩)
        rw [strVs_set] at hst
        have HST := Lib.hid hst
        have HS := Lib.hid hsn
        rw [HL.out] at hcap ⊢
        have t2 : IntKind.i64.wrap (((pre.length + 1 : Nat) : Int) - 1) = (pre.length : Int) := by rw [IntWalk.i64_in _ (by omega)]; omega
        have t1 : IntKind.i64.wrap ((k : Int) + 1) = ((k + 1 : Nat) : Int) := by rw [IntWalk.i64_in _ (by omega)]; omega
        have e1 : (ByteArray.mk l.toArray).extract k (k + 1) = ⟨[c].toArray⟩ := by
          refine ByteArray.ext ?_
          rw [ByteArray.data_extract, List.extract_toArray, List.extract_eq_take_drop]
          rw [← hcg, List.drop_eq_getElem_cons hkl, Nat.add_sub_cancel_left]
          rfl
        have b1 : (ByteArray.mk x.toArray) ++ ⟨[c].toArray⟩ = ⟨(x ++ [c]).toArray⟩ := bytes_app x [c]
        have l1 : (9223372036854775807 < x.length + 1) = False := eq_false (by omega)
        clear hsn hst hcc
        go_wp2
        go_region
        go_wp2
        go_roundw
        case rel =>
          have h1 := HST.out.1
          rw [HL.out] at h1
          exact ⟨k + 1, by omega, by go_num, by rw [HS.out]; exact h1, ((hb.setCell (p := ⟨g, pre.length, none⟩) HST.out.2 _)).drew⟩
        case measure => simp [intOf]; omega
    · obtain rfl : k = l.length := by omega
      rw [List.take_length] at hown
      go_wp2
      go_ret
      exact ⟨_, rfl, ⟨_, hb⟩, rfl, hown⟩
end Go.Proofs.YtjojdkdpdlmahaaDoor
