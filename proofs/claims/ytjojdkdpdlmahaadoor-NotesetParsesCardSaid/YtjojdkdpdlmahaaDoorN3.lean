/- Parse. -/
import Derived.Test.YtjojdkdpdlmahaaDoorN2
import Derived.Test.YtjojdkdpdlmahaaDoorK
import Derived.Test.YtjojdkdpdlmahaaDoorTwo
import Derived.ChangeAgain
import Derived.Lib.SplitLaws
namespace Go.Proofs.YtjojdkdpdlmahaaDoor
open Go.RowKit
attribute [local go_sem low] Bel.cell Bel.frozen alloc_cell alloc_frozen

theorem shaped_of {w w' : World} (h : w.ShapedOpen Tryd.prog) (hb : Below w.heap.size w w') : w'.ShapedOpen Tryd.prog := h.keptBut (hb.frame (fun _ => False)) (fun _ h => h.elim)
/-- What Parse returns. -/
def parR (l : List UInt8) : Value := .tuple #[setV (parV l).1 (parV l).2.1, .int .i64 (parV l).2.2]
theorem parR_of {l : List UInt8} {lo hi : Nat} {e : Int} (h : parV l = (lo, hi, e)) : Value.tuple #[.agg #[.int .u64 (lo : Int), .int .u64 (hi : Int)], .int .i64 e] = parR l := by unfold parR; rw [h]; rfl
theorem map_back (l : List ByteArray) : (l.map (·.data.toList)).map (fun s : List UInt8 => (⟨s.toArray⟩ : ByteArray)) = l := by
  rw [List.map_map]
  exact (List.map_congr_left fun x _ => by simp).trans (List.map_id l)
theorem split_any (l : List UInt8) (w : World) (hsh : w.ShapedOpen Tryd.prog) (hl : l.length ≤ 65536) :
    Calls Tryd.prog 56 #[.string ⟨l.toArray⟩, .string ⟨#[32]⟩] w fun e w' => e = .returned (.slice (some ⟨w.heap.size, 0, none⟩) (wordsR l).length (wordsR l).length) ∧ w' = w.alloc (.cells (strVs (wordsR l)).toArray 9) := by
  have hd : (Lib.splitB ⟨#[32]⟩ 0 (Lib.countB ⟨l.toArray⟩ ⟨#[32]⟩) ⟨l.toArray⟩).map (·.data.toList) = wordsR l := by
    rw [Lib.splitB_data]
    exact split_words l
  have hB : Lib.splitB ⟨#[32]⟩ 0 (Lib.countB ⟨l.toArray⟩ ⟨#[32]⟩) ⟨l.toArray⟩ = (wordsR l).map (fun s : List UInt8 => (⟨s.toArray⟩ : ByteArray)) := by rw [← hd, map_back]
  have hn : Lib.countB ⟨l.toArray⟩ ⟨#[32]⟩ + 1 = (wordsR l).length := by
    have := Lib.splitB_all ⟨#[32]⟩ (by decide) 0 _ ⟨l.toArray⟩ rfl
    rw [hB, List.length_map] at this
    exact this.symm
  refine (Tryd.strings_Split_shaped ⟨l.toArray⟩ ⟨#[32]⟩ w hsh (by show l.toArray.size < _; simp; omega) (by decide)).mono fun e w' ⟨h1, h2⟩ => ?_
  rw [hn] at h1
  rw [hB, List.map_map] at h2
  exact ⟨h1, h2⟩
/-- The texts lie in a row. -/
def WordsAt (w : World) (b : Nat) (l : List (List UInt8)) : Prop := ∀ (j : Nat) (x : List UInt8), l[j]? = some x → w.cell? ⟨b, j, none⟩ = some (.string ⟨x.toArray⟩)
theorem WordsAt.of {w w' : World} {b : Nat} {l : List (List UInt8)} (h : WordsAt w b l) (hb : Below w.heap.size w w') : WordsAt w' b l := fun j x hj => cell_carry hb (h j x hj)
theorem WordsAt.set {w : World} {b : Nat} {l : List (List UInt8)} (h : WordsAt w b l) {p : Addr} (hp : p.block ≠ b) (v : Value) : WordsAt (w.setCell p v) b l := fun j x hj => by
  rw [World.cell?_setCell_other (h := fun e => hp (by rw [e]))]; exact h j x hj
theorem words_new (w : World) (l : List (List UInt8)) (e : TypeId) : WordsAt (w.alloc (.cells (strVs l).toArray e)) w.heap.size l := fun j x hj => by
  have h1 := strVs_get hj
  simp [go_sem, h1]
set_option maxRecDepth 100000 in
set_option maxHeartbeats 6400000 in
theorem parse_any (l : List UInt8) (w : World) (hsh : w.ShapedOpen Tryd.prog) (hT : Tab w) (hE : Errs w) : Calls Tryd.prog 39 #[.string ⟨l.toArray⟩] w (Ret (parR l) w) := by
  by_cases h1 : 65536 < l.length
  · have HP := Lib.hid (parR_of (show parV l = (0, 0, 16) by unfold parV; rw [if_pos h1]))
    have h1' : decide ((65536 : Int) < (l.length : Int)) = true := decide_eq_true (by omega)
    go_enter Tryd.func39, Tryd.ntmps39
    go_wp2
    refine bodyPost_ret (v := .tuple #[.agg #[.int .u64 0, .int .u64 0], .int .i64 16]) (by simp [results, Tryd.results39, go_sem]) rfl (Ret.mk (by exact HP.out) (by (repeat' (first | (with_reducible exact Below.refl _ _) | (with_reducible exact Nat.le_refl _) | (with_reducible refine Below.bel ?_ ?_) | (with_reducible refine Below.alloc ?_ ?_ _) | (with_reducible refine Below.drew ?_) | (with_reducible refine Below.drawsN ?_ _) | (with_reducible refine Below.setCell ?_ ?_ _) | (with_reducible refine le_bel ?_) | (with_reducible refine le_alloc ?_) | (with_reducible refine le_setCell ?_) | (with_reducible refine le_drew ?_) | (with_reducible refine le_drawsN ?_) | (dsimp only; with_reducible refine le_bel ?_) | (dsimp only; with_reducible refine Nat.le_refl _) | (dsimp only; with_reducible refine le_bel_add ?_) | (with_reducible assumption) | omega | (dsimp only; omega)))))
  · by_cases h0 : l = []
    · subst h0
      have HP := Lib.hid (parR_of (show parV [] = (0, 0, 0) by unfold parV; rw [if_neg h1, if_pos rfl]))
      go_enter Tryd.func39, Tryd.ntmps39
      go_wp2
      refine bodyPost_ret (v := .tuple #[.agg #[.int .u64 0, .int .u64 0], .int .i64 0]) (by simp [results, Tryd.results39, go_sem]) rfl (Ret.mk (by exact HP.out) (by (repeat' (first | (with_reducible exact Below.refl _ _) | (with_reducible exact Nat.le_refl _) | (with_reducible refine Below.bel ?_ ?_) | (with_reducible refine Below.alloc ?_ ?_ _) | (with_reducible refine Below.drew ?_) | (with_reducible refine Below.drawsN ?_ _) | (with_reducible refine Below.setCell ?_ ?_ _) | (with_reducible refine le_bel ?_) | (with_reducible refine le_alloc ?_) | (with_reducible refine le_setCell ?_) | (with_reducible refine le_drew ?_) | (with_reducible refine le_drawsN ?_) | (dsimp only; with_reducible refine le_bel ?_) | (dsimp only; with_reducible refine Nat.le_refl _) | (dsimp only; with_reducible refine le_bel_add ?_) | (with_reducible assumption) | omega | (dsimp only; omega)))))
    · have hPV : parV l = parW 0 0 (wordsR l) := by unfold parV; rw [if_neg h1, if_neg h0]
      have h1' : decide ((65536 : Int) < (l.length : Int)) = false := decide_eq_false (by omega)
      have h0' : l.isEmpty = false := by cases l with
        | nil => exact absurd rfl h0
        | cons _ _ => rfl
      have HSP := Lib.hid (fun w' (h : w'.ShapedOpen Tryd.prog) => split_any l w' h (by omega))
      have HSH := Lib.hid hsh
      have HT := Lib.hid hT
      have HE := Lib.hid hE
      have HW := Lib.hid (wordsR_mem l)
      have hwl := wordsR_len l
      clear hsh hT hE
      go_enter Tryd.func39, Tryd.ntmps39
      go_wp2_with fail
      (with_reducible refine (HSP.out _ (shaped_of HSH.out (by (repeat' (first | (with_reducible exact Below.refl _ _) | (with_reducible exact Nat.le_refl _) | (with_reducible refine Below.bel ?_ ?_) | (with_reducible refine Below.alloc ?_ ?_ _) | (with_reducible refine Below.drew ?_) | (with_reducible refine Below.drawsN ?_ _) | (with_reducible refine Below.setCell ?_ ?_ _) | (with_reducible refine le_bel ?_) | (with_reducible refine le_alloc ?_) | (with_reducible refine le_setCell ?_) | (with_reducible refine le_drew ?_) | (with_reducible refine le_drawsN ?_) | (dsimp only; with_reducible refine le_bel ?_) | (dsimp only; with_reducible refine Nat.le_refl _) | (dsimp only; with_reducible refine le_bel_add ?_) | (with_reducible assumption) | omega | (dsimp only; omega)))))).mono ?_)
      rintro _ _ ⟨rfl, rfl⟩
      dsimp only
      generalize wordsR l = L at *
      have hWL : L.length ≤ 65537 := by omega
      clear hwl
      go_wp2
      go_loopw [19] (fun i wr => ∃ (k lo hi : Nat), k ≤ L.length ∧ i = .int .i64 (k : Int) ∧ lo < 18446744073709551616 ∧ hi < 18446744073709551616 ∧ parW lo hi (L.drop k) = parW 0 0 L ∧
        Own2 wr w.heap.size (.int .u64 0) (.int .u64 0) ∧ Own2 wr (w.heap.size + 1) (.int .u64 (lo : Int)) (.int .u64 (hi : Int)) ∧ WordsAt wr (w.heap.size + 1 + 1) L ∧ Below w.heap.size w wr ∧ w.heap.size + 3 ≤ wr.heap.size) (fun i _ => L.length - (intOf i).toNat)
      case atStart =>
        refine ⟨0, 0, 0, by omega, rfl, by omega, by omega, rfl, ?_, ?_, (by have := words_new ((w.alloc (.cells #[.int .u64 0, .int .u64 0] 34)).alloc (.cells #[.int .u64 0, .int .u64 0] 34)) L 9; simpa using this), by (repeat' (first | (with_reducible exact Below.refl _ _) | (with_reducible exact Nat.le_refl _) | (with_reducible refine Below.bel ?_ ?_) | (with_reducible refine Below.alloc ?_ ?_ _) | (with_reducible refine Below.drew ?_) | (with_reducible refine Below.drawsN ?_ _) | (with_reducible refine Below.setCell ?_ ?_ _) | (with_reducible refine le_bel ?_) | (with_reducible refine le_alloc ?_) | (with_reducible refine le_setCell ?_) | (with_reducible refine le_drew ?_) | (with_reducible refine le_drawsN ?_) | (dsimp only; with_reducible refine le_bel ?_) | (dsimp only; with_reducible refine Nat.le_refl _) | (dsimp only; with_reducible refine le_bel_add ?_) | (with_reducible assumption) | omega | (dsimp only; omega))), by simp⟩
        · unfold Own2; simp [go_sem]
        · unfold Own2; simp [go_sem]
      case round =>
        obtain ⟨k, lo, hi, hk, rfl, b1, b2, hp, hO, hS, hwa, hb, hsz⟩ := hrel
        have hbs := hb.size
        by_cases hlt : k < L.length
        · have hki : (k : Int) < (L.length : Int) := by omega
          obtain ⟨x, hx⟩ : ∃ x, L[k]? = some x := ⟨_, List.getElem?_eq_getElem hlt⟩
          have g1 := hwa k x hx
          have hxl := HW.out x (List.mem_of_getElem? hx)
          have hxb : x.length ≤ 140737488355328 := by omega
          rw [drop_cons hx] at hp
          clear hx
          rcases hv : noteOf x with _ | n
          · rw [parW_none hv] at hp
            have hN := noteV_none hv
            have HP := Lib.hid (parR_of (hPV.trans hp.symm))
            have HNT := Lib.hid (noteAll_any x wr hxb (HT.out.of hb) (HE.out.of hb))
            rw [← hN] at HNT
            obtain ⟨o1, o2, o3, o4⟩ := hO
            clear hp hv hN hS hwa
            go_wp2_with fail
            (with_reducible refine HNT.out.mono ?_)
            rintro _ _ ⟨rfl, y, rfl⟩
            dsimp only
            go_wp2
            refine bodyPost_ret (v := .tuple #[.agg #[.int .u64 0, .int .u64 0], .int .i64 8]) (by simp [results, Tryd.results39, go_sem, o1, o2, o3, o4]) rfl (Ret.mk (by exact HP.out) (by (repeat' (first | (with_reducible exact Below.refl _ _) | (with_reducible exact Nat.le_refl _) | (with_reducible refine Below.bel ?_ ?_) | (with_reducible refine Below.alloc ?_ ?_ _) | (with_reducible refine Below.drew ?_) | (with_reducible refine Below.drawsN ?_ _) | (with_reducible refine Below.setCell ?_ ?_ _) | (with_reducible refine le_bel ?_) | (with_reducible refine le_alloc ?_) | (with_reducible refine le_setCell ?_) | (with_reducible refine le_drew ?_) | (with_reducible refine le_drawsN ?_) | (dsimp only; with_reducible refine le_bel ?_) | (dsimp only; with_reducible refine Nat.le_refl _) | (dsimp only; with_reducible refine le_bel_add ?_) | (with_reducible assumption) | omega | (dsimp only; omega)))))
          · have hN := noteV_some hv (z := (n : Int)) rfl
            have hn128 := (note_is hv).1
            have HNT := Lib.hid (noteAll_any x wr hxb (HT.out.of hb) (HE.out.of hb))
            rw [← hN] at HNT
            cases hm : mem lo hi n
            · rw [parW_step hv hm] at hp
              have HP := Lib.hid hp
              have HMM := Lib.hid (memI_nat.trans hm)
              have q1 := withLo_lt n b1
              have q2 := withHi_lt n b2 (by omega)
              have HWA := Lib.hid hwa
              obtain ⟨o1, o2, o3, o4⟩ := hO
              obtain ⟨s1, s2, s3, s4⟩ := hS
              clear hp hv hN hwa hm
              go_wp2_with fail
              (with_reducible refine HNT.out.mono ?_)
              rintro _ _ ⟨rfl, y, rfl⟩
              have hys := y.size_le
              dsimp only
              go_wp2_with fail
              (with_reducible refine (has_any lo hi (n : Int) _ b1 b2).mono ?_)
              rintro _ _ ⟨rfl, z, rfl⟩
              have hzs := z.size_le
              rw [HMM.out]
              dsimp only
              go_wp2_with fail
              (with_reducible refine (with_any lo hi n _ b1 b2 (by omega)).mono ?_)
              rintro _ _ ⟨rfl, u, rfl⟩
              have hus := u.size_le
              dsimp only
              generalize withLo lo n = lo' at *
              generalize withHi hi n = hi' at *
              go_wp2
              go_roundw
              case rel =>
                refine ⟨k + 1, lo', hi', by omega, by go_num, q1, q2, HP.out, ?_, ?_, ?_, by (repeat' (first | (with_reducible exact Below.refl _ _) | (with_reducible exact Nat.le_refl _) | (with_reducible refine Below.bel ?_ ?_) | (with_reducible refine Below.alloc ?_ ?_ _) | (with_reducible refine Below.drew ?_) | (with_reducible refine Below.drawsN ?_ _) | (with_reducible refine Below.setCell ?_ ?_ _) | (with_reducible refine le_bel ?_) | (with_reducible refine le_alloc ?_) | (with_reducible refine le_setCell ?_) | (with_reducible refine le_drew ?_) | (with_reducible refine le_drawsN ?_) | (dsimp only; with_reducible refine le_bel ?_) | (dsimp only; with_reducible refine Nat.le_refl _) | (dsimp only; with_reducible refine le_bel_add ?_) | (with_reducible assumption) | omega | (dsimp only; omega))), by simp; omega⟩
                · unfold Own2; simp [go_sem, o1, o2, o3, o4]
                · unfold Own2; simp [go_sem, s1, s2, s3, s4]
                · exact ((((HWA.out.of y.below).of z.below).of u.below).set (by simp) _).set (by simp) _
              case measure => simp [intOf]; omega
            · rw [parW_dup hv hm] at hp
              have HP := Lib.hid (parR_of (hPV.trans hp.symm))
              have HMM := Lib.hid (memI_nat.trans hm)
              obtain ⟨o1, o2, o3, o4⟩ := hO
              obtain ⟨s1, s2, s3, s4⟩ := hS
              clear hp hv hN hwa hm
              go_wp2_with fail
              (with_reducible refine HNT.out.mono ?_)
              rintro _ _ ⟨rfl, y, rfl⟩
              have hys := y.size_le
              dsimp only
              go_wp2_with fail
              (with_reducible refine (has_any lo hi (n : Int) _ b1 b2).mono ?_)
              rintro _ _ ⟨rfl, z, rfl⟩
              have hzs := z.size_le
              rw [HMM.out]
              go_wp2
              refine bodyPost_ret (v := .tuple #[.agg #[.int .u64 0, .int .u64 0], .int .i64 9]) (by simp [results, Tryd.results39, go_sem, o1, o2, o3, o4]) rfl (Ret.mk (by exact HP.out) (by (repeat' (first | (with_reducible exact Below.refl _ _) | (with_reducible exact Nat.le_refl _) | (with_reducible refine Below.bel ?_ ?_) | (with_reducible refine Below.alloc ?_ ?_ _) | (with_reducible refine Below.drew ?_) | (with_reducible refine Below.drawsN ?_ _) | (with_reducible refine Below.setCell ?_ ?_ _) | (with_reducible refine le_bel ?_) | (with_reducible refine le_alloc ?_) | (with_reducible refine le_setCell ?_) | (with_reducible refine le_drew ?_) | (with_reducible refine le_drawsN ?_) | (dsimp only; with_reducible refine le_bel ?_) | (dsimp only; with_reducible refine Nat.le_refl _) | (dsimp only; with_reducible refine le_bel_add ?_) | (with_reducible assumption) | omega | (dsimp only; omega)))))
        · obtain rfl : k = L.length := by omega
          rw [List.drop_length, parW] at hp
          have HP := Lib.hid (parR_of (hPV.trans hp.symm))
          obtain ⟨o1, o2, o3, o4⟩ := hO
          obtain ⟨s1, s2, s3, s4⟩ := hS
          clear hp hwa
          go_wp2
          refine bodyPost_ret (v := .tuple #[.agg #[.int .u64 lo, .int .u64 hi], .int .i64 0]) (by simp [results, Tryd.results39, go_sem, o1, o2, o3, o4, s1, s2, s3, s4]) rfl (Ret.mk (by exact HP.out) (by (repeat' (first | (with_reducible exact Below.refl _ _) | (with_reducible exact Nat.le_refl _) | (with_reducible refine Below.bel ?_ ?_) | (with_reducible refine Below.alloc ?_ ?_ _) | (with_reducible refine Below.drew ?_) | (with_reducible refine Below.drawsN ?_ _) | (with_reducible refine Below.setCell ?_ ?_ _) | (with_reducible refine le_bel ?_) | (with_reducible refine le_alloc ?_) | (with_reducible refine le_setCell ?_) | (with_reducible refine le_drew ?_) | (with_reducible refine le_drawsN ?_) | (dsimp only; with_reducible refine le_bel ?_) | (dsimp only; with_reducible refine Nat.le_refl _) | (dsimp only; with_reducible refine le_bel_add ?_) | (with_reducible assumption) | omega | (dsimp only; omega)))))
end Go.Proofs.YtjojdkdpdlmahaaDoor
