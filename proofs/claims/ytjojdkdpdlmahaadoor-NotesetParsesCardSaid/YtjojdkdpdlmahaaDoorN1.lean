/- Note at every text; the reference's Note, Text, Words. -/
import Derived.Test.YtjojdkdpdlmahaaDoorIx
import Derived.Test.YtjojdkdpdlmahaaDoorE5
import Derived.Test.YtjojdkdpdlmahaaDoorPf
namespace Go.Proofs.YtjojdkdpdlmahaaDoor
open Go.RowKit
attribute [local go_sem low] Bel.cell Bel.frozen alloc_cell alloc_frozen

/-- What the reference's Note returns. -/
def rnote (s : List UInt8) : Int := match noteOf s with
  | some n => (n : Int)
  | none => -1
theorem rnote_some {s : List UInt8} {n : Nat} (h : noteOf s = some n) : rnote s = (n : Int) := by unfold rnote; rw [h]
theorem rnote_none {s : List UInt8} (h : noteOf s = none) : rnote s = -1 := by unfold rnote; rw [h]
theorem noteOf_none {s : List UInt8} (h : ∀ n, n < 128 → nameL n ≠ s) : noteOf s = none := by
  cases hn : noteOf s with
  | none => rfl
  | some n => exact absurd (note_is hn).2 (h n (note_is hn).1)
set_option maxHeartbeats 1600000 in
theorem refnote_any (s : List UInt8) (w : World) : Calls Tryd.prog 17 #[.string ⟨s.toArray⟩] w (Ret (.int .i64 (rnote s)) w) := by
  go_enter Tryd.func17, Tryd.ntmps17
  go_wp2
  go_loopw [3] (fun i wr => ∃ k : Nat, k ≤ 128 ∧ i = .int .i64 (k : Int) ∧ (∀ n, n < k → nameL n ≠ s) ∧ Below w.heap.size w wr) (fun i _ => 128 - (intOf i).toNat)
  case atStart => exact ⟨0, by omega, rfl, fun n hn => by omega, by (repeat' (first | (with_reducible exact Below.refl _ _) | (with_reducible exact Nat.le_refl _) | (with_reducible refine Below.bel ?_ ?_) | (with_reducible refine Below.alloc ?_ ?_ _) | (with_reducible refine Below.drew ?_) | (with_reducible refine Below.drawsN ?_ _) | (with_reducible refine Below.setCell ?_ ?_ _) | (with_reducible refine le_bel ?_) | (with_reducible refine le_alloc ?_) | (with_reducible refine le_setCell ?_) | (with_reducible refine le_drew ?_) | (with_reducible refine le_drawsN ?_) | (dsimp only; with_reducible refine le_bel ?_) | (dsimp only; with_reducible refine Nat.le_refl _) | (dsimp only; with_reducible refine le_bel_add ?_) | (with_reducible assumption) | omega | (dsimp only; omega)))⟩
  case round =>
    obtain ⟨k, hk, rfl, hno, hb⟩ := hrel
    have hbs := hb.size
    by_cases hkl : k ≤ 127
    · have hki : (k : Int) ≤ 127 := by omega
      by_cases he : nameL k = s
      · have HR := Lib.hid (rnote_some (by rw [← he]; exact note_find (by omega) : noteOf s = some k))
        have hq : (nameL k == s) = true := by simpa using he
        clear he hno
        go_wp2_with fail
        (with_reducible refine (refname_any k _ hkl).mono ?_)
        rintro _ _ ⟨rfl, y, rfl⟩
        generalize nameL k = nm at *
        go_wp2
        go_ret
        exact Ret.mk (by exact congrArg (Value.int .i64) HR.out.symm) (by (repeat' (first | (with_reducible exact Below.refl _ _) | (with_reducible exact Nat.le_refl _) | (with_reducible refine Below.bel ?_ ?_) | (with_reducible refine Below.alloc ?_ ?_ _) | (with_reducible refine Below.drew ?_) | (with_reducible refine Below.drawsN ?_ _) | (with_reducible refine Below.setCell ?_ ?_ _) | (with_reducible refine le_bel ?_) | (with_reducible refine le_alloc ?_) | (with_reducible refine le_setCell ?_) | (with_reducible refine le_drew ?_) | (with_reducible refine le_drawsN ?_) | (dsimp only; with_reducible refine le_bel ?_) | (dsimp only; with_reducible refine Nat.le_refl _) | (dsimp only; with_reducible refine le_bel_add ?_) | (with_reducible assumption) | omega | (dsimp only; omega))))
      · have HN := Lib.hid (show ∀ n, n < k + 1 → nameL n ≠ s from fun n hn => by
          rcases (show n < k ∨ n = k by omega) with h | rfl
          · exact hno n h
          · exact he)
        have hq : (nameL k == s) = false := by simpa using he
        clear he hno
        go_wp2_with fail
        (with_reducible refine (refname_any k _ hkl).mono ?_)
        rintro _ _ ⟨rfl, y, rfl⟩
        generalize nameL k = nm at hq ⊢
        go_wp2
        go_roundw
        case rel => exact ⟨k + 1, by omega, by go_num, HN.out, by (repeat' (first | (with_reducible exact Below.refl _ _) | (with_reducible exact Nat.le_refl _) | (with_reducible refine Below.bel ?_ ?_) | (with_reducible refine Below.alloc ?_ ?_ _) | (with_reducible refine Below.drew ?_) | (with_reducible refine Below.drawsN ?_ _) | (with_reducible refine Below.setCell ?_ ?_ _) | (with_reducible refine le_bel ?_) | (with_reducible refine le_alloc ?_) | (with_reducible refine le_setCell ?_) | (with_reducible refine le_drew ?_) | (with_reducible refine le_drawsN ?_) | (dsimp only; with_reducible refine le_bel ?_) | (dsimp only; with_reducible refine Nat.le_refl _) | (dsimp only; with_reducible refine le_bel_add ?_) | (with_reducible assumption) | omega | (dsimp only; omega)))⟩
        case measure => simp [intOf]; omega
    · obtain rfl : k = 128 := by omega
      have HR := Lib.hid (rnote_none (noteOf_none hno))
      clear hno
      go_wp2
      go_ret
      exact Ret.mk (by exact congrArg (Value.int .i64) HR.out.symm) (by (repeat' (first | (with_reducible exact Below.refl _ _) | (with_reducible exact Nat.le_refl _) | (with_reducible refine Below.bel ?_ ?_) | (with_reducible refine Below.alloc ?_ ?_ _) | (with_reducible refine Below.drew ?_) | (with_reducible refine Below.drawsN ?_ _) | (with_reducible refine Below.setCell ?_ ?_ _) | (with_reducible refine le_bel ?_) | (with_reducible refine le_alloc ?_) | (with_reducible refine le_setCell ?_) | (with_reducible refine le_drew ?_) | (with_reducible refine le_drawsN ?_) | (dsimp only; with_reducible refine le_bel ?_) | (dsimp only; with_reducible refine Nat.le_refl _) | (dsimp only; with_reducible refine le_bel_add ?_) | (with_reducible assumption) | omega | (dsimp only; omega))))
theorem noteAll_any (l : List UInt8) (w : World) (hl : l.length ≤ 140737488355328) (hT : Tab w) (hE : Errs w) : Calls Tryd.prog 15 #[.string ⟨l.toArray⟩] w (Ret (noteV l) w) :=
  note_any l w (ix_all l hl) hl hT hE

/-- The reference's text of some notes. -/
def jn (l : List Nat) : List UInt8 := Lib.join (l.map nameL) [32]
theorem jn_first (n : Nat) : jn [n] = nameL n := by simp [jn, Lib.join, List.intercalate]
theorem jn_next (l : List Nat) (n m : Nat) : jn (l ++ [n] ++ [m]) = jn (l ++ [n]) ++ [32] ++ nameL m := by
  have gen : ∀ (x : List UInt8) (xs : List (List UInt8)) (y : List UInt8), Lib.join (x :: xs ++ [y]) [32] = Lib.join (x :: xs) [32] ++ [32] ++ y := by
    intro x xs y
    induction xs generalizing x with
    | nil => simp [Lib.join, List.intercalate, List.intersperse]
    | cons z zs ih =>
      have e : ∀ (q : List (List UInt8)) , Lib.join (x :: z :: q) [32] = x ++ [32] ++ Lib.join (z :: q) [32] := fun q => by simp [Lib.join, List.intercalate, List.intersperse]
      rw [List.cons_append, List.cons_append, e, ← List.cons_append, ih, e]
      simp
  unfold jn
  rw [List.map_append, List.map_append (l₁ := l)]
  cases hl : l.map nameL with
  | nil => exact gen _ [] _
  | cons a b =>
    have := gen a (b ++ [nameL n]) (nameL m)
    simpa using this
theorem jn_len (l : List Nat) (h : ∀ n ∈ l, n < 128) : (jn l).length ≤ l.length * 5 := by
  have := join_le [32] 4 (l.map nameL) (fun x hx => by
    obtain ⟨n, hn, rfl⟩ := List.mem_map.1 hx
    exact nameL_len ⟨n, h n hn⟩)
  rw [List.length_map] at this
  exact this
set_option maxRecDepth 100000 in
set_option maxHeartbeats 3200000 in
theorem reftext_any (lo hi : Nat) (w : World) (h1 : lo < 18446744073709551616) (h2 : hi < 18446744073709551616) : Calls Tryd.prog 40 #[.agg #[.int .u64 (lo : Int), .int .u64 (hi : Int)]] w (Ret (.string ⟨(textL lo hi).toArray⟩) w) := by
  have hlen : (mems lo hi).length ≤ 128 := by
    rw [mems_len]
    have := popc_le lo
    have := popc_le hi
    omega
  have hin : ∀ n ∈ mems lo hi, n < 128 := fun n hn => (mem_mems.1 hn).1
  have HT : textL lo hi = jn (mems lo hi) := rfl
  rw [HT]
  clear HT
  obtain ⟨L, hL⟩ : ∃ L, mems lo hi = L := ⟨_, rfl⟩
  rw [hL] at hlen hin ⊢
  have HI := Lib.hid hin
  clear hin
  go_enter Tryd.func40, Tryd.ntmps40
  go_wp2_with fail
  (with_reducible refine (reflist_any lo hi _ h1 h2).mono ?_)
  rintro _ _ ⟨v, rfl, y, rfl, hv⟩
  have hys := y.size_le
  simp at hys
  obtain ⟨pa, cap, rfl, hcc⟩ := showsV_at (ownV_shows hv)
  rw [natVs_len, hL] at hcc ⊢
  have HC := Lib.hid hcc
  clear hv hcc hL
  have hby : Below w.heap.size w y.w := by (repeat' (first | (with_reducible exact Below.refl _ _) | (with_reducible exact Nat.le_refl _) | (with_reducible refine Below.bel ?_ ?_) | (with_reducible refine Below.alloc ?_ ?_ _) | (with_reducible refine Below.drew ?_) | (with_reducible refine Below.drawsN ?_ _) | (with_reducible refine Below.setCell ?_ ?_ _) | (with_reducible refine le_bel ?_) | (with_reducible refine le_alloc ?_) | (with_reducible refine le_setCell ?_) | (with_reducible refine le_drew ?_) | (with_reducible refine le_drawsN ?_) | (dsimp only; with_reducible refine le_bel ?_) | (dsimp only; with_reducible refine Nat.le_refl _) | (dsimp only; with_reducible refine le_bel_add ?_) | (with_reducible assumption) | omega | (dsimp only; omega)))
  dsimp only
  go_wp2
  go_loopw [4, 5] (fun s i wr => ∃ k : Nat, k ≤ L.length ∧ i = .int .i64 (k : Int) ∧ s = .string ⟨(jn (L.take k)).toArray⟩ ∧ Below y.w.heap.size y.w wr) (fun s i _ => L.length - (intOf i).toNat)
  case atStart => exact ⟨0, by omega, rfl, rfl, Below.refl _ _⟩
  case round =>
    obtain ⟨k, hk, rfl, rfl, hb⟩ := hrel
    have hbs := hb.size
    by_cases hkl : k < L.length
    · have hki : (k : Int) < (L.length : Int) := by omega
      obtain ⟨q, off, rfl, hqc⟩ := HC.out (by omega)
      obtain ⟨n, hn⟩ : ∃ n, L[k]? = some n := ⟨_, List.getElem?_eq_getElem hkl⟩
      have g1 := cell_carry hb (hqc k _ (natVs_get hn))
      have hn127 : n ≤ 127 := by have := HI.out n (List.mem_of_getElem? hn); omega
      have htk : L.take (k + 1) = L.take k ++ [n] := by rw [List.take_add_one, hn]; rfl
      have hjl := jn_len (L.take k) (fun m hm => HI.out m (List.mem_of_mem_take hm))
      rw [List.length_take, Nat.min_eq_left hk] at hjl
      have hnl := nameL_len ⟨n, by omega⟩
      dsimp only at hnl
      clear hqc hn
      by_cases h0 : k = 0
      · subst h0
        have HJ := Lib.hid (show jn (L.take 1) = nameL n by rw [htk, List.take_zero]; exact jn_first n)
        have hj0 : jn (L.take 0) = [] := rfl
        rw [hj0]
        rw [Nat.add_zero] at g1
        clear htk hjl hj0
        go_wp2_with fail
        (with_reducible refine (refname_any n _ hn127).mono ?_)
        rintro _ _ ⟨rfl, x, rfl⟩
        generalize nameL n = nm at *
        go_wp2
        go_roundw
        case rel => exact ⟨1, by omega, rfl, by rw [HJ.out]; first | rfl | simp, by (repeat' (first | (with_reducible exact Below.refl _ _) | (with_reducible exact Nat.le_refl _) | (with_reducible refine Below.bel ?_ ?_) | (with_reducible refine Below.alloc ?_ ?_ _) | (with_reducible refine Below.drew ?_) | (with_reducible refine Below.drawsN ?_ _) | (with_reducible refine Below.setCell ?_ ?_ _) | (with_reducible refine le_bel ?_) | (with_reducible refine le_alloc ?_) | (with_reducible refine le_setCell ?_) | (with_reducible refine le_drew ?_) | (with_reducible refine le_drawsN ?_) | (dsimp only; with_reducible refine le_bel ?_) | (dsimp only; with_reducible refine Nat.le_refl _) | (dsimp only; with_reducible refine le_bel_add ?_) | (with_reducible assumption) | omega | (dsimp only; omega)))⟩
        case measure => simp [intOf]; omega
      · obtain ⟨j, rfl⟩ : ∃ j, k = j + 1 := ⟨k - 1, by omega⟩
        obtain ⟨m, hm⟩ : ∃ m, L[j]? = some m := ⟨_, List.getElem?_eq_getElem (by omega)⟩
        have htj : L.take (j + 1) = L.take j ++ [m] := by rw [List.take_add_one, hm]; rfl
        have HJ := Lib.hid (show jn (L.take (j + 1 + 1)) = jn (L.take (j + 1)) ++ [32] ++ nameL n by rw [htk, htj]; exact jn_next _ _ _)
        have hk0 : decide (0 < ((j + 1 : Nat) : Int)) = true := decide_eq_true (by omega)
        clear htk htj hm
        generalize jn (L.take (j + 1)) = J at *
        have l1 : (9223372036854775807 < J.length + 1) = False := eq_false (by omega)
        have l2 : (9223372036854775807 < (J ++ [32]).length + (nameL n).length) = False := eq_false (by simp; omega)
        have b1 : (ByteArray.mk J.toArray) ++ ⟨#[32]⟩ = ⟨(J ++ [32]).toArray⟩ := bytes_app J [32]
        have b2 : (ByteArray.mk (J ++ [32]).toArray) ++ ⟨(nameL n).toArray⟩ = ⟨(J ++ [32] ++ nameL n).toArray⟩ := bytes_app _ _
        go_wp2_with fail
        (with_reducible refine (refname_any n _ hn127).mono ?_)
        rintro _ _ ⟨rfl, x, rfl⟩
        dsimp only
        go_wp2
        go_roundw
        case rel => exact ⟨j + 1 + 1, by omega, rfl, by rw [HJ.out]; simp, by (repeat' (first | (with_reducible exact Below.refl _ _) | (with_reducible exact Nat.le_refl _) | (with_reducible refine Below.bel ?_ ?_) | (with_reducible refine Below.alloc ?_ ?_ _) | (with_reducible refine Below.drew ?_) | (with_reducible refine Below.drawsN ?_ _) | (with_reducible refine Below.setCell ?_ ?_ _) | (with_reducible refine le_bel ?_) | (with_reducible refine le_alloc ?_) | (with_reducible refine le_setCell ?_) | (with_reducible refine le_drew ?_) | (with_reducible refine le_drawsN ?_) | (dsimp only; with_reducible refine le_bel ?_) | (dsimp only; with_reducible refine Nat.le_refl _) | (dsimp only; with_reducible refine le_bel_add ?_) | (with_reducible assumption) | omega | (dsimp only; omega)))⟩
        case measure => simp [intOf]; omega
    · obtain rfl : k = L.length := by omega
      rw [List.take_length]
      go_wp2
      go_ret
      exact Ret.mk (by rfl) (hby.trans (hb.mono (by omega)))
end Go.Proofs.YtjojdkdpdlmahaaDoor
