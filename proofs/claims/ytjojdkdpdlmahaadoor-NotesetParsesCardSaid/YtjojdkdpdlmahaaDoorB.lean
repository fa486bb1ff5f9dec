/- Names of notes. -/
import Derived.Test.YtjojdkdpdlmahaaDoorA
import Derived.Test.YtjojdkdpdlmahaaDoorStrs
import Derived.Test.YtjojdkdpdlmahaaDoorShelf
import Derived.Test.YtjojdkdpdlmahaaDoorChain
import Derived.Sort.Grow
import Derived.WalkSmall
namespace Go.Proofs.YtjojdkdpdlmahaaDoor
open Go.RowKit
attribute [local go_sem low] Bel.cell Bel.frozen alloc_cell alloc_frozen
attribute [local go_sem] calmOp chainOp yieldsC grows

/-- The library's table of powers lies in the world. -/
def Tab (w : World) : Prop := Lib.TabIs Tryd.prog w "internal/strconv.uint64pow10" .u64 Lib.pow10Tab
theorem gTab : Tryd.prog.globalNamed "internal/strconv.uint64pow10" = some 4 := by kernel_rfl
theorem Tab.of {w w' : World} (h : Tab w) (hb : Below w.heap.size w w') : Tab w' := by
  have hlt : 4 < w.heap.size := by
    have h' := h
    unfold Tab Lib.TabIs World.var? at h'
    simp only [gTab, Option.bind_some] at h'
    refine Nat.lt_of_not_le fun h0 => ?_
    rw [Array.getElem?_eq_none h0] at h'
    cases h'
  exact var?_below hb gTab hlt h
theorem below_grow (w : World) (k : Nat) (os : Array Obj) : Below w.heap.size w (Sort.grow (w.drewN k) os) :=
  ⟨rfl, rfl, rfl, by simp [Sort.grow], fun i hi => by
    show (w.heap ++ os)[i]? = _
    rw [Array.getElem?_append, if_pos hi]⟩
theorem itoa_any (n : Int) (w : World) (h0 : -9223372036854775808 ≤ n) (h1 : n ≤ 9223372036854775807) (hT : Tab w) :
    Calls Tryd.prog 45 #[.int .i64 n] w (Ret (.string ⟨(Lib.itoa n).toArray⟩) w) :=
  (Tryd.strconv_Itoa n h0 h1 w hT).mono fun _ _ ⟨he, k, os, hw⟩ => ⟨he, ⟨_, below_grow w k os⟩, hw⟩

/-- The twelve names. -/
def letterL (k : Nat) : List UInt8 := ([[67], [67, 35], [68], [68, 35], [69], [70], [70, 35], [71], [71, 35], [65], [65, 35], [66]] : List (List UInt8)).getD k []
theorem letterL_len (k : Nat) : (letterL k).length ≤ 2 := by
  by_cases h : k < 12
  · exact (show ∀ k : Fin 12, (letterL k.val).length ≤ 2 by decide) ⟨k, h⟩
  · unfold letterL; rw [List.getD_eq_getElem?_getD, List.getElem?_eq_none (by simp; omega)]; simp
/-- The name of a note. -/
def nameL (n : Nat) : List UInt8 := letterL (n % 12) ++ Lib.itoa ((n : Int) / 12 - 1)
theorem nameL_len : ∀ n : Fin 128, (nameL n.val).length ≤ 4 := by decide +kernel
theorem itoa_small : ∀ q : Fin 11, (Lib.itoa ((q.val : Int) - 1)).length ≤ 2 := by decide +kernel
/-- A slice of the twelve names, in new memory. -/
def Twelve (w : World) (b : Nat) : Prop := ∀ k, k < 12 → w.cell? ⟨b, k, none⟩ = some (.string ⟨(letterL k).toArray⟩)
theorem Twelve.bel {W : World} {b : Nat} (h : Twelve W b) (x : Bel W) : Twelve x.w b := fun k hk => by
  have := h k hk
  exact (x.below.cell (World.block_lt_of_cell? W _ this)).trans this
theorem twelve_new (w : World) : Twelve (w.alloc (.cells #[.string ⟨#[67]⟩, .string ⟨#[67, 35]⟩, .string ⟨#[68]⟩, .string ⟨#[68, 35]⟩, .string ⟨#[69]⟩, .string ⟨#[70]⟩, .string ⟨#[70, 35]⟩, .string ⟨#[71]⟩, .string ⟨#[71, 35]⟩, .string ⟨#[65]⟩, .string ⟨#[65, 35]⟩, .string ⟨#[66]⟩] 9)) w.heap.size := fun k hk => by
  rcases (show k = 0 ∨ k = 1 ∨ k = 2 ∨ k = 3 ∨ k = 4 ∨ k = 5 ∨ k = 6 ∨ k = 7 ∨ k = 8 ∨ k = 9 ∨ k = 10 ∨ k = 11 by omega) with rfl | rfl | rfl | rfl | rfl | rfl | rfl | rfl | rfl | rfl | rfl | rfl <;> simp [go_sem, letterL]
theorem octave_any (w : World) : Calls Tryd.prog 44 #[] w fun e w' => e = .returned (.slice (some ⟨w.heap.size, 0, none⟩) 12 12) ∧ ∃ y : Bel w, w' = y.w ∧ Twelve y.w w.heap.size := by
  go_enter Tryd.func44, Tryd.ntmps44
  go_wp2
  go_ret
  exact ⟨rfl, ⟨_, (Below.refl w.heap.size w).alloc (Nat.le_refl _) _⟩, rfl, twelve_new w⟩
theorem letters_any (w : World) : Calls Tryd.prog 49 #[] w fun e w' => e = .returned (.slice (some ⟨w.heap.size, 0, none⟩) 12 12) ∧ ∃ y : Bel w, w' = y.w ∧ Twelve y.w w.heap.size := by
  go_enter Tryd.func49, Tryd.ntmps49
  go_wp2
  go_ret
  exact ⟨rfl, ⟨_, (Below.refl w.heap.size w).alloc (Nat.le_refl _) _⟩, rfl, twelve_new w⟩
theorem name_eq {n k q : Nat} (h : n % 12 = k ∧ n / 12 = q) : letterL k ++ Lib.itoa ((q : Int) - 1) = nameL n := by
  unfold nameL
  rw [h.1, show (n : Int) / 12 = (q : Int) by omega]

set_option maxRecDepth 100000 in
set_option maxHeartbeats 1600000 in
theorem name_any (n : Nat) (w : World) (hn : n ≤ 127) (hT : Tab w) : Calls Tryd.prog 14 #[.int .i64 n] w (Ret (.tuple #[.string ⟨(nameL n).toArray⟩, .int .i64 0]) w) := by
  have e1 : decide (0 ≤ (n : Int) ∧ (n : Int) ≤ 127) = true := by simp; omega
  have HT := Lib.hid hT
  clear hT
  go_enter Tryd.func14, Tryd.ntmps14
  go_wp2_with fail
  (with_reducible refine (isNote_any _ _).mono ?_)
  rintro _ _ ⟨rfl, rfl⟩
  rw [e1]
  clear e1
  go_wp2_with fail
  obtain ⟨k, hk⟩ : ∃ k, n % 12 = k := ⟨_, rfl⟩
  obtain ⟨q, hq⟩ : ∃ q, n / 12 = q := ⟨_, rfl⟩
  have t1 : (n : Int).tmod 12 = (k : Int) := by rw [Int.tmod_eq_emod_of_nonneg (by omega)]; omega
  have t2 : IntKind.i64.wrap ((n : Int) / 12) = (q : Int) := by rw [IntWalk.i64_in _ (by omega)]; omega
  have t3 : IntKind.i64.wrap ((q : Int) - 1) = (q : Int) - 1 := IntWalk.i64_in _ (by omega)
  have t4 : k < 12 := by omega
  have t5 : (k : Int) < 12 := by omega
  have hq1 : q ≤ 10 := by omega
  have lq := itoa_small ⟨q, by omega⟩
  have ll := letterL_len k
  dsimp only at lq
  have hl : (9223372036854775807 < (letterL k).length + (Lib.itoa ((q : Int) - 1)).length) = False := eq_false (by omega)
  have HN := Lib.hid (And.intro hk hq)
  clear hk hq
  refine wp_region_plan 11 (.calm 1 (.calm 2 (.calm 5 (.calm 6 (.calm 7 (.fork 0 (.calm 3 (.calm 4 (.calm 8 (.calm 9 (.calm 10 .tail))))) .none)))))) (by kernel_rfl) (by kernel_rfl) ?_
  simp only [Plan.walk, operAt, List.getElem?_cons_succ, List.getElem?_cons_zero, Option.getD_some, List.drop_succ_cons, List.drop_zero]
  repeat (refine wpX_calm (fun K hK => ?_); go_simp; first | (refine hK _ _ ?_; clear hK K) | (apply Exists.intro; refine ⟨fun _ => ?_, hK _ _ ?_⟩; (fail); clear hK K))
  refine wpX_only (fun K hK => ?_)
  go_simp
  intro x
  refine (octave_any _).mono ?_
  rintro _ _ ⟨rfl, y, rfl, hc⟩
  refine ⟨_, rfl, y.below, hK _ _ ?_⟩
  clear hK K
  have hc1 := hc k t4
  repeat (refine wpX_calm (fun K hK => ?_); go_simp; first | (refine hK _ _ ?_; clear hK K) | (apply Exists.intro; refine ⟨fun _ => ?_, hK _ _ ?_⟩; (go_at_call 45; exact itoa_any _ _ (by omega) (by omega) (HT.out.of (by (repeat' (first | (with_reducible exact Below.refl _ _) | (with_reducible exact Nat.le_refl _) | (with_reducible refine Below.bel ?_ ?_) | (with_reducible refine Below.alloc ?_ ?_ _) | (with_reducible refine Below.drew ?_) | (with_reducible refine Below.drawsN ?_ _) | (with_reducible refine Below.setCell ?_ ?_ _) | (with_reducible refine le_bel ?_) | (with_reducible refine le_alloc ?_) | (with_reducible refine le_setCell ?_) | (with_reducible refine le_drew ?_) | (with_reducible refine le_drawsN ?_) | (dsimp only; with_reducible refine le_bel ?_) | (dsimp only; with_reducible refine Nat.le_refl _) | (dsimp only; with_reducible refine le_bel_add ?_) | (with_reducible assumption) | omega | (dsimp only; omega)))))); clear hK K))
  refine wpX_tail ?_
  intro z
  go_wp2
  go_ret2
  exact Ret.mk (pair_val (str_val (by rw [bytes_app, name_eq HN.out])) rfl) (by (repeat' (first | (with_reducible exact Below.refl _ _) | (with_reducible exact Nat.le_refl _) | (with_reducible refine Below.bel ?_ ?_) | (with_reducible refine Below.alloc ?_ ?_ _) | (with_reducible refine Below.drew ?_) | (with_reducible refine Below.drawsN ?_ _) | (with_reducible refine Below.setCell ?_ ?_ _) | (with_reducible refine le_bel ?_) | (with_reducible refine le_alloc ?_) | (with_reducible refine le_setCell ?_) | (with_reducible refine le_drew ?_) | (with_reducible refine le_drawsN ?_) | (dsimp only; with_reducible refine le_bel ?_) | (dsimp only; with_reducible refine Nat.le_refl _) | (dsimp only; with_reducible refine le_bel_add ?_) | (with_reducible assumption) | omega | (dsimp only; omega))))
theorem name_no (n : Int) (w : World) (hn : ¬ (0 ≤ n ∧ n ≤ 127)) : Calls Tryd.prog 14 #[.int .i64 n] w (Ret (.tuple #[.string ⟨#[]⟩, .int .i64 3]) w) := by
  have e1 : decide (0 ≤ n ∧ n ≤ 127) = false := by simpa using hn
  go_enter Tryd.func14, Tryd.ntmps14
  go_wp2_with fail
  (with_reducible refine (isNote_any _ _).mono ?_)
  rintro _ _ ⟨rfl, rfl⟩
  rw [e1]
  go_wp2
  go_ret2
  exact Ret.mk rfl (by (repeat' (first | (with_reducible exact Below.refl _ _) | (with_reducible exact Nat.le_refl _) | (with_reducible refine Below.bel ?_ ?_) | (with_reducible refine Below.alloc ?_ ?_ _) | (with_reducible refine Below.drew ?_) | (with_reducible refine Below.drawsN ?_ _) | (with_reducible refine Below.setCell ?_ ?_ _) | (with_reducible refine le_bel ?_) | (with_reducible refine le_alloc ?_) | (with_reducible refine le_setCell ?_) | (with_reducible refine le_drew ?_) | (with_reducible refine le_drawsN ?_) | (dsimp only; with_reducible refine le_bel ?_) | (dsimp only; with_reducible refine Nat.le_refl _) | (dsimp only; with_reducible refine le_bel_add ?_) | (with_reducible assumption) | omega | (dsimp only; omega))))

theorem itoa_digit : ∀ q : Fin 10, Lib.itoa (q.val : Int) = [(48 + q.val).toUInt8] := by decide +kernel
theorem refname_low {n k : Nat} (h : n % 12 = k) (hn : n < 12) : letterL k ++ [45, 49] = nameL n := by
  unfold nameL
  rw [h, show (n : Int) / 12 = 0 by omega, show Lib.itoa (0 - 1) = [45, 49] by decide +kernel]
theorem refname_high {n k p : Nat} (h : n % 12 = k) (hp : n / 12 = p + 1) (hn : n ≤ 127) : letterL k ++ [(48 + p).toUInt8] = nameL n := by
  rw [← itoa_digit ⟨p, by omega⟩, ← name_eq ⟨h, hp⟩]
  congr 2
  dsimp only
  omega
set_option maxRecDepth 100000 in
set_option maxHeartbeats 1600000 in
theorem refname_any (n : Nat) (w : World) (hn : n ≤ 127) : Calls Tryd.prog 16 #[.int .i64 n] w (Ret (.string ⟨(nameL n).toArray⟩) w) := by
  obtain ⟨k, hk⟩ : ∃ k, n % 12 = k := ⟨_, rfl⟩
  have t1 : (n : Int).tmod 12 = (k : Int) := by rw [Int.tmod_eq_emod_of_nonneg (by omega)]; omega
  have t4 : k < 12 := by omega
  have t5 : (k : Int) < 12 := by omega
  have ll := letterL_len k
  by_cases h12 : n < 12
  · have HN := Lib.hid (refname_low hk h12)
    clear hk
    have h0 : (n : Int) / 12 = 0 := by omega
    go_enter Tryd.func16, Tryd.ntmps16
    go_wp2_with fail
    (with_reducible refine (letters_any _).mono ?_)
    rintro _ _ ⟨rfl, y, rfl, hc⟩
    have hc1 := hc k t4
    go_wp2_with fail
    go_ret
    exact Ret.mk (by exact str_val ((bytes_app (letterL k) [45, 49]).trans (by rw [HN.out]))) (by (repeat' (first | (with_reducible exact Below.refl _ _) | (with_reducible exact Nat.le_refl _) | (with_reducible refine Below.bel ?_ ?_) | (with_reducible refine Below.alloc ?_ ?_ _) | (with_reducible refine Below.drew ?_) | (with_reducible refine Below.drawsN ?_ _) | (with_reducible refine Below.setCell ?_ ?_ _) | (with_reducible refine le_bel ?_) | (with_reducible refine le_alloc ?_) | (with_reducible refine le_setCell ?_) | (with_reducible refine le_drew ?_) | (with_reducible refine le_drawsN ?_) | (dsimp only; with_reducible refine le_bel ?_) | (dsimp only; with_reducible refine Nat.le_refl _) | (dsimp only; with_reducible refine le_bel_add ?_) | (with_reducible assumption) | omega | (dsimp only; omega))))
  · obtain ⟨p, hp⟩ : ∃ p, n / 12 = p + 1 := ⟨n / 12 - 1, by omega⟩
    have hN := refname_high hk hp hn
    obtain ⟨d, hd⟩ : ∃ d, [(48 + p).toUInt8] = d := ⟨_, rfl⟩
    rw [hd] at hN
    have HN := Lib.hid hN
    have hdl : d.length ≤ 1 := by rw [← hd]; simp
    have HD := Lib.hid hd
    have hl : (9223372036854775807 < (letterL k).length + d.length) = False := eq_false (by omega)
    clear hN hd
    have t2 : (n : Int) / 12 = (p : Int) + 1 := by omega
    have hp9 : p ≤ 9 := by omega
    have t6 : IntKind.u8.wrap (p : Int) = (p : Int) := by rw [IntKind.wrap_u8']; omega
    have t7 : IntKind.u8.wrap (48 + (p : Int)) = ((48 + p : Nat) : Int) := by rw [IntKind.wrap_u8']; omega
    clear hk hp
    go_enter Tryd.func16, Tryd.ntmps16
    go_wp2_with fail
    refine wp_region_plan 11 (.calm 1 (.calm 2 (.calm 5 (.calm 6 (.calm 7 (.fork 0 (.calm 3 (.calm 4 (.fork 8 (.calm 9 (.calm 10 .tail)) .none))) (.fork 8 (.calm 9 (.fork 0 (.calm 3 (.calm 4 (.calm 10 .tail))) .none)) .none))))))) (by kernel_rfl) (by kernel_rfl) ?_
    simp only [Plan.walk, operAt, List.getElem?_cons_succ, List.getElem?_cons_zero, Option.getD_some, List.drop_succ_cons, List.drop_zero]
    repeat (refine wpX_calm (fun K hK => ?_); go_simp; first | (refine hK _ _ ?_; clear hK K) | (apply Exists.intro; refine ⟨fun _ => ?_, hK _ _ ?_⟩; (fail); clear hK K))
    refine wpX_fork (fun K hK => ?_) (wpX_only (fun K hK => ?_))
    · go_simp
      intro x
      refine (letters_any _).mono ?_
      rintro _ _ ⟨rfl, y, rfl, hc⟩
      refine ⟨_, rfl, y.below, hK _ _ ?_⟩
      clear hK K
      have hc1 := hc k t4
      repeat (refine wpX_calm (fun K hK => ?_); go_simp; first | (refine hK _ _ ?_; clear hK K) | (apply Exists.intro; refine ⟨fun _ => ?_, hK _ _ ?_⟩; (fail); clear hK K))
      refine wpX_only (fun K hK => ?_)
      go_simp
      intro v
      refine ⟨(Below.refl _ _).alloc (Nat.le_refl _) _, hK _ _ ?_⟩
      clear hK K
      have hcv := conv_one (P := Tryd.prog) 58 9 5 Tryd.underlying58 Tryd.underlying5 Tryd.underlying9 v.w (48 + p) (by omega)
      rw [Int.natCast_add, HD.out] at hcv
      repeat (refine wpX_calm (fun K hK => ?_); go_simp; first | (refine hK _ _ ?_; clear hK K) | (apply Exists.intro; refine ⟨fun _ => ?_, hK _ _ ?_⟩; (fail); clear hK K))
      refine wpX_tail ?_
      intro z
      go_wp2
      go_ret
      exact Ret.mk (by exact str_val ((bytes_app _ _).trans (by rw [HN.out]))) (by (repeat' (first | (with_reducible exact Below.refl _ _) | (with_reducible exact Nat.le_refl _) | (with_reducible refine Below.bel ?_ ?_) | (with_reducible refine Below.alloc ?_ ?_ _) | (with_reducible refine Below.drew ?_) | (with_reducible refine Below.drawsN ?_ _) | (with_reducible refine Below.setCell ?_ ?_ _) | (with_reducible refine le_bel ?_) | (with_reducible refine le_alloc ?_) | (with_reducible refine le_setCell ?_) | (with_reducible refine le_drew ?_) | (with_reducible refine le_drawsN ?_) | (dsimp only; with_reducible refine le_bel ?_) | (dsimp only; with_reducible refine Nat.le_refl _) | (dsimp only; with_reducible refine le_bel_add ?_) | (with_reducible assumption) | omega | (dsimp only; omega))))
    · go_simp
      intro v
      refine ⟨(Below.refl _ _).alloc (Nat.le_refl _) _, hK _ _ ?_⟩
      clear hK K
      have hcv := conv_one (P := Tryd.prog) 58 9 5 Tryd.underlying58 Tryd.underlying5 Tryd.underlying9 v.w (48 + p) (by omega)
      rw [Int.natCast_add, HD.out] at hcv
      repeat (refine wpX_calm (fun K hK => ?_); go_simp; first | (refine hK _ _ ?_; clear hK K) | (apply Exists.intro; refine ⟨fun _ => ?_, hK _ _ ?_⟩; (fail); clear hK K))
      refine wpX_only (fun K hK => ?_)
      go_simp
      intro x
      refine (letters_any _).mono ?_
      rintro _ _ ⟨rfl, y, rfl, hc⟩
      refine ⟨_, rfl, y.below, hK _ _ ?_⟩
      clear hK K
      have hc1 := hc k t4
      repeat (refine wpX_calm (fun K hK => ?_); go_simp; first | (refine hK _ _ ?_; clear hK K) | (apply Exists.intro; refine ⟨fun _ => ?_, hK _ _ ?_⟩; (fail); clear hK K))
      refine wpX_tail ?_
      intro z
      go_wp2
      go_ret
      exact Ret.mk (by exact str_val ((bytes_app _ _).trans (by rw [HN.out]))) (by (repeat' (first | (with_reducible exact Below.refl _ _) | (with_reducible exact Nat.le_refl _) | (with_reducible refine Below.bel ?_ ?_) | (with_reducible refine Below.alloc ?_ ?_ _) | (with_reducible refine Below.drew ?_) | (with_reducible refine Below.drawsN ?_ _) | (with_reducible refine Below.setCell ?_ ?_ _) | (with_reducible refine le_bel ?_) | (with_reducible refine le_alloc ?_) | (with_reducible refine le_setCell ?_) | (with_reducible refine le_drew ?_) | (with_reducible refine le_drawsN ?_) | (dsimp only; with_reducible refine le_bel ?_) | (dsimp only; with_reducible refine Nat.le_refl _) | (dsimp only; with_reducible refine le_bel_add ?_) | (with_reducible assumption) | omega | (dsimp only; omega))))
end Go.Proofs.YtjojdkdpdlmahaaDoor
