/- The reference's Parse returns what Parse returns. -/
import Derived.Test.YteglfhmmkoahfaaDoorM22
import Derived.Test.YteglfhmmkoahfaaDoorM24
namespace Go.Proofs.YteglfhmmkoahfaaDoor
open Go.RowKit Go.Shelf
attribute [local go_sem low] Bel.cell Bel.frozen alloc_cell alloc_frozen

/-- The reference's test of a byte: a digit, or a space inside whose neighbours are no spaces. -/
def okR (t : List UInt8) (i : Nat) : Bool := isD (t.getD i 0) || (t.getD i 0 == 32 && decide (i ≠ 0) && decide (i + 1 ≠ t.length) && t.getD (i - 1) 0 != 32 && t.getD (i + 1) 0 != 32)
theorem isD_ne {c : UInt8} (h : isD c = true) : (c != 32) = true := by
  refine bne_iff_ne.2 fun e => ?_
  subst e
  revert h; decide
theorem okR_of {t : List UInt8} {i : Nat} (h : okAt t i = true) : okR t i = true := by
  unfold okAt at h
  unfold okR
  rw [Bool.or_eq_true] at h ⊢
  rcases h with h | h
  · exact .inl h
  · right
    simp only [Bool.and_eq_true] at h ⊢
    obtain ⟨⟨⟨⟨h1, h2⟩, h3⟩, h4⟩, h5⟩ := h
    exact ⟨⟨⟨⟨h1, h2⟩, h3⟩, isD_ne h4⟩, isD_ne h5⟩
theorem okR_bad {t : List UInt8} {k : Nat} (hk : k < t.length) (h : okR t k = false) : digS t = none :=
  digS_bad hk (by cases ho : okAt t k; · rfl
                  · rw [okR_of ho] at h; cases h)
theorem okR_ok {t : List UInt8} (h : ∀ i, i < t.length → okR t i = true) : digS t = some (t.filter isD) := by
  have hc : ∀ i, i < t.length → isD (t.getD i 0) = true ∨ t.getD i 0 = 32 := fun i hi => by
    have := h i hi
    unfold okR at this
    rw [Bool.or_eq_true] at this
    rcases this with h1 | h1
    · exact .inl h1
    · simp only [Bool.and_eq_true] at h1
      exact .inr (by simpa using h1.1.1.1.1)
  refine digS_ok fun i hi => ?_
  have := h i hi
  unfold okR at this
  unfold okAt
  rw [Bool.or_eq_true] at this ⊢
  rcases this with h1 | h1
  · exact .inl h1
  · right
    simp only [Bool.and_eq_true] at h1 ⊢
    obtain ⟨⟨⟨⟨h1, h2⟩, h3⟩, h4⟩, h5⟩ := h1
    have h2' : i ≠ 0 := of_decide_eq_true h2
    have h3' : i + 1 ≠ t.length := of_decide_eq_true h3
    exact ⟨⟨⟨⟨h1, h2⟩, h3⟩, (hc (i - 1) (by omega)).resolve_right (bne_iff_ne.1 h4)⟩, (hc (i + 1) (by omega)).resolve_right (bne_iff_ne.1 h5)⟩
theorem okR_next {t : List UInt8} {k : Nat} (h : ∀ i, i < k → okR t i = true) (hk : okR t k = true) : ∀ i, i < k + 1 → okR t i = true := fun i hi => by
  rcases (show i < k ∨ i = k by omega) with h1 | rfl
  · exact h i h1
  · exact hk
/-- Digits without the zeros in front, the last one kept. -/
def rp (d : List UInt8) : List UInt8 := if strip0 d = [] then [48] else strip0 d
theorem strip_zero (r : List UInt8) : strip0 (48 :: r) = strip0 r := by unfold strip0 Lib.trimLeftB; rw [List.dropWhile_cons]; rfl
theorem strip_other {c : UInt8} (h : c ≠ 48) (r : List UInt8) : strip0 (c :: r) = c :: r := by
  unfold strip0 Lib.trimLeftB
  rw [List.dropWhile_cons, if_neg]
  simpa using h
theorem rp_zero {r : List UInt8} : rp (48 :: r) = rp r := by unfold rp; rw [strip_zero]
theorem rp_other {c : UInt8} (h : c ≠ 48) (r : List UInt8) : rp (c :: r) = c :: r := by unfold rp; rw [strip_other h]; rfl
theorem rp_one (c : UInt8) : rp [c] = [c] := by
  by_cases h : c = 48
  · subst h; decide
  · exact rp_other h []
theorem strip_head (d : List UInt8) : strip0 d ≠ [48] := by
  induction d with
  | nil => decide
  | cons c r ih =>
    by_cases h : c = 48
    · subst h; rw [strip_zero]; exact ih
    · rw [strip_other h]
      intro e
      injection e with e1
      exact h e1
theorem parD_rp (m : Bool) (c : UInt8) (r : List UInt8) : parD m (some (c :: r)) = if 400 < (rp (c :: r)).length then ([], 16) else if m = true ∧ rp (c :: r) ≠ [48] then (45 :: rp (c :: r), 0) else (rp (c :: r), 0) := by
  have h1 := strip_head (c :: r)
  unfold parD rp
  dsimp only
  by_cases h : strip0 (c :: r) = []
  · rw [if_pos h, if_pos h, if_neg (by decide), if_neg (by simp)]
  · rw [if_neg h, if_neg h]
    split
    · rfl
    · cases m
      · rw [if_neg (by decide), if_neg (by simp)]
      · rw [if_pos rfl, if_pos ⟨rfl, h1⟩]
theorem refParse_nil (w : World) : Calls Tryd.prog 10 #[.string ⟨#[]⟩] w (Ret (.tuple #[.string ⟨#[]⟩, .int .i64 13]) w) := by
  go_enter Tryd.func10, Tryd.ntmps10
  go_wp2
  refine bodyPost_ret (v := .tuple #[.string ⟨#[]⟩, .int .i64 13]) (by simp [results, Tryd.results10, go_sem]) rfl (Ret.mk (by rfl) (by (repeat' (first | (with_reducible exact Below.refl _ _) | (with_reducible exact Nat.le_refl _) | (with_reducible refine Below.bel ?_ ?_) | (with_reducible refine Below.alloc ?_ ?_ _) | (with_reducible refine Below.drew ?_) | (with_reducible refine Below.drawsN ?_ _) | (with_reducible refine Below.setCell ?_ ?_ _) | (with_reducible refine le_bel ?_) | (with_reducible refine le_alloc ?_) | (with_reducible refine le_setCell ?_) | (with_reducible refine le_drew ?_) | (with_reducible refine le_drawsN ?_) | (dsimp only; with_reducible refine le_bel ?_) | (dsimp only; with_reducible refine Nat.le_refl _) | (dsimp only; with_reducible refine le_bel_add ?_) | (with_reducible assumption) | omega | (dsimp only; omega)))))
theorem extract_one {l : List UInt8} {k : Nat} {q : UInt8} (h : l[k]? = some q) : (ByteArray.mk l.toArray).extract k (k + 1) = ⟨[q].toArray⟩ := by
  have h1 : ((ByteArray.mk l.toArray).extract k (k + 1)).data = [q].toArray := by
    rw [ByteArray.data_extract, List.extract_toArray, List.extract_eq_take_drop, Nat.add_sub_cancel_left]
    congr 1
    have hk := (List.getElem?_eq_some_iff.1 h).1
    rw [List.drop_eq_getElem_cons hk, (List.getElem?_eq_some_iff.1 h).2]; rfl
  exact ByteArray.ext h1
set_option maxRecDepth 100000 in
set_option maxHeartbeats 12800000 in
theorem refParse_any (c : UInt8) (r : List UInt8) (w : World) (hl : r.length ≤ 100000) : Calls Tryd.prog 10 #[.string ⟨(c :: r).toArray⟩] w
    (Ret (.tuple #[.string ⟨(parI (c :: r)).1.toArray⟩, .int .i64 (parI (c :: r)).2]) w) := by
  have hb0 : (ByteArray.mk (c :: r).toArray)[0]'(by show 0 < (c :: r).toArray.size; simp) = c := rfl
  have hex : (ByteArray.mk (c :: r).toArray).extract 1 (r.length + 1) = ⟨r.toArray⟩ := by
    have := extract_drop (c :: r) 1
    rw [List.length_cons] at this
    exact this
  by_cases h45 : c = 45
  · subst h45
    have HP := Lib.hid (show parI (45 :: r) = parD true (digS r) by rw [parI]; exact if_pos rfl)
    have HOK := Lib.hid (fun h => @okR_ok r h)
    have HBAD := Lib.hid (fun k hk h => @okR_bad r k hk h)
    have HRB := Lib.hid (show ∀ k, k < (r).length → okR r k = false → parI (45 :: r) = ([], 15) from fun k hk h => by rw [HP.out, HBAD.out k hk h]; rfl)
    go_enter Tryd.func10, Tryd.ntmps10
    go_wp2_with fail
    refine wp_region_bel (by kernel_rfl) (by kernel_rfl) ?_
    repeat (go_big_quiet_step (fail))
    refine wpQuiet_nil ?_
    rintro _ ⟨x0, rfl⟩
    have hx0 := x0.size_le
    go_wp2
    go_loopw [6, 7] (fun v i wr => ∃ k : Nat, k ≤ (r).length ∧ i = .int .i64 (k : Int) ∧ (∀ j, j < k → okR r j = true) ∧ v = .string ⟨(((r).take k).filter isD).toArray⟩ ∧ Below w.heap.size w wr) (fun v i _ => (r).length - (intOf i).toNat)
    case atStart => exact ⟨0, by omega, rfl, fun j hj => by omega, rfl, by (repeat' (first | (with_reducible exact Below.refl _ _) | (with_reducible exact Nat.le_refl _) | (with_reducible refine Below.bel ?_ ?_) | (with_reducible refine Below.alloc ?_ ?_ _) | (with_reducible refine Below.drew ?_) | (with_reducible refine Below.drawsN ?_ _) | (with_reducible refine Below.setCell ?_ ?_ _) | (with_reducible refine le_bel ?_) | (with_reducible refine le_alloc ?_) | (with_reducible refine le_setCell ?_) | (with_reducible refine le_drew ?_) | (with_reducible refine le_drawsN ?_) | (dsimp only; with_reducible refine le_bel ?_) | (dsimp only; with_reducible refine Nat.le_refl _) | (dsimp only; with_reducible refine le_bel_add ?_) | (with_reducible assumption) | omega | (dsimp only; omega)))⟩
    case round =>
      obtain ⟨k, hk, rfl, hall, rfl, hb⟩ := hrel
      have hbs := hb.size
      by_cases hkl : k < (r).length
      · have hki : (k : Int) < (r.length : Int) := by simp at hkl ⊢; omega
        have hkb : k < (ByteArray.mk (r).toArray).size := by show k < (r).toArray.size; simpa using hkl
        have hbk := getB (t := r) hkl
        obtain ⟨q, hq⟩ : ∃ q, (r).getD k 0 = q := ⟨_, rfl⟩
        have hqk : (r)[k]? = some q := by rw [List.getElem?_eq_getElem hkl, ← hq, List.getD_eq_getElem?_getD, List.getElem?_eq_getElem hkl]; rfl
        have htk : (r).take (k + 1) = (r).take k ++ [q] := by rw [List.take_add_one, hqk]; rfl
        have hx1 := extract_one hqk
        have HA := Lib.hid hall
        have hfl : (((r).take k).filter isD).length ≤ k := Nat.le_trans (List.length_filter_le _ _) (by rw [List.length_take]; omega)
        have HB := Lib.hid (HRB.out k hkl)
        rw [hq] at hbk
        clear hall hqk
        cases hD : isD q
        · have HOKF := Lib.hid (show okR r k = (q == 32 && decide (k ≠ 0) && decide (k + 1 ≠ (r).length) && (r).getD (k - 1) 0 != 32 && (r).getD (k + 1) 0 != 32) by unfold okR; rw [hq, hD]; rfl)
          have HF := Lib.hid (show ((r).take (k + 1)).filter isD = ((r).take k).filter isD by rw [htk, List.filter_append]; simp [hD])
          by_cases h32 : q = 32
          · subst h32
            by_cases hk0 : k = 0
            · have HR := Lib.hid (HB.out (by rw [HOKF.out, decide_eq_false (by simp [hk0])]; simp))
              have hk0' : decide (0 < k) = false := decide_eq_false (by omega)
              have hk0n : (0 < k) = False := eq_false (by omega)
              clear hk0 hD htk hq
              generalize ((r).take k).filter isD = acc at *
              go_wp2
              refine bodyPost_ret (v := .tuple #[.string ⟨#[]⟩, .int .i64 15]) (by simp [results, Tryd.results10, go_sem]) rfl (Ret.mk (by rw [HR.out]) (by (repeat' (first | (with_reducible exact Below.refl _ _) | (with_reducible exact Nat.le_refl _) | (with_reducible refine Below.bel ?_ ?_) | (with_reducible refine Below.alloc ?_ ?_ _) | (with_reducible refine Below.drew ?_) | (with_reducible refine Below.drawsN ?_ _) | (with_reducible refine Below.setCell ?_ ?_ _) | (with_reducible refine le_bel ?_) | (with_reducible refine le_alloc ?_) | (with_reducible refine le_setCell ?_) | (with_reducible refine le_drew ?_) | (with_reducible refine le_drawsN ?_) | (dsimp only; with_reducible refine le_bel ?_) | (dsimp only; with_reducible refine Nat.le_refl _) | (dsimp only; with_reducible refine le_bel_add ?_) | (with_reducible assumption) | omega | (dsimp only; omega)))))
            · obtain ⟨j, rfl⟩ : ∃ j, k = j + 1 := ⟨k - 1, by omega⟩
              have hk0' : decide ((0 : Int) < ((j : Int) + 1)) = true := decide_eq_true (by omega)
              have hll : (r).length = r.length := rfl
              clear hk0
              by_cases hlast : j + 1 + 1 = (r).length
              · have HR := Lib.hid (HB.out (by rw [HOKF.out, decide_eq_false (p := j + 1 + 1 ≠ (r).length) (by simpa using hlast)]; simp))
                have hq1 : decide ((j : Int) + 1 + 1 < (r.length : Int)) = false := decide_eq_false (by omega)
                clear hD htk hq
                generalize ((r).take (j + 1)).filter isD = acc at *
                go_wp2
                refine bodyPost_ret (v := .tuple #[.string ⟨#[]⟩, .int .i64 15]) (by simp [results, Tryd.results10, go_sem]) rfl (Ret.mk (by rw [HR.out]) (by (repeat' (first | (with_reducible exact Below.refl _ _) | (with_reducible exact Nat.le_refl _) | (with_reducible refine Below.bel ?_ ?_) | (with_reducible refine Below.alloc ?_ ?_ _) | (with_reducible refine Below.drew ?_) | (with_reducible refine Below.drawsN ?_ _) | (with_reducible refine Below.setCell ?_ ?_ _) | (with_reducible refine le_bel ?_) | (with_reducible refine le_alloc ?_) | (with_reducible refine le_setCell ?_) | (with_reducible refine le_drew ?_) | (with_reducible refine le_drawsN ?_) | (dsimp only; with_reducible refine le_bel ?_) | (dsimp only; with_reducible refine Nat.le_refl _) | (dsimp only; with_reducible refine le_bel_add ?_) | (with_reducible assumption) | omega | (dsimp only; omega)))))
              · have hq1 : decide ((j : Int) + 1 + 1 < (r.length : Int)) = true := decide_eq_true (by omega)
                have hj1 : j < (r).length := by omega
                have hj2 : j + 1 + 1 < (r).length := by omega
                have hb1 := getB (t := r) hj1
                have hb2 := getB (t := r) hj2
                have HK := Lib.hid (show okR r (j + 1) = ((r).getD j 0 != 32 && (r).getD (j + 1 + 1) 0 != 32) by rw [HOKF.out, decide_eq_true (by omega), decide_eq_true (p := j + 1 + 1 ≠ (r).length) hlast]; simp)
                obtain ⟨x1, hx1⟩ : ∃ x, (r).getD j 0 = x := ⟨_, rfl⟩
                obtain ⟨x2, hx2⟩ : ∃ x, (r).getD (j + 1 + 1) 0 = x := ⟨_, rfl⟩
                rw [hx1] at hb1 HK
                rw [hx2] at hb2 HK
                clear hx1 hx2 hD htk hq
                by_cases h1 : x1 = 32
                · subst h1
                  have HR := Lib.hid (HB.out (by rw [HK.out]; rfl))
                  generalize ((r).take (j + 1)).filter isD = acc at *
                  go_wp2
                  refine bodyPost_ret (v := .tuple #[.string ⟨#[]⟩, .int .i64 15]) (by simp [results, Tryd.results10, go_sem]) rfl (Ret.mk (by rw [HR.out]) (by (repeat' (first | (with_reducible exact Below.refl _ _) | (with_reducible exact Nat.le_refl _) | (with_reducible refine Below.bel ?_ ?_) | (with_reducible refine Below.alloc ?_ ?_ _) | (with_reducible refine Below.drew ?_) | (with_reducible refine Below.drawsN ?_ _) | (with_reducible refine Below.setCell ?_ ?_ _) | (with_reducible refine le_bel ?_) | (with_reducible refine le_alloc ?_) | (with_reducible refine le_setCell ?_) | (with_reducible refine le_drew ?_) | (with_reducible refine le_drawsN ?_) | (dsimp only; with_reducible refine le_bel ?_) | (dsimp only; with_reducible refine Nat.le_refl _) | (dsimp only; with_reducible refine le_bel_add ?_) | (with_reducible assumption) | omega | (dsimp only; omega)))))
                · have h1' : ((x1.toNat : Int) != 32) = true := bne_iff_ne.2 (fun h => h1 (UInt8.toNat_inj.1 (by show x1.toNat = 32; omega)))
                  by_cases h2 : x2 = 32
                  · subst h2
                    have HR := Lib.hid (HB.out (by rw [HK.out]; simp))
                    clear h1
                    generalize ((r).take (j + 1)).filter isD = acc at *
                    go_wp2
                    refine bodyPost_ret (v := .tuple #[.string ⟨#[]⟩, .int .i64 15]) (by simp [results, Tryd.results10, go_sem]) rfl (Ret.mk (by rw [HR.out]) (by (repeat' (first | (with_reducible exact Below.refl _ _) | (with_reducible exact Nat.le_refl _) | (with_reducible refine Below.bel ?_ ?_) | (with_reducible refine Below.alloc ?_ ?_ _) | (with_reducible refine Below.drew ?_) | (with_reducible refine Below.drawsN ?_ _) | (with_reducible refine Below.setCell ?_ ?_ _) | (with_reducible refine le_bel ?_) | (with_reducible refine le_alloc ?_) | (with_reducible refine le_setCell ?_) | (with_reducible refine le_drew ?_) | (with_reducible refine le_drawsN ?_) | (dsimp only; with_reducible refine le_bel ?_) | (dsimp only; with_reducible refine Nat.le_refl _) | (dsimp only; with_reducible refine le_bel_add ?_) | (with_reducible assumption) | omega | (dsimp only; omega)))))
                  · have h2' : ((x2.toNat : Int) != 32) = true := bne_iff_ne.2 (fun h => h2 (UInt8.toNat_inj.1 (by show x2.toNat = 32; omega)))
                    have HNX := Lib.hid (okR_next HA.out (show okR r (j + 1) = true by rw [HK.out, bne_iff_ne.2 h1, bne_iff_ne.2 h2]; rfl))
                    clear h1 h2
                    have HFF := HF.out
                    generalize ((r).take (j + 1)).filter isD = acc at *
                    have HF2 := Lib.hid HFF
                    clear HFF HF
                    go_wp2
                    go_roundw
                    case rel => exact ⟨j + 1 + 1, by omega, by go_num, HNX.out, by rw [HF2.out], by (repeat' (first | (with_reducible exact Below.refl _ _) | (with_reducible exact Nat.le_refl _) | (with_reducible refine Below.bel ?_ ?_) | (with_reducible refine Below.alloc ?_ ?_ _) | (with_reducible refine Below.drew ?_) | (with_reducible refine Below.drawsN ?_ _) | (with_reducible refine Below.setCell ?_ ?_ _) | (with_reducible refine le_bel ?_) | (with_reducible refine le_alloc ?_) | (with_reducible refine le_setCell ?_) | (with_reducible refine le_drew ?_) | (with_reducible refine le_drawsN ?_) | (dsimp only; with_reducible refine le_bel ?_) | (dsimp only; with_reducible refine Nat.le_refl _) | (dsimp only; with_reducible refine le_bel_add ?_) | (with_reducible assumption) | omega | (dsimp only; omega)))⟩
                    case measure => simp [intOf]; omega
          · have HR := Lib.hid (HB.out (by rw [HOKF.out, beq_eq_false_iff_ne.2 h32]; rfl))
            have h32' : ((q.toNat : Int) == 32) = false := beq_eq_false_iff_ne.2 (fun h => h32 (UInt8.toNat_inj.1 (by show q.toNat = 32; omega)))
            by_cases h48 : q.toNat < 48
            · have e1 : decide ((q.toNat : Int) < 48) = true := decide_eq_true (by omega)
              clear h32 h48 hD htk hq
              generalize ((r).take k).filter isD = acc at *
              go_wp2
              refine bodyPost_ret (v := .tuple #[.string ⟨#[]⟩, .int .i64 15]) (by simp [results, Tryd.results10, go_sem]) rfl (Ret.mk (by rw [HR.out]) (by (repeat' (first | (with_reducible exact Below.refl _ _) | (with_reducible exact Nat.le_refl _) | (with_reducible refine Below.bel ?_ ?_) | (with_reducible refine Below.alloc ?_ ?_ _) | (with_reducible refine Below.drew ?_) | (with_reducible refine Below.drawsN ?_ _) | (with_reducible refine Below.setCell ?_ ?_ _) | (with_reducible refine le_bel ?_) | (with_reducible refine le_alloc ?_) | (with_reducible refine le_setCell ?_) | (with_reducible refine le_drew ?_) | (with_reducible refine le_drawsN ?_) | (dsimp only; with_reducible refine le_bel ?_) | (dsimp only; with_reducible refine Nat.le_refl _) | (dsimp only; with_reducible refine le_bel_add ?_) | (with_reducible assumption) | omega | (dsimp only; omega)))))
            · have e1 : decide ((q.toNat : Int) < 48) = false := decide_eq_false (by omega)
              have e2 : decide ((57 : Int) < (q.toNat : Int)) = true := decide_eq_true (by
                unfold isD at hD
                simp at hD
                omega)
              clear h32 h48 hD htk hq
              generalize ((r).take k).filter isD = acc at *
              go_wp2
              refine bodyPost_ret (v := .tuple #[.string ⟨#[]⟩, .int .i64 15]) (by simp [results, Tryd.results10, go_sem]) rfl (Ret.mk (by rw [HR.out]) (by (repeat' (first | (with_reducible exact Below.refl _ _) | (with_reducible exact Nat.le_refl _) | (with_reducible refine Below.bel ?_ ?_) | (with_reducible refine Below.alloc ?_ ?_ _) | (with_reducible refine Below.drew ?_) | (with_reducible refine Below.drawsN ?_ _) | (with_reducible refine Below.setCell ?_ ?_ _) | (with_reducible refine le_bel ?_) | (with_reducible refine le_alloc ?_) | (with_reducible refine le_setCell ?_) | (with_reducible refine le_drew ?_) | (with_reducible refine le_drawsN ?_) | (dsimp only; with_reducible refine le_bel ?_) | (dsimp only; with_reducible refine Nat.le_refl _) | (dsimp only; with_reducible refine le_bel_add ?_) | (with_reducible assumption) | omega | (dsimp only; omega)))))
        · have HNX := Lib.hid (okR_next HA.out (show okR r k = true by unfold okR; rw [hq, hD]; rfl))
          have hqq : 48 ≤ q.toNat ∧ q.toNat ≤ 57 := by
            unfold isD at hD
            simpa using hD
          have e0 : ((q.toNat : Int) == 32) = false := beq_eq_false_iff_ne.2 (by omega)
          have e1 : decide ((q.toNat : Int) < 48) = false := decide_eq_false (by omega)
          have e2 : decide ((57 : Int) < (q.toNat : Int)) = false := decide_eq_false (by omega)
          have hFF : ((r).take (k + 1)).filter isD = ((r).take k).filter isD ++ [q] := by rw [htk, List.filter_append]; simp [hD]
          have b1 := bytes_app (((r).take k).filter isD) [q]
          have l1 : (9223372036854775807 < (((r).take k).filter isD).length + 1) = False := eq_false (by omega)
          generalize ((r).take k).filter isD = acc at *
          have HF := Lib.hid hFF
          clear hD htk hq hqq hFF
          go_wp2
          go_roundw
          case rel => exact ⟨k + 1, by omega, by go_num, HNX.out, by rw [HF.out], by (repeat' (first | (with_reducible exact Below.refl _ _) | (with_reducible exact Nat.le_refl _) | (with_reducible refine Below.bel ?_ ?_) | (with_reducible refine Below.alloc ?_ ?_ _) | (with_reducible refine Below.drew ?_) | (with_reducible refine Below.drawsN ?_ _) | (with_reducible refine Below.setCell ?_ ?_ _) | (with_reducible refine le_bel ?_) | (with_reducible refine le_alloc ?_) | (with_reducible refine le_setCell ?_) | (with_reducible refine le_drew ?_) | (with_reducible refine le_drawsN ?_) | (dsimp only; with_reducible refine le_bel ?_) | (dsimp only; with_reducible refine Nat.le_refl _) | (dsimp only; with_reducible refine le_bel_add ?_) | (with_reducible assumption) | omega | (dsimp only; omega)))⟩
          case measure => simp [intOf]; omega
      · obtain rfl : k = (r).length := by omega
        rw [List.take_length]
        have hR0 : parI (45 :: r) = parD true (some ((r).filter isD)) := by rw [HP.out, HOK.out hall]
        have hfl : ((r).filter isD).length ≤ r.length := List.length_filter_le _ _
        clear hall
        generalize (r).filter isD = acc at *
        cases acc with
        | nil =>
          have HR := Lib.hid (show parI (45 :: r) = ([], 15) from hR0)
          clear hR0
          go_wp2
          refine bodyPost_ret (v := .tuple #[.string ⟨#[]⟩, .int .i64 15]) (by simp [results, Tryd.results10, go_sem]) rfl (Ret.mk (by rw [HR.out]) (by (repeat' (first | (with_reducible exact Below.refl _ _) | (with_reducible exact Nat.le_refl _) | (with_reducible refine Below.bel ?_ ?_) | (with_reducible refine Below.alloc ?_ ?_ _) | (with_reducible refine Below.drew ?_) | (with_reducible refine Below.drawsN ?_ _) | (with_reducible refine Below.setCell ?_ ?_ _) | (with_reducible refine le_bel ?_) | (with_reducible refine le_alloc ?_) | (with_reducible refine le_setCell ?_) | (with_reducible refine le_drew ?_) | (with_reducible refine le_drawsN ?_) | (dsimp only; with_reducible refine le_bel ?_) | (dsimp only; with_reducible refine Nat.le_refl _) | (dsimp only; with_reducible refine le_bel_add ?_) | (with_reducible assumption) | omega | (dsimp only; omega)))))
        | cons a ac =>
          have hX := hR0.trans (parD_rp true a ac)
          have HX0 := Lib.hid hX
          have hal : ac.length + 1 ≤ 100001 := by simp at hfl; omega
          obtain ⟨al, hae⟩ : ∃ al, a :: ac = al := ⟨_, rfl⟩
          have hall : al.length = ac.length + 1 := by rw [← hae]; rfl
          have hane : al ≠ [] := by rw [← hae]; simp
          rw [hae] at HX0
          have HAE := Lib.hid hae
          clear hX hR0 hfl hae
          go_wp2
          rw [HAE.out]
          obtain ⟨wo, hwo⟩ : ∃ wo : World, wr = wo := ⟨_, rfl⟩
          rw [hwo] at hb hbs ⊢
          clear hwo
          go_loopw [6] (fun v wr => ∃ e : List UInt8, v = .string ⟨e.toArray⟩ ∧ e ≠ [] ∧ rp e = rp al ∧ e.length ≤ al.length ∧ Below w.heap.size w wr) (fun v _ => match v with | .string b => b.size | _ => 0)
          case atStart => exact ⟨al, rfl, hane, rfl, Nat.le_refl _, by (repeat' (first | (with_reducible exact Below.refl _ _) | (with_reducible exact Nat.le_refl _) | (with_reducible refine Below.bel ?_ ?_) | (with_reducible refine Below.alloc ?_ ?_ _) | (with_reducible refine Below.drew ?_) | (with_reducible refine Below.drawsN ?_ _) | (with_reducible refine Below.setCell ?_ ?_ _) | (with_reducible refine le_bel ?_) | (with_reducible refine le_alloc ?_) | (with_reducible refine le_setCell ?_) | (with_reducible refine le_drew ?_) | (with_reducible refine le_drawsN ?_) | (dsimp only; with_reducible refine le_bel ?_) | (dsimp only; with_reducible refine Nat.le_refl _) | (dsimp only; with_reducible refine le_bel_add ?_) | (with_reducible assumption) | omega | (dsimp only; omega)))⟩
          case round =>
            obtain ⟨e, rfl, he, hrp, hel, hb⟩ := hrel
            have hbs := hb.size
            cases e with
            | nil => exact absurd rfl he
            | cons d e =>
              by_cases h1 : e = []
              · subst h1
                have hX : parI (45 :: r) = if 400 < [d].length then ([], 16) else if true = true ∧ [d] ≠ [48] then (45 :: [d], 0) else ([d], 0) := by
                  rw [HX0.out, ← hrp, rp_one]; try simp
                clear hrp he HX0 hel
                have h4 : ¬ 400 < [d].length := by simp
                have HX := Lib.hid hX
                have hxl : (([d]).length : Int) = (1 : Int) := by simp
                have hxy : ([d]).length = 1 := by simp
                clear hX
                have h4' : decide ((400 : Int) < (1 : Int)) = false := decide_eq_false (by omega)
                have l1 : (9223372036854775807 < 1 + [d].length) = False := eq_false (by omega)
                have l2 : (9223372036854775807 < 1 + 1) = False := eq_false (by omega)
                have b1 : (ByteArray.mk #[45]) ++ ⟨([d]).toArray⟩ = ⟨([45] ++ [d]).toArray⟩ := bytes_app [45] [d]
                by_cases h0 : [d] = [48]
                · have HR := Lib.hid (show parI (45 :: r) = ([d], 0) by rw [HX.out, if_neg h4, if_neg (fun h => h.2 h0)])
                  have h0' : ([d] == [48]) = true := beq_iff_eq.2 h0
                  have h0'' : ([d] != [48]) = false := by rw [bne, h0']; rfl
                  clear h4 h0 hxl hxy
                  go_wp2
                  refine bodyPost_ret (v := .tuple #[.string ⟨([d]).toArray⟩, .int .i64 0]) (by simp [results, Tryd.results10, go_sem]) rfl (Ret.mk (by rw [HR.out]) (by (repeat' (first | (with_reducible exact Below.refl _ _) | (with_reducible exact Nat.le_refl _) | (with_reducible refine Below.bel ?_ ?_) | (with_reducible refine Below.alloc ?_ ?_ _) | (with_reducible refine Below.drew ?_) | (with_reducible refine Below.drawsN ?_ _) | (with_reducible refine Below.setCell ?_ ?_ _) | (with_reducible refine le_bel ?_) | (with_reducible refine le_alloc ?_) | (with_reducible refine le_setCell ?_) | (with_reducible refine le_drew ?_) | (with_reducible refine le_drawsN ?_) | (dsimp only; with_reducible refine le_bel ?_) | (dsimp only; with_reducible refine Nat.le_refl _) | (dsimp only; with_reducible refine le_bel_add ?_) | (with_reducible assumption) | omega | (dsimp only; omega)))))
                · have HR := Lib.hid (show parI (45 :: r) = (45 :: [d], 0) by rw [HX.out, if_neg h4, if_pos ⟨rfl, h0⟩])
                  have h0' : ([d] == [48]) = false := beq_eq_false_iff_ne.2 h0
                  have h0'' : ([d] != [48]) = true := by rw [bne, h0']; rfl
                  clear h4 h0 hxl hxy
                  go_wp2
                  refine bodyPost_ret (v := .tuple #[.string ⟨(45 :: [d]).toArray⟩, .int .i64 0]) (by simp [results, Tryd.results10, go_sem]) rfl (Ret.mk (by rw [HR.out]) (by (repeat' (first | (with_reducible exact Below.refl _ _) | (with_reducible exact Nat.le_refl _) | (with_reducible refine Below.bel ?_ ?_) | (with_reducible refine Below.alloc ?_ ?_ _) | (with_reducible refine Below.drew ?_) | (with_reducible refine Below.drawsN ?_ _) | (with_reducible refine Below.setCell ?_ ?_ _) | (with_reducible refine le_bel ?_) | (with_reducible refine le_alloc ?_) | (with_reducible refine le_setCell ?_) | (with_reducible refine le_drew ?_) | (with_reducible refine le_drawsN ?_) | (dsimp only; with_reducible refine le_bel ?_) | (dsimp only; with_reducible refine Nat.le_refl _) | (dsimp only; with_reducible refine le_bel_add ?_) | (with_reducible assumption) | omega | (dsimp only; omega)))))
              · have hel1 : 0 < e.length := List.length_pos_iff.2 h1
                have hel2 : e.length + 1 ≤ al.length := by simpa using hel
                have hd1 : decide ((1 : Int) < ((e.length : Int) + 1)) = true := decide_eq_true (by omega)
                have hbd : (ByteArray.mk (d :: e).toArray)[0]'(by show 0 < (d :: e).toArray.size; simp) = d := rfl
                by_cases h48 : d = 48
                · subst h48
                  have hxe : (ByteArray.mk (48 :: e).toArray).extract 1 (e.length + 1) = ⟨e.toArray⟩ := by
                    have := extract_drop (48 :: e) 1
                    rw [List.length_cons] at this
                    exact this
                  have HRP := Lib.hid (show rp e = rp al by rw [← hrp, rp_zero])
                  clear hrp he
                  go_wp2
                  go_roundw
                  case rel => exact ⟨e, rfl, h1, HRP.out, by omega, by (repeat' (first | (with_reducible exact Below.refl _ _) | (with_reducible exact Nat.le_refl _) | (with_reducible refine Below.bel ?_ ?_) | (with_reducible refine Below.alloc ?_ ?_ _) | (with_reducible refine Below.drew ?_) | (with_reducible refine Below.drawsN ?_ _) | (with_reducible refine Below.setCell ?_ ?_ _) | (with_reducible refine le_bel ?_) | (with_reducible refine le_alloc ?_) | (with_reducible refine le_setCell ?_) | (with_reducible refine le_drew ?_) | (with_reducible refine le_drawsN ?_) | (dsimp only; with_reducible refine le_bel ?_) | (dsimp only; with_reducible refine Nat.le_refl _) | (dsimp only; with_reducible refine le_bel_add ?_) | (with_reducible assumption) | omega | (dsimp only; omega)))⟩
                  case measure => show e.toArray.size < (48 :: e).toArray.size; simp
                · have h48' : ((d.toNat : Int) == 48) = false := beq_eq_false_iff_ne.2 (fun h => h48 (UInt8.toNat_inj.1 (by show d.toNat = 48; omega)))
                  have hX : parI (45 :: r) = if 400 < (d :: e).length then ([], 16) else if true = true ∧ (d :: e) ≠ [48] then (45 :: (d :: e), 0) else ((d :: e), 0) := by
                    rw [HX0.out, ← hrp, rp_other h48]; try simp
                  clear hrp he HX0 hel h48
                  have HX := Lib.hid hX
                  have hxl : (((d :: e)).length : Int) = (((e.length:Int) + 1) : Int) := by simp
                  have hxy : ((d :: e)).length = (e.length + 1) := by simp
                  clear hX
                  by_cases h4 : 400 < (d :: e).length
                  · have h4' : decide ((400 : Int) < (((e.length:Int) + 1) : Int)) = true := decide_eq_true (by omega)
                    have HR := Lib.hid (show parI (45 :: r) = ([], 16) by rw [HX.out, if_pos h4])
                    clear h4 hxl hxy
                    go_wp2
                    refine bodyPost_ret (v := .tuple #[.string ⟨#[]⟩, .int .i64 16]) (by simp [results, Tryd.results10, go_sem]) rfl (Ret.mk (by rw [HR.out]) (by (repeat' (first | (with_reducible exact Below.refl _ _) | (with_reducible exact Nat.le_refl _) | (with_reducible refine Below.bel ?_ ?_) | (with_reducible refine Below.alloc ?_ ?_ _) | (with_reducible refine Below.drew ?_) | (with_reducible refine Below.drawsN ?_ _) | (with_reducible refine Below.setCell ?_ ?_ _) | (with_reducible refine le_bel ?_) | (with_reducible refine le_alloc ?_) | (with_reducible refine le_setCell ?_) | (with_reducible refine le_drew ?_) | (with_reducible refine le_drawsN ?_) | (dsimp only; with_reducible refine le_bel ?_) | (dsimp only; with_reducible refine Nat.le_refl _) | (dsimp only; with_reducible refine le_bel_add ?_) | (with_reducible assumption) | omega | (dsimp only; omega)))))
                  · have h4' : decide ((400 : Int) < (((e.length:Int) + 1) : Int)) = false := decide_eq_false (by omega)
                    have l1 : (9223372036854775807 < 1 + (d :: e).length) = False := eq_false (by omega)
                    have l2 : (9223372036854775807 < 1 + (e.length + 1)) = False := eq_false (by omega)
                    have b1 : (ByteArray.mk #[45]) ++ ⟨((d :: e)).toArray⟩ = ⟨([45] ++ (d :: e)).toArray⟩ := bytes_app [45] (d :: e)
                    by_cases h0 : (d :: e) = [48]
                    · have HR := Lib.hid (show parI (45 :: r) = ((d :: e), 0) by rw [HX.out, if_neg h4, if_neg (fun h => h.2 h0)])
                      have h0' : ((d :: e) == [48]) = true := beq_iff_eq.2 h0
                      have h0'' : ((d :: e) != [48]) = false := by rw [bne, h0']; rfl
                      clear h4 h0 hxl hxy
                      go_wp2
                      refine bodyPost_ret (v := .tuple #[.string ⟨((d :: e)).toArray⟩, .int .i64 0]) (by simp [results, Tryd.results10, go_sem]) rfl (Ret.mk (by rw [HR.out]) (by (repeat' (first | (with_reducible exact Below.refl _ _) | (with_reducible exact Nat.le_refl _) | (with_reducible refine Below.bel ?_ ?_) | (with_reducible refine Below.alloc ?_ ?_ _) | (with_reducible refine Below.drew ?_) | (with_reducible refine Below.drawsN ?_ _) | (with_reducible refine Below.setCell ?_ ?_ _) | (with_reducible refine le_bel ?_) | (with_reducible refine le_alloc ?_) | (with_reducible refine le_setCell ?_) | (with_reducible refine le_drew ?_) | (with_reducible refine le_drawsN ?_) | (dsimp only; with_reducible refine le_bel ?_) | (dsimp only; with_reducible refine Nat.le_refl _) | (dsimp only; with_reducible refine le_bel_add ?_) | (with_reducible assumption) | omega | (dsimp only; omega)))))
                    · have HR := Lib.hid (show parI (45 :: r) = (45 :: (d :: e), 0) by rw [HX.out, if_neg h4, if_pos ⟨rfl, h0⟩])
                      have h0' : ((d :: e) == [48]) = false := beq_eq_false_iff_ne.2 h0
                      have h0'' : ((d :: e) != [48]) = true := by rw [bne, h0']; rfl
                      clear h4 h0 hxl hxy
                      go_wp2
                      refine bodyPost_ret (v := .tuple #[.string ⟨(45 :: (d :: e)).toArray⟩, .int .i64 0]) (by simp [results, Tryd.results10, go_sem]) rfl (Ret.mk (by rw [HR.out]) (by (repeat' (first | (with_reducible exact Below.refl _ _) | (with_reducible exact Nat.le_refl _) | (with_reducible refine Below.bel ?_ ?_) | (with_reducible refine Below.alloc ?_ ?_ _) | (with_reducible refine Below.drew ?_) | (with_reducible refine Below.drawsN ?_ _) | (with_reducible refine Below.setCell ?_ ?_ _) | (with_reducible refine le_bel ?_) | (with_reducible refine le_alloc ?_) | (with_reducible refine le_setCell ?_) | (with_reducible refine le_drew ?_) | (with_reducible refine le_drawsN ?_) | (dsimp only; with_reducible refine le_bel ?_) | (dsimp only; with_reducible refine Nat.le_refl _) | (dsimp only; with_reducible refine le_bel_add ?_) | (with_reducible assumption) | omega | (dsimp only; omega)))))
  · have h45' : ((c.toNat : Int) == 45) = false := beq_eq_false_iff_ne.2 (fun h => h45 (UInt8.toNat_inj.1 (by show c.toNat = 45; omega)))
    by_cases h43 : c = 43
    · subst h43
      have HP := Lib.hid (show parI (43 :: r) = parD false (digS r) by rw [parI]; exact (if_neg (by decide)).trans (if_pos rfl))
      have HOK := Lib.hid (fun h => @okR_ok r h)
      have HBAD := Lib.hid (fun k hk h => @okR_bad r k hk h)
      have HRB := Lib.hid (show ∀ k, k < (r).length → okR r k = false → parI (43 :: r) = ([], 15) from fun k hk h => by rw [HP.out, HBAD.out k hk h]; rfl)
      go_enter Tryd.func10, Tryd.ntmps10
      go_wp2_with fail
      refine wp_region_bel (by kernel_rfl) (by kernel_rfl) ?_
      repeat (go_big_quiet_step (fail))
      refine wpQuiet_nil ?_
      rintro _ ⟨x0, rfl⟩
      have hx0 := x0.size_le
      go_wp2
      go_loopw [6, 7] (fun v i wr => ∃ k : Nat, k ≤ (r).length ∧ i = .int .i64 (k : Int) ∧ (∀ j, j < k → okR r j = true) ∧ v = .string ⟨(((r).take k).filter isD).toArray⟩ ∧ Below w.heap.size w wr) (fun v i _ => (r).length - (intOf i).toNat)
      case atStart => exact ⟨0, by omega, rfl, fun j hj => by omega, rfl, by (repeat' (first | (with_reducible exact Below.refl _ _) | (with_reducible exact Nat.le_refl _) | (with_reducible refine Below.bel ?_ ?_) | (with_reducible refine Below.alloc ?_ ?_ _) | (with_reducible refine Below.drew ?_) | (with_reducible refine Below.drawsN ?_ _) | (with_reducible refine Below.setCell ?_ ?_ _) | (with_reducible refine le_bel ?_) | (with_reducible refine le_alloc ?_) | (with_reducible refine le_setCell ?_) | (with_reducible refine le_drew ?_) | (with_reducible refine le_drawsN ?_) | (dsimp only; with_reducible refine le_bel ?_) | (dsimp only; with_reducible refine Nat.le_refl _) | (dsimp only; with_reducible refine le_bel_add ?_) | (with_reducible assumption) | omega | (dsimp only; omega)))⟩
      case round =>
        obtain ⟨k, hk, rfl, hall, rfl, hb⟩ := hrel
        have hbs := hb.size
        by_cases hkl : k < (r).length
        · have hki : (k : Int) < (r.length : Int) := by simp at hkl ⊢; omega
          have hkb : k < (ByteArray.mk (r).toArray).size := by show k < (r).toArray.size; simpa using hkl
          have hbk := getB (t := r) hkl
          obtain ⟨q, hq⟩ : ∃ q, (r).getD k 0 = q := ⟨_, rfl⟩
          have hqk : (r)[k]? = some q := by rw [List.getElem?_eq_getElem hkl, ← hq, List.getD_eq_getElem?_getD, List.getElem?_eq_getElem hkl]; rfl
          have htk : (r).take (k + 1) = (r).take k ++ [q] := by rw [List.take_add_one, hqk]; rfl
          have hx1 := extract_one hqk
          have HA := Lib.hid hall
          have hfl : (((r).take k).filter isD).length ≤ k := Nat.le_trans (List.length_filter_le _ _) (by rw [List.length_take]; omega)
          have HB := Lib.hid (HRB.out k hkl)
          rw [hq] at hbk
          clear hall hqk
          cases hD : isD q
          · have HOKF := Lib.hid (show okR r k = (q == 32 && decide (k ≠ 0) && decide (k + 1 ≠ (r).length) && (r).getD (k - 1) 0 != 32 && (r).getD (k + 1) 0 != 32) by unfold okR; rw [hq, hD]; rfl)
            have HF := Lib.hid (show ((r).take (k + 1)).filter isD = ((r).take k).filter isD by rw [htk, List.filter_append]; simp [hD])
            by_cases h32 : q = 32
            · subst h32
              by_cases hk0 : k = 0
              · have HR := Lib.hid (HB.out (by rw [HOKF.out, decide_eq_false (by simp [hk0])]; simp))
                have hk0' : decide (0 < k) = false := decide_eq_false (by omega)
                have hk0n : (0 < k) = False := eq_false (by omega)
                clear hk0 hD htk hq
                generalize ((r).take k).filter isD = acc at *
                go_wp2
                refine bodyPost_ret (v := .tuple #[.string ⟨#[]⟩, .int .i64 15]) (by simp [results, Tryd.results10, go_sem]) rfl (Ret.mk (by rw [HR.out]) (by (repeat' (first | (with_reducible exact Below.refl _ _) | (with_reducible exact Nat.le_refl _) | (with_reducible refine Below.bel ?_ ?_) | (with_reducible refine Below.alloc ?_ ?_ _) | (with_reducible refine Below.drew ?_) | (with_reducible refine Below.drawsN ?_ _) | (with_reducible refine Below.setCell ?_ ?_ _) | (with_reducible refine le_bel ?_) | (with_reducible refine le_alloc ?_) | (with_reducible refine le_setCell ?_) | (with_reducible refine le_drew ?_) | (with_reducible refine le_drawsN ?_) | (dsimp only; with_reducible refine le_bel ?_) | (dsimp only; with_reducible refine Nat.le_refl _) | (dsimp only; with_reducible refine le_bel_add ?_) | (with_reducible assumption) | omega | (dsimp only; omega)))))
              · obtain ⟨j, rfl⟩ : ∃ j, k = j + 1 := ⟨k - 1, by omega⟩
                have hk0' : decide ((0 : Int) < ((j : Int) + 1)) = true := decide_eq_true (by omega)
                have hll : (r).length = r.length := rfl
                clear hk0
                by_cases hlast : j + 1 + 1 = (r).length
                · have HR := Lib.hid (HB.out (by rw [HOKF.out, decide_eq_false (p := j + 1 + 1 ≠ (r).length) (by simpa using hlast)]; simp))
                  have hq1 : decide ((j : Int) + 1 + 1 < (r.length : Int)) = false := decide_eq_false (by omega)
                  clear hD htk hq
                  generalize ((r).take (j + 1)).filter isD = acc at *
                  go_wp2
                  refine bodyPost_ret (v := .tuple #[.string ⟨#[]⟩, .int .i64 15]) (by simp [results, Tryd.results10, go_sem]) rfl (Ret.mk (by rw [HR.out]) (by (repeat' (first | (with_reducible exact Below.refl _ _) | (with_reducible exact Nat.le_refl _) | (with_reducible refine Below.bel ?_ ?_) | (with_reducible refine Below.alloc ?_ ?_ _) | (with_reducible refine Below.drew ?_) | (with_reducible refine Below.drawsN ?_ _) | (with_reducible refine Below.setCell ?_ ?_ _) | (with_reducible refine le_bel ?_) | (with_reducible refine le_alloc ?_) | (with_reducible refine le_setCell ?_) | (with_reducible refine le_drew ?_) | (with_reducible refine le_drawsN ?_) | (dsimp only; with_reducible refine le_bel ?_) | (dsimp only; with_reducible refine Nat.le_refl _) | (dsimp only; with_reducible refine le_bel_add ?_) | (with_reducible assumption) | omega | (dsimp only; omega)))))
                · have hq1 : decide ((j : Int) + 1 + 1 < (r.length : Int)) = true := decide_eq_true (by omega)
                  have hj1 : j < (r).length := by omega
                  have hj2 : j + 1 + 1 < (r).length := by omega
                  have hb1 := getB (t := r) hj1
                  have hb2 := getB (t := r) hj2
                  have HK := Lib.hid (show okR r (j + 1) = ((r).getD j 0 != 32 && (r).getD (j + 1 + 1) 0 != 32) by rw [HOKF.out, decide_eq_true (by omega), decide_eq_true (p := j + 1 + 1 ≠ (r).length) hlast]; simp)
                  obtain ⟨x1, hx1⟩ : ∃ x, (r).getD j 0 = x := ⟨_, rfl⟩
                  obtain ⟨x2, hx2⟩ : ∃ x, (r).getD (j + 1 + 1) 0 = x := ⟨_, rfl⟩
                  rw [hx1] at hb1 HK
                  rw [hx2] at hb2 HK
                  clear hx1 hx2 hD htk hq
                  by_cases h1 : x1 = 32
                  · subst h1
                    have HR := Lib.hid (HB.out (by rw [HK.out]; rfl))
                    generalize ((r).take (j + 1)).filter isD = acc at *
                    go_wp2
                    refine bodyPost_ret (v := .tuple #[.string ⟨#[]⟩, .int .i64 15]) (by simp [results, Tryd.results10, go_sem]) rfl (Ret.mk (by rw [HR.out]) (by (repeat' (first | (with_reducible exact Below.refl _ _) | (with_reducible exact Nat.le_refl _) | (with_reducible refine Below.bel ?_ ?_) | (with_reducible refine Below.alloc ?_ ?_ _) | (with_reducible refine Below.drew ?_) | (with_reducible refine Below.drawsN ?_ _) | (with_reducible refine Below.setCell ?_ ?_ _) | (with_reducible refine le_bel ?_) | (with_reducible refine le_alloc ?_) | (with_reducible refine le_setCell ?_) | (with_reducible refine le_drew ?_) | (with_reducible refine le_drawsN ?_) | (dsimp only; with_reducible refine le_bel ?_) | (dsimp only; with_reducible refine Nat.le_refl _) | (dsimp only; with_reducible refine le_bel_add ?_) | (with_reducible assumption) | omega | (dsimp only; omega)))))
                  · have h1' : ((x1.toNat : Int) != 32) = true := bne_iff_ne.2 (fun h => h1 (UInt8.toNat_inj.1 (by show x1.toNat = 32; omega)))
                    by_cases h2 : x2 = 32
                    · subst h2
                      have HR := Lib.hid (HB.out (by rw [HK.out]; simp))
                      clear h1
                      generalize ((r).take (j + 1)).filter isD = acc at *
                      go_wp2
                      refine bodyPost_ret (v := .tuple #[.string ⟨#[]⟩, .int .i64 15]) (by simp [results, Tryd.results10, go_sem]) rfl (Ret.mk (by rw [HR.out]) (by (repeat' (first | (with_reducible exact Below.refl _ _) | (with_reducible exact Nat.le_refl _) | (with_reducible refine Below.bel ?_ ?_) | (with_reducible refine Below.alloc ?_ ?_ _) | (with_reducible refine Below.drew ?_) | (with_reducible refine Below.drawsN ?_ _) | (with_reducible refine Below.setCell ?_ ?_ _) | (with_reducible refine le_bel ?_) | (with_reducible refine le_alloc ?_) | (with_reducible refine le_setCell ?_) | (with_reducible refine le_drew ?_) | (with_reducible refine le_drawsN ?_) | (dsimp only; with_reducible refine le_bel ?_) | (dsimp only; with_reducible refine Nat.le_refl _) | (dsimp only; with_reducible refine le_bel_add ?_) | (with_reducible assumption) | omega | (dsimp only; omega)))))
                    · have h2' : ((x2.toNat : Int) != 32) = true := bne_iff_ne.2 (fun h => h2 (UInt8.toNat_inj.1 (by show x2.toNat = 32; omega)))
                      have HNX := Lib.hid (okR_next HA.out (show okR r (j + 1) = true by rw [HK.out, bne_iff_ne.2 h1, bne_iff_ne.2 h2]; rfl))
                      clear h1 h2
                      have HFF := HF.out
                      generalize ((r).take (j + 1)).filter isD = acc at *
                      have HF2 := Lib.hid HFF
                      clear HFF HF
                      go_wp2
                      go_roundw
                      case rel => exact ⟨j + 1 + 1, by omega, by go_num, HNX.out, by rw [HF2.out], by (repeat' (first | (with_reducible exact Below.refl _ _) | (with_reducible exact Nat.le_refl _) | (with_reducible refine Below.bel ?_ ?_) | (with_reducible refine Below.alloc ?_ ?_ _) | (with_reducible refine Below.drew ?_) | (with_reducible refine Below.drawsN ?_ _) | (with_reducible refine Below.setCell ?_ ?_ _) | (with_reducible refine le_bel ?_) | (with_reducible refine le_alloc ?_) | (with_reducible refine le_setCell ?_) | (with_reducible refine le_drew ?_) | (with_reducible refine le_drawsN ?_) | (dsimp only; with_reducible refine le_bel ?_) | (dsimp only; with_reducible refine Nat.le_refl _) | (dsimp only; with_reducible refine le_bel_add ?_) | (with_reducible assumption) | omega | (dsimp only; omega)))⟩
                      case measure => simp [intOf]; omega
            · have HR := Lib.hid (HB.out (by rw [HOKF.out, beq_eq_false_iff_ne.2 h32]; rfl))
              have h32' : ((q.toNat : Int) == 32) = false := beq_eq_false_iff_ne.2 (fun h => h32 (UInt8.toNat_inj.1 (by show q.toNat = 32; omega)))
              by_cases h48 : q.toNat < 48
              · have e1 : decide ((q.toNat : Int) < 48) = true := decide_eq_true (by omega)
                clear h32 h48 hD htk hq
                generalize ((r).take k).filter isD = acc at *
                go_wp2
                refine bodyPost_ret (v := .tuple #[.string ⟨#[]⟩, .int .i64 15]) (by simp [results, Tryd.results10, go_sem]) rfl (Ret.mk (by rw [HR.out]) (by (repeat' (first | (with_reducible exact Below.refl _ _) | (with_reducible exact Nat.le_refl _) | (with_reducible refine Below.bel ?_ ?_) | (with_reducible refine Below.alloc ?_ ?_ _) | (with_reducible refine Below.drew ?_) | (with_reducible refine Below.drawsN ?_ _) | (with_reducible refine Below.setCell ?_ ?_ _) | (with_reducible refine le_bel ?_) | (with_reducible refine le_alloc ?_) | (with_reducible refine le_setCell ?_) | (with_reducible refine le_drew ?_) | (with_reducible refine le_drawsN ?_) | (dsimp only; with_reducible refine le_bel ?_) | (dsimp only; with_reducible refine Nat.le_refl _) | (dsimp only; with_reducible refine le_bel_add ?_) | (with_reducible assumption) | omega | (dsimp only; omega)))))
              · have e1 : decide ((q.toNat : Int) < 48) = false := decide_eq_false (by omega)
                have e2 : decide ((57 : Int) < (q.toNat : Int)) = true := decide_eq_true (by
                  unfold isD at hD
                  simp at hD
                  omega)
                clear h32 h48 hD htk hq
                generalize ((r).take k).filter isD = acc at *
                go_wp2
                refine bodyPost_ret (v := .tuple #[.string ⟨#[]⟩, .int .i64 15]) (by simp [results, Tryd.results10, go_sem]) rfl (Ret.mk (by rw [HR.out]) (by (repeat' (first | (with_reducible exact Below.refl _ _) | (with_reducible exact Nat.le_refl _) | (with_reducible refine Below.bel ?_ ?_) | (with_reducible refine Below.alloc ?_ ?_ _) | (with_reducible refine Below.drew ?_) | (with_reducible refine Below.drawsN ?_ _) | (with_reducible refine Below.setCell ?_ ?_ _) | (with_reducible refine le_bel ?_) | (with_reducible refine le_alloc ?_) | (with_reducible refine le_setCell ?_) | (with_reducible refine le_drew ?_) | (with_reducible refine le_drawsN ?_) | (dsimp only; with_reducible refine le_bel ?_) | (dsimp only; with_reducible refine Nat.le_refl _) | (dsimp only; with_reducible refine le_bel_add ?_) | (with_reducible assumption) | omega | (dsimp only; omega)))))
          · have HNX := Lib.hid (okR_next HA.out (show okR r k = true by unfold okR; rw [hq, hD]; rfl))
            have hqq : 48 ≤ q.toNat ∧ q.toNat ≤ 57 := by
              unfold isD at hD
              simpa using hD
            have e0 : ((q.toNat : Int) == 32) = false := beq_eq_false_iff_ne.2 (by omega)
            have e1 : decide ((q.toNat : Int) < 48) = false := decide_eq_false (by omega)
            have e2 : decide ((57 : Int) < (q.toNat : Int)) = false := decide_eq_false (by omega)
            have hFF : ((r).take (k + 1)).filter isD = ((r).take k).filter isD ++ [q] := by rw [htk, List.filter_append]; simp [hD]
            have b1 := bytes_app (((r).take k).filter isD) [q]
            have l1 : (9223372036854775807 < (((r).take k).filter isD).length + 1) = False := eq_false (by omega)
            generalize ((r).take k).filter isD = acc at *
            have HF := Lib.hid hFF
            clear hD htk hq hqq hFF
            go_wp2
            go_roundw
            case rel => exact ⟨k + 1, by omega, by go_num, HNX.out, by rw [HF.out], by (repeat' (first | (with_reducible exact Below.refl _ _) | (with_reducible exact Nat.le_refl _) | (with_reducible refine Below.bel ?_ ?_) | (with_reducible refine Below.alloc ?_ ?_ _) | (with_reducible refine Below.drew ?_) | (with_reducible refine Below.drawsN ?_ _) | (with_reducible refine Below.setCell ?_ ?_ _) | (with_reducible refine le_bel ?_) | (with_reducible refine le_alloc ?_) | (with_reducible refine le_setCell ?_) | (with_reducible refine le_drew ?_) | (with_reducible refine le_drawsN ?_) | (dsimp only; with_reducible refine le_bel ?_) | (dsimp only; with_reducible refine Nat.le_refl _) | (dsimp only; with_reducible refine le_bel_add ?_) | (with_reducible assumption) | omega | (dsimp only; omega)))⟩
            case measure => simp [intOf]; omega
        · obtain rfl : k = (r).length := by omega
          rw [List.take_length]
          have hR0 : parI (43 :: r) = parD false (some ((r).filter isD)) := by rw [HP.out, HOK.out hall]
          have hfl : ((r).filter isD).length ≤ r.length := List.length_filter_le _ _
          clear hall
          generalize (r).filter isD = acc at *
          cases acc with
          | nil =>
            have HR := Lib.hid (show parI (43 :: r) = ([], 15) from hR0)
            clear hR0
            go_wp2
            refine bodyPost_ret (v := .tuple #[.string ⟨#[]⟩, .int .i64 15]) (by simp [results, Tryd.results10, go_sem]) rfl (Ret.mk (by rw [HR.out]) (by (repeat' (first | (with_reducible exact Below.refl _ _) | (with_reducible exact Nat.le_refl _) | (with_reducible refine Below.bel ?_ ?_) | (with_reducible refine Below.alloc ?_ ?_ _) | (with_reducible refine Below.drew ?_) | (with_reducible refine Below.drawsN ?_ _) | (with_reducible refine Below.setCell ?_ ?_ _) | (with_reducible refine le_bel ?_) | (with_reducible refine le_alloc ?_) | (with_reducible refine le_setCell ?_) | (with_reducible refine le_drew ?_) | (with_reducible refine le_drawsN ?_) | (dsimp only; with_reducible refine le_bel ?_) | (dsimp only; with_reducible refine Nat.le_refl _) | (dsimp only; with_reducible refine le_bel_add ?_) | (with_reducible assumption) | omega | (dsimp only; omega)))))
          | cons a ac =>
            have hX := hR0.trans (parD_rp false a ac)
            have HX0 := Lib.hid hX
            have hal : ac.length + 1 ≤ 100001 := by simp at hfl; omega
            obtain ⟨al, hae⟩ : ∃ al, a :: ac = al := ⟨_, rfl⟩
            have hall : al.length = ac.length + 1 := by rw [← hae]; rfl
            have hane : al ≠ [] := by rw [← hae]; simp
            rw [hae] at HX0
            have HAE := Lib.hid hae
            clear hX hR0 hfl hae
            go_wp2
            rw [HAE.out]
            obtain ⟨wo, hwo⟩ : ∃ wo : World, wr = wo := ⟨_, rfl⟩
            rw [hwo] at hb hbs ⊢
            clear hwo
            go_loopw [6] (fun v wr => ∃ e : List UInt8, v = .string ⟨e.toArray⟩ ∧ e ≠ [] ∧ rp e = rp al ∧ e.length ≤ al.length ∧ Below w.heap.size w wr) (fun v _ => match v with | .string b => b.size | _ => 0)
            case atStart => exact ⟨al, rfl, hane, rfl, Nat.le_refl _, by (repeat' (first | (with_reducible exact Below.refl _ _) | (with_reducible exact Nat.le_refl _) | (with_reducible refine Below.bel ?_ ?_) | (with_reducible refine Below.alloc ?_ ?_ _) | (with_reducible refine Below.drew ?_) | (with_reducible refine Below.drawsN ?_ _) | (with_reducible refine Below.setCell ?_ ?_ _) | (with_reducible refine le_bel ?_) | (with_reducible refine le_alloc ?_) | (with_reducible refine le_setCell ?_) | (with_reducible refine le_drew ?_) | (with_reducible refine le_drawsN ?_) | (dsimp only; with_reducible refine le_bel ?_) | (dsimp only; with_reducible refine Nat.le_refl _) | (dsimp only; with_reducible refine le_bel_add ?_) | (with_reducible assumption) | omega | (dsimp only; omega)))⟩
            case round =>
              obtain ⟨e, rfl, he, hrp, hel, hb⟩ := hrel
              have hbs := hb.size
              cases e with
              | nil => exact absurd rfl he
              | cons d e =>
                by_cases h1 : e = []
                · subst h1
                  have hX : parI (43 :: r) = if 400 < [d].length then ([], 16) else if false = true ∧ [d] ≠ [48] then (45 :: [d], 0) else ([d], 0) := by
                    rw [HX0.out, ← hrp, rp_one]; try simp
                  clear hrp he HX0 hel
                  have h4 : ¬ 400 < [d].length := by simp
                  have HX := Lib.hid hX
                  have hxl : (([d]).length : Int) = (1 : Int) := by simp
                  have hxy : ([d]).length = 1 := by simp
                  clear hX
                  have h4' : decide ((400 : Int) < (1 : Int)) = false := decide_eq_false (by omega)
                  have l1 : (9223372036854775807 < 1 + [d].length) = False := eq_false (by omega)
                  have l2 : (9223372036854775807 < 1 + 1) = False := eq_false (by omega)
                  have b1 : (ByteArray.mk #[45]) ++ ⟨([d]).toArray⟩ = ⟨([45] ++ [d]).toArray⟩ := bytes_app [45] [d]
                  have HR := Lib.hid (show parI (43 :: r) = ([d], 0) by rw [HX.out, if_neg h4, if_neg (fun h => by cases h.1)])
                  clear h4 hxl hxy
                  go_wp2
                  refine bodyPost_ret (v := .tuple #[.string ⟨([d]).toArray⟩, .int .i64 0]) (by simp [results, Tryd.results10, go_sem]) rfl (Ret.mk (by rw [HR.out]) (by (repeat' (first | (with_reducible exact Below.refl _ _) | (with_reducible exact Nat.le_refl _) | (with_reducible refine Below.bel ?_ ?_) | (with_reducible refine Below.alloc ?_ ?_ _) | (with_reducible refine Below.drew ?_) | (with_reducible refine Below.drawsN ?_ _) | (with_reducible refine Below.setCell ?_ ?_ _) | (with_reducible refine le_bel ?_) | (with_reducible refine le_alloc ?_) | (with_reducible refine le_setCell ?_) | (with_reducible refine le_drew ?_) | (with_reducible refine le_drawsN ?_) | (dsimp only; with_reducible refine le_bel ?_) | (dsimp only; with_reducible refine Nat.le_refl _) | (dsimp only; with_reducible refine le_bel_add ?_) | (with_reducible assumption) | omega | (dsimp only; omega)))))
                · have hel1 : 0 < e.length := List.length_pos_iff.2 h1
                  have hel2 : e.length + 1 ≤ al.length := by simpa using hel
                  have hd1 : decide ((1 : Int) < ((e.length : Int) + 1)) = true := decide_eq_true (by omega)
                  have hbd : (ByteArray.mk (d :: e).toArray)[0]'(by show 0 < (d :: e).toArray.size; simp) = d := rfl
                  by_cases h48 : d = 48
                  · subst h48
                    have hxe : (ByteArray.mk (48 :: e).toArray).extract 1 (e.length + 1) = ⟨e.toArray⟩ := by
                      have := extract_drop (48 :: e) 1
                      rw [List.length_cons] at this
                      exact this
                    have HRP := Lib.hid (show rp e = rp al by rw [← hrp, rp_zero])
                    clear hrp he
                    go_wp2
                    go_roundw
                    case rel => exact ⟨e, rfl, h1, HRP.out, by omega, by (repeat' (first | (with_reducible exact Below.refl _ _) | (with_reducible exact Nat.le_refl _) | (with_reducible refine Below.bel ?_ ?_) | (with_reducible refine Below.alloc ?_ ?_ _) | (with_reducible refine Below.drew ?_) | (with_reducible refine Below.drawsN ?_ _) | (with_reducible refine Below.setCell ?_ ?_ _) | (with_reducible refine le_bel ?_) | (with_reducible refine le_alloc ?_) | (with_reducible refine le_setCell ?_) | (with_reducible refine le_drew ?_) | (with_reducible refine le_drawsN ?_) | (dsimp only; with_reducible refine le_bel ?_) | (dsimp only; with_reducible refine Nat.le_refl _) | (dsimp only; with_reducible refine le_bel_add ?_) | (with_reducible assumption) | omega | (dsimp only; omega)))⟩
                    case measure => show e.toArray.size < (48 :: e).toArray.size; simp
                  · have h48' : ((d.toNat : Int) == 48) = false := beq_eq_false_iff_ne.2 (fun h => h48 (UInt8.toNat_inj.1 (by show d.toNat = 48; omega)))
                    have hX : parI (43 :: r) = if 400 < (d :: e).length then ([], 16) else if false = true ∧ (d :: e) ≠ [48] then (45 :: (d :: e), 0) else ((d :: e), 0) := by
                      rw [HX0.out, ← hrp, rp_other h48]; try simp
                    clear hrp he HX0 hel h48
                    have HX := Lib.hid hX
                    have hxl : (((d :: e)).length : Int) = (((e.length:Int) + 1) : Int) := by simp
                    have hxy : ((d :: e)).length = (e.length + 1) := by simp
                    clear hX
                    by_cases h4 : 400 < (d :: e).length
                    · have h4' : decide ((400 : Int) < (((e.length:Int) + 1) : Int)) = true := decide_eq_true (by omega)
                      have HR := Lib.hid (show parI (43 :: r) = ([], 16) by rw [HX.out, if_pos h4])
                      clear h4 hxl hxy
                      go_wp2
                      refine bodyPost_ret (v := .tuple #[.string ⟨#[]⟩, .int .i64 16]) (by simp [results, Tryd.results10, go_sem]) rfl (Ret.mk (by rw [HR.out]) (by (repeat' (first | (with_reducible exact Below.refl _ _) | (with_reducible exact Nat.le_refl _) | (with_reducible refine Below.bel ?_ ?_) | (with_reducible refine Below.alloc ?_ ?_ _) | (with_reducible refine Below.drew ?_) | (with_reducible refine Below.drawsN ?_ _) | (with_reducible refine Below.setCell ?_ ?_ _) | (with_reducible refine le_bel ?_) | (with_reducible refine le_alloc ?_) | (with_reducible refine le_setCell ?_) | (with_reducible refine le_drew ?_) | (with_reducible refine le_drawsN ?_) | (dsimp only; with_reducible refine le_bel ?_) | (dsimp only; with_reducible refine Nat.le_refl _) | (dsimp only; with_reducible refine le_bel_add ?_) | (with_reducible assumption) | omega | (dsimp only; omega)))))
                    · have h4' : decide ((400 : Int) < (((e.length:Int) + 1) : Int)) = false := decide_eq_false (by omega)
                      have l1 : (9223372036854775807 < 1 + (d :: e).length) = False := eq_false (by omega)
                      have l2 : (9223372036854775807 < 1 + (e.length + 1)) = False := eq_false (by omega)
                      have b1 : (ByteArray.mk #[45]) ++ ⟨((d :: e)).toArray⟩ = ⟨([45] ++ (d :: e)).toArray⟩ := bytes_app [45] (d :: e)
                      have HR := Lib.hid (show parI (43 :: r) = ((d :: e), 0) by rw [HX.out, if_neg h4, if_neg (fun h => by cases h.1)])
                      clear h4 hxl hxy
                      go_wp2
                      refine bodyPost_ret (v := .tuple #[.string ⟨((d :: e)).toArray⟩, .int .i64 0]) (by simp [results, Tryd.results10, go_sem]) rfl (Ret.mk (by rw [HR.out]) (by (repeat' (first | (with_reducible exact Below.refl _ _) | (with_reducible exact Nat.le_refl _) | (with_reducible refine Below.bel ?_ ?_) | (with_reducible refine Below.alloc ?_ ?_ _) | (with_reducible refine Below.drew ?_) | (with_reducible refine Below.drawsN ?_ _) | (with_reducible refine Below.setCell ?_ ?_ _) | (with_reducible refine le_bel ?_) | (with_reducible refine le_alloc ?_) | (with_reducible refine le_setCell ?_) | (with_reducible refine le_drew ?_) | (with_reducible refine le_drawsN ?_) | (dsimp only; with_reducible refine le_bel ?_) | (dsimp only; with_reducible refine Nat.le_refl _) | (dsimp only; with_reducible refine le_bel_add ?_) | (with_reducible assumption) | omega | (dsimp only; omega)))))
    · have h43' : ((c.toNat : Int) == 43) = false := beq_eq_false_iff_ne.2 (fun h => h43 (UInt8.toNat_inj.1 (by show c.toNat = 43; omega)))
      have HP := Lib.hid (show parI (c :: r) = parD false (digS (c :: r)) by rw [parI]; exact (if_neg h45).trans (if_neg h43))
      have HOK := Lib.hid (fun h => @okR_ok (c :: r) h)
      have HBAD := Lib.hid (fun k hk h => @okR_bad (c :: r) k hk h)
      have HRB := Lib.hid (show ∀ k, k < ((c :: r)).length → okR (c :: r) k = false → parI (c :: r) = ([], 15) from fun k hk h => by rw [HP.out, HBAD.out k hk h]; rfl)
      go_enter Tryd.func10, Tryd.ntmps10
      go_wp2_with fail
      refine wp_region_bel (by kernel_rfl) (by kernel_rfl) ?_
      repeat (go_big_quiet_step (fail))
      refine wpQuiet_nil ?_
      rintro _ ⟨x0, rfl⟩
      have hx0 := x0.size_le
      go_wp2
      go_loopw [6, 7] (fun v i wr => ∃ k : Nat, k ≤ ((c :: r)).length ∧ i = .int .i64 (k : Int) ∧ (∀ j, j < k → okR (c :: r) j = true) ∧ v = .string ⟨((((c :: r)).take k).filter isD).toArray⟩ ∧ Below w.heap.size w wr) (fun v i _ => ((c :: r)).length - (intOf i).toNat)
      case atStart => exact ⟨0, by omega, rfl, fun j hj => by omega, rfl, by (repeat' (first | (with_reducible exact Below.refl _ _) | (with_reducible exact Nat.le_refl _) | (with_reducible refine Below.bel ?_ ?_) | (with_reducible refine Below.alloc ?_ ?_ _) | (with_reducible refine Below.drew ?_) | (with_reducible refine Below.drawsN ?_ _) | (with_reducible refine Below.setCell ?_ ?_ _) | (with_reducible refine le_bel ?_) | (with_reducible refine le_alloc ?_) | (with_reducible refine le_setCell ?_) | (with_reducible refine le_drew ?_) | (with_reducible refine le_drawsN ?_) | (dsimp only; with_reducible refine le_bel ?_) | (dsimp only; with_reducible refine Nat.le_refl _) | (dsimp only; with_reducible refine le_bel_add ?_) | (with_reducible assumption) | omega | (dsimp only; omega)))⟩
      case round =>
        obtain ⟨k, hk, rfl, hall, rfl, hb⟩ := hrel
        have hbs := hb.size
        by_cases hkl : k < ((c :: r)).length
        · have hki : (k : Int) < ((r.length+1) : Int) := by simp at hkl ⊢; omega
          have hkb : k < (ByteArray.mk ((c :: r)).toArray).size := by show k < ((c :: r)).toArray.size; simpa using hkl
          have hbk := getB (t := (c :: r)) hkl
          obtain ⟨q, hq⟩ : ∃ q, ((c :: r)).getD k 0 = q := ⟨_, rfl⟩
          have hqk : ((c :: r))[k]? = some q := by rw [List.getElem?_eq_getElem hkl, ← hq, List.getD_eq_getElem?_getD, List.getElem?_eq_getElem hkl]; rfl
          have htk : ((c :: r)).take (k + 1) = ((c :: r)).take k ++ [q] := by rw [List.take_add_one, hqk]; rfl
          have hx1 := extract_one hqk
          have HA := Lib.hid hall
          have hfl : ((((c :: r)).take k).filter isD).length ≤ k := Nat.le_trans (List.length_filter_le _ _) (by rw [List.length_take]; omega)
          have HB := Lib.hid (HRB.out k hkl)
          rw [hq] at hbk
          clear hall hqk
          cases hD : isD q
          · have HOKF := Lib.hid (show okR (c :: r) k = (q == 32 && decide (k ≠ 0) && decide (k + 1 ≠ ((c :: r)).length) && ((c :: r)).getD (k - 1) 0 != 32 && ((c :: r)).getD (k + 1) 0 != 32) by unfold okR; rw [hq, hD]; rfl)
            have HF := Lib.hid (show (((c :: r)).take (k + 1)).filter isD = (((c :: r)).take k).filter isD by rw [htk, List.filter_append]; simp [hD])
            by_cases h32 : q = 32
            · subst h32
              by_cases hk0 : k = 0
              · have HR := Lib.hid (HB.out (by rw [HOKF.out, decide_eq_false (by simp [hk0])]; simp))
                have hk0' : decide (0 < k) = false := decide_eq_false (by omega)
                have hk0n : (0 < k) = False := eq_false (by omega)
                clear hk0 hD htk hq
                generalize (((c :: r)).take k).filter isD = acc at *
                go_wp2
                refine bodyPost_ret (v := .tuple #[.string ⟨#[]⟩, .int .i64 15]) (by simp [results, Tryd.results10, go_sem]) rfl (Ret.mk (by rw [HR.out]) (by (repeat' (first | (with_reducible exact Below.refl _ _) | (with_reducible exact Nat.le_refl _) | (with_reducible refine Below.bel ?_ ?_) | (with_reducible refine Below.alloc ?_ ?_ _) | (with_reducible refine Below.drew ?_) | (with_reducible refine Below.drawsN ?_ _) | (with_reducible refine Below.setCell ?_ ?_ _) | (with_reducible refine le_bel ?_) | (with_reducible refine le_alloc ?_) | (with_reducible refine le_setCell ?_) | (with_reducible refine le_drew ?_) | (with_reducible refine le_drawsN ?_) | (dsimp only; with_reducible refine le_bel ?_) | (dsimp only; with_reducible refine Nat.le_refl _) | (dsimp only; with_reducible refine le_bel_add ?_) | (with_reducible assumption) | omega | (dsimp only; omega)))))
              · obtain ⟨j, rfl⟩ : ∃ j, k = j + 1 := ⟨k - 1, by omega⟩
                have hk0' : decide ((0 : Int) < ((j : Int) + 1)) = true := decide_eq_true (by omega)
                have hll : ((c :: r)).length = (r.length+1) := rfl
                clear hk0
                by_cases hlast : j + 1 + 1 = ((c :: r)).length
                · have HR := Lib.hid (HB.out (by rw [HOKF.out, decide_eq_false (p := j + 1 + 1 ≠ ((c :: r)).length) (by simpa using hlast)]; simp))
                  have hq1 : decide ((j : Int) + 1 + 1 < ((r.length+1) : Int)) = false := decide_eq_false (by omega)
                  clear hD htk hq
                  generalize (((c :: r)).take (j + 1)).filter isD = acc at *
                  go_wp2
                  refine bodyPost_ret (v := .tuple #[.string ⟨#[]⟩, .int .i64 15]) (by simp [results, Tryd.results10, go_sem]) rfl (Ret.mk (by rw [HR.out]) (by (repeat' (first | (with_reducible exact Below.refl _ _) | (with_reducible exact Nat.le_refl _) | (with_reducible refine Below.bel ?_ ?_) | (with_reducible refine Below.alloc ?_ ?_ _) | (with_reducible refine Below.drew ?_) | (with_reducible refine Below.drawsN ?_ _) | (with_reducible refine Below.setCell ?_ ?_ _) | (with_reducible refine le_bel ?_) | (with_reducible refine le_alloc ?_) | (with_reducible refine le_setCell ?_) | (with_reducible refine le_drew ?_) | (with_reducible refine le_drawsN ?_) | (dsimp only; with_reducible refine le_bel ?_) | (dsimp only; with_reducible refine Nat.le_refl _) | (dsimp only; with_reducible refine le_bel_add ?_) | (with_reducible assumption) | omega | (dsimp only; omega)))))
                · have hq1 : decide ((j : Int) + 1 + 1 < ((r.length+1) : Int)) = true := decide_eq_true (by omega)
                  have hj1 : j < ((c :: r)).length := by omega
                  have hj2 : j + 1 + 1 < ((c :: r)).length := by omega
                  have hb1 := getB (t := (c :: r)) hj1
                  have hb2 := getB (t := (c :: r)) hj2
                  have HK := Lib.hid (show okR (c :: r) (j + 1) = (((c :: r)).getD j 0 != 32 && ((c :: r)).getD (j + 1 + 1) 0 != 32) by rw [HOKF.out, decide_eq_true (by omega), decide_eq_true (p := j + 1 + 1 ≠ ((c :: r)).length) hlast]; simp)
                  obtain ⟨x1, hx1⟩ : ∃ x, ((c :: r)).getD j 0 = x := ⟨_, rfl⟩
                  obtain ⟨x2, hx2⟩ : ∃ x, ((c :: r)).getD (j + 1 + 1) 0 = x := ⟨_, rfl⟩
                  rw [hx1] at hb1 HK
                  rw [hx2] at hb2 HK
                  clear hx1 hx2 hD htk hq
                  by_cases h1 : x1 = 32
                  · subst h1
                    have HR := Lib.hid (HB.out (by rw [HK.out]; rfl))
                    generalize (((c :: r)).take (j + 1)).filter isD = acc at *
                    go_wp2
                    refine bodyPost_ret (v := .tuple #[.string ⟨#[]⟩, .int .i64 15]) (by simp [results, Tryd.results10, go_sem]) rfl (Ret.mk (by rw [HR.out]) (by (repeat' (first | (with_reducible exact Below.refl _ _) | (with_reducible exact Nat.le_refl _) | (with_reducible refine Below.bel ?_ ?_) | (with_reducible refine Below.alloc ?_ ?_ _) | (with_reducible refine Below.drew ?_) | (with_reducible refine Below.drawsN ?_ _) | (with_reducible refine Below.setCell ?_ ?_ _) | (with_reducible refine le_bel ?_) | (with_reducible refine le_alloc ?_) | (with_reducible refine le_setCell ?_) | (with_reducible refine le_drew ?_) | (with_reducible refine le_drawsN ?_) | (dsimp only; with_reducible refine le_bel ?_) | (dsimp only; with_reducible refine Nat.le_refl _) | (dsimp only; with_reducible refine le_bel_add ?_) | (with_reducible assumption) | omega | (dsimp only; omega)))))
                  · have h1' : ((x1.toNat : Int) != 32) = true := bne_iff_ne.2 (fun h => h1 (UInt8.toNat_inj.1 (by show x1.toNat = 32; omega)))
                    by_cases h2 : x2 = 32
                    · subst h2
                      have HR := Lib.hid (HB.out (by rw [HK.out]; simp))
                      clear h1
                      generalize (((c :: r)).take (j + 1)).filter isD = acc at *
                      go_wp2
                      refine bodyPost_ret (v := .tuple #[.string ⟨#[]⟩, .int .i64 15]) (by simp [results, Tryd.results10, go_sem]) rfl (Ret.mk (by rw [HR.out]) (by (repeat' (first | (with_reducible exact Below.refl _ _) | (with_reducible exact Nat.le_refl _) | (with_reducible refine Below.bel ?_ ?_) | (with_reducible refine Below.alloc ?_ ?_ _) | (with_reducible refine Below.drew ?_) | (with_reducible refine Below.drawsN ?_ _) | (with_reducible refine Below.setCell ?_ ?_ _) | (with_reducible refine le_bel ?_) | (with_reducible refine le_alloc ?_) | (with_reducible refine le_setCell ?_) | (with_reducible refine le_drew ?_) | (with_reducible refine le_drawsN ?_) | (dsimp only; with_reducible refine le_bel ?_) | (dsimp only; with_reducible refine Nat.le_refl _) | (dsimp only; with_reducible refine le_bel_add ?_) | (with_reducible assumption) | omega | (dsimp only; omega)))))
                    · have h2' : ((x2.toNat : Int) != 32) = true := bne_iff_ne.2 (fun h => h2 (UInt8.toNat_inj.1 (by show x2.toNat = 32; omega)))
                      have HNX := Lib.hid (okR_next HA.out (show okR (c :: r) (j + 1) = true by rw [HK.out, bne_iff_ne.2 h1, bne_iff_ne.2 h2]; rfl))
                      clear h1 h2
                      have HFF := HF.out
                      generalize (((c :: r)).take (j + 1)).filter isD = acc at *
                      have HF2 := Lib.hid HFF
                      clear HFF HF
                      go_wp2
                      go_roundw
                      case rel => exact ⟨j + 1 + 1, by omega, by go_num, HNX.out, by rw [HF2.out], by (repeat' (first | (with_reducible exact Below.refl _ _) | (with_reducible exact Nat.le_refl _) | (with_reducible refine Below.bel ?_ ?_) | (with_reducible refine Below.alloc ?_ ?_ _) | (with_reducible refine Below.drew ?_) | (with_reducible refine Below.drawsN ?_ _) | (with_reducible refine Below.setCell ?_ ?_ _) | (with_reducible refine le_bel ?_) | (with_reducible refine le_alloc ?_) | (with_reducible refine le_setCell ?_) | (with_reducible refine le_drew ?_) | (with_reducible refine le_drawsN ?_) | (dsimp only; with_reducible refine le_bel ?_) | (dsimp only; with_reducible refine Nat.le_refl _) | (dsimp only; with_reducible refine le_bel_add ?_) | (with_reducible assumption) | omega | (dsimp only; omega)))⟩
                      case measure => simp [intOf]; omega
            · have HR := Lib.hid (HB.out (by rw [HOKF.out, beq_eq_false_iff_ne.2 h32]; rfl))
              have h32' : ((q.toNat : Int) == 32) = false := beq_eq_false_iff_ne.2 (fun h => h32 (UInt8.toNat_inj.1 (by show q.toNat = 32; omega)))
              by_cases h48 : q.toNat < 48
              · have e1 : decide ((q.toNat : Int) < 48) = true := decide_eq_true (by omega)
                clear h32 h48 hD htk hq
                generalize (((c :: r)).take k).filter isD = acc at *
                go_wp2
                refine bodyPost_ret (v := .tuple #[.string ⟨#[]⟩, .int .i64 15]) (by simp [results, Tryd.results10, go_sem]) rfl (Ret.mk (by rw [HR.out]) (by (repeat' (first | (with_reducible exact Below.refl _ _) | (with_reducible exact Nat.le_refl _) | (with_reducible refine Below.bel ?_ ?_) | (with_reducible refine Below.alloc ?_ ?_ _) | (with_reducible refine Below.drew ?_) | (with_reducible refine Below.drawsN ?_ _) | (with_reducible refine Below.setCell ?_ ?_ _) | (with_reducible refine le_bel ?_) | (with_reducible refine le_alloc ?_) | (with_reducible refine le_setCell ?_) | (with_reducible refine le_drew ?_) | (with_reducible refine le_drawsN ?_) | (dsimp only; with_reducible refine le_bel ?_) | (dsimp only; with_reducible refine Nat.le_refl _) | (dsimp only; with_reducible refine le_bel_add ?_) | (with_reducible assumption) | omega | (dsimp only; omega)))))
              · have e1 : decide ((q.toNat : Int) < 48) = false := decide_eq_false (by omega)
                have e2 : decide ((57 : Int) < (q.toNat : Int)) = true := decide_eq_true (by
                  unfold isD at hD
                  simp at hD
                  omega)
                clear h32 h48 hD htk hq
                generalize (((c :: r)).take k).filter isD = acc at *
                go_wp2
                refine bodyPost_ret (v := .tuple #[.string ⟨#[]⟩, .int .i64 15]) (by simp [results, Tryd.results10, go_sem]) rfl (Ret.mk (by rw [HR.out]) (by (repeat' (first | (with_reducible exact Below.refl _ _) | (with_reducible exact Nat.le_refl _) | (with_reducible refine Below.bel ?_ ?_) | (with_reducible refine Below.alloc ?_ ?_ _) | (with_reducible refine Below.drew ?_) | (with_reducible refine Below.drawsN ?_ _) | (with_reducible refine Below.setCell ?_ ?_ _) | (with_reducible refine le_bel ?_) | (with_reducible refine le_alloc ?_) | (with_reducible refine le_setCell ?_) | (with_reducible refine le_drew ?_) | (with_reducible refine le_drawsN ?_) | (dsimp only; with_reducible refine le_bel ?_) | (dsimp only; with_reducible refine Nat.le_refl _) | (dsimp only; with_reducible refine le_bel_add ?_) | (with_reducible assumption) | omega | (dsimp only; omega)))))
          · have HNX := Lib.hid (okR_next HA.out (show okR (c :: r) k = true by unfold okR; rw [hq, hD]; rfl))
            have hqq : 48 ≤ q.toNat ∧ q.toNat ≤ 57 := by
              unfold isD at hD
              simpa using hD
            have e0 : ((q.toNat : Int) == 32) = false := beq_eq_false_iff_ne.2 (by omega)
            have e1 : decide ((q.toNat : Int) < 48) = false := decide_eq_false (by omega)
            have e2 : decide ((57 : Int) < (q.toNat : Int)) = false := decide_eq_false (by omega)
            have hFF : (((c :: r)).take (k + 1)).filter isD = (((c :: r)).take k).filter isD ++ [q] := by rw [htk, List.filter_append]; simp [hD]
            have b1 := bytes_app ((((c :: r)).take k).filter isD) [q]
            have l1 : (9223372036854775807 < ((((c :: r)).take k).filter isD).length + 1) = False := eq_false (by omega)
            generalize (((c :: r)).take k).filter isD = acc at *
            have HF := Lib.hid hFF
            clear hD htk hq hqq hFF
            go_wp2
            go_roundw
            case rel => exact ⟨k + 1, by omega, by go_num, HNX.out, by rw [HF.out], by (repeat' (first | (with_reducible exact Below.refl _ _) | (with_reducible exact Nat.le_refl _) | (with_reducible refine Below.bel ?_ ?_) | (with_reducible refine Below.alloc ?_ ?_ _) | (with_reducible refine Below.drew ?_) | (with_reducible refine Below.drawsN ?_ _) | (with_reducible refine Below.setCell ?_ ?_ _) | (with_reducible refine le_bel ?_) | (with_reducible refine le_alloc ?_) | (with_reducible refine le_setCell ?_) | (with_reducible refine le_drew ?_) | (with_reducible refine le_drawsN ?_) | (dsimp only; with_reducible refine le_bel ?_) | (dsimp only; with_reducible refine Nat.le_refl _) | (dsimp only; with_reducible refine le_bel_add ?_) | (with_reducible assumption) | omega | (dsimp only; omega)))⟩
            case measure => simp [intOf]; omega
        · obtain rfl : k = ((c :: r)).length := by omega
          rw [List.take_length]
          have hR0 : parI (c :: r) = parD false (some (((c :: r)).filter isD)) := by rw [HP.out, HOK.out hall]
          have hfl : (((c :: r)).filter isD).length ≤ (r.length+1) := List.length_filter_le _ _
          clear hall
          generalize ((c :: r)).filter isD = acc at *
          cases acc with
          | nil =>
            have HR := Lib.hid (show parI (c :: r) = ([], 15) from hR0)
            clear hR0
            go_wp2
            refine bodyPost_ret (v := .tuple #[.string ⟨#[]⟩, .int .i64 15]) (by simp [results, Tryd.results10, go_sem]) rfl (Ret.mk (by rw [HR.out]) (by (repeat' (first | (with_reducible exact Below.refl _ _) | (with_reducible exact Nat.le_refl _) | (with_reducible refine Below.bel ?_ ?_) | (with_reducible refine Below.alloc ?_ ?_ _) | (with_reducible refine Below.drew ?_) | (with_reducible refine Below.drawsN ?_ _) | (with_reducible refine Below.setCell ?_ ?_ _) | (with_reducible refine le_bel ?_) | (with_reducible refine le_alloc ?_) | (with_reducible refine le_setCell ?_) | (with_reducible refine le_drew ?_) | (with_reducible refine le_drawsN ?_) | (dsimp only; with_reducible refine le_bel ?_) | (dsimp only; with_reducible refine Nat.le_refl _) | (dsimp only; with_reducible refine le_bel_add ?_) | (with_reducible assumption) | omega | (dsimp only; omega)))))
          | cons a ac =>
            have hX := hR0.trans (parD_rp false a ac)
            have HX0 := Lib.hid hX
            have hal : ac.length + 1 ≤ 100001 := by simp at hfl; omega
            obtain ⟨al, hae⟩ : ∃ al, a :: ac = al := ⟨_, rfl⟩
            have hall : al.length = ac.length + 1 := by rw [← hae]; rfl
            have hane : al ≠ [] := by rw [← hae]; simp
            rw [hae] at HX0
            have HAE := Lib.hid hae
            clear hX hR0 hfl hae
            go_wp2
            rw [HAE.out]
            obtain ⟨wo, hwo⟩ : ∃ wo : World, wr = wo := ⟨_, rfl⟩
            rw [hwo] at hb hbs ⊢
            clear hwo
            go_loopw [6] (fun v wr => ∃ e : List UInt8, v = .string ⟨e.toArray⟩ ∧ e ≠ [] ∧ rp e = rp al ∧ e.length ≤ al.length ∧ Below w.heap.size w wr) (fun v _ => match v with | .string b => b.size | _ => 0)
            case atStart => exact ⟨al, rfl, hane, rfl, Nat.le_refl _, by (repeat' (first | (with_reducible exact Below.refl _ _) | (with_reducible exact Nat.le_refl _) | (with_reducible refine Below.bel ?_ ?_) | (with_reducible refine Below.alloc ?_ ?_ _) | (with_reducible refine Below.drew ?_) | (with_reducible refine Below.drawsN ?_ _) | (with_reducible refine Below.setCell ?_ ?_ _) | (with_reducible refine le_bel ?_) | (with_reducible refine le_alloc ?_) | (with_reducible refine le_setCell ?_) | (with_reducible refine le_drew ?_) | (with_reducible refine le_drawsN ?_) | (dsimp only; with_reducible refine le_bel ?_) | (dsimp only; with_reducible refine Nat.le_refl _) | (dsimp only; with_reducible refine le_bel_add ?_) | (with_reducible assumption) | omega | (dsimp only; omega)))⟩
            case round =>
              obtain ⟨e, rfl, he, hrp, hel, hb⟩ := hrel
              have hbs := hb.size
              cases e with
              | nil => exact absurd rfl he
              | cons d e =>
                by_cases h1 : e = []
                · subst h1
                  have hX : parI (c :: r) = if 400 < [d].length then ([], 16) else if false = true ∧ [d] ≠ [48] then (45 :: [d], 0) else ([d], 0) := by
                    rw [HX0.out, ← hrp, rp_one]; try simp
                  clear hrp he HX0 hel
                  have h4 : ¬ 400 < [d].length := by simp
                  have HX := Lib.hid hX
                  have hxl : (([d]).length : Int) = (1 : Int) := by simp
                  have hxy : ([d]).length = 1 := by simp
                  clear hX
                  have h4' : decide ((400 : Int) < (1 : Int)) = false := decide_eq_false (by omega)
                  have l1 : (9223372036854775807 < 1 + [d].length) = False := eq_false (by omega)
                  have l2 : (9223372036854775807 < 1 + 1) = False := eq_false (by omega)
                  have b1 : (ByteArray.mk #[45]) ++ ⟨([d]).toArray⟩ = ⟨([45] ++ [d]).toArray⟩ := bytes_app [45] [d]
                  have HR := Lib.hid (show parI (c :: r) = ([d], 0) by rw [HX.out, if_neg h4, if_neg (fun h => by cases h.1)])
                  clear h4 hxl hxy
                  go_wp2
                  refine bodyPost_ret (v := .tuple #[.string ⟨([d]).toArray⟩, .int .i64 0]) (by simp [results, Tryd.results10, go_sem]) rfl (Ret.mk (by rw [HR.out]) (by (repeat' (first | (with_reducible exact Below.refl _ _) | (with_reducible exact Nat.le_refl _) | (with_reducible refine Below.bel ?_ ?_) | (with_reducible refine Below.alloc ?_ ?_ _) | (with_reducible refine Below.drew ?_) | (with_reducible refine Below.drawsN ?_ _) | (with_reducible refine Below.setCell ?_ ?_ _) | (with_reducible refine le_bel ?_) | (with_reducible refine le_alloc ?_) | (with_reducible refine le_setCell ?_) | (with_reducible refine le_drew ?_) | (with_reducible refine le_drawsN ?_) | (dsimp only; with_reducible refine le_bel ?_) | (dsimp only; with_reducible refine Nat.le_refl _) | (dsimp only; with_reducible refine le_bel_add ?_) | (with_reducible assumption) | omega | (dsimp only; omega)))))
                · have hel1 : 0 < e.length := List.length_pos_iff.2 h1
                  have hel2 : e.length + 1 ≤ al.length := by simpa using hel
                  have hd1 : decide ((1 : Int) < ((e.length : Int) + 1)) = true := decide_eq_true (by omega)
                  have hbd : (ByteArray.mk (d :: e).toArray)[0]'(by show 0 < (d :: e).toArray.size; simp) = d := rfl
                  by_cases h48 : d = 48
                  · subst h48
                    have hxe : (ByteArray.mk (48 :: e).toArray).extract 1 (e.length + 1) = ⟨e.toArray⟩ := by
                      have := extract_drop (48 :: e) 1
                      rw [List.length_cons] at this
                      exact this
                    have HRP := Lib.hid (show rp e = rp al by rw [← hrp, rp_zero])
                    clear hrp he
                    go_wp2
                    go_roundw
                    case rel => exact ⟨e, rfl, h1, HRP.out, by omega, by (repeat' (first | (with_reducible exact Below.refl _ _) | (with_reducible exact Nat.le_refl _) | (with_reducible refine Below.bel ?_ ?_) | (with_reducible refine Below.alloc ?_ ?_ _) | (with_reducible refine Below.drew ?_) | (with_reducible refine Below.drawsN ?_ _) | (with_reducible refine Below.setCell ?_ ?_ _) | (with_reducible refine le_bel ?_) | (with_reducible refine le_alloc ?_) | (with_reducible refine le_setCell ?_) | (with_reducible refine le_drew ?_) | (with_reducible refine le_drawsN ?_) | (dsimp only; with_reducible refine le_bel ?_) | (dsimp only; with_reducible refine Nat.le_refl _) | (dsimp only; with_reducible refine le_bel_add ?_) | (with_reducible assumption) | omega | (dsimp only; omega)))⟩
                    case measure => show e.toArray.size < (48 :: e).toArray.size; simp
                  · have h48' : ((d.toNat : Int) == 48) = false := beq_eq_false_iff_ne.2 (fun h => h48 (UInt8.toNat_inj.1 (by show d.toNat = 48; omega)))
                    have hX : parI (c :: r) = if 400 < (d :: e).length then ([], 16) else if false = true ∧ (d :: e) ≠ [48] then (45 :: (d :: e), 0) else ((d :: e), 0) := by
                      rw [HX0.out, ← hrp, rp_other h48]; try simp
                    clear hrp he HX0 hel h48
                    have HX := Lib.hid hX
                    have hxl : (((d :: e)).length : Int) = (((e.length:Int) + 1) : Int) := by simp
                    have hxy : ((d :: e)).length = (e.length + 1) := by simp
                    clear hX
                    by_cases h4 : 400 < (d :: e).length
                    · have h4' : decide ((400 : Int) < (((e.length:Int) + 1) : Int)) = true := decide_eq_true (by omega)
                      have HR := Lib.hid (show parI (c :: r) = ([], 16) by rw [HX.out, if_pos h4])
                      clear h4 hxl hxy
                      go_wp2
                      refine bodyPost_ret (v := .tuple #[.string ⟨#[]⟩, .int .i64 16]) (by simp [results, Tryd.results10, go_sem]) rfl (Ret.mk (by rw [HR.out]) (by (repeat' (first | (with_reducible exact Below.refl _ _) | (with_reducible exact Nat.le_refl _) | (with_reducible refine Below.bel ?_ ?_) | (with_reducible refine Below.alloc ?_ ?_ _) | (with_reducible refine Below.drew ?_) | (with_reducible refine Below.drawsN ?_ _) | (with_reducible refine Below.setCell ?_ ?_ _) | (with_reducible refine le_bel ?_) | (with_reducible refine le_alloc ?_) | (with_reducible refine le_setCell ?_) | (with_reducible refine le_drew ?_) | (with_reducible refine le_drawsN ?_) | (dsimp only; with_reducible refine le_bel ?_) | (dsimp only; with_reducible refine Nat.le_refl _) | (dsimp only; with_reducible refine le_bel_add ?_) | (with_reducible assumption) | omega | (dsimp only; omega)))))
                    · have h4' : decide ((400 : Int) < (((e.length:Int) + 1) : Int)) = false := decide_eq_false (by omega)
                      have l1 : (9223372036854775807 < 1 + (d :: e).length) = False := eq_false (by omega)
                      have l2 : (9223372036854775807 < 1 + (e.length + 1)) = False := eq_false (by omega)
                      have b1 : (ByteArray.mk #[45]) ++ ⟨((d :: e)).toArray⟩ = ⟨([45] ++ (d :: e)).toArray⟩ := bytes_app [45] (d :: e)
                      have HR := Lib.hid (show parI (c :: r) = ((d :: e), 0) by rw [HX.out, if_neg h4, if_neg (fun h => by cases h.1)])
                      clear h4 hxl hxy
                      go_wp2
                      refine bodyPost_ret (v := .tuple #[.string ⟨((d :: e)).toArray⟩, .int .i64 0]) (by simp [results, Tryd.results10, go_sem]) rfl (Ret.mk (by rw [HR.out]) (by (repeat' (first | (with_reducible exact Below.refl _ _) | (with_reducible exact Nat.le_refl _) | (with_reducible refine Below.bel ?_ ?_) | (with_reducible refine Below.alloc ?_ ?_ _) | (with_reducible refine Below.drew ?_) | (with_reducible refine Below.drawsN ?_ _) | (with_reducible refine Below.setCell ?_ ?_ _) | (with_reducible refine le_bel ?_) | (with_reducible refine le_alloc ?_) | (with_reducible refine le_setCell ?_) | (with_reducible refine le_drew ?_) | (with_reducible refine le_drawsN ?_) | (dsimp only; with_reducible refine le_bel ?_) | (dsimp only; with_reducible refine Nat.le_refl _) | (dsimp only; with_reducible refine le_bel_add ?_) | (with_reducible assumption) | omega | (dsimp only; omega)))))
end Go.Proofs.YteglfhmmkoahfaaDoor
