/- The reference's Parse. -/
import Derived.Test.YtoncbkkhfblpdaaDoorO3
namespace Go.Proofs.YtoncbkkhfblpdaaDoor
open Go.RowKit
attribute [local go_sem low] Bel.cell Bel.frozen alloc_cell alloc_frozen

theorem quoV_nil {t : List UInt8} (h : nd t ≠ 0) (hr : t.drop (nd t) = []) : quoV t = (0, 0, false) := by unfold quoV; rw [if_neg h, hr]
theorem quoV_other {t u : List UInt8} {d : UInt8} (h : nd t ≠ 0) (hr : t.drop (nd t) = d :: u) (hd : d.toNat ≠ 47) : quoV t = (0, 0, false) := by
  unfold quoV; rw [if_neg h, hr]; dsimp only; rw [if_neg hd]
theorem quoV_none {t u : List UInt8} {d : UInt8} (h : nd t ≠ 0) (hr : t.drop (nd t) = d :: u) (hd : d.toNat = 47) (hu : nd u = 0) : quoV t = (num t, num u, false) := by
  unfold quoV; rw [if_neg h, hr]; dsimp only; rw [if_pos hd, hu]; rfl
theorem quoV_long {t u : List UInt8} {d : UInt8} (h : nd t ≠ 0) (hr : t.drop (nd t) = d :: u) (hd : d.toNat = 47) (hu : nd u ≠ u.length) : quoV t = (num t, num u, false) := by
  have hl := nd_le u
  have h1 : u.drop (nd u) ≠ [] := by intro h; rw [List.drop_eq_nil_iff] at h; omega
  unfold quoV; rw [if_neg h, hr]; dsimp only; rw [if_pos hd, show (u.drop (nd u)).isEmpty = false by rw [List.isEmpty_eq_false_iff]; exact h1, Bool.and_false]
theorem quoV_full {t u : List UInt8} {d : UInt8} (h : nd t ≠ 0) (hr : t.drop (nd t) = d :: u) (hd : d.toNat = 47) (hu : nd u = u.length) (hz : nd u ≠ 0) : quoV t = (num t, num u, true) := by
  have h1 : u.drop (nd u) = [] := by rw [List.drop_eq_nil_iff]; omega
  unfold quoV; rw [if_neg h, hr]; dsimp only; rw [if_pos hd, h1, decide_eq_true (by omega : 0 < nd u)]; rfl

set_option maxRecDepth 20000 in
set_option maxHeartbeats 6400000 in
theorem refparse_any (l : List UInt8) (w : World) (hl : l.length ≤ 60) :
    Calls Tryd.prog 28 #[.string ⟨l.toArray⟩] w (Ret (.tuple #[.agg #[.int .i64 (parseL l).1, .int .i64 (parseL l).2.1], .int .i64 (parseL l).2.2]) w) := by
  cases hc0 : l with
  | nil =>
    go_enter Tryd.func28, Tryd.ntmps28
    go_wp2
    refine bodyPost_ret (v := .tuple #[.agg #[.int .i64 0, .int .i64 0], .int .i64 13]) (by simp [results, Tryd.results28, go_sem]) rfl (Ret.mk (by exact ret_triple (p := parseL []) rfl) (by (repeat' (first | (with_reducible exact Below.refl _ _) | (with_reducible exact Nat.le_refl _) | (with_reducible refine Below.bel ?_ ?_) | (with_reducible refine Below.alloc ?_ ?_ _) | (with_reducible refine Below.drew ?_) | (with_reducible refine Below.drawsN ?_ _) | (with_reducible refine Below.setCell ?_ ?_ _) | (with_reducible refine le_bel ?_) | (with_reducible refine le_alloc ?_) | (with_reducible refine le_setCell ?_) | (with_reducible refine le_drew ?_) | (with_reducible refine le_drawsN ?_) | (dsimp only; with_reducible refine le_bel ?_) | (dsimp only; with_reducible refine Nat.le_refl _) | (dsimp only; with_reducible refine le_bel_add ?_) | (with_reducible assumption) | omega | (dsimp only; omega)))))
  | cons c0 t0 =>
    rw [← hc0]
    have lx := fun h => byte_at (l := l) (k := 0) (c := c0) (by rw [hc0]; rfl) h
    have ln : l.length = t0.length + 1 := by rw [hc0]; rfl
    have ls : (ByteArray.mk l.toArray).extract 1 (t0.length + 1) = ⟨t0.toArray⟩ := by rw [← ln, extract_drop, hc0]; rfl
    have le : ((ByteArray.mk l.toArray).toList == ([] : List UInt8)) = false := by rw [hc0]; exact ba_ne c0 t0
    have lf : (l == ([] : List UInt8)) = false := by rw [hc0]; rfl
    have lg : l ≠ [] := by rw [hc0]; simp
    have c08 := UInt8.toNat_lt c0
    by_cases h40 : 40 < l.length
    · have E0 := Lib.hid (show parseL l = (0, 0, 16) by rw [hc0] at h40 ⊢; unfold parseL; dsimp only; rw [if_pos h40])
      clear hc0
      go_enter Tryd.func28, Tryd.ntmps28
      go_wp2
      refine bodyPost_ret (v := .tuple #[.agg #[.int .i64 0, .int .i64 0], .int .i64 16]) (by simp [results, Tryd.results28, go_sem]) rfl (Ret.mk (by exact ret_triple E0.out) (by (repeat' (first | (with_reducible exact Below.refl _ _) | (with_reducible exact Nat.le_refl _) | (with_reducible refine Below.bel ?_ ?_) | (with_reducible refine Below.alloc ?_ ?_ _) | (with_reducible refine Below.drew ?_) | (with_reducible refine Below.drawsN ?_ _) | (with_reducible refine Below.setCell ?_ ?_ _) | (with_reducible refine le_bel ?_) | (with_reducible refine le_alloc ?_) | (with_reducible refine le_setCell ?_) | (with_reducible refine le_drew ?_) | (with_reducible refine le_drawsN ?_) | (dsimp only; with_reducible refine le_bel ?_) | (dsimp only; with_reducible refine Nat.le_refl _) | (dsimp only; with_reducible refine le_bel_add ?_) | (with_reducible assumption) | omega | (dsimp only; omega)))))
    · by_cases h45 : c0.toNat = 45
      · skip
        have HE : parseL l = fin (-1) (parV t0) := by rw [hc0]; unfold parseL; dsimp only; rw [if_neg (by rw [← hc0]; exact h40), if_pos h45]
        clear hc0
        have hsb : t0.length ≤ 60 := by omega
        have HD := fun w' => number_any t0 w' hsb
        have hnb := num_bd t0
        have hnl := nd_le t0
        have hds : (ByteArray.mk t0.toArray).extract (nd t0) t0.length = ⟨(t0.drop (nd t0)).toArray⟩ := by exact extract_drop _ _
        by_cases h0 : nd t0 = 0
        · have E0 := Lib.hid (HE.trans (by rw [parV_zero h0, quoV_zero h0]))
          rw [h0] at HD hds hnl
          rw [List.drop_zero] at hds
          clear HE h0
          cases ht : t0 with
          | nil =>
            rw [ht] at HD hds ls ln hnb
            clear ht
            have HD : ∀ w', Calls Tryd.prog 55 #[.string ByteArray.empty] w' _ := HD
            go_enter Tryd.func28, Tryd.ntmps28
            go_wp2_with fail
            refine wp_region_bel (by kernel_rfl) (by kernel_rfl) ?_
            repeat (go_big_quiet_step (fail))
            refine wpQuiet_nil ?_
            rintro _ ⟨y0, rfl⟩
            go_wp2_with fail
            (with_reducible refine ((HD _)).mono ?_)
            rintro _ _ ⟨rfl, x, rfl⟩
            go_wp2
            refine bodyPost_ret (v := .tuple #[.agg #[.int .i64 0, .int .i64 0], .int .i64 15]) (by simp [results, Tryd.results28, go_sem]) rfl (Ret.mk (by exact ret_triple E0.out) (by (repeat' (first | (with_reducible exact Below.refl _ _) | (with_reducible exact Nat.le_refl _) | (with_reducible refine Below.bel ?_ ?_) | (with_reducible refine Below.alloc ?_ ?_ _) | (with_reducible refine Below.drew ?_) | (with_reducible refine Below.drawsN ?_ _) | (with_reducible refine Below.setCell ?_ ?_ _) | (with_reducible refine le_bel ?_) | (with_reducible refine le_alloc ?_) | (with_reducible refine le_setCell ?_) | (with_reducible refine le_drew ?_) | (with_reducible refine le_drawsN ?_) | (dsimp only; with_reducible refine le_bel ?_) | (dsimp only; with_reducible refine Nat.le_refl _) | (dsimp only; with_reducible refine le_bel_add ?_) | (with_reducible assumption) | omega | (dsimp only; omega)))))
          | cons c t =>
            obtain ⟨q, hq⟩ : ∃ q, q = c :: t := ⟨_, rfl⟩
            rw [← hq] at ht
            rw [ht] at HD hds ls ln hnb
            have qx := fun h => byte_at (l := q) (k := 0) (c := c) (by rw [hq]; rfl) h
            have qn : q.length = t.length + 1 := by rw [hq]; rfl
            have qs : (ByteArray.mk q.toArray).extract 1 (t.length + 1) = ⟨t.toArray⟩ := by rw [← qn, extract_drop, hq]; rfl
            have qe : ((ByteArray.mk q.toArray).toList == ([] : List UInt8)) = false := by rw [hq]; exact ba_ne c t
            have qf : (q == ([] : List UInt8)) = false := by rw [hq]; rfl
            have qg : q ≠ [] := by rw [hq]; simp
            have c8 := UInt8.toNat_lt c
            rw [qn] at hds ls
            clear ht hq
            go_enter Tryd.func28, Tryd.ntmps28
            go_wp2_with fail
            refine wp_region_bel (by kernel_rfl) (by kernel_rfl) ?_
            repeat (go_big_quiet_step (fail))
            refine wpQuiet_nil ?_
            rintro _ ⟨y0, rfl⟩
            go_wp2_with fail
            (with_reducible refine ((HD _)).mono ?_)
            rintro _ _ ⟨rfl, x, rfl⟩
            go_wp2
            refine bodyPost_ret (v := .tuple #[.agg #[.int .i64 0, .int .i64 0], .int .i64 15]) (by simp [results, Tryd.results28, go_sem]) rfl (Ret.mk (by exact ret_triple E0.out) (by (repeat' (first | (with_reducible exact Below.refl _ _) | (with_reducible exact Nat.le_refl _) | (with_reducible refine Below.bel ?_ ?_) | (with_reducible refine Below.alloc ?_ ?_ _) | (with_reducible refine Below.drew ?_) | (with_reducible refine Below.drawsN ?_ _) | (with_reducible refine Below.setCell ?_ ?_ _) | (with_reducible refine le_bel ?_) | (with_reducible refine le_alloc ?_) | (with_reducible refine le_setCell ?_) | (with_reducible refine le_drew ?_) | (with_reducible refine le_drawsN ?_) | (dsimp only; with_reducible refine le_bel ?_) | (dsimp only; with_reducible refine Nat.le_refl _) | (dsimp only; with_reducible refine le_bel_add ?_) | (with_reducible assumption) | omega | (dsimp only; omega)))))
        · cases hr : t0.drop (nd t0) with
          | nil =>
            have hE := HE.trans (by rw [parV_nil h0 hr])
            rw [hr] at hds
            clear HE
            generalize num t0 = a at *
            generalize nd t0 = n at *
            go_enter Tryd.func28, Tryd.ntmps28
            go_wp2_with fail
            refine wp_region_bel (by kernel_rfl) (by kernel_rfl) ?_
            repeat (go_big_quiet_step (fail))
            refine wpQuiet_nil ?_
            rintro _ ⟨y0, rfl⟩
            go_wp2_with fail
            (with_reducible refine ((HD _)).mono ?_)
            rintro _ _ ⟨rfl, x, rfl⟩
            by_cases ha : a > 1000000
            · have E0 := Lib.hid (hE.trans (fin_big (.inl ha)))
              clear hE
              go_wp2
              refine bodyPost_ret (v := .tuple #[.agg #[.int .i64 0, .int .i64 0], .int .i64 4]) (by simp [results, Tryd.results28, go_sem]) rfl (Ret.mk (by exact ret_triple E0.out) (by (repeat' (first | (with_reducible exact Below.refl _ _) | (with_reducible exact Nat.le_refl _) | (with_reducible refine Below.bel ?_ ?_) | (with_reducible refine Below.alloc ?_ ?_ _) | (with_reducible refine Below.drew ?_) | (with_reducible refine Below.drawsN ?_ _) | (with_reducible refine Below.setCell ?_ ?_ _) | (with_reducible refine le_bel ?_) | (with_reducible refine le_alloc ?_) | (with_reducible refine le_setCell ?_) | (with_reducible refine le_drew ?_) | (with_reducible refine le_drawsN ?_) | (dsimp only; with_reducible refine le_bel ?_) | (dsimp only; with_reducible refine Nat.le_refl _) | (dsimp only; with_reducible refine le_bel_add ?_) | (with_reducible assumption) | omega | (dsimp only; omega)))))
            · have E0 := Lib.hid (hE.trans (fin_ok (by omega) (by decide) (by decide)))
              clear hE
              go_wp2_with fail
              (with_reducible refine (refmake_any _ _ _ (by omega) (by omega) (by omega) (by omega)).mono ?_)
              rintro _ _ ⟨rfl, z, rfl⟩
              go_wp2
              refine bodyPost_ret (v := .tuple #[.agg #[.int .i64 (parseL l).1, .int .i64 (parseL l).2.1], .int .i64 (parseL l).2.2]) (by simp [results, Tryd.results28, go_sem]; rw [E0.out]; simp) rfl (Ret.mk (by rfl) (by (repeat' (first | (with_reducible exact Below.refl _ _) | (with_reducible exact Nat.le_refl _) | (with_reducible refine Below.bel ?_ ?_) | (with_reducible refine Below.alloc ?_ ?_ _) | (with_reducible refine Below.drew ?_) | (with_reducible refine Below.drawsN ?_ _) | (with_reducible refine Below.setCell ?_ ?_ _) | (with_reducible refine le_bel ?_) | (with_reducible refine le_alloc ?_) | (with_reducible refine le_setCell ?_) | (with_reducible refine le_drew ?_) | (with_reducible refine le_drawsN ?_) | (dsimp only; with_reducible refine le_bel ?_) | (dsimp only; with_reducible refine Nat.le_refl _) | (dsimp only; with_reducible refine le_bel_add ?_) | (with_reducible assumption) | omega | (dsimp only; omega)))))
          | cons c t =>
            obtain ⟨r, hrr⟩ : ∃ r, r = c :: t := ⟨_, rfl⟩
            have hrl : (t0.drop (nd t0)).length ≤ 60 := by rw [List.length_drop]; omega
            rw [hr, ← hrr] at hds
            rw [hr, ← hrr] at hrl
            have rx := fun h => byte_at (l := r) (k := 0) (c := c) (by rw [hrr]; rfl) h
            have rn : r.length = t.length + 1 := by rw [hrr]; rfl
            have rs : (ByteArray.mk r.toArray).extract 1 (t.length + 1) = ⟨t.toArray⟩ := by rw [← rn, extract_drop, hrr]; rfl
            have re : ((ByteArray.mk r.toArray).toList == ([] : List UInt8)) = false := by rw [hrr]; exact ba_ne c t
            have rf : (r == ([] : List UInt8)) = false := by rw [hrr]; rfl
            have rg : r ≠ [] := by rw [hrr]; simp
            have c8 := UInt8.toNat_lt c
            have htl : t.length ≤ 59 := by omega
            by_cases h32 : c.toNat = 32
            · have HV := HE.trans (by rw [parV_space h0 hr h32])
              have HT := fun w' => number_any t w' (by omega)
              have htb := num_bd t
              have htn := nd_le t
              have hdt : (ByteArray.mk r.toArray).extract (1 + nd t) (t.length + 1) = ⟨(t.drop (nd t)).toArray⟩ := by
                rw [← rn, extract_drop, hrr, Nat.add_comm, List.drop_succ_cons]
              generalize num t0 = a at *
              generalize nd t0 = n at *
              clear HE hr hrr
              by_cases ht0 : nd t = 0
              · have E0 := Lib.hid (HV.trans (by rw [quoV_zero ht0]))
                rw [ht0] at HT hdt htn
                rw [List.drop_zero] at hdt
                clear HV ht0
                cases ht : t with
                | nil =>
                  rw [ht] at HT hdt rn rs htb htl
                  clear ht
                  have HT : ∀ w', Calls Tryd.prog 55 #[.string ByteArray.empty] w' _ := HT
                  go_enter Tryd.func28, Tryd.ntmps28
                  go_wp2_with fail
                  refine wp_region_bel (by kernel_rfl) (by kernel_rfl) ?_
                  repeat (go_big_quiet_step (fail))
                  refine wpQuiet_nil ?_
                  rintro _ ⟨y0, rfl⟩
                  go_wp2_with fail
                  (with_reducible refine ((HD _)).mono ?_)
                  rintro _ _ ⟨rfl, x, rfl⟩
                  go_wp2_with fail
                  (with_reducible refine ((HT _)).mono ?_)
                  rintro _ _ ⟨rfl, y, rfl⟩
                  go_wp2_with fail
                  refine wp_region_bel (by kernel_rfl) (by kernel_rfl) ?_
                  repeat (go_big_quiet_step (fail))
                  refine wpQuiet_nil ?_
                  rintro _ ⟨v, rfl⟩
                  go_wp2
                  refine bodyPost_ret (v := .tuple #[.agg #[.int .i64 0, .int .i64 0], .int .i64 15]) (by simp [results, Tryd.results28, go_sem]) rfl (Ret.mk (by exact ret_triple E0.out) (by (repeat' (first | (with_reducible exact Below.refl _ _) | (with_reducible exact Nat.le_refl _) | (with_reducible refine Below.bel ?_ ?_) | (with_reducible refine Below.alloc ?_ ?_ _) | (with_reducible refine Below.drew ?_) | (with_reducible refine Below.drawsN ?_ _) | (with_reducible refine Below.setCell ?_ ?_ _) | (with_reducible refine le_bel ?_) | (with_reducible refine le_alloc ?_) | (with_reducible refine le_setCell ?_) | (with_reducible refine le_drew ?_) | (with_reducible refine le_drawsN ?_) | (dsimp only; with_reducible refine le_bel ?_) | (dsimp only; with_reducible refine Nat.le_refl _) | (dsimp only; with_reducible refine le_bel_add ?_) | (with_reducible assumption) | omega | (dsimp only; omega)))))
                | cons d u =>
                  obtain ⟨q, hq⟩ : ∃ q, q = d :: u := ⟨_, rfl⟩
                  rw [← hq] at ht
                  rw [ht] at HT hdt rn rs htb htl
                  have qx := fun h => byte_at (l := q) (k := 0) (c := d) (by rw [hq]; rfl) h
                  have qn : q.length = u.length + 1 := by rw [hq]; rfl
                  have qs : (ByteArray.mk q.toArray).extract 1 (u.length + 1) = ⟨u.toArray⟩ := by rw [← qn, extract_drop, hq]; rfl
                  have qe : ((ByteArray.mk q.toArray).toList == ([] : List UInt8)) = false := by rw [hq]; exact ba_ne d u
                  have qf : (q == ([] : List UInt8)) = false := by rw [hq]; rfl
                  have qg : q ≠ [] := by rw [hq]; simp
                  have d8 := UInt8.toNat_lt d
                  rw [qn] at rs hdt
                  clear ht hq
                  go_enter Tryd.func28, Tryd.ntmps28
                  go_wp2_with fail
                  refine wp_region_bel (by kernel_rfl) (by kernel_rfl) ?_
                  repeat (go_big_quiet_step (fail))
                  refine wpQuiet_nil ?_
                  rintro _ ⟨y0, rfl⟩
                  go_wp2_with fail
                  (with_reducible refine ((HD _)).mono ?_)
                  rintro _ _ ⟨rfl, x, rfl⟩
                  go_wp2_with fail
                  (with_reducible refine ((HT _)).mono ?_)
                  rintro _ _ ⟨rfl, y, rfl⟩
                  go_wp2_with fail
                  refine wp_region_bel (by kernel_rfl) (by kernel_rfl) ?_
                  repeat (go_big_quiet_step (fail))
                  refine wpQuiet_nil ?_
                  rintro _ ⟨v, rfl⟩
                  go_wp2
                  refine bodyPost_ret (v := .tuple #[.agg #[.int .i64 0, .int .i64 0], .int .i64 15]) (by simp [results, Tryd.results28, go_sem]) rfl (Ret.mk (by exact ret_triple E0.out) (by (repeat' (first | (with_reducible exact Below.refl _ _) | (with_reducible exact Nat.le_refl _) | (with_reducible refine Below.bel ?_ ?_) | (with_reducible refine Below.alloc ?_ ?_ _) | (with_reducible refine Below.drew ?_) | (with_reducible refine Below.drawsN ?_ _) | (with_reducible refine Below.setCell ?_ ?_ _) | (with_reducible refine le_bel ?_) | (with_reducible refine le_alloc ?_) | (with_reducible refine le_setCell ?_) | (with_reducible refine le_drew ?_) | (with_reducible refine le_drawsN ?_) | (dsimp only; with_reducible refine le_bel ?_) | (dsimp only; with_reducible refine Nat.le_refl _) | (dsimp only; with_reducible refine le_bel_add ?_) | (with_reducible assumption) | omega | (dsimp only; omega)))))
              · have hQ0 := ht0
                cases hQ : t.drop (nd t) with
                | nil =>
                  have E0 := Lib.hid (HV.trans (by rw [quoV_nil hQ0 hQ]))
                  rw [hQ] at hdt
                  clear HV hQ hQ0
                  generalize nd t = m at *
                  go_enter Tryd.func28, Tryd.ntmps28
                  go_wp2_with fail
                  refine wp_region_bel (by kernel_rfl) (by kernel_rfl) ?_
                  repeat (go_big_quiet_step (fail))
                  refine wpQuiet_nil ?_
                  rintro _ ⟨y0, rfl⟩
                  go_wp2_with fail
                  (with_reducible refine ((HD _)).mono ?_)
                  rintro _ _ ⟨rfl, x, rfl⟩
                  go_wp2_with fail
                  (with_reducible refine ((HT _)).mono ?_)
                  rintro _ _ ⟨rfl, y, rfl⟩
                  go_wp2_with fail
                  refine wp_region_bel (by kernel_rfl) (by kernel_rfl) ?_
                  repeat (go_big_quiet_step (fail))
                  refine wpQuiet_nil ?_
                  rintro _ ⟨v, rfl⟩
                  go_wp2
                  refine bodyPost_ret (v := .tuple #[.agg #[.int .i64 0, .int .i64 0], .int .i64 15]) (by simp [results, Tryd.results28, go_sem]) rfl (Ret.mk (by exact ret_triple E0.out) (by (repeat' (first | (with_reducible exact Below.refl _ _) | (with_reducible exact Nat.le_refl _) | (with_reducible refine Below.bel ?_ ?_) | (with_reducible refine Below.alloc ?_ ?_ _) | (with_reducible refine Below.drew ?_) | (with_reducible refine Below.drawsN ?_ _) | (with_reducible refine Below.setCell ?_ ?_ _) | (with_reducible refine le_bel ?_) | (with_reducible refine le_alloc ?_) | (with_reducible refine le_setCell ?_) | (with_reducible refine le_drew ?_) | (with_reducible refine le_drawsN ?_) | (dsimp only; with_reducible refine le_bel ?_) | (dsimp only; with_reducible refine Nat.le_refl _) | (dsimp only; with_reducible refine le_bel_add ?_) | (with_reducible assumption) | omega | (dsimp only; omega)))))
                | cons d u =>
                  obtain ⟨q, hq⟩ : ∃ q, q = d :: u := ⟨_, rfl⟩
                  have hql : (t.drop (nd t)).length ≤ 59 := by rw [List.length_drop]; omega
                  rw [hQ, ← hq] at hdt hql
                  have qx := fun h => byte_at (l := q) (k := 0) (c := d) (by rw [hq]; rfl) h
                  have qn : q.length = u.length + 1 := by rw [hq]; rfl
                  have qs : (ByteArray.mk q.toArray).extract 1 (u.length + 1) = ⟨u.toArray⟩ := by rw [← qn, extract_drop, hq]; rfl
                  have qe : ((ByteArray.mk q.toArray).toList == ([] : List UInt8)) = false := by rw [hq]; exact ba_ne d u
                  have qf : (q == ([] : List UInt8)) = false := by rw [hq]; rfl
                  have qg : q ≠ [] := by rw [hq]; simp
                  have d8 := UInt8.toNat_lt d
                  have HU := fun w' => number_any u w' (by omega)
                  have hub := num_bd u
                  have hul := nd_le u
                  by_cases h47 : d.toNat = 47
                  · by_cases hu0 : nd u = 0
                    · have E0 := Lib.hid (HV.trans (by rw [quoV_none hQ0 hQ h47 hu0]))
                      rw [hu0] at HU hul
                      clear HV hQ hQ0 hq
                      generalize nd t = k at *
                      generalize num t = nt at *
                      go_enter Tryd.func28, Tryd.ntmps28
                      go_wp2_with fail
                      refine wp_region_bel (by kernel_rfl) (by kernel_rfl) ?_
                      repeat (go_big_quiet_step (fail))
                      refine wpQuiet_nil ?_
                      rintro _ ⟨y0, rfl⟩
                      go_wp2_with fail
                      (with_reducible refine ((HD _)).mono ?_)
                      rintro _ _ ⟨rfl, x, rfl⟩
                      go_wp2_with fail
                      (with_reducible refine ((HT _)).mono ?_)
                      rintro _ _ ⟨rfl, y, rfl⟩
                      go_wp2_with fail
                      refine wp_region_bel (by kernel_rfl) (by kernel_rfl) ?_
                      repeat (go_big_quiet_step (fail))
                      refine wpQuiet_nil ?_
                      rintro _ ⟨v, rfl⟩
                      go_wp2_with fail
                      (with_reducible refine ((HU _)).mono ?_)
                      rintro _ _ ⟨rfl, z, rfl⟩
                      go_wp2
                      refine bodyPost_ret (v := .tuple #[.agg #[.int .i64 0, .int .i64 0], .int .i64 15]) (by simp [results, Tryd.results28, go_sem]) rfl (Ret.mk (by exact ret_triple E0.out) (by (repeat' (first | (with_reducible exact Below.refl _ _) | (with_reducible exact Nat.le_refl _) | (with_reducible refine Below.bel ?_ ?_) | (with_reducible refine Below.alloc ?_ ?_ _) | (with_reducible refine Below.drew ?_) | (with_reducible refine Below.drawsN ?_ _) | (with_reducible refine Below.setCell ?_ ?_ _) | (with_reducible refine le_bel ?_) | (with_reducible refine le_alloc ?_) | (with_reducible refine le_setCell ?_) | (with_reducible refine le_drew ?_) | (with_reducible refine le_drawsN ?_) | (dsimp only; with_reducible refine le_bel ?_) | (dsimp only; with_reducible refine Nat.le_refl _) | (dsimp only; with_reducible refine le_bel_add ?_) | (with_reducible assumption) | omega | (dsimp only; omega)))))
                    · by_cases hu1 : nd u = u.length
                      · have hE := HV.trans (by rw [quoV_full hQ0 hQ h47 hu1 hu0])
                        rw [hu1] at HU hu0
                        have hcm : ((1 : Int) + (u.length : Int) == (u.length : Int) + 1) = true := by rw [beq_iff_eq]; omega
                        clear HV hQ hQ0 hq
                        generalize nd t = k at *
                        generalize num t = nt at *
                        go_enter Tryd.func28, Tryd.ntmps28
                        go_wp2_with fail
                        refine wp_region_bel (by kernel_rfl) (by kernel_rfl) ?_
                        repeat (go_big_quiet_step (fail))
                        refine wpQuiet_nil ?_
                        rintro _ ⟨y0, rfl⟩
                        go_wp2_with fail
                        (with_reducible refine ((HD _)).mono ?_)
                        rintro _ _ ⟨rfl, x, rfl⟩
                        go_wp2_with fail
                        (with_reducible refine ((HT _)).mono ?_)
                        rintro _ _ ⟨rfl, y, rfl⟩
                        go_wp2_with fail
                        refine wp_region_bel (by kernel_rfl) (by kernel_rfl) ?_
                        repeat (go_big_quiet_step (fail))
                        refine wpQuiet_nil ?_
                        rintro _ ⟨v, rfl⟩
                        go_wp2_with fail
                        (with_reducible refine ((HU _)).mono ?_)
                        rintro _ _ ⟨rfl, z, rfl⟩
                        by_cases ha : a > 1000000 ∨ nt > 1000000 ∨ (num u) > 1000000
                        · have E0 := Lib.hid (hE.trans (fin_big ha))
                          clear hE
                          rcases Classical.em (a ≤ 1000000) with ha1 | ha1
                          · rcases Classical.em (nt ≤ 1000000) with ha2 | ha2
                            · have ha3 : (num u) > 1000000 := by omega
                              clear ha
                              go_wp2
                              refine bodyPost_ret (v := .tuple #[.agg #[.int .i64 0, .int .i64 0], .int .i64 4]) (by simp [results, Tryd.results28, go_sem]) rfl (Ret.mk (by exact ret_triple E0.out) (by (repeat' (first | (with_reducible exact Below.refl _ _) | (with_reducible exact Nat.le_refl _) | (with_reducible refine Below.bel ?_ ?_) | (with_reducible refine Below.alloc ?_ ?_ _) | (with_reducible refine Below.drew ?_) | (with_reducible refine Below.drawsN ?_ _) | (with_reducible refine Below.setCell ?_ ?_ _) | (with_reducible refine le_bel ?_) | (with_reducible refine le_alloc ?_) | (with_reducible refine le_setCell ?_) | (with_reducible refine le_drew ?_) | (with_reducible refine le_drawsN ?_) | (dsimp only; with_reducible refine le_bel ?_) | (dsimp only; with_reducible refine Nat.le_refl _) | (dsimp only; with_reducible refine le_bel_add ?_) | (with_reducible assumption) | omega | (dsimp only; omega)))))
                            · clear ha
                              go_wp2
                              refine bodyPost_ret (v := .tuple #[.agg #[.int .i64 0, .int .i64 0], .int .i64 4]) (by simp [results, Tryd.results28, go_sem]) rfl (Ret.mk (by exact ret_triple E0.out) (by (repeat' (first | (with_reducible exact Below.refl _ _) | (with_reducible exact Nat.le_refl _) | (with_reducible refine Below.bel ?_ ?_) | (with_reducible refine Below.alloc ?_ ?_ _) | (with_reducible refine Below.drew ?_) | (with_reducible refine Below.drawsN ?_ _) | (with_reducible refine Below.setCell ?_ ?_ _) | (with_reducible refine le_bel ?_) | (with_reducible refine le_alloc ?_) | (with_reducible refine le_setCell ?_) | (with_reducible refine le_drew ?_) | (with_reducible refine le_drawsN ?_) | (dsimp only; with_reducible refine le_bel ?_) | (dsimp only; with_reducible refine Nat.le_refl _) | (dsimp only; with_reducible refine le_bel_add ?_) | (with_reducible assumption) | omega | (dsimp only; omega)))))
                          · clear ha
                            go_wp2
                            refine bodyPost_ret (v := .tuple #[.agg #[.int .i64 0, .int .i64 0], .int .i64 4]) (by simp [results, Tryd.results28, go_sem]) rfl (Ret.mk (by exact ret_triple E0.out) (by (repeat' (first | (with_reducible exact Below.refl _ _) | (with_reducible exact Nat.le_refl _) | (with_reducible refine Below.bel ?_ ?_) | (with_reducible refine Below.alloc ?_ ?_ _) | (with_reducible refine Below.drew ?_) | (with_reducible refine Below.drawsN ?_ _) | (with_reducible refine Below.setCell ?_ ?_ _) | (with_reducible refine le_bel ?_) | (with_reducible refine le_alloc ?_) | (with_reducible refine le_setCell ?_) | (with_reducible refine le_drew ?_) | (with_reducible refine le_drawsN ?_) | (dsimp only; with_reducible refine le_bel ?_) | (dsimp only; with_reducible refine Nat.le_refl _) | (dsimp only; with_reducible refine le_bel_add ?_) | (with_reducible assumption) | omega | (dsimp only; omega)))))
                        · have ha1 : a ≤ 1000000 := by omega
                          have ha2 : nt ≤ 1000000 := by omega
                          have ha3 : (num u) ≤ 1000000 := by omega
                          clear ha
                          have E0 := Lib.hid (hE.trans (fin_ok ha1 ha2 ha3))
                          clear hE
                          have hp := mul_bd6 (a := a) (b := (num u)) (by omega) ha1 (by omega) ha3
                          go_wp2_with fail
                          (with_reducible refine (refmake_any _ _ _ (by omega) (by omega) (by omega) (by omega)).mono ?_)
                          rintro _ _ ⟨rfl, z, rfl⟩
                          go_wp2
                          refine bodyPost_ret (v := .tuple #[.agg #[.int .i64 (parseL l).1, .int .i64 (parseL l).2.1], .int .i64 (parseL l).2.2]) (by simp [results, Tryd.results28, go_sem]; rw [E0.out]; simp) rfl (Ret.mk (by rfl) (by (repeat' (first | (with_reducible exact Below.refl _ _) | (with_reducible exact Nat.le_refl _) | (with_reducible refine Below.bel ?_ ?_) | (with_reducible refine Below.alloc ?_ ?_ _) | (with_reducible refine Below.drew ?_) | (with_reducible refine Below.drawsN ?_ _) | (with_reducible refine Below.setCell ?_ ?_ _) | (with_reducible refine le_bel ?_) | (with_reducible refine le_alloc ?_) | (with_reducible refine le_setCell ?_) | (with_reducible refine le_drew ?_) | (with_reducible refine le_drawsN ?_) | (dsimp only; with_reducible refine le_bel ?_) | (dsimp only; with_reducible refine Nat.le_refl _) | (dsimp only; with_reducible refine le_bel_add ?_) | (with_reducible assumption) | omega | (dsimp only; omega)))))
                      · have E0 := Lib.hid (HV.trans (by rw [quoV_long hQ0 hQ h47 hu1]))
                        clear HV hQ hQ0 hq
                        generalize nd t = k at *
                        generalize num t = nt at *
                        have hcm : ((1 : Int) + (nd u : Int) == (u.length : Int) + 1) = false := by rw [beq_eq_false_iff_ne]; omega
                        generalize nd u = m at *
                        go_enter Tryd.func28, Tryd.ntmps28
                        go_wp2_with fail
                        refine wp_region_bel (by kernel_rfl) (by kernel_rfl) ?_
                        repeat (go_big_quiet_step (fail))
                        refine wpQuiet_nil ?_
                        rintro _ ⟨y0, rfl⟩
                        go_wp2_with fail
                        (with_reducible refine ((HD _)).mono ?_)
                        rintro _ _ ⟨rfl, x, rfl⟩
                        go_wp2_with fail
                        (with_reducible refine ((HT _)).mono ?_)
                        rintro _ _ ⟨rfl, y, rfl⟩
                        go_wp2_with fail
                        refine wp_region_bel (by kernel_rfl) (by kernel_rfl) ?_
                        repeat (go_big_quiet_step (fail))
                        refine wpQuiet_nil ?_
                        rintro _ ⟨v, rfl⟩
                        go_wp2_with fail
                        (with_reducible refine ((HU _)).mono ?_)
                        rintro _ _ ⟨rfl, z, rfl⟩
                        go_wp2
                        refine bodyPost_ret (v := .tuple #[.agg #[.int .i64 0, .int .i64 0], .int .i64 15]) (by simp [results, Tryd.results28, go_sem]) rfl (Ret.mk (by exact ret_triple E0.out) (by (repeat' (first | (with_reducible exact Below.refl _ _) | (with_reducible exact Nat.le_refl _) | (with_reducible refine Below.bel ?_ ?_) | (with_reducible refine Below.alloc ?_ ?_ _) | (with_reducible refine Below.drew ?_) | (with_reducible refine Below.drawsN ?_ _) | (with_reducible refine Below.setCell ?_ ?_ _) | (with_reducible refine le_bel ?_) | (with_reducible refine le_alloc ?_) | (with_reducible refine le_setCell ?_) | (with_reducible refine le_drew ?_) | (with_reducible refine le_drawsN ?_) | (dsimp only; with_reducible refine le_bel ?_) | (dsimp only; with_reducible refine Nat.le_refl _) | (dsimp only; with_reducible refine le_bel_add ?_) | (with_reducible assumption) | omega | (dsimp only; omega)))))
                  · have E0 := Lib.hid (HV.trans (by rw [quoV_other hQ0 hQ h47]))
                    clear HV hQ hQ0 hq
                    generalize nd t = k at *
                    generalize num t = nt at *
                    go_enter Tryd.func28, Tryd.ntmps28
                    go_wp2_with fail
                    refine wp_region_bel (by kernel_rfl) (by kernel_rfl) ?_
                    repeat (go_big_quiet_step (fail))
                    refine wpQuiet_nil ?_
                    rintro _ ⟨y0, rfl⟩
                    go_wp2_with fail
                    (with_reducible refine ((HD _)).mono ?_)
                    rintro _ _ ⟨rfl, x, rfl⟩
                    go_wp2_with fail
                    (with_reducible refine ((HT _)).mono ?_)
                    rintro _ _ ⟨rfl, y, rfl⟩
                    go_wp2_with fail
                    refine wp_region_bel (by kernel_rfl) (by kernel_rfl) ?_
                    repeat (go_big_quiet_step (fail))
                    refine wpQuiet_nil ?_
                    rintro _ ⟨v, rfl⟩
                    go_wp2_with fail
                    (with_reducible refine ((HU _)).mono ?_)
                    rintro _ _ ⟨rfl, z, rfl⟩
                    go_wp2
                    refine bodyPost_ret (v := .tuple #[.agg #[.int .i64 0, .int .i64 0], .int .i64 15]) (by simp [results, Tryd.results28, go_sem]) rfl (Ret.mk (by exact ret_triple E0.out) (by (repeat' (first | (with_reducible exact Below.refl _ _) | (with_reducible exact Nat.le_refl _) | (with_reducible refine Below.bel ?_ ?_) | (with_reducible refine Below.alloc ?_ ?_ _) | (with_reducible refine Below.drew ?_) | (with_reducible refine Below.drawsN ?_ _) | (with_reducible refine Below.setCell ?_ ?_ _) | (with_reducible refine le_bel ?_) | (with_reducible refine le_alloc ?_) | (with_reducible refine le_setCell ?_) | (with_reducible refine le_drew ?_) | (with_reducible refine le_drawsN ?_) | (dsimp only; with_reducible refine le_bel ?_) | (dsimp only; with_reducible refine Nat.le_refl _) | (dsimp only; with_reducible refine le_bel_add ?_) | (with_reducible assumption) | omega | (dsimp only; omega)))))
            · have HV := HE.trans (by rw [parV_other h0 hr h32])
              have hQ0 := h0
              have hQ := hr
              have HU := fun w' => number_any t w' (by omega)
              have hub := num_bd t
              have hul := nd_le t
              by_cases h47 : c.toNat = 47
              · by_cases hu0 : nd t = 0
                · have E0 := Lib.hid (HV.trans (by rw [quoV_none hQ0 hQ h47 hu0]))
                  rw [hu0] at HU hul
                  clear HE HV hQ hQ0 hr hrr
                  generalize nd t0 = n at *
                  generalize num t0 = ns at *
                  go_enter Tryd.func28, Tryd.ntmps28
                  go_wp2_with fail
                  refine wp_region_bel (by kernel_rfl) (by kernel_rfl) ?_
                  repeat (go_big_quiet_step (fail))
                  refine wpQuiet_nil ?_
                  rintro _ ⟨y0, rfl⟩
                  go_wp2_with fail
                  (with_reducible refine ((HD _)).mono ?_)
                  rintro _ _ ⟨rfl, x, rfl⟩
                  go_wp2_with fail
                  (with_reducible refine ((HU _)).mono ?_)
                  rintro _ _ ⟨rfl, z, rfl⟩
                  go_wp2
                  refine bodyPost_ret (v := .tuple #[.agg #[.int .i64 0, .int .i64 0], .int .i64 15]) (by simp [results, Tryd.results28, go_sem]) rfl (Ret.mk (by exact ret_triple E0.out) (by (repeat' (first | (with_reducible exact Below.refl _ _) | (with_reducible exact Nat.le_refl _) | (with_reducible refine Below.bel ?_ ?_) | (with_reducible refine Below.alloc ?_ ?_ _) | (with_reducible refine Below.drew ?_) | (with_reducible refine Below.drawsN ?_ _) | (with_reducible refine Below.setCell ?_ ?_ _) | (with_reducible refine le_bel ?_) | (with_reducible refine le_alloc ?_) | (with_reducible refine le_setCell ?_) | (with_reducible refine le_drew ?_) | (with_reducible refine le_drawsN ?_) | (dsimp only; with_reducible refine le_bel ?_) | (dsimp only; with_reducible refine Nat.le_refl _) | (dsimp only; with_reducible refine le_bel_add ?_) | (with_reducible assumption) | omega | (dsimp only; omega)))))
                · by_cases hu1 : nd t = t.length
                  · have hE := HV.trans (by rw [quoV_full hQ0 hQ h47 hu1 hu0])
                    rw [hu1] at HU hu0
                    have hcm : ((1 : Int) + (t.length : Int) == (t.length : Int) + 1) = true := by rw [beq_iff_eq]; omega
                    clear HE HV hQ hQ0 hr hrr
                    generalize nd t0 = n at *
                    generalize num t0 = ns at *
                    go_enter Tryd.func28, Tryd.ntmps28
                    go_wp2_with fail
                    refine wp_region_bel (by kernel_rfl) (by kernel_rfl) ?_
                    repeat (go_big_quiet_step (fail))
                    refine wpQuiet_nil ?_
                    rintro _ ⟨y0, rfl⟩
                    go_wp2_with fail
                    (with_reducible refine ((HD _)).mono ?_)
                    rintro _ _ ⟨rfl, x, rfl⟩
                    go_wp2_with fail
                    (with_reducible refine ((HU _)).mono ?_)
                    rintro _ _ ⟨rfl, z, rfl⟩
                    by_cases ha : (0 : Int) > 1000000 ∨ ns > 1000000 ∨ (num t) > 1000000
                    · have E0 := Lib.hid (hE.trans (fin_big ha))
                      clear hE
                      rcases Classical.em ((0 : Int) ≤ 1000000) with ha1 | ha1
                      · rcases Classical.em (ns ≤ 1000000) with ha2 | ha2
                        · have ha3 : (num t) > 1000000 := by omega
                          clear ha
                          go_wp2
                          refine bodyPost_ret (v := .tuple #[.agg #[.int .i64 0, .int .i64 0], .int .i64 4]) (by simp [results, Tryd.results28, go_sem]) rfl (Ret.mk (by exact ret_triple E0.out) (by (repeat' (first | (with_reducible exact Below.refl _ _) | (with_reducible exact Nat.le_refl _) | (with_reducible refine Below.bel ?_ ?_) | (with_reducible refine Below.alloc ?_ ?_ _) | (with_reducible refine Below.drew ?_) | (with_reducible refine Below.drawsN ?_ _) | (with_reducible refine Below.setCell ?_ ?_ _) | (with_reducible refine le_bel ?_) | (with_reducible refine le_alloc ?_) | (with_reducible refine le_setCell ?_) | (with_reducible refine le_drew ?_) | (with_reducible refine le_drawsN ?_) | (dsimp only; with_reducible refine le_bel ?_) | (dsimp only; with_reducible refine Nat.le_refl _) | (dsimp only; with_reducible refine le_bel_add ?_) | (with_reducible assumption) | omega | (dsimp only; omega)))))
                        · clear ha
                          go_wp2
                          refine bodyPost_ret (v := .tuple #[.agg #[.int .i64 0, .int .i64 0], .int .i64 4]) (by simp [results, Tryd.results28, go_sem]) rfl (Ret.mk (by exact ret_triple E0.out) (by (repeat' (first | (with_reducible exact Below.refl _ _) | (with_reducible exact Nat.le_refl _) | (with_reducible refine Below.bel ?_ ?_) | (with_reducible refine Below.alloc ?_ ?_ _) | (with_reducible refine Below.drew ?_) | (with_reducible refine Below.drawsN ?_ _) | (with_reducible refine Below.setCell ?_ ?_ _) | (with_reducible refine le_bel ?_) | (with_reducible refine le_alloc ?_) | (with_reducible refine le_setCell ?_) | (with_reducible refine le_drew ?_) | (with_reducible refine le_drawsN ?_) | (dsimp only; with_reducible refine le_bel ?_) | (dsimp only; with_reducible refine Nat.le_refl _) | (dsimp only; with_reducible refine le_bel_add ?_) | (with_reducible assumption) | omega | (dsimp only; omega)))))
                      · omega
                    · have ha1 : (0 : Int) ≤ 1000000 := by omega
                      have ha2 : ns ≤ 1000000 := by omega
                      have ha3 : (num t) ≤ 1000000 := by omega
                      clear ha
                      have E0 := Lib.hid (hE.trans (fin_ok ha1 ha2 ha3))
                      clear hE
                      have hp := mul_bd6 (a := (0 : Int)) (b := (num t)) (by omega) ha1 (by omega) ha3
                      go_wp2_with fail
                      (with_reducible refine (refmake_any _ _ _ (by omega) (by omega) (by omega) (by omega)).mono ?_)
                      rintro _ _ ⟨rfl, z, rfl⟩
                      go_wp2
                      refine bodyPost_ret (v := .tuple #[.agg #[.int .i64 (parseL l).1, .int .i64 (parseL l).2.1], .int .i64 (parseL l).2.2]) (by simp [results, Tryd.results28, go_sem]; rw [E0.out]; simp) rfl (Ret.mk (by rfl) (by (repeat' (first | (with_reducible exact Below.refl _ _) | (with_reducible exact Nat.le_refl _) | (with_reducible refine Below.bel ?_ ?_) | (with_reducible refine Below.alloc ?_ ?_ _) | (with_reducible refine Below.drew ?_) | (with_reducible refine Below.drawsN ?_ _) | (with_reducible refine Below.setCell ?_ ?_ _) | (with_reducible refine le_bel ?_) | (with_reducible refine le_alloc ?_) | (with_reducible refine le_setCell ?_) | (with_reducible refine le_drew ?_) | (with_reducible refine le_drawsN ?_) | (dsimp only; with_reducible refine le_bel ?_) | (dsimp only; with_reducible refine Nat.le_refl _) | (dsimp only; with_reducible refine le_bel_add ?_) | (with_reducible assumption) | omega | (dsimp only; omega)))))
                  · have E0 := Lib.hid (HV.trans (by rw [quoV_long hQ0 hQ h47 hu1]))
                    clear HE HV hQ hQ0 hr hrr
                    generalize nd t0 = n at *
                    generalize num t0 = ns at *
                    have hcm : ((1 : Int) + (nd t : Int) == (t.length : Int) + 1) = false := by rw [beq_eq_false_iff_ne]; omega
                    generalize nd t = m at *
                    go_enter Tryd.func28, Tryd.ntmps28
                    go_wp2_with fail
                    refine wp_region_bel (by kernel_rfl) (by kernel_rfl) ?_
                    repeat (go_big_quiet_step (fail))
                    refine wpQuiet_nil ?_
                    rintro _ ⟨y0, rfl⟩
                    go_wp2_with fail
                    (with_reducible refine ((HD _)).mono ?_)
                    rintro _ _ ⟨rfl, x, rfl⟩
                    go_wp2_with fail
                    (with_reducible refine ((HU _)).mono ?_)
                    rintro _ _ ⟨rfl, z, rfl⟩
                    go_wp2
                    refine bodyPost_ret (v := .tuple #[.agg #[.int .i64 0, .int .i64 0], .int .i64 15]) (by simp [results, Tryd.results28, go_sem]) rfl (Ret.mk (by exact ret_triple E0.out) (by (repeat' (first | (with_reducible exact Below.refl _ _) | (with_reducible exact Nat.le_refl _) | (with_reducible refine Below.bel ?_ ?_) | (with_reducible refine Below.alloc ?_ ?_ _) | (with_reducible refine Below.drew ?_) | (with_reducible refine Below.drawsN ?_ _) | (with_reducible refine Below.setCell ?_ ?_ _) | (with_reducible refine le_bel ?_) | (with_reducible refine le_alloc ?_) | (with_reducible refine le_setCell ?_) | (with_reducible refine le_drew ?_) | (with_reducible refine le_drawsN ?_) | (dsimp only; with_reducible refine le_bel ?_) | (dsimp only; with_reducible refine Nat.le_refl _) | (dsimp only; with_reducible refine le_bel_add ?_) | (with_reducible assumption) | omega | (dsimp only; omega)))))
              · have E0 := Lib.hid (HV.trans (by rw [quoV_other hQ0 hQ h47]))
                clear HE HV hQ hQ0 hr hrr
                generalize nd t0 = n at *
                generalize num t0 = ns at *
                go_enter Tryd.func28, Tryd.ntmps28
                go_wp2_with fail
                refine wp_region_bel (by kernel_rfl) (by kernel_rfl) ?_
                repeat (go_big_quiet_step (fail))
                refine wpQuiet_nil ?_
                rintro _ ⟨y0, rfl⟩
                go_wp2_with fail
                (with_reducible refine ((HD _)).mono ?_)
                rintro _ _ ⟨rfl, x, rfl⟩
                go_wp2_with fail
                (with_reducible refine ((HU _)).mono ?_)
                rintro _ _ ⟨rfl, z, rfl⟩
                go_wp2
                refine bodyPost_ret (v := .tuple #[.agg #[.int .i64 0, .int .i64 0], .int .i64 15]) (by simp [results, Tryd.results28, go_sem]) rfl (Ret.mk (by exact ret_triple E0.out) (by (repeat' (first | (with_reducible exact Below.refl _ _) | (with_reducible exact Nat.le_refl _) | (with_reducible refine Below.bel ?_ ?_) | (with_reducible refine Below.alloc ?_ ?_ _) | (with_reducible refine Below.drew ?_) | (with_reducible refine Below.drawsN ?_ _) | (with_reducible refine Below.setCell ?_ ?_ _) | (with_reducible refine le_bel ?_) | (with_reducible refine le_alloc ?_) | (with_reducible refine le_setCell ?_) | (with_reducible refine le_drew ?_) | (with_reducible refine le_drawsN ?_) | (dsimp only; with_reducible refine le_bel ?_) | (dsimp only; with_reducible refine Nat.le_refl _) | (dsimp only; with_reducible refine le_bel_add ?_) | (with_reducible assumption) | omega | (dsimp only; omega)))))
      · skip
        have HE : parseL l = fin (1) (parV l) := by rw [hc0]; unfold parseL; dsimp only; rw [if_neg (by rw [← hc0]; exact h40), if_neg h45, ← hc0]
        clear hc0
        have hsb : l.length ≤ 60 := by omega
        have HD := fun w' => number_any l w' hsb
        have hnb := num_bd l
        have hnl := nd_le l
        have hds : (ByteArray.mk l.toArray).extract (nd l) (t0.length + 1) = ⟨(l.drop (nd l)).toArray⟩ := by rw [← ln]; exact extract_drop _ _
        by_cases h0 : nd l = 0
        · have E0 := Lib.hid (HE.trans (by rw [parV_zero h0, quoV_zero h0]))
          rw [h0] at HD hds hnl
          rw [List.drop_zero] at hds
          clear HE h0
          go_enter Tryd.func28, Tryd.ntmps28
          go_wp2_with fail
          (with_reducible refine ((HD _)).mono ?_)
          rintro _ _ ⟨rfl, x, rfl⟩
          go_wp2
          refine bodyPost_ret (v := .tuple #[.agg #[.int .i64 0, .int .i64 0], .int .i64 15]) (by simp [results, Tryd.results28, go_sem]) rfl (Ret.mk (by exact ret_triple E0.out) (by (repeat' (first | (with_reducible exact Below.refl _ _) | (with_reducible exact Nat.le_refl _) | (with_reducible refine Below.bel ?_ ?_) | (with_reducible refine Below.alloc ?_ ?_ _) | (with_reducible refine Below.drew ?_) | (with_reducible refine Below.drawsN ?_ _) | (with_reducible refine Below.setCell ?_ ?_ _) | (with_reducible refine le_bel ?_) | (with_reducible refine le_alloc ?_) | (with_reducible refine le_setCell ?_) | (with_reducible refine le_drew ?_) | (with_reducible refine le_drawsN ?_) | (dsimp only; with_reducible refine le_bel ?_) | (dsimp only; with_reducible refine Nat.le_refl _) | (dsimp only; with_reducible refine le_bel_add ?_) | (with_reducible assumption) | omega | (dsimp only; omega)))))
        · cases hr : l.drop (nd l) with
          | nil =>
            have hE := HE.trans (by rw [parV_nil h0 hr])
            rw [hr] at hds
            clear HE
            generalize num l = a at *
            generalize nd l = n at *
            go_enter Tryd.func28, Tryd.ntmps28
            go_wp2_with fail
            (with_reducible refine ((HD _)).mono ?_)
            rintro _ _ ⟨rfl, x, rfl⟩
            by_cases ha : a > 1000000
            · have E0 := Lib.hid (hE.trans (fin_big (.inl ha)))
              clear hE
              go_wp2
              refine bodyPost_ret (v := .tuple #[.agg #[.int .i64 0, .int .i64 0], .int .i64 4]) (by simp [results, Tryd.results28, go_sem]) rfl (Ret.mk (by exact ret_triple E0.out) (by (repeat' (first | (with_reducible exact Below.refl _ _) | (with_reducible exact Nat.le_refl _) | (with_reducible refine Below.bel ?_ ?_) | (with_reducible refine Below.alloc ?_ ?_ _) | (with_reducible refine Below.drew ?_) | (with_reducible refine Below.drawsN ?_ _) | (with_reducible refine Below.setCell ?_ ?_ _) | (with_reducible refine le_bel ?_) | (with_reducible refine le_alloc ?_) | (with_reducible refine le_setCell ?_) | (with_reducible refine le_drew ?_) | (with_reducible refine le_drawsN ?_) | (dsimp only; with_reducible refine le_bel ?_) | (dsimp only; with_reducible refine Nat.le_refl _) | (dsimp only; with_reducible refine le_bel_add ?_) | (with_reducible assumption) | omega | (dsimp only; omega)))))
            · have E0 := Lib.hid (hE.trans (fin_ok (by omega) (by decide) (by decide)))
              clear hE
              go_wp2_with fail
              (with_reducible refine (refmake_any _ _ _ (by omega) (by omega) (by omega) (by omega)).mono ?_)
              rintro _ _ ⟨rfl, z, rfl⟩
              go_wp2
              refine bodyPost_ret (v := .tuple #[.agg #[.int .i64 (parseL l).1, .int .i64 (parseL l).2.1], .int .i64 (parseL l).2.2]) (by simp [results, Tryd.results28, go_sem]; rw [E0.out]; simp) rfl (Ret.mk (by rfl) (by (repeat' (first | (with_reducible exact Below.refl _ _) | (with_reducible exact Nat.le_refl _) | (with_reducible refine Below.bel ?_ ?_) | (with_reducible refine Below.alloc ?_ ?_ _) | (with_reducible refine Below.drew ?_) | (with_reducible refine Below.drawsN ?_ _) | (with_reducible refine Below.setCell ?_ ?_ _) | (with_reducible refine le_bel ?_) | (with_reducible refine le_alloc ?_) | (with_reducible refine le_setCell ?_) | (with_reducible refine le_drew ?_) | (with_reducible refine le_drawsN ?_) | (dsimp only; with_reducible refine le_bel ?_) | (dsimp only; with_reducible refine Nat.le_refl _) | (dsimp only; with_reducible refine le_bel_add ?_) | (with_reducible assumption) | omega | (dsimp only; omega)))))
          | cons c t =>
            obtain ⟨r, hrr⟩ : ∃ r, r = c :: t := ⟨_, rfl⟩
            have hrl : (l.drop (nd l)).length ≤ 60 := by rw [List.length_drop]; omega
            rw [hr, ← hrr] at hds
            rw [hr, ← hrr] at hrl
            have rx := fun h => byte_at (l := r) (k := 0) (c := c) (by rw [hrr]; rfl) h
            have rn : r.length = t.length + 1 := by rw [hrr]; rfl
            have rs : (ByteArray.mk r.toArray).extract 1 (t.length + 1) = ⟨t.toArray⟩ := by rw [← rn, extract_drop, hrr]; rfl
            have re : ((ByteArray.mk r.toArray).toList == ([] : List UInt8)) = false := by rw [hrr]; exact ba_ne c t
            have rf : (r == ([] : List UInt8)) = false := by rw [hrr]; rfl
            have rg : r ≠ [] := by rw [hrr]; simp
            have c8 := UInt8.toNat_lt c
            have htl : t.length ≤ 59 := by omega
            by_cases h32 : c.toNat = 32
            · have HV := HE.trans (by rw [parV_space h0 hr h32])
              have HT := fun w' => number_any t w' (by omega)
              have htb := num_bd t
              have htn := nd_le t
              have hdt : (ByteArray.mk r.toArray).extract (1 + nd t) (t.length + 1) = ⟨(t.drop (nd t)).toArray⟩ := by
                rw [← rn, extract_drop, hrr, Nat.add_comm, List.drop_succ_cons]
              generalize num l = a at *
              generalize nd l = n at *
              clear HE hr hrr
              by_cases ht0 : nd t = 0
              · have E0 := Lib.hid (HV.trans (by rw [quoV_zero ht0]))
                rw [ht0] at HT hdt htn
                rw [List.drop_zero] at hdt
                clear HV ht0
                cases ht : t with
                | nil =>
                  rw [ht] at HT hdt rn rs htb htl
                  clear ht
                  have HT : ∀ w', Calls Tryd.prog 55 #[.string ByteArray.empty] w' _ := HT
                  go_enter Tryd.func28, Tryd.ntmps28
                  go_wp2_with fail
                  (with_reducible refine ((HD _)).mono ?_)
                  rintro _ _ ⟨rfl, x, rfl⟩
                  go_wp2_with fail
                  (with_reducible refine ((HT _)).mono ?_)
                  rintro _ _ ⟨rfl, y, rfl⟩
                  go_wp2_with fail
                  refine wp_region_bel (by kernel_rfl) (by kernel_rfl) ?_
                  repeat (go_big_quiet_step (fail))
                  refine wpQuiet_nil ?_
                  rintro _ ⟨v, rfl⟩
                  go_wp2
                  refine bodyPost_ret (v := .tuple #[.agg #[.int .i64 0, .int .i64 0], .int .i64 15]) (by simp [results, Tryd.results28, go_sem]) rfl (Ret.mk (by exact ret_triple E0.out) (by (repeat' (first | (with_reducible exact Below.refl _ _) | (with_reducible exact Nat.le_refl _) | (with_reducible refine Below.bel ?_ ?_) | (with_reducible refine Below.alloc ?_ ?_ _) | (with_reducible refine Below.drew ?_) | (with_reducible refine Below.drawsN ?_ _) | (with_reducible refine Below.setCell ?_ ?_ _) | (with_reducible refine le_bel ?_) | (with_reducible refine le_alloc ?_) | (with_reducible refine le_setCell ?_) | (with_reducible refine le_drew ?_) | (with_reducible refine le_drawsN ?_) | (dsimp only; with_reducible refine le_bel ?_) | (dsimp only; with_reducible refine Nat.le_refl _) | (dsimp only; with_reducible refine le_bel_add ?_) | (with_reducible assumption) | omega | (dsimp only; omega)))))
                | cons d u =>
                  obtain ⟨q, hq⟩ : ∃ q, q = d :: u := ⟨_, rfl⟩
                  rw [← hq] at ht
                  rw [ht] at HT hdt rn rs htb htl
                  have qx := fun h => byte_at (l := q) (k := 0) (c := d) (by rw [hq]; rfl) h
                  have qn : q.length = u.length + 1 := by rw [hq]; rfl
                  have qs : (ByteArray.mk q.toArray).extract 1 (u.length + 1) = ⟨u.toArray⟩ := by rw [← qn, extract_drop, hq]; rfl
                  have qe : ((ByteArray.mk q.toArray).toList == ([] : List UInt8)) = false := by rw [hq]; exact ba_ne d u
                  have qf : (q == ([] : List UInt8)) = false := by rw [hq]; rfl
                  have qg : q ≠ [] := by rw [hq]; simp
                  have d8 := UInt8.toNat_lt d
                  rw [qn] at rs hdt
                  clear ht hq
                  go_enter Tryd.func28, Tryd.ntmps28
                  go_wp2_with fail
                  (with_reducible refine ((HD _)).mono ?_)
                  rintro _ _ ⟨rfl, x, rfl⟩
                  go_wp2_with fail
                  (with_reducible refine ((HT _)).mono ?_)
                  rintro _ _ ⟨rfl, y, rfl⟩
                  go_wp2_with fail
                  refine wp_region_bel (by kernel_rfl) (by kernel_rfl) ?_
                  repeat (go_big_quiet_step (fail))
                  refine wpQuiet_nil ?_
                  rintro _ ⟨v, rfl⟩
                  go_wp2
                  refine bodyPost_ret (v := .tuple #[.agg #[.int .i64 0, .int .i64 0], .int .i64 15]) (by simp [results, Tryd.results28, go_sem]) rfl (Ret.mk (by exact ret_triple E0.out) (by (repeat' (first | (with_reducible exact Below.refl _ _) | (with_reducible exact Nat.le_refl _) | (with_reducible refine Below.bel ?_ ?_) | (with_reducible refine Below.alloc ?_ ?_ _) | (with_reducible refine Below.drew ?_) | (with_reducible refine Below.drawsN ?_ _) | (with_reducible refine Below.setCell ?_ ?_ _) | (with_reducible refine le_bel ?_) | (with_reducible refine le_alloc ?_) | (with_reducible refine le_setCell ?_) | (with_reducible refine le_drew ?_) | (with_reducible refine le_drawsN ?_) | (dsimp only; with_reducible refine le_bel ?_) | (dsimp only; with_reducible refine Nat.le_refl _) | (dsimp only; with_reducible refine le_bel_add ?_) | (with_reducible assumption) | omega | (dsimp only; omega)))))
              · have hQ0 := ht0
                cases hQ : t.drop (nd t) with
                | nil =>
                  have E0 := Lib.hid (HV.trans (by rw [quoV_nil hQ0 hQ]))
                  rw [hQ] at hdt
                  clear HV hQ hQ0
                  generalize nd t = m at *
                  go_enter Tryd.func28, Tryd.ntmps28
                  go_wp2_with fail
                  (with_reducible refine ((HD _)).mono ?_)
                  rintro _ _ ⟨rfl, x, rfl⟩
                  go_wp2_with fail
                  (with_reducible refine ((HT _)).mono ?_)
                  rintro _ _ ⟨rfl, y, rfl⟩
                  go_wp2_with fail
                  refine wp_region_bel (by kernel_rfl) (by kernel_rfl) ?_
                  repeat (go_big_quiet_step (fail))
                  refine wpQuiet_nil ?_
                  rintro _ ⟨v, rfl⟩
                  go_wp2
                  refine bodyPost_ret (v := .tuple #[.agg #[.int .i64 0, .int .i64 0], .int .i64 15]) (by simp [results, Tryd.results28, go_sem]) rfl (Ret.mk (by exact ret_triple E0.out) (by (repeat' (first | (with_reducible exact Below.refl _ _) | (with_reducible exact Nat.le_refl _) | (with_reducible refine Below.bel ?_ ?_) | (with_reducible refine Below.alloc ?_ ?_ _) | (with_reducible refine Below.drew ?_) | (with_reducible refine Below.drawsN ?_ _) | (with_reducible refine Below.setCell ?_ ?_ _) | (with_reducible refine le_bel ?_) | (with_reducible refine le_alloc ?_) | (with_reducible refine le_setCell ?_) | (with_reducible refine le_drew ?_) | (with_reducible refine le_drawsN ?_) | (dsimp only; with_reducible refine le_bel ?_) | (dsimp only; with_reducible refine Nat.le_refl _) | (dsimp only; with_reducible refine le_bel_add ?_) | (with_reducible assumption) | omega | (dsimp only; omega)))))
                | cons d u =>
                  obtain ⟨q, hq⟩ : ∃ q, q = d :: u := ⟨_, rfl⟩
                  have hql : (t.drop (nd t)).length ≤ 59 := by rw [List.length_drop]; omega
                  rw [hQ, ← hq] at hdt hql
                  have qx := fun h => byte_at (l := q) (k := 0) (c := d) (by rw [hq]; rfl) h
                  have qn : q.length = u.length + 1 := by rw [hq]; rfl
                  have qs : (ByteArray.mk q.toArray).extract 1 (u.length + 1) = ⟨u.toArray⟩ := by rw [← qn, extract_drop, hq]; rfl
                  have qe : ((ByteArray.mk q.toArray).toList == ([] : List UInt8)) = false := by rw [hq]; exact ba_ne d u
                  have qf : (q == ([] : List UInt8)) = false := by rw [hq]; rfl
                  have qg : q ≠ [] := by rw [hq]; simp
                  have d8 := UInt8.toNat_lt d
                  have HU := fun w' => number_any u w' (by omega)
                  have hub := num_bd u
                  have hul := nd_le u
                  by_cases h47 : d.toNat = 47
                  · by_cases hu0 : nd u = 0
                    · have E0 := Lib.hid (HV.trans (by rw [quoV_none hQ0 hQ h47 hu0]))
                      rw [hu0] at HU hul
                      clear HV hQ hQ0 hq
                      generalize nd t = k at *
                      generalize num t = nt at *
                      go_enter Tryd.func28, Tryd.ntmps28
                      go_wp2_with fail
                      (with_reducible refine ((HD _)).mono ?_)
                      rintro _ _ ⟨rfl, x, rfl⟩
                      go_wp2_with fail
                      (with_reducible refine ((HT _)).mono ?_)
                      rintro _ _ ⟨rfl, y, rfl⟩
                      go_wp2_with fail
                      refine wp_region_bel (by kernel_rfl) (by kernel_rfl) ?_
                      repeat (go_big_quiet_step (fail))
                      refine wpQuiet_nil ?_
                      rintro _ ⟨v, rfl⟩
                      go_wp2_with fail
                      (with_reducible refine ((HU _)).mono ?_)
                      rintro _ _ ⟨rfl, z, rfl⟩
                      go_wp2
                      refine bodyPost_ret (v := .tuple #[.agg #[.int .i64 0, .int .i64 0], .int .i64 15]) (by simp [results, Tryd.results28, go_sem]) rfl (Ret.mk (by exact ret_triple E0.out) (by (repeat' (first | (with_reducible exact Below.refl _ _) | (with_reducible exact Nat.le_refl _) | (with_reducible refine Below.bel ?_ ?_) | (with_reducible refine Below.alloc ?_ ?_ _) | (with_reducible refine Below.drew ?_) | (with_reducible refine Below.drawsN ?_ _) | (with_reducible refine Below.setCell ?_ ?_ _) | (with_reducible refine le_bel ?_) | (with_reducible refine le_alloc ?_) | (with_reducible refine le_setCell ?_) | (with_reducible refine le_drew ?_) | (with_reducible refine le_drawsN ?_) | (dsimp only; with_reducible refine le_bel ?_) | (dsimp only; with_reducible refine Nat.le_refl _) | (dsimp only; with_reducible refine le_bel_add ?_) | (with_reducible assumption) | omega | (dsimp only; omega)))))
                    · by_cases hu1 : nd u = u.length
                      · have hE := HV.trans (by rw [quoV_full hQ0 hQ h47 hu1 hu0])
                        rw [hu1] at HU hu0
                        have hcm : ((1 : Int) + (u.length : Int) == (u.length : Int) + 1) = true := by rw [beq_iff_eq]; omega
                        clear HV hQ hQ0 hq
                        generalize nd t = k at *
                        generalize num t = nt at *
                        go_enter Tryd.func28, Tryd.ntmps28
                        go_wp2_with fail
                        (with_reducible refine ((HD _)).mono ?_)
                        rintro _ _ ⟨rfl, x, rfl⟩
                        go_wp2_with fail
                        (with_reducible refine ((HT _)).mono ?_)
                        rintro _ _ ⟨rfl, y, rfl⟩
                        go_wp2_with fail
                        refine wp_region_bel (by kernel_rfl) (by kernel_rfl) ?_
                        repeat (go_big_quiet_step (fail))
                        refine wpQuiet_nil ?_
                        rintro _ ⟨v, rfl⟩
                        go_wp2_with fail
                        (with_reducible refine ((HU _)).mono ?_)
                        rintro _ _ ⟨rfl, z, rfl⟩
                        by_cases ha : a > 1000000 ∨ nt > 1000000 ∨ (num u) > 1000000
                        · have E0 := Lib.hid (hE.trans (fin_big ha))
                          clear hE
                          rcases Classical.em (a ≤ 1000000) with ha1 | ha1
                          · rcases Classical.em (nt ≤ 1000000) with ha2 | ha2
                            · have ha3 : (num u) > 1000000 := by omega
                              clear ha
                              go_wp2
                              refine bodyPost_ret (v := .tuple #[.agg #[.int .i64 0, .int .i64 0], .int .i64 4]) (by simp [results, Tryd.results28, go_sem]) rfl (Ret.mk (by exact ret_triple E0.out) (by (repeat' (first | (with_reducible exact Below.refl _ _) | (with_reducible exact Nat.le_refl _) | (with_reducible refine Below.bel ?_ ?_) | (with_reducible refine Below.alloc ?_ ?_ _) | (with_reducible refine Below.drew ?_) | (with_reducible refine Below.drawsN ?_ _) | (with_reducible refine Below.setCell ?_ ?_ _) | (with_reducible refine le_bel ?_) | (with_reducible refine le_alloc ?_) | (with_reducible refine le_setCell ?_) | (with_reducible refine le_drew ?_) | (with_reducible refine le_drawsN ?_) | (dsimp only; with_reducible refine le_bel ?_) | (dsimp only; with_reducible refine Nat.le_refl _) | (dsimp only; with_reducible refine le_bel_add ?_) | (with_reducible assumption) | omega | (dsimp only; omega)))))
                            · clear ha
                              go_wp2
                              refine bodyPost_ret (v := .tuple #[.agg #[.int .i64 0, .int .i64 0], .int .i64 4]) (by simp [results, Tryd.results28, go_sem]) rfl (Ret.mk (by exact ret_triple E0.out) (by (repeat' (first | (with_reducible exact Below.refl _ _) | (with_reducible exact Nat.le_refl _) | (with_reducible refine Below.bel ?_ ?_) | (with_reducible refine Below.alloc ?_ ?_ _) | (with_reducible refine Below.drew ?_) | (with_reducible refine Below.drawsN ?_ _) | (with_reducible refine Below.setCell ?_ ?_ _) | (with_reducible refine le_bel ?_) | (with_reducible refine le_alloc ?_) | (with_reducible refine le_setCell ?_) | (with_reducible refine le_drew ?_) | (with_reducible refine le_drawsN ?_) | (dsimp only; with_reducible refine le_bel ?_) | (dsimp only; with_reducible refine Nat.le_refl _) | (dsimp only; with_reducible refine le_bel_add ?_) | (with_reducible assumption) | omega | (dsimp only; omega)))))
                          · clear ha
                            go_wp2
                            refine bodyPost_ret (v := .tuple #[.agg #[.int .i64 0, .int .i64 0], .int .i64 4]) (by simp [results, Tryd.results28, go_sem]) rfl (Ret.mk (by exact ret_triple E0.out) (by (repeat' (first | (with_reducible exact Below.refl _ _) | (with_reducible exact Nat.le_refl _) | (with_reducible refine Below.bel ?_ ?_) | (with_reducible refine Below.alloc ?_ ?_ _) | (with_reducible refine Below.drew ?_) | (with_reducible refine Below.drawsN ?_ _) | (with_reducible refine Below.setCell ?_ ?_ _) | (with_reducible refine le_bel ?_) | (with_reducible refine le_alloc ?_) | (with_reducible refine le_setCell ?_) | (with_reducible refine le_drew ?_) | (with_reducible refine le_drawsN ?_) | (dsimp only; with_reducible refine le_bel ?_) | (dsimp only; with_reducible refine Nat.le_refl _) | (dsimp only; with_reducible refine le_bel_add ?_) | (with_reducible assumption) | omega | (dsimp only; omega)))))
                        · have ha1 : a ≤ 1000000 := by omega
                          have ha2 : nt ≤ 1000000 := by omega
                          have ha3 : (num u) ≤ 1000000 := by omega
                          clear ha
                          have E0 := Lib.hid (hE.trans (fin_ok ha1 ha2 ha3))
                          clear hE
                          have hp := mul_bd6 (a := a) (b := (num u)) (by omega) ha1 (by omega) ha3
                          go_wp2_with fail
                          (with_reducible refine (refmake_any _ _ _ (by omega) (by omega) (by omega) (by omega)).mono ?_)
                          rintro _ _ ⟨rfl, z, rfl⟩
                          go_wp2
                          refine bodyPost_ret (v := .tuple #[.agg #[.int .i64 (parseL l).1, .int .i64 (parseL l).2.1], .int .i64 (parseL l).2.2]) (by simp [results, Tryd.results28, go_sem]; rw [E0.out]; simp) rfl (Ret.mk (by rfl) (by (repeat' (first | (with_reducible exact Below.refl _ _) | (with_reducible exact Nat.le_refl _) | (with_reducible refine Below.bel ?_ ?_) | (with_reducible refine Below.alloc ?_ ?_ _) | (with_reducible refine Below.drew ?_) | (with_reducible refine Below.drawsN ?_ _) | (with_reducible refine Below.setCell ?_ ?_ _) | (with_reducible refine le_bel ?_) | (with_reducible refine le_alloc ?_) | (with_reducible refine le_setCell ?_) | (with_reducible refine le_drew ?_) | (with_reducible refine le_drawsN ?_) | (dsimp only; with_reducible refine le_bel ?_) | (dsimp only; with_reducible refine Nat.le_refl _) | (dsimp only; with_reducible refine le_bel_add ?_) | (with_reducible assumption) | omega | (dsimp only; omega)))))
                      · have E0 := Lib.hid (HV.trans (by rw [quoV_long hQ0 hQ h47 hu1]))
                        clear HV hQ hQ0 hq
                        generalize nd t = k at *
                        generalize num t = nt at *
                        have hcm : ((1 : Int) + (nd u : Int) == (u.length : Int) + 1) = false := by rw [beq_eq_false_iff_ne]; omega
                        generalize nd u = m at *
                        go_enter Tryd.func28, Tryd.ntmps28
                        go_wp2_with fail
                        (with_reducible refine ((HD _)).mono ?_)
                        rintro _ _ ⟨rfl, x, rfl⟩
                        go_wp2_with fail
                        (with_reducible refine ((HT _)).mono ?_)
                        rintro _ _ ⟨rfl, y, rfl⟩
                        go_wp2_with fail
                        refine wp_region_bel (by kernel_rfl) (by kernel_rfl) ?_
                        repeat (go_big_quiet_step (fail))
                        refine wpQuiet_nil ?_
                        rintro _ ⟨v, rfl⟩
                        go_wp2_with fail
                        (with_reducible refine ((HU _)).mono ?_)
                        rintro _ _ ⟨rfl, z, rfl⟩
                        go_wp2
                        refine bodyPost_ret (v := .tuple #[.agg #[.int .i64 0, .int .i64 0], .int .i64 15]) (by simp [results, Tryd.results28, go_sem]) rfl (Ret.mk (by exact ret_triple E0.out) (by (repeat' (first | (with_reducible exact Below.refl _ _) | (with_reducible exact Nat.le_refl _) | (with_reducible refine Below.bel ?_ ?_) | (with_reducible refine Below.alloc ?_ ?_ _) | (with_reducible refine Below.drew ?_) | (with_reducible refine Below.drawsN ?_ _) | (with_reducible refine Below.setCell ?_ ?_ _) | (with_reducible refine le_bel ?_) | (with_reducible refine le_alloc ?_) | (with_reducible refine le_setCell ?_) | (with_reducible refine le_drew ?_) | (with_reducible refine le_drawsN ?_) | (dsimp only; with_reducible refine le_bel ?_) | (dsimp only; with_reducible refine Nat.le_refl _) | (dsimp only; with_reducible refine le_bel_add ?_) | (with_reducible assumption) | omega | (dsimp only; omega)))))
                  · have E0 := Lib.hid (HV.trans (by rw [quoV_other hQ0 hQ h47]))
                    clear HV hQ hQ0 hq
                    generalize nd t = k at *
                    generalize num t = nt at *
                    go_enter Tryd.func28, Tryd.ntmps28
                    go_wp2_with fail
                    (with_reducible refine ((HD _)).mono ?_)
                    rintro _ _ ⟨rfl, x, rfl⟩
                    go_wp2_with fail
                    (with_reducible refine ((HT _)).mono ?_)
                    rintro _ _ ⟨rfl, y, rfl⟩
                    go_wp2_with fail
                    refine wp_region_bel (by kernel_rfl) (by kernel_rfl) ?_
                    repeat (go_big_quiet_step (fail))
                    refine wpQuiet_nil ?_
                    rintro _ ⟨v, rfl⟩
                    go_wp2_with fail
                    (with_reducible refine ((HU _)).mono ?_)
                    rintro _ _ ⟨rfl, z, rfl⟩
                    go_wp2
                    refine bodyPost_ret (v := .tuple #[.agg #[.int .i64 0, .int .i64 0], .int .i64 15]) (by simp [results, Tryd.results28, go_sem]) rfl (Ret.mk (by exact ret_triple E0.out) (by (repeat' (first | (with_reducible exact Below.refl _ _) | (with_reducible exact Nat.le_refl _) | (with_reducible refine Below.bel ?_ ?_) | (with_reducible refine Below.alloc ?_ ?_ _) | (with_reducible refine Below.drew ?_) | (with_reducible refine Below.drawsN ?_ _) | (with_reducible refine Below.setCell ?_ ?_ _) | (with_reducible refine le_bel ?_) | (with_reducible refine le_alloc ?_) | (with_reducible refine le_setCell ?_) | (with_reducible refine le_drew ?_) | (with_reducible refine le_drawsN ?_) | (dsimp only; with_reducible refine le_bel ?_) | (dsimp only; with_reducible refine Nat.le_refl _) | (dsimp only; with_reducible refine le_bel_add ?_) | (with_reducible assumption) | omega | (dsimp only; omega)))))
            · have HV := HE.trans (by rw [parV_other h0 hr h32])
              have hQ0 := h0
              have hQ := hr
              have HU := fun w' => number_any t w' (by omega)
              have hub := num_bd t
              have hul := nd_le t
              by_cases h47 : c.toNat = 47
              · by_cases hu0 : nd t = 0
                · have E0 := Lib.hid (HV.trans (by rw [quoV_none hQ0 hQ h47 hu0]))
                  rw [hu0] at HU hul
                  clear HE HV hQ hQ0 hr hrr
                  generalize nd l = n at *
                  generalize num l = ns at *
                  go_enter Tryd.func28, Tryd.ntmps28
                  go_wp2_with fail
                  (with_reducible refine ((HD _)).mono ?_)
                  rintro _ _ ⟨rfl, x, rfl⟩
                  go_wp2_with fail
                  (with_reducible refine ((HU _)).mono ?_)
                  rintro _ _ ⟨rfl, z, rfl⟩
                  go_wp2
                  refine bodyPost_ret (v := .tuple #[.agg #[.int .i64 0, .int .i64 0], .int .i64 15]) (by simp [results, Tryd.results28, go_sem]) rfl (Ret.mk (by exact ret_triple E0.out) (by (repeat' (first | (with_reducible exact Below.refl _ _) | (with_reducible exact Nat.le_refl _) | (with_reducible refine Below.bel ?_ ?_) | (with_reducible refine Below.alloc ?_ ?_ _) | (with_reducible refine Below.drew ?_) | (with_reducible refine Below.drawsN ?_ _) | (with_reducible refine Below.setCell ?_ ?_ _) | (with_reducible refine le_bel ?_) | (with_reducible refine le_alloc ?_) | (with_reducible refine le_setCell ?_) | (with_reducible refine le_drew ?_) | (with_reducible refine le_drawsN ?_) | (dsimp only; with_reducible refine le_bel ?_) | (dsimp only; with_reducible refine Nat.le_refl _) | (dsimp only; with_reducible refine le_bel_add ?_) | (with_reducible assumption) | omega | (dsimp only; omega)))))
                · by_cases hu1 : nd t = t.length
                  · have hE := HV.trans (by rw [quoV_full hQ0 hQ h47 hu1 hu0])
                    rw [hu1] at HU hu0
                    have hcm : ((1 : Int) + (t.length : Int) == (t.length : Int) + 1) = true := by rw [beq_iff_eq]; omega
                    clear HE HV hQ hQ0 hr hrr
                    generalize nd l = n at *
                    generalize num l = ns at *
                    go_enter Tryd.func28, Tryd.ntmps28
                    go_wp2_with fail
                    (with_reducible refine ((HD _)).mono ?_)
                    rintro _ _ ⟨rfl, x, rfl⟩
                    go_wp2_with fail
                    (with_reducible refine ((HU _)).mono ?_)
                    rintro _ _ ⟨rfl, z, rfl⟩
                    by_cases ha : (0 : Int) > 1000000 ∨ ns > 1000000 ∨ (num t) > 1000000
                    · have E0 := Lib.hid (hE.trans (fin_big ha))
                      clear hE
                      rcases Classical.em ((0 : Int) ≤ 1000000) with ha1 | ha1
                      · rcases Classical.em (ns ≤ 1000000) with ha2 | ha2
                        · have ha3 : (num t) > 1000000 := by omega
                          clear ha
                          go_wp2
                          refine bodyPost_ret (v := .tuple #[.agg #[.int .i64 0, .int .i64 0], .int .i64 4]) (by simp [results, Tryd.results28, go_sem]) rfl (Ret.mk (by exact ret_triple E0.out) (by (repeat' (first | (with_reducible exact Below.refl _ _) | (with_reducible exact Nat.le_refl _) | (with_reducible refine Below.bel ?_ ?_) | (with_reducible refine Below.alloc ?_ ?_ _) | (with_reducible refine Below.drew ?_) | (with_reducible refine Below.drawsN ?_ _) | (with_reducible refine Below.setCell ?_ ?_ _) | (with_reducible refine le_bel ?_) | (with_reducible refine le_alloc ?_) | (with_reducible refine le_setCell ?_) | (with_reducible refine le_drew ?_) | (with_reducible refine le_drawsN ?_) | (dsimp only; with_reducible refine le_bel ?_) | (dsimp only; with_reducible refine Nat.le_refl _) | (dsimp only; with_reducible refine le_bel_add ?_) | (with_reducible assumption) | omega | (dsimp only; omega)))))
                        · clear ha
                          go_wp2
                          refine bodyPost_ret (v := .tuple #[.agg #[.int .i64 0, .int .i64 0], .int .i64 4]) (by simp [results, Tryd.results28, go_sem]) rfl (Ret.mk (by exact ret_triple E0.out) (by (repeat' (first | (with_reducible exact Below.refl _ _) | (with_reducible exact Nat.le_refl _) | (with_reducible refine Below.bel ?_ ?_) | (with_reducible refine Below.alloc ?_ ?_ _) | (with_reducible refine Below.drew ?_) | (with_reducible refine Below.drawsN ?_ _) | (with_reducible refine Below.setCell ?_ ?_ _) | (with_reducible refine le_bel ?_) | (with_reducible refine le_alloc ?_) | (with_reducible refine le_setCell ?_) | (with_reducible refine le_drew ?_) | (with_reducible refine le_drawsN ?_) | (dsimp only; with_reducible refine le_bel ?_) | (dsimp only; with_reducible refine Nat.le_refl _) | (dsimp only; with_reducible refine le_bel_add ?_) | (with_reducible assumption) | omega | (dsimp only; omega)))))
                      · omega
                    · have ha1 : (0 : Int) ≤ 1000000 := by omega
                      have ha2 : ns ≤ 1000000 := by omega
                      have ha3 : (num t) ≤ 1000000 := by omega
                      clear ha
                      have E0 := Lib.hid (hE.trans (fin_ok ha1 ha2 ha3))
                      clear hE
                      have hp := mul_bd6 (a := (0 : Int)) (b := (num t)) (by omega) ha1 (by omega) ha3
                      go_wp2_with fail
                      (with_reducible refine (refmake_any _ _ _ (by omega) (by omega) (by omega) (by omega)).mono ?_)
                      rintro _ _ ⟨rfl, z, rfl⟩
                      go_wp2
                      refine bodyPost_ret (v := .tuple #[.agg #[.int .i64 (parseL l).1, .int .i64 (parseL l).2.1], .int .i64 (parseL l).2.2]) (by simp [results, Tryd.results28, go_sem]; rw [E0.out]; simp) rfl (Ret.mk (by rfl) (by (repeat' (first | (with_reducible exact Below.refl _ _) | (with_reducible exact Nat.le_refl _) | (with_reducible refine Below.bel ?_ ?_) | (with_reducible refine Below.alloc ?_ ?_ _) | (with_reducible refine Below.drew ?_) | (with_reducible refine Below.drawsN ?_ _) | (with_reducible refine Below.setCell ?_ ?_ _) | (with_reducible refine le_bel ?_) | (with_reducible refine le_alloc ?_) | (with_reducible refine le_setCell ?_) | (with_reducible refine le_drew ?_) | (with_reducible refine le_drawsN ?_) | (dsimp only; with_reducible refine le_bel ?_) | (dsimp only; with_reducible refine Nat.le_refl _) | (dsimp only; with_reducible refine le_bel_add ?_) | (with_reducible assumption) | omega | (dsimp only; omega)))))
                  · have E0 := Lib.hid (HV.trans (by rw [quoV_long hQ0 hQ h47 hu1]))
                    clear HE HV hQ hQ0 hr hrr
                    generalize nd l = n at *
                    generalize num l = ns at *
                    have hcm : ((1 : Int) + (nd t : Int) == (t.length : Int) + 1) = false := by rw [beq_eq_false_iff_ne]; omega
                    generalize nd t = m at *
                    go_enter Tryd.func28, Tryd.ntmps28
                    go_wp2_with fail
                    (with_reducible refine ((HD _)).mono ?_)
                    rintro _ _ ⟨rfl, x, rfl⟩
                    go_wp2_with fail
                    (with_reducible refine ((HU _)).mono ?_)
                    rintro _ _ ⟨rfl, z, rfl⟩
                    go_wp2
                    refine bodyPost_ret (v := .tuple #[.agg #[.int .i64 0, .int .i64 0], .int .i64 15]) (by simp [results, Tryd.results28, go_sem]) rfl (Ret.mk (by exact ret_triple E0.out) (by (repeat' (first | (with_reducible exact Below.refl _ _) | (with_reducible exact Nat.le_refl _) | (with_reducible refine Below.bel ?_ ?_) | (with_reducible refine Below.alloc ?_ ?_ _) | (with_reducible refine Below.drew ?_) | (with_reducible refine Below.drawsN ?_ _) | (with_reducible refine Below.setCell ?_ ?_ _) | (with_reducible refine le_bel ?_) | (with_reducible refine le_alloc ?_) | (with_reducible refine le_setCell ?_) | (with_reducible refine le_drew ?_) | (with_reducible refine le_drawsN ?_) | (dsimp only; with_reducible refine le_bel ?_) | (dsimp only; with_reducible refine Nat.le_refl _) | (dsimp only; with_reducible refine le_bel_add ?_) | (with_reducible assumption) | omega | (dsimp only; omega)))))
              · have E0 := Lib.hid (HV.trans (by rw [quoV_other hQ0 hQ h47]))
                clear HE HV hQ hQ0 hr hrr
                generalize nd l = n at *
                generalize num l = ns at *
                go_enter Tryd.func28, Tryd.ntmps28
                go_wp2_with fail
                (with_reducible refine ((HD _)).mono ?_)
                rintro _ _ ⟨rfl, x, rfl⟩
                go_wp2_with fail
                (with_reducible refine ((HU _)).mono ?_)
                rintro _ _ ⟨rfl, z, rfl⟩
                go_wp2
                refine bodyPost_ret (v := .tuple #[.agg #[.int .i64 0, .int .i64 0], .int .i64 15]) (by simp [results, Tryd.results28, go_sem]) rfl (Ret.mk (by exact ret_triple E0.out) (by (repeat' (first | (with_reducible exact Below.refl _ _) | (with_reducible exact Nat.le_refl _) | (with_reducible refine Below.bel ?_ ?_) | (with_reducible refine Below.alloc ?_ ?_ _) | (with_reducible refine Below.drew ?_) | (with_reducible refine Below.drawsN ?_ _) | (with_reducible refine Below.setCell ?_ ?_ _) | (with_reducible refine le_bel ?_) | (with_reducible refine le_alloc ?_) | (with_reducible refine le_setCell ?_) | (with_reducible refine le_drew ?_) | (with_reducible refine le_drawsN ?_) | (dsimp only; with_reducible refine le_bel ?_) | (dsimp only; with_reducible refine Nat.le_refl _) | (dsimp only; with_reducible refine le_bel_add ?_) | (with_reducible assumption) | omega | (dsimp only; omega)))))
end Go.Proofs.YtoncbkkhfblpdaaDoor
