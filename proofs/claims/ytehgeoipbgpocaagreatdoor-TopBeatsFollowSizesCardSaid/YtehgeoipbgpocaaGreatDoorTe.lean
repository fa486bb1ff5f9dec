/- Circles of fifths: sum. -/
import Derived.Test.YtehgeoipbgpocaaGreatDoorTd
namespace Go.Proofs.YtehgeoipbgpocaaGreatDoor
set_option linter.unusedVariables false
set_option linter.unusedSimpArgs false
open Go.RowKit
attribute [local go_sem low] Bel.cell Bel.frozen alloc_cell alloc_frozen

def suM (c : Cir) : Nat → Option Sz
  | 0 => some uniS
  | k + 1 => (suM c k).bind fun s => (fiS c k).bind fun x => if opE addQ s x = 0 then some (opS addQ s x) else none
theorem suM_none {c : Cir} {k : Nat} (h : suM c k = none) : ∀ j, suM c (k + j) = none
  | 0 => h
  | j + 1 => by
    show (suM c (k + j)).bind _ = none
    rw [suM_none h j]; rfl
theorem suM_1 {c : Cir} {k : Nat} {s : Sz} (h : suM c k = some s) (hf : fiS c k = none) : suM c (k + 1) = none := by
  show (suM c k).bind _ = none
  rw [h]
  show (fiS c k).bind _ = none
  rw [hf]; rfl
theorem suM_2 {c : Cir} {k : Nat} {s x : Sz} (h : suM c k = some s) (hf : fiS c k = some x) (he : opE addQ s x ≠ 0) : suM c (k + 1) = none := by
  show (suM c k).bind _ = none
  rw [h]
  show (fiS c k).bind _ = none
  rw [hf]
  exact if_neg he
theorem suM_3 {c : Cir} {k : Nat} {s x : Sz} (h : suM c k = some s) (hf : fiS c k = some x) (he : opE addQ s x = 0) : suM c (k + 1) = some (opS addQ s x) := by
  show (suM c k).bind _ = _
  rw [h]
  show (fiS c k).bind _ = _
  rw [hf]
  exact if_pos he
theorem suM_end {c : Cir} {k n : Nat} (h : suM c (k + 1) = none) (hk : k < n) : suM c n = none := by
  have := suM_none h (n - (k + 1))
  rwa [show k + 1 + (n - (k + 1)) = n by omega] at this
set_option maxRecDepth 100000 in
set_option maxHeartbeats 6400000 in
theorem sum_any (c : Cir) (n : Nat) (w : World) (hn : n ≤ 12) : Calls Tryz.prog 97 #[cirV c, .int .i64 (n : Int)] w (Ret (oV (suM c n)) w) := by
  have hVc : cirV c = .agg (cirA c) := rfl
  have HFI := Lib.hid (fun k hk w' => fifth_any c k w' hk)
  rw [hVc] at HFI ⊢
  generalize hRR : oV (suM c n) = RR at *
  have HRR := Lib.hid hRR
  clear hVc hRR
  have HN := Lib.hid n_uni
  rw [szV] at HN
  obtain ⟨s0, hs0⟩ : ∃ s, uniS = s := ⟨_, rfl⟩
  rw [hs0] at HN
  have HS0 : Hid (suM c 0 = some s0) := Lib.hid (by rw [← hs0]; rfl)
  clear hs0
  go_enter Tryz.func97, Tryz.ntmps97
  go_wp2_with fail
  (with_reducible refine (HN.out _).mono ?_)
  rintro _ _ ⟨rfl, x, rfl⟩
  have hxs := x.size_le
  rw [World.size_alloc, World.size_alloc] at hxs
  have hyc : (x.w.alloc (.cells #[.int .i64 s0.a.n, .int .i64 s0.a.d, .int .i64 s0.b.n, .int .i64 s0.b.d, .int .i64 s0.c.n, .int .i64 s0.c.d] 45)).heap[w.heap.size]? = some (.cells (cirA c) 36) := by
    repeat' (with_reducible first | exact obj_alloc _ (obj_new _ _) | apply obj_bel | apply obj_alloc)
  have hyr : (x.w.alloc (.cells #[.int .i64 s0.a.n, .int .i64 s0.a.d, .int .i64 s0.b.n, .int .i64 s0.b.d, .int .i64 s0.c.n, .int .i64 s0.c.d] 45)).heap[w.heap.size + 1]? = some (.cells #[.int .i64 0, .int .i64 0, .int .i64 0, .int .i64 0, .int .i64 0, .int .i64 0] 45) := by
    repeat' (with_reducible first | exact obj_new1 _ _ _ | apply obj_bel | apply obj_alloc)
  have hys := obj_new x.w (.cells #[.int .i64 s0.a.n, .int .i64 s0.a.d, .int .i64 s0.b.n, .int .i64 s0.b.d, .int .i64 s0.c.n, .int .i64 s0.c.d] 45)
  have hyb : Below w.heap.size w (x.w.alloc (.cells #[.int .i64 s0.a.n, .int .i64 s0.a.d, .int .i64 s0.b.n, .int .i64 s0.b.d, .int .i64 s0.c.n, .int .i64 s0.c.d] 45)) := by (repeat' (first | (with_reducible first | apply Zl1 | apply Zl2 | apply Zl3 | apply Zl4 | apply Zl5 | apply Zl6 | apply Zl7 | apply Zl8 | apply Zl9 | apply Zla | apply Zlb | apply Zlc) | (dsimp only; with_reducible first | apply Zl8 | apply Zl2 | apply Zld) | with_reducible assumption | omega | (dsimp only; omega)))
  obtain ⟨SB, hSB⟩ : ∃ SB, x.w.heap.size = SB := ⟨_, rfl⟩
  go_wp2_with fail
  rw [hSB] at hys hxs
  clear hSB
  go_loopw [12] (fun jv wr => ∃ (j : Nat) (s : Sz), j ≤ n ∧ suM c j = some s ∧ jv = .int .i64 (j : Int) ∧ Below w.heap.size w wr ∧ wr.heap[w.heap.size]? = some (.cells (cirA c) 36) ∧
      wr.heap[w.heap.size + 1]? = some (.cells #[.int .i64 0, .int .i64 0, .int .i64 0, .int .i64 0, .int .i64 0, .int .i64 0] 45) ∧
      wr.heap[SB]? = some (.cells #[.int .i64 s.a.n, .int .i64 s.a.d, .int .i64 s.b.n, .int .i64 s.b.d, .int .i64 s.c.n, .int .i64 s.c.d] 45)) (fun jv _ => n - (intOf jv).toNat)
  case atStart => exact ⟨0, s0, by omega, HS0.out, rfl, hyb, hyc, hyr, hys⟩
  case round =>
    obtain ⟨j, s, hj, hjs, rfl, hB, hoc, ho1, ho2⟩ := hrel
    have HJ := Lib.hid hjs
    have HOC := Lib.hid hoc
    have HO1 := Lib.hid ho1
    have HO2 := Lib.hid ho2
    have hbs := hB.size
    have hl2 := obj_lt ho2
    clear hjs hoc hyc hyr hys hyb
    by_cases hjn : j < n
    · have hji : (j : Int) < (n : Int) := by omega
      have HF := Lib.hid (fun w' => HFI.out j (by omega) w')
      clear ho1 ho2
      cases hf : fiS c j with
      | none =>
        have HNR : Hid (suM c n = none) := Lib.hid (suM_end (suM_1 HJ.out hf) hjn)
        rw [hf, oV_none] at HF
        clear hf
        go_wp2_with (refine wpList_ldC rfl _ rfl _ rfl (cirA c) HOC.out (cirA_size c) ?_)
        (with_reducible refine (HF.out _).mono ?_)
        rintro _ _ ⟨rfl, d, rfl⟩
        have hds := d.size_le
        have hd1 := obj_bel d HO1.out
        have hdb : Below w.heap.size w d.w := by (repeat' (first | (with_reducible first | apply Zl1 | apply Zl2 | apply Zl3 | apply Zl4 | apply Zl5 | apply Zl6 | apply Zl7 | apply Zl8 | apply Zl9 | apply Zla | apply Zlb | apply Zlc) | (dsimp only; with_reducible first | apply Zl8 | apply Zl2 | apply Zld) | with_reducible assumption | omega | (dsimp only; omega)))
        obtain ⟨D, hD⟩ : ∃ D, d.w = D := ⟨_, rfl⟩
        rw [hD] at hds hd1 hdb ⊢
        clear hD d
        have he1 := obj_alloc (.cells #[.int .i64 0, .int .i64 0, .int .i64 0, .int .i64 0, .int .i64 0, .int .i64 0] 45) hd1
        have hen := obj_new D (.cells #[.int .i64 0, .int .i64 0, .int .i64 0, .int .i64 0, .int .i64 0, .int .i64 0] 45)
        have heb : Below w.heap.size w (D.alloc (.cells #[.int .i64 0, .int .i64 0, .int .i64 0, .int .i64 0, .int .i64 0, .int .i64 0] 45)) := by (repeat' (first | (with_reducible first | apply Zl1 | apply Zl2 | apply Zl3 | apply Zl4 | apply Zl5 | apply Zl6 | apply Zl7 | apply Zl8 | apply Zl9 | apply Zla | apply Zlb | apply Zlc) | (dsimp only; with_reducible first | apply Zl8 | apply Zl2 | apply Zld) | with_reducible assumption | omega | (dsimp only; omega)))
        have hdl := obj_lt hd1
        obtain ⟨E, hE⟩ : ∃ E, D.alloc (.cells #[.int .i64 0, .int .i64 0, .int .i64 0, .int .i64 0, .int .i64 0, .int .i64 0] 45) = E := ⟨_, rfl⟩
        rw [hE] at he1 hen heb
        have HEQ := Lib.hid hE
        obtain ⟨b0, b1, b2, b3, b4, b5⟩ := froz6 he1
        obtain ⟨c0, c1, c2, c3, c4, c5⟩ := cells6 he1
        obtain ⟨f0, f1, f2, f3, f4, f5⟩ := froz6 hen
        obtain ⟨e0, e1, e2, e3, e4, e5⟩ := cells6 hen
        have HE1 := Lib.hid (obj_ne6 (.int .i64 0) (.int .i64 0) (.int .i64 0) (.int .i64 0) (.int .i64 0) (.int .i64 0) (show w.heap.size + 1 ≠ D.heap.size by omega) he1)
        clear hd1 he1 hen hE
        dsimp only
        go_wp2_with (rw [HEQ.out])
        refine ret_obj (b := w.heap.size + 1) (vs := #[.int .i64 0, .int .i64 0, .int .i64 0, .int .i64 0, .int .i64 0, .int .i64 0]) (T := 45) (v := .tuple #[.agg #[.int .i64 0, .int .i64 0, .int .i64 0, .int .i64 0, .int .i64 0, .int .i64 0], .int .i64 4]) (obj_set6 _ _ _ _ _ _ HE1.out) (fun W' hW' => ?_) rfl ?_
        · obtain ⟨a0, a1, a2, a3, a4, a5⟩ := cells6 hW'
          simp [results, Tryz.results97, go_sem, a0, a1, a2, a3, a4, a5]
        · exact Ret.mk (by rw [← HRR.out, HNR.out]; rfl) (by (repeat' (first | (with_reducible first | apply Zl1 | apply Zl2 | apply Zl3 | apply Zl4 | apply Zl5 | apply Zl6 | apply Zl7 | apply Zl8 | apply Zl9 | apply Zla | apply Zlb | apply Zlc) | (dsimp only; with_reducible first | apply Zl8 | apply Zl2 | apply Zld) | with_reducible assumption | omega | (dsimp only; omega))))
      | some xx =>
        have HFJ := Lib.hid hf
        rw [hf, oV_some] at HF
        have HAD := Lib.hid (fun w' => iadd_any s xx w')
        rw [szV s, szV xx] at HAD
        obtain ⟨r, hr⟩ : ∃ r, opS addQ s xx = r := ⟨_, rfl⟩
        obtain ⟨re, hre⟩ : ∃ re, opE addQ s xx = re := ⟨_, rfl⟩
        rw [hr, hre, szV r] at HAD
        have HR := Lib.hid hr
        have HRE := Lib.hid hre
        clear hf hr hre
        go_wp2_with (refine wpList_ldC rfl _ rfl _ rfl (cirA c) HOC.out (cirA_size c) ?_)
        (with_reducible refine (HF.out _).mono ?_)
        rintro _ _ ⟨rfl, d, rfl⟩
        have hds := d.size_le
        have hd0 := obj_alloc (.cells #[.int .i64 xx.a.n, .int .i64 xx.a.d, .int .i64 xx.b.n, .int .i64 xx.b.d, .int .i64 xx.c.n, .int .i64 xx.c.d] 45) (obj_bel d HOC.out)
        have hd1 := obj_alloc (.cells #[.int .i64 xx.a.n, .int .i64 xx.a.d, .int .i64 xx.b.n, .int .i64 xx.b.d, .int .i64 xx.c.n, .int .i64 xx.c.d] 45) (obj_bel d HO1.out)
        have hd2 := obj_alloc (.cells #[.int .i64 xx.a.n, .int .i64 xx.a.d, .int .i64 xx.b.n, .int .i64 xx.b.d, .int .i64 xx.c.n, .int .i64 xx.c.d] 45) (obj_bel d HO2.out)
        have hd2' := obj_bel d HO2.out
        have hdb : Below w.heap.size w (d.w.alloc (.cells #[.int .i64 xx.a.n, .int .i64 xx.a.d, .int .i64 xx.b.n, .int .i64 xx.b.d, .int .i64 xx.c.n, .int .i64 xx.c.d] 45)) := by (repeat' (first | (with_reducible first | apply Zl1 | apply Zl2 | apply Zl3 | apply Zl4 | apply Zl5 | apply Zl6 | apply Zl7 | apply Zl8 | apply Zl9 | apply Zla | apply Zlb | apply Zlc) | (dsimp only; with_reducible first | apply Zl8 | apply Zl2 | apply Zld) | with_reducible assumption | omega | (dsimp only; omega)))
        obtain ⟨D, hD⟩ : ∃ D, d.w = D := ⟨_, rfl⟩
        rw [hD] at hds hd0 hd1 hd2 hd2' hdb ⊢
        clear hD d
        obtain ⟨e0, e1, e2, e3, e4, e5⟩ := cells6 hd2'
        have hD1l := obj_lt hd2'
        have HD0 := Lib.hid hd0
        have HD1 := Lib.hid hd1
        have HD2 := Lib.hid hd2
        have HDB := Lib.hid hdb
        clear hd0 hd1 hd2 hd2' hdb
        dsimp only
        go_wp2_with fail
        (with_reducible refine (HAD.out _).mono ?_)
        rintro _ _ ⟨rfl, u, rfl⟩
        have hus := u.size_le
        rw [World.size_alloc] at hus
        have hu0 := obj_bel u HD0.out
        have hu1 := obj_bel u HD1.out
        have hu2 := obj_bel u HD2.out
        have hub : Below w.heap.size w u.w := HDB.out.trans (u.below.mono HDB.out.size)
        obtain ⟨U, hU⟩ : ∃ U, u.w = U := ⟨_, rfl⟩
        rw [hU] at hus hu0 hu1 hu2 hub ⊢
        clear hU u
        clear e0 e1 e2 e3 e4 e5
        obtain ⟨f0, f1, f2, f3, f4, f5⟩ := froz6 hu2
        obtain ⟨e0, e1, e2, e3, e4, e5⟩ := cells6 hu2
        obtain ⟨b0, b1, b2, b3, b4, b5⟩ := froz6 hu1
        obtain ⟨c0, c1, c2, c3, c4, c5⟩ := cells6 hu1
        have HU0 := Lib.hid (obj_ne6 (.int .i64 r.a.n) (.int .i64 r.a.d) (.int .i64 r.b.n) (.int .i64 r.b.d) (.int .i64 r.c.n) (.int .i64 r.c.d) (show w.heap.size ≠ SB by omega) hu0)
        have HU1 := Lib.hid (obj_ne6 (.int .i64 r.a.n) (.int .i64 r.a.d) (.int .i64 r.b.n) (.int .i64 r.b.d) (.int .i64 r.c.n) (.int .i64 r.c.d) (show w.heap.size + 1 ≠ SB by omega) hu1)
        have HU2 := Lib.hid (obj_set6 (.int .i64 r.a.n) (.int .i64 r.a.d) (.int .i64 r.b.n) (.int .i64 r.b.d) (.int .i64 r.c.n) (.int .i64 r.c.d) hu2)
        have HUB := Lib.hid (below_set6 (.int .i64 r.a.n) (.int .i64 r.a.d) (.int .i64 r.b.n) (.int .i64 r.b.d) (.int .i64 r.c.n) (.int .i64 r.c.d) hub (show w.heap.size ≤ SB by omega))
        have hU1l := obj_lt hu1
        clear hu0 hu1 hu2 HD0 HD1 HD2 HDB
        dsimp only
        by_cases hre : re = 0
        · have n1 : (re != 0) = false := by simpa using hre
          have HNW : Hid (suM c (j + 1) = some r) := Lib.hid (by rw [suM_3 HJ.out HFJ.out (by rw [HRE.out]; exact hre), HR.out])
          clear hre
          go_wp2_with fail
          go_roundw
          case rel => exact ⟨j + 1, r, by omega, HNW.out, by go_num, HUB.out, HU0.out, HU1.out, HU2.out⟩
          case measure => simp [intOf]; omega
        · have n1 : (re != 0) = true := by simpa using hre
          have HNR : Hid (suM c n = none) := Lib.hid (suM_end (suM_2 HJ.out HFJ.out (by rw [HRE.out]; exact hre)) hjn)
          have hubl := HUB.out
          clear hre
          go_wp2
          refine ret_obj (b := w.heap.size + 1) (vs := #[.int .i64 0, .int .i64 0, .int .i64 0, .int .i64 0, .int .i64 0, .int .i64 0]) (T := 45) (v := .tuple #[.agg #[.int .i64 0, .int .i64 0, .int .i64 0, .int .i64 0, .int .i64 0, .int .i64 0], .int .i64 4]) (obj_set6 _ _ _ _ _ _ HU1.out) (fun W' hW' => ?_) rfl ?_
          · obtain ⟨a0, a1, a2, a3, a4, a5⟩ := cells6 hW'
            simp [results, Tryz.results97, go_sem, a0, a1, a2, a3, a4, a5]
          · exact Ret.mk (by rw [← HRR.out, HNR.out]; rfl) (by (repeat' (first | (with_reducible first | apply Zl1 | apply Zl2 | apply Zl3 | apply Zl4 | apply Zl5 | apply Zl6 | apply Zl7 | apply Zl8 | apply Zl9 | apply Zla | apply Zlb | apply Zlc) | (dsimp only; with_reducible first | apply Zl8 | apply Zl2 | apply Zld) | with_reducible assumption | omega | (dsimp only; omega))))
    · obtain rfl : j = n := by omega
      have HNR : Hid (suM c j = some s) := HJ
      obtain ⟨e0, e1, e2, e3, e4, e5⟩ := cells6 ho2
      obtain ⟨b0, b1, b2, b3, b4, b5⟩ := froz6 ho1
      obtain ⟨h0, h1, h2, h3, h4, h5⟩ := cells6 ho1
      clear hjn hj ho1 ho2
      go_wp2
      refine ret_obj (b := w.heap.size + 1) (vs := #[.int .i64 s.a.n, .int .i64 s.a.d, .int .i64 s.b.n, .int .i64 s.b.d, .int .i64 s.c.n, .int .i64 s.c.d]) (T := 45) (v := .tuple #[.agg #[.int .i64 s.a.n, .int .i64 s.a.d, .int .i64 s.b.n, .int .i64 s.b.d, .int .i64 s.c.n, .int .i64 s.c.d], .int .i64 0]) (obj_set6 _ _ _ _ _ _ HO1.out) (fun W' hW' => ?_) rfl ?_
      · obtain ⟨a0, a1, a2, a3, a4, a5⟩ := cells6 hW'
        simp [results, Tryz.results97, go_sem, a0, a1, a2, a3, a4, a5]
      · exact Ret.mk (by rw [← HRR.out, HNR.out]; rfl) (by (repeat' (first | (with_reducible first | apply Zl1 | apply Zl2 | apply Zl3 | apply Zl4 | apply Zl5 | apply Zl6 | apply Zl7 | apply Zl8 | apply Zl9 | apply Zla | apply Zlb | apply Zlc) | (dsimp only; with_reducible first | apply Zl8 | apply Zl2 | apply Zld) | with_reducible assumption | omega | (dsimp only; omega))))
end Go.Proofs.YtehgeoipbgpocaaGreatDoor
