/- Count. -/
import Derived.Test.YtkdmhjlcgpnjpaaGreatDoorX26
namespace Go.Proofs.YtkdmhjlcgpnjpaaGreatDoor
set_option linter.unusedVariables false
set_option linter.unusedSimpArgs false
open Go.RowKit Go.Maps
attribute [local go_sem low] Bel.cell Bel.frozen alloc_cell alloc_frozen
attribute [local go_sem] calmOp chainOp yieldsC grows
variable {rk : Nat → Nat}

set_option maxRecDepth 100000 in
set_option maxHeartbeats 6400000 in
theorem Count_bad (x : DI) (n : Int) (w : World) (q : Nat) (hx : DIok w x) (hq : chkD x.2.2.1 x.2.2.2 = q) (h0 : q ≠ 0) :
    Calls Tryz.prog 20 #[diV x, .int .i64 n] w (Ret (.tuple #[.string ⟨#[]⟩, .int .i64 (q : Int)]) w) := by
  have HK := Lib.hid (fun w' (hb : Below w.heap.size w w') => (show Calls Tryz.prog 37 #[.agg #[.slice x.1 x.2.2.1.length x.2.1, .int .i64 x.2.2.2]] w' (Ret (.int .i64 (q : Int)) w') from by
    obtain ⟨o1, o2, o3, o4⟩ := hx.of hb
    have h := dCheck_any _ o2 o3 x.1 x.2.1 _ o4 w' o1
    rw [hq] at h
    exact h))
  have f0 : ((q : Int) != 0) = true := by simp; omega
  obtain ⟨ad, cap, M, r⟩ := x
  dsimp only at HK hx ⊢
  clear hx hq h0
  go_enter Tryz.func20, Tryz.ntmps20
  go_wp2_with fail
  refine (HK.out _ (by (repeat' (first | (with_reducible first | exact Below.refl _ _ | exact Nat.le_refl _ | refine Below.bel ?_ ?_ | refine Below.alloc ?_ ?_ _ | refine Below.drew ?_ | refine Below.drawsN ?_ _ | refine Below.setCell ?_ ?_ _ | refine le_bel ?_ | refine le_alloc ?_ | refine le_setCell ?_ | refine le_drew ?_ | refine le_drawsN ?_) | (dsimp only; with_reducible first | refine le_bel ?_ | refine Nat.le_refl _ | refine le_bel_add ?_) | (with_reducible assumption) | omega | (dsimp only; omega))))).mono ?_
  rintro _ _ ⟨rfl, y1, rfl⟩
  dsimp only
  go_wp2
  refine bodyPost_ret (v := .tuple #[.string ⟨#[]⟩, .int .i64 (q : Int)]) (by simp [results, Tryz.results20, go_sem]) rfl (Ret.mk rfl (by (repeat' (first | (with_reducible first | exact Below.refl _ _ | exact Nat.le_refl _ | refine Below.bel ?_ ?_ | refine Below.alloc ?_ ?_ _ | refine Below.drew ?_ | refine Below.drawsN ?_ _ | refine Below.setCell ?_ ?_ _ | refine le_bel ?_ | refine le_alloc ?_ | refine le_setCell ?_ | refine le_drew ?_ | refine le_drawsN ?_) | (dsimp only; with_reducible first | refine le_bel ?_ | refine Nat.le_refl _ | refine le_bel_add ?_) | (with_reducible assumption) | omega | (dsimp only; omega)))))
theorem node_getD {M : List (Nat × Nat × Nat)} {k : Nat} {x : Nat × Nat × Nat} (h : M[k]? = some x) : M.getD k (0, 0, 0) = x ∧ node3 M (k + 2) = x := by
  have e : M.getD k (0, 0, 0) = x := by rw [List.getD_eq_getElem?_getD, h]; rfl
  refine ⟨e, ?_⟩
  unfold node3
  rw [Nat.add_sub_cancel, e]
theorem lev_le {M : List (Nat × Nat × Nat)} {n p : Nat} (hM : Good M) (hn : ∀ x ∈ M, x.1 < n) (hp : p < M.length + 2) : lev3 M n p ≤ n := by
  unfold lev3
  split
  · exact Nat.le_refl _
  · rename_i h
    have := hn _ (List.mem_of_getElem? (node3_some hp (by omega)))
    omega
theorem lev_gt {M : List (Nat × Nat × Nat)} {n q a : Nat} (hM : Good M) (hq : q < M.length + 2) (ha : a < n) (hv : a < var3 M q) : a + 1 ≤ lev3 M n q := by
  unfold lev3
  split
  · exact ha
  · rename_i h
    have := (node3_ok hM hq (by omega)).2.2.2.2.2.1
    omega
theorem cnt_le {M : List (Nat × Nat × Nat)} (hM : Good M) {n : Nat} (hn : ∀ x ∈ M, x.1 < n) {k p : Nat} (hk : k ≤ M.length) (hp : p < k + 2) (d : Nat) (hd : d ≤ lev3 M n p) : 2 ^ d * (cntL M n k).getD p 0 ≤ 2 ^ n := by
  have h := cntL_le hM hn (p := p) (by omega)
  rw [cntL_get M n k M.length hk p hp] at h
  exact Nat.le_trans (Nat.mul_le_mul_right _ (Nat.pow_le_pow_right (by decide) hd)) h
theorem ownT_k {w : World} {base m : Nat} {v : Value} {l : List Nat} (hl : l.length = m) (h : OwnT w base v l) : w.ownsRow base 40 1 v m (txtsV l) := by rw [← hl]; exact h
set_option maxRecDepth 100000 in
set_option maxHeartbeats 12800000 in
theorem Count_ok (x : DN) (n : Nat) (w : World) (hx : DNok rk w x) (hn : n ≤ 1000) (he : enoughD (x.2.2.1.map z3) (n : Int) = true) (hT : I.Tab w) : Calls Tryz.prog 20 #[dnV x, .int .i64 (n : Int)] w (Ret (.tuple #[.string ⟨(I.iT (cntD x.2.2.1 x.2.2.2 n : Int)).toArray⟩, .int .i64 0]) w) := by
  obtain ⟨i0, hi0, hz0, hz1, hz2⟩ := info_parts Tryz.infoTx
  have HK := Lib.hid (fun w' (hb : Below w.heap.size w w') => (show Calls Tryz.prog 37 #[.agg #[.slice x.1 x.2.2.1.length x.2.1, .int .i64 (x.2.2.2 : Int)]] w' (Ret (.int .i64 0) w') from by
    obtain ⟨o1, o2, o3, o4⟩ := hx.di.of hb
    have h := dCheck_any _ o2 o3 x.1 x.2.1 _ o4 w' o1
    rw [show chkD (toI x).2.2.1 (toI x).2.2.2 = 0 from hx.chk, show (toI x).2.2.1.length = x.2.2.1.length from List.length_map ..] at h
    exact h))
  have HE := Lib.hid (fun w' (hb : Below w.heap.size w w') => (show Calls Tryz.prog 51 #[.agg #[.slice x.1 x.2.2.1.length x.2.1, .int .i64 (x.2.2.2 : Int)], .int .i64 (n : Int)] w' (Ret (.bool (enoughD (x.2.2.1.map z3) (n : Int))) w') from by
    have h := enough_any (x.2.2.1.map z3) x.1 x.2.1 (x.2.2.2 : Int) (n : Int) w' ((hx.ind.of hb).up hb.size) (by rw [List.length_map]; have := hx.len; omega)
    rw [List.length_map] at h
    exact h))
  have hen := (enoughD_iff _ _).1 he
  rw [he] at HE
  have hlen := hx.len
  have hroot := hx.root
  have HG := Lib.hid hx.good
  have HI := Lib.hid hx.ind
  have HT := Lib.hid hT
  obtain ⟨ad, cap, M, r⟩ := x
  dsimp only at HK HE hlen hroot HG HI hen ⊢
  have f1 : decide ((n : Int) < 0) = false := decide_eq_false (by omega)
  have f2 : decide ((1000 : Int) < (n : Int)) = false := decide_eq_false (by omega)
  have HEN := Lib.hid (show ∀ y ∈ M, y.1 < n from fun y hy => by
    have := hen (z3 y) (List.mem_map.2 ⟨y, hy, rfl⟩)
    dsimp only [z3] at this
    omega)
  clear hx he hen hT
  have egl := egLevel
  have egt := egTimes
  go_enter Tryz.func20, Tryz.ntmps20
  go_wp2_with fail
  refine (HK.out _ (by (repeat' (first | (with_reducible first | exact Below.refl _ _ | exact Nat.le_refl _ | refine Below.bel ?_ ?_ | refine Below.alloc ?_ ?_ _ | refine Below.drew ?_ | refine Below.drawsN ?_ _ | refine Below.setCell ?_ ?_ _ | refine le_bel ?_ | refine le_alloc ?_ | refine le_setCell ?_ | refine le_drew ?_ | refine le_drawsN ?_) | (dsimp only; with_reducible first | refine le_bel ?_ | refine Nat.le_refl _ | refine le_bel_add ?_) | (with_reducible assumption) | omega | (dsimp only; omega))))).mono ?_
  rintro _ _ ⟨rfl, y1, rfl⟩
  dsimp only
  go_wp2_with fail
  refine (HE.out _ (by (repeat' (first | (with_reducible first | exact Below.refl _ _ | exact Nat.le_refl _ | refine Below.bel ?_ ?_ | refine Below.alloc ?_ ?_ _ | refine Below.drew ?_ | refine Below.drawsN ?_ _ | refine Below.setCell ?_ ?_ _ | refine le_bel ?_ | refine le_alloc ?_ | refine le_setCell ?_ | refine le_drew ?_ | refine le_drawsN ?_) | (dsimp only; with_reducible first | refine le_bel ?_ | refine Nat.le_refl _ | refine le_bel_add ?_) | (with_reducible assumption) | omega | (dsimp only; omega))))).mono ?_
  rintro _ _ ⟨rfl, y2, rfl⟩
  have hbz : Below w.heap.size w y2.w := by (repeat' (first | (with_reducible first | exact Below.refl _ _ | exact Nat.le_refl _ | refine Below.bel ?_ ?_ | refine Below.alloc ?_ ?_ _ | refine Below.drew ?_ | refine Below.drawsN ?_ _ | refine Below.setCell ?_ ?_ _ | refine le_bel ?_ | refine le_alloc ?_ | refine le_setCell ?_ | refine le_drew ?_ | refine le_drawsN ?_) | (dsimp only; with_reducible first | refine le_bel ?_ | refine Nat.le_refl _ | refine le_bel_add ?_) | (with_reducible assumption) | omega | (dsimp only; omega)))
  have o0 := obj_in y2.below (obj_in y1.below (obj_alloc (.cells #[.int .i64 (n : Int)] 3 (0, 0)) (World.alloc_heap_new w (.cells #[.slice ad M.length cap, .int .i64 (r : Int)] 30 (0, 0)))))
  have o1 := obj_in y2.below (obj_in y1.below (World.alloc_heap_new (w.alloc (.cells #[.slice ad M.length cap, .int .i64 (r : Int)] 30 (0, 0))) (.cells #[.int .i64 (n : Int)] 3 (0, 0))))
  rw [World.size_alloc] at o1
  obtain ⟨d0, d1, -⟩ := cells2 o0
  obtain ⟨Z, hZ⟩ : ∃ Z, y2.w = Z := ⟨_, rfl⟩
  rw [hZ] at hbz d0 d1 o0 o1 ⊢
  have HBZ := Lib.hid hbz
  have HO0 := Lib.hid o0
  have HO1 := Lib.hid o1
  clear o0 o1 hZ hbz y2 y1
  dsimp only
  go_wp2_with fail
  obtain ⟨Z1, hZ1⟩ : ∃ Z1, Z.alloc (.cells #[.func (.func 52) #[] #[.pointer (some ⟨w.heap.size + 1, 0, none⟩), .pointer (some ⟨w.heap.size, 0, none⟩)]] 94) = Z1 := ⟨_, rfl⟩
  have p1 := World.alloc_heap_new Z (.cells #[.func (.func 52) #[] #[.pointer (some ⟨w.heap.size + 1, 0, none⟩), .pointer (some ⟨w.heap.size, 0, none⟩)]] 94)
  have s1 : Z1.heap.size = Z.heap.size + 1 := by rw [← hZ1, World.size_alloc]
  have b1 : Below Z.heap.size Z Z1 := by rw [← hZ1]; (repeat' (first | (with_reducible first | exact Below.refl _ _ | exact Nat.le_refl _ | refine Below.bel ?_ ?_ | refine Below.alloc ?_ ?_ _ | refine Below.drew ?_ | refine Below.drawsN ?_ _ | refine Below.setCell ?_ ?_ _ | refine le_bel ?_ | refine le_alloc ?_ | refine le_setCell ?_ | refine le_drew ?_ | refine le_drawsN ?_) | (dsimp only; with_reducible first | refine le_bel ?_ | refine Nat.le_refl _ | refine le_bel_add ?_) | (with_reducible assumption) | omega | (dsimp only; omega)))
  rw [hZ1] at p1 ⊢
  obtain ⟨Z2, hZ2⟩ : ∃ Z2, Z1.alloc (.cells #[.string ⟨#[48]⟩, .string ⟨#[49]⟩] 40) = Z2 := ⟨_, rfl⟩
  have p2 := World.alloc_heap_new Z1 (.cells #[.string ⟨#[48]⟩, .string ⟨#[49]⟩] 40)
  have s2 : Z2.heap.size = Z.heap.size + 1 + 1 := by rw [← hZ2, World.size_alloc, s1]
  have b2 : Below Z1.heap.size Z1 Z2 := by rw [← hZ2]; (repeat' (first | (with_reducible first | exact Below.refl _ _ | exact Nat.le_refl _ | refine Below.bel ?_ ?_ | refine Below.alloc ?_ ?_ _ | refine Below.drew ?_ | refine Below.drawsN ?_ _ | refine Below.setCell ?_ ?_ _ | refine le_bel ?_ | refine le_alloc ?_ | refine le_setCell ?_ | refine le_drew ?_ | refine le_drawsN ?_) | (dsimp only; with_reducible first | refine le_bel ?_ | refine Nat.le_refl _ | refine le_bel_add ?_) | (with_reducible assumption) | omega | (dsimp only; omega)))
  rw [hZ2] at p2 ⊢
  rw [s1] at p2
  obtain ⟨Z3, hZ3⟩ : ∃ Z3, Z2.alloc (.cells #[.slice (some ⟨Z.heap.size + 1, 0, none⟩) 2 2] 95) = Z3 := ⟨_, rfl⟩
  have p3 := World.alloc_heap_new Z2 (.cells #[.slice (some ⟨Z.heap.size + 1, 0, none⟩) 2 2] 95)
  have s3 : Z3.heap.size = Z.heap.size + 1 + 1 + 1 := by rw [← hZ3, World.size_alloc, s2]
  have b3 : Below Z2.heap.size Z2 Z3 := by rw [← hZ3]; (repeat' (first | (with_reducible first | exact Below.refl _ _ | exact Nat.le_refl _ | refine Below.bel ?_ ?_ | refine Below.alloc ?_ ?_ _ | refine Below.drew ?_ | refine Below.drawsN ?_ _ | refine Below.setCell ?_ ?_ _ | refine le_bel ?_ | refine le_alloc ?_ | refine le_setCell ?_ | refine le_drew ?_ | refine le_drawsN ?_) | (dsimp only; with_reducible first | refine le_bel ?_ | refine Nat.le_refl _ | refine le_bel_add ?_) | (with_reducible assumption) | omega | (dsimp only; omega)))
  rw [hZ3] at p3 ⊢
  rw [s2] at p3
  have p1' := obj_in b3 (obj_in b2 p1)
  have p2' := obj_in b3 p2
  have hb3 : Below Z.heap.size Z Z3 := b1.trans ((b2.mono (by omega)).trans (b3.mono (by omega)))
  have how3 : OwnT Z3 (Z.heap.size + 1) (.slice (some ⟨Z.heap.size + 1, 0, none⟩) 2 2) (cntL M n 0) := by
    refine ⟨rfl, .inr ⟨Z.heap.size + 1, 2, _, rfl, Nat.le_refl _, p2', Nat.le_refl _, by unfold maxLen; omega, rfl, ?_⟩⟩
    show _ = [Value.string ⟨(I.iT ((0 : Nat) : Int)).toArray⟩, Value.string ⟨(I.iT ((1 : Nat) : Int)).toArray⟩]
    rw [show (⟨(I.iT ((0 : Nat) : Int)).toArray⟩ : ByteArray) = ⟨#[48]⟩ from iT_0, show (⟨(I.iT ((1 : Nat) : Int)).toArray⟩ : ByteArray) = ⟨#[49]⟩ from iT_1]
    rfl
  have HB3 := Lib.hid hb3
  have HOW3 := Lib.hid how3
  have HP1 := Lib.hid p1'
  have HP3 := Lib.hid p3
  clear p1 p2 p3 b1 b2 b3 p1' p2' hZ1 hZ2 hZ3 s1 s2 hb3 how3 d0 d1
  obtain ⟨bc, hbc⟩ : ∃ bc, Z.heap.size + 1 + 1 = bc := ⟨_, rfl⟩
  rw [hbc] at HP3 s3 ⊢
  go_loopw [33] (fun iv wr => ∃ (k : Nat) (v : Value), iv = .int .i64 (k : Int) ∧ k ≤ M.length ∧ wr.heap[bc]? = some (.cells #[v] 95 (0, 0)) ∧ wr.heap[Z.heap.size]? = some (.cells #[.func (.func 52) #[] #[.pointer (some ⟨w.heap.size + 1, 0, none⟩), .pointer (some ⟨w.heap.size, 0, none⟩)]] 94 (0, 0)) ∧ OwnT wr (Z.heap.size + 1) v (cntL M n k) ∧ v.ownBlock ≠ some bc ∧ Below Z.heap.size Z wr) (fun iv _ => M.length - (intOf iv).toNat)
  case atStart => exact ⟨0, _, rfl, Nat.zero_le _, HP3.out, HP1.out, HOW3.out, fun e => by (injection e with e; dsimp only at e; omega), HB3.out⟩
  case round =>
    obtain ⟨k, v, rfl, hk, hcb, hlb, how, hne, hbe⟩ := hrel
    have HOW := Lib.hid how
    have HNE := Lib.hid hne
    have HBE := Lib.hid hbe
    have HCB := Lib.hid hcb
    have HLB := Lib.hid hlb
    have hsz := HBZ.out.size
    have hws := hbe.size
    have hbcl : bc < wr.heap.size := (Array.getElem?_eq_some_iff.1 hcb).1
    have c0 : wr.cell? ⟨bc, 0, none⟩ = some v := by simp [World.cell?, hcb]
    have HTA := Lib.hid (fun w' (hb : Below wr.heap.size wr w') (p fr : Nat) (hp : p < k + 2) (hfr : fr ≤ lev3 M n p) => times_any M ad cap n p fr (w.heap.size + 1) w.heap.size Z.heap.size bc (Z.heap.size + 1) v (cntL M n k) w'
      ((HI.out.of ((HBZ.out.trans (HBE.out.mono hsz)).trans (hb.mono (by omega)))).up (by have := hb.size; omega)) hlen hn
      (by have := obj_in hb (obj_in HBE.out HO1.out); simp [World.cell?, this]) (by have := obj_in hb (obj_in HBE.out HO0.out); simp [World.cell?, this]) (by have := obj_in hb HLB.out; simp [World.cell?, this]) (by have := obj_in hb HCB.out; simp [World.cell?, this])
      (ownT_bel HOW.out hb) (by rw [cntL_len]; exact hp) (by omega) hfr (lev_le HG.out HEN.out (by omega)) (by have := cnt_le HG.out HEN.out hk hp 0 (Nat.zero_le _); omega) (HT.out.of ((HBZ.out.trans (HBE.out.mono hsz)).trans (hb.mono (by omega)))))
    clear hcb hlb how hne hbe
    rcases Nat.lt_or_ge k M.length with hkl | hkl
    · obtain ⟨x, hx⟩ : ∃ x, M[k]? = some x := ⟨_, List.getElem?_eq_getElem hkl⟩
      obtain ⟨g, off, hadd, hg, hcs⟩ := (HI.out.of (HBZ.out.trans (HBE.out.mono hsz))) (by rw [List.length_map]; omega)
      subst hadd
      obtain ⟨x0, x1, x2⟩ := hcs k (z3 x) (by rw [List.getElem?_map, hx]; rfl)
      dsimp only [z3] at x0 x1 x2
      obtain ⟨hn1, hn2⟩ := node_getD hx
      obtain ⟨a1, a2, -, a4, a5, -, -⟩ := node3_ok HG.out (p := k + 2) (by omega) (by omega)
      rw [hn2] at a1 a2 a4 a5
      have hxl := HEN.out _ (List.mem_of_getElem? hx)
      have hstep : cntL M n (k + 1) = cntL M n k ++ [2 ^ (lev3 M n x.2.1 - (x.1 + 1)) * (cntL M n k).getD x.2.1 0 + 2 ^ (lev3 M n x.2.2 - (x.1 + 1)) * (cntL M n k).getD x.2.2 0] := by rw [cntL]; unfold cntS; rw [hn1]
      have e1 := cnt_le HG.out HEN.out hk a1 (lev3 M n x.2.1 - (x.1 + 1)) (Nat.sub_le _ _)
      have e2 := cnt_le HG.out HEN.out hk a2 (lev3 M n x.2.2 - (x.1 + 1)) (Nat.sub_le _ _)
      have HT1 := Lib.hid (fun w' (hb : Below wr.heap.size wr w') => HTA.out w' hb x.2.1 (x.1 + 1) a1 (lev_gt HG.out (by omega) hxl a4))
      have HT2 := Lib.hid (fun w' (hb : Below wr.heap.size wr w') => HTA.out w' hb x.2.2 (x.1 + 1) a2 (lev_gt HG.out (by omega) hxl a5))
      obtain ⟨xa, xn, xy⟩ := x
      dsimp only at x0 x1 x2 a1 a2 hstep e1 e2 HT1 HT2 hxl
      obtain ⟨A, hA⟩ : ∃ A, 2 ^ (lev3 M n xn - (xa + 1)) * (cntL M n k).getD xn 0 = A := ⟨_, rfl⟩
      obtain ⟨B, hB⟩ : ∃ B, 2 ^ (lev3 M n xy - (xa + 1)) * (cntL M n k).getD xy 0 = B := ⟨_, rfl⟩
      rw [hA, hB] at hstep
      rw [hA] at e1 HT1
      rw [hB] at e2 HT2
      rw [show (((xa + 1 : Nat)) : Int) = (xa : Int) + 1 from rfl] at HT1 HT2
      have HAD := Lib.hid (fun w' (hb : Below wr.heap.size wr w') => I.add_any (A : Int) (B : Int) w' (by have := nd_le1 e1; omega) (by have := nd_le1 e2; omega) (HT.out.of ((HBZ.out.trans (HBE.out.mono hsz)).trans (hb.mono (by omega)))))
      rw [show (A : Int) + (B : Int) = ((A + B : Nat) : Int) from rfl] at HAD
      have hav : txtsV (cntL M n k ++ [A + B]) = txtsV (cntL M n k) ++ [.string ⟨(I.iT ((A + B : Nat) : Int)).toArray⟩] := by unfold txtsV; rw [List.map_append]; rfl
      obtain ⟨ta, hta⟩ : ∃ t, (⟨(I.iT (A : Int)).toArray⟩ : ByteArray) = t := ⟨_, rfl⟩
      obtain ⟨tb, htb⟩ : ∃ t, (⟨(I.iT (B : Int)).toArray⟩ : ByteArray) = t := ⟨_, rfl⟩
      obtain ⟨tc, htc⟩ : ∃ t, (⟨(I.iT ((A + B : Nat) : Int)).toArray⟩ : ByteArray) = t := ⟨_, rfl⟩
      rw [hta] at HT1 HAD
      rw [htb] at HT2 HAD
      rw [htc] at HAD hav
      have HST := Lib.hid hstep
      have HAV := Lib.hid hav
      have f0 : decide ((k : Int) < (M.length : Int)) = true := decide_eq_true (by omega)
      have hib : (0 ≤ (k : Int) ∧ (k : Int) < (M.length : Int)) := ⟨by omega, by omega⟩
      clear hcs hx hn1 hn2 a1 a2 a4 a5 hstep e1 e2 hA hB hta htb htc hav
      go_wp2_with fail
      have hbY : Below wr.heap.size wr (wr.alloc (.cells #[.int .i64 (xa : Int), .int .i64 (xn : Int), .int .i64 (xy : Int)] 55 (0, 0))) := by (repeat' (first | (with_reducible first | exact Below.refl _ _ | exact Nat.le_refl _ | refine Below.bel ?_ ?_ | refine Below.alloc ?_ ?_ _ | refine Below.drew ?_ | refine Below.drawsN ?_ _ | refine Below.setCell ?_ ?_ _ | refine le_bel ?_ | refine le_alloc ?_ | refine le_setCell ?_ | refine le_drew ?_ | refine le_drawsN ?_) | (dsimp only; with_reducible first | refine le_bel ?_ | refine Nat.le_refl _ | refine le_bel_add ?_) | (with_reducible assumption) | omega | (dsimp only; omega)))
      have o5 := World.alloc_heap_new wr (.cells #[.int .i64 (xa : Int), .int .i64 (xn : Int), .int .i64 (xy : Int)] 55 (0, 0))
      have o6 := obj_in hbY HCB.out
      obtain ⟨X5, hX5⟩ : ∃ X5, wr.heap.size = X5 := ⟨_, rfl⟩
      obtain ⟨Y, hY⟩ : ∃ Y, wr.alloc (.cells #[.int .i64 (xa : Int), .int .i64 (xn : Int), .int .i64 (xy : Int)] 55 (0, 0)) = Y := ⟨_, rfl⟩
      have hYs : Y.heap.size = X5 + 1 := by rw [← hY, World.size_alloc, hX5]
      rw [hY] at hbY o5 o6 ⊢
      rw [hX5] at o5 ⊢
      have hwrap : IntKind.i64.wrap ((xa : Int) + 1) = (xa : Int) + 1 := IntWalk.i64_in _ (by omega)
      have SK := Lib.hid (show ∀ V : World, Below Y.heap.size Y V → V.cell? ⟨X5, 0, none⟩ = some (.int .i64 (xa : Int)) ∧ V.cell? ⟨X5, 1, none⟩ = some (.int .i64 (xn : Int)) ∧ V.cell? ⟨X5, 2, none⟩ = some (.int .i64 (xy : Int)) from fun V hb => by
        have := obj_in hb o5
        refine ⟨?_, ?_, ?_⟩ <;> simp [World.cell?, this])
      have c5 : Y.cell? ⟨bc, 0, none⟩ = some v := by simp [World.cell?, o6]
      have c6 : Y.frozen? ⟨bc, 0, none⟩ = false := by simp [World.frozen?, o6]
      have hbc5 : bc < Y.heap.size := by omega
      have hbc6 : X5 ≠ bc := by omega
      have HOY := Lib.hid (ownT_bel HOW.out hbY)
      have HO6 := Lib.hid o6
      have HBY := Lib.hid (HBE.out.trans (hbY.mono hws))
      have HWY := Lib.hid hbY
      have hl2 : (cntL M n k).length = k + 2 := cntL_len M n k
      have hxl5 := (Array.getElem?_eq_some_iff.1 o5).1
      have HV5 := Lib.hid (show v.ownBlock ≠ some X5 from fun e => by have := (World.ownsRow.lt HOW.out _ e).2; omega)
      clear o5 o6 hbY hY c0 x0 x1 x2
      obtain ⟨k0, k1, k2⟩ := SK.out Y (Below.refl _ _)
      refine wp_region_plan 17 (.calm 0 (.calm 1 (.calm 2 (.calm 3 (.calm 4 (.calm 5 (.calm 6 (.calm 7 (.calm 8 (.calm 9 (.calm 10 (.calm 11 (.calm 12 (.calm 13 (.calm 14 (.calm 15 (.fork 16 .tail .none))))))))))))))))) (by kernel_rfl) (by kernel_rfl) ?_
      simp only [Plan.walk, operAt, List.getElem?_cons_succ, List.getElem?_cons_zero, Option.getD_some, List.drop_succ_cons, List.drop_zero]
      repeat (refine wpX_calm (fun K hK => ?_); go_simp; first | (refine hK _ _ ?_; clear hK K) | (apply Exists.intro; refine ⟨fun _ => ?_, hK _ _ ?_⟩; ((first | with_reducible exact HT1.out _ (HWY.out.trans ((Bel.below _).mono HWY.out.size)) | with_reducible exact HT2.out _ (HWY.out.trans ((Bel.below _).mono HWY.out.size)) | with_reducible exact HAD.out _ (HWY.out.trans ((Bel.below _).mono HWY.out.size)))); clear hK K))
      refine wpX_only (fun K hK => ?_)
      go_simp
      intro x
      refine ⟨(Below.refl _ _).alloc (Nat.le_refl _) _, hK _ _ ?_⟩
      clear hK K
      have ox := World.alloc_heap_new x.w (.cells #[.string tc] 40)
      refine wpX_tail ?_
      intro z
      have oz := obj_bel z ox
      have hYz : Below Y.heap.size Y z.w := by (repeat' (first | (with_reducible first | exact Below.refl _ _ | exact Nat.le_refl _ | refine Below.bel ?_ ?_ | refine Below.alloc ?_ ?_ _ | refine Below.drew ?_ | refine Below.drawsN ?_ _ | refine Below.setCell ?_ ?_ _ | refine le_bel ?_ | refine le_alloc ?_ | refine le_setCell ?_ | refine le_drew ?_ | refine le_drawsN ?_) | (dsimp only; with_reducible first | refine le_bel ?_ | refine Nat.le_refl _ | refine le_bel_add ?_) | (with_reducible assumption) | omega | (dsimp only; omega)))
      have hYs2 := hYz.size
      have HOX := Lib.hid oz
      have HO3 := Lib.hid (ownT_k hl2 (ownT_bel HOY.out hYz))
      have hcz := obj_in hYz HO6.out
      have hlz := obj_in hYz (obj_in HWY.out HLB.out)
      have HCZ := Lib.hid hcz
      have HYZ := Lib.hid hYz
      have HLZ := Lib.hid hlz
      clear ox oz hYz hcz hlz
      go_wp2_with (at_builtin; refine wpList_append_own_at _ rfl _ _ 95 rfl (Z.heap.size + 1) 40 i0 (.string ⟨#[]⟩) 1 16 Tryz.underlying95 hi0 hz0 hz1 hz2 rfl (by decide) _ (k + 2) (txtsV (cntL M n k)) rfl HO3.out ⟨x.w.heap.size, 0, none⟩ 1 1 [.string tc] rfl rfl (World.news_of_block HOX.out) (by simp [Value.oneCell']) (by unfold maxLen; omega) (by omega) (by omega) ?_; intro v1 w1 hown1 hgrow1 hnil1 hgv1; clear hnil1; obtain ⟨g1, cap1, rfl⟩ := ownsRow_succ hown1; have hc1 := (hgrow1.block bc (Array.getElem?_eq_some_iff.1 HCZ.out).1 (fun e => HNE.out e.symm)).trans HCZ.out; have c1 : w1.cell? ⟨bc, 0, none⟩ = some v := (by simp [World.cell?, hc1]); have c2 : w1.frozen? ⟨bc, 0, none⟩ = false := (by simp [World.frozen?, hc1]); have HC1 := Lib.hid hc1; have HW1 := Lib.hid hown1; have HG1 := Lib.hid hgrow1; have HV1 := Lib.hid hgv1; clear hc1 hown1 hgrow1 hgv1)
      have hbF : Below Z.heap.size Z w1 := (HBY.out.trans (HYZ.out.mono HBY.out.size)).grown HG1.out (by have := HBY.out.size; omega) (fun g hg => by have := (World.ownsRow.lt HOW.out g hg).1; omega)
      have hlv := (HG1.out.block Z.heap.size (Array.getElem?_eq_some_iff.1 HLZ.out).1 (fun e => by have := (World.ownsRow.lt HOW.out _ e.symm).1; omega)).trans HLZ.out
      have hg1 : (Value.slice (some ⟨g1, 0, none⟩) (k + 2 + 1) cap1).ownBlock ≠ some bc := fun e => by
        rcases HV1.out with h | h
        · exact HNE.out (h.symm.trans e)
        · rw [e] at h
          injection h with h
          omega
      go_roundw
      case rel =>
        refine ⟨k + 1, .slice (some ⟨g1, 0, none⟩) (k + 2 + 1) cap1, by go_num, by omega, heap_setCell_same _ bc 0 _ _ _ HC1.out, (Below.heap_setCell _ _ _ _ (by dsimp only; omega)).trans hlv, ?_, hg1, hbF.setCell (p := ⟨bc, 0, none⟩) (by dsimp only; omega) _⟩
        unfold OwnT
        rw [HST.out, List.length_append, hl2, HAV.out]
        exact HW1.out.kept (Lib.grownBy_setCell w1 bc 0 _) (Or.inr hg1)
      case measure => simp [intOf]; omega
    · have hke : k = M.length := by omega
      subst hke
      have f0 : decide ((M.length : Int) < (M.length : Int)) = false := decide_eq_false (by omega)
      obtain ⟨e0, e1, -⟩ := cells2 (obj_in HBE.out HO0.out)
      have HTF := Lib.hid (fun w' (hb : Below wr.heap.size wr w') => HTA.out w' hb r 0 hroot (Nat.zero_le _))
      rw [Nat.sub_zero] at HTF
      rw [show 2 ^ lev3 M n r * (cntL M n M.length).getD r 0 = cntD M r n from rfl] at HTF
      obtain ⟨t, ht⟩ : ∃ t, (⟨(I.iT (cntD M r n : Int)).toArray⟩ : ByteArray) = t := ⟨_, rfl⟩
      rw [ht] at HTF
      have HTT := Lib.hid ht
      rw [show ((0 : Nat) : Int) = 0 from rfl] at HTF
      clear ht
      go_wp2_with (go_at_fn 53; refine (HTF.out _ (by (repeat' (first | (with_reducible first | exact Below.refl _ _ | exact Nat.le_refl _ | refine Below.bel ?_ ?_ | refine Below.alloc ?_ ?_ _ | refine Below.drew ?_ | refine Below.drawsN ?_ _ | refine Below.setCell ?_ ?_ _ | refine le_bel ?_ | refine le_alloc ?_ | refine le_setCell ?_ | refine le_drew ?_ | refine le_drawsN ?_) | (dsimp only; with_reducible first | refine le_bel ?_ | refine Nat.le_refl _ | refine le_bel_add ?_) | (with_reducible assumption) | omega | (dsimp only; omega))))).mono ?_; rintro _ _ ⟨rfl, y4, rfl⟩; dsimp only)
      refine bodyPost_ret (v := .tuple #[.string t, .int .i64 0]) (by simp [results, Tryz.results20, go_sem]) rfl (Ret.mk (by rw [HTT.out]) ((HBZ.out.trans (HBE.out.mono hsz)).trans (y4.below.mono (by omega))))
end Go.Proofs.YtkdmhjlcgpnjpaaGreatDoor
