/- Power. -/
import Derived.Test.YteglfhmmkoahfaaGreatDoorM16
import Derived.Test.YteglfhmmkoahfaaGreatDoorM4
import Derived.Laws.BitsAllLaws
namespace Go.Proofs.YteglfhmmkoahfaaGreatDoor
open Go.RowKit Go.Shelf
attribute [local go_sem low] Bel.cell Bel.frozen alloc_cell alloc_frozen

theorem i64_and_nat (a b : Nat) (ha : a < 9223372036854775808) (hb : b < 9223372036854775808) : bits .and .i64 (a : Int) (b : Int) = ((a &&& b : Nat) : Int) := by
  have hx : a &&& b < 2 ^ 63 := Nat.and_lt_two_pow _ (by omega)
  show IntKind.i64.wrap ((BitVec.ofInt 64 (a : Int) &&& BitVec.ofInt 64 (b : Int)).toNat : Int) = _
  rw [BitVec.toNat_and, ofInt_u64 a (by omega), ofInt_u64 b (by omega)]
  exact IntWalk.i64_in _ (by omega)
/-- The bit of a round. -/
def pb (t : Nat) : Nat := 2 ^ t / 2
theorem pb_succ (t : Nat) : pb (t + 1) = 2 ^ t := by unfold pb; rw [Nat.pow_succ]; omega
theorem pb_half (t : Nat) : pb (t + 1) / 2 = pb t := by rw [pb_succ]; rfl
theorem pb_le {t : Nat} (h : t ≤ 14) : pb t ≤ 8192 := by
  have : (2 : Nat) ^ t ≤ 2 ^ 14 := Nat.pow_le_pow_right (by decide) h
  unfold pb
  omega
theorem and_pow (n t : Nat) : (n &&& 2 ^ t = 0) ↔ n.testBit t = false := by
  constructor
  · intro h
    have h2 : (n &&& 2 ^ t).testBit t = false := by rw [h]; exact Nat.zero_testBit t
    rw [Nat.testBit_and, Nat.testBit_two_pow_self, Bool.and_true] at h2
    exact h2
  · intro h
    refine Nat.eq_of_testBit_eq fun i => ?_
    rw [Nat.testBit_and, Nat.zero_testBit, Nat.testBit_two_pow]
    by_cases hi : t = i
    · subst hi; rw [h]; rfl
    · rw [decide_eq_false hi, Bool.and_false]
theorem pow_bit (n t : Nat) : n / 2 ^ t = 2 * (n / 2 ^ (t + 1)) + (if n &&& pb (t + 1) = 0 then 0 else 1) := by
  rw [pb_succ]
  have h1 : n / 2 ^ (t + 1) = n / 2 ^ t / 2 := by rw [Nat.pow_succ, Nat.div_div_eq_div_mul]
  have h3 : n.testBit t = decide (n / 2 ^ t % 2 = 1) := Nat.testBit_eq_decide_div_mod_eq
  rw [h1]
  by_cases h : n / 2 ^ t % 2 = 1
  · rw [if_neg (fun e => by rw [(and_pow n t).1 e, decide_eq_true h] at h3; cases h3)]
    omega
  · rw [if_pos ((and_pow n t).2 (by rw [h3, decide_eq_false h]))]
    omega
theorem pow_double (M e : Nat) : M ^ e * M ^ e = M ^ (2 * e) := by rw [← Nat.pow_add]; congr 1; omega
theorem neg_powI (m : Int) : ∀ n : Nat, (-m) ^ n = if n % 2 = 1 then -(m ^ n) else m ^ n
  | 0 => by simp
  | n + 1 => by
    rw [Int.pow_succ, neg_powI m n, Int.pow_succ]
    by_cases h : n % 2 = 1
    · rw [if_pos h, if_neg (by omega), Int.neg_mul_neg]
    · rw [if_neg h, if_pos (by omega), Int.mul_neg]
theorem sg_pow (z : Int) (n : Nat) : sg (decide (z < 0) && decide (n % 2 = 1)) (z.natAbs ^ n) = z ^ n := by
  unfold sg
  by_cases hz : z < 0
  · have e : z = -(z.natAbs : Int) := by omega
    conv => rhs; rw [e]
    rw [neg_powI, decide_eq_true hz]
    by_cases h : n % 2 = 1
    · rw [if_pos (by simp [h]), if_pos h, Int.natCast_pow]
    · rw [if_neg (by simp [h]), if_neg h, Int.natCast_pow]
  · have e : z = (z.natAbs : Int) := by omega
    conv => rhs; rw [e]
    rw [if_neg (by simp [hz]), Int.natCast_pow]
theorem lim_pow {M d e : Nat} (h : M < 10 ^ d) (he : d * e ≤ 60000) : (lim (M ^ e)).length ≤ 10000 := by
  have h1 : M ^ e ≤ (10 ^ d) ^ e := Nat.pow_le_pow_left (Nat.le_of_lt h) e
  rw [← Nat.pow_mul] at h1
  exact lim_le2 (Nat.lt_of_le_of_lt h1 (Nat.pow_lt_pow_right (by decide) (Nat.lt_succ_self _))) (by omega)
theorem power_range (z : Int) (n : Int) (w : World) (h : n < 0 ∨ 6000 < n) : Calls Tryz.prog 20 #[.string ⟨(iT z).toArray⟩, .int .i64 n] w (Ret (.tuple #[.string ⟨#[]⟩, .int .i64 3]) w) := by
  generalize iT z = t at *
  rcases (show n < 0 ∨ (¬ n < 0 ∧ 6000 < n) by omega) with h1 | ⟨h1, h2⟩
  · have e1 : decide (n < 0) = true := decide_eq_true h1
    go_enter Tryz.func20, Tryz.ntmps20
    go_wp2
    refine bodyPost_ret (v := .tuple #[.string ⟨#[]⟩, .int .i64 3]) (by simp [results, Tryz.results20, go_sem]) rfl (Ret.mk (by rfl) (by (repeat' (first | (with_reducible exact Below.refl _ _) | (with_reducible exact Nat.le_refl _) | (with_reducible refine Below.bel ?_ ?_) | (with_reducible refine Below.alloc ?_ ?_ _) | (with_reducible refine Below.drew ?_) | (with_reducible refine Below.drawsN ?_ _) | (with_reducible refine Below.setCell ?_ ?_ _) | (with_reducible refine le_bel ?_) | (with_reducible refine le_alloc ?_) | (with_reducible refine le_setCell ?_) | (with_reducible refine le_drew ?_) | (with_reducible refine le_drawsN ?_) | (dsimp only; with_reducible refine le_bel ?_) | (dsimp only; with_reducible refine Nat.le_refl _) | (dsimp only; with_reducible refine le_bel_add ?_) | (with_reducible assumption) | omega | (dsimp only; omega)))))
  · have e1 : decide (n < 0) = false := decide_eq_false h1
    have e2 : decide (6000 < n) = true := decide_eq_true h2
    go_enter Tryz.func20, Tryz.ntmps20
    go_wp2
    refine bodyPost_ret (v := .tuple #[.string ⟨#[]⟩, .int .i64 3]) (by simp [results, Tryz.results20, go_sem]) rfl (Ret.mk (by rfl) (by (repeat' (first | (with_reducible exact Below.refl _ _) | (with_reducible exact Nat.le_refl _) | (with_reducible refine Below.bel ?_ ?_) | (with_reducible refine Below.alloc ?_ ?_ _) | (with_reducible refine Below.drew ?_) | (with_reducible refine Below.drawsN ?_ _) | (with_reducible refine Below.setCell ?_ ?_ _) | (with_reducible refine le_bel ?_) | (with_reducible refine le_alloc ?_) | (with_reducible refine le_setCell ?_) | (with_reducible refine le_drew ?_) | (with_reducible refine le_drawsN ?_) | (dsimp only; with_reducible refine le_bel ?_) | (dsimp only; with_reducible refine Nat.le_refl _) | (dsimp only; with_reducible refine le_bel_add ?_) | (with_reducible assumption) | omega | (dsimp only; omega)))))
set_option maxRecDepth 100000 in
set_option maxHeartbeats 12800000 in
theorem power_any (z : Int) (n : Nat) (w : World) (hz : nd z ≤ 70000) (hn : n ≤ 6000) (hnd : n * nd z ≤ 24000) (hT : Tab w) :
    Calls Tryz.prog 20 #[.string ⟨(iT z).toArray⟩, .int .i64 (n : Int)] w (Ret (.tuple #[.string ⟨(iT (z ^ n)).toArray⟩, .int .i64 0]) w) := by
  have HT := Lib.hid hT
  clear hT
  have HS := Lib.hid (fun w' => split_any z w' (show nd z ≤ 80000 by omega))
  have hlz := lim_nd z (by omega)
  have HTX := Lib.hid (fun a cap w' (h : Limbs w' a (lim z.natAbs)) (hT : Tab w') => text_any a cap z.natAbs w' h hlz hT)
  have hM := nd_lt z
  have hdn : (Lib.decDigits z.natAbs).length = nd z := rfl
  rw [← sg_pow]
  obtain ⟨mz, hmz⟩ : ∃ m, decide (z < 0) = m := ⟨_, rfl⟩
  rw [hmz] at HS ⊢
  clear hmz
  have hl1 : lim 1 = [1] := lim_one (by decide) (by decide)
  generalize iT z = tz at *
  generalize nd z = d at *
  generalize z.natAbs = M at *
  generalize Lib.decDigits M = dt at *
  obtain ⟨p, hp⟩ : ∃ p, n * d = p := ⟨_, rfl⟩
  have hpc : (n : Int) * (dt.length : Int) = (p : Int) := by rw [hdn, ← hp]; simp
  rw [hp] at hnd
  have HLP := Lib.hid (fun (e : Nat) (he : e ≤ n) => @lim_pow M d e hM (by
    have := Nat.mul_le_mul_left d he
    rw [Nat.mul_comm d n, hp] at this
    omega))
  clear hM hp hdn
  have e1 : decide ((n : Int) < 0) = false := decide_eq_false (by omega)
  have e2 : decide ((6000 : Int) < (n : Int)) = false := decide_eq_false (by omega)
  have e3 : decide ((24000 : Int) < (p : Int)) = false := decide_eq_false (by omega)
  go_enter Tryz.func20, Tryz.ntmps20
  go_wp2_with fail
  refine (HS.out _).mono ?_
  rintro _ _ ⟨v1, rfl, y1, rfl, hv1⟩
  have hs1 := y1.size_le
  obtain ⟨p1, c1, rfl, hL1⟩ := LV.own hv1
  dsimp only
  go_wp2_with fail
  refine (HTX.out _ _ _ hL1 (HT.out.of (by (repeat' (first | (with_reducible exact Below.refl _ _) | (with_reducible exact Nat.le_refl _) | (with_reducible refine Below.bel ?_ ?_) | (with_reducible refine Below.alloc ?_ ?_ _) | (with_reducible refine Below.drew ?_) | (with_reducible refine Below.drawsN ?_ _) | (with_reducible refine Below.setCell ?_ ?_ _) | (with_reducible refine le_bel ?_) | (with_reducible refine le_alloc ?_) | (with_reducible refine le_setCell ?_) | (with_reducible refine le_drew ?_) | (with_reducible refine le_drawsN ?_) | (dsimp only; with_reducible refine le_bel ?_) | (dsimp only; with_reducible refine Nat.le_refl _) | (dsimp only; with_reducible refine le_bel_add ?_) | (with_reducible assumption) | omega | (dsimp only; omega)))))).mono ?_
  rintro _ _ ⟨rfl, y2, rfl⟩
  have hs2 := y2.size_le
  have HL1 := Lib.hid (limbs_of hL1 y2.below)
  clear hL1 hv1
  have hLV1 : LV (y2.w.alloc (.cells #[.int .u64 1] 59)) (.slice (some ⟨y2.w.heap.size, 0, none⟩) 1 1) 1 := by
    refine ⟨some ⟨y2.w.heap.size, 0, none⟩, 1, by rw [hl1]; rfl, ?_⟩
    rw [hl1]
    intro _
    exact ⟨_, 0, rfl, fun j x hj => by
      rcases j with _ | j
      · cases hj; simp [go_sem]
      · simp at hj⟩
  dsimp only
  go_wp2
  go_loopw [8, 9] (fun v b wr => ∃ t : Nat, t ≤ 14 ∧ b = .int .i64 (pb t : Int) ∧ LV wr v (M ^ (n / 2 ^ t)) ∧ Limbs wr p1 (lim M) ∧ Below w.heap.size w wr) (fun _ b _ => (intOf b).toNat)
  case atStart => exact ⟨14, by omega, rfl, by rw [show n / 2 ^ 14 = 0 from Nat.div_eq_of_lt (by omega), Nat.pow_zero]; exact hLV1, limbs_of HL1.out (by (repeat' (first | (with_reducible exact Below.refl _ _) | (with_reducible exact Nat.le_refl _) | (with_reducible refine Below.bel ?_ ?_) | (with_reducible refine Below.alloc ?_ ?_ _) | (with_reducible refine Below.drew ?_) | (with_reducible refine Below.drawsN ?_ _) | (with_reducible refine Below.setCell ?_ ?_ _) | (with_reducible refine le_bel ?_) | (with_reducible refine le_alloc ?_) | (with_reducible refine le_setCell ?_) | (with_reducible refine le_drew ?_) | (with_reducible refine le_drawsN ?_) | (dsimp only; with_reducible refine le_bel ?_) | (dsimp only; with_reducible refine Nat.le_refl _) | (dsimp only; with_reducible refine le_bel_add ?_) | (with_reducible assumption) | omega | (dsimp only; omega)))), by (repeat' (first | (with_reducible exact Below.refl _ _) | (with_reducible exact Nat.le_refl _) | (with_reducible refine Below.bel ?_ ?_) | (with_reducible refine Below.alloc ?_ ?_ _) | (with_reducible refine Below.drew ?_) | (with_reducible refine Below.drawsN ?_ _) | (with_reducible refine Below.setCell ?_ ?_ _) | (with_reducible refine le_bel ?_) | (with_reducible refine le_alloc ?_) | (with_reducible refine le_setCell ?_) | (with_reducible refine le_drew ?_) | (with_reducible refine le_drawsN ?_) | (dsimp only; with_reducible refine le_bel ?_) | (dsimp only; with_reducible refine Nat.le_refl _) | (dsimp only; with_reducible refine le_bel_add ?_) | (with_reducible assumption) | omega | (dsimp only; omega)))⟩
  case round =>
    clear hLV1
    obtain ⟨t, ht, rfl, hv, hm, hb⟩ := hrel
    have hbs := hb.size
    obtain ⟨p2, c2, rfl, hL2⟩ := hv
    rcases Nat.eq_zero_or_pos t with h0 | h0
    · subst h0
      rw [show ((pb 0 : Nat) : Int) = 0 from rfl]
      rw [Nat.pow_zero, Nat.div_one] at hL2 ⊢
      have hlp := HLP.out n (Nat.le_refl _)
      have HL2 := Lib.hid hL2
      clear hL2 hm
      generalize M ^ n = X at *
      cases mz
      · go_wp2_with fail
        refine (signed_any _ _ _ _ _ HL2.out hlp (HT.out.of (by (repeat' (first | (with_reducible exact Below.refl _ _) | (with_reducible exact Nat.le_refl _) | (with_reducible refine Below.bel ?_ ?_) | (with_reducible refine Below.alloc ?_ ?_ _) | (with_reducible refine Below.drew ?_) | (with_reducible refine Below.drawsN ?_ _) | (with_reducible refine Below.setCell ?_ ?_ _) | (with_reducible refine le_bel ?_) | (with_reducible refine le_alloc ?_) | (with_reducible refine le_setCell ?_) | (with_reducible refine le_drew ?_) | (with_reducible refine le_drawsN ?_) | (dsimp only; with_reducible refine le_bel ?_) | (dsimp only; with_reducible refine Nat.le_refl _) | (dsimp only; with_reducible refine le_bel_add ?_) | (with_reducible assumption) | omega | (dsimp only; omega)))))).mono ?_
        rintro _ _ ⟨rfl, z1, rfl⟩
        dsimp only
        go_wp2
        refine bodyPost_ret (v := .tuple #[.string ⟨(iT (sg false X)).toArray⟩, .int .i64 0]) (by simp [results, Tryz.results20, go_sem]) rfl (Ret.mk (by rfl) (by (repeat' (first | (with_reducible exact Below.refl _ _) | (with_reducible exact Nat.le_refl _) | (with_reducible refine Below.bel ?_ ?_) | (with_reducible refine Below.alloc ?_ ?_ _) | (with_reducible refine Below.drew ?_) | (with_reducible refine Below.drawsN ?_ _) | (with_reducible refine Below.setCell ?_ ?_ _) | (with_reducible refine le_bel ?_) | (with_reducible refine le_alloc ?_) | (with_reducible refine le_setCell ?_) | (with_reducible refine le_drew ?_) | (with_reducible refine le_drawsN ?_) | (dsimp only; with_reducible refine le_bel ?_) | (dsimp only; with_reducible refine Nat.le_refl _) | (dsimp only; with_reducible refine le_bel_add ?_) | (with_reducible assumption) | omega | (dsimp only; omega)))))
      · by_cases h2 : n % 2 = 1
        · have h2' : ((n : Int) % 2 == 1) = true := beq_iff_eq.2 (by omega)
          have HQ := Lib.hid (decide_eq_true h2)
          clear h2
          go_wp2_with fail
          refine (signed_any _ _ _ _ _ HL2.out hlp (HT.out.of (by (repeat' (first | (with_reducible exact Below.refl _ _) | (with_reducible exact Nat.le_refl _) | (with_reducible refine Below.bel ?_ ?_) | (with_reducible refine Below.alloc ?_ ?_ _) | (with_reducible refine Below.drew ?_) | (with_reducible refine Below.drawsN ?_ _) | (with_reducible refine Below.setCell ?_ ?_ _) | (with_reducible refine le_bel ?_) | (with_reducible refine le_alloc ?_) | (with_reducible refine le_setCell ?_) | (with_reducible refine le_drew ?_) | (with_reducible refine le_drawsN ?_) | (dsimp only; with_reducible refine le_bel ?_) | (dsimp only; with_reducible refine Nat.le_refl _) | (dsimp only; with_reducible refine le_bel_add ?_) | (with_reducible assumption) | omega | (dsimp only; omega)))))).mono ?_
          rintro _ _ ⟨rfl, z1, rfl⟩
          dsimp only
          go_wp2
          refine bodyPost_ret (v := .tuple #[.string ⟨(iT (sg true X)).toArray⟩, .int .i64 0]) (by simp [results, Tryz.results20, go_sem]) rfl (Ret.mk (by rw [HQ.out]; rfl) (by (repeat' (first | (with_reducible exact Below.refl _ _) | (with_reducible exact Nat.le_refl _) | (with_reducible refine Below.bel ?_ ?_) | (with_reducible refine Below.alloc ?_ ?_ _) | (with_reducible refine Below.drew ?_) | (with_reducible refine Below.drawsN ?_ _) | (with_reducible refine Below.setCell ?_ ?_ _) | (with_reducible refine le_bel ?_) | (with_reducible refine le_alloc ?_) | (with_reducible refine le_setCell ?_) | (with_reducible refine le_drew ?_) | (with_reducible refine le_drawsN ?_) | (dsimp only; with_reducible refine le_bel ?_) | (dsimp only; with_reducible refine Nat.le_refl _) | (dsimp only; with_reducible refine le_bel_add ?_) | (with_reducible assumption) | omega | (dsimp only; omega)))))
        · have h2' : ((n : Int) % 2 == 1) = false := beq_eq_false_iff_ne.2 (by omega)
          have HQ := Lib.hid (decide_eq_false h2)
          clear h2
          go_wp2_with fail
          refine (signed_any _ _ _ _ _ HL2.out hlp (HT.out.of (by (repeat' (first | (with_reducible exact Below.refl _ _) | (with_reducible exact Nat.le_refl _) | (with_reducible refine Below.bel ?_ ?_) | (with_reducible refine Below.alloc ?_ ?_ _) | (with_reducible refine Below.drew ?_) | (with_reducible refine Below.drawsN ?_ _) | (with_reducible refine Below.setCell ?_ ?_ _) | (with_reducible refine le_bel ?_) | (with_reducible refine le_alloc ?_) | (with_reducible refine le_setCell ?_) | (with_reducible refine le_drew ?_) | (with_reducible refine le_drawsN ?_) | (dsimp only; with_reducible refine le_bel ?_) | (dsimp only; with_reducible refine Nat.le_refl _) | (dsimp only; with_reducible refine le_bel_add ?_) | (with_reducible assumption) | omega | (dsimp only; omega)))))).mono ?_
          rintro _ _ ⟨rfl, z1, rfl⟩
          dsimp only
          go_wp2
          refine bodyPost_ret (v := .tuple #[.string ⟨(iT (sg false X)).toArray⟩, .int .i64 0]) (by simp [results, Tryz.results20, go_sem]) rfl (Ret.mk (by rw [HQ.out]; rfl) (by (repeat' (first | (with_reducible exact Below.refl _ _) | (with_reducible exact Nat.le_refl _) | (with_reducible refine Below.bel ?_ ?_) | (with_reducible refine Below.alloc ?_ ?_ _) | (with_reducible refine Below.drew ?_) | (with_reducible refine Below.drawsN ?_ _) | (with_reducible refine Below.setCell ?_ ?_ _) | (with_reducible refine le_bel ?_) | (with_reducible refine le_alloc ?_) | (with_reducible refine le_setCell ?_) | (with_reducible refine le_drew ?_) | (with_reducible refine le_drawsN ?_) | (dsimp only; with_reducible refine le_bel ?_) | (dsimp only; with_reducible refine Nat.le_refl _) | (dsimp only; with_reducible refine le_bel_add ?_) | (with_reducible assumption) | omega | (dsimp only; omega)))))
    · obtain ⟨k, rfl⟩ : ∃ k, t = k + 1 := ⟨t - 1, by omega⟩
      have hk := pow_bit n k
      have hhalf := pb_half k
      have hpl := pb_le ht
      have hpp : 0 < pb (k + 1) := by rw [pb_succ]; exact Nat.pow_pos (by decide)
      have hand := i64_and_nat n (pb (k + 1)) (by omega) (by omega)
      have hel : n / 2 ^ (k + 1) ≤ n := Nat.div_le_self _ _
      have hel2 : n / 2 ^ k ≤ n := Nat.div_le_self _ _
      generalize pb (k + 1) = b at *
      generalize n / 2 ^ (k + 1) = e at *
      obtain ⟨A, hA⟩ : ∃ A, n &&& b = A := ⟨_, rfl⟩
      rw [hA] at hand hk
      have hlX := HLP.out e hel
      have hlX2 := HLP.out (2 * e) (by split at hk <;> omega)
      have hbp : decide (0 < (b : Int)) = true := decide_eq_true (by omega)
      have HL2 := Lib.hid hL2
      have HM := Lib.hid hm
      clear hL2 hm hA
      have HHF := Lib.hid (show ((b : Nat) : Int) / 2 = (pb k : Int) by omega)
      clear hhalf
      by_cases hA0 : A = 0
      · rw [if_pos hA0, Nat.add_zero] at hk
        have HK := Lib.hid hk
        subst hA0
        clear hk hel2
        go_wp2_with fail
        refine (times_any _ _ _ _ _ _ _ HL2.out HL2.out hlX hlX).mono ?_
        rintro _ _ ⟨v3, rfl, y3, rfl, hv3⟩
        have hs3 := y3.size_le
        rw [pow_double] at hv3
        have HV3 := Lib.hid (LV.own hv3)
        obtain ⟨p3, c3, rfl, hL3⟩ := LV.own hv3
        clear hL3 hv3
        dsimp only
        go_wp2
        go_roundw
        case rel => exact ⟨k, by omega, congrArg (Value.int .i64) HHF.out, by rw [HK.out]; exact HV3.out, limbs_of HM.out y3.below, by (repeat' (first | (with_reducible exact Below.refl _ _) | (with_reducible exact Nat.le_refl _) | (with_reducible refine Below.bel ?_ ?_) | (with_reducible refine Below.alloc ?_ ?_ _) | (with_reducible refine Below.drew ?_) | (with_reducible refine Below.drawsN ?_ _) | (with_reducible refine Below.setCell ?_ ?_ _) | (with_reducible refine le_bel ?_) | (with_reducible refine le_alloc ?_) | (with_reducible refine le_setCell ?_) | (with_reducible refine le_drew ?_) | (with_reducible refine le_drawsN ?_) | (dsimp only; with_reducible refine le_bel ?_) | (dsimp only; with_reducible refine Nat.le_refl _) | (dsimp only; with_reducible refine le_bel_add ?_) | (with_reducible assumption) | omega | (dsimp only; omega)))⟩
        case measure => simp [intOf]; omega
      · rw [if_neg hA0] at hk
        have HK := Lib.hid hk
        have hAt : ((A : Int) != 0) = true := by simp; exact hA0
        have hlX3 := HLP.out (n / 2 ^ k) hel2
        rw [hk] at hlX3
        clear hk hel2 hA0
        go_wp2_with fail
        refine (times_any _ _ _ _ _ _ _ HL2.out HL2.out hlX hlX).mono ?_
        rintro _ _ ⟨v3, rfl, y3, rfl, hv3⟩
        have hs3 := y3.size_le
        rw [pow_double] at hv3
        obtain ⟨p3, c3, rfl, hL3⟩ := LV.own hv3
        have HL3 := Lib.hid hL3
        have HM3 := Lib.hid (limbs_of HM.out y3.below)
        clear hL3 hv3
        dsimp only
        go_wp2_with fail
        refine (times_any _ _ _ _ _ _ _ HL3.out HM3.out hlX2 hlz).mono ?_
        rintro _ _ ⟨v4, rfl, y4, rfl, hv4⟩
        have hs4 := y4.size_le
        rw [← Nat.pow_succ] at hv4
        have HV4 := Lib.hid (LV.own hv4)
        obtain ⟨p4, c4, rfl, hL4⟩ := LV.own hv4
        clear hL4 hv4
        dsimp only
        go_wp2
        go_roundw
        case rel => exact ⟨k, by omega, congrArg (Value.int .i64) HHF.out, by rw [HK.out]; exact HV4.out, limbs_of HM3.out y4.below, by (repeat' (first | (with_reducible exact Below.refl _ _) | (with_reducible exact Nat.le_refl _) | (with_reducible refine Below.bel ?_ ?_) | (with_reducible refine Below.alloc ?_ ?_ _) | (with_reducible refine Below.drew ?_) | (with_reducible refine Below.drawsN ?_ _) | (with_reducible refine Below.setCell ?_ ?_ _) | (with_reducible refine le_bel ?_) | (with_reducible refine le_alloc ?_) | (with_reducible refine le_setCell ?_) | (with_reducible refine le_drew ?_) | (with_reducible refine le_drawsN ?_) | (dsimp only; with_reducible refine le_bel ?_) | (dsimp only; with_reducible refine Nat.le_refl _) | (dsimp only; with_reducible refine le_bel_add ?_) | (with_reducible assumption) | omega | (dsimp only; omega)))⟩
        case measure => simp [intOf]; omega
end Go.Proofs.YteglfhmmkoahfaaGreatDoor
