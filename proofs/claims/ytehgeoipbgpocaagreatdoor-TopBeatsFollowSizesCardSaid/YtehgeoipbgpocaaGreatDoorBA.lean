/- Numbers of sizes: products of twos, threes and fives, and their order. The bounds of a number of a size, and what they say of two sizes. The right intervals: their parts, and what the law asks of beats. The question that a ratio is found by: its numbers and their bounds. -/
import Derived.Test.YtehgeoipbgpocaaGreatDoorTg
import Derived.Test.YtehgeoipbgpocaaGreatDoorTi
import Derived.Test.YtehgeoipbgpocaaGreatDoorIl
import Derived.Test.YtehgeoipbgpocaaGreatDoorLg
namespace Go.Proofs.YtehgeoipbgpocaaGreatDoor
set_option linter.unusedVariables false
set_option linter.unusedSimpArgs false
open Go.RowKit

def n3 (a b c : Nat) : Nat := 2 ^ a * 3 ^ b * 5 ^ c
theorem n3_mul (a b c x y z : Nat) : n3 (a + x) (b + y) (c + z) = n3 a b c * n3 x y z := by
  unfold n3
  rw [Nat.pow_add, Nat.pow_add, Nat.pow_add]
  ac_rfl
theorem n3_pow (a b c n : Nat) : n3 a b c ^ n = n3 (a * n) (b * n) (c * n) := by
  unfold n3
  rw [Nat.mul_pow, Nat.mul_pow, ← Nat.pow_mul, ← Nat.pow_mul, ← Nat.pow_mul]
theorem n3_pos (a b c : Nat) : 0 < n3 a b c :=
  Nat.mul_pos (Nat.mul_pos (Nat.pow_pos (by decide)) (Nat.pow_pos (by decide))) (Nat.pow_pos (by decide))
theorem n3_low {U T F : Nat} (h3 : 2 ^ T ≤ 3 ^ U) (h5 : 2 ^ F ≤ 5 ^ U) (x y z : Nat) : 2 ^ (x * U + y * T + z * F) ≤ n3 x y z ^ U := by
  rw [n3_pow]
  unfold n3
  rw [Nat.pow_add, Nat.pow_add]
  refine Nat.mul_le_mul (Nat.mul_le_mul (Nat.le_refl _) ?_) ?_
  · rw [Nat.mul_comm y T, Nat.mul_comm y U, Nat.pow_mul, Nat.pow_mul]
    exact Nat.pow_le_pow_left h3 y
  · rw [Nat.mul_comm z F, Nat.mul_comm z U, Nat.pow_mul, Nat.pow_mul]
    exact Nat.pow_le_pow_left h5 z
theorem n3_high {U T F : Nat} (h3 : 3 ^ U < 2 ^ (T + 1)) (h5 : 5 ^ U < 2 ^ (F + 1)) (x y z : Nat) : n3 x y z ^ U ≤ 2 ^ (x * U + y * (T + 1) + z * (F + 1)) := by
  rw [n3_pow]
  unfold n3
  rw [Nat.pow_add, Nat.pow_add]
  refine Nat.mul_le_mul (Nat.mul_le_mul (Nat.le_refl _) ?_) ?_
  · rw [Nat.mul_comm y (T + 1), Nat.mul_comm y U, Nat.pow_mul, Nat.pow_mul]
    exact Nat.pow_le_pow_left (Nat.le_of_lt h3) y
  · rw [Nat.mul_comm z (F + 1), Nat.mul_comm z U, Nat.pow_mul, Nat.pow_mul]
    exact Nat.pow_le_pow_left (Nat.le_of_lt h5) z
theorem lt_of_pow {a b n : Nat} (h : a ^ n < b ^ n) : a < b := Nat.lt_of_not_le fun h' => absurd (Nat.pow_le_pow_left h' n) (Nat.not_le_of_lt h)
theorem n3_ltU {U T F : Nat} (h3 : 2 ^ T ≤ 3 ^ U) (h3' : 3 ^ U < 2 ^ (T + 1)) (h5 : 2 ^ F ≤ 5 ^ U) (h5' : 5 ^ U < 2 ^ (F + 1)) {x y z x' y' z' : Nat}
    (h : x * U + y * (T + 1) + z * (F + 1) < x' * U + y' * T + z' * F) : n3 x y z < n3 x' y' z' :=
  lt_of_pow (Nat.lt_of_le_of_lt (n3_high h3' h5' x y z) (Nat.lt_of_lt_of_le (Nat.pow_lt_pow_right (by decide) h) (n3_low h3 h5 x' y' z')))
theorem red2 (a b : Nat) : ∃ m x y, a = m + x ∧ b = m + y ∧ (x = 0 ∨ y = 0) := ⟨min a b, a - min a b, b - min a b, by omega, by omega, by omega⟩
theorem negI_red {y y' m : Nat} (h : y = 0 ∨ y' = 0) : negI (((m + y' : Nat) : Int) - ((m + y : Nat) : Int)) = -(y : Int) := by
  unfold negI
  split <;> omega
theorem n3_lt {a b c a' b' c' : Nat} (h : 0 < bdL ((a' : Int) - a) ((b' : Int) - b) ((c' : Int) - c)) : n3 a b c < n3 a' b' c' := by
  obtain ⟨m1, x, x', rfl, rfl, _⟩ := red2 a a'
  obtain ⟨m2, y, y', rfl, rfl, hy⟩ := red2 b b'
  obtain ⟨m3, z, z', rfl, rfl, hz⟩ := red2 c c'
  rw [n3_mul, n3_mul]
  refine Nat.mul_lt_mul_of_pos_left ?_ (n3_pos _ _ _)
  have hl : x * 1000000000000000000000000000000 + y * (1584962500721156181453738943947 + 1) + z * (2321928094887362347870319429489 + 1) < x' * 1000000000000000000000000000000 + y' * 1584962500721156181453738943947 + z' * 2321928094887362347870319429489 := by
    unfold bdL at h
    rw [negI_red hy, negI_red hz] at h
    unfold bdM cU cT cF at h
    omega
  obtain ⟨U, hU⟩ : ∃ U : Nat, U = 1000000000000000000000000000000 := ⟨_, rfl⟩
  obtain ⟨T, hT⟩ : ∃ T : Nat, T = 1584962500721156181453738943947 := ⟨_, rfl⟩
  obtain ⟨F, hF⟩ : ∃ F : Nat, F = 2321928094887362347870319429489 := ⟨_, rfl⟩
  obtain ⟨p, p'⟩ := log3 U T hU hT
  obtain ⟨q, q'⟩ := log5 U F hU hF
  rw [← hU, ← hT, ← hF] at hl
  exact n3_ltU p p' q q' hl
theorem n3_sgn {a b c a' b' c' : Nat} (h : sgP ((a' : Int) - a) ((b' : Int) - b) ((c' : Int) - c) = 1) : n3 a b c < n3 a' b' c' := by
  refine n3_lt ?_
  unfold sgP at h
  split at h
  · exact absurd h (by decide)
  · exact Int.sign_eq_one_iff_pos.mp h
theorem sgP_neg {x y z : Int} (hy1 : -10000000 ≤ y) (hy2 : y ≤ 10000000) (hz1 : -10000000 ≤ z) (hz2 : z ≤ 10000000) : sgP (-x) (-y) (-z) = -sgP x y z := by
  by_cases h : x = 0 ∧ y = 0 ∧ z = 0
  · obtain ⟨rfl, rfl, rfl⟩ := h
    rfl
  · have e := (sgn_eq hy1 hy2 hz1 hz2 h).1
    unfold sgP
    rw [if_neg h, if_neg (by omega), e, ← Int.sign_neg]
    congr 1
    unfold bdL bdH bdM negI posI cU cT cF
    split <;> split <;> omega
theorem sgP_val (x y z : Int) : sgP x y z = 0 ∨ sgP x y z = 1 ∨ sgP x y z = -1 := by
  unfold sgP
  split
  · exact .inl rfl
  · rcases Int.lt_trichotomy (bdL x y z) 0 with h | h | h
    · exact .inr (.inr (Int.sign_eq_neg_one_of_neg h))
    · exact .inl (by rw [h]; rfl)
    · exact .inr (.inl (Int.sign_eq_one_of_pos h))

/-- The value of an exponent. -/
def Q.val (q : Q) : Rat := (q.n : Rat) / (q.d : Rat)
theorem rat_ne {d : Int} (h : 1 ≤ d) : (d : Rat) ≠ 0 := fun h' => by
  have := Rat.intCast_inj.mp (show (d : Rat) = ((0 : Int) : Rat) from h')
  omega
theorem sgP_rat {x y z x' y' z' M N : Int} {a b c : Rat} (hM : 1 ≤ M) (hN : 1 ≤ N) (hx : (x : Rat) = M * a) (hy : (y : Rat) = M * b) (hz : (z : Rat) = M * c)
    (hx' : (x' : Rat) = N * a) (hy' : (y' : Rat) = N * b) (hz' : (z' : Rat) = N * c) : sgP x y z = sgP x' y' z' := by
  have cr : ∀ {u v : Int} {r : Rat}, (u : Rat) = M * r → (v : Rat) = N * r → N * u = M * v := fun {u v r} h1 h2 => by
    apply Rat.intCast_inj.mp
    rw [Rat.intCast_mul, Rat.intCast_mul, h1, h2]
    grind
  rw [← sgP_mul hN, ← @sgP_mul M x' y' z' hM, cr hx hx', cr hy hy', cr hz hz']
theorem Sz.dn_dvd {s : Sz} (h : s.rt = true) (k : Nat) : s.dn k ∣ s.dn (k + 1) ∧ (s.q k).d ∣ s.dn (k + 1) :=
  ⟨(lcI_spec (Sz.dn_pos h k) (rt_spec (s.rt_q h k)).1).2.2.1, (lcI_spec (Sz.dn_pos h k) (rt_spec (s.rt_q h k)).1).2.2.2.1⟩
theorem Sz.d_dvd {s : Sz} (h : s.rt = true) {k : Nat} (hk : k < 3) : (s.q k).d ∣ s.den := by
  have h1 := s.dn_dvd h 1
  have h2 := s.dn_dvd h 2
  rcases (show k = 0 ∨ k = 1 ∨ k = 2 by omega) with rfl | rfl | rfl
  · exact Int.dvd_trans (s.dn_dvd h 0).2 (Int.dvd_trans h1.1 h2.1)
  · exact Int.dvd_trans h1.2 h2.1
  · exact h2.2
theorem Sz.e_val {s : Sz} (h : s.rt = true) {k : Nat} (hk : k < 3) : (s.e k : Rat) = (s.den : Rat) * (s.q k).val := by
  obtain ⟨u, hu⟩ := s.d_dvd h hk
  have hd : 1 ≤ (s.q k).d := (rt_spec (s.rt_q h k)).1
  have h0 := rat_ne hd
  unfold Sz.e Q.val
  rw [hu, Int.mul_ediv_cancel_left _ (by omega), Rat.intCast_mul, Rat.intCast_mul]
  grind
theorem Sz.ov_val {s : Sz} (h : s.rt = true) {m : Int} (hm : s.den ∣ m) {k : Nat} (hk : k < 3) : (s.ov m k : Rat) = (m : Rat) * (s.q k).val := by
  obtain ⟨u, rfl⟩ := hm
  have hd : 1 ≤ s.den := s.dn_pos h 3
  unfold Sz.ov
  rw [Int.mul_ediv_cancel_left _ (by omega), Rat.intCast_mul, Rat.intCast_mul, s.e_val h hk]
  grind
theorem mk_val {n d : Int} (hd : 1 ≤ d) (h : F.mk3 n d = 0) : 1 ≤ F.mk2 n d ∧ (F.mk1 n d : Rat) / (F.mk2 n d : Rat) = (n : Rat) / (d : Rat) := by
  have hf : F.fits n d = true := by
    cases hf : F.fits n d
    · rw [(F.mk_lim (by omega) hf).2.2] at h
      exact absurd h (by decide)
    · rfl
  obtain ⟨e1, e2, _⟩ := F.mk_fit (by omega) hf
  have hg : 0 < Int.gcd n d := Int.gcd_pos_of_ne_zero_right _ (by omega)
  obtain ⟨x, hx⟩ := Int.gcd_dvd_left (a := n) (b := d)
  obtain ⟨y, hy⟩ := Int.gcd_dvd_right (a := n) (b := d)
  have hy0 : 0 < y := Int.lt_of_mul_lt_mul_left (a := (Int.gcd n d : Int)) (by rw [Int.mul_zero, ← hy]; omega) (by omega)
  have f2 : F.mkD n d = y := by
    unfold F.mkD
    rw [Int.natAbs_of_nonneg (by omega), Int.ediv_eq_of_eq_mul_right (by omega) hy]
  have f1 : F.mkN n d = x := by
    unfold F.mkN F.mkM
    by_cases hn : n < 0
    · rw [if_neg (by simp [hn]; omega), show ((n.natAbs : Nat) : Int) = -n by omega, Int.ediv_eq_of_eq_mul_right (b := (Int.gcd n d : Int)) (c := -x) (by omega) (by rw [Int.mul_neg, ← hx])]
      omega
    · rw [if_pos (by simp; omega), Int.natAbs_of_nonneg (by omega), Int.ediv_eq_of_eq_mul_right (by omega) hx]
  rw [e1, e2, f1, f2]
  refine ⟨by omega, ?_⟩
  have g0 := rat_ne (show 1 ≤ (Int.gcd n d : Int) by omega)
  have y0 := rat_ne (show 1 ≤ y by omega)
  generalize (Int.gcd n d : Int) = g at *
  rw [hx, hy, Rat.intCast_mul, Rat.intCast_mul]
  grind
theorem add_val {a b : Q} (ha : a.rt = true) (hb : b.rt = true) (h : (addQ a b).2 = 0) : (addQ a b).1.val = a.val + b.val := by
  have a0 := (rt_spec ha).1
  have b0 := (rt_spec hb).1
  have hp : 1 ≤ a.d * b.d := Int.mul_pos (by omega) (by omega)
  refine (mk_val hp h).2.trans ?_
  have a1 := rat_ne a0
  have b1 := rat_ne b0
  unfold Q.val
  rw [Rat.intCast_mul, Rat.intCast_add, Rat.intCast_mul, Rat.intCast_mul]
  grind
theorem sub_val {a b : Q} (ha : a.rt = true) (hb : b.rt = true) (h : (subQ a b).2 = 0) : (subQ a b).1.val = a.val - b.val := by
  have a0 := (rt_spec ha).1
  have b0 := (rt_spec hb).1
  have hp : 1 ≤ a.d * b.d := Int.mul_pos (by omega) (by omega)
  refine (mk_val hp h).2.trans ?_
  have a1 := rat_ne a0
  have b1 := rat_ne b0
  unfold Q.val
  rw [Rat.intCast_mul, Rat.intCast_sub, Rat.intCast_mul, Rat.intCast_mul]
  grind
theorem op_parts {F : QF} {s t : Sz} (h : opE F s t = 0) : s.ok = true ∧ t.ok = true ∧ (opS F s t).ok = true ∧ ∀ k, k < 3 → (F (s.q k) (t.q k)).2 = 0 ∧ (opS F s t).q k = (F (s.q k) (t.q k)).1 := by
  unfold opE at h
  by_cases hb : both2 s t = 0
  · rw [if_pos hb] at h
    obtain ⟨hs, ht⟩ := both_rt hb
    refine ⟨hs, ht, ?_⟩
    unfold opS
    rw [if_pos hb]
    unfold eachE at h
    unfold eachS
    cases hB : eachB F s t
    · rw [hB, if_neg (by decide)] at h
      exact absurd h (by decide)
    · rw [hB, if_pos rfl] at h
      rw [if_pos rfl]
      have hok : (eachU F s t).ok = true := by
        cases ho : (eachU F s t).ok
        · rw [(res_no ho).2] at h
          exact absurd h (by decide)
        · rfl
      rw [(res_yes hok).1]
      refine ⟨hok, fun k hk => ?_⟩
      unfold eachB at hB
      simp only [Bool.and_eq_true, decide_eq_true_eq] at hB
      rcases (show k = 0 ∨ k = 1 ∨ k = 2 by omega) with rfl | rfl | rfl
      · exact ⟨hB.1.1, rfl⟩
      · exact ⟨hB.1.2, rfl⟩
      · exact ⟨hB.2, rfl⟩
  · rw [if_neg hb] at h
    exact absurd h hb
theorem opA_val {s t : Sz} (h : opE addQ s t = 0) {k : Nat} (hk : k < 3) : ((opS addQ s t).q k).val = (s.q k).val + (t.q k).val := by
  obtain ⟨hs, ht, _, hp⟩ := op_parts h
  rw [(hp k hk).2]
  exact add_val (s.rt_q (Sz.ok_rt hs) k) (t.rt_q (Sz.ok_rt ht) k) (hp k hk).1
theorem opB_val {s t : Sz} (h : opE subQ s t = 0) {k : Nat} (hk : k < 3) : ((opS subQ s t).q k).val = (s.q k).val - (t.q k).val := by
  obtain ⟨hs, ht, _, hp⟩ := op_parts h
  rw [(hp k hk).2]
  exact sub_val (s.rt_q (Sz.ok_rt hs) k) (t.rt_q (Sz.ok_rt ht) k) (hp k hk).1
theorem lim1_some {s r : Sz} {e : Int} (h : lim1 s e = some r) : e = 0 ∧ s = r := by
  unfold lim1 at h
  split at h
  · exact ⟨by assumption, by injection h⟩
  · cases h
theorem oct_ok : ∀ n : Fin 12, (iS (n.val : Int) 0 0).ok = true := by decide +kernel
theorem octS_at {n : Nat} (h : n < 12) : octS (n : Int) = iS n 0 0 := (res_yes (oct_ok ⟨n, h⟩)).1
theorem oct_val {n : Nat} (h : n < 12) (k : Nat) : ((octS (n : Int)).q k).val = if k = 0 then (n : Rat) else 0 := by
  rw [octS_at h]
  unfold Sz.q Q.val iS
  by_cases h0 : k = 0
  · subst h0
    show ((n : Int) : Rat) / ((1 : Int) : Rat) = _
    rw [if_pos rfl, show ((1 : Int) : Rat) = 1 from rfl, Rat.intCast_natCast]
    grind
  · rw [if_neg h0, if_neg h0]
    split
    · show ((0 : Int) : Rat) / ((1 : Int) : Rat) = 0
      decide +kernel
    · show ((0 : Int) : Rat) / ((1 : Int) : Rat) = 0
      decide +kernel
theorem pl_val {c : Cir} {n : Nat} {s : Sz} (hn : n < 144) (h : plM c n = some s) : ∃ r, noM c (n % 12) = some r ∧ s.ok = true ∧ ∀ k, k < 3 → (s.q k).val = (r.q k).val + if k = 0 then ((n / 12 : Nat) : Rat) else 0 := by
  unfold plM at h
  obtain ⟨r, hr, h⟩ := Option.bind_eq_some_iff.mp h
  obtain ⟨h1, h2⟩ := lim1_some h
  subst h2
  refine ⟨r, hr, (op_parts h1).2.2.1, fun k hk => ?_⟩
  rw [opA_val h1 hk, show ((n : Int) / 12) = ((n / 12 : Nat) : Int) by omega, oct_val (by omega) k]
theorem bt_val {c : Cir} {f t : Nat} {s : Sz} (h : btM c f t = some s) : ∃ a b, plM c f = some a ∧ plM c t = some b ∧ s.ok = true ∧ ∀ k, k < 3 → (s.q k).val = (b.q k).val - (a.q k).val := by
  unfold btM at h
  obtain ⟨a, ha, h⟩ := Option.bind_eq_some_iff.mp h
  obtain ⟨b, hb, h⟩ := Option.bind_eq_some_iff.mp h
  obtain ⟨h1, h2⟩ := lim1_some h
  subst h2
  exact ⟨a, b, ha, hb, (op_parts h1).2.2.1, fun k hk => opB_val h1 hk⟩
/-- The size between two notes, from those that lie 69. -/
theorem bt_two {c : Cir} {a b : Nat} {s x y : Sz} (h : btM c a b = some s) (hx : btM c 69 a = some x) (hy : btM c 69 b = some y) : ∀ k, k < 3 → (s.q k).val = (y.q k).val - (x.q k).val := by
  obtain ⟨a1, b1, p1, p2, _, h1⟩ := bt_val h
  obtain ⟨a2, b2, p3, p4, _, h2⟩ := bt_val hx
  obtain ⟨a3, b3, p5, p6, _, h3⟩ := bt_val hy
  intro k hk
  rw [h1 k hk, h2 k hk, h3 k hk]
  obtain rfl : a1 = b2 := by rw [p1] at p4; injection p4
  obtain rfl : b1 = b3 := by rw [p2] at p6; injection p6
  obtain rfl : a2 = a3 := by rw [p3] at p5; injection p5
  grind
/-- Two pairs of notes, octaves apart. -/
theorem bt_oct {c : Cir} {a b a' b' : Nat} {s s' : Sz} (ha : a < 144) (hb : b < 144) (ha' : a' < 144) (hb' : b' < 144) (h : btM c a b = some s) (h' : btM c a' b' = some s') (e1 : a' % 12 = a % 12) (e2 : b' % 12 = b % 12) :
    ∀ k, k < 3 → (s'.q k).val = (s.q k).val + if k = 0 then ((((b' / 12 : Nat) : Int) - ((a' / 12 : Nat) : Int) - ((b / 12 : Nat) : Int) + ((a / 12 : Nat) : Int) : Int) : Rat) else 0 := by
  obtain ⟨a1, b1, p1, p2, _, h1⟩ := bt_val h
  obtain ⟨a2, b2, p3, p4, _, h2⟩ := bt_val h'
  obtain ⟨r1, q1, _, v1⟩ := pl_val ha p1
  obtain ⟨r2, q2, _, v2⟩ := pl_val hb p2
  obtain ⟨r3, q3, _, v3⟩ := pl_val ha' p3
  obtain ⟨r4, q4, _, v4⟩ := pl_val hb' p4
  rw [e1] at q3
  rw [e2] at q4
  obtain rfl : r1 = r3 := by rw [q1] at q3; injection q3
  obtain rfl : r2 = r4 := by rw [q2] at q4; injection q4
  intro k hk
  rw [h1 k hk, h2 k hk, v1 k hk, v2 k hk, v3 k hk, v4 k hk]
  by_cases h0 : k = 0
  · rw [if_pos h0, if_pos h0, if_pos h0, if_pos h0, if_pos h0, Rat.intCast_add, Rat.intCast_sub, Rat.intCast_sub]
    simp only [Rat.intCast_natCast]
    grind
  · rw [if_neg h0, if_neg h0, if_neg h0, if_neg h0, if_neg h0]
    grind
theorem cm_dvd {s t : Sz} (hs : s.ok = true) (ht : t.ok = true) : 1 ≤ cmM s t ∧ s.den ∣ cmM s t ∧ t.den ∣ cmM s t := by
  have a := s.dn_pos (Sz.ok_rt hs) 3
  have b := t.dn_pos (Sz.ok_rt ht) 3
  have h := lcI_spec a b
  exact ⟨Int.le_trans a h.1, h.2.2.1, h.2.2.2.1⟩
theorem both_ok {s t : Sz} (hs : s.ok = true) (ht : t.ok = true) : both2 s t = 0 := by
  unfold both2
  rw [if_pos (Sz.chk_ok hs), Sz.chk_ok ht]
theorem cmV_val {s t : Sz} (hs : s.ok = true) (ht : t.ok = true) {k : Nat} (hk : k < 3) : (cmV s t k : Rat) = (cmM s t : Rat) * ((s.q k).val - (t.q k).val) := by
  obtain ⟨_, h1, h2⟩ := cm_dvd hs ht
  unfold cmV
  rw [Rat.intCast_sub, Sz.ov_val (Sz.ok_rt hs) h1 hk, Sz.ov_val (Sz.ok_rt ht) h2 hk]
  grind
/-- The sign of a difference by any multiple of it. -/
theorem cmS_val {s t : Sz} (hs : s.ok = true) (ht : t.ok = true) {M : Int} (hM : 1 ≤ M) {z : Nat → Int} (hz : ∀ k, k < 3 → (z k : Rat) = (M : Rat) * ((s.q k).val - (t.q k).val)) : cmS s t = sgP (z 0) (z 1) (z 2) := by
  unfold cmS
  rw [if_pos (both_ok hs ht)]
  exact sgP_rat (cm_dvd hs ht).1 hM (cmV_val hs ht (by decide)) (cmV_val hs ht (by decide)) (cmV_val hs ht (by decide)) (hz 0 (by decide)) (hz 1 (by decide)) (hz 2 (by decide))
theorem dir_eq {c : Cir} {l m : Nat} {s r z : Sz} (hl : l + m ≤ 127) (h : btM c l (l + m) = some s) (hr : erM c (l % 12) m z = some r) : cmS s z = sgS r ∧ r.chk = 0 := by
  unfold erM at hr
  obtain ⟨t, ht, hr⟩ := Option.bind_eq_some_iff.mp hr
  obtain ⟨h1, h2⟩ := lim1_some hr
  subst h2
  obtain ⟨hto, hzo, hro, _⟩ := op_parts h1
  obtain ⟨_, _, _, _, hso, _⟩ := bt_val h
  have hv := bt_oct (by omega) (by omega) (by omega) (by omega) ht h (by omega) (by omega)
  unfold sgS
  rw [if_pos (Sz.chk_ok hro)]
  refine ⟨cmS_val hso hzo (M := (opS subQ t z).den) ((opS subQ t z).dn_pos (Sz.ok_rt hro) 3) fun k hk => ?_, Sz.chk_ok hro⟩
  rw [Sz.e_val (Sz.ok_rt hro) hk, opB_val h1 hk, hv k hk]
  rw [show (((l + m) / 12 : Nat) : Int) - ((l / 12 : Nat) : Int) - (((l % 12 + m) / 12 : Nat) : Int) + ((l % 12 / 12 : Nat) : Int) = 0 by omega]
  split
  · rw [show ((0 : Int) : Rat) = 0 from rfl]
    grind
  · grind
end Go.Proofs.YtehgeoipbgpocaaGreatDoor

namespace Go.Proofs.YtehgeoipbgpocaaGreatDoor
set_option linter.unusedVariables false
set_option linter.unusedSimpArgs false
open Go.RowKit

def nR (s : Sz) : Nat := n3 (s.e 0).toNat (s.e 1).toNat (s.e 2).toNat
def nL (s : Sz) : Nat := n3 (-(s.e 0)).toNat (-(s.e 1)).toNat (-(s.e 2)).toNat
theorem nL_pos (s : Sz) : 0 < nL s := n3_pos _ _ _
def Bnd (s : Sz) (lo hi : Nat) : Prop := lo ≤ 128000000 ∧ ((hi = lo ∧ lo ^ s.den.toNat * nL s = 1000000 ^ s.den.toNat * nR s) ∨
  (hi = lo + 1 ∧ lo ^ s.den.toNat * nL s < 1000000 ^ s.den.toNat * nR s ∧ 1000000 ^ s.den.toNat * nR s < hi ^ s.den.toNat * nL s))
theorem Bnd.lo {s : Sz} {lo hi : Nat} (h : Bnd s lo hi) : lo ^ s.den.toNat * nL s ≤ 1000000 ^ s.den.toNat * nR s := by
  rcases h.2 with ⟨_, h⟩ | ⟨_, h, _⟩
  · exact Nat.le_of_eq h
  · exact Nat.le_of_lt h
theorem Bnd.hi {s : Sz} {lo hi : Nat} (h : Bnd s lo hi) : 1000000 ^ s.den.toNat * nR s ≤ hi ^ s.den.toNat * nL s := by
  rcases h.2 with ⟨e, h⟩ | ⟨_, _, h⟩
  · rw [e, h]; exact Nat.le_refl _
  · exact Nat.le_of_lt h
theorem Bnd.le {s : Sz} {lo hi : Nat} (h : Bnd s lo hi) : lo ≤ hi ∧ hi ≤ 128000001 := by
  rcases h with ⟨h, ⟨e, _⟩ | ⟨e, _⟩⟩ <;> omega
/-- Bounds that lie strictly are the only ones. -/
theorem Bnd.only {s : Sz} {lo hi : Nat} (h : Bnd s lo hi) {m : Nat} (h1 : m ^ s.den.toNat * nL s < 1000000 ^ s.den.toNat * nR s) (h2 : 1000000 ^ s.den.toNat * nR s < (m + 1) ^ s.den.toNat * nL s) : lo = m ∧ hi = m + 1 := by
  have hp : ∀ {a b : Nat}, a ^ s.den.toNat * nL s < b ^ s.den.toNat * nL s → a < b := fun {a b} h => lt_of_pow (Nat.lt_of_mul_lt_mul_right h)
  have a1 := hp (Nat.lt_of_lt_of_le h1 h.hi)
  have a2 := hp (Nat.lt_of_le_of_lt h.lo h2)
  rcases h.2 with ⟨e, h3⟩ | ⟨e, h3, h4⟩
  · rw [← h3] at h1 h2
    have := hp h1
    have := hp h2
    omega
  · omega
theorem bnd_num {A Du Dl Ru Lu Rl Ll p q ll hu : Nat} (hA : 0 < A) (hLu : 0 < Lu) (hLl : 0 < Ll) (hM : 0 < Du * Dl) (h2 : A ^ Du * Ru ≤ hu ^ Du * Lu) (h3 : ll ^ Dl * Ll ≤ A ^ Dl * Rl) :
    (p ^ (Du * Dl) * (Rl ^ Du * Lu ^ Dl) < q ^ (Du * Dl) * (Ru ^ Dl * Ll ^ Du) → p * ll < q * hu) ∧ (p ^ (Du * Dl) * (Rl ^ Du * Lu ^ Dl) ≤ q ^ (Du * Dl) * (Ru ^ Dl * Ll ^ Du) → p * ll ≤ q * hu) := by
  have e2 : A ^ (Du * Dl) * Ru ^ Dl ≤ hu ^ (Du * Dl) * Lu ^ Dl := by
    have := Nat.pow_le_pow_left h2 Dl
    rwa [Nat.mul_pow, Nat.mul_pow, ← Nat.pow_mul, ← Nat.pow_mul] at this
  have e3 : ll ^ (Du * Dl) * Ll ^ Du ≤ A ^ (Du * Dl) * Rl ^ Du := by
    have := Nat.pow_le_pow_left h3 Du
    rwa [Nat.mul_pow, Nat.mul_pow, ← Nat.pow_mul, ← Nat.pow_mul, Nat.mul_comm Dl Du] at this
  have w0 : 0 < A ^ (Du * Dl) := Nat.pow_pos hA
  have l1 : 0 < Lu ^ Dl := Nat.pow_pos hLu
  have l2 : 0 < Ll ^ Du := Nat.pow_pos hLl
  have e1 : q * hu ≤ p * ll → q ^ (Du * Dl) * hu ^ (Du * Dl) ≤ p ^ (Du * Dl) * ll ^ (Du * Dl) := fun h => by
    have := Nat.pow_le_pow_left h (Du * Dl)
    rwa [Nat.mul_pow, Nat.mul_pow] at this
  have e1' : q * hu < p * ll → q ^ (Du * Dl) * hu ^ (Du * Dl) < p ^ (Du * Dl) * ll ^ (Du * Dl) := fun h => by
    have := Nat.pow_lt_pow_left h (Nat.ne_of_gt hM)
    rwa [Nat.mul_pow, Nat.mul_pow] at this
  generalize hX1 : q ^ (Du * Dl) = a at *
  generalize hX2 : p ^ (Du * Dl) = b at *
  generalize hu ^ (Du * Dl) = x at *
  generalize ll ^ (Du * Dl) = y at *
  generalize A ^ (Du * Dl) = W at *
  generalize Ru ^ Dl = ru at *
  generalize Lu ^ Dl = lu at *
  generalize Rl ^ Du = rl at *
  generalize Ll ^ Du = lx at *
  have c1 : W * (a * (ru * lx)) ≤ (a * x) * (lu * lx) := by
    have := Nat.mul_le_mul_right (a * lx) e2
    calc W * (a * (ru * lx)) = W * ru * (a * lx) := by ac_rfl
      _ ≤ x * lu * (a * lx) := this
      _ = (a * x) * (lu * lx) := by ac_rfl
  have c2 : (b * y) * (lu * lx) ≤ W * (b * (rl * lu)) := by
    have := Nat.mul_le_mul_right (b * lu) e3
    calc (b * y) * (lu * lx) = y * lx * (b * lu) := by ac_rfl
      _ ≤ W * rl * (b * lu) := this
      _ = W * (b * (rl * lu)) := by ac_rfl
  constructor
  · intro h
    refine Nat.lt_of_not_le fun hn => ?_
    have c3 := Nat.mul_le_mul_right (lu * lx) (e1 hn)
    have c4 := Nat.le_of_mul_le_mul_left (Nat.le_trans c1 (Nat.le_trans c3 c2)) w0
    omega
  · intro h
    refine Nat.le_of_not_lt fun hn => ?_
    have c3 := Nat.mul_lt_mul_of_pos_right (e1' hn) (Nat.mul_pos l1 l2)
    have c4 := Nat.lt_of_mul_lt_mul_left (Nat.lt_of_le_of_lt c1 (Nat.lt_of_lt_of_le c3 c2))
    omega
/-- The exponents of (q times the number of u) over (p times that of l). -/
def vz (u l : Sz) (P Q : Nat → Nat) (k : Nat) : Int := ((Q k : Int) - P k) * (u.den * l.den) + u.e k * l.den - l.e k * u.den
theorem vz_val {u l : Sz} (hu : u.ok = true) (hl : l.ok = true) (P Q : Nat → Nat) {k : Nat} (hk : k < 3) :
    (vz u l P Q k : Rat) = ((u.den * l.den : Int) : Rat) * (((Q k : Nat) : Rat) - ((P k : Nat) : Rat) + (u.q k).val - (l.q k).val) := by
  unfold vz
  rw [Rat.intCast_sub, Rat.intCast_add, Rat.intCast_mul, Rat.intCast_mul, Rat.intCast_mul, Rat.intCast_sub, Rat.intCast_mul, Sz.e_val (Sz.ok_rt hu) hk, Sz.e_val (Sz.ok_rt hl) hk, Rat.intCast_natCast, Rat.intCast_natCast]
  grind
def nX (u l : Sz) (P : Nat → Nat) (k : Nat) : Nat := P k * (u.den.toNat * l.den.toNat) + ((l.e k).toNat * u.den.toNat + (-(u.e k)).toNat * l.den.toNat)
def nY (u l : Sz) (Q : Nat → Nat) (k : Nat) : Nat := Q k * (u.den.toNat * l.den.toNat) + ((u.e k).toNat * l.den.toNat + (-(l.e k)).toNat * u.den.toNat)
theorem nXY {u l : Sz} (hu : u.ok = true) (hl : l.ok = true) (P Q : Nat → Nat) (k : Nat) : (nY u l Q k : Int) - nX u l P k = vz u l P Q k := by
  obtain ⟨D, hD⟩ : ∃ n : Nat, u.den = n := ⟨u.den.toNat, by have := u.dn_pos (Sz.ok_rt hu) 3; unfold Sz.den; omega⟩
  obtain ⟨E, hE⟩ : ∃ n : Nat, l.den = n := ⟨l.den.toNat, by have := l.dn_pos (Sz.ok_rt hl) 3; unfold Sz.den; omega⟩
  have a := Int.toNat_sub_toNat_neg (u.e k)
  have b := Int.toNat_sub_toNat_neg (l.e k)
  unfold nX nY vz
  rw [hD, hE, Int.toNat_natCast, Int.toNat_natCast]
  generalize (u.e k).toNat = x1 at *
  generalize (-(u.e k)).toNat = x2 at *
  generalize (l.e k).toNat = x3 at *
  generalize (-(l.e k)).toNat = x4 at *
  rw [← a, ← b]
  simp only [Int.natCast_add, Int.natCast_mul]
  grind
theorem nX_n3 (u l : Sz) (P : Nat → Nat) : n3 (nX u l P 0) (nX u l P 1) (nX u l P 2) = n3 (P 0) (P 1) (P 2) ^ (u.den.toNat * l.den.toNat) * (nR l ^ u.den.toNat * nL u ^ l.den.toNat) := by
  unfold nX nR nL
  rw [n3_mul, n3_mul, n3_pow, n3_pow, n3_pow]
theorem nY_n3 (u l : Sz) (Q : Nat → Nat) : n3 (nY u l Q 0) (nY u l Q 1) (nY u l Q 2) = n3 (Q 0) (Q 1) (Q 2) ^ (u.den.toNat * l.den.toNat) * (nR u ^ l.den.toNat * nL l ^ u.den.toNat) := by
  unfold nY nR nL
  rw [n3_mul, n3_mul, n3_pow, n3_pow, n3_pow]
theorem den_pos {s : Sz} (h : s.ok = true) : 0 < s.den.toNat := by
  have := s.dn_pos (Sz.ok_rt h) 3
  unfold Sz.den
  omega
theorem bnd_lt {u l : Sz} (hu : u.ok = true) (hl : l.ok = true) {a b c d : Nat} (h1 : Bnd u a b) (h2 : Bnd l c d) (P Q : Nat → Nat) (h : sgP (vz u l P Q 0) (vz u l P Q 1) (vz u l P Q 2) = 1) :
    n3 (P 0) (P 1) (P 2) * c < n3 (Q 0) (Q 1) (Q 2) * b := by
  refine (bnd_num (by decide) (nL_pos _) (nL_pos _) (Nat.mul_pos (den_pos hu) (den_pos hl)) h1.hi h2.lo).1 ?_
  rw [← nX_n3, ← nY_n3]
  refine n3_sgn ?_
  rw [nXY hu hl, nXY hu hl, nXY hu hl]
  exact h
theorem bnd_le {u l : Sz} (hu : u.ok = true) (hl : l.ok = true) {a b c d : Nat} (h1 : Bnd u a b) (h2 : Bnd l c d) (P Q : Nat → Nat) (h : ∀ k, k < 3 → vz u l P Q k = 0) :
    n3 (P 0) (P 1) (P 2) * c ≤ n3 (Q 0) (Q 1) (Q 2) * b := by
  refine (bnd_num (by decide) (nL_pos _) (nL_pos _) (Nat.mul_pos (den_pos hu) (den_pos hl)) h1.hi h2.lo).2 ?_
  rw [← nX_n3, ← nY_n3]
  have e : ∀ k, k < 3 → nX u l P k = nY u l Q k := fun k hk => by
    have h1 := nXY hu hl P Q k
    rw [h k hk] at h1
    omega
  rw [e 0 (by decide), e 1 (by decide), e 2 (by decide)]
  exact Nat.le_refl _
theorem M_pos {u l : Sz} (hu : u.ok = true) (hl : l.ok = true) : 1 ≤ u.den * l.den := by
  have a := u.dn_pos (Sz.ok_rt hu) 3
  have b := l.dn_pos (Sz.ok_rt hl) 3
  exact Int.mul_pos (show 0 < u.den by unfold Sz.den; omega) (show 0 < l.den by unfold Sz.den; omega)
/-- The size s between l and u, against a pure one of p over q. -/
theorem sgn_lt {u l s z : Sz} (hu : u.ok = true) (hl : l.ok = true) (hs : s.ok = true) (hz : z.ok = true) (P Q : Nat → Nat) (h1 : ∀ k, k < 3 → (s.q k).val = (u.q k).val - (l.q k).val)
    (h2 : ∀ k, k < 3 → (z.q k).val = ((P k : Nat) : Rat) - ((Q k : Nat) : Rat)) {a b c d : Nat} (b1 : Bnd u a b) (b2 : Bnd l c d) :
    (cmS s z = 1 → n3 (P 0) (P 1) (P 2) * c < n3 (Q 0) (Q 1) (Q 2) * b) ∧ (cmS s z = -1 → n3 (Q 0) (Q 1) (Q 2) * a < n3 (P 0) (P 1) (P 2) * d) := by
  constructor
  · intro h
    refine bnd_lt hu hl b1 b2 P Q ?_
    rw [← h]
    refine (cmS_val hs hz (M_pos hu hl) fun k hk => ?_).symm
    rw [vz_val hu hl P Q hk, h1 k hk, h2 k hk]
    grind
  · intro h
    refine bnd_lt hl hu b2 b1 Q P ?_
    have hb := fun k hk => (cm_bd hs hz).2.2 k hk
    have c0 : sgP (-(cmV s z 0)) (-(cmV s z 1)) (-(cmV s z 2)) = 1 := by
      have y1 := hb 1 (by decide)
      have y2 := hb 2 (by decide)
      rw [sgP_neg (by unfold cmV; omega) (by unfold cmV; omega) (by unfold cmV; omega) (by unfold cmV; omega)]
      unfold cmS at h
      rw [if_pos (both_ok hs hz)] at h
      rw [h]; rfl
    rw [← c0]
    have nv : ∀ k, k < 3 → ((-(cmV s z k) : Int) : Rat) = (cmM s z : Rat) * ((z.q k).val - (s.q k).val) := fun k hk => by
      rw [Rat.intCast_neg, cmV_val hs hz hk]
      grind
    have nw : ∀ k, k < 3 → (vz l u Q P k : Rat) = ((l.den * u.den : Int) : Rat) * ((z.q k).val - (s.q k).val) := fun k hk => by
      rw [vz_val hl hu Q P hk, h1 k hk, h2 k hk]
      grind
    exact sgP_rat (M_pos hl hu) (cm_dvd hs hz).1 (nw 0 (by decide)) (nw 1 (by decide)) (nw 2 (by decide)) (nv 0 (by decide)) (nv 1 (by decide)) (nv 2 (by decide))
/-- A size an octave above another one. -/
theorem oct_le {u v : Sz} (hu : u.ok = true) (hv : v.ok = true) (h : ∀ k, k < 3 → (v.q k).val = (u.q k).val + if k = 0 then 1 else 0) {a b c d : Nat} (b1 : Bnd u a b) (b2 : Bnd v c d) : c ≤ 2 * b ∧ 2 * a ≤ d := by
  have e1 := bnd_le hu hv b1 b2 (fun _ => 0) (fun k => if k = 0 then 1 else 0) fun k hk => by
    apply Rat.intCast_inj.mp
    rw [vz_val hu hv _ _ hk, h k hk]
    by_cases h0 : k = 0
    · rw [if_pos h0, if_pos h0]; grind
    · rw [if_neg h0, if_neg h0]; grind
  have e2 := bnd_le hv hu b2 b1 (fun k => if k = 0 then 1 else 0) (fun _ => 0) fun k hk => by
    apply Rat.intCast_inj.mp
    rw [vz_val hv hu _ _ hk, h k hk]
    by_cases h0 : k = 0
    · rw [if_pos h0, if_pos h0]; grind
    · rw [if_neg h0, if_neg h0]; grind
  have n0 : n3 0 0 0 = 1 := rfl
  have n1 : n3 1 0 0 = 2 := rfl
  simp only [if_pos, show (1 : Nat) ≠ 0 by decide, show (2 : Nat) ≠ 0 by decide, n0, n1, Nat.one_mul, if_false] at e1 e2
  exact ⟨e1, e2⟩
end Go.Proofs.YtehgeoipbgpocaaGreatDoor

namespace Go.Proofs.YtehgeoipbgpocaaGreatDoor
set_option linter.unusedVariables false
set_option linter.unusedSimpArgs false
open Go.RowKit

def isP (m : Nat) : Prop := m = 3 ∨ m = 4 ∨ m = 5 ∨ m = 7 ∨ m = 8 ∨ m = 9 ∨ m = 12
def ptP (m k : Nat) : Nat := match m, k with
  | 3, 0 => 1
  | 3, 1 => 1
  | 4, 2 => 1
  | 5, 0 => 2
  | 7, 1 => 1
  | 8, 0 => 3
  | 9, 2 => 1
  | 12, 0 => 1
  | _, _ => 0
def ptQ (m k : Nat) : Nat := match m, k with
  | 3, 2 => 1
  | 4, 0 => 2
  | 5, 1 => 1
  | 7, 0 => 1
  | 8, 2 => 1
  | 9, 1 => 1
  | _, _ => 0
def pI (m : Nat) : Nat := n3 (ptP m 0) (ptP m 1) (ptP m 2)
def qI (m : Nat) : Nat := n3 (ptQ m 0) (ptQ m 1) (ptQ m 2)
def puS (m : Nat) : Sz := ratS (pI m) (qI m)
theorem pu_all {m : Nat} (hm : isP m) : ratE (pI m) (qI m) = 0 ∧ (puS m).ok = true ∧ puS m = iS ((ptP m 0 : Int) - ptQ m 0) ((ptP m 1 : Int) - ptQ m 1) ((ptP m 2 : Int) - ptQ m 2) ∧ 1 ≤ pI m ∧ pI m ≤ 8 ∧ 1 ≤ qI m ∧ qI m ≤ 5 := by
  rcases hm with rfl | rfl | rfl | rfl | rfl | rfl | rfl <;> exact ⟨by decide +kernel, by decide +kernel, by decide +kernel, by decide +kernel, by decide +kernel, by decide +kernel, by decide +kernel⟩
theorem iS_val (x : Nat → Int) {k : Nat} (hk : k < 3) : ((iS (x 0) (x 1) (x 2)).q k).val = (x k : Rat) := by
  rcases (show k = 0 ∨ k = 1 ∨ k = 2 by omega) with rfl | rfl | rfl
  · show ((x 0 : Int) : Rat) / ((1 : Int) : Rat) = _
    rw [show ((1 : Int) : Rat) = 1 from rfl]
    grind
  · show ((x 1 : Int) : Rat) / ((1 : Int) : Rat) = _
    rw [show ((1 : Int) : Rat) = 1 from rfl]
    grind
  · show ((x 2 : Int) : Rat) / ((1 : Int) : Rat) = _
    rw [show ((1 : Int) : Rat) = 1 from rfl]
    grind
theorem pu_val {m : Nat} (hm : isP m) : ∀ k, k < 3 → ((puS m).q k).val = ((ptP m k : Nat) : Rat) - ((ptQ m k : Nat) : Rat) := fun k hk => by
  rw [(pu_all hm).2.2.1]
  refine (iS_val (fun k => (ptP m k : Int) - ptQ m k) hk).trans ?_
  show (((ptP m k : Int) - (ptQ m k : Int) : Int) : Rat) = _
  rw [Rat.intCast_sub, Rat.intCast_natCast, Rat.intCast_natCast]
/-- The bounds of beats by the direction, the parts, and the bounds of the two frequencies. -/
def bLo (d p q ul uh ll lh : Int) : Int := if d = 1 then max 0 (q * ul - p * lh) else if d = -1 then max 0 (p * ll - q * uh) else 0
def bHi (d p q ul uh ll lh : Int) : Int := if d = 1 then q * uh - p * ll else if d = -1 then p * lh - q * ul else 0
theorem scal {p q a b pitch : Nat} (h : p * a < q * b) (hp : 1 ≤ pitch) : (p : Int) * (pitch * a) < q * (pitch * b) := by
  have h2 := Nat.mul_lt_mul_of_pos_left h hp
  have e1 : p * (pitch * a) = pitch * (p * a) := by ac_rfl
  have e2 : q * (pitch * b) = pitch * (q * b) := by ac_rfl
  rw [← e1, ← e2] at h2
  exact_mod_cast h2
theorem beat_dir {c : Cir} {l m : Nat} {s u x : Sz} {a b e f pitch : Nat} (hm : isP m) (hs : btM c l (l + m) = some s) (hu : btM c 69 (l + m) = some u) (hx : btM c 69 l = some x) (b1 : Bnd u a b) (b2 : Bnd x e f) (hp : 1 ≤ pitch) :
    (cmS s (puS m) = 1 → (pI m : Int) * (pitch * e) < qI m * (pitch * b)) ∧ (cmS s (puS m) = -1 → (qI m : Int) * (pitch * a) < pI m * (pitch * f)) := by
  obtain ⟨_, _, _, _, o1, _⟩ := bt_val hs
  obtain ⟨_, _, _, _, o2, _⟩ := bt_val hu
  obtain ⟨_, _, _, _, o3, _⟩ := bt_val hx
  obtain ⟨h1, h2⟩ := sgn_lt o2 o3 o1 (pu_all hm).2.1 (ptP m) (ptQ m) (bt_two hs hx hu) (pu_val hm) b1 b2
  exact ⟨fun h => scal (h1 h) hp, fun h => scal (h2 h) hp⟩
theorem cmS_same {s t z : Sz} (hs : s.ok = true) (ht : t.ok = true) (hz : z.ok = true) (h : ∀ k, k < 3 → (t.q k).val = (s.q k).val) : cmS t z = cmS s z := by
  rw [cmS_val ht hz (cm_dvd hs hz).1 (z := cmV s z) fun k hk => by rw [cmV_val hs hz hk, h k hk]]
  unfold cmS
  rw [if_pos (both_ok hs hz)]
theorem up_val {c : Cir} {l : Nat} {x y : Sz} (hl : l + 12 ≤ 127) (hx : btM c 69 l = some x) (hy : btM c 69 (l + 12) = some y) : ∀ k, k < 3 → (y.q k).val = (x.q k).val + if k = 0 then 1 else 0 := by
  intro k hk
  rw [bt_oct (by omega) (by omega) (by omega) (by omega) hx hy rfl (by omega) k hk]
  rw [show (((l + 12) / 12 : Nat) : Int) - ((69 / 12 : Nat) : Int) - ((l / 12 : Nat) : Int) + ((69 / 12 : Nat) : Int) = 1 by omega]
  rfl
theorem mul_oct {q a b pitch : Nat} (h : a ≤ 2 * b) : (q : Int) * (pitch * a) ≤ 2 * (q * (pitch * b)) := by
  have h1 := Nat.mul_le_mul_left q (Nat.mul_le_mul_left pitch h)
  have e : q * (pitch * (2 * b)) = 2 * (q * (pitch * b)) := by ac_rfl
  rw [e] at h1
  exact_mod_cast h1
theorem mul_oct' {q a b pitch : Nat} (h : 2 * a ≤ b) : 2 * ((q : Int) * (pitch * a)) ≤ q * (pitch * b) := by
  have h1 := Nat.mul_le_mul_left q (Nat.mul_le_mul_left pitch h)
  have e : q * (pitch * (2 * a)) = 2 * (q * (pitch * a)) := by ac_rfl
  rw [e] at h1
  exact_mod_cast h1
/-- What beats are, by numbers. -/
structure BtN (c : Cir) (l m pitch : Nat) (x y : Int) : Prop where
  is : ∃ (s u v : Sz) (a b e f : Nat), btM c l (l + m) = some s ∧ btM c 69 (l + m) = some u ∧ btM c 69 l = some v ∧ Bnd u a b ∧ Bnd v e f ∧
    x = bLo (cmS s (puS m)) (pI m) (qI m) (pitch * a) (pitch * b) (pitch * e) (pitch * f) ∧ y = bHi (cmS s (puS m)) (pI m) (qI m) (pitch * a) (pitch * b) (pitch * e) (pitch * f)
theorem BtN.low {c : Cir} {l m pitch : Nat} {x y : Int} (h : BtN c l m pitch x y) : 0 ≤ x := by
  obtain ⟨s, u, v, a, b, e, f, _, _, _, _, _, rfl, _⟩ := h
  unfold bLo
  split
  · omega
  · split <;> omega
theorem BtN.dir {c : Cir} {l m pitch : Nat} {x y : Int} {s : Sz} (h : BtN c l m pitch x y) (hm : isP m) (hp : 1 ≤ pitch) (hs : btM c l (l + m) = some s) :
    (cmS s (puS m) = 0 → x = 0 ∧ y = 0) ∧ (cmS s (puS m) ≠ 0 → 1 ≤ y) := by
  obtain ⟨s', u, v, a, b, e, f, h1, h2, h3, h4, h5, rfl, rfl⟩ := h
  obtain rfl : s' = s := by rw [h1] at hs; injection hs
  obtain ⟨d1, d2⟩ := beat_dir hm h1 h2 h3 h4 h5 hp
  refine ⟨fun h => ?_, fun h => ?_⟩
  · unfold bLo bHi
    rw [h]
    exact ⟨rfl, rfl⟩
  · unfold bHi
    have hd : cmS s' (puS m) = 1 ∨ cmS s' (puS m) = -1 := by
      unfold cmS at h ⊢
      split
      · rename_i hb
        rw [if_pos hb] at h
        rcases sgP_val (cmV s' (puS m) 0) (cmV s' (puS m) 1) (cmV s' (puS m) 2) with h0 | h0
        · exact absurd h0 h
        · exact h0
      · rename_i hb
        rw [if_neg hb] at h
        exact absurd rfl h
    rcases hd with hd | hd
    · have := d1 hd
      rw [if_pos hd]
      omega
    · have := d2 hd
      rw [if_neg (by omega), if_pos hd]
      omega
theorem BtN.up {c : Cir} {l m pitch : Nat} {x y x' y' : Int} (h : BtN c l m pitch x y) (h' : BtN c (l + 12) m pitch x' y') (hm : isP m) (hp : 1 ≤ pitch) (hl : l + 12 + m ≤ 127) : x' ≤ 2 * y ∧ 2 * x ≤ y' := by
  have hlow := h.low
  have hlow' := h'.low
  obtain ⟨s, u, v, a, b, e, f, h1, h2, h3, h4, h5, hx, hy⟩ := id h
  obtain ⟨s', u', v', a', b', e', f', k1, k2, k3, k4, k5, hx', hy'⟩ := id h'
  obtain ⟨_, _, _, _, o1, _⟩ := bt_val h1
  obtain ⟨_, _, _, _, o1', _⟩ := bt_val k1
  obtain ⟨_, _, _, _, o2, _⟩ := bt_val h2
  obtain ⟨_, _, _, _, o3, _⟩ := bt_val h3
  obtain ⟨_, _, _, _, o2', _⟩ := bt_val k2
  obtain ⟨_, _, _, _, o3', _⟩ := bt_val k3
  have hd : cmS s' (puS m) = cmS s (puS m) := cmS_same o1 o1' (pu_all hm).2.1 fun k hk => by
    rw [bt_oct (by omega) (by omega) (by omega) (by omega) h1 k1 (by omega) (by omega) k hk]
    rw [show (((l + 12 + m) / 12 : Nat) : Int) - (((l + 12) / 12 : Nat) : Int) - (((l + m) / 12 : Nat) : Int) + ((l / 12 : Nat) : Int) = 0 by omega]
    split
    · rw [show ((0 : Int) : Rat) = 0 from rfl]; grind
    · grind
  obtain ⟨q1, q2⟩ := oct_le o3 o3' (up_val (by omega) h3 k3) h5 k5
  obtain ⟨q3, q4⟩ := oct_le o2 o2' (up_val (by omega) h2 (by rw [show l + m + 12 = l + 12 + m by omega]; exact k2)) h4 k4
  have z1 := (h.dir hm hp h1).2
  have z0 := (h.dir hm hp h1).1
  have z2 := (h'.dir hm hp k1).2
  have z0' := (h'.dir hm hp k1).1
  rw [hd] at hx' hy' z2 z0'
  have p1 := @mul_oct (pI m) _ _ pitch q1
  have p2 := @mul_oct' (pI m) _ _ pitch q2
  have p3 := @mul_oct (qI m) _ _ pitch q3
  have p4 := @mul_oct' (qI m) _ _ pitch q4
  unfold bLo at hx hx'
  unfold bHi at hy hy'
  by_cases c1 : cmS s (puS m) = 1
  · rw [if_pos c1] at hx hy hx' hy'
    have := z1 (by omega)
    have := z2 (by omega)
    generalize (pI m : Int) * (pitch * e) = t1 at *
    generalize (pI m : Int) * (pitch * f) = t2 at *
    generalize (pI m : Int) * (pitch * e') = t3 at *
    generalize (pI m : Int) * (pitch * f') = t4 at *
    generalize (qI m : Int) * (pitch * a) = t5 at *
    generalize (qI m : Int) * (pitch * b) = t6 at *
    generalize (qI m : Int) * (pitch * a') = t7 at *
    generalize (qI m : Int) * (pitch * b') = t8 at *
    omega
  · rw [if_neg c1] at hx hy hx' hy'
    by_cases c2 : cmS s (puS m) = -1
    · rw [if_pos c2] at hx hy hx' hy'
      have := z1 (by omega)
      have := z2 (by omega)
      generalize (pI m : Int) * (pitch * e) = t1 at *
      generalize (pI m : Int) * (pitch * f) = t2 at *
      generalize (pI m : Int) * (pitch * e') = t3 at *
      generalize (pI m : Int) * (pitch * f') = t4 at *
      generalize (qI m : Int) * (pitch * a) = t5 at *
      generalize (qI m : Int) * (pitch * b) = t6 at *
      generalize (qI m : Int) * (pitch * a') = t7 at *
      generalize (qI m : Int) * (pitch * b') = t8 at *
      omega
    · rw [if_neg c2] at hx hy hx' hy'
      omega
end Go.Proofs.YtehgeoipbgpocaaGreatDoor

namespace Go.Proofs.YtehgeoipbgpocaaGreatDoor
set_option linter.unusedVariables false
set_option linter.unusedSimpArgs false
open Go.RowKit

def askL (s : Sz) : Nat → Int
  | 0 => 1
  | k + 1 => if s.e k < 0 then askL s k * prm k ^ (s.e k).natAbs else askL s k
def askR (s : Sz) : Nat → Int
  | 0 => 1000000 ^ s.den.toNat
  | k + 1 => if s.e k < 0 then askR s k else askR s k * prm k ^ (s.e k).natAbs
theorem pw_neg (b : Nat) (e a : Int) : (if e < 0 then a * (b : Int) ^ e.natAbs else a) = a * ((b ^ (-e).toNat : Nat) : Int) := by
  split
  · rw [show e.natAbs = (-e).toNat by omega, Int.natCast_pow]
  · rw [show (-e).toNat = 0 by omega, Nat.pow_zero]
    omega
theorem pw_pos (b : Nat) (e a : Int) : (if e < 0 then a else a * (b : Int) ^ e.natAbs) = a * ((b ^ e.toNat : Nat) : Int) := by
  split
  · rw [show e.toNat = 0 by omega, Nat.pow_zero]
    omega
  · rw [show e.natAbs = e.toNat by omega, Int.natCast_pow]
theorem askL_step (s : Sz) (k b : Nat) (hb : prm k = b) : askL s (k + 1) = askL s k * ((b ^ (-(s.e k)).toNat : Nat) : Int) := by
  rw [← pw_neg, ← hb]
  rfl
theorem askR_step (s : Sz) (k b : Nat) (hb : prm k = b) : askR s (k + 1) = askR s k * ((b ^ (s.e k).toNat : Nat) : Int) := by
  rw [← pw_pos, ← hb]
  rfl
theorem askL_end (s : Sz) : askL s 3 = ((nL s : Nat) : Int) := by
  rw [askL_step s 2 5 rfl, askL_step s 1 3 rfl, askL_step s 0 2 rfl]
  unfold nL n3
  rw [Int.natCast_mul, Int.natCast_mul, show askL s 0 = 1 from rfl, Int.one_mul]
theorem askR_end (s : Sz) : askR s 3 = ((1000000 ^ s.den.toNat * nR s : Nat) : Int) := by
  rw [askR_step s 2 5 rfl, askR_step s 1 3 rfl, askR_step s 0 2 rfl, show askR s 0 = 1000000 ^ s.den.toNat from rfl]
  unfold nR n3
  rw [Int.natCast_mul, Int.natCast_mul, Int.natCast_mul, show ((1000000 ^ s.den.toNat : Nat) : Int) = 1000000 ^ s.den.toNat by rw [Int.natCast_pow]; rfl]
  simp only [Int.mul_assoc]
theorem nd_pow (z : Int) (n : Nat) : I.nd (z ^ n) ≤ n * I.nd z + 1 := by
  induction n with
  | zero => rw [Int.pow_zero, I.nd_1]; omega
  | succ n ih =>
    have h := I.nd_mul (z ^ n) z
    rw [Int.pow_succ, Nat.succ_mul]
    omega
theorem nd_le9 {x : Int} (h1 : -128000001 ≤ x) (h2 : x ≤ 128000001) : I.nd x ≤ 9 := by
  refine I.nd_le10 (by decide) ?_
  have : (10 : Nat) ^ 9 = 1000000000 := by decide
  omega
theorem nd_prm (k : Nat) : I.nd (prm k) = 1 := by
  unfold prm
  split <;> decide +kernel
theorem nd_E6 : I.nd 1000000 = 7 := by decide +kernel
theorem prm_pw {s : Sz} (h : s.ok = true) {k : Nat} (hk : k < 3) : (s.e k).natAbs ≤ 6000 ∧ (s.e k).natAbs * I.nd (prm k) ≤ 24000 ∧ I.nd (prm k ^ (s.e k).natAbs) ≤ 6001 := by
  have h1 := Sz.e_ok h k hk
  have h2 := nd_pow (prm k) (s.e k).natAbs
  rw [nd_prm] at h2 ⊢
  omega
theorem den_bd {s : Sz} (h : s.ok = true) : 1 ≤ s.den ∧ s.den ≤ 240 := ⟨s.dn_pos (Sz.ok_rt h) 3, (s.fit_spec (Sz.ok_fit h)).1⟩
theorem ask_nd {s : Sz} (h : s.ok = true) {k : Nat} (hk : k ≤ 3) : I.nd (askL s k) ≤ 1 + 6001 * k ∧ I.nd (askR s k) ≤ 1681 + 6001 * k := by
  induction k with
  | zero =>
    have h1 := nd_pow 1000000 s.den.toNat
    have h2 := den_bd h
    rw [nd_E6] at h1
    refine ⟨by show I.nd 1 ≤ _; rw [I.nd_1]; omega, ?_⟩
    show I.nd (1000000 ^ s.den.toNat) ≤ _
    omega
  | succ k ih =>
    obtain ⟨i1, i2⟩ := ih (by omega)
    have h1 := (prm_pw h (show k < 3 by omega)).2.2
    have h2 := I.nd_mul (askL s k) (prm k ^ (s.e k).natAbs)
    have h3 := I.nd_mul (askR s k) (prm k ^ (s.e k).natAbs)
    unfold askL askR
    constructor <;> split <;> omega
theorem cmp_nd {n : Int} {D : Nat} {L : Int} (h1 : -128000001 ≤ n) (h2 : n ≤ 128000001) (hD : D ≤ 240) (hL : I.nd L ≤ 20000) : D * I.nd n ≤ 24000 ∧ I.nd (n ^ D) ≤ 2161 ∧ I.nd (n ^ D * L) ≤ 22161 := by
  have a := nd_le9 h1 h2
  have b := nd_pow n D
  have c := I.nd_mul (n ^ D) L
  have d : D * I.nd n ≤ 240 * 9 := Nat.mul_le_mul hD a
  omega
theorem cmpI_nat (a b : Nat) : I.cmpI (a : Int) (b : Int) = if a < b then -1 else if b < a then 1 else 0 := by
  unfold I.cmpI
  simp only [Int.ofNat_lt]
theorem oct7 : octS 7 = iS 7 0 0 ∧ (octS 7).ok = true ∧ (octS (-7)).ok = true := ⟨by decide +kernel, by decide +kernel, by decide +kernel⟩
theorem top_bd {s : Sz} (hs : s.ok = true) (h : cmS s (octS 7) ≠ 1) : 1000000 ^ s.den.toNat * nR s < 128000001 ^ s.den.toNat * nL s := by
  have hd := den_bd hs
  have hle : nR s ≤ 128 ^ s.den.toNat * nL s := by
    have hv := oct_val (show 7 < 12 by decide)
    obtain ⟨D, hD⟩ : ∃ n : Nat, s.den = n := ⟨s.den.toNat, by omega⟩
    have hc := cmS_val hs oct7.2.1 hd.1 (z := fun k => s.e k - if k = 0 then 7 * s.den else 0) fun k hk => by
      have := hv k
      show ((s.e k - if k = 0 then 7 * s.den else 0 : Int) : Rat) = _
      rw [Rat.intCast_sub, Sz.e_val (Sz.ok_rt hs) hk]
      rw [show octS 7 = octS ((7 : Nat) : Int) from rfl, this]
      split
      · rw [Rat.intCast_mul]
        rw [show ((7 : Int) : Rat) = ((7 : Nat) : Rat) from rfl]
        grind
      · rw [show ((0 : Int) : Rat) = 0 from rfl]
        grind
    rw [hc] at h
    have e7 : 128 ^ s.den.toNat * nL s = n3 (7 * D + (-(s.e 0)).toNat) (0 + (-(s.e 1)).toNat) (0 + (-(s.e 2)).toNat) := by
      rw [n3_mul, hD, Int.toNat_natCast]
      unfold nL
      congr 1
      unfold n3
      rw [Nat.pow_mul]
      simp only [Nat.pow_zero, Nat.mul_one]
    rw [e7]
    have b0 := Sz.e_ok hs 0 (by decide)
    have b1 := Sz.e_ok hs 1 (by decide)
    have b2 := Sz.e_ok hs 2 (by decide)
    rw [show (s.e 0 - if 0 = 0 then 7 * s.den else 0) = s.e 0 - 7 * D by rw [← hD]; rfl, show (s.e 1 - if 1 = 0 then 7 * s.den else 0) = s.e 1 by show s.e 1 - 0 = _; omega, show (s.e 2 - if 2 = 0 then 7 * s.den else 0) = s.e 2 by show s.e 2 - 0 = _; omega] at h
    by_cases h0 : s.e 0 - 7 * (D : Int) = 0 ∧ s.e 1 = 0 ∧ s.e 2 = 0
    · obtain ⟨h3, h4, h5⟩ := h0
      unfold nR
      rw [h4, h5, show s.e 0 = ((7 * D : Nat) : Int) by omega, Int.toNat_natCast]
      rw [show (-((7 * D : Nat) : Int)).toNat = 0 by omega]
      exact Nat.le_refl _
    · have h6 := (sgn_eq (by omega) (by omega) (by omega) (by omega) h0).2
      have h7 : sgP (s.e 0 - 7 * (D : Int)) (s.e 1) (s.e 2) = -1 := by
        rcases sgP_val (s.e 0 - 7 * (D : Int)) (s.e 1) (s.e 2) with h8 | h8 | h8
        · unfold sgP at h8
          rw [if_neg h0] at h8
          exact absurd h8 h6
        · exact absurd h8 h
        · exact h8
      have h9 := @sgP_neg (s.e 0 - 7 * (D : Int)) (s.e 1) (s.e 2) (by omega) (by omega) (by omega) (by omega)
      rw [h7] at h9
      refine Nat.le_of_lt (n3_sgn ?_)
      refine Eq.trans ?_ h9
      congr 1 <;> omega
  obtain ⟨D, hD⟩ : ∃ n : Nat, s.den.toNat = n + 1 := ⟨s.den.toNat - 1, by omega⟩
  rw [hD] at hle ⊢
  have h1 := Nat.mul_le_mul_left (1000000 ^ (D + 1)) hle
  rw [← Nat.mul_assoc, ← Nat.mul_pow] at h1
  refine Nat.lt_of_le_of_lt h1 (Nat.mul_lt_mul_of_pos_right ?_ (nL_pos s))
  exact Nat.pow_lt_pow_left (by decide) (Nat.succ_ne_zero _)
end Go.Proofs.YtehgeoipbgpocaaGreatDoor
