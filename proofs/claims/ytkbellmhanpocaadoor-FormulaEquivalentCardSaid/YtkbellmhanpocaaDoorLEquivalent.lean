/- The walk of FormulaEquivalent. -/
import Derived.Test.YtkbellmhanpocaaDoorK1
import Derived.Test.YtkbellmhanpocaaDoorK2
import Derived.Test.YtkbellmhanpocaaDoorR1
import Derived.Test.YtkbellmhanpocaaDoorE1
namespace Go.Proofs.YtkbellmhanpocaaDoor
set_option linter.unusedVariables false
set_option linter.unusedSimpArgs false
open Go.RowKit F
attribute [local go_sem low] Bel.cell Bel.frozen alloc_cell alloc_frozen
attribute [local go_sem] calmOp chainOp yieldsC grows

set_option maxRecDepth 100000 in
theorem lawEquivalent_long (p q : Option Addr) (n m cap cap' : Nat) (w : World) (hT : Tab w) (hn : 30 < n ∨ 30 < m) : Calls Tryd.prog 8 #[.slice p n cap, .slice q m cap'] w (Ret (.bool true) w) := by
  have HT := Lib.hid hT
  clear hT
  by_cases h : 30 < n
  · have f0 : decide ((30 : Int) < (n : Int)) = true := decide_eq_true (by omega)
    go_enter Tryd.func8, Tryd.ntmps8
    go_wp2_with fail
    (with_reducible refine (known_any _ (HT.out.of (by (repeat' (first | (with_reducible exact Below.refl _ _) | (with_reducible exact Nat.le_refl _) | (with_reducible refine Below.bel ?_ ?_) | (with_reducible refine Below.alloc ?_ ?_ _) | (with_reducible refine Below.drew ?_) | (with_reducible refine Below.drawsN ?_ _) | (with_reducible refine Below.setCell ?_ ?_ _) | (with_reducible refine le_bel ?_) | (with_reducible refine le_alloc ?_) | (with_reducible refine le_setCell ?_) | (with_reducible refine le_drew ?_) | (with_reducible refine le_drawsN ?_) | (dsimp only; with_reducible refine le_bel ?_) | (dsimp only; with_reducible refine Nat.le_refl _) | (dsimp only; with_reducible refine le_bel_add ?_) | (with_reducible assumption) | omega | (dsimp only; omega)))))).mono ?_)
    rintro _ _ ⟨rfl, y1, rfl⟩
    go_wp2_with fail
    (with_reducible refine (known_any _ (HT.out.of (by (repeat' (first | (with_reducible exact Below.refl _ _) | (with_reducible exact Nat.le_refl _) | (with_reducible refine Below.bel ?_ ?_) | (with_reducible refine Below.alloc ?_ ?_ _) | (with_reducible refine Below.drew ?_) | (with_reducible refine Below.drawsN ?_ _) | (with_reducible refine Below.setCell ?_ ?_ _) | (with_reducible refine le_bel ?_) | (with_reducible refine le_alloc ?_) | (with_reducible refine le_setCell ?_) | (with_reducible refine le_drew ?_) | (with_reducible refine le_drawsN ?_) | (dsimp only; with_reducible refine le_bel ?_) | (dsimp only; with_reducible refine Nat.le_refl _) | (dsimp only; with_reducible refine le_bel_add ?_) | (with_reducible assumption) | omega | (dsimp only; omega)))))).mono ?_)
    rintro _ _ ⟨rfl, y2, rfl⟩
    go_wp2
    go_ret
    exact Ret.mk (by rfl) (by (repeat' (first | (with_reducible exact Below.refl _ _) | (with_reducible exact Nat.le_refl _) | (with_reducible refine Below.bel ?_ ?_) | (with_reducible refine Below.alloc ?_ ?_ _) | (with_reducible refine Below.drew ?_) | (with_reducible refine Below.drawsN ?_ _) | (with_reducible refine Below.setCell ?_ ?_ _) | (with_reducible refine le_bel ?_) | (with_reducible refine le_alloc ?_) | (with_reducible refine le_setCell ?_) | (with_reducible refine le_drew ?_) | (with_reducible refine le_drawsN ?_) | (dsimp only; with_reducible refine le_bel ?_) | (dsimp only; with_reducible refine Nat.le_refl _) | (dsimp only; with_reducible refine le_bel_add ?_) | (with_reducible assumption) | omega | (dsimp only; omega))))
  · have f0 : decide ((30 : Int) < (n : Int)) = false := decide_eq_false (by omega)
    have f1 : decide ((30 : Int) < (m : Int)) = true := decide_eq_true (by omega)
    go_enter Tryd.func8, Tryd.ntmps8
    go_wp2_with fail
    (with_reducible refine (known_any _ (HT.out.of (by (repeat' (first | (with_reducible exact Below.refl _ _) | (with_reducible exact Nat.le_refl _) | (with_reducible refine Below.bel ?_ ?_) | (with_reducible refine Below.alloc ?_ ?_ _) | (with_reducible refine Below.drew ?_) | (with_reducible refine Below.drawsN ?_ _) | (with_reducible refine Below.setCell ?_ ?_ _) | (with_reducible refine le_bel ?_) | (with_reducible refine le_alloc ?_) | (with_reducible refine le_setCell ?_) | (with_reducible refine le_drew ?_) | (with_reducible refine le_drawsN ?_) | (dsimp only; with_reducible refine le_bel ?_) | (dsimp only; with_reducible refine Nat.le_refl _) | (dsimp only; with_reducible refine le_bel_add ?_) | (with_reducible assumption) | omega | (dsimp only; omega)))))).mono ?_)
    rintro _ _ ⟨rfl, y1, rfl⟩
    go_wp2_with fail
    (with_reducible refine (known_any _ (HT.out.of (by (repeat' (first | (with_reducible exact Below.refl _ _) | (with_reducible exact Nat.le_refl _) | (with_reducible refine Below.bel ?_ ?_) | (with_reducible refine Below.alloc ?_ ?_ _) | (with_reducible refine Below.drew ?_) | (with_reducible refine Below.drawsN ?_ _) | (with_reducible refine Below.setCell ?_ ?_ _) | (with_reducible refine le_bel ?_) | (with_reducible refine le_alloc ?_) | (with_reducible refine le_setCell ?_) | (with_reducible refine le_drew ?_) | (with_reducible refine le_drawsN ?_) | (dsimp only; with_reducible refine le_bel ?_) | (dsimp only; with_reducible refine Nat.le_refl _) | (dsimp only; with_reducible refine le_bel_add ?_) | (with_reducible assumption) | omega | (dsimp only; omega)))))).mono ?_)
    rintro _ _ ⟨rfl, y2, rfl⟩
    go_wp2
    go_ret
    exact Ret.mk (by rfl) (by (repeat' (first | (with_reducible exact Below.refl _ _) | (with_reducible exact Nat.le_refl _) | (with_reducible refine Below.bel ?_ ?_) | (with_reducible refine Below.alloc ?_ ?_ _) | (with_reducible refine Below.drew ?_) | (with_reducible refine Below.drawsN ?_ _) | (with_reducible refine Below.setCell ?_ ?_ _) | (with_reducible refine le_bel ?_) | (with_reducible refine le_alloc ?_) | (with_reducible refine le_setCell ?_) | (with_reducible refine le_drew ?_) | (with_reducible refine le_drawsN ?_) | (dsimp only; with_reducible refine le_bel ?_) | (dsimp only; with_reducible refine Nat.le_refl _) | (dsimp only; with_reducible refine le_bel_add ?_) | (with_reducible assumption) | omega | (dsimp only; omega))))
theorem rising_len : ∀ {l : List Int} {a b : Int}, l.Pairwise (· < ·) → (∀ x ∈ l, a ≤ x ∧ x < b) → l.length ≤ (b - a).toNat
  | [], _, _, _, _ => Nat.zero_le _
  | x :: r, a, b, hs, hr => by
    rw [List.pairwise_cons] at hs
    have h0 := hr x (List.mem_cons_self ..)
    have := rising_len (l := r) (a := x + 1) (b := b) hs.2 fun y hy => ⟨by have := hs.1 y hy; omega, (hr y (List.mem_cons_of_mem _ hy)).2⟩
    rw [List.length_cons]
    omega
/-- An Or of so many variables. -/
def manyL : Nat → List F | 0 => [] | k + 1 => manyL k ++ [nd 1 (100 + (k : Int)) []]
theorem manyL_len : ∀ k, (manyL k).length = k | 0 => rfl | k + 1 => by rw [manyL, List.length_append, manyL_len k]; rfl
theorem manyL_facts : okT (nd 4 0 (manyL 13)) ∧ nodes (nd 4 0 (manyL 13)) = 14 ∧ levels (nd 4 0 (manyL 13)) = 2 := by
  refine ⟨?_, by decide +kernel, by decide +kernel⟩
  exact (okT_iff _).2 (by decide +kernel)
theorem mem_manyL (v : F) : ∀ k, v ∈ manyL k ↔ ∃ i : Nat, i < k ∧ v = nd 1 (100 + (i : Int)) []
  | 0 => by simp [manyL]
  | k + 1 => by
    rw [manyL, List.mem_append, mem_manyL v k, List.mem_singleton]
    constructor
    · rintro (⟨i, hi, e⟩ | e)
      · exact ⟨i, by omega, e⟩
      · exact ⟨k, by omega, e⟩
    · rintro ⟨i, hi, e⟩
      rcases Nat.lt_or_ge i k with h | h
      · exact .inl ⟨i, h, e⟩
      · have : i = k := by omega
        subst this
        exact .inr e
theorem manyL_pre : preL [nd 4 0 (manyL 13), nd 4 0 (manyL 13)] = nd 4 0 (manyL 13) :: (manyL 13 ++ (nd 4 0 (manyL 13) :: (manyL 13 ++ []))) := by rfl
theorem manyL_sup : 12 < (supF [nd 4 0 (manyL 13), nd 4 0 (manyL 13)]).length := by
  have hs := supF_spec [nd 4 0 (manyL 13), nd 4 0 (manyL 13)]
  have he : supF [nd 4 0 (manyL 13), nd 4 0 (manyL 13)] = (List.range 13).map fun i : Nat => 100 + (i : Int) := by
    refine rising_ext hs.1 (by decide +kernel) fun x => ?_
    rw [hs.2 x, manyL_pre]
    have hm := fun v => mem_manyL v 13
    generalize manyL 13 = M at *
    simp only [List.mem_cons, List.mem_append, List.not_mem_nil, or_false, List.mem_map, List.mem_range]
    constructor
    · rintro ⟨v, hv, hk, rfl⟩
      have : v ∈ M := by
        rcases hv with rfl | hv | rfl | hv
        · cases hk
        · exact hv
        · cases hk
        · exact hv
      obtain ⟨i, hi, rfl⟩ := (hm v).1 this
      exact ⟨i, hi, rfl⟩
    · rintro ⟨i, hi, rfl⟩
      exact ⟨nd 1 (100 + (i : Int)) [], .inr (.inl ((hm _).2 ⟨i, hi, rfl⟩)), rfl, rfl⟩
  rw [he]
  decide
set_option maxRecDepth 100000 in
set_option maxHeartbeats 12800000 in
theorem lawEquivalent_any (code other : List UInt8) (ca oa : Option Addr) (cc oc : Nat) (w : World) (hT : Tab w) (hs : ShowsV w (.slice ca code.length cc) (bytesV code)) (hs' : ShowsV w (.slice oa other.length oc) (bytesV other)) (hl : code.length ≤ 30) (hl' : other.length ≤ 30) : Calls Tryd.prog 8 #[.slice ca code.length cc, .slice oa other.length oc] w (Ret (.bool true) w) := by
  obtain ⟨i0, hi0, hz0, hz1, hz2⟩ := info_parts Tryd.infoF
  have f0 : decide ((30 : Int) < (code.length : Int)) = false := decide_eq_false (by omega)
  have f1 : decide ((30 : Int) < (other.length : Int)) = false := decide_eq_false (by omega)
  have HT := Lib.hid hT
  have HM := Lib.hid (fun W (hW : Below w.heap.size w W) => Make_any code ca cc W (showsV_of hs hW) hl)
  have HM2 := Lib.hid (fun W (hW : Below w.heap.size w W) => Make_any other oa oc W (showsV_of hs' hW) hl')
  obtain ⟨g1, g2, g3, g4⟩ := mkF_good code
  obtain ⟨t, ht⟩ : ∃ t, mkF code = t := ⟨_, rfl⟩
  rw [ht] at HM g1 g2 g3 g4
  obtain ⟨k1, k2, k3, k4⟩ := mkF_good other
  obtain ⟨u, hu⟩ : ∃ u, mkF other = u := ⟨_, rfl⟩
  rw [hu] at HM2 k1 k2 k3 k4
  have h6 : (supF [t, u]).length ≤ 12 := by
    have hsp := supF_spec [t, u]
    have hr : ∀ x ∈ supF [t, u], 0 ≤ x ∧ x < 6 := fun x hx => by
      rcases (supF_two g1 k1 x).1 hx with h | h
      · exact occ_inV g1 g2 h
      · exact occ_inV k1 k2 h
    exact Nat.le_trans (rising_len hsp.1 hr) (by decide)
  obtain ⟨b, hb⟩ : ∃ b : Bool, b = true ↔ eqv t u := by
    by_cases h : eqv t u
    · exact ⟨true, by simp [h]⟩
    · exact ⟨false, by simp [h]⟩
  have hvals := eqv_values g1 k1 g2 k2
  have HEQ := Lib.hid (fun (P P' : Nat → Prop) ad ad' cap cap' w' hi hi' => Equivalent_ok P P' t u ad ad' cap cap' b hb w' hi hi' g1 k1 (by omega) (by omega) (by omega) (by omega) h6)
  have HTR := Lib.hid (fun (P : Nat → Prop) ad cap w' hi => Tree_any (nodes t) t (Nat.le_refl _) P ad cap w' hi (by omega))
  have HTU := Lib.hid (fun (P : Nat → Prop) ad cap w' hi => Tree_any (nodes u) u (Nat.le_refl _) P ad cap w' hi (by omega))
  have HRV := Lib.hid (fun (v : Nat) (hv : v < 64) (P : Nat → Prop) ad cap w' hi => refValue_any v (by omega) (nodes t) t (Nat.le_refl _) g1 P ad cap w' hi (by omega))
  have HRU := Lib.hid (fun (v : Nat) (hv : v < 64) (P : Nat → Prop) ad cap w' hi => refValue_any v (by omega) (nodes u) u (Nat.le_refl _) k1 P ad cap w' hi (by omega))
  have HLM := Lib.hid (fun (P P' : Nat → Prop) ad ad' cap cap' w' hi hi' => Equivalent_limit P P' (nd 4 0 (manyL 13)) (nd 4 0 (manyL 13)) ad ad' cap cap' w' hi hi' manyL_facts.1 manyL_facts.1 (by rw [manyL_facts.2.1]; decide) (by rw [manyL_facts.2.2]; decide) (by rw [manyL_facts.2.1]; decide) (by rw [manyL_facts.2.2]; decide) manyL_sup)
  have HBV := Lib.hid (hb.trans hvals.symm)
  clear hT hs hs' ht hu g1 g2 g3 g4 k1 k2 k3 k4 h6 hb hvals
  go_enter Tryd.func8, Tryd.ntmps8
  go_wp2_with fail
  (with_reducible refine (known_any _ (HT.out.of (by (repeat' (first | (with_reducible exact Below.refl _ _) | (with_reducible exact Nat.le_refl _) | (with_reducible refine Below.bel ?_ ?_) | (with_reducible refine Below.alloc ?_ ?_ _) | (with_reducible refine Below.drew ?_) | (with_reducible refine Below.drawsN ?_ _) | (with_reducible refine Below.setCell ?_ ?_ _) | (with_reducible refine le_bel ?_) | (with_reducible refine le_alloc ?_) | (with_reducible refine le_setCell ?_) | (with_reducible refine le_drew ?_) | (with_reducible refine le_drawsN ?_) | (dsimp only; with_reducible refine le_bel ?_) | (dsimp only; with_reducible refine Nat.le_refl _) | (dsimp only; with_reducible refine le_bel_add ?_) | (with_reducible assumption) | omega | (dsimp only; omega)))))).mono ?_)
  rintro _ _ ⟨rfl, y1, rfl⟩
  go_wp2_with fail
  refine (HM.out _ (by (repeat' (first | (with_reducible exact Below.refl _ _) | (with_reducible exact Nat.le_refl _) | (with_reducible refine Below.bel ?_ ?_) | (with_reducible refine Below.alloc ?_ ?_ _) | (with_reducible refine Below.drew ?_) | (with_reducible refine Below.drawsN ?_ _) | (with_reducible refine Below.setCell ?_ ?_ _) | (with_reducible refine le_bel ?_) | (with_reducible refine le_alloc ?_) | (with_reducible refine le_setCell ?_) | (with_reducible refine le_drew ?_) | (with_reducible refine le_drawsN ?_) | (dsimp only; with_reducible refine le_bel ?_) | (dsimp only; with_reducible refine Nat.le_refl _) | (dsimp only; with_reducible refine le_bel_add ?_) | (with_reducible assumption) | omega | (dsimp only; omega))))).mono ?_
  rintro _ _ ⟨_, rfl, y2, rfl, ad2, cap2, rfl, hi2⟩
  have HJ2 := Lib.hid hi2
  clear hi2
  dsimp only
  go_wp2_with fail
  refine (HM2.out _ (by (repeat' (first | (with_reducible exact Below.refl _ _) | (with_reducible exact Nat.le_refl _) | (with_reducible refine Below.bel ?_ ?_) | (with_reducible refine Below.alloc ?_ ?_ _) | (with_reducible refine Below.drew ?_) | (with_reducible refine Below.drawsN ?_ _) | (with_reducible refine Below.setCell ?_ ?_ _) | (with_reducible refine le_bel ?_) | (with_reducible refine le_alloc ?_) | (with_reducible refine le_setCell ?_) | (with_reducible refine le_drew ?_) | (with_reducible refine le_drawsN ?_) | (dsimp only; with_reducible refine le_bel ?_) | (dsimp only; with_reducible refine Nat.le_refl _) | (dsimp only; with_reducible refine le_bel_add ?_) | (with_reducible assumption) | omega | (dsimp only; omega))))).mono ?_
  rintro _ _ ⟨_, rfl, y3, rfl, ad3, cap3, rfl, hi3⟩
  have hs1 := y1.size_le
  have hs2 := y2.size_le
  have hs3 := y3.size_le
  have hbW : Below w.heap.size w y3.w := by (repeat' (first | (with_reducible exact Below.refl _ _) | (with_reducible exact Nat.le_refl _) | (with_reducible refine Below.bel ?_ ?_) | (with_reducible refine Below.alloc ?_ ?_ _) | (with_reducible refine Below.drew ?_) | (with_reducible refine Below.drawsN ?_ _) | (with_reducible refine Below.setCell ?_ ?_ _) | (with_reducible refine le_bel ?_) | (with_reducible refine le_alloc ?_) | (with_reducible refine le_setCell ?_) | (with_reducible refine le_drew ?_) | (with_reducible refine le_drawsN ?_) | (dsimp only; with_reducible refine le_bel ?_) | (dsimp only; with_reducible refine Nat.le_refl _) | (dsimp only; with_reducible refine le_bel_add ?_) | (with_reducible assumption) | omega | (dsimp only; omega)))
  have hIt := HJ2.out.of y3.below
  obtain ⟨W3, hW3⟩ : ∃ W3, y3.w = W3 := ⟨_, rfl⟩
  rw [hW3] at hbW hIt hi3 ⊢
  have h0 := heap2_0 W3 (.cells #[.int .i64 t.k, .int .i64 t.a, .slice ad2 t.l.length cap2] 25) (.cells #[.int .i64 u.k, .int .i64 u.a, .slice ad3 u.l.length cap3] 25)
  have h1 := heap2_1 W3 (.cells #[.int .i64 t.k, .int .i64 t.a, .slice ad2 t.l.length cap2] 25) (.cells #[.int .i64 u.k, .int .i64 u.a, .slice ad3 u.l.length cap3] 25)
  have hb4 : Below W3.heap.size W3 ((W3.alloc (.cells #[.int .i64 t.k, .int .i64 t.a, .slice ad2 t.l.length cap2] 25)).alloc (.cells #[.int .i64 u.k, .int .i64 u.a, .slice ad3 u.l.length cap3] 25)) := by (repeat' (first | (with_reducible exact Below.refl _ _) | (with_reducible exact Nat.le_refl _) | (with_reducible refine Below.bel ?_ ?_) | (with_reducible refine Below.alloc ?_ ?_ _) | (with_reducible refine Below.drew ?_) | (with_reducible refine Below.drawsN ?_ _) | (with_reducible refine Below.setCell ?_ ?_ _) | (with_reducible refine le_bel ?_) | (with_reducible refine le_alloc ?_) | (with_reducible refine le_setCell ?_) | (with_reducible refine le_drew ?_) | (with_reducible refine le_drawsN ?_) | (dsimp only; with_reducible refine le_bel ?_) | (dsimp only; with_reducible refine Nat.le_refl _) | (dsimp only; with_reducible refine le_bel_add ?_) | (with_reducible assumption) | omega | (dsimp only; omega)))
  have HI2 := Lib.hid ((hIt.imp fun _ _ _ => trivial : InsF (fun _ => True) _ _ _).of hb4)
  have HI3 := Lib.hid ((hi3.imp fun _ _ _ => trivial : InsF (fun _ => True) _ _ _).of hb4)
  have HB4 := Lib.hid (hbW.trans (hb4.mono hbW.size))
  clear hIt hi3 hW3 HJ2 hs1 hs2 hs3 hbW hb4 y3 y2 y1
  dsimp only
  go_wp2_with fail
  refine (HEQ.out _ _ _ _ _ _ _ HI2.out HI3.out).mono ?_
  rintro _ _ ⟨rfl, y5, rfl⟩
  have e0 := obj_bel y5 h0
  have e1 := obj_bel y5 h1
  have HI2w := Lib.hid (HI2.out.of y5.below)
  have HI3w := Lib.hid (HI3.out.of y5.below)
  have HB5 := Lib.hid (HB4.out.trans (y5.below.mono HB4.out.size))
  obtain ⟨W5, hW5⟩ : ∃ W5, y5.w = W5 := ⟨_, rfl⟩
  rw [hW5] at e0 e1 HI2w HI3w HB5 ⊢
  obtain ⟨B3, hB3⟩ : ∃ B3, W3.heap.size = B3 := ⟨_, rfl⟩
  rw [hB3] at e0 e1 ⊢
  have HE0 := Lib.hid e0
  have HE1 := Lib.hid e1
  clear h0 h1 hW5 hB3 HI2 HI3 HB4 e0 e1 y5
  dsimp only
  go_wp2
  go_loopw [9, 10] (fun wv vv wr => ∃ v : Nat, vv = .int .u64 (v : Int) ∧ v ≤ 64 ∧ wv = .bool (decide (∀ q : Nat, q < v → val (envB q) t = val (envB q) u)) ∧ Below W5.heap.size W5 wr) (fun _ v _ => 64 - (intOf v).toNat)
  case atStart => exact ⟨0, rfl, by omega, by rw [decide_eq_true (fun q hq => absurd hq (Nat.not_lt_zero q))], Below.refl _ _⟩
  case round =>
    obtain ⟨v, rfl, hv, rfl, hb⟩ := hrel
    have HB := Lib.hid hb
    rcases Nat.lt_or_ge v 64 with hvl | hvl
    · have f2 : decide ((v : Int) < 64) = true := decide_eq_true (by omega)
      have hnext : (∀ q : Nat, q < v + 1 → val (envB q) t = val (envB q) u) ↔ (∀ q : Nat, q < v → val (envB q) t = val (envB q) u) ∧ val (envB v) t = val (envB v) u :=
        ⟨fun h => ⟨fun q hq => h q (by omega), h v (by omega)⟩, fun h q hq => by
          rcases Nat.lt_or_ge q v with h' | h'
          · exact h.1 q h'
          · have : q = v := by omega
            rw [this]; exact h.2⟩
      have HN := Lib.hid hnext
      clear hnext
      by_cases hall : ∀ q : Nat, q < v → val (envB q) t = val (envB q) u
      · have HA := Lib.hid hall
        rw [decide_eq_true hall]
        clear hall
        have o0 := obj_below hb (Array.getElem?_eq_some_iff.1 HE0.out).1 HE0.out
        have o1 := obj_below hb (Array.getElem?_eq_some_iff.1 HE1.out).1 HE1.out
        obtain ⟨b0, b1, b2⟩ := box3 o0
        obtain ⟨c0, c1, c2⟩ := box3 o1
        have HRVv := Lib.hid (fun (P : Nat → Prop) ad cap w' hi => HRV.out v hvl P ad cap w' hi)
        have HRUv := Lib.hid (fun (P : Nat → Prop) ad cap w' hi => HRU.out v hvl P ad cap w' hi)
        obtain ⟨vt, hvt⟩ : ∃ vt, val (envB v) t = vt := ⟨_, rfl⟩
        obtain ⟨vu, hvu⟩ : ∃ vu, val (envB v) u = vu := ⟨_, rfl⟩
        rw [hvt] at HRVv
        rw [hvu] at HRUv
        have HVT := Lib.hid (And.intro hvt hvu)
        have HIt := Lib.hid (HI2w.out.of hb)
        have HIu := Lib.hid (HI3w.out.of hb)
        clear o0 o1 hvt hvu hb
        go_wp2_with fail
        refine wp_region_plan 12 (.calm 0 (.calm 1 (.calm 2 (.calm 4 (.calm 6 (.calm 8 (.fork 3 (.fork 5 (.fork 7 (.fork 9 (.calm 10 (.calm 11 .tail)) .none) .none) .none) .none))))))) (by kernel_rfl) (by kernel_rfl) ?_
        simp only [Plan.walk, operAt, List.getElem?_cons_succ, List.getElem?_cons_zero, Option.getD_some, List.drop_succ_cons, List.drop_zero]
        repeat (refine wpX_calm (fun K hK => ?_); go_simp; first | (refine hK _ _ ?_; clear hK K) | (apply Exists.intro; refine ⟨fun _ => ?_, hK _ _ ?_⟩; (fail); clear hK K))
        refine wpX_only (fun K hK => ?_)
        go_simp
        intro x
        refine (HTR.out _ _ _ _ (HIt.out.of x.below)).mono ?_
        rintro _ _ ⟨_, rfl, y6, rfl, ad6, cap6, rfl, hi6⟩
        have HI6 := Lib.hid hi6
        clear hi6
        refine ⟨_, rfl, y6.below, hK _ _ ?_⟩
        clear hK K
        repeat (refine wpX_calm (fun K hK => ?_); go_simp; first | (refine hK _ _ ?_; clear hK K) | (apply Exists.intro; refine ⟨fun _ => ?_, hK _ _ ?_⟩; (fail); clear hK K))
        refine wpX_only (fun K hK => ?_)
        go_simp
        intro x2
        refine (HRVv.out _ _ _ _ (HI6.out.of x2.below)).mono ?_
        rintro _ _ ⟨rfl, y7, rfl⟩
        refine ⟨_, rfl, y7.below, hK _ _ ?_⟩
        clear hK K
        repeat (refine wpX_calm (fun K hK => ?_); go_simp; first | (refine hK _ _ ?_; clear hK K) | (apply Exists.intro; refine ⟨fun _ => ?_, hK _ _ ?_⟩; (fail); clear hK K))
        refine wpX_only (fun K hK => ?_)
        go_simp
        intro x3
        have hbx3 : Below wr.heap.size wr x3.w := x.below.trans ((y6.below.trans ((x2.below.trans ((y7.below.trans (x3.below.mono y7.size_le)).mono x2.size_le)).mono y6.size_le)).mono x.size_le)
        refine (HTU.out _ _ _ _ (HIu.out.of hbx3)).mono ?_
        rintro _ _ ⟨_, rfl, y8, rfl, ad8, cap8, rfl, hi8⟩
        have HI8 := Lib.hid hi8
        clear hi8
        refine ⟨_, rfl, y8.below, hK _ _ ?_⟩
        clear hK K
        repeat (refine wpX_calm (fun K hK => ?_); go_simp; first | (refine hK _ _ ?_; clear hK K) | (apply Exists.intro; refine ⟨fun _ => ?_, hK _ _ ?_⟩; (fail); clear hK K))
        refine wpX_only (fun K hK => ?_)
        go_simp
        intro x4
        refine (HRUv.out _ _ _ _ (HI8.out.of x4.below)).mono ?_
        rintro _ _ ⟨rfl, y9, rfl⟩
        refine ⟨_, rfl, y9.below, hK _ _ ?_⟩
        clear hK K
        repeat (refine wpX_calm (fun K hK => ?_); go_simp; first | (refine hK _ _ ?_; clear hK K) | (apply Exists.intro; refine ⟨fun _ => ?_, hK _ _ ?_⟩; (fail); clear hK K))
        refine wpX_tail ?_
        intro z
        have hbz : Below wr.heap.size wr z.w := hbx3.trans ((y8.below.trans ((x4.below.trans ((y9.below.trans (z.below.mono y9.size_le)).mono x4.size_le)).mono y8.size_le)).mono hbx3.size)
        have HBZ := Lib.hid (HB.out.trans (hbz.mono HB.out.size))
        clear hbx3 hbz
        have HDEC := Lib.hid (show decide (∀ q : Nat, q < v + 1 → val (envB q) t = val (envB q) u) = (vt == vu) from by
          rw [decide_eq_decide.2 HN.out, Bool.decide_and, decide_eq_true HA.out, Bool.true_and, HVT.out.1, HVT.out.2]
          cases vt <;> cases vu <;> rfl)
        cases vt
        · cases vu
          · go_wp2
            go_roundw
            case rel => exact ⟨v + 1, by go_num, by omega, by rw [HDEC.out], HBZ.out⟩
            case measure => simp [intOf]; omega
          · go_wp2
            go_roundw
            case rel => exact ⟨v + 1, by go_num, by omega, by rw [HDEC.out], HBZ.out⟩
            case measure => simp [intOf]; omega
        · cases vu
          · go_wp2
            go_roundw
            case rel => exact ⟨v + 1, by go_num, by omega, by rw [HDEC.out], HBZ.out⟩
            case measure => simp [intOf]; omega
          · go_wp2
            go_roundw
            case rel => exact ⟨v + 1, by go_num, by omega, by rw [HDEC.out], HBZ.out⟩
            case measure => simp [intOf]; omega
      · have HDEC := Lib.hid (show decide (∀ q : Nat, q < v + 1 → val (envB q) t = val (envB q) u) = false from decide_eq_false fun h => hall (HN.out.1 h).1)
        rw [decide_eq_false hall]
        clear hall hb
        go_wp2_with fail
        refine wp_region_bel (by kernel_rfl) (by kernel_rfl) ?_
        repeat (go_big_quiet_step (fail))
        refine wpQuiet_nil ?_
        rintro _ ⟨z, rfl⟩
        have HBZ := Lib.hid (HB.out.trans (z.below.mono HB.out.size))
        go_wp2
        go_roundw
        case rel => exact ⟨v + 1, by go_num, by omega, by rw [HDEC.out], HBZ.out⟩
        case measure => simp [intOf]; omega
    · have hve : v = 64 := by omega
      subst hve
      have f2 : decide (((64 : Nat) : Int) < 64) = false := decide_eq_false (by decide)
      have hdb : decide (∀ q : Nat, q < 64 → val (envB q) t = val (envB q) u) = b := by
        cases hbb : b
        · exact decide_eq_false fun h => by rw [HBV.out.2 h] at hbb; cases hbb
        · exact decide_eq_true (HBV.out.1 hbb)
      rw [hdb]
      have HBW := Lib.hid (HB5.out.trans (hb.mono HB5.out.size))
      obtain ⟨W6, hW6⟩ : ∃ W6, W6 = wr := ⟨_, rfl⟩
      subst hW6
      clear hb hdb
      go_wp2
      go_loopw [12] (fun i wr => ∃ (k : Nat) (v : Value), i = .int .i64 (k : Int) ∧ k ≤ 13 ∧ wr.heap[W6.heap.size]? = some (.cells #[.int .i64 4, .int .i64 0, v] 25 (0, 0)) ∧ OwnG wr (W6.heap.size + 1) (fun b => W6.heap.size + 1 ≤ b) 25 v (manyL k) ∧ Below W6.heap.size W6 wr ∧ W6.heap.size + 1 ≤ wr.heap.size) (fun i _ => 13 - (intOf i).toNat)
      case atStart => exact ⟨0, .slice none 0 0, rfl, by omega, World.alloc_heap_new _ _, ownG_nil _ _ _ _, by (repeat' (first | (with_reducible exact Below.refl _ _) | (with_reducible exact Nat.le_refl _) | (with_reducible refine Below.bel ?_ ?_) | (with_reducible refine Below.alloc ?_ ?_ _) | (with_reducible refine Below.drew ?_) | (with_reducible refine Below.drawsN ?_ _) | (with_reducible refine Below.setCell ?_ ?_ _) | (with_reducible refine le_bel ?_) | (with_reducible refine le_alloc ?_) | (with_reducible refine le_setCell ?_) | (with_reducible refine le_drew ?_) | (with_reducible refine le_drawsN ?_) | (dsimp only; with_reducible refine le_bel ?_) | (dsimp only; with_reducible refine Nat.le_refl _) | (dsimp only; with_reducible refine le_bel_add ?_) | (with_reducible assumption) | omega | (dsimp only; omega))), by simp⟩
      case round =>
        obtain ⟨k, v, rfl, hk, hbx, hown, hb, hsz2⟩ := hrel
        obtain ⟨va, vc, rfl⟩ := ownG_val hown
        rw [manyL_len] at hown hbx
        obtain ⟨d0, d1, d2⟩ := box3 hbx
        obtain ⟨_, _, e2⟩ := box3f hbx
        have HO := Lib.hid hown
        have HB2 := Lib.hid hb
        rcases Nat.lt_or_ge k 13 with hlt | hge2
        · have f3 : decide ((k : Int) ≤ 12) = true := decide_eq_true (by omega)
          have hbz : Below wr.heap.size wr (wr.alloc (.cells #[.int .i64 1, .int .i64 (100 + (k : Int)), .slice none 0 0] 25)) := by (repeat' (first | (with_reducible exact Below.refl _ _) | (with_reducible exact Nat.le_refl _) | (with_reducible refine Below.bel ?_ ?_) | (with_reducible refine Below.alloc ?_ ?_ _) | (with_reducible refine Below.drew ?_) | (with_reducible refine Below.drawsN ?_ _) | (with_reducible refine Below.setCell ?_ ?_ _) | (with_reducible refine le_bel ?_) | (with_reducible refine le_alloc ?_) | (with_reducible refine le_setCell ?_) | (with_reducible refine le_drew ?_) | (with_reducible refine le_drawsN ?_) | (dsimp only; with_reducible refine le_bel ?_) | (dsimp only; with_reducible refine Nat.le_refl _) | (dsimp only; with_reducible refine le_bel_add ?_) | (with_reducible assumption) | omega | (dsimp only; omega)))
          have HOZ := Lib.hid (show OwnG (wr.alloc (.cells #[.int .i64 1, .int .i64 (100 + (k : Int)), .slice none 0 0] 25)) (W6.heap.size + 1) (fun b => W6.heap.size + 1 ≤ b) 25 (.slice va k vc) (manyL k) from ownG_bel hown ⟨_, hbz⟩)
          have HCZ := Lib.hid (show InsC (fun b => W6.heap.size + 1 ≤ b ∧ (Value.slice va k vc).ownBlock ≠ some b) (wr.alloc (.cells #[.int .i64 1, .int .i64 (100 + (k : Int)), .slice none 0 0] 25)) (some ⟨wr.heap.size, 0, none⟩) [(nd 1 (100 + (k : Int)) [])] from
            insC_one (u := (nd 1 (100 + (k : Int)) [])) (E := 25) (ad := none) (cap := 0) (World.alloc_heap_new _ _) (insF_nil _ _ _))
          have HBZ := Lib.hid (obj_bel ⟨_, hbz⟩ hbx)
          have hln : (manyL k).length = k := manyL_len k
          have HRP := Lib.hid (show manyL k ++ [(nd 1 (100 + (k : Int)) [])] = manyL (k + 1) from rfl)
          clear hbx hown hb
          go_wp2_with (at_builtin; refine wpList_appG rfl _ _ 23 25 rfl i0 Tryd.underlying23 hi0 hz0 hz1 hz2 _ (W6.heap.size + 1) (fun b => W6.heap.size + 1 ≤ b) _ (manyL k) [(nd 1 (100 + (k : Int)) [])] (some ⟨wr.heap.size, 0, none⟩) 1 rfl HOZ.out HCZ.out rfl (by rw [hln]; simp; omega) (by simp; omega) ?_; intro va2 vc2 w4 hof hbw; rw [hln, List.length_singleton] at hof; rw [hln]; have HBW := Lib.hid hbw; have HOF := Lib.hid hof; have HB4 := Lib.hid (obj_below hbw (by omega) HBZ.out); obtain ⟨j0, j1, j2⟩ := box3 HB4.out; obtain ⟨_, _, j3⟩ := box3f HB4.out; have hbws := hbw.size; simp at hbws; clear hof hbw)
          go_roundw
          case rel =>
            refine ⟨k + 1, by go_num, by omega, .slice va2 (k + 1) vc2, obj_set _ HB4.out, by rw [← HRP.out]; exact ownG_move HOF.out (fun b o ho hq => obj_ne _ (by
              rcases hq with hq | hq
              · have := ownG_block HOF.out hq
                omega
              · omega) ho), ?_, by omega⟩
            exact (HB2.out.trans ((hbz.mono (by omega)).trans (HBW.out.mono (by omega)))).setCell (p := ⟨W6.heap.size, 2, none⟩) (Nat.le_refl _) _
          case measure => simp [intOf]; omega
        · have hke : k = 13 := by omega
          subst hke
          have f3 : decide (((13 : Nat) : Int) ≤ 12) = false := decide_eq_false (by decide)
          have fbb : (b == b) = true := by cases b <;> rfl
          obtain ⟨oa, oc, hov, hoi⟩ := ownG_ins hown
          injection hov with h1 h2 h3
          subst h1 h3
          have HOI := Lib.hid hoi
          have HLM2 := Lib.hid (fun W (h : InsF (fun b => W6.heap.size + 1 ≤ b ∨ W6.heap.size + 1 ≤ b) W va (manyL 13)) => show Calls Tryd.prog 28 #[.agg #[.int .i64 4, .int .i64 0, .slice va 13 vc], .agg #[.int .i64 4, .int .i64 0, .slice va 13 vc]] W (Ret (.tuple #[.bool false, .int .i64 4]) W) from by
            have := HLM.out _ _ va va vc vc W h h
            rw [nd_k, nd_a, nd_l, manyL_len] at this
            exact this)
          have hbw := HBW.out.trans (hb.mono HBW.out.size)
          have hbws := hbw.size
          clear hbx hown h2 hoi
          go_wp2_with fail
          refine (HLM2.out _ HOI.out).mono ?_
          rintro _ _ ⟨rfl, y10, rfl⟩
          dsimp only
          go_wp2
          go_ret
          exact Ret.mk (by rfl) (by (repeat' (first | (with_reducible exact Below.refl _ _) | (with_reducible exact Nat.le_refl _) | (with_reducible refine Below.bel ?_ ?_) | (with_reducible refine Below.alloc ?_ ?_ _) | (with_reducible refine Below.drew ?_) | (with_reducible refine Below.drawsN ?_ _) | (with_reducible refine Below.setCell ?_ ?_ _) | (with_reducible refine le_bel ?_) | (with_reducible refine le_alloc ?_) | (with_reducible refine le_setCell ?_) | (with_reducible refine le_drew ?_) | (with_reducible refine le_drawsN ?_) | (dsimp only; with_reducible refine le_bel ?_) | (dsimp only; with_reducible refine Nat.le_refl _) | (dsimp only; with_reducible refine le_bel_add ?_) | (with_reducible assumption) | omega | (dsimp only; omega))))
end Go.Proofs.YtkbellmhanpocaaDoor
