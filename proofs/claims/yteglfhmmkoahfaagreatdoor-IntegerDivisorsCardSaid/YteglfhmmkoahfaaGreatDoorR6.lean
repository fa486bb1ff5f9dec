/- The reference's quotient. -/
import Derived.Test.YteglfhmmkoahfaaGreatDoorR5
import Derived.Test.YteglfhmmkoahfaaGreatDoorM16
import Derived.Laws.AppendOwnNone
namespace Go.Proofs.YteglfhmmkoahfaaGreatDoor
open Go.RowKit
attribute [local go_sem low] Bel.cell Bel.frozen alloc_cell alloc_frozen

theorem grown_set (w : World) (a : Addr) (u : Value) : w.grownBy (w.setCell a u) (some a.block) :=
  ⟨rfl, rfl, rfl, by simp, fun k _ hk => Below.heap_setCell w a u k (fun e => hk (by rw [e]))⟩
theorem ownV_other {w : World} {base g j : Nat} {e : TypeId} {v u : Value} {l : List Value} (h : OwnV w base e v l) (hg : g < base) : OwnV (w.setCell ⟨g, j, none⟩ u) base e v l := by
  refine World.ownsRow.kept h (grown_set w ⟨g, j, none⟩ u) ?_
  rcases h.2 with ⟨rfl, _⟩ | ⟨b, cap, cur, rfl, hb, _⟩
  · exact .inl rfl
  · right
    intro e
    injection e with e1
    have : b = g := e1
    omega
theorem own_size {w : World} {base g n cap : Nat} {e : TypeId} {l : List Value} (h : OwnV w base e (.slice (some ⟨g, 0, none⟩) n cap) l) : g < w.heap.size := by
  rcases h.2 with ⟨hv, _⟩ | ⟨g', cap', cur, hv, _, hg, _⟩
  · injection hv with e1; cases e1
  · injection hv with e1
    cases e1
    exact (Array.getElem?_eq_some_iff.1 hg).1
theorem iVs_set (L : List Nat) (j d : Nat) : iVs (L.set j d) = (iVs L).set j (.int .i64 (d : Int)) := by unfold iVs; rw [List.map_set]
theorem own_storeG {w : World} {base g cap : Nat} {L : List Nat} (h : OwnV w base 3 (.slice (some ⟨g, 0, none⟩) L.length cap) (iVs L)) (j d : Nat) :
    OwnV (w.setCell ⟨g, j, none⟩ (.int .i64 (d : Int))) base 3 (.slice (some ⟨g, 0, none⟩) (L.set j d).length cap) (iVs (L.set j d)) := by
  have hl := iVs_len L
  have h' := h
  unfold OwnV at h'
  rw [hl] at h'
  have h2 := (World.ownsRow.stored h' j (.int .i64 (d : Int))).1
  unfold OwnV
  rw [iVs_set, List.length_set, List.length_set, hl]
  exact h2
theorem own_atG {w : World} {base g cap n : Nat} {L : List Nat} (h : OwnV w base 3 (.slice (some ⟨g, 0, none⟩) n cap) (iVs L)) {j x : Nat} (hj : L[j]? = some x) :
    w.cell? ⟨g, j, none⟩ = some (.int .i64 (x : Int)) ∧ w.frozen? ⟨g, j, none⟩ = false := by
  have hl := iVs_len L
  obtain ⟨g', cap', hv, _, _, _, hc⟩ := ownV_cells h (by rw [hl]; have := (List.getElem?_eq_some_iff.1 hj).1; omega)
  injection hv with e1 e2 e3
  cases e1
  exact hc j _ (iVs_get hj)
/-- The slice of one number that a call makes. -/
theorem grps_one (w : World) (x : Nat) : Grps (w.alloc (.cells #[.int .i64 (x : Int)] 3)) (some ⟨w.heap.size, 0, none⟩) [x] := fun _ => by
  refine ⟨_, _, rfl, fun j l hj => ?_⟩
  match j, hj with
  | 0, hj => injection hj with hj; subst hj; simp [go_sem]
theorem vG_cons (x : Nat) (l : List Nat) : vG (x :: l) = x + 10000 * vG l := rfl
theorem vG_one (x : Nat) : vG [x] = x := by rw [vG_cons]; simp [valB]
theorem dropG {l : List Nat} {j x : Nat} (h : l[j]? = some x) : vG (l.drop j) = x + 10000 * vG (l.drop (j + 1)) := by
  rw [List.drop_eq_getElem_cons (List.getElem?_eq_some_iff.1 h).1, (List.getElem?_eq_some_iff.1 h).2]; rfl
theorem quo_step {D x n : Nat} (hn : 0 < n) : (x + 10000 * D) / n = (x + 10000 * (D % n)) / n + 10000 * (D / n) ∧ (x + 10000 * D) % n = (x + 10000 * (D % n)) % n := by
  have h := Nat.div_add_mod D n
  have e : x + 10000 * D = (x + 10000 * (D % n)) + n * (10000 * (D / n)) := by
    have e2 : n * (10000 * (D / n)) = 10000 * (n * (D / n)) := by rw [Nat.mul_left_comm]
    rw [e2]
    omega
  constructor
  · rw [e, Nat.add_mul_div_left _ _ hn]
  · rw [e, Nat.add_mul_mod_self_left]
theorem quo_lt {D x n : Nat} (hn : 0 < n) (hx : x < 10000) : x + 10000 * (D % n) < n * 10000 := by
  have := Nat.mod_lt D hn
  have : (D % n + 1) * 10000 ≤ n * 10000 := Nat.mul_le_mul_right _ this
  omega
theorem quo_is {n R q : Nat} (h1 : n * q ≤ R) (h2 : R < n * (q + 1)) : R / n = q ∧ R % n = R - n * q := by
  have hn : 0 < n := Nat.pos_of_ne_zero fun h => by rw [h] at h2; simp at h2
  have hq : R / n = q := by
    have := (Nat.le_div_iff_mul_le hn).2 (show q * n ≤ R by rw [Nat.mul_comm]; exact h1)
    have h3 := (Nat.div_lt_iff_lt_mul hn).2 (show R < (q + 1) * n by rw [Nat.mul_comm]; exact h2)
    omega
  refine ⟨hq, ?_⟩
  have := Nat.div_add_mod R n
  rw [hq] at this
  omega
theorem setG {Q : List Nat} {j g : Nat} (hj : j < Q.length) : vG ((Q.set j g).drop j) = g + 10000 * vG (Q.drop (j + 1)) := by
  have h : (Q.set j g)[j]? = some g := by rw [List.getElem?_set_self hj]
  rw [dropG h, List.drop_set_of_lt (by omega)]
theorem cmpN_le {a b : Nat} (h : a ≤ b) : decide (cmpN a b ≤ 0) = true := decide_eq_true (by
  unfold cmpN
  by_cases h1 : a < b
  · rw [if_pos h1]; decide
  · rw [if_neg h1, if_neg (by omega)]; decide)
theorem cmpN_nle {a b : Nat} (h : b < a) : decide (cmpN a b ≤ 0) = false := decide_eq_false (by
  unfold cmpN
  rw [if_neg (by omega), if_pos h]; decide)
def QuoRet (w : World) (q r : Nat) (e : Ending) (w' : World) : Prop := ∃ v u, e = .returned (.tuple #[v, u]) ∧ ∃ y : Bel w, w' = y.w ∧ OwnV y.w w.heap.size 3 v (iVs (grp q)) ∧ OwnV y.w w.heap.size 3 u (iVs (grp r))
theorem iVs_rep (n : Nat) : iVs (List.replicate n 0) = List.replicate n (.int .i64 0) := by unfold iVs; rw [List.map_replicate]; rfl
set_option maxRecDepth 100000 in
set_option maxHeartbeats 12800000 in
theorem quotient_any (a b : Option Addr) (cap cap' m n : Nat) (w : World) (h1 : Grps w a (grp m)) (h2 : Grps w b (grp n)) (hl1 : (grp m).length ≤ 5000) (hl2 : (grp n).length ≤ 5000) (hn : 0 < n) :
    Calls Tryz.prog 52 #[.slice a (grp m).length cap, .slice b (grp n).length cap'] w (QuoRet w (m / n) (m % n)) := by
  obtain ⟨i0, hi0, hz0, hz1, hz2⟩ := info_parts Tryz.infoI
  have hvG := vG_grp m
  have HGL := Lib.hid (grp_lt m)
  have HVN := Lib.hid (vG_grp n)
  have HNL := Lib.hid (grp_lt n)
  have HNB := Lib.hid (show ∀ r, r < n → (grp r).length ≤ (grp n).length from fun r hr => Nat.le_of_not_lt fun h => by
    have := limbs_lt_of_len (B := 10000) (by decide) h
    omega)
  have HNT := Lib.hid (show ∀ d, d < 10000 → (grp (n * d)).length ≤ (grp n).length + 1 from fun d hd => limbs_len_le (by decide) (by
    have h1 := (limbs_bounds (B := 10000) (by decide) n).1
    rw [Nat.pow_succ]
    exact Nat.mul_lt_mul'' h1 hd))
  have HNR := Lib.hid (show ∀ R, R < n * 10000 → (grp R).length ≤ (grp n).length + 1 from fun R hR => limbs_len_le (by decide) (by
    have h1 := (limbs_bounds (B := 10000) (by decide) n).1
    rw [Nat.pow_succ]
    exact Nat.lt_of_lt_of_le hR (Nat.mul_le_mul_right _ (Nat.le_of_lt h1))))
  obtain ⟨G, hG⟩ : ∃ G, grp m = G := ⟨_, rfl⟩
  obtain ⟨H, hH⟩ : ∃ H, grp n = H := ⟨_, rfl⟩
  rw [hG] at h1 hl1 hvG HGL ⊢
  have HTM := Lib.hid (fun (d : Nat) (hd : d < 10000) (pa : Option Addr) (pc : Nat) (w' : World) (h : Grps w' b H) (h' : Grps w' pa [d]) => rtimes_any b pa cap' pc H [d] w' h h' (by rw [← hH]; exact HNL.out) (fun x hx => by rw [List.mem_singleton.1 hx]; exact hd) (by rw [← hH]; omega) (by simp))
  rw [← hH, HVN.out] at HTM
  simp only [List.length_singleton, vG_one] at HTM
  obtain ⟨T, hT⟩ : ∃ T, G.length = T := ⟨_, rfl⟩
  have hT' : (G.length : Int) = (T : Int) := by omega
  have HH := Lib.hid hH
  rw [hH] at h2 hl2 HNB HNT HNR HTM ⊢
  rw [hT]
  clear hG hH
  have t0 : IntKind.i64.wrap ((T : Int) - 1) = (T : Int) - 1 := IntWalk.i64_in _ (by omega)
  go_enter Tryz.func52, Tryz.ntmps52
  go_wp2_with (at_make; refine wpList_make_full _ rfl _ _ 67 rfl (w.heap.size) 3 i0 (.int .i64 0) 1 Tryz.underlying67 hi0 hz0 hz1 _ _ _ _ (T) rfl rfl (by first | rfl | omega | (simp <;> omega)) (by first | rfl | omega | (simp <;> omega)) (by rw [hz2] <;> omega) (by unfold maxLen; omega) (by first | omega | (simp <;> omega)) ?_; intro wM hownM hgrowM)
  have hbM : Below w.heap.size w wM := (Below.refl _ _).grown hgrowM (Nat.le_refl _) (fun k e => by cases e)
  have ho0 : OwnV wM w.heap.size 3 (.slice (some ⟨w.heap.size, 0, none⟩) T T) (iVs (List.replicate T 0)) := by
    unfold OwnV
    rw [iVs_rep, List.length_replicate]
    have := hownM
    rw [Nat.mul_one, show (Value.int .i64 0).cells = #[Value.int .i64 0] from rfl, toList_madeCells_one] at this
    exact this
  clear hownM hgrowM
  go_loopw [6, 8] (fun v i wr => ∃ (k : Nat) (Q : List Nat), i = .int .i64 ((k : Int) - 1) ∧ k ≤ T ∧ Q.length = T ∧ (∀ x ∈ Q, x < 10000) ∧ vG (Q.drop k) = vG (G.drop k) / n ∧
    OwnV wr (w.heap.size + 1) 3 v (iVs (grp (vG (G.drop k) % n))) ∧ OwnV wr w.heap.size 3 (.slice (some ⟨w.heap.size, 0, none⟩) T T) (iVs Q) ∧ Below w.heap.size w wr ∧ w.heap.size + 1 ≤ wr.heap.size) (fun _ i _ => (intOf i + 1).toNat)
  case atStart =>
    have hsz : w.heap.size + 1 ≤ wM.heap.size := own_size ho0
    exact ⟨T, List.replicate T 0, rfl, by omega, by rw [List.length_replicate], fun x hx => by rw [(List.mem_replicate.1 hx).2]; decide, by rw [List.drop_of_length_le (by rw [List.length_replicate]; omega), List.drop_of_length_le (by omega)]; simp [valB],
      by rw [List.drop_of_length_le (by omega), show vG [] = 0 from rfl, Nat.zero_mod, show grp 0 = [] from limbs_zero _]; exact ownV_nil _ _ _, ho0, hbM, hsz⟩
  case round =>
    clear ho0 hbM
    obtain ⟨k, Q, rfl, hk, hQ, hQl, hqv, hrest, hout, hb, hsz⟩ := hrel
    have hbs := hb.size
    have HOut := Lib.hid hout
    clear hout
    by_cases hk0 : k = 0
    · subst hk0
      rw [List.drop_zero, List.drop_zero, hvG] at hqv
      rw [List.drop_zero, hvG] at hrest
      have ho2 : OwnV wr w.heap.size 3 (.slice (some ⟨w.heap.size, 0, none⟩) Q.length T) (iVs Q) := by rw [hQ]; exact HOut.out
      have hsh := short_own ho2 (by omega)
      have hown := own_trimG ho2
      rw [trim_grp hQl hqv] at hown hsh
      rw [hQ] at hsh
      obtain ⟨ra, rc, rfl, _⟩ := grps_own hrest
      have HSH := Lib.hid hsh
      have HOW := Lib.hid hown
      have HRE := Lib.hid hrest
      clear hsh hown hrest ho2 HOut h1 h2 hqv hQl HTM
      go_wp2_with fail
      (with_reducible refine HSH.out.mono ?_)
      rintro _ _ ⟨rfl, x, rfl⟩
      dsimp only
      go_wp2
      go_ret2
      exact ⟨_, _, rfl, ⟨x.w, Below.bel hb hbs⟩, rfl, ownV_bel HOW.out x, ownV_mono (ownV_bel HRE.out x) (by omega)⟩
    · obtain ⟨j, rfl⟩ : ∃ j, k = j + 1 := ⟨k - 1, by omega⟩
      obtain ⟨b1, o1, rfl, c1⟩ := h1 (by omega)
      obtain ⟨x, hx⟩ : ∃ x, G[j]? = some x := ⟨_, List.getElem?_eq_getElem (by omega)⟩
      have hx4 := HGL.out x (List.mem_of_getElem? hx)
      have g1 := cell_carry hb (c1 j x hx)
      have hdG := dropG hx
      obtain ⟨D, hD⟩ : ∃ D, vG (G.drop (j + 1)) = D := ⟨_, rfl⟩
      rw [hD] at hdG hqv hrest
      obtain ⟨q1, q2⟩ := @quo_step D x n hn
      have q3 := @quo_lt D x n hn hx4
      have hrn := Nat.mod_lt D hn
      have hrl := HNB.out _ hrn
      obtain ⟨r, hr⟩ : ∃ r, D % n = r := ⟨_, rfl⟩
      rw [hr] at q1 q2 q3 hrest hrn hrl
      obtain ⟨R, hR⟩ : ∃ R, x + 10000 * r = R := ⟨_, rfl⟩
      rw [hR] at q1 q2 q3
      have HQ1 := Lib.hid (show vG (G.drop j) / n = R / n + 10000 * (D / n) by rw [hdG]; exact q1)
      have HQ2 := Lib.hid (show vG (G.drop j) % n = R % n by rw [hdG]; exact q2)
      have hvR : vG ([x] ++ grp r) = R := by rw [List.singleton_append, vG_cons, vG_grp]; exact hR
      have hlR : ∀ y ∈ [x] ++ grp r, y < 10000 := fun y hy => by
        rcases List.mem_append.1 hy with h | h
        · rw [List.mem_singleton.1 h]; exact hx4
        · exact grp_lt r y h
      have t3 : ((j + 1 : Nat) : Int) - 1 = (j : Int) := by omega
      have t4 : IntKind.i64.wrap ((j : Int) - 1) = (j : Int) - 1 := IntWalk.i64_in _ (by omega)
      have hj1 : (j : Int) < (T : Int) := by omega
      rw [t3]
      have HC1 := Lib.hid c1
      have HQV := Lib.hid hqv
      have HQL := Lib.hid hQl
      have HVR := Lib.hid hvR
      have hRl := HNR.out R q3
      have HLR := Lib.hid hlR
      clear t3 hdG hD q1 q2 hr hR hvR hlR hqv hQl c1 hx h1
      obtain ⟨wo, rfl⟩ : ∃ wo : World, wo = wr := ⟨_, rfl⟩
      have hone : OwnV (wo.alloc (.cells #[.int .i64 (x : Int)] 3)) wo.heap.size 3 (.slice (some ⟨wo.heap.size, 0, none⟩) 1 1) (iVs [x]) := ownV_one wo 3 (.int .i64 (x : Int))
      have HONE := Lib.hid hone
      have hsho : ∀ (g c : Nat) (w1 : World), OwnV w1 wo.heap.size 3 (.slice (some ⟨g, 0, none⟩) ([x] ++ grp r).length c) (iVs ([x] ++ grp r)) →
          Calls Tryz.prog 72 #[.slice (some ⟨g, 0, none⟩) ([x] ++ grp r).length c] w1 fun e w' => e = .returned (.slice (some ⟨g, 0, none⟩) (grp R).length c) ∧ ∃ y : Bel w1, w' = y.w ∧ OwnV y.w wo.heap.size 3 (.slice (some ⟨g, 0, none⟩) (grp R).length c) (iVs (grp R)) := fun g c w1 h => by
        have h3 := own_trimG h
        have h4 := short_own h (by rw [List.length_append, List.length_singleton]; omega)
        rw [trim_grp HLR.out HVR.out] at h3 h4
        exact h4.mono fun e w' ⟨he, y, hy⟩ => ⟨he, y, hy, ownV_bel h3 y⟩
      have HSHO := Lib.hid hsho
      clear hone hsho
      have hrest' := hrest
      have HREST := Lib.hid hrest
      rcases hrest'.2 with ⟨rfl, hz⟩ | ⟨g, rc, cur, rfl, hbg, hg, hrc1, hrc2, hcs, hct⟩
      · have hr0 : grp r = [] := by
          rw [iVs_len] at hz
          exact List.length_eq_zero_iff.1 hz
        have HO1 := Lib.hid (show OwnV (wo.alloc (.cells #[.int .i64 (x : Int)] 3)) wo.heap.size 3 (.slice (some ⟨wo.heap.size, 0, none⟩) ([x] ++ grp r).length 1) (iVs ([x] ++ grp r)) by rw [hr0]; exact HONE.out)
        have hb1 : Below wo.heap.size wo (wo.alloc (.cells #[.int .i64 (x : Int)] 3)) := (Below.refl _ _).alloc (Nat.le_refl _) _
        rw [hr0] at HO1 HSHO
        rw [List.append_nil, List.length_singleton] at HO1 HSHO
        clear hrest hrest' hr0
        go_wp2_with (at_builtin; refine wpList_append_own_none rfl _ _ 67 rfl wo.heap.size 3 i0 1 Tryz.underlying67 hi0 _ _ _ rfl HONE.out rfl ?_)
        (with_reducible refine (HSHO.out _ _ _ HO1.out).mono ?_)
        rintro _ _ ⟨rfl, y, rfl, hoR⟩
        have hys := y.size_le
        have HR := Lib.hid hoR
        clear hoR
        have hbY : Below wo.heap.size wo y.w := hb1.trans (y.below.mono hb1.size)
        have hbYs := hbY.size
        have HOY := Lib.hid (ownV_bel HOut.out ⟨y.w, hbY⟩)
        go_wp2
        go_loopw [9, 10] (fun lo hi wr => ∃ l h : Nat, lo = .int .i64 (l : Int) ∧ hi = .int .i64 (h : Int) ∧ l < h ∧ h ≤ 10000 ∧ n * l ≤ R ∧ R < n * h ∧ Below y.w.heap.size y.w wr) (fun lo hi _ => (intOf hi - intOf lo).toNat)
        case atStart => exact ⟨0, 10000, rfl, rfl, by omega, by omega, by simp, q3, Below.refl _ _⟩
        case round =>
          obtain ⟨l, h, rfl, rfl, hlh, hh, hnl, hnh, hbr⟩ := hrel
          have hbrs := hbr.size
          have hbW : Below wo.heap.size wo wr := hbY.trans (hbr.mono hbYs)
          have HRr := Lib.hid (ownV_bel HR.out ⟨wr, hbr⟩)
          have hbV : Below w.heap.size w wr := hb.trans (hbW.mono hbs)
          have t5 : IntKind.i64.wrap ((h : Int) - (l : Int)) = (h : Int) - (l : Int) := IntWalk.i64_in _ (by omega)
          obtain ⟨dd, hdd⟩ : ∃ dd : Nat, h - l = dd := ⟨_, rfl⟩
          have hdd' : (h : Int) - (l : Int) = (dd : Int) := by omega
          rw [hdd'] at t5
          by_cases h1d : 1 < dd
          · have e1 : decide ((1 : Int) < (dd : Int)) = true := decide_eq_true (by omega)
            obtain ⟨s, hs⟩ : ∃ s, l + h = s := ⟨_, rfl⟩
            have hs' : (l : Int) + (h : Int) = (s : Int) := by omega
            have t6 : IntKind.i64.wrap (s : Int) = (s : Int) := IntWalk.i64_in _ (by omega)
            obtain ⟨mid, hmid⟩ : ∃ d, s / 2 = d := ⟨_, rfl⟩
            have hm' : (s : Int) / 2 = (mid : Int) := by omega
            have hmt : (s : Int).tdiv 2 = (mid : Int) := by rw [Int.tdiv_eq_ediv_of_nonneg (by omega)]; exact hm'
            have t7 : IntKind.i64.wrap (mid : Int) = (mid : Int) := IntWalk.i64_in _ (by omega)
            have hmb : l < mid ∧ mid < h := by omega
            have hgb := grps_of (grps_of h2 (hb.trans (hbW.mono hbs))) ((Below.refl _ wr).alloc (Nat.le_refl _) (.cells #[.int .i64 (mid : Int)] 3))
            have HT1 := Lib.hid (HTM.out mid (by omega) _ 1 _ hgb (grps_one wr mid))
            have hlen := HNT.out mid (by omega)
            clear hgb hs hmid
            go_wp2_with fail
            refine HT1.out.mono ?_
            rintro _ _ ⟨v, rfl, z, rfl, hvo⟩
            have hzs := z.size_le
            simp at hzs
            obtain ⟨va, vc, rfl, hvg⟩ := grps_own hvo
            have hbz : Below wr.heap.size wr z.w := ((Below.refl _ _).alloc (Nat.le_refl _) _).trans (z.below.mono (by simp))
            obtain ⟨ga, gc, hga, hgg⟩ := grps_own (ownV_bel HRr.out ⟨z.w, hbz⟩)
            have HORD := Lib.hid (order_any va ga vc gc (n * mid) R z.w hvg hgg (by omega) (by omega))
            injection hga with e1 e2 e3
            subst e1 e3
            clear hvo hvg hgg
            dsimp only
            by_cases hle : n * mid ≤ R
            · have hcm : decide (cmpN (n * mid) R ≤ 0) = true := cmpN_le hle
              generalize cmpN (n * mid) R = cm at *
              go_wp2_with fail
              (with_reducible refine HORD.out.mono ?_)
              rintro _ _ ⟨rfl, u, rfl⟩
              go_wp2
              go_roundw
              case rel => exact ⟨mid, h, rfl, rfl, by omega, hh, hle, hnh, hbr.trans ((hbz.mono (by omega)).trans (u.below.mono (by omega)))⟩
              case measure => simp [intOf] <;> omega
            · have hcm : decide (cmpN (n * mid) R ≤ 0) = false := cmpN_nle (by omega)
              generalize cmpN (n * mid) R = cm at *
              go_wp2_with fail
              (with_reducible refine HORD.out.mono ?_)
              rintro _ _ ⟨rfl, u, rfl⟩
              go_wp2
              go_roundw
              case rel => exact ⟨l, mid, rfl, rfl, by omega, by omega, hnl, by omega, hbr.trans ((hbz.mono (by omega)).trans (u.below.mono (by omega)))⟩
              case measure => simp [intOf] <;> omega
          · have e1 : decide ((1 : Int) < (dd : Int)) = false := decide_eq_false (by omega)
            obtain rfl : h = l + 1 := by omega
            obtain ⟨q4, q5⟩ := quo_is hnl hnh
            have HOW := Lib.hid (ownV_bel HOut.out ⟨wr, hbW⟩)
            obtain ⟨z0, hz0'⟩ : ∃ z, Q[j]? = some z := ⟨_, List.getElem?_eq_getElem (by omega)⟩
            have HQV2 := Lib.hid (show vG ((Q.set j l).drop j) = vG (G.drop j) / n by rw [setG (by omega), HQV.out, HQ1.out, q4])
            have HQL2 := Lib.hid (show ∀ x ∈ Q.set j l, x < 10000 from fun x hx => by
              rcases List.mem_or_eq_of_mem_set hx with h1 | h1
              · exact HQL.out x h1
              · omega)
            have HRE2 := Lib.hid (show R % n = vG (G.drop j) % n from HQ2.out.symm)
            have HQ := Lib.hid hQ
            by_cases hl0 : l = 0
            · subst hl0
              obtain ⟨g3, f3⟩ := own_atG HOW.out hz0'
              have HST := Lib.hid (own_storeG (L := Q) (by rw [hQ]; exact HOW.out) j 0)
              have HRR := Lib.hid (show OwnV (wr.setCell ⟨w.heap.size, j, none⟩ (.int .i64 ((0 : Nat) : Int))) (w.heap.size + 1) 3 (.slice (some ⟨wo.heap.size, 0, none⟩) (grp R).length 1) (iVs (grp (vG (G.drop j) % n))) by
                rw [← HRE2.out, q5, Nat.mul_zero, Nat.sub_zero]
                exact ownV_other (ownV_mono HRr.out (by omega)) (by omega))
              clear hQ hz0'
              go_wp2
              go_roundw
              case rel => exact ⟨j, Q.set j 0, rfl, by omega, by rw [List.length_set, HQ.out], HQL2.out, HQV2.out, HRR.out, by have := HST.out; rw [List.length_set, HQ.out] at this; exact this, by (repeat' (first | (with_reducible exact Below.refl _ _) | (with_reducible exact Nat.le_refl _) | (with_reducible refine Below.bel ?_ ?_) | (with_reducible refine Below.alloc ?_ ?_ _) | (with_reducible refine Below.drew ?_) | (with_reducible refine Below.drawsN ?_ _) | (with_reducible refine Below.setCell ?_ ?_ _) | (with_reducible refine le_bel ?_) | (with_reducible refine le_alloc ?_) | (with_reducible refine le_setCell ?_) | (with_reducible refine le_drew ?_) | (with_reducible refine le_drawsN ?_) | (dsimp only; with_reducible refine le_bel ?_) | (dsimp only; with_reducible refine Nat.le_refl _) | (dsimp only; with_reducible refine le_bel_add ?_) | (with_reducible assumption) | omega | (dsimp only; omega))), by simp; omega⟩
              case measure => simp [intOf] <;> omega
            · have hl4 : l < 10000 := by omega
              have hlz : decide (0 < l) = true := decide_eq_true (by omega)
              have hlz2 : (0 < l) = True := eq_true (by omega)
              have hgb := grps_of (grps_of h2 (hb.trans (hbW.mono hbs))) ((Below.refl _ wr).alloc (Nat.le_refl _) (.cells #[.int .i64 (l : Int)] 3))
              have HT1 := Lib.hid (HTM.out l hl4 _ 1 _ hgb (grps_one wr l))
              have hlen := HNT.out l hl4
              clear hgb hl0
              go_wp2_with fail
              refine HT1.out.mono ?_
              rintro _ _ ⟨v, rfl, z, rfl, hvo⟩
              have hzs := z.size_le
              simp at hzs
              obtain ⟨va, vc, rfl, hvg⟩ := grps_own hvo
              have hbz : Below wr.heap.size wr z.w := ((Below.refl _ _).alloc (Nat.le_refl _) _).trans (z.below.mono (by simp))
              obtain ⟨ga, gc, hga, hgg⟩ := grps_own (ownV_bel HRr.out ⟨z.w, hbz⟩)
              have HSUB := Lib.hid (both_sub ga va gc vc (grp R) (grp (n * l)) z.w hgg hvg (grp_lt _) (grp_lt _) (by omega) (by omega) (by rw [vG_grp, vG_grp]; exact hnl))
              rw [vG_grp, vG_grp] at HSUB
              injection hga with e1 e2 e3
              subst e1 e3
              clear hvo hvg hgg
              dsimp only
              go_wp2_with fail
              refine HSUB.out.mono ?_
              rintro _ _ ⟨v2, rfl, u, rfl, huo⟩
              have hus := u.size_le
              obtain ⟨ua, uc, rfl, _⟩ := grps_own huo
              have hbu : Below wr.heap.size wr u.w := hbz.trans (u.below.mono (by omega))
              have HOU := Lib.hid (ownV_bel HOW.out ⟨u.w, hbu⟩)
              obtain ⟨g3, f3⟩ := own_atG HOU.out hz0'
              have HST := Lib.hid (own_storeG (L := Q) (by rw [hQ]; exact HOU.out) j l)
              have HRR := Lib.hid (show OwnV (u.w.setCell ⟨w.heap.size, j, none⟩ (.int .i64 (l : Int))) (w.heap.size + 1) 3 (.slice ua (grp (R - n * l)).length uc) (iVs (grp (vG (G.drop j) % n))) by
                rw [← HRE2.out, q5]
                exact ownV_other (ownV_mono huo (by omega)) (by omega))
              have hbU : Below w.heap.size w u.w := (hb.trans (hbW.mono hbs)).trans (hbu.mono (by omega))
              clear hQ hz0' huo
              dsimp only
              go_wp2
              go_roundw
              case rel => exact ⟨j, Q.set j l, rfl, by omega, by rw [List.length_set, HQ.out], HQL2.out, HQV2.out, HRR.out, by have := HST.out; rw [List.length_set, HQ.out] at this; exact this, by (repeat' (first | (with_reducible exact Below.refl _ _) | (with_reducible exact Nat.le_refl _) | (with_reducible refine Below.bel ?_ ?_) | (with_reducible refine Below.alloc ?_ ?_ _) | (with_reducible refine Below.drew ?_) | (with_reducible refine Below.drawsN ?_ _) | (with_reducible refine Below.setCell ?_ ?_ _) | (with_reducible refine le_bel ?_) | (with_reducible refine le_alloc ?_) | (with_reducible refine le_setCell ?_) | (with_reducible refine le_drew ?_) | (with_reducible refine le_drawsN ?_) | (dsimp only; with_reducible refine le_bel ?_) | (dsimp only; with_reducible refine Nat.le_refl _) | (dsimp only; with_reducible refine le_bel_add ?_) | (with_reducible assumption) | omega | (dsimp only; omega))), by simp; omega⟩
              case measure => simp [intOf] <;> omega
      · have hll := iVs_len (grp r)
        have hnews : ∀ (jj : Nat) u, (iVs (grp r))[jj]? = some u → (wo.alloc (.cells #[.int .i64 (x : Int)] 3)).cell? (Addr.add ⟨g, 0, none⟩ jj) = some u := fun jj u hu => by
          have h0 : 0 < (iVs (grp r)).length := Nat.lt_of_le_of_lt (Nat.zero_le jj) (List.getElem?_eq_some_iff.1 hu).1
          obtain ⟨g', c', hv', _, _, _, hcc⟩ := ownV_cells hrest h0
          injection hv' with e1
          cases e1
          have := cell_carry ((Below.refl wo.heap.size wo).alloc (Nat.le_refl _) (.cells #[.int .i64 (x : Int)] 3)) (hcc jj u hu).1
          rw [show Addr.add ⟨g, 0, none⟩ jj = ⟨g, jj, none⟩ by simp [Addr.add]; omega]; exact this
        have h1c : ∀ u ∈ iVs (grp r), u.oneCell' = true := fun u hu => by
          obtain ⟨z, _, rfl⟩ := List.mem_map.1 hu
          rfl
        rw [hll] at hrc1 HREST ⊢
        have HNW := Lib.hid hnews
        clear hnews hrest hrest' hg hcs hct hrc1
        go_wp2_with (at_builtin; refine wpList_append_own _ rfl _ _ 67 rfl wo.heap.size 3 i0 (.int .i64 0) 1 8 Tryz.underlying67 hi0 hz0 hz1 hz2 rfl (by decide) _ _ _ rfl HONE.out ⟨g, 0, none⟩ (grp r).length rc (iVs (grp r)) rfl (by rw [hll, Nat.mul_one]) HNW.out h1c (by rw [iVs_len]; unfold maxLen; simp; omega) (by rw [iVs_len]; simp; omega) (by simp) ?_; intro v1 w1 hown1 hgrow1 hnn1)
        obtain ⟨ho1, hb0⟩ := ownV_app HONE.out (Below.refl _ _) (by simp) (by simp) (by rw [hll]) hown1 hgrow1
        have hb1 : Below wo.heap.size wo w1 := ((Below.refl _ _).alloc (Nat.le_refl _) _).trans hb0
        rw [show iVs [x] ++ iVs (grp r) = iVs ([x] ++ grp r) from (List.map_append ..).symm] at ho1
        obtain ⟨g1, cap1, rfl, _⟩ := ownV_cells ho1 (by rw [iVs_len]; simp)
        rw [iVs_len] at ho1 ⊢
        have HO1 := Lib.hid ho1
        clear ho1 hown1 hgrow1 hnn1
        (with_reducible refine (HSHO.out _ _ _ HO1.out).mono ?_)
        rintro _ _ ⟨rfl, y, rfl, hoR⟩
        have hys := y.size_le
        have HR := Lib.hid hoR
        clear hoR
        have hbY : Below wo.heap.size wo y.w := hb1.trans (y.below.mono hb1.size)
        have hbYs := hbY.size
        have HOY := Lib.hid (ownV_bel HOut.out ⟨y.w, hbY⟩)
        go_wp2
        go_loopw [9, 10] (fun lo hi wr => ∃ l h : Nat, lo = .int .i64 (l : Int) ∧ hi = .int .i64 (h : Int) ∧ l < h ∧ h ≤ 10000 ∧ n * l ≤ R ∧ R < n * h ∧ Below y.w.heap.size y.w wr) (fun lo hi _ => (intOf hi - intOf lo).toNat)
        case atStart => exact ⟨0, 10000, rfl, rfl, by omega, by omega, by simp, q3, Below.refl _ _⟩
        case round =>
          obtain ⟨l, h, rfl, rfl, hlh, hh, hnl, hnh, hbr⟩ := hrel
          have hbrs := hbr.size
          have hbW : Below wo.heap.size wo wr := hbY.trans (hbr.mono hbYs)
          have HRr := Lib.hid (ownV_bel HR.out ⟨wr, hbr⟩)
          have hbV : Below w.heap.size w wr := hb.trans (hbW.mono hbs)
          have t5 : IntKind.i64.wrap ((h : Int) - (l : Int)) = (h : Int) - (l : Int) := IntWalk.i64_in _ (by omega)
          obtain ⟨dd, hdd⟩ : ∃ dd : Nat, h - l = dd := ⟨_, rfl⟩
          have hdd' : (h : Int) - (l : Int) = (dd : Int) := by omega
          rw [hdd'] at t5
          by_cases h1d : 1 < dd
          · have e1 : decide ((1 : Int) < (dd : Int)) = true := decide_eq_true (by omega)
            obtain ⟨s, hs⟩ : ∃ s, l + h = s := ⟨_, rfl⟩
            have hs' : (l : Int) + (h : Int) = (s : Int) := by omega
            have t6 : IntKind.i64.wrap (s : Int) = (s : Int) := IntWalk.i64_in _ (by omega)
            obtain ⟨mid, hmid⟩ : ∃ d, s / 2 = d := ⟨_, rfl⟩
            have hm' : (s : Int) / 2 = (mid : Int) := by omega
            have hmt : (s : Int).tdiv 2 = (mid : Int) := by rw [Int.tdiv_eq_ediv_of_nonneg (by omega)]; exact hm'
            have t7 : IntKind.i64.wrap (mid : Int) = (mid : Int) := IntWalk.i64_in _ (by omega)
            have hmb : l < mid ∧ mid < h := by omega
            have hgb := grps_of (grps_of h2 (hb.trans (hbW.mono hbs))) ((Below.refl _ wr).alloc (Nat.le_refl _) (.cells #[.int .i64 (mid : Int)] 3))
            have HT1 := Lib.hid (HTM.out mid (by omega) _ 1 _ hgb (grps_one wr mid))
            have hlen := HNT.out mid (by omega)
            clear hgb hs hmid
            go_wp2_with fail
            refine HT1.out.mono ?_
            rintro _ _ ⟨v, rfl, z, rfl, hvo⟩
            have hzs := z.size_le
            simp at hzs
            obtain ⟨va, vc, rfl, hvg⟩ := grps_own hvo
            have hbz : Below wr.heap.size wr z.w := ((Below.refl _ _).alloc (Nat.le_refl _) _).trans (z.below.mono (by simp))
            obtain ⟨ga, gc, hga, hgg⟩ := grps_own (ownV_bel HRr.out ⟨z.w, hbz⟩)
            have HORD := Lib.hid (order_any va ga vc gc (n * mid) R z.w hvg hgg (by omega) (by omega))
            injection hga with e1 e2 e3
            subst e1 e3
            clear hvo hvg hgg
            dsimp only
            by_cases hle : n * mid ≤ R
            · have hcm : decide (cmpN (n * mid) R ≤ 0) = true := cmpN_le hle
              generalize cmpN (n * mid) R = cm at *
              go_wp2_with fail
              (with_reducible refine HORD.out.mono ?_)
              rintro _ _ ⟨rfl, u, rfl⟩
              go_wp2
              go_roundw
              case rel => exact ⟨mid, h, rfl, rfl, by omega, hh, hle, hnh, hbr.trans ((hbz.mono (by omega)).trans (u.below.mono (by omega)))⟩
              case measure => simp [intOf] <;> omega
            · have hcm : decide (cmpN (n * mid) R ≤ 0) = false := cmpN_nle (by omega)
              generalize cmpN (n * mid) R = cm at *
              go_wp2_with fail
              (with_reducible refine HORD.out.mono ?_)
              rintro _ _ ⟨rfl, u, rfl⟩
              go_wp2
              go_roundw
              case rel => exact ⟨l, mid, rfl, rfl, by omega, by omega, hnl, by omega, hbr.trans ((hbz.mono (by omega)).trans (u.below.mono (by omega)))⟩
              case measure => simp [intOf] <;> omega
          · have e1 : decide ((1 : Int) < (dd : Int)) = false := decide_eq_false (by omega)
            obtain rfl : h = l + 1 := by omega
            obtain ⟨q4, q5⟩ := quo_is hnl hnh
            have HOW := Lib.hid (ownV_bel HOut.out ⟨wr, hbW⟩)
            obtain ⟨z0, hz0'⟩ : ∃ z, Q[j]? = some z := ⟨_, List.getElem?_eq_getElem (by omega)⟩
            have HQV2 := Lib.hid (show vG ((Q.set j l).drop j) = vG (G.drop j) / n by rw [setG (by omega), HQV.out, HQ1.out, q4])
            have HQL2 := Lib.hid (show ∀ x ∈ Q.set j l, x < 10000 from fun x hx => by
              rcases List.mem_or_eq_of_mem_set hx with h1 | h1
              · exact HQL.out x h1
              · omega)
            have HRE2 := Lib.hid (show R % n = vG (G.drop j) % n from HQ2.out.symm)
            have HQ := Lib.hid hQ
            by_cases hl0 : l = 0
            · subst hl0
              obtain ⟨g3, f3⟩ := own_atG HOW.out hz0'
              have HST := Lib.hid (own_storeG (L := Q) (by rw [hQ]; exact HOW.out) j 0)
              have HRR := Lib.hid (show OwnV (wr.setCell ⟨w.heap.size, j, none⟩ (.int .i64 ((0 : Nat) : Int))) (w.heap.size + 1) 3 (.slice (some ⟨g1, 0, none⟩) (grp R).length cap1) (iVs (grp (vG (G.drop j) % n))) by
                rw [← HRE2.out, q5, Nat.mul_zero, Nat.sub_zero]
                exact ownV_other (ownV_mono HRr.out (by omega)) (by omega))
              clear hQ hz0'
              go_wp2
              go_roundw
              case rel => exact ⟨j, Q.set j 0, rfl, by omega, by rw [List.length_set, HQ.out], HQL2.out, HQV2.out, HRR.out, by have := HST.out; rw [List.length_set, HQ.out] at this; exact this, by (repeat' (first | (with_reducible exact Below.refl _ _) | (with_reducible exact Nat.le_refl _) | (with_reducible refine Below.bel ?_ ?_) | (with_reducible refine Below.alloc ?_ ?_ _) | (with_reducible refine Below.drew ?_) | (with_reducible refine Below.drawsN ?_ _) | (with_reducible refine Below.setCell ?_ ?_ _) | (with_reducible refine le_bel ?_) | (with_reducible refine le_alloc ?_) | (with_reducible refine le_setCell ?_) | (with_reducible refine le_drew ?_) | (with_reducible refine le_drawsN ?_) | (dsimp only; with_reducible refine le_bel ?_) | (dsimp only; with_reducible refine Nat.le_refl _) | (dsimp only; with_reducible refine le_bel_add ?_) | (with_reducible assumption) | omega | (dsimp only; omega))), by simp; omega⟩
              case measure => simp [intOf] <;> omega
            · have hl4 : l < 10000 := by omega
              have hlz : decide (0 < l) = true := decide_eq_true (by omega)
              have hlz2 : (0 < l) = True := eq_true (by omega)
              have hgb := grps_of (grps_of h2 (hb.trans (hbW.mono hbs))) ((Below.refl _ wr).alloc (Nat.le_refl _) (.cells #[.int .i64 (l : Int)] 3))
              have HT1 := Lib.hid (HTM.out l hl4 _ 1 _ hgb (grps_one wr l))
              have hlen := HNT.out l hl4
              clear hgb hl0
              go_wp2_with fail
              refine HT1.out.mono ?_
              rintro _ _ ⟨v, rfl, z, rfl, hvo⟩
              have hzs := z.size_le
              simp at hzs
              obtain ⟨va, vc, rfl, hvg⟩ := grps_own hvo
              have hbz : Below wr.heap.size wr z.w := ((Below.refl _ _).alloc (Nat.le_refl _) _).trans (z.below.mono (by simp))
              obtain ⟨ga, gc, hga, hgg⟩ := grps_own (ownV_bel HRr.out ⟨z.w, hbz⟩)
              have HSUB := Lib.hid (both_sub ga va gc vc (grp R) (grp (n * l)) z.w hgg hvg (grp_lt _) (grp_lt _) (by omega) (by omega) (by rw [vG_grp, vG_grp]; exact hnl))
              rw [vG_grp, vG_grp] at HSUB
              injection hga with e1 e2 e3
              subst e1 e3
              clear hvo hvg hgg
              dsimp only
              go_wp2_with fail
              refine HSUB.out.mono ?_
              rintro _ _ ⟨v2, rfl, u, rfl, huo⟩
              have hus := u.size_le
              obtain ⟨ua, uc, rfl, _⟩ := grps_own huo
              have hbu : Below wr.heap.size wr u.w := hbz.trans (u.below.mono (by omega))
              have HOU := Lib.hid (ownV_bel HOW.out ⟨u.w, hbu⟩)
              obtain ⟨g3, f3⟩ := own_atG HOU.out hz0'
              have HST := Lib.hid (own_storeG (L := Q) (by rw [hQ]; exact HOU.out) j l)
              have HRR := Lib.hid (show OwnV (u.w.setCell ⟨w.heap.size, j, none⟩ (.int .i64 (l : Int))) (w.heap.size + 1) 3 (.slice ua (grp (R - n * l)).length uc) (iVs (grp (vG (G.drop j) % n))) by
                rw [← HRE2.out, q5]
                exact ownV_other (ownV_mono huo (by omega)) (by omega))
              have hbU : Below w.heap.size w u.w := (hb.trans (hbW.mono hbs)).trans (hbu.mono (by omega))
              clear hQ hz0' huo
              dsimp only
              go_wp2
              go_roundw
              case rel => exact ⟨j, Q.set j l, rfl, by omega, by rw [List.length_set, HQ.out], HQL2.out, HQV2.out, HRR.out, by have := HST.out; rw [List.length_set, HQ.out] at this; exact this, by (repeat' (first | (with_reducible exact Below.refl _ _) | (with_reducible exact Nat.le_refl _) | (with_reducible refine Below.bel ?_ ?_) | (with_reducible refine Below.alloc ?_ ?_ _) | (with_reducible refine Below.drew ?_) | (with_reducible refine Below.drawsN ?_ _) | (with_reducible refine Below.setCell ?_ ?_ _) | (with_reducible refine le_bel ?_) | (with_reducible refine le_alloc ?_) | (with_reducible refine le_setCell ?_) | (with_reducible refine le_drew ?_) | (with_reducible refine le_drawsN ?_) | (dsimp only; with_reducible refine le_bel ?_) | (dsimp only; with_reducible refine Nat.le_refl _) | (dsimp only; with_reducible refine le_bel_add ?_) | (with_reducible assumption) | omega | (dsimp only; omega))), by simp; omega⟩
              case measure => simp [intOf] <;> omega
end Go.Proofs.YteglfhmmkoahfaaGreatDoor
