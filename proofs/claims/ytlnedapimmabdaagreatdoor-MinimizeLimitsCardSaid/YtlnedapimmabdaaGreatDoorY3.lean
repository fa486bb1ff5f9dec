/- Diagrams of functions that have few cofactors: what a network's diagrams ask. The network of MinimizeLimits: an Or of some variables. What the package does with the Or of some variables. The network of MinimizeLimits, as the law makes it. -/
import Derived.Test.YtlnedapimmabdaaGreatDoorY4
import Derived.Test.YtlnedapimmabdaaGreatDoorY2
import Derived.Test.YtlnedapimmabdaaGreatDoorV5
namespace Go.Proofs.YtlnedapimmabdaaGreatDoor
set_option linter.unusedVariables false
set_option linter.unusedSimpArgs false
open Go.RowKit Go.Maps

def HerC (c : Nat) (f : Fn3) : Prop := ∃ P, AtMost P c ∧ Her P f
theorem HerC.con {c : Nat} (hc : 0 < c) (b : Bool) : HerC c (fun _ => b) := ⟨fun f => f = fun _ => b, ⟨fun _ => 0, fun _ _ => hc, fun f g hf hg _ => by rw [hf, hg]⟩, fun t a => rfl⟩
def RH (rk : Nat → Nat) (f : Fn3) (d : Dg3) : Prop := Dgn d.1 d.2 ∧ (∀ y ∈ d.1, VarOk rk y.1) ∧ (∀ ρ, val3 ρ d.1 d.2 = f ρ) ∧ d.1.length ≤ 50000
theorem RH.eqv {rk : Nat → Nat} {f g : Fn3} {d e : Dg3} (h1 : RH rk f d) (h2 : RH rk g e) : d = e ↔ f = g := by
  constructor
  · rintro rfl
    funext ρ
    rw [← h1.2.2.1 ρ, h2.2.2.1 ρ]
  · rintro rfl
    obtain ⟨e1, e2⟩ := h1.1.only h2.1 (fun ρ => by rw [h1.2.2.1 ρ, h2.2.2.1 ρ])
    exact Prod.ext e1 e2
theorem RH.dnok {rk : Nat → Nat} {f : Fn3} {d : Dg3} (h : RH rk f d) {ad : Option Addr} {cap : Nat} {w : World} (hin : InD w.heap.size w ad (d.1.map z3)) : DNok rk w (ad, cap, d) :=
  ⟨hin, h.1.good, h.2.1, h.2.2.2, h.1.root, chkD_dgn h.1⟩
theorem RH.few {rk : Nat → Nat} {f : Fn3} {d : Dg3} {c : Nat} (h : RH rk f d) (hH : HerC c f) : d.1.length ≤ c := dgn_len h.1 h.2.2.1 hH
theorem rh_con (rk : Nat → Nat) (b : Bool) : RH rk (fun _ => b) ([], if b then 1 else 0) := by
  refine ⟨dgn_nil b, fun y hy => absurd hy (List.not_mem_nil), fun ρ => ?_, Nat.zero_le _⟩
  cases b <;> rfl
theorem rh_of {rk : Nat → Nat} {n c : Nat} {S : Fn3} {w : World} {e : Ending} {w' : World} (h : RetC rk n S w e w') (hS : HerC c S) (hc : c ≤ 50000) : RetF (RH rk) S w e w' := by
  obtain ⟨N, p, h1, h2, h3, h4, h5, h6⟩ := h
  obtain ⟨c1, c2, c3, c4⟩ := canon_dgn h1 h4
  have hv : ∀ ρ, val3 ρ (canonD N p).1 (canonD N p).2 = S ρ := fun ρ => by rw [← h5 ρ]; exact (c2.2.2 ρ).symm
  exact ⟨canonD N p, ⟨c1, fun y hy => by obtain ⟨z, hz, e⟩ := c4 y hy; rw [e]; exact h3 z hz, hv, Nat.le_trans (dgn_len c1 hv hS) hc⟩, h6⟩
theorem HerC.cho {rk : Nat → Nat} {c K : Nat} {S : Fn3} (h : HerC c S) (hK : K ≤ 60) (hrk : ∀ v, rk v ≤ K) {F G H : Fn3} (hS : S = fun ρ => if F ρ then G ρ else H ρ) : ChC rk (c + 1) (2 ^ K - 1) F G H := by
  obtain ⟨P, hA, hH⟩ := h
  subst hS
  exact chC_fun hA (by have := Nat.one_le_two_pow (n := K); omega) hK hrk hH
section
variable {rk : Nat → Nat} {c K : Nat}
theorem rh_not (hc : c ≤ 16000) (hK : K ≤ 60) (hrk : ∀ v, rk v ≤ K) {f : Fn3} {d : Dg3} (hd : RH rk f d) (hf : HerC c f) (hS : HerC c fun ρ => !f ρ) (ad : Option Addr) (cap : Nat) (w : World) (hin : InD w.heap.size w ad (d.1.map z3)) : Calls Tryz.prog 43 #[dnV (ad, cap, d)] w (RetF (RH rk) (fun ρ => !f ρ) w) := by
  have hfe : (fun ρ => val3 ρ d.1 d.2) = f := funext hd.2.2.1
  have hl := hd.few hf
  have h := Not_okF (rk := rk) (c := c + 1) (c2 := 2 ^ K - 1) (ad, cap, d) w (hd.dnok hin) (by
    show ChC rk _ _ (fun ρ => val3 ρ d.1 d.2) _ _
    rw [hfe]
    exact hS.cho hK hrk (funext fun ρ => by cases f ρ <;> rfl)) (by show d.1.length + _ ≤ _; omega)
  refine h.mono fun e w' hr => ?_
  have hr' : RetC rk (d.1.length + (c + 1)) (fun ρ => !f ρ) w e w' := by
    have : (fun ρ => !val3 ρ d.1 d.2) = fun ρ => !f ρ := by funext ρ; rw [hd.2.2.1]
    rw [← this]
    exact hr
  exact rh_of hr' hS (by omega)
theorem rh_and (hc : c ≤ 16000) (hK : K ≤ 60) (hrk : ∀ v, rk v ≤ K) {f g : Fn3} {d d' : Dg3} (hd : RH rk f d) (hd' : RH rk g d') (hf : HerC c f) (hg : HerC c g) (hS : HerC c fun ρ => f ρ && g ρ) (ad ad' : Option Addr) (cap cap' : Nat) (w : World) (hin : InD w.heap.size w ad (d.1.map z3)) (hin' : InD w.heap.size w ad' (d'.1.map z3)) :
    Calls Tryz.prog 64 #[dnV (ad, cap, d), dnV (ad', cap', d')] w (RetF (RH rk) (fun ρ => f ρ && g ρ) w) := by
  have hfe : (fun ρ => val3 ρ d.1 d.2) = f := funext hd.2.2.1
  have hge : (fun ρ => val3 ρ d'.1 d'.2) = g := funext hd'.2.2.1
  have hl := hd.few hf
  have hl' := hd'.few hg
  have h := And_okF (rk := rk) (c := c + 1) (c2 := 2 ^ K - 1) (ad, cap, d) (ad', cap', d') w (hd.dnok hin) (hd'.dnok hin') (by
    show ChC rk _ _ (fun ρ => val3 ρ d.1 d.2) (fun ρ => val3 ρ d'.1 d'.2) _
    rw [hfe, hge]
    exact hS.cho hK hrk (funext fun ρ => by cases f ρ <;> rfl)) (by show d.1.length + d'.1.length + _ ≤ _; omega)
  refine h.mono fun e w' hr => ?_
  have hr' : RetC rk (d.1.length + d'.1.length + (c + 1)) (fun ρ => f ρ && g ρ) w e w' := by
    have : (fun ρ => val3 ρ d.1 d.2 && val3 ρ d'.1 d'.2) = fun ρ => f ρ && g ρ := by funext ρ; rw [hd.2.2.1, hd'.2.2.1]
    rw [← this]
    exact hr
  exact rh_of hr' hS (by omega)
theorem rh_or (hc : c ≤ 16000) (hK : K ≤ 60) (hrk : ∀ v, rk v ≤ K) {f g : Fn3} {d d' : Dg3} (hd : RH rk f d) (hd' : RH rk g d') (hf : HerC c f) (hg : HerC c g) (hS : HerC c fun ρ => f ρ || g ρ) (ad ad' : Option Addr) (cap cap' : Nat) (w : World) (hin : InD w.heap.size w ad (d.1.map z3)) (hin' : InD w.heap.size w ad' (d'.1.map z3)) :
    Calls Tryz.prog 65 #[dnV (ad, cap, d), dnV (ad', cap', d')] w (RetF (RH rk) (fun ρ => f ρ || g ρ) w) := by
  have hfe : (fun ρ => val3 ρ d.1 d.2) = f := funext hd.2.2.1
  have hge : (fun ρ => val3 ρ d'.1 d'.2) = g := funext hd'.2.2.1
  have hl := hd.few hf
  have hl' := hd'.few hg
  have h := Or_okF (rk := rk) (c := c + 1) (c2 := 2 ^ K - 1) (ad, cap, d) (ad', cap', d') w (hd.dnok hin) (hd'.dnok hin') (by
    show ChC rk _ _ (fun ρ => val3 ρ d.1 d.2) _ (fun ρ => val3 ρ d'.1 d'.2)
    rw [hfe, hge]
    exact hS.cho hK hrk (funext fun ρ => by cases f ρ <;> rfl)) (by show d.1.length + d'.1.length + _ ≤ _; omega)
  refine h.mono fun e w' hr => ?_
  have hr' : RetC rk (d.1.length + d'.1.length + (c + 1)) (fun ρ => f ρ || g ρ) w e w' := by
    have : (fun ρ => val3 ρ d.1 d.2 || val3 ρ d'.1 d'.2) = fun ρ => f ρ || g ρ := by funext ρ; rw [hd.2.2.1, hd'.2.2.1]
    rw [← this]
    exact hr
  exact rh_of hr' hS (by omega)
structure FewG (rk : Nat → Nat) (c : Nat) (G : List Gt) : Prop where
  var : ∀ (i : Nat) (g : Gt), G[i]? = some g → g.1 = 1 → VarOk rk g.2.1
  gate : ∀ i, i < G.length → HerC c fun ρ => vl ρ G i
  allP : ∀ (i : Nat) (g : Gt), G[i]? = some g → g.1 = 3 → ∀ j, HerC c fun ρ => (g.2.2.take j).all (vl ρ G)
  anyP : ∀ (i : Nat) (g : Gt), G[i]? = some g → g.1 = 4 → ∀ j, HerC c fun ρ => (g.2.2.take j).any (vl ρ G)
theorem netF {v : Nat} {G : List Gt} (hok : okL v G) (hF : FewG rk c G) (hc : c ≤ 16000) (hK : K ≤ 60) (hrk : ∀ v, rk v ≤ K) (on : Nat → Bool) : DgNet (RH rk) G on where
  len := fun f d h => by have := h.2.2.2; omega
  con := fun b => rh_con rk b
  lit := fun i g hi hon h1 w => by
    have hil := (List.getElem?_eq_some_iff.1 hi).1
    have hv := hF.var i g hi h1
    obtain ⟨l1, l2⟩ := dgn_lit g.2.1 hv.1
    refine (Literal_ok g.2.1 true hv.1 w).mono fun e w' h => ⟨([(g.2.1, 0, 1)], 2), ⟨l1, fun y hy => by rw [List.mem_singleton.1 hy]; exact hv, fun ρ => ?_, by simp⟩, h⟩
    show _ = vl ρ G i
    rw [l2 ρ, vl_at hok ρ hil, gtAt_some hi, ev1, if_pos h1]
  neg := fun i g k hi hon h2 hk d ad cap w hd hin => by
    have hil := (List.getElem?_eq_some_iff.1 hi).1
    have hki := okG_ins (hok i g hi) k (by rw [hk]; simp)
    have e : (fun ρ => vl ρ G i) = fun ρ => !vl ρ G k := by
      funext ρ
      rw [vl_at hok ρ hil, gtAt_some hi, ev1, if_neg (by omega), if_pos h2, hk]
      rfl
    have hS := hF.gate i hil
    rw [e] at hS ⊢
    exact rh_not hc hK hrk hd (hF.gate k (by omega)) hS ad cap w hin
  conj := fun i g hi hon h3 j k hj d d' ad ad' cap cap' w hd hd' hin hin' => by
    have hil := (List.getElem?_eq_some_iff.1 hi).1
    have hki := okG_ins (hok i g hi) k (List.mem_of_getElem? hj)
    have e : (fun ρ => (g.2.2.take (j + 1)).all (vl ρ G)) = fun ρ => (g.2.2.take j).all (vl ρ G) && vl ρ G k := by
      funext ρ
      rw [take_snoc hj, List.all_append]
      simp
    have hS := hF.allP i g hi h3 (j + 1)
    rw [e] at hS ⊢
    exact rh_and hc hK hrk hd hd' (hF.allP i g hi h3 j) (hF.gate k (by omega)) hS ad ad' cap cap' w hin hin'
  disj := fun i g hi hon h4 j k hj d d' ad ad' cap cap' w hd hd' hin hin' => by
    have hil := (List.getElem?_eq_some_iff.1 hi).1
    have hki := okG_ins (hok i g hi) k (List.mem_of_getElem? hj)
    have e : (fun ρ => (g.2.2.take (j + 1)).any (vl ρ G)) = fun ρ => (g.2.2.take j).any (vl ρ G) || vl ρ G k := by
      funext ρ
      rw [take_snoc hj, List.any_append]
      simp
    have hS := hF.anyP i g hi h4 (j + 1)
    rw [e] at hS ⊢
    exact rh_or hc hK hrk hd hd' (hF.anyP i g hi h4 j) (hF.gate k (by omega)) hS ad ad' cap cap' w hin hin'
end
end Go.Proofs.YtlnedapimmabdaaGreatDoor

namespace Go.Proofs.YtlnedapimmabdaaGreatDoor
set_option linter.unusedVariables false
set_option linter.unusedSimpArgs false
open Go.RowKit Go.Maps

def orG (k : Nat) : List Gt := (List.range k).map (fun i => ((1, 3 * i, []) : Gt)) ++ [(4, 0, List.range k)]
def orN (k : Nat) : Nt := (orG k, [k])
theorem orG_len (k : Nat) : (orG k).length = k + 1 := by simp [orG]
theorem orG_lo {k i : Nat} (h : i < k) : (orG k)[i]? = some (1, 3 * i, []) := by
  unfold orG
  rw [List.getElem?_append_left (by simpa using h), List.getElem?_map, List.getElem?_range h]
  rfl
theorem orG_hi (k : Nat) : (orG k)[k]? = some (4, 0, List.range k) := by
  unfold orG
  rw [List.getElem?_append_right (by simp)]
  simp
theorem orG_at {k i : Nat} {g : Gt} (h : (orG k)[i]? = some g) : (i < k ∧ g = (1, 3 * i, [])) ∨ (i = k ∧ g = (4, 0, List.range k)) := by
  have hl := (List.getElem?_eq_some_iff.1 h).1
  rw [orG_len] at hl
  rcases Nat.lt_or_ge i k with h1 | h1
  · rw [orG_lo h1] at h
    injection h with h
    exact .inl ⟨h1, h.symm⟩
  · obtain rfl : i = k := by omega
    rw [orG_hi] at h
    injection h with h
    exact .inr ⟨rfl, h.symm⟩
theorem orN_ok {k v : Nat} (h : 3 * k < v + 3) : okN v (orN k) := by
  refine ⟨fun i g hg => ?_, fun o ho => ?_⟩
  · rcases orG_at hg with ⟨h1, rfl⟩ | ⟨rfl, rfl⟩
    · exact .inl ⟨rfl, by show 3 * i < v; omega, rfl⟩
    · exact .inr (.inr (.inl ⟨.inr rfl, rfl, fun x hx => List.mem_range.1 hx⟩))
  · rw [List.mem_singleton.1 ho]
    show k < (orG k).length
    rw [orG_len]
    omega
theorem orV_lo {k i : Nat} (h : i < k) (ρ : Nat → Bool) : vl ρ (orG k) i = ρ (3 * i) := by
  have ho : okL (3 * k) (orG k) := (orN_ok (k := k) (v := 3 * k) (by omega)).1
  rw [vl_at ho ρ (by rw [orG_len]; omega), gtAt_some (orG_lo h), ev1, if_pos rfl]
theorem orV_hi (k : Nat) (ρ : Nat → Bool) : vl ρ (orG k) k = (List.range k).any fun i => ρ (3 * i) := by
  have ho : okL (3 * k) (orG k) := (orN_ok (k := k) (v := 3 * k) (by omega)).1
  rw [vl_at ho ρ (by rw [orG_len]; omega), gtAt_some (orG_hi k), ev1, if_neg (show ¬ (4 : Nat) = 1 by decide), if_neg (show ¬ (4 : Nat) = 2 by decide), if_neg (show ¬ (4 : Nat) = 3 by decide), if_pos rfl]
  exact any_congr fun i hi => orV_lo (List.mem_range.1 hi) ρ
theorem atMost_num (g : Nat → Fn3) (n : Nat) : AtMost (fun f => ∃ m, m < n ∧ f = g m) n := by
  classical
  have key : ∃ code : Fn3 → Nat, ∀ f, (∃ m, m < n ∧ f = g m) → code f < n ∧ f = g (code f) := ⟨fun f => if h : ∃ m, m < n ∧ f = g m then Classical.choose h else 0, fun f hf => by
    dsimp only
    rw [dif_pos hf]
    exact Classical.choose_spec hf⟩
  obtain ⟨code, hcode⟩ := key
  refine ⟨code, fun f hf => (hcode f hf).1, fun f f' hf hf' he => ?_⟩
  rw [(hcode f hf).2, (hcode f' hf').2, he]
theorem HerC.mono {c c' : Nat} {f : Fn3} (h : HerC c f) (hc : c ≤ c') : HerC c' f := by
  obtain ⟨P, ⟨code, h1, h2⟩, h3⟩ := h
  exact ⟨P, ⟨code, fun f hf => Nat.lt_of_lt_of_le (h1 f hf) hc, h2⟩, h3⟩
theorem her_lit (x : Nat) : HerC 3 fun ρ => ρ x := by
  refine ⟨_, atMost_num (fun m => match m with | 0 => fun _ => false | 1 => fun _ => true | _ => fun ρ => ρ x) 3, fun t a => ?_⟩
  by_cases h : x < t
  · cases ha : a x
    · exact ⟨0, by omega, funext fun ρ => by simp [pre, h, ha]⟩
    · exact ⟨1, by omega, funext fun ρ => by simp [pre, h, ha]⟩
  · exact ⟨2, by omega, funext fun ρ => by simp [pre, h]⟩
theorem her_or (j : Nat) : HerC (j + 2) fun ρ => (List.range j).any fun i => ρ (3 * i) := by
  refine ⟨_, atMost_num (fun m => match m with | 0 => fun _ => true | m + 1 => fun ρ => (List.range j).any fun i => decide (m ≤ i) && ρ (3 * i)) (j + 2), fun t a => ?_⟩
  by_cases h : ∃ i, i < j ∧ 3 * i < t ∧ a (3 * i) = true
  · obtain ⟨i, hi, ht, ha⟩ := h
    refine ⟨0, by omega, funext fun ρ => ?_⟩
    exact List.any_eq_true.2 ⟨i, List.mem_range.2 hi, by simp [pre, ht, ha]⟩
  · obtain ⟨m, hm1, hm2⟩ : ∃ m, m ≤ j ∧ ∀ i, i < j → (m ≤ i ↔ ¬ 3 * i < t) := by
      rcases Nat.lt_or_ge ((t + 2) / 3) j with h1 | h1
      · exact ⟨(t + 2) / 3, by omega, fun i hi => by omega⟩
      · exact ⟨j, Nat.le_refl _, fun i hi => by omega⟩
    refine ⟨m + 1, by omega, funext fun ρ => ?_⟩
    show ((List.range j).any fun i => pre t a ρ (3 * i)) = (List.range j).any fun i => decide (m ≤ i) && ρ (3 * i)
    refine any_congr fun i hi => ?_
    have hij := List.mem_range.1 hi
    by_cases hit : 3 * i < t
    · have : a (3 * i) = false := by
        cases ha : a (3 * i)
        · rfl
        · exact absurd ⟨i, hij, hit, ha⟩ h
      have h2 := hm2 i hij
      rw [decide_eq_false (by omega)]
      simp [pre, hit, this]
    · have h2 := hm2 i hij
      rw [decide_eq_true (by omega)]
      simp [pre, hit]
def orR (k : Nat) : Nat → Nat := rkL ((List.range k).map fun i => 3 * i)
theorem orR_le (k y : Nat) : orR k y ≤ k := by
  have := rkL_le ((List.range k).map fun i => 3 * i) y
  rw [List.length_map, List.length_range] at this
  exact this
theorem take_range (j k : Nat) : (List.range k).take j = List.range (min j k) := by
  apply List.ext_getElem?
  intro i
  rw [List.getElem?_take]
  by_cases h : i < j
  · rw [if_pos h]
    rcases Nat.lt_or_ge i k with h1 | h1
    · rw [List.getElem?_range h1, List.getElem?_range (by omega)]
    · rw [List.getElem?_eq_none (by simpa using h1), List.getElem?_eq_none (by simp; omega)]
  · rw [if_neg h, List.getElem?_eq_none (by simp; omega)]
theorem orFew {k : Nat} (hk : k ≤ 1000) : FewG (orR k) (k + 3) (orG k) where
  var := fun i g hg h1 => by
    rcases orG_at hg with ⟨h, rfl⟩ | ⟨rfl, rfl⟩
    · exact ⟨by show 3 * i < 4096; omega, fun y hy => rkL_lt (List.mem_map.2 ⟨i, List.mem_range.2 h, rfl⟩) hy⟩
    · exact absurd h1 (show ¬ (4 : Nat) = 1 by decide)
  gate := fun i hi => by
    rw [orG_len] at hi
    rcases Nat.lt_or_ge i k with h | h
    · have e : (fun ρ => vl ρ (orG k) i) = fun ρ => ρ (3 * i) := funext fun ρ => orV_lo h ρ
      rw [e]
      exact (her_lit _).mono (by omega)
    · obtain rfl : i = k := by omega
      have e : (fun ρ => vl ρ (orG i) i) = fun ρ => (List.range i).any fun x => ρ (3 * x) := funext fun ρ => orV_hi i ρ
      rw [e]
      exact (her_or _).mono (by omega)
  allP := fun i g hg h3 => by
    rcases orG_at hg with ⟨h, rfl⟩ | ⟨rfl, rfl⟩
    · exact absurd h3 (show ¬ (1 : Nat) = 3 by decide)
    · exact absurd h3 (show ¬ (4 : Nat) = 3 by decide)
  anyP := fun i g hg h4 j => by
    rcases orG_at hg with ⟨h, rfl⟩ | ⟨rfl, rfl⟩
    · exact absurd h4 (show ¬ (1 : Nat) = 4 by decide)
    · have e : (fun ρ => ((List.range i).take j).any (vl ρ (orG i))) = fun ρ => (List.range (min j i)).any fun x => ρ (3 * x) := by
        funext ρ
        rw [take_range]
        exact any_congr fun x hx => orV_lo (by have := List.mem_range.1 hx; omega) ρ
      show HerC _ (fun ρ => ((List.range i).take j).any (vl ρ (orG i)))
      rw [e]
      exact (her_or _).mono (by omega)
theorem or_ne {k i j : Nat} (hk : 2 ≤ k) (hi : i < k + 1) (hj : j < k + 1) (h : (fun ρ => vl ρ (orG k) i) = fun ρ => vl ρ (orG k) j) : i = j := by
  have key : ∀ i j, i < k → j < k + 1 → ((fun ρ => vl ρ (orG k) i) = fun ρ => vl ρ (orG k) j) → i = j := fun i j hi hj h => by
    rcases Nat.lt_or_ge j k with h1 | h1
    · have e := congrFun h fun x => decide (x = 3 * i)
      simp only [orV_lo hi, orV_lo h1] at e
      simp at e
      omega
    · obtain rfl : j = k := by omega
      obtain ⟨q, hq, hqi⟩ : ∃ q, q < j ∧ q ≠ i := by
        by_cases h0 : i = 0
        · exact ⟨1, by omega, by omega⟩
        · exact ⟨0, by omega, by omega⟩
      have e := congrFun h fun x => decide (x = 3 * q)
      simp only [orV_lo hi, orV_hi] at e
      rw [decide_eq_false (by omega)] at e
      have : ((List.range j).any fun i => decide (3 * i = 3 * q)) = true := List.any_eq_true.2 ⟨q, List.mem_range.2 hq, by simp⟩
      rw [this] at e
      cases e
  rcases Nat.lt_or_ge i k with h1 | h1
  · exact key i j h1 hj h
  · rcases Nat.lt_or_ge j k with h2 | h2
    · exact (key j i h2 hi h.symm).symm
    · omega
theorem orK {k : Nat} (hk : 2 ≤ k) (hk2 : k ≤ 1000) : KOk (RH (orR k)) (orG k) (List.range (k + 1)) where
  len := by rw [List.length_range, orG_len]
  cls := fun i j d e hi hj h1 h2 => by
    rw [orG_len] at hi hj
    rw [h1.eqv h2, List.getD_eq_getElem?_getD, List.getD_eq_getElem?_getD, List.getElem?_range hi, List.getElem?_range hj]
    exact ⟨fun h => by have h' : i = j := h; rw [h'], fun h => or_ne hk hi hj h⟩
  sz := fun f d h => by
    obtain ⟨h1, h2, h3, h4⟩ := h
    have hr := h1.root
    refine ⟨by omega, fun x hx => ?_⟩
    obtain ⟨i, hi⟩ := List.mem_iff_getElem?.1 hx
    have hil := (List.getElem?_eq_some_iff.1 hi).1
    obtain ⟨g1, g2, g3⟩ : x.1 < 4096 ∧ x.2.1 < i + 2 ∧ x.2.2 < i + 2 := by
      have hn := h1.good i x hi
      have h5 := h2 x hx
      obtain ⟨_, h6, h7, _⟩ := hn
      exact ⟨h5.1, h6, h7⟩
    exact ⟨by omega, by omega, by omega⟩
theorem asc_eq {l m : List Int} (hl : l.Pairwise (· < ·)) (hm : m.Pairwise (· < ·)) (h : ∀ z, z ∈ l ↔ z ∈ m) : l = m := by
  induction l generalizing m with
  | nil =>
    cases m with
    | nil => rfl
    | cons y r => exact absurd ((h y).2 (List.mem_cons_self ..)) (List.not_mem_nil)
  | cons x l ih =>
    cases m with
    | nil => exact absurd ((h x).1 (List.mem_cons_self ..)) (List.not_mem_nil)
    | cons y r =>
      rw [List.pairwise_cons] at hl hm
      have hxy : x = y := by
        rcases List.mem_cons.1 ((h x).1 (List.mem_cons_self ..)) with e | e
        · exact e
        · rcases List.mem_cons.1 ((h y).2 (List.mem_cons_self ..)) with e' | e'
          · exact e'.symm
          · have := hl.1 y e'
            have := hm.1 x e
            omega
      subst hxy
      rw [ih hl.2 hm.2 fun z => ?_]
      constructor
      · intro hz
        rcases List.mem_cons.1 ((h z).1 (List.mem_cons_of_mem _ hz)) with e | e
        · subst e
          have := hl.1 z hz
          omega
        · exact e
      · intro hz
        rcases List.mem_cons.1 ((h z).2 (List.mem_cons_of_mem _ hz)) with e | e
        · subst e
          have := hm.1 z hz
          omega
        · exact e
theorem or_sup (k : Nat) : supG (orG k) [k] = (List.range k).map fun i => ((3 * i : Nat) : Int) := by
  obtain ⟨h1, h2⟩ := supG_spec (orG k) [k]
  refine asc_eq h1 ?_ fun z => ?_
  · rw [List.pairwise_map]
    exact List.pairwise_lt_range.imp fun h => by omega
  · rw [h2 z]
    constructor
    · rintro ⟨j, hj, _, hk1, rfl⟩
      rcases orG_at (gtAt_get hj) with ⟨h, e⟩ | ⟨rfl, e⟩
      · rw [e]
        exact List.mem_map.2 ⟨j, List.mem_range.2 h, rfl⟩
      · rw [e] at hk1
        exact absurd hk1 (show ¬ (4 : Nat) = 1 by decide)
    · intro hz
      obtain ⟨i, hi, rfl⟩ := List.mem_map.1 hz
      have hik := List.mem_range.1 hi
      have hg := gtAt_some (orG_lo hik)
      refine ⟨i, by rw [orG_len]; omega, ?_, by rw [hg], by rw [hg]⟩
      refine reachG_closed (v := 3 * k) (orN_ok (k := k) (by omega)).1 [k] (i := k) (by rw [show (orN k).1 = orG k from rfl, orG_len]; omega) (reachG_outs _ _ (by simp)) ?_
      show i ∈ (gtAt (orG k) k).2.2
      rw [gtAt_some (orG_hi k)]
      exact hi
theorem or_sup_len (k : Nat) : (supG (orG k) [k]).length = k := by rw [or_sup, List.length_map, List.length_range]
end Go.Proofs.YtlnedapimmabdaaGreatDoor

namespace Go.Proofs.YtlnedapimmabdaaGreatDoor
set_option linter.unusedVariables false
set_option linter.unusedSimpArgs false
open Go.RowKit Go.Maps

theorem or_clean : ∀ k, 18 ≤ k → k ≤ 22 → cleanG (orN k) = orN k := by
  have h : ∀ j : Nat, j < 5 → decide (cleanG (orN (18 + j)) = orN (18 + j)) = true := by decide +kernel
  intro k h1 h2
  have := of_decide_eq_true (h (k - 18) (by omega))
  rwa [show 18 + (k - 18) = k by omega] at this
theorem or_join : ∀ k, 18 ≤ k → k ≤ 22 → cleanG (joinN (List.range (k + 1)) (orN k)) = orN k := by
  have h : ∀ j : Nat, j < 5 → decide (cleanG (joinN (List.range (18 + j + 1)) (orN (18 + j))) = orN (18 + j)) = true := by decide +kernel
  intro k h1 h2
  have := of_decide_eq_true (h (k - 18) (by omega))
  rwa [show 18 + (k - 18) = k by omega] at this
theorem or_net {k : Nat} (h2 : k ≤ 22) (on : Nat → Bool) : DgNet (RH (orR k)) (orG k) on :=
  netF (v := 100) (orN_ok (k := k) (by omega)).1 (orFew (by omega)) (c := k + 3) (K := 22) (by omega) (by decide) (fun v => by have := orR_le k v; omega) on
theorem or_bound {k : Nat} {x : NW} (hx : x.1 = orN k) (n : Nat) : bErr 100 (List.replicate (n + 1) x) = if 20 < k then 4 else 0 := by
  unfold bErr
  rw [if_neg (by omega)]
  have hb : (List.replicate (n + 1) x).any (fun x => x.1.2.any (bigO x.1)) = decide (20 < k) := by
    have h1 : x.1.2.any (bigO x.1) = decide (20 < k) := by
      rw [hx]
      show ([k] : List Nat).any (bigO (orN k)) = _
      rw [List.any_cons, List.any_nil, Bool.or_false]
      unfold bigO
      rw [show (orN k).1 = orG k from rfl, or_sup_len]
    rw [Bool.eq_iff_iff, List.any_eq_true]
    constructor
    · rintro ⟨y, hy, h⟩
      rw [(List.mem_replicate.1 hy).2, h1] at h
      exact h
    · intro h
      exact ⟨x, by simp, by rw [h1]; exact h⟩
  rw [hb]
  by_cases h : 20 < k
  · rw [decide_eq_true h, if_pos rfl, if_pos h]
  · rw [decide_eq_false h, if_neg (by decide), if_neg h]
section
variable {k : Nat} (h1 : 18 ≤ k) (h2 : k ≤ 22) (x : NW) (w : World) (h : NWs 100 w x) (hx : x.1 = orN k)
include h1 h2 h hx
theorem Diagrams_or_ok (hk : k ≤ 20) : Calls Tryz.prog 22 #[nwV x, .int .i64 100] w (RetO (RH (orR k)) (outF (orG k) [k]) w) := by
  have hr := Diagrams_ok (RH (orR k)) x.1.1 x.1.2 100 x.2.1 x.2.2.2.1 x.2.2.1 x.2.2.2.2 w (by rw [hx]; exact or_net h2 _) h.ok.ok.1 h.ok.hg h.ok.ho h.ok.ok.2 h.l1 h.l2 h.ok.hoc h.ok.hoc2 h.l3 ((or_bound hx 0).trans (if_neg (by omega)))
  have e : outF x.1.1 x.1.2 = outF (orG k) [k] := by rw [hx]; rfl
  rw [e] at hr
  exact hr
theorem Diagrams_or_no (hk : 20 < k) : Calls Tryz.prog 22 #[nwV x, .int .i64 100] w (Ret (.tuple #[.slice none 0 0, .int .i64 4]) w) := by
  have _u := And.intro h1 h2
  have he := (or_bound hx 0).trans (if_pos hk)
  have hr := Diagrams_limit x.1.1 x.1.2 100 x.2.1 x.2.2.2.1 x.2.2.1 x.2.2.2.2 w h.ok.ok.1 h.ok.hg h.ok.ho h.ok.ok.2 h.l1 h.l2 h.ok.hoc h.ok.hoc2 h.l3 (by intro e; rw [show bErr ((100 : Nat) : Int) [((x.1.1, x.1.2), x.2.1, x.2.2.1, x.2.2.2.1, x.2.2.2.2)] = 4 from he] at e; cases e)
  rw [show bErr ((100 : Nat) : Int) [((x.1.1, x.1.2), x.2.1, x.2.2.1, x.2.2.2.1, x.2.2.2.2)] = 4 from he] at hr
  exact hr
theorem Reduce_or_no (hk : 20 < k) : Calls Tryz.prog 16 #[nwV x, .int .i64 100] w (Ret (.tuple #[nil2, .int .i64 4]) w) := by
  have _u := And.intro h1 h2
  have he := (or_bound hx 0).trans (if_pos hk)
  have hr := Reduce_limit x.1.1 x.1.2 100 x.2.1 x.2.2.2.1 x.2.2.1 x.2.2.2.2 w h.ok.ok.1 h.ok.hg h.ok.ho h.ok.ok.2 h.l1 h.l2 h.ok.hoc h.ok.hoc2 h.l3 (by intro e; rw [show bErr ((100 : Nat) : Int) [((x.1.1, x.1.2), x.2.1, x.2.2.1, x.2.2.2.1, x.2.2.2.2)] = 4 from he] at e; cases e)
  rw [show bErr ((100 : Nat) : Int) [((x.1.1, x.1.2), x.2.1, x.2.2.1, x.2.2.2.1, x.2.2.2.2)] = 4 from he] at hr
  exact hr
theorem Reduce_or_ok (hk : k ≤ 20) (hT : Tab w) : Calls Tryz.prog 16 #[nwV x, .int .i64 100] w (RetN2 100 (orN k) w) := by
  have hok := orN_ok (k := k) (v := 100) (by omega)
  have hcl := or_clean k h1 h2
  have hr := Reduce_ok (RH (orR k)) (List.range (k + 1)) x.1.1 x.1.2 100 x.2.1 x.2.2.2.1 x.2.2.1 x.2.2.2.2 w h.ok.ok.1 h.ok.hg h.ok.ho h.ok.ok.2 h.l1 h.l2 h.ok.hoc h.ok.hoc2 h.l3 ((or_bound hx 0).trans (if_neg (by omega))) (by omega) hT
    (by rw [show ((x.1.1, x.1.2) : Nt) = orN k from hx, hcl]; exact or_net h2 _) (by rw [show ((x.1.1, x.1.2) : Nt) = orN k from hx, hcl]; exact orK (by omega) (by omega))
  rw [show ((x.1.1, x.1.2) : Nt) = orN k from hx, hcl, or_join k h1 h2] at hr
  have hl : (orN k).1.length = k + 1 := orG_len k
  exact hr.mono fun e w' hh => hh.nw hok (by omega) (by show 1 ≤ 1000000; omega) fun g hg => by
    obtain ⟨i, hi⟩ := List.mem_iff_getElem?.1 hg
    rcases orG_at hi with ⟨_, rfl⟩ | ⟨_, rfl⟩
    · show ([] : List Nat).length ≤ _; simp
    · show (List.range k).length ≤ _; rw [List.length_range]; omega
theorem Clean_or (hT : Tab w) : Calls Tryz.prog 13 #[nwV x, .int .i64 100] w (RetN2 100 (orN k) w) := by
  have hr := Clean_nw (v := 100) (by omega) x w h hT
  rw [hx, or_clean k h1 h2] at hr
  exact hr
theorem Support_or : Calls Tryz.prog 23 #[nwV x, .int .i64 100, .int .i64 0] w (fun e w' => ∃ a c, e = .returned (.tuple #[.slice a k c, .int .i64 0]) ∧ Below w.heap.size w w') := by
  have hr := Support_nw (v := 100) x w h (i := 0) (o := k) (by rw [hx]; rfl)
  refine hr.mono ?_
  rintro e w' ⟨v, rfl, how, hb⟩
  rw [hx] at how
  have hl : (intsV (supG (orN k).1 [k])).length = k := by unfold intsV; rw [List.length_map]; exact or_sup_len k
  obtain ⟨hxl, ⟨e1, e2⟩ | ⟨g, cap, cur, e1, rest⟩⟩ := how
  · rw [hl] at e2; omega
  · rw [hl] at e1
    exact ⟨_, _, by rw [e1], hb⟩
theorem pair_or (Q : Ending → World → Prop) (hq1 : k ≤ 20 → ∀ e w', RetP (RH (orR k)) (outF x.1.1 x.1.2) (outF x.1.1 x.1.2) w e w' → Q e w') (hq2 : 20 < k → ∀ w', Below w.heap.size w w' → Q (.returned (.tuple #[.slice none 0 0, .slice none 0 0, .int .i64 4])) w') : Calls Tryz.prog 41 #[nwV x, nwV x, .int .i64 100] w Q :=
  pair_any Q (RH (orR k)) (outF x.1.1 x.1.2) (outF x.1.1 x.1.2) 0 0 (if 20 < k then 4 else 0) x.1.1.length x.1.1.length x.1.2.length x.1.2.length 100 x.2.1 x.2.2.2.1 x.2.1 x.2.2.2.1 x.2.2.1 x.2.2.2.2 x.2.2.1 x.2.2.2.2 w (by have := h.l2; omega) (by have := h.l2; omega)
    (fun w' hb => check_nw x w' (h.of hb)) (fun w' hb => check_nw x w' (h.of hb))
    (fun _ _ _ w' hb T hT => by
      have hh := bounded_any 100 [x, x] (some ⟨T, 0, none⟩) 2 100 w' (fun z hz => by
        rcases List.mem_cons.1 hz with rfl | hz
        · exact (h.of hb).ok
        · rw [List.mem_singleton.1 hz]; exact (h.of hb).ok) (inNs_two hT) (by simp)
      have e : bErr 100 [x, x] = if 20 < k then 4 else 0 := or_bound hx 1
      rw [e] at hh
      exact hh)
    (fun _ _ _ _ w' hb => outputs_any (RH (orR k)) x.1.1 x.1.2 100 _ _ x.2.1 x.2.2.2.1 x.2.2.1 x.2.2.2.2 w' (by rw [hx]; exact or_net h2 _) h.ok.ok.1 (h.of hb).ok.hg (h.of hb).ok.ho h.ok.ok.2 (by have := h.l1; omega) h.l2 (fun g hg => by have := h.l3 g hg; omega))
    (fun _ _ _ _ w' hb => outputs_any (RH (orR k)) x.1.1 x.1.2 100 _ _ x.2.1 x.2.2.2.1 x.2.2.1 x.2.2.2.2 w' (by rw [hx]; exact or_net h2 _) h.ok.ok.1 (h.of hb).ok.hg (h.of hb).ok.ho h.ok.ok.2 (by have := h.l1; omega) h.l2 (fun g hg => by have := h.l3 g hg; omega))
    (fun h0 => absurd rfl h0) (fun _ h0 => absurd rfl h0) (fun _ _ h0 => absurd rfl h0)
    (fun _ _ _ h0 w' hb => by
      have hk : 20 < k := Classical.byContradiction fun hn => h0 (if_neg hn)
      rw [if_pos hk]
      exact hq2 hk w' hb)
    (fun _ _ _ h0 e w' hr => hq1 (Classical.byContradiction fun hn => by rw [if_pos (by omega)] at h0; cases h0) e w' hr)
theorem pair_or_no (hk : 20 < k) : Calls Tryz.prog 41 #[nwV x, nwV x, .int .i64 100] w (Ret (.tuple #[.slice none 0 0, .slice none 0 0, .int .i64 4]) w) :=
  pair_or h1 h2 x w h hx _ (fun h0 => by omega) fun _ w' hb => Ret.mk rfl hb
theorem pair_or_ok (hk : k ≤ 20) : Calls Tryz.prog 41 #[nwV x, nwV x, .int .i64 100] w (RetP (RH (orR k)) (outF x.1.1 x.1.2) (outF x.1.1 x.1.2) w) :=
  pair_or h1 h2 x w h hx _ (fun _ e w' hr => hr) fun h0 => by omega
theorem Equal_or_ok (hk : k ≤ 20) : Calls Tryz.prog 18 #[nwV x, nwV x, .int .i64 100] w (Ret (.tuple #[.bool true, .int .i64 0]) w) :=
  Equal_ok (RH (orR k)) (outF x.1.1 x.1.2) (outF x.1.1 x.1.2) true (nwV x) (nwV x) 100 w (nwV_is x) (nwV_is x) (by unfold outF; rw [List.length_map]; exact h.l2) (by unfold outF; rw [List.length_map]; exact h.l2) (fun f d hd => by have := hd.2.2.2; omega)
    (fun ds es h1 h2 h3 h4 => decide_eq_true ((dec_funs (fun f g d e h1 h2 => h1.eqv h2) h1 h2 h3 h4).2 rfl))
    (fun w' hb => pair_or_ok h1 h2 x w' (h.of hb) hx hk)
theorem Equal_or_no (hk : 20 < k) : Calls Tryz.prog 18 #[nwV x, nwV x, .int .i64 100] w (Ret (.tuple #[.bool false, .int .i64 4]) w) :=
  Equal_err 4 (nwV x) (nwV x) 100 w (nwV_is x) (nwV_is x) (by decide) fun w' hb => pair_or_no h1 h2 x w' (h.of hb) hx hk
theorem Compare_or_no (hk : 20 < k) : Calls Tryz.prog 19 #[nwV x, nwV x, .int .i64 100] w (Ret (.tuple #[.agg #[.int .i64 0, .slice none 0 0], .bool false, .int .i64 4]) w) :=
  Compare_err 4 (nwV x) (nwV x) 100 w (nwV_is x) (nwV_is x) (by decide) fun w' hb => pair_or_no h1 h2 x w' (h.of hb) hx hk
theorem Compare_or_ok (hk : k ≤ 20) : Calls Tryz.prog 19 #[nwV x, nwV x, .int .i64 100] w (Ret (.tuple #[.agg #[.int .i64 0, .slice none 0 0], .bool false, .int .i64 0]) w) := by
  have hc : CmpNet (RH (orR k)) (outF x.1.1 x.1.2) (outF x.1.1 x.1.2) 100 (fun _ _ _ => True) := {
    len := fun f d hd => by have := hd.2.2.2; omega
    eqv := fun f g d e h1 h2 => h1.eqv h2
    neg := fun k f g hf hg hne => by rw [hf] at hg; injection hg with hg; exact absurd hg hne
    cho := fun k f g hf hg hne => by rw [hf] at hg; injection hg with hg; exact absurd hg hne
    wit := fun k f g hf hg hne => by rw [hf] at hg; injection hg with hg; exact absurd hg hne }
  have hr := Compare_ok (RH (orR k)) (outF x.1.1 x.1.2) (outF x.1.1 x.1.2) 100 (fun _ _ _ => True) (nwV x) (nwV x) w (nwV_is x) (nwV_is x) rfl (by unfold outF; rw [List.length_map]; exact h.l2) hc fun w' hb => pair_or_ok h1 h2 x w' (h.of hb) hx hk
  refine hr.mono ?_
  rintro e w' (⟨_, rfl, hb⟩ | ⟨k, f, g, l, b, cap, hf, hg, hne, _⟩)
  · exact ⟨rfl, ⟨w', hb⟩, rfl⟩
  · rw [hf] at hg
    injection hg with hg
    exact absurd hg hne
end
end Go.Proofs.YtlnedapimmabdaaGreatDoor

namespace Go.Proofs.YtlnedapimmabdaaGreatDoor
set_option linter.unusedVariables false
set_option linter.unusedSimpArgs false
open Go.RowKit Go.Maps

def litL (i : Nat) : List GZ := (List.range i).map fun x : Nat => ((1 : Int), (3 : Int) * (x : Int), ([] : List Int))
def intL (i : Nat) : List Int := intsN (List.range i)
theorem litL_len (i : Nat) : (litL i).length = i := by simp [litL]
theorem intL_len (i : Nat) : (intL i).length = i := by simp [intL, intsN]
theorem litL_succ (i : Nat) : litL (i + 1) = litL i ++ [((1 : Int), (3 : Int) * (i : Int), ([] : List Int))] := by unfold litL; rw [List.range_succ, List.map_append]; rfl
theorem intL_succ (i : Nat) : intL (i + 1) = intL i ++ [(i : Int)] := by unfold intL intsN; rw [List.range_succ, List.map_append]; rfl
theorem orG_gz (k : Nat) : (orG k).map gz = litL k ++ [((4 : Int), (0 : Int), intL k)] := by
  unfold orG litL intL
  rw [List.map_append, List.map_map]
  have e : ∀ x ∈ List.range k, (gz ∘ fun i => ((1, 3 * i, []) : Gt)) x = ((1 : Int), (3 : Int) * (x : Int), ([] : List Int)) := fun x _ => by
    show ((1 : Int), ((3 * x : Nat) : Int), ([] : List Int)) = _
    rw [Int.natCast_mul]
    rfl
  rw [List.map_congr_left e]
  rfl
theorem row_int {W : World} {base : Nat} {v : Value} {l : List Int} (h : OwnV W base 3 v (intsV l)) {Q : Nat → Prop} (hq : ∀ b, v.ownBlock = some b → Q b) : ∃ a c, v = .slice a l.length c ∧ InS Q W a l := by
  have hl : (intsV l).length = l.length := by simp [intsV]
  obtain ⟨hxl, ⟨e1, e2⟩ | ⟨g, cap, cur, e1, hg, hh, hn, hc, hcs, hcur⟩⟩ := h
  · rw [hl] at e2
    exact ⟨none, 0, by rw [e1, e2], fun h => by omega⟩
  · rw [hl] at e1
    refine ⟨_, _, e1, fun _ => ⟨g, 0, rfl, hq g (by rw [e1]; rfl), fun j x hj => ?_⟩⟩
    have hjl := (List.getElem?_eq_some_iff.1 hj).1
    have hb : (intsV l)[j]? = some (.int .i64 x) := by unfold intsV; rw [List.getElem?_map, hj]; rfl
    rw [← hcur, List.getElem?_take_of_lt (by omega)] at hb
    rw [Nat.zero_add]
    simp [World.cell?, hh]
    simpa using hb
structure OrS (w : World) (B3 B4 B0 i j : Nat) (gv iv : Value) (W : World) : Prop where
  net : W.heap[B3]? = some (.cells #[gv, .slice none 0 0] 25 (0, 0))
  gat : W.heap[B4]? = some (.cells #[.int .i64 4, .int .i64 0, iv] 45 (0, 0))
  gz : OwnZ (fun _ => False) W B0 45 gv (litL i)
  ints : OwnV W B0 3 iv (intsV (intL j))
  ap : ∀ b, gv.ownBlock = some b → iv.ownBlock ≠ some b
  bel : Below w.heap.size w W
  sz : B0 ≤ W.heap.size
section
variable {w : World} {B3 B4 B0 i j : Nat} {gv iv : Value} {W : World}
theorem OrS.alloc (h : OrS w B3 B4 B0 i j gv iv W) (o : Obj) : OrS w B3 B4 B0 i j gv iv (W.alloc o) :=
  have hb : Below W.heap.size W (W.alloc o) := (Below.refl _ _).alloc (Nat.le_refl _) _
  ⟨obj_in hb h.net, obj_in hb h.gat, ownZ_bel h.gz hb, ownsRow_heap h.ints fun g hg => hb.block g (World.ownsRow.lt h.ints g hg).2, h.ap, h.bel.trans (hb.mono h.bel.size), Nat.le_trans h.sz hb.size⟩
theorem OrS.gate (h : OrS w B3 B4 B0 i j gv iv W) (h1 : w.heap.size ≤ B3) (h2 : B3 < B4) (h3 : B4 < B0) {w1 : World} {g c : Nat} (hz : OwnZ (fun _ => False) w1 B0 45 (.slice (some ⟨g, 0, none⟩) (i + 1) c) (litL (i + 1))) (hb : Below B0 W w1) (hk : KeepX gv W w1) (hg : gv.ownBlock = some g ∨ g = W.heap.size) :
    OrS w B3 B4 B0 (i + 1) j (.slice (some ⟨g, 0, none⟩) (i + 1) c) iv (w1.setCell ⟨B3, 0, none⟩ (.slice (some ⟨g, 0, none⟩) (i + 1) c)) where
  net := obj_setD _ (obj_below hb (by omega) h.net)
  gat := obj_neD _ (by omega) (obj_below hb (by omega) h.gat)
  gz := ownZ_mv hz (fun b hb' => by rw [Below.heap_setCell _ _ _ _ (by have := (ownZ_block hz hb').1; show b ≠ B3; omega)]) fun b _ hp => hp.elim
  ints := ownsRow_heap (ownsRow_heap h.ints fun b hb' => hk b (World.ownsRow.lt h.ints b hb').2 fun e => h.ap b e hb') fun b hb' => by rw [Below.heap_setCell _ _ _ _ (by have := (World.ownsRow.lt h.ints b hb').1; show b ≠ B3; omega)]
  ap := fun b hb' e => by
    have hbg : g = b := by simpa [Value.ownBlock] using hb'
    subst hbg
    have hl := (World.ownsRow.lt h.ints g e).2
    rcases hg with hg | hg
    · exact h.ap g hg e
    · omega
  bel := (h.bel.trans (hb.mono (by omega))).setCell (p := ⟨B3, 0, none⟩) (by simpa using h1) _
  sz := by have := hb.size; have := h.sz; simp; omega
theorem OrS.grown (h : OrS w B3 B4 B0 i j gv iv W) {w1 : World} (hw : W.grownBy w1 iv.ownBlock) : Below B0 W w1 := (Below.refl _ W).grown hw h.sz fun b hb' => (World.ownsRow.lt h.ints b hb').1
theorem OrS.int (h : OrS w B3 B4 B0 i j gv iv W) (h1 : w.heap.size ≤ B3) (h2 : B3 < B4) (h3 : B4 < B0) {w1 : World} {g c : Nat} (hz : OwnV w1 B0 3 (.slice (some ⟨g, 0, none⟩) (j + 1) c) (intsV (intL (j + 1)))) (hw : W.grownBy w1 iv.ownBlock) (hg : iv.ownBlock = some g ∨ g = W.heap.size) :
    OrS w B3 B4 B0 i (j + 1) gv (.slice (some ⟨g, 0, none⟩) (j + 1) c) (w1.setCell ⟨B4, 2, none⟩ (.slice (some ⟨g, 0, none⟩) (j + 1) c)) := by
  have hb : Below B0 W w1 := (Below.refl _ W).grown hw h.sz fun b hb' => (World.ownsRow.lt h.ints b hb').1
  refine ⟨obj_neD _ (by omega) (obj_below hb (by omega) h.net), obj_setD _ (obj_below hb (by omega) h.gat), ?_, ?_, fun b hb' e => ?_, (h.bel.trans (hb.mono (by omega))).setCell (p := ⟨B4, 2, none⟩) (by show w.heap.size ≤ B4; omega) _, by have := hb.size; have := h.sz; simp; omega⟩
  · refine ownZ_mv h.gz (fun b hb' => ?_) fun b _ hp => hp.elim
    have hl := ownZ_block h.gz hb'
    rw [Below.heap_setCell _ _ _ _ (by show b ≠ B4; omega)]
    exact hw.block b hl.2 (fun e => h.ap b hb' e.symm)
  · exact ownsRow_heap hz fun b hb' => by rw [Below.heap_setCell _ _ _ _ (by have := (World.ownsRow.lt hz b hb').1; show b ≠ B4; omega)]
  · have hbg : g = b := by simpa [Value.ownBlock] using e
    subst hbg
    have hl := (ownZ_block h.gz hb').2
    rcases hg with hg | hg
    · exact h.ap g hb' hg
    · omega
end
end Go.Proofs.YtlnedapimmabdaaGreatDoor
