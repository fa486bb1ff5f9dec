/- Diagrams of functions that have few cofactors: what a network's diagrams ask. The network of MinimizeLimits: an Or of some variables. What the package does with the Or of some variables. The network of MinimizeLimits, as the law makes it. -/
import Derived.Test.YtlnedapimmabdaaGreatDoorY4
import Derived.Test.YtlnedapimmabdaaGreatDoorY2
import Derived.Test.YtlnedapimmabdaaGreatDoorV5
namespace Go.Proofs.YtlnedapimmabdaaGreatDoor
set_option linter.unusedVariables false
set_option linter.unusedSimpArgs false
open Go.RowKit Go.Maps

def HerC (c : Nat) (f : Fn3) : Prop := ∃ P, AtMost P c ∧ Her P f
theorem HerC.con {c : Nat} (hc : 0 < c) (b : Bool) : HerC c (fun _ => b) := ⟨fun f => f = fun _ => b, ⟨fun _ => 0, fun _ _ => hc, fun f g hf hg _ => by rw [hf, hg]⟩, fun t a => rfl⟩
def RH (rk : Nat → Nat) (f : Fn3) (d : Dg3) : Prop := Dgn d.1 d.2 ∧ (∀ y ∈ d.1, VarOk rk y.1) ∧ (∀ ρ, val3 ρ d.1 d.2 = f ρ) ∧ d.1.length ≤ 50000
theorem RH.eqv {rk : Nat → Nat} {f g : Fn3} {d e : Dg3} (h1 : RH rk f d) (h2 : RH rk g e) : d = e ↔ f = g := by
  constructor
  · rintro rfl
    funext ρ
    rw [← h1.2.2.1 ρ, h2.2.2.1 ρ]
  · rintro rfl
    obtain ⟨e1, e2⟩ := h1.1.only h2.1 (fun ρ => by rw [h1.2.2.1 ρ, h2.2.2.1 ρ])
    exact Prod.ext e1 e2
theorem RH.dnok {rk : Nat → Nat} {f : Fn3} {d : Dg3} (h : RH rk f d) {ad : Option Addr} {cap : Nat} {w : World} (hin : InD w.heap.size w ad (d.1.map z3)) : DNok rk w (ad, cap, d) :=
  ⟨hin, h.1.good, h.2.1, h.2.2.2, h.1.root, chkD_dgn h.1⟩
theorem RH.few {rk : Nat → Nat} {f : Fn3} {d : Dg3} {c : Nat} (h : RH rk f d) (hH : HerC c f) : d.1.length ≤ c := dgn_len h.1 h.2.2.1 hH
theorem rh_con (rk : Nat → Nat) (b : Bool) : RH rk (fun _ => b) ([], if b then 1 else 0) := by
  refine ⟨dgn_nil b, fun y hy => absurd hy (List.not_mem_nil), fun ρ => ?_, Nat.zero_le _⟩
  cases b <;> rfl
theorem rh_of {rk : Nat → Nat} {n c : Nat} {S : Fn3} {w : World} {e : Ending} {w' : World} (h : RetC rk n S w e w') (hS : HerC c S) (hc : c ≤ 50000) : RetF (RH rk) S w e w' := by
  obtain ⟨N, p, h1, h2, h3, h4, h5, h6⟩ := h
  obtain ⟨c1, c2, c3, c4⟩ := canon_dgn h1 h4
  have hv : ∀ ρ, val3 ρ (canonD N p).1 (canonD N p).2 = S ρ := fun ρ => by rw [← h5 ρ]; exact (c2.2.2 ρ).symm
  exact ⟨canonD N p, ⟨c1, fun y hy => by obtain ⟨z, hz, e⟩ := c4 y hy; rw [e]; exact h3 z hz, hv, Nat.le_trans (dgn_len c1 hv hS) hc⟩, h6⟩
theorem HerC.cho {rk : Nat → Nat} {c K : Nat} {S : Fn3} (h : HerC c S) (hK : K ≤ 60) (hrk : ∀ v, rk v ≤ K) {F G H : Fn3} (hS : S = fun ρ => if F ρ then G ρ else H ρ) : ChC rk (c + 1) (2 ^ K - 1) F G H := by
  obtain ⟨P, hA, hH⟩ := h
  subst hS
  exact chC_fun hA (by have := Nat.one_le_two_pow (n := K); omega) hK hrk hH
section
variable {rk : Nat → Nat} {c K : Nat}
theorem rh_not (hc : c ≤ 16000) (hK : K ≤ 60) (hrk : ∀ v, rk v ≤ K) {f : Fn3} {d : Dg3} (hd : RH rk f d) (hf : HerC c f) (hS : HerC c fun ρ => !f ρ) (ad : Option Addr) (cap : Nat) (w : World) (hin : InD w.heap.size w ad (d.1.map z3)) : Calls Tryz.prog 43 #[dnV (ad, cap, d)] w (RetF (RH rk) (fun ρ => !f ρ) w) := by
  have hfe : (fun ρ => val3 ρ d.1 d.2) = f := funext hd.2.2.1
  have hl := hd.few hf
  have h := Not_okF (rk := rk) (c := c + 1) (c2 := 2 ^ K - 1) (ad, cap, d) w (hd.dnok hin) (by
    show ChC rk _ _ (fun ρ => val3 ρ d.1 d.2) _ _
    rw [hfe]
    exact hS.cho hK hrk (funext fun ρ => by cases f ρ <;> rfl)) (by show d.1.length + _ ≤ _; omega)
  refine h.mono fun e w' hr => ?_
  have hr' : RetC rk (d.1.length + (c + 1)) (fun ρ => !f ρ) w e w' := by
    have : (fun ρ => !val3 ρ d.1 d.2) = fun ρ => !f ρ := by funext ρ; rw [hd.2.2.1]
    rw [← this]
    exact hr
  exact rh_of hr' hS (by omega)
theorem rh_and (hc : c ≤ 16000) (hK : K ≤ 60) (hrk : ∀ v, rk v ≤ K) {f g : Fn3} {d d' : Dg3} (hd : RH rk f d) (hd' : RH rk g d') (hf : HerC c f) (hg : HerC c g) (hS : HerC c fun ρ => f ρ && g ρ) (ad ad' : Option Addr) (cap cap' : Nat) (w : World) (hin : InD w.heap.size w ad (d.1.map z3)) (hin' : InD w.heap.size w ad' (d'.1.map z3)) :
    Calls Tryz.prog 64 #[dnV (ad, cap, d), dnV (ad', cap', d')] w (RetF (RH rk) (fun ρ => f ρ && g ρ) w) := by
  have hfe : (fun ρ => val3 ρ d.1 d.2) = f := funext hd.2.2.1
  have hge : (fun ρ => val3 ρ d'.1 d'.2) = g := funext hd'.2.2.1
  have hl := hd.few hf
  have hl' := hd'.few hg
  have h := And_okF (rk := rk) (c := c + 1) (c2 := 2 ^ K - 1) (ad, cap, d) (ad', cap', d') w (hd.dnok hin) (hd'.dnok hin') (by
    show ChC rk _ _ (fun ρ => val3 ρ d.1 d.2) (fun ρ => val3 ρ d'.1 d'.2) _
    rw [hfe, hge]
    exact hS.cho hK hrk (funext fun ρ => by cases f ρ <;> rfl)) (by show d.1.length + d'.1.length + _ ≤ _; omega)
  refine h.mono fun e w' hr => ?_
  have hr' : RetC rk (d.1.length + d'.1.length + (c + 1)) (fun ρ => f ρ && g ρ) w e w' := by
    have : (fun ρ => val3 ρ d.1 d.2 && val3 ρ d'.1 d'.2) = fun ρ => f ρ && g ρ := by funext ρ; rw [hd.2.2.1, hd'.2.2.1]
    rw [← this]
    exact hr
  exact rh_of hr' hS (by omega)
theorem rh_or (hc : c ≤ 16000) (hK : K ≤ 60) (hrk : ∀ v, rk v ≤ K) {f g : Fn3} {d d' : Dg3} (hd : RH rk f d) (hd' : RH rk g d') (hf : HerC c f) (hg : HerC c g) (hS : HerC c fun ρ => f ρ || g ρ) (ad ad' : Option Addr) (cap cap' : Nat) (w : World) (hin : InD w.heap.size w ad (d.1.map z3)) (hin' : InD w.heap.size w ad' (d'.1.map z3)) :
    Calls Tryz.prog 65 #[dnV (ad, cap, d), dnV (ad', cap', d')] w (RetF (RH rk) (fun ρ => f ρ || g ρ) w) := by
  have hfe : (fun ρ => val3 ρ d.1 d.2) = f := funext hd.2.2.1
  have hge : (fun ρ => val3 ρ d'.1 d'.2) = g := funext hd'.2.2.1
  have hl := hd.few hf
  have hl' := hd'.few hg
  have h := Or_okF (rk := rk) (c := c + 1) (c2 := 2 ^ K - 1) (ad, cap, d) (ad', cap', d') w (hd.dnok hin) (hd'.dnok hin') (by
    show ChC rk _ _ (fun ρ => val3 ρ d.1 d.2) _ (fun ρ => val3 ρ d'.1 d'.2)
    rw [hfe, hge]
    exact hS.cho hK hrk (funext fun ρ => by cases f ρ <;> rfl)) (by show d.1.length + d'.1.length + _ ≤ _; omega)
  refine h.mono fun e w' hr => ?_
  have hr' : RetC rk (d.1.length + d'.1.length + (c + 1)) (fun ρ => f ρ || g ρ) w e w' := by
    have : (fun ρ => val3 ρ d.1 d.2 || val3 ρ d'.1 d'.2) = fun ρ => f ρ || g ρ := by funext ρ; rw [hd.2.2.1, hd'.2.2.1]
    rw [← this]
    exact hr
  exact rh_of hr' hS (by omega)
structure FewG (rk : Nat → Nat) (c : Nat) (G : List Gt) : Prop where
  var : ∀ (i : Nat) (g : Gt), G[i]? = some g → g.1 = 1 → VarOk rk g.2.1
  gate : ∀ i, i < G.length → HerC c fun ρ => vl ρ G i
  allP : ∀ (i : Nat) (g : Gt), G[i]? = some g → g.1 = 3 → ∀ j, HerC c fun ρ => (g.2.2.take j).all (vl ρ G)
  anyP : ∀ (i : Nat) (g : Gt), G[i]? = some g → g.1 = 4 → ∀ j, HerC c fun ρ => (g.2.2.take j).any (vl ρ G)
theorem netF {v : Nat} {G : List Gt} (hok : okL v G) (hF : FewG rk c G) (hc : c ≤ 16000) (hK : K ≤ 60) (hrk : ∀ v, rk v ≤ K) (on : Nat → Bool) : DgNet (RH rk) G on where
  len := fun f d h => by have := h.2.2.2; omega
  con := fun b => rh_con rk b
  lit := fun i g hi hon h1 w => by
    have hil := (List.getElem?_eq_some_iff.1 hi).1
    have hv := hF.var i g hi h1
    obtain ⟨l1, l2⟩ := dgn_lit g.2.1 hv.1
    refine (Literal_ok g.2.1 true hv.1 w).mono fun e w' h => ⟨([(g.2.1, 0, 1)], 2), ⟨l1, fun y hy => by rw [List.mem_singleton.1 hy]; exact hv, fun ρ => ?_, by simp⟩, h⟩
    show _ = vl ρ G i
    rw [l2 ρ, vl_at hok ρ hil, gtAt_some hi, ev1, if_pos h1]
  neg := fun i g k hi hon h2 hk d ad cap w hd hin => by
    have hil := (List.getElem?_eq_some_iff.1 hi).1
    have hki := okG_ins (hok i g hi) k (by rw [hk]; simp)
    have e : (fun ρ => vl ρ G i) = fun ρ => !vl ρ G k := by
      funext ρ
      rw [vl_at hok ρ hil, gtAt_some hi, ev1, if_neg (by omega), if_pos h2, hk]
      rfl
    have hS := hF.gate i hil
    rw [e] at hS ⊢
    exact rh_not hc hK hrk hd (hF.gate k (by omega)) hS ad cap w hin
  conj := fun i g hi hon h3 j k hj d d' ad ad' cap cap' w hd hd' hin hin' => by
    have hil := (List.getElem?_eq_some_iff.1 hi).1
    have hki := okG_ins (hok i g hi) k (List.mem_of_getElem? hj)
    have e : (fun ρ => (g.2.2.take (j + 1)).all (vl ρ G)) = fun ρ => (g.2.2.take j).all (vl ρ G) && vl ρ G k := by
      funext ρ
      rw [take_snoc hj, List.all_append]
      simp
    have hS := hF.allP i g hi h3 (j + 1)
    rw [e] at hS ⊢
    exact rh_and hc hK hrk hd hd' (hF.allP i g hi h3 j) (hF.gate k (by omega)) hS ad ad' cap cap' w hin hin'
  disj := fun i g hi hon h4 j k hj d d' ad ad' cap cap' w hd hd' hin hin' => by
    have hil := (List.getElem?_eq_some_iff.1 hi).1
    have hki := okG_ins (hok i g hi) k (List.mem_of_getElem? hj)
    have e : (fun ρ => (g.2.2.take (j + 1)).any (vl ρ G)) = fun ρ => (g.2.2.take j).any (vl ρ G) || vl ρ G k := by
      funext ρ
      rw [take_snoc hj, List.any_append]
      simp
    have hS := hF.anyP i g hi h4 (j + 1)
    rw [e] at hS ⊢
    exact rh_or hc hK hrk hd hd' (hF.anyP i g hi h4 j) (hF.gate k (by omega)) hS ad ad' cap cap' w hin hin'
end
end Go.Proofs.YtlnedapimmabdaaGreatDoor

namespace Go.Proofs.YtlnedapimmabdaaGreatDoor
set_option linter.unusedVariables false
set_option linter.unusedSimpArgs false
open Go.RowKit Go.Maps

def orG (k : Nat) : List Gt := (List.range k).map (fun i => ((1, 3 * i, []) : Gt)) ++ [(4, 0, List.range k)]
def orN (k : Nat) : Nt := (orG k, [k])
theorem HerC.mono {c c' : Nat} {f : Fn3} (h : HerC c f) (hc : c ≤ c') : HerC c' f := by
  obtain ⟨P, ⟨code, h1, h2⟩, h3⟩ := h
  exact ⟨P, ⟨code, fun f hf => Nat.lt_of_lt_of_le (h1 f hf) hc, h2⟩, h3⟩
end Go.Proofs.YtlnedapimmabdaaGreatDoor

namespace Go.Proofs.YtlnedapimmabdaaGreatDoor
set_option linter.unusedVariables false
set_option linter.unusedSimpArgs false
open Go.RowKit Go.Maps

section
variable {k : Nat} (h1 : 18 ≤ k) (h2 : k ≤ 22) (x : NW) (w : World) (h : NWs 100 w x) (hx : x.1 = orN k)
include h1 h2 h hx
end
end Go.Proofs.YtlnedapimmabdaaGreatDoor

namespace Go.Proofs.YtlnedapimmabdaaGreatDoor
set_option linter.unusedVariables false
set_option linter.unusedSimpArgs false
open Go.RowKit Go.Maps

def litL (i : Nat) : List GZ := (List.range i).map fun x : Nat => ((1 : Int), (3 : Int) * (x : Int), ([] : List Int))
def intL (i : Nat) : List Int := intsN (List.range i)
structure OrS (w : World) (B3 B4 B0 i j : Nat) (gv iv : Value) (W : World) : Prop where
  net : W.heap[B3]? = some (.cells #[gv, .slice none 0 0] 25 (0, 0))
  gat : W.heap[B4]? = some (.cells #[.int .i64 4, .int .i64 0, iv] 45 (0, 0))
  gz : OwnZ (fun _ => False) W B0 45 gv (litL i)
  ints : OwnV W B0 3 iv (intsV (intL j))
  ap : ∀ b, gv.ownBlock = some b → iv.ownBlock ≠ some b
  bel : Below w.heap.size w W
  sz : B0 ≤ W.heap.size
section
variable {w : World} {B3 B4 B0 i j : Nat} {gv iv : Value} {W : World}
theorem OrS.alloc (h : OrS w B3 B4 B0 i j gv iv W) (o : Obj) : OrS w B3 B4 B0 i j gv iv (W.alloc o) :=
  have hb : Below W.heap.size W (W.alloc o) := (Below.refl _ _).alloc (Nat.le_refl _) _
  ⟨obj_in hb h.net, obj_in hb h.gat, ownZ_bel h.gz hb, ownsRow_heap h.ints fun g hg => hb.block g (World.ownsRow.lt h.ints g hg).2, h.ap, h.bel.trans (hb.mono h.bel.size), Nat.le_trans h.sz hb.size⟩
theorem OrS.gate (h : OrS w B3 B4 B0 i j gv iv W) (h1 : w.heap.size ≤ B3) (h2 : B3 < B4) (h3 : B4 < B0) {w1 : World} {g c : Nat} (hz : OwnZ (fun _ => False) w1 B0 45 (.slice (some ⟨g, 0, none⟩) (i + 1) c) (litL (i + 1))) (hb : Below B0 W w1) (hk : KeepX gv W w1) (hg : gv.ownBlock = some g ∨ g = W.heap.size) :
    OrS w B3 B4 B0 (i + 1) j (.slice (some ⟨g, 0, none⟩) (i + 1) c) iv (w1.setCell ⟨B3, 0, none⟩ (.slice (some ⟨g, 0, none⟩) (i + 1) c)) where
  net := obj_setD _ (obj_below hb (by omega) h.net)
  gat := obj_neD _ (by omega) (obj_below hb (by omega) h.gat)
  gz := ownZ_mv hz (fun b hb' => by rw [Below.heap_setCell _ _ _ _ (by have := (ownZ_block hz hb').1; show b ≠ B3; omega)]) fun b _ hp => hp.elim
  ints := ownsRow_heap (ownsRow_heap h.ints fun b hb' => hk b (World.ownsRow.lt h.ints b hb').2 fun e => h.ap b e hb') fun b hb' => by rw [Below.heap_setCell _ _ _ _ (by have := (World.ownsRow.lt h.ints b hb').1; show b ≠ B3; omega)]
  ap := fun b hb' e => by
    have hbg : g = b := by simpa [Value.ownBlock] using hb'
    subst hbg
    have hl := (World.ownsRow.lt h.ints g e).2
    rcases hg with hg | hg
    · exact h.ap g hg e
    · omega
  bel := (h.bel.trans (hb.mono (by omega))).setCell (p := ⟨B3, 0, none⟩) (by simpa using h1) _
  sz := by have := hb.size; have := h.sz; simp; omega
theorem OrS.grown (h : OrS w B3 B4 B0 i j gv iv W) {w1 : World} (hw : W.grownBy w1 iv.ownBlock) : Below B0 W w1 := (Below.refl _ W).grown hw h.sz fun b hb' => (World.ownsRow.lt h.ints b hb').1
theorem OrS.int (h : OrS w B3 B4 B0 i j gv iv W) (h1 : w.heap.size ≤ B3) (h2 : B3 < B4) (h3 : B4 < B0) {w1 : World} {g c : Nat} (hz : OwnV w1 B0 3 (.slice (some ⟨g, 0, none⟩) (j + 1) c) (intsV (intL (j + 1)))) (hw : W.grownBy w1 iv.ownBlock) (hg : iv.ownBlock = some g ∨ g = W.heap.size) :
    OrS w B3 B4 B0 i (j + 1) gv (.slice (some ⟨g, 0, none⟩) (j + 1) c) (w1.setCell ⟨B4, 2, none⟩ (.slice (some ⟨g, 0, none⟩) (j + 1) c)) := by
  have hb : Below B0 W w1 := (Below.refl _ W).grown hw h.sz fun b hb' => (World.ownsRow.lt h.ints b hb').1
  refine ⟨obj_neD _ (by omega) (obj_below hb (by omega) h.net), obj_setD _ (obj_below hb (by omega) h.gat), ?_, ?_, fun b hb' e => ?_, (h.bel.trans (hb.mono (by omega))).setCell (p := ⟨B4, 2, none⟩) (by show w.heap.size ≤ B4; omega) _, by have := hb.size; have := h.sz; simp; omega⟩
  · refine ownZ_mv h.gz (fun b hb' => ?_) fun b _ hp => hp.elim
    have hl := ownZ_block h.gz hb'
    rw [Below.heap_setCell _ _ _ _ (by show b ≠ B4; omega)]
    exact hw.block b hl.2 (fun e => h.ap b hb' e.symm)
  · exact ownsRow_heap hz fun b hb' => by rw [Below.heap_setCell _ _ _ _ (by have := (World.ownsRow.lt hz b hb').1; show b ≠ B4; omega)]
  · have hbg : g = b := by simpa [Value.ownBlock] using e
    subst hbg
    have hl := (ownZ_block h.gz hb').2
    rcases hg with hg | hg
    · exact h.ap g hb' hg
    · omega
end
end Go.Proofs.YtlnedapimmabdaaGreatDoor
