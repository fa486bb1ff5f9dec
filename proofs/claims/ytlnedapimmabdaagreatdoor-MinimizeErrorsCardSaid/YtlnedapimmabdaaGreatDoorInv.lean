/- A region that draws its order, by what is known of each slot that its operations fill: each operation is looked at once, in whatever world and frame its forerunners leave. -/
import Derived.Test.YtlnedapimmabdaaGreatDoorCm
namespace Go.Proofs.YtlnedapimmabdaaGreatDoor
set_option linter.unusedVariables false
set_option linter.unusedSimpArgs false
open Go.RowKit

inductive Fact where
  | is (v : Value)
  | has (p : Value → World → Prop) (st : ∀ (v : Value) (w w' : World), p v w → Below w.heap.size w w' → p v w')
def Fact.of : Fact → Value → World → Prop
  | .is u, v, _ => v = u
  | .has p _, v, w => p v w
theorem Fact.last (f : Fact) {v : Value} {w w' : World} (h : f.of v w) (hb : Below w.heap.size w w') : f.of v w' := by
  cases f with
  | is u => exact h
  | has p st => exact st v w w' h hb
theorem Fact.of_has {p : Value → World → Prop} {st : ∀ (v : Value) (w w' : World), p v w → Below w.heap.size w w' → p v w'} {v : Value} {w : World} (h : p v w) : (Fact.has p st).of v w := h
def waitsOf (o : Oper) : List Nat := (o.after.toList.filter (Region.binds .any)).map (·.on)
theorem mem_waits {o : Oper} {j : Nat} : j ∈ waitsOf o ↔ ∃ e ∈ o.after, Region.binds .any e = true ∧ e.on = j := by
  unfold waitsOf
  simp only [List.mem_map, List.mem_filter, Array.mem_toList_iff]
  constructor
  · rintro ⟨e, ⟨h1, h2⟩, h3⟩
    exact ⟨e, h1, h2, h3⟩
  · rintro ⟨e, h1, h2, h3⟩
    exact ⟨e, ⟨h1, h2⟩, h3⟩
def backB : Nat → List Oper → Bool
  | _, [] => true
  | k, o :: r => (waitsOf o).all (fun j => Nat.blt j k) && backB (k + 1) r
theorem backB_at : ∀ {l : List Oper} {k i : Nat} {o : Oper}, backB k l = true → l[i]? = some o → ∀ j ∈ waitsOf o, j < k + i
  | [], k, i, o, _, h => by simp at h
  | x :: r, k, 0, o, hb, h => by
    simp only [List.getElem?_cons_zero, Option.some.injEq] at h
    subst h
    simp only [backB, Bool.and_eq_true, List.all_eq_true] at hb
    intro j hj
    have := hb.1 j hj
    rw [Nat.blt_eq] at this
    omega
  | x :: r, k, i + 1, o, hb, h => by
    simp only [backB, Bool.and_eq_true] at hb
    intro j hj
    have := backB_at hb.2 (by simpa using h) j hj
    omega
def guardB (F : List (Tmp × Fact)) (o : Oper) : Bool :=
  match o.guard with
  | none => true
  | some (j, b) => (waitsOf o).contains j && match F[j]? with
    | some (_, .is (.bool c)) => c == b
    | _ => false
def nodupB : List Nat → Bool
  | [] => true
  | x :: r => r.all (fun y => !Nat.beq x y) && nodupB r
theorem nodupB_at : ∀ {l : List Nat} {i j x y : Nat}, nodupB l = true → i < j → l[i]? = some x → l[j]? = some y → x ≠ y
  | [], i, j, x, y, _, _, h, _ => by simp at h
  | z :: r, 0, j + 1, x, y, hb, _, hi, hj => by
    simp only [List.getElem?_cons_zero, Option.some.injEq] at hi
    subst hi
    simp only [nodupB, Bool.and_eq_true, List.all_eq_true] at hb
    have := hb.1 y (List.mem_of_getElem? (by simpa using hj))
    intro he
    subst he
    simp at this
  | z :: r, i + 1, j + 1, x, y, hb, hij, hi, hj => by
    simp only [nodupB, Bool.and_eq_true] at hb
    exact nodupB_at (i := i) (j := j) hb.2 (by omega) (by simpa using hi) (by simpa using hj)
def fitsB (F : List (Tmp × Fact)) (n : Nat) (l : List Oper) : Bool :=
  decide (l.map (·.dst) = F.map fun q => some q.1) && nodupB (F.map (·.1)) && (F.map (·.1)).all (fun t => Nat.blt t n) && backB 0 l && l.all (guardB F)

section
variable {P : Program}
def InvOp (P : Program) (S : List (Tmp × Value)) (W : World) (F : List (Tmp × Fact)) (o : Oper) (f : Fact) : Prop :=
  ∀ (ρ : Operand → Value) (x : Bel W), (∀ v, ρ (.const v) = v) → (∀ g, ρ (.global g) = .pointer (some ⟨g, 0, none⟩)) → (∀ g, ρ (.func g) = .func (.func g) #[] #[]) → (∀ (i : Nat) q, S[i]? = some q → ρ (.tmp q.1) = q.2) →
    (∀ j ∈ waitsOf o, ∀ q, F[j]? = some q → q.2.of (ρ (.tmp q.1)) x.w) → grows P x.w f.of ((execOp ρ o).run P x.w)
theorem InvOp.hide {S : List (Tmp × Value)} {W : World} {F : List (Tmp × Fact)} {o : Oper} {f : Fact} (h : ∀ f', Hid (f' = f) → InvOp P S W F o f') : InvOp P S W F o f := h f (Lib.hid rfl)
def InvAll (P : Program) (S : List (Tmp × Value)) (W : World) (F : List (Tmp × Fact)) : List Oper → List (Tmp × Fact) → Prop
  | o :: r, q :: s => InvOp P S W F o q.2 ∧ InvAll P S W F r s
  | _, _ => True
theorem InvAll.cons {S : List (Tmp × Value)} {W : World} {F : List (Tmp × Fact)} {o : Oper} {q : Tmp × Fact} {r : List Oper} {s : List (Tmp × Fact)} (h : InvOp P S W F o q.2) (h' : InvAll P S W F r s) : InvAll P S W F (o :: r) (q :: s) := ⟨h, h'⟩
theorem InvAll.nil {S : List (Tmp × Value)} {W : World} {F : List (Tmp × Fact)} : InvAll P S W F [] [] := trivial
def SOk (T : Array Value) : List (Tmp × Value) → Prop
  | [] => True
  | q :: r => T[q.1]? = some q.2 ∧ SOk T r
theorem SOk.at {T : Array Value} : ∀ {S : List (Tmp × Value)} {i : Nat} {q : Tmp × Value}, SOk T S → S[i]? = some q → T[q.1]? = some q.2
  | [], i, q, _, h => by simp at h
  | x :: r, 0, q, h, h1 => by
    simp only [List.getElem?_cons_zero, Option.some.injEq] at h1
    subst h1
    exact h.1
  | x :: r, i + 1, q, h, h1 => SOk.at h.2 (by simpa using h1)
theorem SOk.cons {T : Array Value} {q : Tmp × Value} {r : List (Tmp × Value)} (h : T[q.1]? = some q.2) (h' : SOk T r) : SOk T (q :: r) := ⟨h, h'⟩
theorem SOk.nil {T : Array Value} : SOk T [] := trivial
theorem InvAll.get {S : List (Tmp × Value)} {W : World} {F : List (Tmp × Fact)} : ∀ {l : List Oper} {s : List (Tmp × Fact)} {i : Nat} {o : Oper} {q : Tmp × Fact}, InvAll P S W F l s → l[i]? = some o → s[i]? = some q → InvOp P S W F o q.2
  | [], _, i, o, q, _, h, _ => by simp at h
  | _ :: _, [], i, o, q, _, _, h => by simp at h
  | x :: r, y :: s, 0, o, q, h, h1, h2 => by
    simp only [List.getElem?_cons_zero, Option.some.injEq] at h1 h2
    subst h1 h2
    exact h.1
  | x :: r, y :: s, i + 1, o, q, h, h1, h2 => InvAll.get h.2 (by simpa using h1) (by simpa using h2)

structure InvSt (F : List (Tmp × Fact)) (T0 : Array Value) (W : World) (listed : Array Bool) (T : Array Value) (w : World) : Prop where
  size : T.size = T0.size
  same : ∀ t, (F.map (·.1)).contains t = false → T[t]? = T0[t]?
  facts : ∀ (j : Nat) q, F[j]? = some q → listed.getD j false = true → q.2.of (T.getD q.1 undef) w
  below : Below W.heap.size W w

def unl (listed : Array Bool) : Nat := listed.toList.countP (! ·)
theorem unl_set {listed : Array Bool} {i : Nat} (h : listed.getD i true = false) : unl (listed.setIfInBounds i true) + 1 = unl listed := by
  have hi : i < listed.size := by
    rcases Nat.lt_or_ge i listed.size with h1 | h1
    · exact h1
    · rw [Array.getD_eq_getD_getElem?, Array.getElem?_eq_none h1] at h
      cases h
  have hv : listed[i] = false := by
    rw [Array.getD_eq_getD_getElem?, Array.getElem?_eq_getElem hi] at h
    exact h
  unfold unl
  rw [Array.toList_setIfInBounds, List.countP_set (by simpa using hi)]
  have h2 : listed.toList[i]'(by simpa using hi) = false := by simpa using hv
  have h3 : 0 < listed.toList.countP (! ·) := List.countP_pos_iff.2 ⟨false, by rw [← h2]; exact List.getElem_mem _, rfl⟩
  rw [h2]
  simp only [Bool.not_false, if_true, Bool.not_true, Bool.false_eq_true, if_false]
  omega
theorem unl_zero {listed : Array Bool} (h : unl listed = 0) (i : Nat) (hi : i < listed.size) : listed.getD i false = true := by
  unfold unl at h
  have := List.countP_eq_zero.1 h listed[i] (by simp)
  rw [Array.getD_eq_getD_getElem?, Array.getElem?_eq_getElem hi]
  simpa using this
theorem unl_pos {listed : Array Bool} (h : 0 < unl listed) : ∃ i, i < listed.size ∧ listed.getD i true = false := by
  unfold unl at h
  obtain ⟨b, hb, h1⟩ := List.countP_pos_iff.1 h
  obtain ⟨i, hi, rfl⟩ := List.mem_iff_getElem.1 hb
  refine ⟨i, by simpa using hi, ?_⟩
  rw [Array.getD_eq_getD_getElem?, Array.getElem?_eq_getElem (by simpa using hi)]
  simpa using h1
theorem getD_tf {listed : Array Bool} {i : Nat} (hi : i < listed.size) (h : listed.getD i true ≠ false) : listed.getD i false = true := by
  rw [Array.getD_eq_getD_getElem?, Array.getElem?_eq_getElem hi] at h ⊢
  simpa using h
theorem least_un {listed : Array Bool} (h : ∃ i, i < listed.size ∧ listed.getD i true = false) : ∃ i, i < listed.size ∧ listed.getD i true = false ∧ ∀ j, j < i → listed.getD j false = true := by
  obtain ⟨i, hi⟩ := h
  induction i using Nat.strongRecOn with
  | ind i ih =>
    by_cases h : ∃ j, j < i ∧ listed.getD j true = false
    · obtain ⟨j, hj, hp⟩ := h
      exact ih j hj ⟨by omega, hp⟩
    · exact ⟨i, hi.1, hi.2, fun j hj => getD_tf (by omega) fun hp => h ⟨j, hj, hp⟩⟩
theorem getD_setT {T : Array Value} {d e : Nat} {v : Value} (hd : d < T.size) : (T.setIfInBounds d v).getD e undef = if e = d then v else T.getD e undef := by
  rw [Array.getD_eq_getD_getElem?, Array.getElem?_setIfInBounds]
  by_cases h : d = e
  · subst h
    rw [if_pos rfl, if_pos rfl, if_pos hd]
    rfl
  · rw [if_neg h, if_neg (Ne.symm h), Array.getD_eq_getD_getElem?]

theorem any_inv {Q : Exit → Act → World → Prop} {a : Act} {W : World} {l : List Oper} (F : List (Tmp × Fact)) (S : List (Tmp × Value)) (hB : fitsB F a.tmps.size l = true) (hSF : (S.all fun q => !(F.map (·.1)).contains q.1) = true) (hS : SOk a.tmps S) (h : InvAll P S W F l F)
    (hend : ∀ (T : Array Value) (x : Bel W), T.size = a.tmps.size → (∀ t, (F.map (·.1)).contains t = false → T[t]? = a.tmps[t]?) → (∀ (j : Nat) q, F[j]? = some q → q.2.of (T.getD q.1 undef) x.w) → Q .normal ⟨T, a.defers⟩ x.w) :
    ∀ (fuel : Nat) (listed : Array Bool) (T : Array Value) (w : World), listed.size = l.length → unl listed = fuel → InvSt F a.tmps W listed T w → wpAny P .any l.toArray Q fuel listed ⟨T, a.defers⟩ w := by
  simp only [fitsB, Bool.and_eq_true, decide_eq_true_eq, List.all_eq_true] at hB
  obtain ⟨⟨⟨⟨hD, hN⟩, hL⟩, hK⟩, hG⟩ := hB
  have hlen : l.length = F.length := by have := congrArg List.length hD; simpa using this
  have hdst : ∀ {i : Nat} {o : Oper}, l[i]? = some o → ∃ q, F[i]? = some q ∧ o.dst = some q.1 := fun {i o} ho => by
    have h1 : (l.map (·.dst))[i]? = some o.dst := by rw [List.getElem?_map, ho]; rfl
    rw [hD, List.getElem?_map] at h1
    obtain ⟨q, hq, e⟩ := Option.map_eq_some_iff.1 h1
    exact ⟨q, hq, e.symm⟩
  have hap : ∀ {i j : Nat} {p q : Tmp × Fact}, F[i]? = some p → F[j]? = some q → i ≠ j → p.1 ≠ q.1 := fun {i j p q} hp hq hne => by
    have h1 : (F.map (·.1))[i]? = some p.1 := by rw [List.getElem?_map, hp]; rfl
    have h2 : (F.map (·.1))[j]? = some q.1 := by rw [List.getElem?_map, hq]; rfl
    rcases Nat.lt_or_gt_of_ne hne with h3 | h3
    · exact nodupB_at hN h3 h1 h2
    · exact Ne.symm (nodupB_at hN h3 h2 h1)
  have finish : ∀ {listed : Array Bool} {T : Array Value} {w : World}, listed.size = l.length → unl listed = 0 → InvSt F a.tmps W listed T w → Q .normal ⟨T, a.defers⟩ w := fun {listed T w} hs hu st =>
    hend T ⟨w, st.below⟩ st.size st.same fun j q hq => st.facts j q hq (unl_zero hu j (by rw [hs, hlen]; exact (List.getElem?_eq_some_iff.1 hq).1))
  have stuck : ∀ {listed : Array Bool}, listed.size = l.length → Region.ready .any l.toArray listed = [] → unl listed = 0 := fun {listed} hs hr => by
    rcases Nat.eq_zero_or_pos (unl listed) with h0 | h0
    · exact h0
    · obtain ⟨i, hi, hu, hm⟩ := least_un (unl_pos h0)
      have ho : l.toArray[i]? = some (l[i]'(by omega)) := by simp
      have : i ∈ Region.ready .any l.toArray listed := mem_ready.2 ⟨hu, _, ho, fun e he hb => by
        have := backB_at hK (i := i) (by simp) e.on (mem_waits.2 ⟨e, he, hb, rfl⟩)
        exact hm _ (by omega)⟩
      rw [hr] at this
      cases this
  intro fuel
  induction fuel with
  | zero =>
    intro listed T w hs hu st
    refine ⟨?_, finish hs hu st⟩
    refine List.eq_nil_iff_forall_not_mem.2 fun i hi => ?_
    obtain ⟨h1, o, ho, _⟩ := mem_ready.1 hi
    have hil : i < listed.size := by rw [hs]; simpa using (Array.getElem?_eq_some_iff.1 ho).1
    have := unl_zero hu i hil
    rw [Array.getD_eq_getD_getElem?, Array.getElem?_eq_getElem hil] at h1 this
    simp_all
  | succ fuel ih =>
    intro listed T w hs hu st
    refine ⟨fun hr => by have := stuck hs hr; omega, fun i hi => ?_⟩
    obtain ⟨h1, o, ho, hall⟩ := mem_ready.1 hi
    have ho' : l[i]? = some o := by simpa using ho
    obtain ⟨q, hq, hdo⟩ := hdst ho'
    have hqm : q.1 ∈ F.map (·.1) := List.mem_map_of_mem (List.mem_of_getElem? hq)
    have hqs : q.1 < T.size := by
      have := hL q.1 hqm
      rw [Nat.blt_eq] at this
      rw [st.size]
      exact this
    have hdeps : ∀ j ∈ waitsOf o, ∀ p, F[j]? = some p → p.2.of ((⟨T, a.defers⟩ : Act).eval (.tmp p.1)) w := fun j hj p hp => by
      obtain ⟨e, he, hb, rfl⟩ := mem_waits.1 hj
      exact st.facts _ p hp (hall e he hb)
    have hw : Region.wanted o (yielded l.toArray T) = true := by
      have hg := hG o (List.mem_of_getElem? ho')
      unfold guardB at hg
      unfold Region.wanted
      split at hg
      · rename_i hn; rw [hn]
      · rename_i j b hn
        rw [hn]
        simp only [Bool.and_eq_true] at hg
        have hjw : j ∈ waitsOf o := by simpa using hg.1
        split at hg
        · rename_i t c hFj
          have hv := hdeps j hjw _ hFj
          have hcb : c = b := by simpa using hg.2
          have hjl : ∃ oj, l[j]? = some oj := ⟨l[j]'(by rw [hlen]; exact (List.getElem?_eq_some_iff.1 hFj).1), List.getElem?_eq_getElem _⟩
          obtain ⟨oj, hoj⟩ := hjl
          obtain ⟨q', hq', hd'⟩ := hdst hoj
          rw [hFj] at hq'
          injection hq' with hq'
          subst hq'
          have hts : t < T.size := by
            have := hL t (List.mem_map_of_mem (f := fun q : Tmp × Fact => q.1) (List.mem_of_getElem? hFj))
            rw [Nat.blt_eq] at this
            rw [st.size]
            exact this
          have hv2 : T.getD t undef = .bool c := hv
          rw [Array.getD_eq_getD_getElem?, Array.getElem?_eq_getElem hts] at hv2
          simp only [Option.getD_some] at hv2
          simp only [yielded, List.getElem?_toArray, hoj, Option.bind_some, hd', Array.getElem?_eq_getElem hts, hv2, hcb]
          simp
        · cases hg.2
    have hrun := (InvAll.get h ho' hq) ((⟨T, a.defers⟩ : Act).eval) ⟨w, st.below⟩ (fun _ => rfl) (fun _ => rfl) (fun _ => rfl) (fun k p hp => by
      show T.getD p.1 undef = p.2
      have h2 := List.all_eq_true.1 hSF p (List.mem_of_getElem? hp)
      rw [Array.getD_eq_getD_getElem?, st.same p.1 (by simpa using h2), hS.at hp]
      rfl) hdeps
    have step : ∀ (v : Value) (w' : World), Below w.heap.size w w' → q.2.of v w' → wpAny P .any l.toArray Q fuel (listed.setIfInBounds i true) ((⟨T, a.defers⟩ : Act).put o.dst v) w' := fun v w' hb hf => by
      rw [hdo]
      refine ih _ (T.setIfInBounds q.1 v) w' (by simpa using hs) (by have := unl_set h1; omega) ⟨by simpa using st.size, fun t ht => ?_, fun j p hp hj => ?_, st.below.trans (hb.mono st.below.size)⟩
      · rw [Array.getElem?_setIfInBounds, if_neg (fun he => ?_)]
        · exact st.same t ht
        · subst he
          simp only [List.contains_eq_mem, decide_eq_false_iff_not] at ht
          exact ht hqm
      · rw [getD_setT hqs]
        by_cases hji : j = i
        · subst hji
          rw [hq] at hp
          injection hp with hp
          subst hp
          rw [if_pos rfl]
          exact hf
        · rw [if_neg (hap hp hq hji)]
          refine Fact.last _ (st.facts j p hp ?_) hb
          rw [getD_set_ne false (fun e => hji e.symm)] at hj
          exact hj
    unfold wpOp
    simp only [ho]
    rw [if_pos hw]
    refine .inl ?_
    unfold Oper.wp
    have hrun' : grows P w q.2.of ((execOp ((⟨T, a.defers⟩ : Act).eval) o).run P w) := hrun
    generalize (execOp ((⟨T, a.defers⟩ : Act).eval) o).run P w = r at *
    cases r with
    | ok nx w' =>
      cases nx <;> simp only [grows] at hrun' <;> simp only [Oper.upon]
      case value u => exact step u w' hrun'.1 hrun'.2
      case skip => exact step _ w' hrun'.1 hrun'.2
      case enter fn args =>
        obtain ⟨rfl, hcl⟩ := hrun'
        refine hcl.mono fun e w'' ⟨u, he, hb, hk⟩ => ?_
        subst he
        exact step u w'' hb hk
    | halt y w' => simp only [grows] at hrun'

theorem wp_region_inv {id : Nat} {Q : Exit → Act → World → Prop} {a : Act} {w : World} {l : List Oper} (F : List (Tmp × Fact)) (S : List (Tmp × Value)) (hm : P.follows .mixedOrders = true) (hB : fitsB F a.tmps.size l = true) (hSF : (S.all fun q => !(F.map (·.1)).contains q.1) = true) (hS : SOk a.tmps S) (h : InvAll P S w F l F)
    (hend : ∀ (T : Array Value) (x : Bel w), T.size = a.tmps.size → (∀ t, (F.map (·.1)).contains t = false → T[t]? = a.tmps[t]?) → (∀ (j : Nat) q, F[j]? = some q → q.2.of (T.getD q.1 undef) x.w) → Q .normal ⟨T, a.defers⟩ x.w) :
    (Code.region id l.toArray true).wp P Q a w := by
  refine wp_region_any hm ?_
  refine any_inv F S hB hSF hS h hend _ _ _ _ (by simp) ?_ ⟨rfl, fun _ _ => rfl, fun j q _ hj => ?_, ⟨rfl, rfl, rfl, Nat.le_refl _, fun _ _ => rfl⟩⟩
  · simp [unl, List.countP_replicate]
  · rw [Array.getD_eq_getD_getElem?] at hj
    simp only [Array.getElem?_replicate] at hj
    split at hj <;> simp at hj
end
end Go.Proofs.YtlnedapimmabdaaGreatDoor
