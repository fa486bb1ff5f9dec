/- A region that draws its order: operations that read, and calls that leave all that lay there as it lay, in whatever order; and among them operations that make memory, each of which stands alone when its turn comes. One walk, in an order of one's own. -/
import Derived.Test.YtkbellmhanpocaaDoorTail
namespace Go.Proofs.YtkbellmhanpocaaDoor
set_option linter.unusedVariables false
set_option linter.unusedSimpArgs false
open Go.RowKit

section
variable {P : Program} {ops : Array Oper} {md : Region.Mode}

/-- The operation, in a world, yields v and leaves the world, or calls a function that returns v and leaves all that lay there as it lay. -/
def yieldsC (P : Program) (w : World) (v : Value) : Result Next → Prop
  | .ok (.value u) w' => w' = w ∧ u = v
  | .ok .skip w' => w' = w ∧ v = undef
  | .ok (.enter f args) w' => w' = w ∧ Calls P f args w (Ret v w)
  | _ => False
/-- The operation, in a world, makes memory beside what lay there. -/
def grows (P : Program) (w : World) (K : Value → World → Prop) : Result Next → Prop
  | .ok (.value v) w' => Below w.heap.size w w' ∧ K v w'
  | .ok .skip w' => Below w.heap.size w w' ∧ K undef w'
  | .ok (.enter f args) w' => w' = w ∧ Calls P f args w fun e w'' => ∃ v, e = .returned v ∧ Below w.heap.size w w'' ∧ K v w''
  | _ => False
theorem grows_mono {w : World} {K K' : Value → World → Prop} {r : Result Next} (h : ∀ v w', Below w.heap.size w w' → K v w' → K' v w') (hg : grows P w K r) : grows P w K' r := by
  cases r with
  | ok nx w' =>
    cases nx <;> simp only [grows] at hg ⊢
    case value v => exact ⟨hg.1, h _ _ hg.1 hg.2⟩
    case skip => exact ⟨hg.1, h _ _ hg.1 hg.2⟩
    case enter f args => exact ⟨hg.1, hg.2.mono fun _ _ ⟨v, h1, h2, h3⟩ => ⟨v, h1, h2, h _ _ h2 h3⟩⟩
  | halt x w' => simp only [grows] at hg

def calmOp (P : Program) (ops : Array Oper) (o : Oper) (K : Act → World → Prop) (a : Act) (W : World) : Prop :=
  if Region.wanted o (yielded ops a.tmps) then ∃ v, (∀ x : Bel W, yieldsC P x.w v ((execOp a.eval o).run P x.w)) ∧ K (a.put o.dst v) W else K (a.put o.dst undef) W
def chainOp (P : Program) (ops : Array Oper) (o : Oper) (K : Act → World → Prop) (a : Act) (W : World) : Prop :=
  if Region.wanted o (yielded ops a.tmps) then ∀ x : Bel W, grows P x.w (fun v w' => K (a.put o.dst v) w') ((execOp a.eval o).run P x.w) else K (a.put o.dst undef) W
/-- A walk: calm operations, and forks, at which only operations that make memory can stand next. -/
inductive Walk where
  | tail
  | none
  | calm (o : Oper) (p : Walk)
  | fork (o : Oper) (p q : Walk)
/-- The walk's claim. -/
def wpX (P : Program) (ops : Array Oper) (Q : Act → World → Prop) : Walk → Act → World → Prop
  | .tail, a, W => Q a W
  | .none, _, _ => True
  | .calm o p, a, W => calmOp P ops o (wpX P ops Q p) a W
  | .fork o p q, a, W => chainOp P ops o (wpX P ops Q p) a W ∧ wpX P ops Q q a W
theorem wpX_tail {Q : Act → World → Prop} {a : Act} {W : World} (h : Q a W) : wpX P ops Q .tail a W := h
theorem wpX_none {Q : Act → World → Prop} {a : Act} {W : World} : wpX P ops Q .none a W := trivial
theorem wpX_calm {Q : Act → World → Prop} {a : Act} {W : World} {o : Oper} {p : Walk} (h : ∀ K : Act → World → Prop, (∀ a W, wpX P ops Q p a W → K a W) → calmOp P ops o K a W) : wpX P ops Q (.calm o p) a W := h _ fun _ _ h => h
theorem wpX_fork {Q : Act → World → Prop} {a : Act} {W : World} {o : Oper} {p q : Walk} (h : ∀ K : Act → World → Prop, (∀ a W, wpX P ops Q p a W → K a W) → chainOp P ops o K a W) (h' : wpX P ops Q q a W) : wpX P ops Q (.fork o p q) a W := ⟨h _ fun _ _ h => h, h'⟩
theorem wpX_only {Q : Act → World → Prop} {a : Act} {W : World} {o : Oper} {p : Walk} (h : ∀ K : Act → World → Prop, (∀ a W, wpX P ops Q p a W → K a W) → chainOp P ops o K a W) : wpX P ops Q (.fork o p .none) a W := ⟨h _ fun _ _ h => h, trivial⟩

/-- What an operation does that leaves the world. -/
inductive Calm (P : Program) (ops : Array Oper) (o : Oper) (a : Act) (W : World) : Value → Prop
  | calm (v : Value) : Region.wanted o (yielded ops a.tmps) = true → (∀ x : Bel W, yieldsC P x.w v ((execOp a.eval o).run P x.w)) → Calm P ops o a W v
  | over : Region.wanted o (yielded ops a.tmps) = false → Calm P ops o a W undef
theorem calm_of {o : Oper} {K : Act → World → Prop} {a : Act} {W : World} (h : calmOp P ops o K a W) : ∃ v, Calm P ops o a W v ∧ K (a.put o.dst v) W := by
  unfold calmOp at h
  split at h
  · obtain ⟨v, h1, h2⟩ := h
    exact ⟨v, .calm v (by assumption) h1, h2⟩
  · rename_i hn
    exact ⟨undef, .over (Bool.eq_false_iff.2 hn), h⟩
theorem Calm.later {o : Oper} {a : Act} {W W' : World} {v : Value} (h : Calm P ops o a W v) (hb : Below W.heap.size W W') : Calm P ops o a W' v := by
  cases h with
  | calm v hw hv => exact .calm v hw fun x => hv ⟨x.w, hb.trans (x.below.mono hb.size)⟩
  | over hw => exact .over hw
theorem Calm.put {oi oj : Oper} {a : Act} {W : World} {v x : Value} (hap : oi.apart ops oj = true) (hsi : ∀ cs b, oi.op ≠ .select cs b) (h : Calm P ops oi a W v) : Calm P ops oi (a.put oj.dst x) W v := by
  obtain ⟨h1, h2, h3⟩ := Oper.apart_spec hap
  have e1 := execOp_put (ops := ops) oi hsi a oj.dst x h3
  have e2 := wanted_put (ops := ops) oi a oj.dst x h3
  cases h with
  | calm v hw hv => exact .calm v (e2.trans hw) (fun y => by rw [e1]; exact hv y)
  | over hw => exact .over (e2.trans hw)

/-- A step of the region in a class of worlds. -/
inductive DoesX (P : Program) (ops : Array Oper) (o : Oper) (K : Act → World → Prop) (a : Act) (W : World) : Prop
  | calm (v : Value) : Calm P ops o a W v → K (a.put o.dst v) W → DoesX P ops o K a W
  | chain : Region.wanted o (yielded ops a.tmps) = true → (∀ x : Bel W, grows P x.w (fun v w' => K (a.put o.dst v) w') ((execOp a.eval o).run P x.w)) → DoesX P ops o K a W
theorem doesX_of_chain {o : Oper} {K : Act → World → Prop} {a : Act} {W : World} (h : chainOp P ops o K a W) : DoesX P ops o K a W := by
  unfold chainOp at h
  split at h
  · exact .chain (by assumption) h
  · rename_i hn
    exact .calm undef (.over (Bool.eq_false_iff.2 hn)) h
theorem DoesX.mono {o : Oper} {K K' : Act → World → Prop} {a : Act} {W : World} (hk : ∀ a W, K a W → K' a W) (h : DoesX P ops o K a W) : DoesX P ops o K' a W := by
  cases h with
  | calm v hv hK => exact .calm v hv (hk _ _ hK)
  | chain hw hg => exact .chain hw fun x => grows_mono (fun _ _ _ h => hk _ _ h) (hg x)

/-- The head's operations, in whatever order; behind them L. -/
def headX (P : Program) (md : Region.Mode) (ops : Array Oper) (n : Nat) (L : Array Bool → Act → World → Prop) : Nat → Array Bool → Act → World → Prop
  | 0, listed, a, W => L listed a W
  | f + 1, listed, a, W => Region.ready md ops listed ≠ [] ∧ ∀ i ∈ Region.ready md ops listed, i < n ∧ ∃ o, ops[i]? = some o ∧ DoesX P ops o (headX P md ops n L f (listed.setIfInBounds i true)) a W

theorem headX_first {n i : Nat} {oi : Oper} {v : Value} {L : Array Bool → Act → World → Prop} (hi : ops[i]? = some oi) (hsel : ∀ (j : Nat) (o : Oper) cs b, ops[j]? = some o → o.op ≠ .select cs b)
    (hs : Region.sinkB md ops n = true) (hc : Region.chainB md ops n = true) (hn : n < ops.size) (hin : i < n) (hdone : ∀ listed a W, L listed a W → ∀ j ∈ Region.ready md ops listed, n ≤ j) (f : Nat) :
    ∀ (listed : Array Bool) (a : Act) (W : World), HeadInv md ops n listed →
      (∀ j oj, ops[j]? = some oj → j ≠ i → listed.getD j true = false → (∀ e ∈ oj.after, Region.binds md e = true → e.on ≠ i) → oi.apart ops oj = true) →
      i ∈ Region.ready md ops listed → Calm P ops oi a W v →
      headX P md ops n L f (listed.setIfInBounds i true) (a.put oi.dst v) W → headX P md ops n L (f + 1) listed a W := by
  have below : ∀ {listed : Array Bool}, HeadInv md ops n listed → i ∈ Region.ready md ops listed → ∀ j ∈ Region.ready md ops listed, j < n := fun inv hr j hj =>
    Nat.lt_of_not_le fun h => tail_waits hs hc hn inv _ i rfl hin (mem_ready.1 hr).1 j h hj
  induction f with
  | zero =>
    intro listed a W inv _ hr hy H
    refine ⟨fun h => (by rw [h] at hr; cases hr), fun j hj => ⟨below inv hr j hj, ?_⟩⟩
    by_cases hji : j = i
    · subst hji
      exact ⟨oi, hi, .calm v hy H⟩
    · have h1 := hdone _ _ _ H j (ready_mono hj hji)
      have h2 := below inv hr j hj
      omega
  | succ f ih =>
    intro listed a W inv hfree hr hy H
    refine ⟨fun h => (by rw [h] at hr; cases hr), fun j hj => ⟨below inv hr j hj, ?_⟩⟩
    by_cases hji : j = i
    · subst hji
      exact ⟨oi, hi, .calm v hy H⟩
    · obtain ⟨_, oj, hoj, hd⟩ := H.2 j (ready_mono hj hji)
      obtain ⟨hjun, oj', hoj', hall⟩ := mem_ready.1 hj
      obtain rfl : oj' = oj := Option.some.inj (hoj'.symm.trans hoj)
      have hun := (mem_ready.1 hr).1
      have hnot : ∀ e ∈ oj'.after, Region.binds md e = true → e.on ≠ i := fun e he hb heq => by
        have h3 := hall e he hb
        rw [heq, getD_both hun] at h3
        cases h3
      have hap := hfree j oj' hoj hji hjun hnot
      obtain ⟨p1, p2, p3⟩ := Oper.apart_spec hap
      have e1 := execOp_put (ops := ops) oj' (fun cs b => hsel j oj' cs b hoj) a oi.dst v p1
      have e2 := wanted_put (ops := ops) oj' a oi.dst v p1
      have step : ∀ (u : Value) (W' : World), Below W.heap.size W W' → headX P md ops n L f ((listed.setIfInBounds i true).setIfInBounds j true) ((a.put oi.dst v).put oj'.dst u) W' →
          headX P md ops n L (f + 1) (listed.setIfInBounds j true) (a.put oj'.dst u) W' := fun u W' hb hk => by
        refine ih (listed.setIfInBounds j true) _ _ (inv.set hj (below inv hr j hj)) (fun k ok hk hki hkn hno => hfree k ok hk hki ?_ hno) (ready_mono hr (Ne.symm hji)) ((hy.later hb).put hap (fun cs b => hsel i oi cs b hi)) ?_
        · by_cases hjk : j = k
          · subst hjk; exact hjun
          · rwa [getD_set_ne true hjk] at hkn
        · rw [Array.setIfInBounds_comm _ _ hji, ← Act.put_comm a _ _ p2]
          exact hk
      refine ⟨oj', hoj, ?_⟩
      cases hd with
      | calm u hu hk =>
        have hu' : Calm P ops oj' a W u := by
          cases hu with
          | calm u hw hv => exact .calm u (e2.symm.trans hw) (fun y => by have := hv y; rw [e1] at this; exact this)
          | over hw => exact .over (e2.symm.trans hw)
        exact .calm u hu' (step u W (Below.refl _ _) hk)
      | chain hw hg =>
        refine .chain (e2.symm.trans hw) fun x => ?_
        have := hg x
        rw [e1] at this
        exact grows_mono (fun u w' hb hk => step u w' (x.below.trans (hb.mono x.size_le)) hk) this

/-- A plan: the walk by the operations' numbers. -/
inductive Plan where
  | tail
  | none
  | calm (k : Nat) (p : Plan)
  | fork (k : Nat) (p q : Plan)
def Plan.keys : Plan → List Nat
  | .fork k _ q => k :: q.keys
  | _ => []
def operAt (l : List Oper) (k : Nat) : Oper := (l[k]?).getD ⟨none, .move (.tmp 0), 0, "", #[], none⟩
def Plan.walk (l : List Oper) : Plan → Walk
  | .tail => .tail
  | .none => .none
  | .calm k p => .calm (operAt l k) (p.walk l)
  | .fork k p q => .fork (operAt l k) (p.walk l) (q.walk l)
/-- The plan fits: each calm operation is ready and apart from what may stand ahead of it; at a fork just its operations are ready. m: how many operations are left; b: inside a fork. -/
def Plan.fits (md : Region.Mode) (ops : Array Oper) (g n : Nat) : Plan → Bool → Nat → Array Bool → Bool
  | .tail, b, m, listed => !b && m == 0 && Region.seqB md ops g n listed
  | .none, b, _, _ => b
  | .calm k p, b, m, listed => !b && (Region.ready md ops listed).contains k && Region.free md ops listed k && decide (k < n) && decide (0 < m) && p.fits md ops g n false (m - 1) (listed.setIfInBounds k true)
  | .fork k p q, b, m, listed => (b || decide (Region.ready md ops listed = k :: q.keys)) && decide (0 < m) && decide (k < n) && p.fits md ops g n false (m - 1) (listed.setIfInBounds k true) && q.fits md ops g n true m listed

theorem headX_plan {n g : Nat} {l : List Oper} {Lq : Act → World → Prop} (hl : ops = l.toArray) (hsel : Region.noSelect ops = true) (hs : Region.sinkB md ops n = true) (hc : Region.chainB md ops n = true) (hn : n < ops.size) (p : Plan) :
    ∀ (m : Nat) (listed : Array Bool) (a : Act) (W : World), HeadInv md ops n listed → wpX P ops Lq (p.walk l) a W →
    (p.fits md ops g n false m listed = true → headX P md ops n (fun listed' a' W' => Region.seqB md ops g n listed' = true ∧ Lq a' W') m listed a W) ∧
    (p.fits md ops g n true m listed = true → (∀ k ∈ p.keys, k ∈ Region.ready md ops listed) → ∀ k ∈ p.keys, k < n ∧ ∃ o, ops[k]? = some o ∧
      DoesX P ops o (headX P md ops n (fun listed' a' W' => Region.seqB md ops g n listed' = true ∧ Lq a' W') (m - 1) (listed.setIfInBounds k true)) a W) := by
  have hoper : ∀ k, k < n → ops[k]? = some (operAt l k) := fun k hkn => by
    have hk : k < l.length := by rw [hl] at hn; simp at hn; omega
    unfold operAt
    rw [hl]; simp [hk]
  induction p with
  | tail =>
    intro m listed a W inv h
    refine ⟨fun hf => ?_, fun hf => by simp [Plan.fits] at hf⟩
    simp only [Plan.fits, Bool.not_false, Bool.true_and, Bool.and_eq_true, beq_iff_eq] at hf
    rw [hf.1]
    exact ⟨hf.2, h⟩
  | none =>
    intro m listed a W inv h
    exact ⟨fun hf => by simp [Plan.fits] at hf, fun _ _ k hk => by simp [Plan.keys] at hk⟩
  | calm k p ih =>
    intro m listed a W inv h
    refine ⟨fun hf => ?_, fun hf => by simp [Plan.fits] at hf⟩
    simp only [Plan.fits, Bool.not_false, Bool.true_and, Bool.and_eq_true, decide_eq_true_eq] at hf
    obtain ⟨⟨⟨⟨hr, hfree⟩, hkn⟩, hm⟩, hp⟩ := hf
    have hr' : k ∈ Region.ready md ops listed := by simpa using hr
    obtain ⟨v, hv, hK⟩ := calm_of (show calmOp P ops (operAt l k) (wpX P ops Lq (p.walk l)) a W from h)
    have := (ih (m - 1) _ _ _ (inv.set hr' hkn) hK).1 hp
    obtain ⟨m', rfl⟩ : ∃ m', m = m' + 1 := ⟨m - 1, by omega⟩
    exact headX_first (hoper k hkn) (Region.noSelect_spec hsel) hs hc hn hkn (fun _ _ _ hL => seqB_ready hL.1) m' listed a W inv (Region.free_spec (hoper k hkn) hfree) hr' hv this
  | fork k p q ihp ihq =>
    intro m listed a W inv h
    obtain ⟨h1, h2⟩ := (show chainOp P ops (operAt l k) (wpX P ops Lq (p.walk l)) a W ∧ wpX P ops Lq (q.walk l) a W from h)
    have both : ∀ b, (Plan.fork k p q).fits md ops g n b m listed = true → (∀ k' ∈ (Plan.fork k p q).keys, k' ∈ Region.ready md ops listed) → ∀ k' ∈ (Plan.fork k p q).keys, k' < n ∧ ∃ o, ops[k']? = some o ∧
        DoesX P ops o (headX P md ops n (fun listed' a' W' => Region.seqB md ops g n listed' = true ∧ Lq a' W') (m - 1) (listed.setIfInBounds k' true)) a W := fun b hf hall k' hk' => by
      simp only [Plan.fits, Bool.and_eq_true, decide_eq_true_eq] at hf
      obtain ⟨⟨⟨⟨_, hm⟩, hkn⟩, hp⟩, hq⟩ := hf
      have hall' : k ∈ Region.ready md ops listed ∧ ∀ k' ∈ q.keys, k' ∈ Region.ready md ops listed := ⟨hall k (by simp [Plan.keys]), fun k' h => hall k' (by simp [Plan.keys, h])⟩
      rcases (show k' = k ∨ k' ∈ q.keys by simpa [Plan.keys] using hk') with rfl | hk'
      · exact ⟨hkn, _, hoper k' hkn, (doesX_of_chain h1).mono fun a' W' h' => (ihp _ _ _ _ (inv.set hall'.1 hkn) h').1 hp⟩
      · exact (ihq m listed a W inv h2).2 hq hall'.2 k' hk'
    refine ⟨fun hf => ?_, both true⟩
    have hf' := hf
    simp only [Plan.fits, Bool.false_or, Bool.and_eq_true, decide_eq_true_eq] at hf'
    obtain ⟨⟨⟨⟨hr, hm⟩, hkn⟩, _⟩, _⟩ := hf'
    obtain ⟨m', rfl⟩ : ∃ m', m = m' + 1 := ⟨m - 1, by omega⟩
    refine ⟨fun h0 => (by rw [hr] at h0; cases h0), fun i hi => ?_⟩
    exact both false hf (fun k' hk' => by rw [hr]; exact hk') i (by rw [hr] at hi; exact hi)

theorem any_of_headX {n g : Nat} {L : Array Bool → Act → World → Prop} {Q : Exit → Act → World → Prop} (hL : ∀ listed a W (x : Bel W), L listed a W → wpAny P md ops Q g listed a x.w) (f : Nat) :
    ∀ (listed : Array Bool) (a : Act) (W : World) (x : Bel W), headX P md ops n L f listed a W → wpAny P md ops Q (f + g) listed a x.w := by
  induction f with
  | zero => intro listed a W x h; rw [Nat.zero_add]; exact hL _ _ _ x h
  | succ f ih =>
    intro listed a W x h
    rw [show f + 1 + g = (f + g) + 1 by omega]
    refine ⟨fun h0 => absurd h0 h.1, fun i hi => ?_⟩
    obtain ⟨_, o, ho, hd⟩ := h.2 i hi
    unfold wpOp
    simp only [ho]
    cases hd with
    | calm v hv hk =>
      cases hv with
      | over hw => rw [if_neg (by rw [hw]; exact Bool.false_ne_true)]; exact ih _ _ _ x hk
      | calm v hw hy =>
        rw [if_pos hw]
        refine .inl ?_
        unfold Oper.wp
        have h3 := hy x
        generalize (execOp a.eval o).run P x.w = r at *
        cases r with
        | ok nx w' =>
          cases nx <;> simp only [yieldsC] at h3 <;> simp only [Oper.upon]
          case value u => obtain ⟨rfl, rfl⟩ := h3; exact ih _ _ _ x hk
          case skip => obtain ⟨rfl, rfl⟩ := h3; exact ih _ _ _ x hk
          case enter fn args =>
            obtain ⟨rfl, hcl⟩ := h3
            refine hcl.mono fun e w'' ⟨he, y, hy'⟩ => ?_
            subst he hy'
            exact ih _ _ _ ⟨y.w, x.below.trans (y.below.mono x.size_le)⟩ hk
        | halt y w' => simp only [yieldsC] at h3
    | chain hw hg =>
      rw [if_pos hw]
      refine .inl ?_
      unfold Oper.wp
      have h3 := hg x
      generalize (execOp a.eval o).run P x.w = r at *
      cases r with
      | ok nx w' =>
        cases nx <;> simp only [grows] at h3 <;> simp only [Oper.upon]
        case value u => exact ih _ _ w' ⟨w', Below.refl _ _⟩ h3.2
        case skip => exact ih _ _ w' ⟨w', Below.refl _ _⟩ h3.2
        case enter fn args =>
          obtain ⟨rfl, hcl⟩ := h3
          refine hcl.mono fun e w'' ⟨u, he, _, hk⟩ => ?_
          subst he
          exact ih _ _ w'' ⟨w'', Below.refl _ _⟩ hk
      | halt y w' => simp only [grows] at h3

/-- The region: its first n operations by the plan, the others one behind the other. -/
theorem wp_region_plan {id : Nat} {Q : Exit → Act → World → Prop} {a : Act} {w : World} {l : List Oper} (n : Nat) (p : Plan) (hm : P.follows .mixedOrders = true)
    (hB : (Region.noSelect l.toArray && decide (n < l.length) && Region.sinkB .any l.toArray n && Region.chainB .any l.toArray n && p.fits .any l.toArray (l.length - n) n false n (Array.replicate l.length false)) = true)
    (h : wpX P l.toArray (fun a' W' => ∀ x : Bel W', wpList P l.toArray Q (l.drop n) a' x.w) (p.walk l) a w) : (Code.region id l.toArray true).wp P Q a w := by
  simp only [Bool.and_eq_true, decide_eq_true_eq] at hB
  obtain ⟨⟨⟨⟨hsel, hn⟩, hs⟩, hc⟩, hord⟩ := hB
  have hdl : (l.drop n).length = l.length - n := by simp
  have inv0 : HeadInv .any l.toArray n (Array.replicate l.length false) :=
    ⟨by simp, fun j oj _ hl => (by rw [getD_replicate_false] at hl; cases hl), fun t _ ht => getD_in (by simpa using ht) (getD_replicate_false _ _)⟩
  have H := (headX_plan (P := P) (md := .any) (g := l.length - n) rfl hsel hs hc (by simpa using hn) p n _ a w inv0 h).1 hord
  refine wp_region_any hm ?_
  have := any_of_headX (Q := Q) (g := l.length - n) (fun listed a' W' x hL => by
    have := wpAny_of_seq (md := .any) (Q' := Q) (l.drop n) n listed a' x.w (fun j => by simp [List.getElem?_drop]) (by rw [hdl]; exact hL.1) (hL.2 x)
    rwa [hdl] at this) _ _ _ w ⟨{ w with drawn := w.drawn + 1 }, ⟨rfl, rfl, rfl, Nat.le_refl _, fun _ _ => rfl⟩⟩ H
  rw [show n + (l.length - n) = l.toArray.size by simp; omega] at this
  simpa using this
end
end Go.Proofs.YtkbellmhanpocaaDoor
