/- A region that draws its order and makes variables of its own beside calls: the variables may be made at any time ahead of the forced tail. One walk, in the order of the text; what stands behind is asked for whatever blocks the variables have got. -/
import Derived.Test.YtjojdkdpdlmahaaDoorTail
namespace Go.Proofs.YtjojdkdpdlmahaaDoor
open Go.RowKit

section
variable {P : Program} {ops : Array Oper} {md : Region.Mode} {W : World}

/-- The operation makes a variable. -/
def Oper.floats (o : Oper) : Bool := match o.op with | .alloc _ => true | _ => false

/-- The operation, in a world, yields v and leaves the world, or calls a function that returns v and leaves all that lay there as it lay. -/
def yieldsR (P : Program) (w : World) (v : Value) : Result Next → Prop
  | .ok (.value u) w' => w' = w ∧ u = v
  | .ok .skip w' => w' = w ∧ v = undef
  | .ok (.enter f args) w' => w' = w ∧ Calls P f args w (Ret v w)
  | _ => False
def Oper.calm (P : Program) (o : Oper) (a : Act) (W : World) (K : Act → Prop) : Prop := ∃ v, (∀ x : Bel W, yieldsR P x.w v ((execOp a.eval o).run P x.w)) ∧ K (a.put o.dst v)

def floatOp (P : Program) (ops : Array Oper) (W : World) (o : Oper) (K : Act → Prop) (a : Act) : Prop :=
  if Oper.floats o then K a else if Region.wanted o (yielded ops a.tmps) then Oper.calm P o a W K else K (a.put o.dst undef)

def wpFloat (P : Program) (ops : Array Oper) (W : World) (Q : Act → Prop) : List Oper → Act → Prop
  | [], a => Q a
  | o :: rest, a => floatOp P ops W o (wpFloat P ops W Q rest) a
theorem wpFloat_nil {Q : Act → Prop} {a : Act} (h : Q a) : wpFloat P ops W Q [] a := h
theorem floatOp_mono {o : Oper} {a : Act} {K K' : Act → Prop} (h : ∀ a, K a → K' a) (hh : floatOp P ops W o K a) : floatOp P ops W o K' a := by
  unfold floatOp at *
  split
  · rename_i hf; rw [if_pos hf] at hh; exact h _ hh
  · rename_i hf
    rw [if_neg hf] at hh
    split
    · rename_i hw
      rw [if_pos hw] at hh
      exact hh.imp fun v hv => ⟨hv.1, h _ hv.2⟩
    · rename_i hw
      rw [if_neg hw] at hh
      exact h _ hh
theorem wpFloat_step {Q : Act → Prop} {a : Act} {o : Oper} {rest : List Oper} (h : ∀ K : Act → Prop, (∀ a, wpFloat P ops W Q rest a → K a) → floatOp P ops W o K a) : wpFloat P ops W Q (o :: rest) a := h _ fun _ h => h

def floatAt (P : Program) (ops : Array Oper) (W : World) (i : Nat) (K : Act → Prop) (a : Act) : Prop :=
  match ops[i]? with
  | none => K a
  | some o => floatOp P ops W o K a
theorem floatAt_mono {i : Nat} {a : Act} {K K' : Act → Prop} (h : ∀ a, K a → K' a) (hh : floatAt P ops W i K a) : floatAt P ops W i K' a := by
  unfold floatAt at *
  split
  · exact h _ (by simpa [*] using hh)
  · rename_i o ho
    simp only [ho] at hh
    exact floatOp_mono h hh

/-- The head's operations, in whatever order; behind them L. -/
def headF (P : Program) (md : Region.Mode) (ops : Array Oper) (W : World) (n : Nat) (L : Array Bool → Act → Prop) : Nat → Array Bool → Act → Prop
  | 0, listed, a => L listed a
  | f + 1, listed, a => Region.ready md ops listed ≠ [] ∧ ∀ i ∈ Region.ready md ops listed, i < n ∧ floatAt P ops W i (headF P md ops W n L f (listed.setIfInBounds i true)) a

/-- What an operation does to the frame, as the walk of the text has it. -/
inductive Does (P : Program) (ops : Array Oper) (W : World) (o : Oper) (a : Act) : Option Value → Prop
  | floats : Oper.floats o = true → Does P ops W o a none
  | calm (v : Value) : Oper.floats o = false → Region.wanted o (yielded ops a.tmps) = true → (∀ x : Bel W, yieldsR P x.w v ((execOp a.eval o).run P x.w)) → Does P ops W o a (some v)
  | over : Oper.floats o = false → Region.wanted o (yielded ops a.tmps) = false → Does P ops W o a (some undef)
def effect (a : Act) (dst : Option Tmp) : Option Value → Act
  | none => a
  | some v => a.put dst v

theorem does_of_floatOp {o : Oper} {a : Act} {K : Act → Prop} (h : floatOp P ops W o K a) : ∃ u, Does P ops W o a u ∧ K (effect a o.dst u) := by
  unfold floatOp at h
  by_cases hf : Oper.floats o = true
  · rw [if_pos hf] at h
    exact ⟨none, .floats hf, h⟩
  · rw [if_neg hf] at h
    by_cases hw : Region.wanted o (yielded ops a.tmps) = true
    · rw [if_pos hw] at h
      obtain ⟨v, h1, h2⟩ := h
      exact ⟨some v, .calm v (by simpa using hf) hw h1, h2⟩
    · rw [if_neg hw] at h
      exact ⟨some undef, .over (by simpa using hf) (by simpa using hw), h⟩
theorem Does.op {o : Oper} {a : Act} {u : Option Value} (h : Does P ops W o a u) {K : Act → Prop} (hk : K (effect a o.dst u)) : floatOp P ops W o K a := by
  unfold floatOp
  cases h with
  | floats hf => rw [if_pos hf]; exact hk
  | calm v hf hw hv => rw [if_neg (by rw [hf]; exact Bool.false_ne_true), if_pos hw]; exact ⟨v, hv, hk⟩
  | over hf hw => rw [if_neg (by rw [hf]; exact Bool.false_ne_true), if_neg (by rw [hw]; exact Bool.false_ne_true)]; exact hk
theorem Does.put {oi oj : Oper} {a : Act} {u w : Option Value} (hap : oi.apart ops oj = true) (hsi : ∀ cs b, oi.op ≠ .select cs b) (h : Does P ops W oi a u) : Does P ops W oi (effect a oj.dst w) u := by
  cases w with
  | none => exact h
  | some x =>
    obtain ⟨h1, h2, h3⟩ := Oper.apart_spec hap
    have e1 := execOp_put (ops := ops) oi hsi a oj.dst x h3
    have e2 := wanted_put (ops := ops) oi a oj.dst x h3
    cases h with
    | floats hf => exact .floats hf
    | calm v hf hw hv => exact .calm v hf (e2.trans hw) (fun y => by show yieldsR P y.w v ((execOp (a.put oj.dst x).eval oi).run P y.w); rw [e1]; exact hv y)
    | over hf hw => exact .over hf (e2.trans hw)
theorem Does.unput {oi oj : Oper} {a : Act} {u w : Option Value} (hap : oi.apart ops oj = true) (hsj : ∀ cs b, oj.op ≠ .select cs b) (h : Does P ops W oj (effect a oi.dst u) w) : Does P ops W oj a w := by
  cases u with
  | none => exact h
  | some x =>
    obtain ⟨h1, h2, h3⟩ := Oper.apart_spec hap
    have e1 := execOp_put (ops := ops) oj hsj a oi.dst x h1
    have e2 := wanted_put (ops := ops) oj a oi.dst x h1
    cases h with
    | floats hf => exact .floats hf
    | calm v hf hw hv => exact .calm v hf (e2.symm.trans hw) (fun y => by have := hv y; simp only [effect] at this; rw [e1] at this; exact this)
    | over hf hw => exact .over hf (e2.symm.trans hw)
theorem effect_comm {oi oj : Oper} {a : Act} {u w : Option Value} (hap : oi.apart ops oj = true) : effect (effect a oi.dst u) oj.dst w = effect (effect a oj.dst w) oi.dst u := by
  obtain ⟨h1, h2, h3⟩ := Oper.apart_spec hap
  cases u <;> cases w <;> simp only [effect]
  exact Act.put_comm a _ _ h2

theorem headF_first {n i : Nat} {oi : Oper} {u : Option Value} {L : Array Bool → Act → Prop} (hi : ops[i]? = some oi) (hsel : ∀ (j : Nat) (o : Oper) cs b, ops[j]? = some o → o.op ≠ .select cs b)
    (hs : Region.sinkB md ops n = true) (hc : Region.chainB md ops n = true) (hn : n < ops.size) (hin : i < n) (hdone : ∀ listed a, L listed a → ∀ j ∈ Region.ready md ops listed, n ≤ j) (f : Nat) :
    ∀ (listed : Array Bool) (a : Act), HeadInv md ops n listed →
      (∀ j oj, ops[j]? = some oj → j ≠ i → listed.getD j true = false → (∀ e ∈ oj.after, Region.binds md e = true → e.on ≠ i) → oi.apart ops oj = true) →
      i ∈ Region.ready md ops listed → Does P ops W oi a u →
      headF P md ops W n L f (listed.setIfInBounds i true) (effect a oi.dst u) → headF P md ops W n L (f + 1) listed a := by
  have below : ∀ {listed : Array Bool}, HeadInv md ops n listed → i ∈ Region.ready md ops listed → ∀ j ∈ Region.ready md ops listed, j < n := fun inv hr j hj =>
    Nat.lt_of_not_le fun h => tail_waits hs hc hn inv _ i rfl hin (mem_ready.1 hr).1 j h hj
  have own : ∀ {listed : Array Bool} {a : Act} {f : Nat}, Does P ops W oi a u → headF P md ops W n L f (listed.setIfInBounds i true) (effect a oi.dst u) → floatAt P ops W i (headF P md ops W n L f (listed.setIfInBounds i true)) a := fun hy H => by
    unfold floatAt
    simp only [hi]
    exact hy.op H
  induction f with
  | zero =>
    intro listed a inv _ hr hy H
    refine ⟨fun h => (by rw [h] at hr; cases hr), fun j hj => ⟨below inv hr j hj, ?_⟩⟩
    by_cases hji : j = i
    · subst hji
      exact own hy H
    · have h1 := hdone _ _ H j (ready_mono hj hji)
      have h2 := below inv hr j hj
      omega
  | succ f ih =>
    intro listed a inv hfree hr hy H
    refine ⟨fun h => (by rw [h] at hr; cases hr), fun j hj => ⟨below inv hr j hj, ?_⟩⟩
    by_cases hji : j = i
    · subst hji
      exact own hy H
    · have h1 := (H.2 j (ready_mono hj hji)).2
      obtain ⟨hjun, oj, hoj, hall⟩ := mem_ready.1 hj
      have hun := (mem_ready.1 hr).1
      have hnot : ∀ e ∈ oj.after, Region.binds md e = true → e.on ≠ i := fun e he hb heq => by
        have h3 := hall e he hb
        rw [heq, getD_both hun] at h3
        cases h3
      have hap := hfree j oj hoj hji hjun hnot
      unfold floatAt at h1 ⊢
      simp only [hoj] at h1 ⊢
      obtain ⟨w, hd, hk⟩ := does_of_floatOp h1
      refine (hd.unput hap (fun cs b => hsel j oj cs b hoj)).op ?_
      refine ih (listed.setIfInBounds j true) _ (inv.set hj (below inv hr j hj)) (fun k ok hk hki hkn hno => hfree k ok hk hki ?_ hno) (ready_mono hr (Ne.symm hji)) (hy.put hap (fun cs b => hsel i oi cs b hi)) ?_
      · by_cases hjk : j = k
        · subst hjk; exact hjun
        · rwa [getD_set_ne true hjk] at hkn
      · rw [Array.setIfInBounds_comm _ _ hji, ← effect_comm hap]
        exact hk

theorem headF_lex {n g : Nat} {Lq : Act → Prop} (hsel : Region.noSelect ops = true) (hs : Region.sinkB md ops n = true) (hc : Region.chainB md ops n = true) (hn : n < ops.size) (l : List Oper) :
    ∀ (k : Nat) (listed : Array Bool) (a : Act), (∀ j, j < l.length → l[j]? = ops[k + j]?) → k + l.length = n → HeadInv md ops n listed →
    Region.lexHead md ops g l.length k listed = true → wpFloat P ops W Lq l a → headF P md ops W n (fun listed' a' => Region.seqB md ops g n listed' = true ∧ Lq a') l.length listed a := by
  induction l with
  | nil =>
    intro k listed a _ hk _ hB h
    obtain rfl : k = n := by simpa using hk
    exact ⟨by simpa [Region.lexHead] using hB, h⟩
  | cons o l ih =>
    intro k listed a hl hk inv hB h
    have h0 : ops[k]? = some o := by simpa using (hl 0 (by simp)).symm
    simp only [List.length_cons, Region.lexHead, Bool.and_eq_true] at hB hk
    obtain ⟨⟨hr, hf⟩, hB'⟩ := hB
    have hr' : k ∈ Region.ready md ops listed := by simpa using hr
    obtain ⟨u, hy, hK⟩ := does_of_floatOp (K := wpFloat P ops W Lq l) h
    exact headF_first h0 (Region.noSelect_spec hsel) hs hc hn (by omega) (fun _ _ hL => seqB_ready hL.1) l.length listed a inv (Region.free_spec h0 hf) hr' hy
      (ih (k + 1) _ _ (fun j hj => by have := hl (j + 1) (by simp; omega); simpa [Nat.add_assoc, Nat.add_comm 1 j] using this) (by omega) (inv.set hr' (by omega)) hB' hK)
end
end Go.Proofs.YtjojdkdpdlmahaaDoor
