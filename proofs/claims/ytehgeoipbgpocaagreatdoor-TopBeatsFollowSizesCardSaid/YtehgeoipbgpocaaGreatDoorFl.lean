/- A region that draws its order and makes variables of its own beside calls. -/
import Derived.Test.YtehgeoipbgpocaaGreatDoorCm
namespace Go.Proofs.YtehgeoipbgpocaaGreatDoor
set_option linter.unusedVariables false
set_option linter.unusedSimpArgs false
open Go.RowKit

section
variable {P : Program} {ops : Array Oper} {md : Region.Mode} {W : World}

/-- The operation makes a variable. -/
def Oper.floats (o : Oper) : Bool := match o.op with | .alloc _ => true | _ => false

/-- The operation, in a world, yields v and leaves the world, or calls a function that returns v and leaves all that lay there as it lay. -/
def yieldsR (P : Program) (w : World) (v : Value) : Result Next → Prop
  | .ok (.value u) w' => w' = w ∧ u = v
  | .ok .skip w' => w' = w ∧ v = undef
  | .ok (.enter f args) w' => w' = w ∧ Calls P f args w (Ret v w)
  | _ => False
def Oper.calm (P : Program) (o : Oper) (a : Act) (W : World) (K : Act → Prop) : Prop := ∃ v, (∀ x : Bel W, yieldsR P x.w v ((execOp a.eval o).run P x.w)) ∧ K (a.put o.dst v)

def floatOp (P : Program) (ops : Array Oper) (W : World) (o : Oper) (K : Act → Prop) (a : Act) : Prop :=
  if Oper.floats o then K a else if Region.wanted o (yielded ops a.tmps) then Oper.calm P o a W K else K (a.put o.dst undef)

def wpFloat (P : Program) (ops : Array Oper) (W : World) (Q : Act → Prop) : List Oper → Act → Prop
  | [], a => Q a
  | o :: rest, a => floatOp P ops W o (wpFloat P ops W Q rest) a
theorem wpFloat_nil {Q : Act → Prop} {a : Act} (h : Q a) : wpFloat P ops W Q [] a := h
theorem floatOp_mono {o : Oper} {a : Act} {K K' : Act → Prop} (h : ∀ a, K a → K' a) (hh : floatOp P ops W o K a) : floatOp P ops W o K' a := by
  unfold floatOp at *
  split
  · rename_i hf; rw [if_pos hf] at hh; exact h _ hh
  · rename_i hf
    rw [if_neg hf] at hh
    split
    · rename_i hw
      rw [if_pos hw] at hh
      exact hh.imp fun v hv => ⟨hv.1, h _ hv.2⟩
    · rename_i hw
      rw [if_neg hw] at hh
      exact h _ hh
theorem wpFloat_step {Q : Act → Prop} {a : Act} {o : Oper} {rest : List Oper} (h : ∀ K : Act → Prop, (∀ a, wpFloat P ops W Q rest a → K a) → floatOp P ops W o K a) : wpFloat P ops W Q (o :: rest) a := h _ fun _ h => h

def floatAt (P : Program) (ops : Array Oper) (W : World) (i : Nat) (K : Act → Prop) (a : Act) : Prop :=
  match ops[i]? with
  | none => K a
  | some o => floatOp P ops W o K a
theorem floatAt_mono {i : Nat} {a : Act} {K K' : Act → Prop} (h : ∀ a, K a → K' a) (hh : floatAt P ops W i K a) : floatAt P ops W i K' a := by
  unfold floatAt at *
  split
  · exact h _ (by simpa [*] using hh)
  · rename_i o ho
    simp only [ho] at hh
    exact floatOp_mono h hh

/-- The head's operations, in whatever order; behind them L. -/
def headFl (P : Program) (md : Region.Mode) (ops : Array Oper) (W : World) (n : Nat) (L : Array Bool → Act → Prop) : Nat → Array Bool → Act → Prop
  | 0, listed, a => L listed a
  | f + 1, listed, a => Region.ready md ops listed ≠ [] ∧ ∀ i ∈ Region.ready md ops listed, i < n ∧ floatAt P ops W i (headFl P md ops W n L f (listed.setIfInBounds i true)) a

/-- What an operation does to the frame, as the walk of the text has it. -/
inductive Does (P : Program) (ops : Array Oper) (W : World) (o : Oper) (a : Act) : Option Value → Prop
  | floats : Oper.floats o = true → Does P ops W o a none
  | calm (v : Value) : Oper.floats o = false → Region.wanted o (yielded ops a.tmps) = true → (∀ x : Bel W, yieldsR P x.w v ((execOp a.eval o).run P x.w)) → Does P ops W o a (some v)
  | over : Oper.floats o = false → Region.wanted o (yielded ops a.tmps) = false → Does P ops W o a (some undef)
def effect (a : Act) (dst : Option Tmp) : Option Value → Act
  | none => a
  | some v => a.put dst v

theorem does_of_floatOp {o : Oper} {a : Act} {K : Act → Prop} (h : floatOp P ops W o K a) : ∃ u, Does P ops W o a u ∧ K (effect a o.dst u) := by
  unfold floatOp at h
  by_cases hf : Oper.floats o = true
  · rw [if_pos hf] at h
    exact ⟨none, .floats hf, h⟩
  · rw [if_neg hf] at h
    by_cases hw : Region.wanted o (yielded ops a.tmps) = true
    · rw [if_pos hw] at h
      obtain ⟨v, h1, h2⟩ := h
      exact ⟨some v, .calm v (by simpa using hf) hw h1, h2⟩
    · rw [if_neg hw] at h
      exact ⟨some undef, .over (by simpa using hf) (by simpa using hw), h⟩
theorem Does.op {o : Oper} {a : Act} {u : Option Value} (h : Does P ops W o a u) {K : Act → Prop} (hk : K (effect a o.dst u)) : floatOp P ops W o K a := by
  unfold floatOp
  cases h with
  | floats hf => rw [if_pos hf]; exact hk
  | calm v hf hw hv => rw [if_neg (by rw [hf]; exact Bool.false_ne_true), if_pos hw]; exact ⟨v, hv, hk⟩
  | over hf hw => rw [if_neg (by rw [hf]; exact Bool.false_ne_true), if_neg (by rw [hw]; exact Bool.false_ne_true)]; exact hk
theorem Does.put {oi oj : Oper} {a : Act} {u w : Option Value} (hap : oi.apart ops oj = true) (hsi : ∀ cs b, oi.op ≠ .select cs b) (h : Does P ops W oi a u) : Does P ops W oi (effect a oj.dst w) u := by
  cases w with
  | none => exact h
  | some x =>
    obtain ⟨h1, h2, h3⟩ := Oper.apart_spec hap
    have e1 := execOp_put (ops := ops) oi hsi a oj.dst x h3
    have e2 := wanted_put (ops := ops) oi a oj.dst x h3
    cases h with
    | floats hf => exact .floats hf
    | calm v hf hw hv => exact .calm v hf (e2.trans hw) (fun y => by show yieldsR P y.w v ((execOp (a.put oj.dst x).eval oi).run P y.w); rw [e1]; exact hv y)
    | over hf hw => exact .over hf (e2.trans hw)
theorem Does.unput {oi oj : Oper} {a : Act} {u w : Option Value} (hap : oi.apart ops oj = true) (hsj : ∀ cs b, oj.op ≠ .select cs b) (h : Does P ops W oj (effect a oi.dst u) w) : Does P ops W oj a w := by
  cases u with
  | none => exact h
  | some x =>
    obtain ⟨h1, h2, h3⟩ := Oper.apart_spec hap
    have e1 := execOp_put (ops := ops) oj hsj a oi.dst x h1
    have e2 := wanted_put (ops := ops) oj a oi.dst x h1
    cases h with
    | floats hf => exact .floats hf
    | calm v hf hw hv => exact .calm v hf (e2.symm.trans hw) (fun y => by have := hv y; simp only [effect] at this; rw [e1] at this; exact this)
    | over hf hw => exact .over hf (e2.symm.trans hw)
theorem effect_comm {oi oj : Oper} {a : Act} {u w : Option Value} (hap : oi.apart ops oj = true) : effect (effect a oi.dst u) oj.dst w = effect (effect a oj.dst w) oi.dst u := by
  obtain ⟨h1, h2, h3⟩ := Oper.apart_spec hap
  cases u <;> cases w <;> simp only [effect]
  exact Act.put_comm a _ _ h2

theorem headFl_first {n i : Nat} {oi : Oper} {u : Option Value} {L : Array Bool → Act → Prop} (hi : ops[i]? = some oi) (hsel : ∀ (j : Nat) (o : Oper) cs b, ops[j]? = some o → o.op ≠ .select cs b)
    (hs : Region.sinkB md ops n = true) (hc : Region.chainB md ops n = true) (hn : n < ops.size) (hin : i < n) (hdone : ∀ listed a, L listed a → ∀ j ∈ Region.ready md ops listed, n ≤ j) (f : Nat) :
    ∀ (listed : Array Bool) (a : Act), HeadInv md ops n listed →
      (∀ j oj, ops[j]? = some oj → j ≠ i → listed.getD j true = false → (∀ e ∈ oj.after, Region.binds md e = true → e.on ≠ i) → oi.apart ops oj = true) →
      i ∈ Region.ready md ops listed → Does P ops W oi a u →
      headFl P md ops W n L f (listed.setIfInBounds i true) (effect a oi.dst u) → headFl P md ops W n L (f + 1) listed a := by
  have below : ∀ {listed : Array Bool}, HeadInv md ops n listed → i ∈ Region.ready md ops listed → ∀ j ∈ Region.ready md ops listed, j < n := fun inv hr j hj =>
    Nat.lt_of_not_le fun h => tail_waits hs hc hn inv _ i rfl hin (mem_ready.1 hr).1 j h hj
  have own : ∀ {listed : Array Bool} {a : Act} {f : Nat}, Does P ops W oi a u → headFl P md ops W n L f (listed.setIfInBounds i true) (effect a oi.dst u) → floatAt P ops W i (headFl P md ops W n L f (listed.setIfInBounds i true)) a := fun hy H => by
    unfold floatAt
    simp only [hi]
    exact hy.op H
  induction f with
  | zero =>
    intro listed a inv _ hr hy H
    refine ⟨fun h => (by rw [h] at hr; cases hr), fun j hj => ⟨below inv hr j hj, ?_⟩⟩
    by_cases hji : j = i
    · subst hji
      exact own hy H
    · have h1 := hdone _ _ H j (ready_mono hj hji)
      have h2 := below inv hr j hj
      omega
  | succ f ih =>
    intro listed a inv hfree hr hy H
    refine ⟨fun h => (by rw [h] at hr; cases hr), fun j hj => ⟨below inv hr j hj, ?_⟩⟩
    by_cases hji : j = i
    · subst hji
      exact own hy H
    · have h1 := (H.2 j (ready_mono hj hji)).2
      obtain ⟨hjun, oj, hoj, hall⟩ := mem_ready.1 hj
      have hun := (mem_ready.1 hr).1
      have hnot : ∀ e ∈ oj.after, Region.binds md e = true → e.on ≠ i := fun e he hb heq => by
        have h3 := hall e he hb
        rw [heq, getD_both hun] at h3
        cases h3
      have hap := hfree j oj hoj hji hjun hnot
      unfold floatAt at h1 ⊢
      simp only [hoj] at h1 ⊢
      obtain ⟨w, hd, hk⟩ := does_of_floatOp h1
      refine (hd.unput hap (fun cs b => hsel j oj cs b hoj)).op ?_
      refine ih (listed.setIfInBounds j true) _ (inv.set hj (below inv hr j hj)) (fun k ok hk hki hkn hno => hfree k ok hk hki ?_ hno) (ready_mono hr (Ne.symm hji)) (hy.put hap (fun cs b => hsel i oi cs b hi)) ?_
      · by_cases hjk : j = k
        · subst hjk; exact hjun
        · rwa [getD_set_ne true hjk] at hkn
      · rw [Array.setIfInBounds_comm _ _ hji, ← effect_comm hap]
        exact hk

theorem headFl_lex {n g : Nat} {Lq : Act → Prop} (hsel : Region.noSelect ops = true) (hs : Region.sinkB md ops n = true) (hc : Region.chainB md ops n = true) (hn : n < ops.size) (l : List Oper) :
    ∀ (k : Nat) (listed : Array Bool) (a : Act), (∀ j, j < l.length → l[j]? = ops[k + j]?) → k + l.length = n → HeadInv md ops n listed →
    Region.lexHead md ops g l.length k listed = true → wpFloat P ops W Lq l a → headFl P md ops W n (fun listed' a' => Region.seqB md ops g n listed' = true ∧ Lq a') l.length listed a := by
  induction l with
  | nil =>
    intro k listed a _ hk _ hB h
    obtain rfl : k = n := by simpa using hk
    exact ⟨by simpa [Region.lexHead] using hB, h⟩
  | cons o l ih =>
    intro k listed a hl hk inv hB h
    have h0 : ops[k]? = some o := by simpa using (hl 0 (by simp)).symm
    simp only [List.length_cons, Region.lexHead, Bool.and_eq_true] at hB hk
    obtain ⟨⟨hr, hf⟩, hB'⟩ := hB
    have hr' : k ∈ Region.ready md ops listed := by simpa using hr
    obtain ⟨u, hy, hK⟩ := does_of_floatOp (K := wpFloat P ops W Lq l) h
    exact headFl_first h0 (Region.noSelect_spec hsel) hs hc hn (by omega) (fun _ _ hL => seqB_ready hL.1) l.length listed a inv (Region.free_spec h0 hf) hr' hy
      (ih (k + 1) _ _ (fun j hj => by have := hl (j + 1) (by simp; omega); simpa [Nat.add_assoc, Nat.add_comm 1 j] using this) (by omega) (inv.set hr' (by omega)) hB' hK)
end
end Go.Proofs.YtehgeoipbgpocaaGreatDoor

namespace Go.Proofs.YtehgeoipbgpocaaGreatDoor
set_option linter.unusedVariables false
set_option linter.unusedSimpArgs false
open Go.RowKit

def puts (bs : List (Tmp × Value)) (a : Act) : Act := bs.foldl (fun a p => a.put (some p.1) p.2) a
theorem puts_snoc (bs : List (Tmp × Value)) (d : Tmp) (v : Value) (a : Act) : puts (bs ++ [(d, v)]) a = (puts bs a).put (some d) v := by simp [puts, List.foldl_append]
theorem puts_put (bs : List (Tmp × Value)) (dst : Option Tmp) (v : Value) (h : ∀ p ∈ bs, dst ≠ some p.1) : ∀ a : Act, puts bs (a.put dst v) = (puts bs a).put dst v := by
  induction bs with
  | nil => intro a; rfl
  | cons p bs ih =>
    intro a
    show puts bs ((a.put dst v).put (some p.1) p.2) = (puts bs (a.put (some p.1) p.2)).put dst v
    rw [Act.put_comm a v p.2 (fun d hd e => h p (List.mem_cons_self ..) (by rw [hd, e])), ih (fun q hq => h q (List.mem_cons_of_mem _ hq))]
theorem puts_perm {bs cs : List (Tmp × Value)} (h : bs.Perm cs) : (bs.map (·.1)).Nodup → ∀ a : Act, puts bs a = puts cs a := by
  induction h with
  | nil => intro _ a; rfl
  | cons x _ ih => intro hn a; exact ih (by simp at hn; exact (List.nodup_cons.1 (by simpa using hn)).2) _
  | swap x y l =>
    intro hn a
    have hne : y.1 ≠ x.1 := by simp at hn; exact hn.1.1
    show puts l ((a.put (some y.1) y.2).put (some x.1) x.2) = puts l ((a.put (some x.1) x.2).put (some y.1) y.2)
    rw [Act.put_comm a y.2 x.2 (fun d hd e => hne ((Option.some.inj hd).trans (Option.some.inj e).symm))]
  | trans h1 _ ih1 ih2 => intro hn a; rw [ih1 hn a, ih2 ((h1.map _).nodup_iff.1 hn) a]

section
variable {P : Program} {ops : Array Oper} {md : Region.Mode} {W : World}
def dstAt (ops : Array Oper) (i : Nat) : Tmp := ((ops[i]?).bind (·.dst)).getD 0
def floatsAt (ops : Array Oper) (i : Nat) : Bool := ((ops[i]?).map Oper.floats).getD false
def ptr (b : Nat) : Value := .pointer (some ⟨b, 0, none⟩)
/-- The variables' operations: not guarded, with a slot of their own that no other of the head looks at or writes. -/
def floatB (ops : Array Oper) (n : Nat) : Bool :=
  (List.range n).all fun i => !floatsAt ops i || match ops[i]? with
    | none => false
    | some o => o.guard.isNone && o.dst.isSome && (List.range n).all fun j => j == i || match ops[j]? with
      | none => true
      | some p => !(p.looksAt ops).contains (dstAt ops i) && p.dst != some (dstAt ops i)
theorem floatB_spec {n i : Nat} {o : Oper} (h : floatB ops n = true) (hi : i < n) (ho : ops[i]? = some o) (hf : Oper.floats o = true) :
    o.guard = none ∧ o.dst = some (dstAt ops i) ∧ ∀ j p, j < n → j ≠ i → ops[j]? = some p → dstAt ops i ∉ p.looksAt ops ∧ p.dst ≠ some (dstAt ops i) := by
  have h1 := List.all_eq_true.1 h i (List.mem_range.2 hi)
  have hfa : floatsAt ops i = true := by unfold floatsAt; rw [ho]; exact hf
  rw [hfa, ho] at h1
  simp only [Bool.not_true, Bool.false_or, Bool.and_eq_true, List.all_eq_true, List.mem_range] at h1
  obtain ⟨⟨h2, h3⟩, h4⟩ := h1
  obtain ⟨d, hd⟩ := Option.isSome_iff_exists.1 h3
  refine ⟨by simpa using h2, by unfold dstAt; rw [ho]; simp [hd], fun j p hj hne hp => ?_⟩
  have h5 := h4 j hj
  rw [hp] at h5
  simp only [Bool.or_eq_true, beq_iff_eq, Bool.and_eq_true, Bool.not_eq_true', bne_iff_ne] at h5
  rcases h5 with h5 | ⟨h5, h6⟩
  · exact absurd h5 hne
  · exact ⟨by simpa using h5, h6⟩

/-- The run so far: which variables have been made, in which blocks. -/
structure Sim (ops : Array Oper) (W : World) (obj : Nat → Obj) (order : List Nat) (B : Nat → Nat) (w : World) (listed : Array Bool) : Prop where
  below : Below W.heap.size W w
  nodup : order.Nodup
  mem : ∀ i, i ∈ order ↔ (listed.getD i false = true ∧ floatsAt ops i = true)
  block : ∀ i ∈ order, W.heap.size ≤ B i ∧ w.heap[B i]? = some (obj i)
  apart : ∀ i ∈ order, ∀ j ∈ order, i ≠ j → B i ≠ B j
def binds (ops : Array Oper) (order : List Nat) (B : Nat → Nat) : List (Tmp × Value) := order.map fun i => (dstAt ops i, ptr (B i))

theorem Sim.lt {obj : Nat → Obj} {order : List Nat} {B : Nat → Nat} {w : World} {listed : Array Bool} (h : Sim ops W obj order B w listed) {i : Nat} (hi : i ∈ order) : B i < w.heap.size := by
  refine Nat.lt_of_not_le fun hl => ?_
  have := (h.block i hi).2
  rw [Array.getElem?_eq_none hl] at this
  cases this
theorem Sim.bel {obj : Nat → Obj} {order : List Nat} {B : Nat → Nat} {w : World} {listed : Array Bool} (h : Sim ops W obj order B w listed) (x : Bel w) : Sim ops W obj order B x.w listed :=
  ⟨h.below.trans (x.below.mono h.below.size), h.nodup, h.mem, fun i hi => ⟨(h.block i hi).1, by rw [x.below.block _ (h.lt hi)]; exact (h.block i hi).2⟩, h.apart⟩
theorem getD_set {listed : Array Bool} {i j : Nat} (hi : listed.getD i true = false) : (listed.setIfInBounds i true).getD j false = (decide (j = i) || listed.getD j false) := by
  have hlt : i < listed.size := by
    refine Nat.lt_of_not_le fun h => ?_
    simp [Array.getElem?_eq_none h] at hi
  by_cases h : j = i
  · subst h; simp [hlt]
  · rw [getD_set_ne false (fun e => h e.symm)]; simp [h]
theorem Sim.quiet {obj : Nat → Obj} {order : List Nat} {B : Nat → Nat} {w : World} {listed : Array Bool} {i : Nat} (h : Sim ops W obj order B w listed) (hi : listed.getD i true = false) (hf : floatsAt ops i = false) :
    Sim ops W obj order B w (listed.setIfInBounds i true) :=
  ⟨h.below, h.nodup, fun j => by
    rw [h.mem j, getD_set hi]
    by_cases hj : j = i
    · subst hj; simp [hf]
    · simp [hj], h.block, h.apart⟩
theorem Sim.alloc {obj : Nat → Obj} {order : List Nat} {B : Nat → Nat} {w : World} {listed : Array Bool} {i : Nat} (h : Sim ops W obj order B w listed) (hi : listed.getD i true = false) (hf : floatsAt ops i = true) :
    Sim ops W obj (order ++ [i]) (fun k => if k = i then w.heap.size else B k) (w.alloc (obj i)) (listed.setIfInBounds i true) := by
  have hni : i ∉ order := fun hm => by
    have := ((h.mem i).1 hm).1
    have hlt : i < listed.size := by
      refine Nat.lt_of_not_le fun hl => ?_
      simp [Array.getElem?_eq_none hl] at hi
    simp [hlt] at hi this
    rw [hi] at this
    cases this
  refine ⟨h.below.alloc h.below.size _, ?_, fun j => ?_, fun j hj => ?_, fun j hj k hk hne => ?_⟩
  · rw [List.nodup_append]
    exact ⟨h.nodup, by simp, fun a ha b hb => by simp at hb; subst hb; exact fun e => hni (e ▸ ha)⟩
  · rw [List.mem_append, h.mem j, getD_set hi]
    by_cases hj : j = i
    · subst hj; simp [hf]
    · simp [hj]
  · by_cases hji : j = i
    · subst hji
      rw [if_pos rfl]
      exact ⟨h.below.size, by show (w.heap.push _)[w.heap.size]? = _; simp⟩
    · rw [if_neg hji]
      have hj' : j ∈ order := by simpa [hji] using hj
      exact ⟨(h.block j hj').1, (Below.heap_alloc w (obj i) _ (h.lt hj')).trans (h.block j hj').2⟩
  · by_cases hji : j = i
    · subst hji
      have hk' : k ∈ order := by simpa [Ne.symm hne] using hk
      rw [if_pos rfl, if_neg (Ne.symm hne)]
      exact (Nat.ne_of_lt (h.lt hk')).symm
    · have hj' : j ∈ order := by simpa [hji] using hj
      rw [if_neg hji]
      by_cases hki : k = i
      · subst hki
        rw [if_pos rfl]
        exact Nat.ne_of_lt (h.lt hj')
      · rw [if_neg hki]
        exact h.apart j hj' k (by simpa [hki] using hk) hne

theorem puts_look (bs : List (Tmp × Value)) (o : Oper) (hs : ∀ cs b, o.op ≠ .select cs b) (h : ∀ p ∈ bs, p.1 ∉ o.looksAt ops) : ∀ a : Act,
    execOp (puts bs a).eval o = execOp a.eval o ∧ Region.wanted o (yielded ops (puts bs a).tmps) = Region.wanted o (yielded ops a.tmps) := by
  induction bs with
  | nil => intro a; exact ⟨rfl, rfl⟩
  | cons p bs ih =>
    intro a
    have h0 : ∀ d, some p.1 = some d → d ∉ o.looksAt ops := fun d hd => by cases hd; exact h p (List.mem_cons_self ..)
    obtain ⟨e1, e2⟩ := ih (fun q hq => h q (List.mem_cons_of_mem _ hq)) (a.put (some p.1) p.2)
    exact ⟨e1.trans (execOp_put o hs a _ _ h0), e2.trans (wanted_put o a _ _ h0)⟩

theorem any_of_headFl {n g : Nat} {L : Array Bool → Act → Prop} {Q : Exit → Act → World → Prop} (obj : Nat → Obj) (hsel : ∀ (j : Nat) (o : Oper) cs b, ops[j]? = some o → o.op ≠ .select cs b) (hB : floatB ops n = true)
    (hrun : ∀ i o, i < n → ops[i]? = some o → Oper.floats o = true → ∀ (a : Act) (w : World), (execOp a.eval o).run P w = .ok (.value (ptr w.heap.size)) (w.alloc (obj i)))
    (hL : ∀ listed a order B w, Sim ops W obj order B w listed → HeadInv md ops n listed → (∀ i ∈ order, i < n) → L listed a → wpAny P md ops Q g listed (puts (binds ops order B) a) w) (f : Nat) :
    ∀ (listed : Array Bool) (a : Act) (order : List Nat) (B : Nat → Nat) (w : World), Sim ops W obj order B w listed → HeadInv md ops n listed → (∀ i ∈ order, i < n) → headFl P md ops W n L f listed a → wpAny P md ops Q (f + g) listed (puts (binds ops order B) a) w := by
  induction f with
  | zero => intro listed a order B w hS inv hn h; rw [Nat.zero_add]; exact hL _ _ _ _ _ hS inv hn h
  | succ f ih =>
    intro listed a order B w hS inv hn h
    rw [show f + 1 + g = (f + g) + 1 by omega]
    refine ⟨fun h0 => absurd h0 h.1, fun i hi => ?_⟩
    obtain ⟨hin, hop⟩ := h.2 i hi
    obtain ⟨hun, o, ho, _⟩ := mem_ready.1 hi
    unfold floatAt at hop
    unfold wpOp
    simp only [ho] at hop ⊢
    obtain ⟨u, hd, hk⟩ := does_of_floatOp hop
    have hlook : ∀ p ∈ binds ops order B, Oper.floats o = false → p.1 ∉ o.looksAt ops ∧ o.dst ≠ some p.1 := fun p hp hf => by
      obtain ⟨j, hj, rfl⟩ := List.mem_map.1 hp
      have hfj := ((hS.mem j).1 hj).2
      unfold floatsAt at hfj
      cases hoj : ops[j]? with
      | none => rw [hoj] at hfj; cases hfj
      | some oj =>
        rw [hoj] at hfj
        refine (floatB_spec hB (hn j hj) hoj hfj).2.2 i o hin (fun e => ?_) ho
        subst e
        have : o = oj := Option.some.inj (ho.symm.trans hoj)
        subst this
        rw [show Oper.floats o = true from hfj] at hf
        cases hf
    cases hd with
    | floats hf =>
      obtain ⟨hg, hdst, _⟩ := floatB_spec hB hin ho hf
      have hwant : Region.wanted o (yielded ops (puts (binds ops order B) a).tmps) = true := by unfold Region.wanted; rw [hg]
      rw [if_pos hwant]
      refine .inl ?_
      unfold Oper.wp
      rw [hrun i o hin ho hf, Oper.upon_value, hdst, ← puts_snoc]
      have hS' := hS.alloc hun (show floatsAt ops i = true by unfold floatsAt; rw [ho]; exact hf)
      have hni : i ∉ order := fun hm => by
        have h1 := ((hS.mem i).1 hm).1
        have hlt : i < listed.size := by
          refine Nat.lt_of_not_le fun hl => ?_
          simp [Array.getElem?_eq_none hl] at hun
        simp [hlt] at hun h1
        rw [hun] at h1
        cases h1
      have hb : binds ops order B ++ [(dstAt ops i, ptr w.heap.size)] = binds ops (order ++ [i]) (fun k => if k = i then w.heap.size else B k) := by
        unfold binds
        rw [List.map_append]
        congr 1
        · exact List.map_congr_left fun k hk => by dsimp only; rw [if_neg (fun e => hni (by rw [← e]; exact hk))]
        · simp
      rw [hb]
      exact ih _ _ _ _ _ hS' (inv.set hi hin) (fun k hk => by rcases List.mem_append.1 hk with hk | hk; exact hn k hk; simp at hk; subst hk; exact hin) hk
    | calm v hf hw hv =>
      obtain ⟨e1, e2⟩ := puts_look (ops := ops) (binds ops order B) o (hsel i o · · ho) (fun p hp => (hlook p hp hf).1) a
      have hfa : floatsAt ops i = false := by unfold floatsAt; rw [ho]; exact hf
      have hS' := hS.quiet hun hfa
      rw [e2, if_pos hw]
      refine .inl ?_
      unfold Oper.wp
      rw [e1]
      have h3 := hv ⟨w, hS.below⟩
      dsimp only at h3
      generalize (execOp a.eval o).run P w = r at *
      have hput : ∀ x, (puts (binds ops order B) a).put o.dst x = puts (binds ops order B) (a.put o.dst x) := fun x => (puts_put _ _ _ (fun p hp => (hlook p hp hf).2) a).symm
      cases r with
      | ok nx w' =>
        cases nx <;> simp only [yieldsR] at h3 <;> simp only [Oper.upon]
        case value x =>
          obtain ⟨rfl, rfl⟩ := h3
          rw [hput]
          exact ih _ _ _ _ _ hS' (inv.set hi hin) hn hk
        case skip =>
          obtain ⟨rfl, rfl⟩ := h3
          rw [hput]
          exact ih _ _ _ _ _ hS' (inv.set hi hin) hn hk
        case enter fn args =>
          obtain ⟨rfl, hc⟩ := h3
          refine hc.mono fun e w'' ⟨he, x, hx⟩ => ?_
          subst he hx
          show wpAny P md ops Q (f + g) (listed.setIfInBounds i true) ((puts (binds ops order B) a).put o.dst v) x.w
          rw [hput]
          exact ih _ _ _ _ _ (hS'.bel x) (inv.set hi hin) hn hk
      | halt y w' => simp only [yieldsR] at h3
    | over hf hw =>
      obtain ⟨e1, e2⟩ := puts_look (ops := ops) (binds ops order B) o (hsel i o · · ho) (fun p hp => (hlook p hp hf).1) a
      have hfa : floatsAt ops i = false := by unfold floatsAt; rw [ho]; exact hf
      rw [e2, if_neg (by rw [hw]; exact Bool.false_ne_true), ← puts_put _ _ _ (fun p hp => (hlook p hp hf).2) a]
      exact ih _ _ _ _ _ (hS.quiet hun hfa) (inv.set hi hin) hn hk

/-- What stands behind the head: the variables lie in blocks of their own. -/
def Made (W : World) (obj : Nat → Obj) (As : List Nat) (B : Nat → Nat) (w : World) : Prop :=
  (∀ i ∈ As, W.heap.size ≤ B i ∧ w.heap[B i]? = some (obj i)) ∧ ∀ i ∈ As, ∀ j ∈ As, i ≠ j → B i ≠ B j

theorem wp_region_float {id : Nat} {Q : Exit → Act → World → Prop} {a : Act} {w : World} {l : List Oper} (n : Nat) (As : List Nat) (obj : Nat → Obj) (hm : P.follows .mixedOrders = true) (hB : Region.lexTailB .any l.toArray n = true)
    (hF : floatB l.toArray n = true) (hAs : (List.range n).filter (floatsAt l.toArray) = As) (hnd : (As.map (dstAt l.toArray)).Nodup)
    (hrun : ∀ i o, i < n → l.toArray[i]? = some o → Oper.floats o = true → ∀ (a : Act) (w : World), (execOp a.eval o).run P w = .ok (.value (ptr w.heap.size)) (w.alloc (obj i)))
    (h : wpFloat P l.toArray w (fun a' => ∀ (B : Nat → Nat) (x : Bel w), Made w obj As B x.w → wpList P l.toArray Q (l.drop n) (puts (binds l.toArray As B) a') x.w) (l.take n) a) : (Code.region id l.toArray true).wp P Q a w := by
  simp only [Region.lexTailB, Bool.and_eq_true, decide_eq_true_eq] at hB
  obtain ⟨⟨⟨⟨hsel, hn⟩, hs⟩, hc⟩, hlex⟩ := hB
  have hn' : n < l.length := by simpa using hn
  have htl : (l.take n).length = n := by simp; omega
  have hdl : (l.drop n).length = l.toArray.size - n := by simp
  have inv0 : HeadInv .any l.toArray n (Array.replicate l.toArray.size false) :=
    ⟨by simp, fun j oj _ hl => (by rw [getD_replicate_false] at hl; cases hl), fun t _ ht => getD_in (by simpa using ht) (getD_replicate_false _ _)⟩
  have H := headFl_lex (md := .any) (g := l.toArray.size - n) hsel hs hc hn (l.take n) 0 _ a (fun j hj => by
    have hj' : j < n := by rw [htl] at hj; exact hj
    simp [hj']) (by simpa using htl) inv0 (by rw [htl]; exact hlex) h
  refine wp_region_any hm ?_
  have S0 : Sim l.toArray w obj [] (fun _ => 0) { w with drawn := w.drawn + 1 } (Array.replicate l.toArray.size false) :=
    ⟨⟨rfl, rfl, rfl, Nat.le_refl _, fun _ _ => rfl⟩, List.nodup_nil, fun i => by rw [getD_replicate_false]; simp, fun i hi => (by simp at hi), fun i hi => (by simp at hi)⟩
  have := any_of_headFl (Q := Q) (g := l.toArray.size - n) obj (Region.noSelect_spec hsel) hF hrun (fun listed a' order B w' hS inv hon hL => by
    have hready : Region.ready .any l.toArray listed = [n] := by
      have h1 := hL.1
      rw [show l.toArray.size - n = (l.toArray.size - n - 1) + 1 by omega] at h1
      simp only [Region.seqB, Bool.and_eq_true, decide_eq_true_eq] at h1
      exact h1.1
    have hall : ∀ i, i < n → listed.getD i false = true := fun i hi => by
      cases hg : listed.getD i true with
      | false => exact absurd (show n ∈ Region.ready .any l.toArray listed by rw [hready]; simp) (tail_waits hs hc hn inv _ i rfl hi hg n (Nat.le_refl _))
      | true =>
        have hlt : i < listed.size := by rw [inv.size]; omega
        simp [hlt] at hg ⊢
        exact hg
    have hperm : order.Perm As := by
      rw [List.perm_ext_iff_of_nodup hS.nodup (by rw [← hAs]; exact (List.nodup_range).filter _)]
      intro i
      rw [← hAs, List.mem_filter, List.mem_range]
      constructor
      · intro hi
        exact ⟨hon i hi, ((hS.mem i).1 hi).2⟩
      · intro hi
        exact (hS.mem i).2 ⟨hall i hi.1, hi.2⟩
    have hput : puts (binds l.toArray order B) a' = puts (binds l.toArray As B) a' := puts_perm (hperm.map _) (by
      have e : (binds l.toArray order B).map (·.1) = order.map (dstAt l.toArray) := by unfold binds; rw [List.map_map]; rfl
      change ((binds l.toArray order B).map (fun x => x.1)).Nodup
      rw [e]
      exact ((hperm.map _).nodup_iff).2 hnd) a'
    rw [hput]
    have hM : Made w obj As B w' := ⟨fun i hi => hS.block i (hperm.mem_iff.2 hi), fun i hi j hj hne => hS.apart i (hperm.mem_iff.2 hi) j (hperm.mem_iff.2 hj) hne⟩
    have := wpAny_of_seq (md := .any) (Q' := Q) (l.drop n) n listed (puts (binds l.toArray As B) a') w' (fun j => by simp [List.getElem?_drop]) (by rw [hdl]; exact hL.1) (hL.2 B ⟨w', hS.below⟩ hM)
    rwa [hdl] at this) _ _ _ _ _ _ S0 inv0 (fun i hi => (by simp at hi)) H
  rw [htl, show n + (l.toArray.size - n) = l.toArray.size by omega] at this
  exact this

/-- The types of the variables that a head makes. -/
def allocT (o : Oper) : Option TypeId := match o.op with | .alloc t => some t | _ => none
def typeAt (ops : Array Oper) (i : Nat) : TypeId := ((ops[i]?).bind allocT).getD 0
theorem wp_region_vars {id : Nat} {Q : Exit → Act → World → Prop} {a : Act} {w : World} {l : List Oper} (n : Nat) (As : List Nat) (Ts : List TypeId) (objT : TypeId → Obj) (hm : P.follows .mixedOrders = true) (hB : Region.lexTailB .any l.toArray n = true)
    (hF : floatB l.toArray n = true) (hAs : (List.range n).filter (floatsAt l.toArray) = As) (hnd : (As.map (dstAt l.toArray)).Nodup) (hTs : ((List.range n).all fun i => !floatsAt l.toArray i || Ts.contains (typeAt l.toArray i)) = true)
    (hrun : ∀ (o : Oper) (t : TypeId), o.op = .alloc t → t ∈ Ts → ∀ (a : Act) (w : World), (execOp a.eval o).run P w = .ok (.value (ptr w.heap.size)) (w.alloc (objT t)))
    (h : wpFloat P l.toArray w (fun a' => ∀ (B : Nat → Nat) (x : Bel w), Made w (fun i => objT (typeAt l.toArray i)) As B x.w → wpList P l.toArray Q (l.drop n) (puts (binds l.toArray As B) a') x.w) (l.take n) a) : (Code.region id l.toArray true).wp P Q a w := by
  refine wp_region_float n As (fun i => objT (typeAt l.toArray i)) hm hB hF hAs hnd (fun i o hi ho hf a w => ?_) h
  have h1 := List.all_eq_true.1 hTs i (List.mem_range.2 hi)
  have h2 : floatsAt l.toArray i = true := by unfold floatsAt; rw [ho]; exact hf
  rw [h2] at h1
  unfold Oper.floats at hf
  cases hop : o.op with
  | alloc t =>
    have h3 : typeAt l.toArray i = t := by unfold typeAt allocT; rw [ho]; simp [hop]
    rw [h3] at h1 ⊢
    exact hrun o t hop (by simpa using h1) a w
  | _ => rw [hop] at hf; cases hf
theorem made_cellF {w : World} {b : Nat} {cs : Array Value} {t : TypeId} (h : w.heap[b]? = some (.cells cs t)) (j : Nat) : w.cell? ⟨b, j, none⟩ = cs[j]? ∧ w.frozen? ⟨b, j, none⟩ = false := by
  constructor
  · simp [World.cell?, h]
  · simp [World.frozen?, h]
end
end Go.Proofs.YtehgeoipbgpocaaGreatDoor
