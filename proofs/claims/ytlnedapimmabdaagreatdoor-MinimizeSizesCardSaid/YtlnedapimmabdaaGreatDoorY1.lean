/- The diagram of a place, for any function: it is in order, and the only one. Functions that arise by values of the first variables; how many there are. -/
import Derived.Test.YtlnedapimmabdaaGreatDoorPl
namespace Go.Proofs.YtlnedapimmabdaaGreatDoor
set_option linter.unusedVariables false
set_option linter.unusedSimpArgs false

section
variable {N : List (Nat × Nat × Nat)} {l : List Nat}
end
structure Dgn (M : List (Nat × Nat × Nat)) (r : Nat) : Prop where
  good : Good M
  root : r < M.length + 2
  walk : ∀ F, r < F → dfs3 M F r [] = List.range' 2 M.length
theorem Dgn.canon {M : List (Nat × Nat × Nat)} {r : Nat} (h : Dgn M r) : canonD M r = (M, r) := by
  unfold canonD
  rw [h.walk _ h.root, relab3_id h.good, at3_range h.root]
theorem Dgn.only {M M' : List (Nat × Nat × Nat)} {r r' : Nat} (h : Dgn M r) (h' : Dgn M' r') (hv : ∀ ρ, val3 ρ M r = val3 ρ M' r') : M = M' ∧ r = r' := by
  have := canonD_eq h.good h'.good ⟨h.root, h'.root, hv⟩
  rw [h.canon, h'.canon] at this
  injection this with h1 h2
  exact ⟨h1, h2⟩
theorem Dgn.top {M : List (Nat × Nat × Nat)} {r : Nat} (h : Dgn M r) : (r < 2 ∧ M = []) ∨ (r = M.length + 1 ∧ 0 < M.length) := by
  have hw := h.walk (r + 1) (Nat.lt_succ_self r)
  rw [dfs3] at hw
  rcases Nat.lt_or_ge r 2 with h2 | h2
  · rw [if_pos (.inl h2)] at hw
    have := congrArg List.length hw
    rw [List.length_range'] at this
    exact .inl ⟨h2, List.length_eq_zero_iff.1 this.symm⟩
  · rw [if_neg (by simp; omega)] at hw
    have hl := congrArg List.length hw
    rw [List.length_range', List.length_append, List.length_singleton] at hl
    have h0 : 0 < M.length := by omega
    have hr := h.root
    have e1 := congrArg List.getLast? hw
    rw [List.getLast?_concat] at e1
    obtain ⟨n, hn⟩ : ∃ n, M.length = n + 1 := ⟨M.length - 1, by omega⟩
    rw [hn, range2_snoc, List.getLast?_concat] at e1
    injection e1 with e1
    exact .inr ⟨by omega, h0⟩
end Go.Proofs.YtlnedapimmabdaaGreatDoor

namespace Go.Proofs.YtlnedapimmabdaaGreatDoor
set_option linter.unusedVariables false
set_option linter.unusedSimpArgs false

def InF (P : ((Nat → Bool) → Bool) → Prop) (e0 : Nat) (N : List (Nat × Nat × Nat)) : Prop := ∀ i, e0 ≤ i → i < N.length → P (fun ρ => val3 ρ N (i + 2))
def pre (t : Nat) (a ρ : Nat → Bool) : Nat → Bool := fun x => if x < t then a x else ρ x
def Her (P : ((Nat → Bool) → Bool) → Prop) (f : (Nat → Bool) → Bool) : Prop := ∀ (t : Nat) (a : Nat → Bool), P (fun ρ => f (pre t a ρ))
theorem pre_upd {f : (Nat → Bool) → Bool} {v : Nat} (hi : ∀ ρ σ : Nat → Bool, (∀ u, v ≤ u → ρ u = σ u) → f ρ = f σ) (b : Bool) (t : Nat) (a : Nat → Bool) : ∃ (t' : Nat) (a' : Nat → Bool), v < t' ∧ ∀ ρ, f (upd3 (pre t a ρ) v b) = f (pre t' a' ρ) := by
  rcases Nat.lt_or_ge v t with h | h
  · refine ⟨t, fun x => if x = v then b else a x, h, fun ρ => ?_⟩
    congr 1
    funext x
    unfold upd3 pre
    by_cases hx : x = v
    · subst hx
      rw [if_pos rfl, if_pos h]
      simp
    · rw [if_neg hx]
      simp [hx]
  · refine ⟨v + 1, fun x => if x = v then b else a x, Nat.lt_succ_self v, fun ρ => hi _ _ fun u hu => ?_⟩
    unfold upd3 pre
    by_cases hx : u = v
    · subst hx
      rw [if_pos rfl, if_pos (Nat.lt_succ_self _)]
      simp
    · rw [if_neg hx, if_neg (by omega), if_neg (by omega)]
theorem Her.cof {P : ((Nat → Bool) → Bool) → Prop} {f : (Nat → Bool) → Bool} (h : Her P f) {v : Nat} (hi : ∀ ρ σ : Nat → Bool, (∀ u, v ≤ u → ρ u = σ u) → f ρ = f σ) (b : Bool) : Her P (fun ρ => f (upd3 ρ v b)) := fun t a => by
  obtain ⟨t', a', _, e⟩ := pre_upd hi b t a
  have := h t' a'
  rwa [← funext e] at this
theorem nodup_lt : ∀ (M : Nat) (l : List Nat), l.Nodup → (∀ x ∈ l, x < M) → l.length ≤ M
  | 0, l, _, h => by
    cases l with
    | nil => simp
    | cons a r => exact absurd (h a (by simp)) (by omega)
  | M + 1, l, hn, h => by
    by_cases hm : M ∈ l
    · have := nodup_lt M (l.erase M) (hn.erase M) fun x hx => by
        have h1 := (hn.mem_erase_iff).1 hx
        have := h x h1.2
        have := h1.1
        omega
      rw [List.length_erase_of_mem hm] at this
      omega
    · have := nodup_lt M l hn fun x hx => by
        have := h x hx
        have : x ≠ M := fun e => hm (e ▸ hx)
        omega
      omega
theorem inj_le {α : Type} {l : List α} {f : α → Nat} {M : Nat} (hn : l.Nodup) (hf : ∀ x ∈ l, f x < M) (hi : ∀ x ∈ l, ∀ y ∈ l, f x = f y → x = y) : l.length ≤ M := by
  have h := nodup_lt M (l.map f) (List.pairwise_map.2 (hn.imp_of_mem fun {a b} ha hb hne e => hne (hi a ha b hb e))) fun x hx => by
    obtain ⟨y, hy, rfl⟩ := List.mem_map.1 hx
    exact hf y hy
  rwa [List.length_map] at h
theorem InF.last {P : ((Nat → Bool) → Bool) → Prop} {e0 p : Nat} {N M : List (Nat × Nat × Nat)} {S : ((Nat → Bool) → Bool)} (h : InF P e0 N) (hM : M = [] ∨ ∃ x, M = [x] ∧ p = N.length + 2) (hv : ∀ ρ, val3 ρ (N ++ M) p = S ρ) (hS : P S) : InF P e0 (N ++ M) := by
  rcases hM with rfl | ⟨x, rfl, rfl⟩
  · rw [List.append_nil]; exact h
  · intro i h1 h2
    rw [List.length_append, List.length_singleton] at h2
    rcases Nat.lt_or_ge i N.length with hi | hi
    · have := h i h1 hi
      rw [show (fun ρ => val3 ρ (N ++ [x]) (i + 2)) = fun ρ => val3 ρ N (i + 2) from funext fun ρ => val3_app ρ N (by omega) _]
      exact this
    · have e : i = N.length := by omega
      subst e
      rw [show (fun ρ => val3 ρ (N ++ [x]) (N.length + 2)) = S from funext hv]
      exact hS
end Go.Proofs.YtlnedapimmabdaaGreatDoor
