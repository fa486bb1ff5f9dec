/- The law's reached. Slices of gates whose inputs are rows of their own; packing, as objects in memory. The law's needed. -/
import Derived.Test.YtlnedapimmabdaaGreatDoorW4
namespace Go.Proofs.YtlnedapimmabdaaGreatDoor
set_option linter.unusedVariables false
set_option linter.unusedSimpArgs false
open Go.RowKit
attribute [local go_sem low] Bel.cell Bel.frozen alloc_cell alloc_frozen

theorem ownsRow_heap {w w' : World} {base : Nat} {e : TypeId} {s : Nat} {v : Value} {n : Nat} {xs : List Value} (h : w.ownsRow base e s v n xs) (hk : ∀ g, v.ownBlock = some g → w'.heap[g]? = w.heap[g]?) : w'.ownsRow base e s v n xs := by
  rcases h with ⟨hxl, ⟨e1, e2⟩ | ⟨g, cap, cur, e1, hg, hh, hn, hc, hcs, hcur⟩⟩
  · exact ⟨hxl, .inl ⟨e1, e2⟩⟩
  · exact ⟨hxl, .inr ⟨g, cap, cur, e1, hg, (hk g (by rw [e1]; rfl)).trans hh, hn, hc, hcs, hcur⟩⟩
theorem bsOf_setb (n : Nat) (m : Nat → Bool) (k : Nat) (b : Bool) : (bsOf n m).set k b = bsOf n (fun j => if j = k then b else m j) := by
  apply List.ext_getElem?
  intro j
  unfold bsOf
  rw [List.getElem?_set]
  by_cases h : k = j
  · subst h
    by_cases hk : k < n
    · simp [hk]
    · simp [hk]
  · rw [if_neg h]
    by_cases hj : j < n
    · simp [hj, show ¬ j = k from fun e => h e.symm]
    · simp [hj]
def LrS (w : World) (n : Nat) (nv : Array Value) (m : Nat → Bool) (W : World) : Prop :=
  W.heap[w.heap.size]? = some (.cells nv 25 (0, 0)) ∧ OwnB W w.heap.size (w.heap.size + 1) n (bsOf n m) ∧ Below w.heap.size w W
theorem LrS.congr {w W : World} {n : Nat} {nv : Array Value} {m m' : Nat → Bool} (h : LrS w n nv m W) (he : ∀ j, j < n → m j = m' j) : LrS w n nv m' W := by
  obtain ⟨h1, h2, h3⟩ := h
  exact ⟨h1, by rw [← bsOf_congr he]; exact h2, h3⟩
theorem LrS.set {w W : World} {n : Nat} {nv : Array Value} {m : Nat → Bool} (h : LrS w n nv m W) (k : Nat) (b : Bool) : LrS w n nv (fun j => if j = k then b else m j) (W.setCell ⟨w.heap.size + 1, k, none⟩ (.bool b)) := by
  obtain ⟨h1, h2, h3⟩ := h
  refine ⟨obj_neD _ (by omega) h1, ?_, h3.setCell (p := ⟨w.heap.size + 1, k, none⟩) (by simp) _⟩
  rw [← bsOf_setb]
  exact ownB_store h2 k b
theorem LrS.bel {w W W' : World} {n : Nat} {nv : Array Value} {m : Nat → Bool} (h : LrS w n nv m W) (hb : Below W.heap.size W W') : LrS w n nv m W' :=
  ⟨obj_in hb h.1, ownB_bel h.2.1 hb, h.2.2.trans (hb.mono h.2.2.size)⟩
theorem LrS.cells {w W : World} {n : Nat} {x y : Value} {m : Nat → Bool} (h : LrS w n #[x, y] m W) : W.cell? ⟨w.heap.size, 0, none⟩ = some x ∧ W.cell? ⟨w.heap.size, 1, none⟩ = some y := by
  obtain ⟨h1, h2, -⟩ := box2 h.1
  exact ⟨h1, h2⟩
theorem LrS.at {w W : World} {n : Nat} {nv : Array Value} {m : Nat → Bool} (h : LrS w n nv m W) {k : Nat} (hk : k < n) : W.cell? ⟨w.heap.size + 1, k, none⟩ = some (.bool (m k)) ∧ W.frozen? ⟨w.heap.size + 1, k, none⟩ = false := by
  obtain ⟨b, hb, hf⟩ := ownB_at h.2.1 (j := k) (by rw [bsOf_len]; exact hk)
  exact ⟨ownB_is h.2.1 (bsOf_at hk), hf⟩
end Go.Proofs.YtlnedapimmabdaaGreatDoor

namespace Go.Proofs.YtlnedapimmabdaaGreatDoor
set_option linter.unusedVariables false
set_option linter.unusedSimpArgs false
open Go.RowKit
attribute [local go_sem low] Bel.cell Bel.frozen alloc_cell alloc_frozen

theorem set_heap_ne {W : World} {b c i : Nat} (x : Value) (h : b ≠ c) : (W.setCell ⟨c, i, none⟩ x).heap[b]? = W.heap[b]? := Below.heap_setCell _ _ _ _ (fun e => h (by first | exact e | exact e.symm))
def inV (u : UG) : Value := .slice u.2.1 u.1.2.2.length u.2.2
def Kids (w : World) (base : Nat) (v : Value) (us : List UG) : Prop :=
  (∀ u ∈ us, OwnV w base 3 (inV u) (intsV u.1.2.2) ∧ ∀ b, (inV u).ownBlock = some b → v.ownBlock ≠ some b) ∧ us.Pairwise fun x y => ∀ b, (inV x).ownBlock = some b → (inV y).ownBlock ≠ some b
def OwnK (w : World) (base : Nat) (v : Value) (us : List UG) : Prop := w.ownsRow base 45 3 v us.length (cellsZ us) ∧ Kids w base v us
theorem ownK_nil (w : World) (base : Nat) : OwnK w base (.slice none 0 0) [] := ⟨World.ownsRow_nil _ _ _ _, ⟨fun u h => (by simp at h), List.Pairwise.nil⟩⟩
theorem ownV_heap {w w' : World} {base : Nat} {e : TypeId} {v : Value} {l : List Value} (h : OwnV w base e v l) (hk : ∀ g, v.ownBlock = some g → w'.heap[g]? = w.heap[g]?) : OwnV w' base e v l := ownsRow_heap h hk
theorem ownV_lt {w : World} {base : Nat} {e : TypeId} {v : Value} {l : List Value} (h : OwnV w base e v l) {g : Nat} (hg : v.ownBlock = some g) : base ≤ g ∧ g < w.heap.size := World.ownsRow.lt h g hg
theorem ownK_heap {w w' : World} {base : Nat} {v : Value} {us : List UG} (h : OwnK w base v us) (hk : ∀ b, base ≤ b → b < w.heap.size → w'.heap[b]? = w.heap[b]?) : OwnK w' base v us := by
  refine ⟨ownsRow_heap h.1 fun g hg => ?_, fun u hu => ⟨ownV_heap (h.2.1 u hu).1 fun g hg => ?_, (h.2.1 u hu).2⟩, h.2.2⟩
  · obtain ⟨h1, h2⟩ := World.ownsRow.lt h.1 g hg
    exact hk g h1 h2
  · obtain ⟨h1, h2⟩ := ownV_lt (h.2.1 u hu).1 hg
    exact hk g h1 h2
theorem ownK_bel {w w' : World} {base : Nat} {v : Value} {us : List UG} (h : OwnK w base v us) (hb : Below w.heap.size w w') : OwnK w' base v us := ownK_heap h fun b _ hl => hb.block b hl
theorem inS_of_ownV {w : World} {base : Nat} {ad : Option Addr} {c : Nat} {l : List Int} (h : OwnV w base 3 (.slice ad l.length c) (intsV l)) : InS (fun b => base ≤ b ∧ (Value.slice ad l.length c).ownBlock = some b) w ad l := fun h0 => by
  have hl : (intsV l).length = l.length := List.length_map ..
  rcases h.2 with ⟨e1, e2⟩ | ⟨g, cap, cur, e1, hg, hh, hn, hc, hcs, hcur⟩
  · rw [hl] at e2
    omega
  · injection e1 with e1 _ _
    subst e1
    refine ⟨g, 0, rfl, ⟨hg, rfl⟩, fun j x hj => ?_⟩
    have hjl := (List.getElem?_eq_some_iff.1 hj).1
    have hb : (intsV l)[j]? = some (.int .i64 x) := by unfold intsV; rw [List.getElem?_map, hj]; rfl
    rw [← hcur, List.getElem?_take_of_lt (by rw [hl]; omega)] at hb
    rw [Nat.zero_add]
    simp [World.cell?, hh]
    simpa using hb
theorem ownK_Z {w : World} {base : Nat} {v : Value} {us : List UG} (h : OwnK w base v us) : OwnZ (fun b => base ≤ b) w base 45 v (us.map (·.1)) := by
  refine ⟨us, rfl, by rw [List.length_map]; exact h.1, fun j x hj => ?_⟩
  obtain ⟨h1, h2⟩ := h.2.1 x (List.mem_of_getElem? hj)
  exact (inS_of_ownV h1).imp fun b _ hb => ⟨hb.1, h2 b hb.2⟩
theorem ownK_val {w : World} {base : Nat} {v : Value} {us : List UG} (h : OwnK w base v us) : ∃ a cap, v = .slice a us.length cap := by
  rcases h.1.2 with ⟨rfl, h0⟩ | ⟨g, cap, cur, rfl, _⟩
  · exact ⟨none, 0, by rw [h0]⟩
  · exact ⟨_, _, rfl⟩
theorem ownK_in {w : World} {base : Nat} {v : Value} {us : List UG} (h : OwnK w base v us) : ∃ ad cap, v = .slice ad us.length cap ∧ InGt (fun b => base ≤ b) w ad (us.map (·.1)) := by
  obtain ⟨ad, cap, h1, h2⟩ := ownZ_in (ownK_Z h)
  rw [List.length_map] at h1
  exact ⟨ad, cap, h1, h2.imp fun b _ hb => hb.elim id id⟩
theorem ownK_app {y w1 : World} {base : Nat} {v v' : Value} {us : List UG} {u : UG} (h : OwnK y base v us) (hu : OwnV y base 3 (inV u) (intsV u.1.2.2)) (hv : ∀ b, (inV u).ownBlock = some b → v.ownBlock ≠ some b) (hd : ∀ x ∈ us, ∀ b, (inV x).ownBlock = some b → (inV u).ownBlock ≠ some b)
    (hrow : w1.ownsRow base 45 3 v' (us.length + 1) (cellsZ us ++ [.int .i64 u.1.1, .int .i64 u.1.2.1, inV u])) (hg : y.grownBy w1 v.ownBlock) (h5 : v'.ownBlock = v.ownBlock ∨ v'.ownBlock = some y.heap.size) : OwnK w1 base v' (us ++ [u]) := by
  have hmv : ∀ z : UG, OwnV y base 3 (inV z) (intsV z.1.2.2) → (∀ b, (inV z).ownBlock = some b → v.ownBlock ≠ some b) → OwnV w1 base 3 (inV z) (intsV z.1.2.2) ∧ ∀ b, (inV z).ownBlock = some b → v'.ownBlock ≠ some b := fun z hz hn => by
    refine ⟨ownV_heap hz fun g hg2 => hg.block g (ownV_lt hz hg2).2 fun e => hn g hg2 e.symm, fun b hb e => ?_⟩
    rcases h5 with h5 | h5
    · exact hn b hb (h5.symm.trans e)
    · have := (ownV_lt hz hb).2
      rw [h5] at e
      injection e with e
      omega
  refine ⟨?_, fun z hz => ?_, ?_⟩
  · rw [cellsZ_app, List.length_append]
    exact hrow
  · rcases List.mem_append.1 hz with hz | hz
    · exact hmv z (h.2.1 z hz).1 (h.2.1 z hz).2
    · rw [List.mem_singleton.1 hz]
      exact hmv u hu hv
  · rw [List.pairwise_append]
    exact ⟨h.2.2, List.pairwise_singleton _ _, fun x hx z hz b hb => by rw [List.mem_singleton.1 hz]; exact hd x hx b hb⟩
theorem wpList_appK {P : Program} {ops : Array Oper} {rest : List Oper} {o : Oper} {a : Act} {Q : Exit → Act → World → Prop} (hgd : o.guard = none) (s x : Operand) (T : TypeId)
    (ho : o.op = .call { callee := .builtin .append, args := #[s, x], argTypes := #[T, T] }) (i : TypeInfo) (ht : P.underlying T = some (.slice 45)) (hi : P.info? 45 = some i)
    (hz : i.zero = some (.agg #[.int .i64 0, .int .i64 0, .slice none 0 0])) (hsize : i.size = 3) (hby : i.bytes = 40) (W : World) (base : Nat) (v : Value) (us : List UG) (u : UG) (g0 : Nat)
    (hs : a.eval s = v) (hown : OwnK W base v us) (hu : OwnV W base 3 (inV u) (intsV u.1.2.2)) (hv : ∀ b, (inV u).ownBlock = some b → v.ownBlock ≠ some b) (hd : ∀ x ∈ us, ∀ b, (inV x).ownBlock = some b → (inV u).ownBlock ≠ some b)
    (hx : a.eval x = .slice (some ⟨g0, 0, none⟩) 1 1) (hsrc : W.heap[g0]? = some (.cells #[.int .i64 u.1.1, .int .i64 u.1.2.1, inV u] 45 (0, 0))) (hn : us.length ≤ 100000000) (hbase : base ≤ W.heap.size)
    (h : ∀ g c w1, OwnK w1 base (.slice (some ⟨g, 0, none⟩) (us.length + 1) c) (us ++ [u]) → Below base W w1 → W.heap.size ≤ w1.heap.size → wpList P ops Q rest (a.put o.dst (.slice (some ⟨g, 0, none⟩) (us.length + 1) c)) w1) :
    wpList P ops Q (o :: rest) a W := by
  refine wpList_append_own_at _ hgd s x T ho base 45 i _ 3 40 ht hi hz hsize hby rfl (by decide) v us.length (cellsZ us) hs hown.1 ⟨g0, 0, none⟩ 1 1 [.int .i64 u.1.1, .int .i64 u.1.2.1, inV u] hx rfl ?_ ?_ (by unfold maxLen; omega) (by omega) hbase ?_
  · intro j z hj
    match j, hj with
    | 0, hj => simp at hj; subst hj; simp [Addr.add, World.cell?, hsrc]
    | 1, hj => simp at hj; subst hj; simp [Addr.add, World.cell?, hsrc]
    | 2, hj => simp at hj; subst hj; simp [Addr.add, World.cell?, hsrc]
  · intro z hz
    simp at hz
    rcases hz with rfl | rfl | rfl <;> rfl
  · intro v' w1 hrow hg hnil h5
    have hof := ownK_app hown hu hv hd hrow hg h5
    obtain ⟨g, c, rfl⟩ : ∃ g c, v' = .slice (some ⟨g, 0, none⟩) (us.length + 1) c := by
      rcases hrow.2 with ⟨_, h0⟩ | ⟨g, cp, cur, hv, _⟩
      · omega
      · exact ⟨g, cp, hv⟩
    exact h g c w1 hof ((Below.refl _ W).grown hg hbase (fun k hk => (World.ownsRow.lt hown.1 k hk).1)) hg.size
theorem wpList_appI {P : Program} {ops : Array Oper} {rest : List Oper} {o : Oper} {a : Act} {Q : Exit → Act → World → Prop} (hgd : o.guard = none) (s x : Operand) (T : TypeId)
    (ho : o.op = .call { callee := .builtin .append, args := #[s, x], argTypes := #[T, T] }) (i : TypeInfo) (ht : P.underlying T = some (.slice 3)) (hi : P.info? 3 = some i)
    (hz : i.zero = some (.int .i64 0)) (hsize : i.size = 1) (hby : i.bytes = 8) (W : World) (base : Nat) (v : Value) (l : List Int) (u : Int) (g0 : Nat)
    (hs : a.eval s = v) (hown : OwnV W base 3 v (intsV l)) (hx : a.eval x = .slice (some ⟨g0, 0, none⟩) 1 1) (hsrc : W.heap[g0]? = some (.cells #[.int .i64 u] 3 (0, 0))) (hn : l.length < 17592186044416) (hbase : base ≤ W.heap.size)
    (h : ∀ g c w1, OwnV w1 base 3 (.slice (some ⟨g, 0, none⟩) (l.length + 1) c) (intsV (l ++ [u])) → Below base W w1 → W.heap.size ≤ w1.heap.size → wpList P ops Q rest (a.put o.dst (.slice (some ⟨g, 0, none⟩) (l.length + 1) c)) w1) :
    wpList P ops Q (o :: rest) a W := by
  have hl : (intsV l).length = l.length := List.length_map ..
  have hown' : W.ownsRow base 3 1 v l.length (intsV l) := by have := hown; unfold OwnV at this; rwa [hl] at this
  refine wpList_append_own_at _ hgd s x T ho base 3 i _ 1 8 ht hi hz hsize hby rfl (by decide) v l.length (intsV l) hs hown' ⟨g0, 0, none⟩ 1 1 [.int .i64 u] hx rfl ?_ ?_ (by unfold maxLen; omega) (by omega) hbase ?_
  · intro j z hj
    match j, hj with
    | 0, hj => simp at hj; subst hj; simp [Addr.add, World.cell?, hsrc]
  · intro z hz
    simp at hz
    rw [hz]
    rfl
  · intro v' w1 hrow hg hnil h5
    obtain ⟨g, c, rfl⟩ : ∃ g c, v' = .slice (some ⟨g, 0, none⟩) (l.length + 1) c := by
      rcases hrow.2 with ⟨_, h0⟩ | ⟨g, cp, cur, hv, _⟩
      · omega
      · exact ⟨g, cp, hv⟩
    refine h g c w1 ?_ ((Below.refl _ W).grown hg hbase (fun k hk => (ownV_lt hown hk).1)) hg.size
    unfold OwnV
    rw [show intsV (l ++ [u]) = intsV l ++ [.int .i64 u] by simp [intsV], List.length_append, hl]
    exact hrow
def ToS (W : World) (lo T c n : Nat) (num : List Nat) : Prop := OwnN W lo (.slice (some ⟨T, 0, none⟩) n c) (num ++ List.replicate (n - num.length) 0) ∧ num.length ≤ n
theorem ownN_cells {w : World} {base g c n : Nat} {l : List Nat} (h : OwnN w base (.slice (some ⟨g, 0, none⟩) n c) l) {j p : Nat} (hj : l[j]? = some p) : w.cell? ⟨g, j, none⟩ = some (.int .i64 (p : Int)) ∧ w.frozen? ⟨g, j, none⟩ = false := by
  rcases h with ⟨hxl, ⟨e1, e2⟩ | ⟨g', cap', cur, e1, hg, hh, hn, hc, hcs, hcur⟩⟩
  · cases e1
  · injection e1 with e1 _ _
    injection e1 with e1
    injection e1 with e1 _ _
    subst e1
    have hjl := (List.getElem?_eq_some_iff.1 hj).1
    have hb : (natsV l)[j]? = some (.int .i64 (p : Int)) := by unfold natsV; rw [List.getElem?_map, hj]; rfl
    rw [← hcur, List.getElem?_take_of_lt (by omega)] at hb
    refine ⟨?_, ?_⟩
    · simp [World.cell?, hh]
      simpa using hb
    · simp [World.frozen?, hh]
theorem pad_get {num : List Nat} {n k : Nat} (hk : k < n) (hn : num.length ≤ n) : (num ++ List.replicate (n - num.length) 0)[k]? = some (num.getD k 0) := by
  rcases Nat.lt_or_ge k num.length with h | h
  · rw [List.getElem?_append_left h, List.getD_eq_getElem?_getD, List.getElem?_eq_getElem h]
    rfl
  · rw [List.getElem?_append_right h, List.getElem?_replicate, if_pos (by omega), List.getD_eq_getElem?_getD, List.getElem?_eq_none h]
    rfl
theorem ToS.at {W : World} {lo T c n : Nat} {num : List Nat} (h : ToS W lo T c n num) {k : Nat} (hk : k < n) : W.cell? ⟨T, k, none⟩ = some (.int .i64 ((num.getD k 0 : Nat) : Int)) ∧ W.frozen? ⟨T, k, none⟩ = false :=
  ownN_cells h.1 (pad_get hk h.2)
theorem ToS.heap {W W' : World} {lo T c n : Nat} {num : List Nat} (h : ToS W lo T c n num) (hk : W'.heap[T]? = W.heap[T]?) : ToS W' lo T c n num :=
  ⟨ownsRow_heap h.1 fun g hg => by injection hg with hg; rw [← hg]; exact hk, h.2⟩
theorem ToS.lt {W : World} {lo T c n : Nat} {num : List Nat} (h : ToS W lo T c n num) : lo ≤ T ∧ T < W.heap.size := World.ownsRow.lt h.1 T rfl
theorem pad_skip {num : List Nat} {n : Nat} (hn : num.length < n) : num ++ List.replicate (n - num.length) 0 = (num ++ [0]) ++ List.replicate (n - (num ++ [0]).length) 0 := by
  rw [List.append_assoc, List.length_append, List.length_singleton]
  congr 1
  rw [show n - num.length = (n - (num.length + 1)) + 1 by omega, List.replicate_succ]
  rfl
theorem ToS.skip {W : World} {lo T c n : Nat} {num : List Nat} (h : ToS W lo T c n num) (hn : num.length < n) : ToS W lo T c n (num ++ [0]) := by
  refine ⟨?_, by rw [List.length_append, List.length_singleton]; omega⟩
  rw [← pad_skip hn]
  exact h.1
theorem ToS.set {W : World} {lo T c n : Nat} {num : List Nat} (h : ToS W lo T c n num) (hn : num.length < n) (x : Nat) : ToS (W.setCell ⟨T, num.length, none⟩ (.int .i64 (x : Int))) lo T c n (num ++ [x]) := by
  refine ⟨?_, by rw [List.length_append, List.length_singleton]; omega⟩
  have hl : (num ++ List.replicate (n - num.length) 0).length = n := by rw [List.length_append, List.length_replicate]; omega
  have h1 : W.ownsRow lo 3 1 (.slice (some ⟨T, 0, none⟩) n c) n (natsV (num ++ List.replicate (n - num.length) 0)) := by have := h.1; unfold OwnN at this; rwa [hl] at this
  have h2 := (World.ownsRow.stored h1 num.length (.int .i64 (x : Int))).1
  have e : (num ++ List.replicate (n - num.length) 0).set num.length x = (num ++ [x]) ++ List.replicate (n - (num ++ [x]).length) 0 := by
    rw [pad_skip hn, List.append_assoc, List.set_append_right _ _ (Nat.le_refl _), Nat.sub_self, List.append_assoc]
    simp
  unfold OwnN
  rw [← e, List.length_set, hl]
  unfold natsV at h2 ⊢
  rw [List.map_set]
  exact h2
structure Pk (w : World) (nb T tc n ob rb fb base : Nat) (nv : Array Value) (fo : Obj) (num : List Nat) (us : List UG) (gv : Value) (W : World) : Prop where
  net : W.heap[nb]? = some (.cells nv 25 (0, 0))
  to : ToS W w.heap.size T tc n num
  fx : W.heap[fb]? = some fo
  out : W.heap[ob]? = some (.cells #[gv, .slice none 0 0] 25 (0, 0))
  res : W.heap[rb]? = some (.cells #[.slice none 0 0, .slice none 0 0] 25 (0, 0))
  gts : OwnK W base gv us
  bel : Below w.heap.size w W
  sz : base ≤ W.heap.size
  lo : w.heap.size ≤ nb ∧ w.heap.size ≤ ob ∧ w.heap.size ≤ rb ∧ w.heap.size ≤ base
  hi : nb < base ∧ T < base ∧ ob < base ∧ rb < base ∧ fb < base
  ne : nb ≠ T ∧ nb ≠ ob ∧ fb ≠ T ∧ fb ≠ ob ∧ rb ≠ T ∧ rb ≠ ob ∧ T ≠ ob
variable {w : World} {nb T tc n ob rb fb base : Nat} {nv : Array Value} {fo : Obj} {num : List Nat} {us : List UG} {gv : Value} {W : World}
theorem Pk.of (h : Pk w nb T tc n ob rb fb base nv fo num us gv W) {W' : World} (hb : Below W.heap.size W W') : Pk w nb T tc n ob rb fb base nv fo num us gv W' := by
  obtain ⟨l1, l2, l3, l4⟩ := h.lo
  obtain ⟨k1, k2, k3, k4, k5⟩ := h.hi
  have hs := h.sz
  exact ⟨obj_below hb (by omega) h.net, h.to.heap (hb.block _ (by omega)), obj_below hb (by omega) h.fx, obj_below hb (by omega) h.out, obj_below hb (by omega) h.res, ownK_bel h.gts hb, h.bel.trans (hb.mono (by omega)), Nat.le_trans hs hb.size, h.lo, h.hi, h.ne⟩
theorem Pk.skip (h : Pk w nb T tc n ob rb fb base nv fo num us gv W) (hn : num.length < n) : Pk w nb T tc n ob rb fb base nv fo (num ++ [0]) us gv W :=
  ⟨h.net, h.to.skip hn, h.fx, h.out, h.res, h.gts, h.bel, h.sz, h.lo, h.hi, h.ne⟩
theorem Pk.set (h : Pk w nb T tc n ob rb fb base nv fo num us gv W) (hn : num.length < n) (x : Nat) : Pk w nb T tc n ob rb fb base nv fo (num ++ [x]) us gv (W.setCell ⟨T, num.length, none⟩ (.int .i64 (x : Int))) := by
  obtain ⟨l1, l2, l3, l4⟩ := h.lo
  obtain ⟨k1, k2, k3, k4, k5⟩ := h.hi
  obtain ⟨n1, n2, n3, n4, n5, n6, n7⟩ := h.ne
  have ht := h.to.lt
  refine ⟨obj_neD _ n1 h.net, h.to.set hn x, obj_neD _ n3 h.fx, obj_neD _ (fun e => n7 e.symm) h.out, obj_neD _ n5 h.res, ownK_heap h.gts fun b hb _ => set_heap_ne _ ?_, h.bel.setCell (p := ⟨T, num.length, none⟩) (by simp; omega) _, by simpa using h.sz, h.lo, h.hi, h.ne⟩
  omega
theorem Pk.app (h : Pk w nb T tc n ob rb fb base nv fo num us gv W) {w1 : World} {us' : List UG} {gv' : Value} (hk : OwnK w1 base gv' us') (hb : Below base W w1) (hs : W.heap.size ≤ w1.heap.size) : Pk w nb T tc n ob rb fb base nv fo num us' gv' (w1.setCell ⟨ob, 0, none⟩ gv') := by
  obtain ⟨l1, l2, l3, l4⟩ := h.lo
  obtain ⟨k1, k2, k3, k4, k5⟩ := h.hi
  obtain ⟨n1, n2, n3, n4, n5, n6, n7⟩ := h.ne
  have ht := h.to.lt
  have hsz := h.sz
  refine ⟨obj_neD _ n2 (obj_below hb k1 h.net), (h.to.heap (hb.block _ k2)).heap (set_heap_ne _ (by omega)), obj_neD _ n4 (obj_below hb k5 h.fx), ?_, obj_neD _ n6 (obj_below hb k4 h.res), ownK_heap hk fun b hb2 _ => set_heap_ne _ (by omega), (h.bel.trans (hb.mono l4)).setCell (p := ⟨ob, 0, none⟩) (by simp; omega) _, by simp; omega, h.lo, h.hi, h.ne⟩
  have := obj_setD (i := 0) gv' (obj_below hb k3 h.out)
  simpa using this
end Go.Proofs.YtlnedapimmabdaaGreatDoor

namespace Go.Proofs.YtlnedapimmabdaaGreatDoor
set_option linter.unusedVariables false
set_option linter.unusedSimpArgs false
open Go.RowKit
attribute [local go_sem low] Bel.cell Bel.frozen alloc_cell alloc_frozen
attribute [local go_sem] calmOp chainOp yieldsC grows

def RetNt (N : Nt) (w : World) (e : Ending) (w' : World) : Prop := ∃ us ga gc ov, us.map (·.1) = N.1.map gz ∧ e = .returned (.agg #[.slice ga us.length gc, ov]) ∧ OwnK w' w.heap.size (.slice ga us.length gc) us ∧ OwnV w' w.heap.size 3 ov (intsV (intsN N.2)) ∧ (∀ b, ov.ownBlock = some b → ∀ u ∈ us, (inV u).ownBlock ≠ some b) ∧ (∀ b, ov.ownBlock = some b → (Value.slice ga us.length gc).ownBlock ≠ some b) ∧ Below w.heap.size w w'
structure Po (w : World) (nb T tc n ob rb base : Nat) (nv : Array Value) (num : List Nat) (us : List UG) (gv ov : Value) (outs : List Nat) (W : World) : Prop where
  net : W.heap[nb]? = some (.cells nv 25 (0, 0))
  to : ToS W w.heap.size T tc n num
  out : W.heap[ob]? = some (.cells #[gv, ov] 25 (0, 0))
  res : W.heap[rb]? = some (.cells #[.slice none 0 0, .slice none 0 0] 25 (0, 0))
  gts : OwnK W w.heap.size gv us
  ous : OwnV W base 3 ov (intsV (intsN outs))
  bel : Below w.heap.size w W
  sz : base ≤ W.heap.size
  lo : w.heap.size ≤ ob ∧ w.heap.size ≤ rb ∧ w.heap.size ≤ base
  hi : nb < base ∧ T < base ∧ ob < base ∧ rb < base
  ne : nb ≠ ob ∧ rb ≠ ob ∧ T ≠ ob
  og : (∀ b, ov.ownBlock = some b → (∀ u ∈ us, (inV u).ownBlock ≠ some b) ∧ gv.ownBlock ≠ some b)
  gl : (∀ b, gv.ownBlock = some b → b < base ∧ b ≠ ob ∧ b ≠ rb) ∧ ∀ u ∈ us, ∀ b, (inV u).ownBlock = some b → b < base ∧ b ≠ ob ∧ b ≠ rb
variable {w : World} {nb T tc n ob rb fb base base2 : Nat} {nv : Array Value} {fo : Obj} {num : List Nat} {us : List UG} {gv ov : Value} {outs : List Nat} {W : World}
theorem ownK_lo {w : World} {base base' : Nat} {v : Value} {us : List UG} (h : OwnK w base v us) (hb : base' ≤ base) : OwnK w base' v us := by
  obtain ⟨⟨hxl, h1⟩, h2, h3⟩ := h
  refine ⟨⟨hxl, ?_⟩, fun u hu => ⟨ownV_mono (h2 u hu).1 hb, (h2 u hu).2⟩, h3⟩
  rcases h1 with ⟨e1, e2⟩ | ⟨g, cap, cur, e1, hg, hh⟩
  · exact .inl ⟨e1, e2⟩
  · exact .inr ⟨g, cap, cur, e1, Nat.le_trans hb hg, hh⟩
theorem Pk.start (h : Pk w nb T tc n ob rb fb base nv fo num us gv W) : Po w nb T tc n ob rb W.heap.size nv num us gv (.slice none 0 0) [] W := by
  obtain ⟨l1, l2, l3, l4⟩ := h.lo
  obtain ⟨k1, k2, k3, k4, k5⟩ := h.hi
  obtain ⟨n1, n2, n3, n4, n5, n6, n7⟩ := h.ne
  have hs := h.sz
  refine ⟨h.net, h.to, h.out, h.res, ownK_lo h.gts l4, ownV_nil _ _ _, h.bel, Nat.le_refl _, ⟨l2, l3, by omega⟩, ⟨by omega, by omega, by omega, by omega⟩, ⟨n2, n6, n7⟩, fun b hb => (by simp [Value.ownBlock] at hb), ⟨fun b hb => ?_, fun u hu b hb => ?_⟩⟩
  · obtain ⟨h1, h2⟩ := World.ownsRow.lt h.gts.1 b hb
    exact ⟨h2, by omega, by omega⟩
  · obtain ⟨h1, h2⟩ := ownV_lt (h.gts.2.1 u hu).1 hb
    exact ⟨h2, by omega, by omega⟩
theorem obj_set2 {W : World} {b : Nat} {x y : Value} {t : TypeId} (x' y' : Value) (h : W.heap[b]? = some (.cells #[x, y] t (0, 0))) : ((W.setCell ⟨b, 0, none⟩ x').setCell ⟨b, 1, none⟩ y').heap[b]? = some (.cells #[x', y'] t (0, 0)) := by
  have := obj_setD (i := 1) y' (obj_setD (i := 0) x' h)
  simpa using this
theorem Po.of (h : Po w nb T tc n ob rb base nv num us gv ov outs W) {W' : World} (hb : Below W.heap.size W W') : Po w nb T tc n ob rb base nv num us gv ov outs W' := by
  obtain ⟨l1, l2, l3⟩ := h.lo
  obtain ⟨k1, k2, k3, k4⟩ := h.hi
  have hs := h.sz
  exact ⟨obj_below hb (by omega) h.net, h.to.heap (hb.block _ (by omega)), obj_below hb (by omega) h.out, obj_below hb (by omega) h.res, ownK_bel h.gts hb, ownV_heap h.ous fun g hg => hb.block g (ownV_lt h.ous hg).2, h.bel.trans (hb.mono (by omega)), Nat.le_trans hs hb.size, h.lo, h.hi, h.ne, h.og, h.gl⟩
theorem Po.app (h : Po w nb T tc n ob rb base nv num us gv ov outs W) {w1 : World} {ov' : Value} {o : Nat} (hk : OwnV w1 base 3 ov' (intsV (intsN outs ++ [(o : Int)]))) (hb : Below base W w1) (hs : W.heap.size ≤ w1.heap.size) : Po w nb T tc n ob rb base nv num us gv ov' (outs ++ [o]) (w1.setCell ⟨ob, 1, none⟩ ov') := by
  obtain ⟨l1, l2, l3⟩ := h.lo
  obtain ⟨k1, k2, k3, k4⟩ := h.hi
  obtain ⟨n1, n2, n3⟩ := h.ne
  have hsz := h.sz
  have hkeep : ∀ b, b < base → b ≠ ob → (w1.setCell ⟨ob, 1, none⟩ ov').heap[b]? = W.heap[b]? := fun b h1 h2 => (set_heap_ne _ h2).trans (hb.block b h1)
  have hin : intsN (outs ++ [o]) = intsN outs ++ [(o : Int)] := by unfold intsN; rw [List.map_append]; rfl
  refine ⟨obj_neD _ n1 (obj_below hb k1 h.net), h.to.heap (hkeep T k2 n3), ?_, obj_neD _ n2 (obj_below hb k4 h.res), ?_, ?_, (h.bel.trans (hb.mono l3)).setCell (p := ⟨ob, 1, none⟩) (by simp; omega) _, by simp; omega, h.lo, h.hi, h.ne, fun b hb2 => ?_, h.gl⟩
  · have := obj_setD (i := 1) ov' (obj_below hb k3 h.out)
    simpa using this
  · refine ⟨ownsRow_heap h.gts.1 fun g hg => ?_, fun u hu => ⟨ownV_heap (h.gts.2.1 u hu).1 fun g hg => ?_, (h.gts.2.1 u hu).2⟩, h.gts.2.2⟩
    · obtain ⟨a1, a2, a3⟩ := h.gl.1 g hg
      exact hkeep g a1 a2
    · obtain ⟨a1, a2, a3⟩ := h.gl.2 u hu g hg
      exact hkeep g a1 a2
  · rw [hin]
    exact ownV_heap hk fun g hg => set_heap_ne _ (by have := (ownV_lt hk hg).1; omega)
  · have := (ownV_lt hk hb2).1
    refine ⟨fun u hu e => ?_, fun e => ?_⟩
    · have := (h.gl.2 u hu b e).1
      omega
    · have := (h.gl.1 b e).1
      omega
theorem Po.done (h : Po w nb T tc n ob rb base nv num us gv ov outs W) {G : List Gt} (hu : us.map (·.1) = G.map gz) (u1 u2 : Value) (hne : rb ≠ ob) : RetNt (G, outs) w (.returned (.agg #[gv, ov])) ((W.setCell ⟨rb, 0, none⟩ u1).setCell ⟨rb, 1, none⟩ u2) := by
  obtain ⟨l1, l2, l3⟩ := h.lo
  obtain ⟨k1, k2, k3, k4⟩ := h.hi
  obtain ⟨ga, gc, rfl⟩ := ownK_val h.gts
  have hk : ∀ b, b ≠ rb → ((W.setCell ⟨rb, 0, none⟩ u1).setCell ⟨rb, 1, none⟩ u2).heap[b]? = W.heap[b]? := fun b hb => (set_heap_ne _ hb).trans (set_heap_ne _ hb)
  refine ⟨us, ga, gc, ov, hu, rfl, ⟨ownsRow_heap h.gts.1 fun g hg => hk g (h.gl.1 g hg).2.2, fun u hu => ⟨ownV_heap (h.gts.2.1 u hu).1 fun g hg => hk g (h.gl.2 u hu g hg).2.2, (h.gts.2.1 u hu).2⟩, h.gts.2.2⟩, ownV_mono (ownV_heap h.ous fun g hg => hk g (by have := (ownV_lt h.ous hg).1; omega)) l3, fun b hb => (h.og b hb).1, fun b hb => (h.og b hb).2, (h.bel.setCell (p := ⟨rb, 0, none⟩) (by simp; omega) _).setCell (p := ⟨rb, 1, none⟩) (by simp; omega) _⟩
theorem take_snoc {α : Type} {l : List α} {k : Nat} {x : α} (h : l[k]? = some x) : l.take (k + 1) = l.take k ++ [x] := by
  rw [List.take_add_one, h]
  rfl
theorem packF_len (on : Nat → Bool) : ∀ (G : List Gt) (s : List Gt × List Nat), (packF on G s).2.length = s.2.length + G.length
  | [], s => rfl
  | g :: r, s => by
    rw [packF, packF_len on r, List.length_cons]
    split <;> simp <;> omega
theorem packF_take {on : Nat → Bool} {G : List Gt} {k : Nat} {g : Gt} (h : G[k]? = some g) : packF on (G.take (k + 1)) ([], []) = (if on k then ((packF on (G.take k) ([], [])).1 ++ [(g.1, g.2.1, g.2.2.map fun i => (packF on (G.take k) ([], [])).2.getD i 0)], (packF on (G.take k) ([], [])).2 ++ [(packF on (G.take k) ([], [])).1.length]) else ((packF on (G.take k) ([], [])).1, (packF on (G.take k) ([], [])).2 ++ [0])) := by
  have hl : (packF on (G.take k) ([], [])).2.length = k := by
    rw [packF_len, List.length_take]
    have := (List.getElem?_eq_some_iff.1 h).1
    simp
    omega
  rw [take_snoc h, packF_app, packF, hl]
  rfl
end Go.Proofs.YtlnedapimmabdaaGreatDoor
