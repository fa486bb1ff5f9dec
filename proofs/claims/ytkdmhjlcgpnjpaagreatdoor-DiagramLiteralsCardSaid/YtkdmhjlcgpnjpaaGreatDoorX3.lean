/- The builder's node: one place for each node. -/
import Derived.Test.YtkdmhjlcgpnjpaaGreatDoorX2
namespace Go.Proofs.YtkdmhjlcgpnjpaaGreatDoor
set_option linter.unusedVariables false
set_option linter.unusedSimpArgs false
open Go.RowKit Go.Maps
attribute [local go_sem low] Bel.cell Bel.frozen alloc_cell alloc_frozen
attribute [local go_sem] calmOp chainOp yieldsC grows
variable {rk : Nat → Nat}

theorem wpList_appD {P : Program} {ops : Array Oper} {rest : List Oper} {o : Oper} {a : Act} {Q : Exit → Act → World → Prop} (hgd : o.guard = none) (s x : Operand) (T E : TypeId)
    (ho : o.op = .call { callee := .builtin .append, args := #[s, x], argTypes := #[T, T] }) (i : TypeInfo) (ht : P.underlying T = some (.slice E)) (hi : P.info? E = some i)
    (hz : i.zero = some (.agg #[.int .i64 0, .int .i64 0, .int .i64 0])) (hsize : i.size = 3) (hby : i.bytes = 24) (W : World) (base : Nat) (v : Value) (N : List (Nat × Nat × Nat)) (n1 n2 n3 : Nat) (g0 : Nat)
    (hs : a.eval s = v) (hown : W.ownsRow base E 3 v N.length (cellsD N)) (hx : a.eval x = .slice (some ⟨g0, 0, none⟩) 1 1) (hsrc : W.heap[g0]? = some (.cells #[.int .i64 (n1 : Int), .int .i64 (n2 : Int), .int .i64 (n3 : Int)] E (0, 0))) (hn : N.length ≤ 100000000) (hbase : base ≤ W.heap.size)
    (h : ∀ g c w1, w1.ownsRow base E 3 (.slice (some ⟨g, 0, none⟩) (N.length + 1) c) (N ++ [(n1, n2, n3)]).length (cellsD (N ++ [(n1, n2, n3)])) → W.grownBy w1 v.ownBlock → (v.ownBlock = some g ∨ g = W.heap.size) → wpList P ops Q rest (a.put o.dst (.slice (some ⟨g, 0, none⟩) (N.length + 1) c)) w1) :
    wpList P ops Q (o :: rest) a W := by
  refine wpList_append_own_at _ hgd s x T ho base E i _ 3 24 ht hi hz hsize hby rfl (by decide) v N.length (cellsD N) hs hown ⟨g0, 0, none⟩ 1 1 [.int .i64 (n1 : Int), .int .i64 (n2 : Int), .int .i64 (n3 : Int)] hx rfl ?_ ?_ (by unfold maxLen; omega) (by omega) hbase ?_
  · intro j z hj
    match j, hj with
    | 0, hj => simp at hj; subst hj; simp [Addr.add, World.cell?, hsrc]
    | 1, hj => simp at hj; subst hj; simp [Addr.add, World.cell?, hsrc]
    | 2, hj => simp at hj; subst hj; simp [Addr.add, World.cell?, hsrc]
  · intro z hz
    simp at hz
    rcases hz with rfl | rfl | rfl <;> rfl
  · intro v' w1 hrow hg hnil h5
    obtain ⟨g, c, rfl⟩ : ∃ g c, v' = .slice (some ⟨g, 0, none⟩) (N.length + 1) c := by
      rcases hrow.2 with ⟨_, h0⟩ | ⟨g, cp, cur, hv, _⟩
      · omega
      · exact ⟨g, cp, hv⟩
    refine h g c w1 ?_ hg ?_
    · rw [List.length_append, cellsD_app]
      exact hrow
    · rcases h5 with h5 | h5
      · exact .inl h5.symm
      · exact .inr (by injection h5)
set_option maxRecDepth 100000 in
theorem side_any {w : World} {b0 B mp md base : Nat} {v : Value} {N : List (Nat × Nat × Nat)} {D : Nat} (h : Bld rk w b0 B mp md base v N D) (p x : Nat) (yes : Bool) (hp : p < N.length + 2) (hl : N.length ≤ 1000000) (hx : x < 4096) :
    Calls Tryz.prog 98 #[.pointer (some ⟨B, 0, none⟩), .int .i64 (p : Int), .int .i64 (x : Int), .bool yes] w (Ret (.int .i64 ((if var3 N p = x then (if yes then (node3 N p).2.2 else (node3 N p).2.1) else p : Nat) : Int)) w) := by
  have HV := Lib.hid (fun w' (h' : Bld rk w' b0 B mp md base v N D) => variable_any h' p hp hl)
  have HB := Lib.hid h
  by_cases hv : var3 N p = x
  · have h2 : 2 ≤ p := by
      rcases Nat.lt_or_ge p 2 with h2 | h2
      · unfold var3 at hv; rw [if_pos h2] at hv; omega
      · exact h2
    rw [if_pos hv]
    obtain ⟨b1, _⟩ := bld_cells h
    obtain ⟨g, c, rfl, c0, c1, c2⟩ := bld_node h hp h2
    obtain ⟨y, hy⟩ : ∃ y, node3 N p = y := ⟨_, rfl⟩
    rw [hy] at c1 c2 ⊢
    rw [hv] at HV
    obtain ⟨q, rfl⟩ : ∃ q, p = q + 2 := ⟨p - 2, by omega⟩
    rw [Nat.add_sub_cancel] at c1 c2
    have hq : (((q + 2 : Nat) : Int) - 2) = (q : Int) := by omega
    have hib : (0 ≤ (q : Int) ∧ (q : Int) < (N.length : Int)) := ⟨by omega, by omega⟩
    have f0 : ((x : Int) != (x : Int)) = false := by simp
    clear h c0 hy hv
    cases yes
    · rw [if_neg (by decide)]
      go_enter Tryz.func98, Tryz.ntmps98
      go_wp2_with fail
      refine (HV.out _ HB.out).mono ?_
      rintro _ _ ⟨rfl, y1, rfl⟩
      go_wp2
      go_ret
      exact Ret.mk (by rfl) (by (repeat' (first | (with_reducible exact Below.refl _ _) | (with_reducible exact Nat.le_refl _) | (with_reducible refine Below.bel ?_ ?_) | (with_reducible refine Below.alloc ?_ ?_ _) | (with_reducible refine Below.drew ?_) | (with_reducible refine Below.drawsN ?_ _) | (with_reducible refine Below.setCell ?_ ?_ _) | (with_reducible refine le_bel ?_) | (with_reducible refine le_alloc ?_) | (with_reducible refine le_setCell ?_) | (with_reducible refine le_drew ?_) | (with_reducible refine le_drawsN ?_) | (dsimp only; with_reducible refine le_bel ?_) | (dsimp only; with_reducible refine Nat.le_refl _) | (dsimp only; with_reducible refine le_bel_add ?_) | (with_reducible assumption) | omega | (dsimp only; omega))))
    · rw [if_pos rfl]
      go_enter Tryz.func98, Tryz.ntmps98
      go_wp2_with fail
      refine (HV.out _ HB.out).mono ?_
      rintro _ _ ⟨rfl, y1, rfl⟩
      go_wp2
      go_ret
      exact Ret.mk (by rfl) (by (repeat' (first | (with_reducible exact Below.refl _ _) | (with_reducible exact Nat.le_refl _) | (with_reducible refine Below.bel ?_ ?_) | (with_reducible refine Below.alloc ?_ ?_ _) | (with_reducible refine Below.drew ?_) | (with_reducible refine Below.drawsN ?_ _) | (with_reducible refine Below.setCell ?_ ?_ _) | (with_reducible refine le_bel ?_) | (with_reducible refine le_alloc ?_) | (with_reducible refine le_setCell ?_) | (with_reducible refine le_drew ?_) | (with_reducible refine le_drawsN ?_) | (dsimp only; with_reducible refine le_bel ?_) | (dsimp only; with_reducible refine Nat.le_refl _) | (dsimp only; with_reducible refine le_bel_add ?_) | (with_reducible assumption) | omega | (dsimp only; omega))))
  · rw [if_neg hv]
    obtain ⟨q, hq⟩ : ∃ q, var3 N p = q := ⟨_, rfl⟩
    rw [hq] at HV hv
    have f0 : ((q : Int) != (x : Int)) = true := by simp; omega
    clear h hq
    go_enter Tryz.func98, Tryz.ntmps98
    go_wp2_with fail
    refine (HV.out _ HB.out).mono ?_
    rintro _ _ ⟨rfl, y1, rfl⟩
    go_wp2
    go_ret
    exact Ret.mk (by rfl) (by (repeat' (first | (with_reducible exact Below.refl _ _) | (with_reducible exact Nat.le_refl _) | (with_reducible refine Below.bel ?_ ?_) | (with_reducible refine Below.alloc ?_ ?_ _) | (with_reducible refine Below.drew ?_) | (with_reducible refine Below.drawsN ?_ _) | (with_reducible refine Below.setCell ?_ ?_ _) | (with_reducible refine le_bel ?_) | (with_reducible refine le_alloc ?_) | (with_reducible refine le_setCell ?_) | (with_reducible refine le_drew ?_) | (with_reducible refine le_drawsN ?_) | (dsimp only; with_reducible refine le_bel ?_) | (dsimp only; with_reducible refine Nat.le_refl _) | (dsimp only; with_reducible refine le_bel_add ?_) | (with_reducible assumption) | omega | (dsimp only; omega))))
end Go.Proofs.YtkdmhjlcgpnjpaaGreatDoor
