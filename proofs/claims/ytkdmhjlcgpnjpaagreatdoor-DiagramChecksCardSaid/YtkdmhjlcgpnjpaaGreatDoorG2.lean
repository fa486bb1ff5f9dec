/- The iterator over the nodes of a formula. -/
import Derived.RangeFuncNested
import Derived.Laws.EntriesVeiled
import Derived.RangeFuncBound
import Derived.RangeFuncCalls
import Derived.RangeFuncLeaves
import Derived.Shelf.Abstract
import Derived.Shelf.RegionOpen
import Derived.WalkKit
import Derived.OwnWalkIn
import Derived.TacticsInMore
import Derived.LoopNIn
import Derived.LoopIn
import Derived.Test.YtkdmhjlcgpnjpaaGreatDoorG1
import Derived.Test.YtkdmhjlcgpnjpaaGreatDoorCm
namespace Go.Proofs.YtkdmhjlcgpnjpaaGreatDoor
set_option linter.unusedVariables false
set_option linter.unusedSimpArgs false
open Go.RowKit Go.Shelf F
attribute [local go_sem low] Bel.cell Bel.frozen alloc_cell alloc_frozen
attribute [local go_sem] Oper.semAt_some

theorem room_of_none {F : Fence} (hd : F.depth = none) (k : Nat) : F.room k := fun d h => by rw [hd] at h; cases h
theorem RoundIn.anyDepth {m m' : Nat} {P : Program} {l : Nat} {f : FuncId} {tmps : Array Value} {assign body : Code} {w : World} {R : Ending → World → Prop}
    (h : RoundIn Fence.wide m P l f tmps assign body w R) : RoundIn Fence.wide m' P l f tmps assign body w R := ⟨h.1, fun c cs _ => h.2 c cs (room_of_none rfl _)⟩
theorem YieldAt.anyDepth {m : Nat} (m' : Nat) {P : Program} {l : Nat} {args : Array Value} {W : World} {R : Ending → World → Prop} (h : YieldAt Fence.wide m P l args W R) : YieldAt Fence.wide m' P l args W R := by
  obtain ⟨fn, tmps, assign, body, hy, hR⟩ := h
  exact ⟨fn, tmps, assign, body, hy, RoundIn.anyDepth hR⟩
/-- A node with its place. -/
abbrev Nd := F × Option Addr × Nat
def ndV (x : Nd) : Value := .agg #[.int .i64 x.1.k, .int .i64 x.1.a, .slice x.2.1 x.1.l.length x.2.2]
/-- What lay below n₀ lies; so do the formulas' boxes, and the functions', from n₁ on. -/
def KeepsB (n₀ n₁ : Nat) (W W' : World) : Prop := Below n₀ W W' ∧ ∀ (b : Nat) vs e r, e = 26 ∨ e = 166 → n₁ ≤ b → W.heap[b]? = some (.cells vs e r) → W'.heap[b]? = some (.cells vs e r)
theorem keepsB_t {n₀ n₁ : Nat} {A B C : World} (h : KeepsB n₀ n₁ A B) (k : KeepsB n₀ n₁ B C) : KeepsB n₀ n₁ A C :=
  ⟨h.1.trans k.1, fun b vs e r he hb hv => k.2 b vs e r he hb (h.2 b vs e r he hb hv)⟩
theorem keepsB_b {n₀ n₁ : Nat} {w : World} (hn : n₀ ≤ w.heap.size) (W : World) (l : Nat) (o o' : Obj) (hl : w.heap.size ≤ l) (h : W.heap[l]? = some o) (h1 : o.isCells = false) (h2 : o.isWalk = false) : KeepsB n₀ n₁ W (W.putObj l o') :=
  ⟨belowK_b hn W l o o' hl h h1 h2, fun b vs e r _ hb hv => by
    have hne : b ≠ l := fun he => by
      subst he
      rw [hv] at h
      injection h with h
      subst h
      cases h1
    exact ((grownBy_putObj' W l o').block b (Array.getElem?_eq_some_iff.1 hv).1 (fun h => hne (by injection h))).trans hv⟩
theorem keepsB_refl (n₀ n₁ : Nat) (W : World) : KeepsB n₀ n₁ W W := ⟨Below.refl _ _, fun _ _ _ _ _ _ h => h⟩
theorem keepsB_alloc {n₀ n₁ : Nat} {W W' : World} (h : KeepsB n₀ n₁ W W') (hn : n₀ ≤ W'.heap.size) (o : Obj) : KeepsB n₀ n₁ W (W'.alloc o) :=
  ⟨h.1.alloc hn o, fun b vs e r he hb hv => by
    have := h.2 b vs e r he hb hv
    exact ((World.grownBy_alloc W' o none).block b (Array.getElem?_eq_some_iff.1 this).1 (by simp)).trans this⟩
theorem keepsB_grown {n₀ n₁ : Nat} {W W1 W' : World} {row : Option Nat} (h : KeepsB n₀ n₁ W W1) (hg : W1.grownBy W' row) (hn : n₀ ≤ W1.heap.size) (hr : ∀ k, row = some k → n₀ ≤ k ∧ ∀ vs e r, (e = 26 ∨ e = 166) → n₁ ≤ k → W1.heap[k]? ≠ some (.cells vs e r)) : KeepsB n₀ n₁ W W' :=
  ⟨h.1.grown hg hn (fun k e => (hr k e).1), fun b vs e r he hb hv => by
    have hv1 := h.2 b vs e r he hb hv
    exact (hg.block b (Array.getElem?_eq_some_iff.1 hv1).1 (fun hk => (hr b hk.symm).2 vs e r he hb hv1)).trans hv1⟩
theorem keepsB_set {n₀ n₁ : Nat} {W W' : World} (h : KeepsB n₀ n₁ W W') {p : Nat} (hp : n₀ ≤ p) (hp1 : p < n₁) (v : Value) : KeepsB n₀ n₁ W (W'.setCell ⟨p, 0, none⟩ v) :=
  ⟨h.1.setCell (p := ⟨p, 0, none⟩) hp v, fun b vs e r he hb hv => by
    have := h.2 b vs e r he hb hv
    exact ((grownBy_setCell' W' p v).block b (Array.getElem?_eq_some_iff.1 this).1 (fun hk => by injection hk with hk; omega)).trans this⟩
theorem box1 {W : World} {b : Nat} {x : Value} {e : TypeId} (h : W.heap[b]? = some (.cells #[x] e (0, 0))) : W.cell? ⟨b, 0, none⟩ = some x := by
  simp [World.cell?, h]
theorem box3 {W : World} {b : Nat} {x y z : Value} {e : TypeId} (h : W.heap[b]? = some (.cells #[x, y, z] e (0, 0))) : W.cell? ⟨b, 0, none⟩ = some x ∧ W.cell? ⟨b, 1, none⟩ = some y ∧ W.cell? ⟨b, 2, none⟩ = some z := by
  refine ⟨?_, ?_, ?_⟩ <;> simp [World.cell?, h]
theorem preL_take {l : List F} {k : Nat} {u : F} (h : l[k]? = some u) : preL (l.take (k + 1)) = preL (l.take k) ++ pre u := by
  rw [List.take_add_one, h, preL_app]
  show _ ++ preL [u] = _
  rw [preL, preL, List.append_nil]
theorem preL_prefix (l : List F) (k : Nat) : preL (l.take k) <+: preL l := by
  conv => rhs; rw [← List.take_append_drop k l, preL_app]
  exact ⟨_, rfl⟩
def walkV (Bw : Nat) : Value := .func (.func 113) #[] #[.pointer (some ⟨Bw, 0, none⟩)]
def WalkAt (W : World) (Bw : Nat) : Prop := W.heap[Bw]? = some (.cells #[walkV Bw] 166 (0, 0))
theorem walkAt_cell {W : World} {Bw : Nat} (h : WalkAt W Bw) : W.cell? ⟨Bw, 0, none⟩ = some (.func (.func 113) #[] #[.pointer (some ⟨Bw, 0, none⟩)]) := box1 h
theorem walkAt_keeps {n₀ n₁ : Nat} {W W' : World} {Bw : Nat} (h : WalkAt W Bw) (hb : n₁ ≤ Bw) (hk : KeepsB n₀ n₁ W W') : WalkAt W' Bw := hk.2 _ _ _ _ (.inr rfl) hb h
set_option maxRecDepth 100000 in
set_option maxHeartbeats 6400000 in
theorem nodes1_in (l n₀ n₁ NN B0 Bw : Nat) (J Jx : List Nd → World → Prop) (hBw : n₁ ≤ Bw) (hn1 : n₁ ≤ B0) (hJA : AbidesFrom B0 J)
    (hY : ∀ m p x W, J p W → p.length < NN → YieldAt Fence.wide m Tryz.prog l #[ndV x] W fun e W' =>
      (e = .returned (.bool true) ∧ J (p ++ [x]) W' ∧ KeepsB n₀ n₁ W W') ∨ (e = .returned (.bool false) ∧ Jx (p ++ [x]) W')) :
    ∀ (K : Nat) (t : F), nodes t ≤ K → ∀ (n : Nat) (ad : Option Addr) (cap : Nat) (p : List Nd) (W : World), nodes t ≤ 1000000000000 → InsF (fun c => c < n₀) W ad t.l →
      WalkAt W Bw → J p W → p.length + nodes t ≤ NN → B0 ≤ W.heap.size → n₀ ≤ W.heap.size →
      CallsIn Fence.wide n Tryz.prog 113 #[ndV (t, ad, cap), .func (.yield l) #[] #[], .pointer (some ⟨Bw, 0, none⟩)] W fun e W' =>
        (e = .returned (.bool true) ∧ ∃ ys : List Nd, ys.map (·.1) = pre t ∧ J (p ++ ys) W' ∧ KeepsB n₀ n₁ W W') ∨ (e = .returned (.bool false) ∧ ∃ q : List Nd, q.map (·.1) <+: pre t ∧ Jx (p ++ q) W') := by
  intro K
  induction K with
  | zero => intro t h; have := nodes_pos t; omega
  | succ K ih =>
    intro t hK n ad cap p W hbig hi hcw hJ hN hB0 hn0
    have HNL := Lib.hid (show nodesL t.l ≤ K by rw [nodes_l] at hK; omega)
    have HBIG := Lib.hid (show nodesL t.l ≤ 1000000000000 by rw [nodes_l] at hbig; omega)
    have hlen : t.l.length ≤ 1000000000000 := Nat.le_trans (length_nodesL t.l) HBIG.out
    have hNN : p.length + 1 + nodesL t.l ≤ NN := by rw [nodes_l] at hN; omega
    clear hK hbig hN
    have hJ1 := hJA p W (W.alloc (.cells #[.int .i64 t.k, .int .i64 t.a, .slice ad t.l.length cap] 26)) none hJ (World.grownBy_alloc W _ none) (fun r e => by cases e)
    obtain ⟨fn, tmps, assign, body, hy, hR⟩ := hY (n - 1) p (t, ad, cap) _ hJ1 (by omega)
    simp only [ndV] at hy
    refine callsIn_wide.2 ?_
    show Calls _ _ #[.agg #[.int .i64 t.k, .int .i64 t.a, .slice ad t.l.length cap], .func (.yield l) #[] #[], .pointer (some ⟨Bw, 0, none⟩)] _ _
    go_enter Tryz.func113, Tryz.ntmps113
    refine (wpIn_wide (n := n)).1 ?_
    gi_wp2
    refine ⟨fun h => (by cases h), hR.mono ?_⟩
    rintro e W3 (⟨rfl, hJ3, hk3⟩ | ⟨rfl, hJx3⟩)
    · have hbox := box3 (hk3.2 W.heap.size _ _ _ (.inl rfl) (by omega) (World.alloc_heap_new W _))
      obtain ⟨_, _, hbx⟩ := hbox
      have hb3 : KeepsB n₀ n₁ W W3 := keepsB_t (keepsB_alloc (keepsB_refl _ _ _) hn0 _) hk3
      have hi3 := below_move (b := n₀) (w := W) (w' := W3) hi (fun _ h => h) hb3.1
      have hcw3 := walkAt_keeps hcw hBw hb3
      have hs3 : W.heap.size + 1 ≤ W3.heap.size := by have := hk3.1.size; simpa using this
      have HB3 := Lib.hid hb3
      have HW3 := Lib.hid hcw3
      clear hk3 hb3 hcw3
      gi_wp2
      gi_loopw [15] (fun i wr => ∃ (k : Nat) (ys : List Nd), i = .int .i64 (k : Int) ∧ k ≤ t.l.length ∧ ys.map (·.1) = preL (t.l.take k) ∧ J (p ++ [(t, ad, cap)] ++ ys) wr ∧ KeepsB n₀ n₁ W3 wr) (fun i _ => t.l.length - (intOf i).toNat)
      case atStart => exact ⟨0, [], rfl, by omega, rfl, by simpa using hJ3, keepsB_refl _ _ _⟩
      case round =>
        obtain ⟨k, ys, rfl, hk, hys, hJs, hb⟩ := hrel
        have hbs := hb.1.size
        have HKB := Lib.hid hb
        have HWR := Lib.hid (walkAt_keeps HW3.out hBw hb)
        have hiW := below_move (b := n₀) (w := W3) (w' := wr) hi3 (fun _ h => h) hb.1
        have hcwr := walkAt_cell HWR.out
        clear hb
        have hyl : ys.length = nodesL (t.l.take k) := by rw [← preL_len, ← hys, List.length_map]
        rcases Nat.lt_or_ge k t.l.length with hkl | hkl
        · obtain ⟨u, hu⟩ := some_at hkl
          obtain ⟨bb, off, rfl, hp, hcs⟩ := insF_at hiW (by omega)
          obtain ⟨c0, c1, ad', cap', c2, hiu⟩ := cellF_open (hcs k u hu)
          have f0 : decide ((k : Int) < (t.l.length : Int)) = true := decide_eq_true (by omega)
          have hnl : nodesL t.l = nodesL (t.l.take k) + nodes u + nodesL (t.l.drop (k + 1)) := by
            conv => lhs; rw [← List.take_append_drop k t.l, nodesL_app, drop_at hu, nodesL]
            omega
          have hJ4 := hJA _ wr (wr.alloc (.cells #[.int .i64 u.k, .int .i64 u.a, .slice ad' u.l.length cap'] 26)) none hJs (World.grownBy_alloc wr _ none) (fun r e => by cases e)
          have HI := Lib.hid (ih u (Nat.le_trans (nodesL_mem (List.mem_of_getElem? hu)) HNL.out) (n - 1) ad' cap' _ (wr.alloc (.cells #[.int .i64 u.k, .int .i64 u.a, .slice ad' u.l.length cap'] 26)) (Nat.le_trans (nodesL_mem (List.mem_of_getElem? hu)) HBIG.out) (hiu.of (by (repeat' (first | (with_reducible first | exact Below.refl _ _ | exact Nat.le_refl _ | refine Below.bel ?_ ?_ | refine Below.alloc ?_ ?_ _ | refine Below.drew ?_ | refine Below.drawsN ?_ _ | refine Below.setCell ?_ ?_ _ | refine le_bel ?_ | refine le_alloc ?_ | refine le_setCell ?_ | refine le_drew ?_ | refine le_drawsN ?_) | (dsimp only; with_reducible first | refine le_bel ?_ | refine Nat.le_refl _ | refine le_bel_add ?_) | (with_reducible assumption) | omega | (dsimp only; omega)))))
            (walkAt_keeps HWR.out hBw (keepsB_alloc (keepsB_refl n₀ n₁ _) (by omega) _)) hJ4 (by simp only [List.length_append, List.length_singleton]; omega) (by simp; omega) (by simp; omega))
          have HU := Lib.hid hu
          have HYS := Lib.hid hys
          clear hu hys hcs hiW hiu hJ4 hnl hyl
          gi_wp2
          refine ⟨trivial, fun h => (by cases h), HI.out.mono ?_⟩
          rintro e W5 (⟨rfl, zs, hzs, hJ5, hb5⟩ | ⟨rfl, q, hq, hJx5⟩)
          · gi_wp2
            go_roundw
            case rel => exact ⟨k + 1, ys ++ zs, by go_num, by omega, by rw [List.map_append, HYS.out, hzs, preL_take HU.out], by rw [← List.append_assoc]; exact hJ5, keepsB_t (keepsB_alloc HKB.out (by omega) _) hb5⟩
            case measure => simp [intOf]; omega
          · gi_wp2
            go_ret
            refine .inr ⟨rfl, [(t, some ⟨bb, off, none⟩, cap)] ++ ys ++ q, ?_, by simpa [List.append_assoc] using hJx5⟩
            rw [List.map_append, List.map_append, HYS.out, pre_eq]
            obtain ⟨r, hr⟩ := hq
            have h2 := preL_prefix t.l (k + 1)
            rw [preL_take HU.out, ← hr, ← List.append_assoc] at h2
            obtain ⟨r2, hr2⟩ := h2
            exact ⟨r ++ r2, by rw [← hr2]; simp [List.append_assoc]⟩
        · have hke : k = t.l.length := by omega
          subst hke
          have f0 : decide ((t.l.length : Int) < (t.l.length : Int)) = false := decide_eq_false (by omega)
          rw [List.take_length] at hys
          have HYS := Lib.hid hys
          clear hys hyl hiW
          gi_wp2
          go_ret
          exact .inl ⟨rfl, [(t, ad, cap)] ++ ys, by rw [List.map_append, HYS.out, pre_eq]; rfl, by rw [← List.append_assoc]; exact hJs, keepsB_t HB3.out HKB.out⟩
    · gi_wp2
      go_ret
      exact .inr ⟨rfl, [(t, ad, cap)], by rw [pre_eq]; exact ⟨_, rfl⟩, hJx3⟩
set_option maxRecDepth 100000 in
set_option maxHeartbeats 3200000 in
theorem nodes2_in (n l n₀ n₁ NN Bw Bf : Nat) (J Jx : List Nd → World → Prop) (W : World) (t : F) (ad : Option Addr) (cap : Nat) (hBw : n₁ ≤ Bw) (hn1 : n₁ ≤ W.heap.size) (hJA : AbidesFrom W.heap.size J)
    (hY : ∀ m p x W, J p W → p.length < NN → YieldAt Fence.wide m Tryz.prog l #[ndV x] W fun e W' =>
      (e = .returned (.bool true) ∧ J (p ++ [x]) W' ∧ KeepsB n₀ n₁ W W') ∨ (e = .returned (.bool false) ∧ Jx (p ++ [x]) W'))
    (hbig : nodes t ≤ 1000000000000) (hi : InsF (fun c => c < n₀) W ad t.l) (hw : WalkAt W Bw) (hf : W.heap[Bf]? = some (.cells #[.int .i64 t.k, .int .i64 t.a, .slice ad t.l.length cap] 26 (0, 0))) (hJ : J [] W) (hN : nodes t ≤ NN) (hn0 : n₀ ≤ W.heap.size) :
    CallsIn Fence.wide n Tryz.prog 114 #[.func (.yield l) #[] #[], .pointer (some ⟨Bw, 0, none⟩), .pointer (some ⟨Bf, 0, none⟩)] W fun e W' => (∃ v, e = .returned v) ∧
      ((∃ ys : List Nd, ys.map (·.1) = pre t ∧ J ys W') ∨ (∃ q : List Nd, q.map (·.1) <+: pre t ∧ Jx q W')) := by
  have hc := walkAt_cell hw
  obtain ⟨c0, c1, c2⟩ := box3 hf
  have HP := Lib.hid (nodes1_in l n₀ n₁ NN W.heap.size Bw J Jx hBw hn1 hJA hY (nodes t) t (Nat.le_refl _) (n - 1) ad cap [] W hbig hi hw hJ (by simpa using hN) (Nat.le_refl _) hn0)
  clear hw hf
  refine callsIn_wide.2 ?_
  go_enter Tryz.func114, Tryz.ntmps114
  refine (wpIn_wide (n := n)).1 ?_
  gi_wp2
  refine ⟨trivial, fun h => (by cases h), HP.out.mono ?_⟩
  rintro e W1 (⟨rfl, ys, hys, hJ1, _⟩ | ⟨rfl, q, hq, hx⟩)
  · gi_wp2
    go_end0
    exact ⟨⟨_, rfl⟩, .inl ⟨ys, hys, by simpa using hJ1⟩⟩
  · gi_wp2
    go_end0
    exact ⟨⟨_, rfl⟩, .inr ⟨q, hq, by simpa using hx⟩⟩
theorem nodes_any (t : F) (ad : Option Addr) (cap : Nat) (w : World) : Calls Tryz.prog 86 #[.agg #[.int .i64 t.k, .int .i64 t.a, .slice ad t.l.length cap]] w fun e w' =>
    e = .returned (.func (.func 114) #[] #[.pointer (some ⟨w.heap.size + 1, 0, none⟩), .pointer (some ⟨w.heap.size, 0, none⟩)]) ∧ w' = (w.alloc (.cells #[.int .i64 t.k, .int .i64 t.a, .slice ad t.l.length cap] 26)).alloc (.cells #[walkV (w.heap.size + 1)] 166) := by
  go_enter Tryz.func86, Tryz.ntmps86
  go_wp2
  go_ret
  exact ⟨rfl, rfl⟩
theorem nodes_stops (n n₀ n₁ Bw Bf : Nat) (t : F) (ad : Option Addr) (cap : Nat) (w : World) (hBw : n₁ ≤ Bw) (hBf : n₁ ≤ Bf) (hn1 : n₁ ≤ w.heap.size) (hn0 : n₀ ≤ w.heap.size) (hbig : nodes t ≤ 1000000000000) (hi : InsF (fun c => c < n₀) w ad t.l) (hw : WalkAt w Bw) (hf : w.heap[Bf]? = some (.cells #[.int .i64 t.k, .int .i64 t.a, .slice ad t.l.length cap] 26 (0, 0))) :
    SeqStopsK Fence.wide n Tryz.prog 114 #[.pointer (some ⟨Bw, 0, none⟩), .pointer (some ⟨Bf, 0, none⟩)] (fun x : Nd => #[ndV x]) (KeepsB n₀ n₁) (fun ys => ys.map (·.1) = pre t) (fun q => q.map (·.1) <+: pre t) (nodes t) w := fun l J Jx W hW hJ _ hY h0 =>
  nodes2_in n l n₀ n₁ (nodes t) Bw Bf J Jx W t ad cap hBw (Nat.le_trans hn1 hW.size) hJ (fun m p x W hJ hl => YieldAt.anyDepth m (hY p x W hJ hl)) hbig (hi.of hW)
    (by unfold WalkAt at hw ⊢; exact (hW.block Bw (Array.getElem?_eq_some_iff.1 hw).1).trans hw) ((hW.block Bf (Array.getElem?_eq_some_iff.1 hf).1).trans hf) h0 (Nat.le_refl _) (Nat.le_trans hn0 hW.size)
end Go.Proofs.YtkdmhjlcgpnjpaaGreatDoor
