/- slices.Backward at gates. minimize.reached. -/
import Derived.Test.YtlnedapimmabdaaGreatDoorW1
import Derived.Test.YtlnedapimmabdaaGreatDoorXJ
namespace Go.Proofs.YtlnedapimmabdaaGreatDoor
set_option linter.unusedVariables false
set_option linter.unusedSimpArgs false
open Go.RowKit
attribute [local go_sem low] Bel.cell Bel.frozen alloc_cell alloc_frozen
attribute [local go_sem] Oper.semAt_some

abbrev UG := GZ × Option Addr × Nat
def downL : Nat → List Nat
  | 0 => []
  | k + 1 => k :: downL k
def markG (G : List Gt) (m : Nat → Bool) (c : Nat) : Nat → Bool := if m c then fun j => m j || decide (j ∈ (gtAt G c).2.2) else m
theorem backG_down (G : List Gt) : ∀ (c : Nat) (m : Nat → Bool), backG G c m = (downL c).foldl (markG G) m
  | 0, _ => rfl
  | c + 1, m => by rw [backG, downL, List.foldl_cons, backG_down G c]; rfl
theorem choose_row {R : Nat → GZ → Option Addr → Nat → Prop} : ∀ (L : List GZ) (i : Nat), (∀ (j : Nat) (x : GZ), L[j]? = some x → ∃ a c, R (i + j) x a c) → ∃ us : List UG, us.map (·.1) = L ∧ ∀ (j : Nat) (u : UG), us[j]? = some u → R (i + j) u.1 u.2.1 u.2.2
  | [], _, _ => ⟨[], rfl, fun j u h => by simp at h⟩
  | x :: r, i, h => by
    obtain ⟨a, c, h0⟩ := h 0 x rfl
    obtain ⟨us, h1, h2⟩ := choose_row r (i + 1) (fun j y hy => by rw [show i + 1 + j = i + (j + 1) by omega]; exact h (j + 1) y hy)
    refine ⟨(x, a, c) :: us, by rw [List.map_cons, h1], fun j u hu => ?_⟩
    cases j with
    | zero => injection hu with hu; subst hu; exact h0
    | succ j => rw [show i + (j + 1) = i + 1 + j by omega]; exact h2 j u hu
def RowG (P : Nat → Prop) (w : World) (ad : Option Addr) (us : List UG) : Prop := 0 < us.length → ∃ b off, ad = some ⟨b, off, none⟩ ∧ P b ∧ ∀ (j : Nat) (u : UG), us[j]? = some u →
  w.cell? ⟨b, off + j * 3, none⟩ = some (.int .i64 u.1.1) ∧ w.cell? ⟨b, off + j * 3 + 1, none⟩ = some (.int .i64 u.1.2.1) ∧ w.cell? ⟨b, off + j * 3 + 2, none⟩ = some (.slice u.2.1 u.1.2.2.length u.2.2) ∧ InS P w u.2.1 u.1.2.2
theorem rowG_of {P : Nat → Prop} {w : World} {ad : Option Addr} {L : List GZ} (h : InGt P w ad L) : ∃ us : List UG, us.map (·.1) = L ∧ RowG P w ad us := by
  by_cases h0 : 0 < L.length
  · obtain ⟨b, off, e, hp, hcs⟩ := h h0
    obtain ⟨us, h1, h2⟩ := choose_row (R := fun j x a c => w.cell? ⟨b, off + j * 3, none⟩ = some (.int .i64 x.1) ∧ w.cell? ⟨b, off + j * 3 + 1, none⟩ = some (.int .i64 x.2.1) ∧ w.cell? ⟨b, off + j * 3 + 2, none⟩ = some (.slice a x.2.2.length c) ∧ InS P w a x.2.2) L 0 (fun j x hj => by
      obtain ⟨k1, k2, a, c, k3, k4⟩ := hcs j x hj
      rw [Nat.zero_add]
      exact ⟨a, c, k1, k2, k3, k4⟩)
    refine ⟨us, h1, fun _ => ⟨b, off, e, hp, fun j u hj => ?_⟩⟩
    have := h2 j u hj
    rwa [Nat.zero_add] at this
  · refine ⟨[], ?_, fun h => absurd h (by simp)⟩
    rw [List.length_eq_zero_iff.1 (by omega : L.length = 0)]
    rfl
theorem RowG.below {n : Nat} {w w' : World} {ad : Option Addr} {us : List UG} (h : RowG (fun b => b < n) w ad us) (hb : Below n w w') : RowG (fun b => b < n) w' ad us := fun h0 => by
  obtain ⟨b, off, e, hp, hcs⟩ := h h0
  refine ⟨b, off, e, hp, fun j u hj => ?_⟩
  obtain ⟨k1, k2, k3, k4⟩ := hcs j u hj
  have hc : ∀ (b off : Nat) (v : Value), b < n → w.cell? ⟨b, off, none⟩ = some v → w'.cell? ⟨b, off, none⟩ = some v := fun b off v hlt h => (hb.cell (p := ⟨b, off, none⟩) hlt).trans h
  exact ⟨hc _ _ _ hp k1, hc _ _ _ hp k2, hc _ _ _ hp k3, k4.move hc (fun _ _ h => h)⟩
abbrev It (us : List UG) := { i : Nat // i < us.length }
def encI (us : List UG) (x : It us) : Array Value := #[.int .i64 (x.val : Int), .agg #[.int .i64 (us[x.val]'x.2).1.1, .int .i64 (us[x.val]'x.2).1.2.1, .slice (us[x.val]'x.2).2.1 (us[x.val]'x.2).1.2.2.length (us[x.val]'x.2).2.2]]
def KpG (n₀ Bn : Nat) (W W' : World) : Prop := Below n₀ W W' ∧ W'.cell? ⟨Bn, 0, none⟩ = W.cell? ⟨Bn, 0, none⟩
set_option maxRecDepth 100000 in
set_option maxHeartbeats 4000000 in
theorem backG_in (n : Nat) (hn : 1 ≤ n) (l Bn n₀ : Nat) (a : Option Addr) (cap : Nat) (us : List UG) (hLl : us.length ≤ 1000000) (J Jx : List (It us) → World → Prop)
    (hY : ∀ pre x W, J pre W → pre.length < us.length → YieldAt Fence.wide (n - 1) Tryz.prog l (encI us x) W fun e W' =>
      (e = .returned (.bool true) ∧ J (pre ++ [x]) W' ∧ KpG n₀ Bn W W') ∨ (e = .returned (.bool false) ∧ Jx (pre ++ [x]) W'))
    (W : World) (hc0 : W.cell? ⟨Bn, 0, none⟩ = some (.slice a us.length cap)) (hL : RowG (fun b => b < n₀) W a us) (h0 : J [] W) :
    CallsIn Fence.wide n Tryz.prog 105 #[.func (.yield l) #[] #[], .pointer (some ⟨Bn, 0, none⟩)] W fun e W' => (∃ v, e = .returned v) ∧
      ((∃ ys : List (It us), ys.map (·.val) = downL us.length ∧ J ys W') ∨ (∃ pre : List (It us), True ∧ Jx pre W')) := by
  have t1 : IntKind.i64.wrap ((us.length : Int) - 1) = (us.length : Int) - 1 := IntWalk.i64_in _ (by omega)
  refine callsIn_wide.2 ?_
  go_enter Tryz.func105, Tryz.ntmps105
  go_wp2
  refine (wpIn_wide (n := n)).1 ?_
  gi_loopw [3] (fun p wr => ∃ (k : Nat) (pre : List (It us)), p = .int .i64 ((k : Int) - 1) ∧ k ≤ us.length ∧ pre.map (·.val) ++ downL k = downL us.length ∧ pre.length + k = us.length ∧ J pre wr ∧ wr.cell? ⟨Bn, 0, none⟩ = some (.slice a us.length cap) ∧ RowG (fun b => b < n₀) wr a us) (fun p _ => (intOf p + 1).toNat)
  case atStart => exact ⟨us.length, [], rfl, by omega, rfl, by simp, h0, hc0, hL⟩
  case round =>
    clear t1
    obtain ⟨k, pre, rfl, hk, hpre, hpl, hJs, hc, hl⟩ := hrel
    by_cases hk0 : k = 0
    · subst hk0
      have HP := Lib.hid hpre
      clear hpre
      gi_wp2
      go_end0
      exact ⟨⟨_, rfl⟩, .inl ⟨pre, by rw [← HP.out, downL, List.append_nil], hJs⟩⟩
    · obtain ⟨j, rfl⟩ : ∃ j, k = j + 1 := ⟨k - 1, by omega⟩
      obtain ⟨b, off, rfl, hb0, hcc⟩ := hl (by omega)
      have hjs : j < us.length := by omega
      obtain ⟨c0, c1, c2, -⟩ := hcc j (us[j]'hjs) (List.getElem?_eq_getElem hjs)
      obtain ⟨fn, tmps, assign, body, hy, hR⟩ := hY pre ⟨j, hjs⟩ wr hJs (by omega)
      dsimp only [encI] at hy
      generalize us[j]'hjs = u at c0 c1 c2 hy
      have HP := Lib.hid (show (pre ++ [(⟨j, hjs⟩ : It us)]).map (·.val) ++ downL j = downL us.length by rw [← hpre, List.map_append, downL]; simp)
      have t3 : ((j + 1 : Nat) : Int) - 1 = (j : Int) := by omega
      have t2 : IntKind.i64.wrap ((j : Int) - 1) = (j : Int) - 1 := IntWalk.i64_in _ (by omega)
      have hjl : (j : Int) < (us.length : Int) := by omega
      have HL := Lib.hid (show RowG (fun b => b < n₀) wr (some ⟨b, off, none⟩) us from fun _ => ⟨b, off, rfl, hb0, hcc⟩)
      rw [t3]
      clear hpre hcc hl t3
      gi_wp2
      refine hR.mono ?_
      rintro e W3 (⟨rfl, hJ3, hk3, hk4⟩ | ⟨rfl, hJx3⟩)
      · have hc3 := hk4.trans hc
        gi_wp2
        go_roundw
        case rel => exact ⟨j, pre ++ [_], rfl, by omega, HP.out, by simp; omega, hJ3, hc3, HL.out.below hk3⟩
        case measure => simp [intOf] <;> omega
      · gi_wp2
        refine bodyPost_ret (results_none rfl _ _ _) rfl ?_
        exact ⟨⟨_, rfl⟩, .inr ⟨pre ++ [_], trivial, hJx3⟩⟩
theorem backG_stops (n : Nat) (hn : 1 ≤ n) (Bn n₀ : Nat) (a : Option Addr) (cap : Nat) (us : List UG) (w : World) (hLl : us.length ≤ 1000000) (hBn : Bn < w.heap.size) (hn0 : n₀ ≤ w.heap.size)
    (hc0 : w.cell? ⟨Bn, 0, none⟩ = some (.slice a us.length cap)) (hL : RowG (fun b => b < n₀) w a us) :
    SeqStopsK Fence.wide n Tryz.prog 105 #[.pointer (some ⟨Bn, 0, none⟩)] (encI us) (KpG n₀ Bn) (fun ys : List (It us) => ys.map (·.val) = downL us.length) (fun _ => True) us.length w := fun l J Jx W hW hJ _ hY h0 =>
  backG_in n hn l Bn n₀ a cap us hLl J Jx hY W ((hW.cell (p := ⟨Bn, 0, none⟩) hBn).trans hc0) (hL.below (hW.mono hn0)) h0
theorem backGF_any (v : Value) (hv : ∃ a n c, v = .slice a n c) (w : World) : Calls Tryz.prog 84 #[v] w fun e w' => e = .returned (.func (.func 105) #[] #[.pointer (some ⟨w.heap.size, 0, none⟩)]) ∧ w' = w.alloc (.cells #[v] 22) := by
  obtain ⟨a, n, c, rfl⟩ := hv
  go_enter Tryz.func84, Tryz.ntmps84
  go_wp2
  go_ret
  exact ⟨rfl, rfl⟩
end Go.Proofs.YtlnedapimmabdaaGreatDoor

namespace Go.Proofs.YtlnedapimmabdaaGreatDoor
set_option linter.unusedVariables false
set_option linter.unusedSimpArgs false
open Go.RowKit
attribute [local go_sem low] Bel.cell Bel.frozen alloc_cell alloc_frozen
attribute [local go_sem] Oper.semAt_some

theorem ownB_is {w : World} {base g cap : Nat} {l : List Bool} (h : OwnB w base g cap l) {j : Nat} {b : Bool} (hj : l[j]? = some b) : w.cell? ⟨g, j, none⟩ = some (.bool b) := by
  obtain ⟨hxl, ⟨e1, e2⟩ | ⟨g', cap', cur, e1, hg, hh, hn, hc, hcs, hcur⟩⟩ := h
  · cases e1
  · injection e1 with e1 _ _
    injection e1 with e1
    injection e1 with e1 _ _
    subst e1
    have hjl := (List.getElem?_eq_some_iff.1 hj).1
    have hb : (boolsD l)[j]? = some (.bool b) := by unfold boolsD; rw [List.getElem?_map, hj]; rfl
    rw [← hcur, List.getElem?_take_of_lt (by omega)] at hb
    simp [World.cell?, hh]
    simpa using hb
def bsOf (n : Nat) (m : Nat → Bool) : List Bool := (List.range n).map m
theorem bsOf_len (n : Nat) (m : Nat → Bool) : (bsOf n m).length = n := by rw [bsOf, List.length_map, List.length_range]
theorem bsOf_at {n : Nat} {m : Nat → Bool} {j : Nat} (h : j < n) : (bsOf n m)[j]? = some (m j) := by rw [bsOf, List.getElem?_map, List.getElem?_range h]; rfl
theorem bsOf_set (n : Nat) (m : Nat → Bool) (k : Nat) : (bsOf n m).set k true = bsOf n (fun j => m j || decide (j = k)) := by
  apply List.ext_getElem?
  intro j
  rw [List.getElem?_set]
  rcases Nat.lt_or_ge j n with h | h
  · rw [bsOf_at h, bsOf_at h]
    by_cases e : k = j
    · subst e
      rw [if_pos rfl, if_pos (by rw [bsOf_len]; exact h)]
      simp
    · rw [if_neg e]
      have : decide (j = k) = false := decide_eq_false (fun h => e h.symm)
      rw [this, Bool.or_false]
  · rw [List.getElem?_eq_none (by rw [bsOf_len]; exact h), List.getElem?_eq_none (by rw [bsOf_len]; exact h)]
    by_cases e : k = j
    · rw [if_pos e, if_neg (by rw [bsOf_len]; omega)]
    · rw [if_neg e]
theorem bsOf_congr {n : Nat} {m m' : Nat → Bool} (h : ∀ j, j < n → m j = m' j) : bsOf n m = bsOf n m' := List.map_congr_left fun j hj => h j (List.mem_range.1 hj)
theorem ownB_obj {w : World} {base g cap : Nat} {l : List Bool} (h : OwnB w base g cap l) : ∃ cur, w.heap[g]? = some (.cells cur 4 (0, 0)) := by
  obtain ⟨hxl, ⟨e1, e2⟩ | ⟨g', cap', cur, e1, hg, hh, hn, hc, hcs, hcur⟩⟩ := h
  · cases e1
  · injection e1 with e1 _ _
    injection e1 with e1
    injection e1 with e1 _ _
    subst e1
    exact ⟨cur, hh⟩
def RetBs (l : List Bool) (w : World) (e : Ending) (w' : World) : Prop := ∃ g cap, e = .returned (.slice (some ⟨g, 0, none⟩) l.length cap) ∧ OwnB w' w.heap.size g cap l ∧ Below w.heap.size w w'
def intsN (l : List Nat) : List Int := l.map fun k : Nat => (k : Int)
theorem obj_ownM (B b : Nat) (o : Obj) (ho : o.isCells = true) {β : Type} : OwnFrom B (fun (_ : β) W => W.heap[b]? = some o) := fun s W W' row hs hg hr => by
  refine (hg.block b (Array.getElem?_eq_some_iff.1 hs).1 (fun hk => ?_)).trans hs
  obtain ⟨_, o', h1, h2⟩ := hr b hk.symm
  rw [hs] at h1
  injection h1 with h1
  rw [← h1, ho] at h2
  cases h2
def RcS (w : World) (BO n : Nat) (nv : Array Value) (m : Nat → Bool) (W : World) : Prop :=
  W.heap[w.heap.size]? = some (.cells nv 25 (0, 0)) ∧ W.heap[BO]? = some (.cells #[.slice (some ⟨w.heap.size + 1, 0, none⟩) n n] 35 (0, 0)) ∧ OwnB W w.heap.size (w.heap.size + 1) n (bsOf n m) ∧ Below w.heap.size w W ∧ w.heap.size + 1 < BO
theorem RcS.own {β : Type} {w : World} {BO n B : Nat} {nv : Array Value} {m : β → Nat → Bool} (hB : w.heap.size ≤ B) : OwnFrom B (fun (s : β) W => RcS w BO n nv (m s) W) := fun s W W' row hs hg hr => by
  obtain ⟨h1, h2, h3, h4, h5⟩ := hs
  obtain ⟨cur, hc⟩ := ownB_obj h3
  refine ⟨obj_ownM _ _ _ rfl () W W' row h1 hg hr, obj_ownM _ _ _ rfl () W W' row h2 hg hr, World.ownsRow.kept h3 hg ?_, h4.grown hg h4.size (fun k hk => by have := (hr k hk).1; omega), h5⟩
  cases row with
  | none => exact .inr (by intro e; cases e)
  | some k =>
    refine .inr fun e => ?_
    obtain ⟨_, o, ho, hoc⟩ := hr k rfl
    have hk : w.heap.size + 1 = k := by simpa [Value.ownBlock] using e
    rw [← hk, hc] at ho
    cases ho
    cases hoc
theorem RcS.alloc {w W : World} {BO n : Nat} {nv : Array Value} {m : Nat → Bool} (h : RcS w BO n nv m W) (o : Obj) : RcS w BO n nv m (W.alloc o) :=
  (RcS.own (β := Unit) (m := fun _ => m) (Nat.le_refl _)).alloc o (s := ()) h
theorem RcS.congr {w W : World} {BO n : Nat} {nv : Array Value} {m m' : Nat → Bool} (h : RcS w BO n nv m W) (he : ∀ j, j < n → m j = m' j) : RcS w BO n nv m' W := by
  obtain ⟨h1, h2, h3, h4, h5⟩ := h
  exact ⟨h1, h2, by rw [← bsOf_congr he]; exact h3, h4, h5⟩
theorem RcS.set {w W : World} {BO n : Nat} {nv : Array Value} {m : Nat → Bool} (h : RcS w BO n nv m W) (k : Nat) : RcS w BO n nv (fun j => m j || decide (j = k)) (W.setCell ⟨w.heap.size + 1, k, none⟩ (.bool true)) := by
  obtain ⟨h1, h2, h3, h4, h5⟩ := h
  refine ⟨obj_neD _ (by omega) h1, obj_neD _ (by omega) h2, ?_, h4.setCell (p := ⟨w.heap.size + 1, k, none⟩) (by simp) _, h5⟩
  rw [← bsOf_set]
  exact ownB_store h3 k true
theorem RcS.net {w W : World} {BO n : Nat} {x y : Value} {m : Nat → Bool} (h : RcS w BO n #[x, y] m W) : W.cell? ⟨w.heap.size, 0, none⟩ = some x ∧ W.cell? ⟨w.heap.size, 1, none⟩ = some y := by
  obtain ⟨h1, h2, -⟩ := box2 h.1
  exact ⟨h1, h2⟩
theorem RcS.cells {w W : World} {BO n : Nat} {nv : Array Value} {m : Nat → Bool} (h : RcS w BO n nv m W) {k : Nat} (hk : k < n) : W.cell? ⟨BO, 0, none⟩ = some (.slice (some ⟨w.heap.size + 1, 0, none⟩) n n) ∧ W.cell? ⟨w.heap.size + 1, k, none⟩ = some (.bool (m k)) ∧ W.frozen? ⟨w.heap.size + 1, k, none⟩ = false := by
  obtain ⟨h1, h2, h3, h4, h5⟩ := h
  obtain ⟨b, hb, hf⟩ := ownB_at h3 (j := k) (by rw [bsOf_len]; exact hk)
  exact ⟨box1 h2, ownB_is h3 (bsOf_at hk), hf⟩
set_option maxRecDepth 100000 in
set_option maxHeartbeats 6400000 in
theorem reached_any (G : List Gt) (O : List Nat) (v : Nat) (P Q : Nat → Prop) (ga oa ob : Option Addr) (gc oc bn bc : Nat) (w : World) (hok : okL v G) (hg : InGt P w ga (G.map gz)) (ho : InS Q w oa (intsN O)) (hO : ∀ o ∈ O, o < G.length) (hl : G.length ≤ 1000000) (hol : O.length ≤ 100000000) (hil : ∀ g ∈ G, g.2.2.length ≤ 17592186044416) :
    Calls Tryz.prog 61 #[nV ga G.length gc ob bn bc, .slice oa O.length oc] w (RetBs (bsOf G.length (reachG G O)) w) := by
  obtain ⟨i0, hi0, hz0, hz1, hz2⟩ := info_parts Tryz.infoBo
  obtain ⟨us, hus, hrow⟩ := rowG_of (hg.imp (Q := fun b => b < w.heap.size) fun b h _ => h)
  have hlen : us.length = G.length := by have := congrArg List.length hus; simpa using this
  have HRW := Lib.hid hrow
  have HUS := Lib.hid hus
  have HOK := Lib.hid hok
  have HOI := Lib.hid ho
  have HO := Lib.hid hO
  have HIL := Lib.hid hil
  obtain ⟨n, hn⟩ : ∃ n, G.length = n := ⟨_, rfl⟩
  have HN := Lib.hid hn
  rw [hn] at hlen hl ⊢
  clear hrow hus hok ho hg hO hil hn
  unfold nV
  refine (callsIn_wide (n := 3)).1 ?_
  refine callsIn_of_wp_marks Tryz.func61 rfl trivial ?_ rfl
  simp only [Tryz.ntmps61, List.size_toArray, List.length_cons, List.length_nil, Nat.reduceAdd, Nat.reduceSub, Array.replicate_succ, Array.replicate_zero, List.push_toArray, List.append_toArray, List.nil_append, List.cons_append]
  refine (wpIn_wide (n := 3)).2 ?_
  go_wp2_with (at_make; refine wpList_make_full _ rfl _ _ 35 rfl (w.heap.size + 1) 4 i0 (.bool false) 1 Tryz.underlying35 hi0 hz0 hz1 _ _ _ _ (n) rfl rfl (by first | rfl | omega | (simp <;> omega)) (by first | rfl | omega | (simp <;> omega)) (by rw [hz2] <;> omega) (by unfold maxLen; omega) (by first | omega | (simp <;> omega)) ?_; intro wM hownM hgrowM; have HOM := Lib.hid hownM; have HGM := Lib.hid hgrowM; clear hownM hgrowM)
  have hsM := HGM.out.size
  rw [World.size_alloc] at hsM
  have hstart : RcS w wM.heap.size n #[.slice ga n gc, .slice ob bn bc] (fun j => decide (j ∈ O.take 0)) (wM.alloc (.cells #[.slice (some ⟨w.heap.size + 1, 0, none⟩) n n] 35 (0, 0))) := by
    have hob : OwnB wM (w.heap.size + 1) (w.heap.size + 1) n (List.replicate n false) := by
      unfold OwnB boolsD
      rw [List.length_replicate, List.map_replicate]
      have := HOM.out
      rw [Nat.mul_one, show (Value.bool false).cells = #[Value.bool false] from rfl, toList_madeCells_one, World.size_alloc] at this
      exact this
    have hlt := (ownB_lt hob).2
    have hob2 : OwnB wM w.heap.size (w.heap.size + 1) n (List.replicate n false) := by
      obtain ⟨hxl, ⟨e1, e2⟩ | ⟨g', cap', cur, e1, hg, hh, hn, hc, hcs, hcur⟩⟩ := hob
      · cases e1
      · exact ⟨hxl, .inr ⟨g', cap', cur, e1, by omega, hh, hn, hc, hcs, hcur⟩⟩
    have hbs : bsOf n (fun j => decide (j ∈ O.take 0)) = List.replicate n false := by
      rw [bsOf_congr (m' := fun _ => false) (fun j _ => by simp)]
      unfold bsOf
      rw [List.map_const', List.length_range]
    refine ⟨obj_alloc _ ((HGM.out.block w.heap.size (by simp) (by simp)).trans (World.alloc_heap_new w _)), World.alloc_heap_new wM _, ?_, ?_, hlt⟩
    · rw [hbs]
      exact ownB_bel hob2 ((Below.refl _ wM).alloc (Nat.le_refl _) _)
    · exact ((((Below.refl _ w).alloc (Nat.le_refl _) _).grown HGM.out (by simp) (fun k e => by cases e))).alloc (by omega) _
  have HST := Lib.hid hstart
  clear hstart
  go_loopw [18] (fun iv wr => ∃ k : Nat, iv = .int .i64 (k : Int) ∧ k ≤ O.length ∧ RcS w wM.heap.size n #[.slice ga n gc, .slice ob bn bc] (fun j => decide (j ∈ O.take k)) wr) (fun iv _ => O.length - (intOf iv).toNat)
  case atStart => exact ⟨0, rfl, Nat.zero_le _, HST.out⟩
  case round =>
    obtain ⟨k, rfl, hk, hS⟩ := hrel
    have HS := Lib.hid hS
    clear hS
    rcases Nat.lt_or_ge k O.length with hkl | hkl
    · obtain ⟨x, hx⟩ := some_at hkl
      have hxn := HO.out x (List.mem_of_getElem? hx)
      rw [HN.out] at hxn
      obtain ⟨e1, e2, e3⟩ := HS.out.cells hxn
      obtain ⟨b1, o1, hadd, hb1, x0⟩ := (HOI.out.of HS.out.2.2.2.1).at (show (intsN O)[k]? = some (x : Int) by rw [intsN, List.getElem?_map, hx]; rfl)
      subst hadd
      have f1 : decide ((k : Int) < (O.length : Int)) = true := decide_eq_true (by omega)
      have hib : (0 ≤ (k : Int) ∧ (k : Int) < (O.length : Int)) := ⟨by omega, by omega⟩
      have hib2 : (0 ≤ (x : Int) ∧ (x : Int) < (n : Int)) := ⟨by omega, by omega⟩
      have HX := Lib.hid hx
      clear hx
      go_wp2
      go_roundw
      case rel =>
        refine ⟨k + 1, by go_num, by omega, (HS.out.set x).congr fun j _ => ?_⟩
        rw [List.take_add_one, HX.out]
        simp
      case measure => simp [intOf]; omega
    · have hke : k = O.length := by omega
      subst hke
      have f1 : decide ((O.length : Int) < (O.length : Int)) = false := decide_eq_false (by omega)
      rename World => WO
      obtain ⟨n1, n2⟩ := HS.out.net
      go_wp2_with fail
      refine (backGF_any _ ⟨_, _, _, rfl⟩ _).mono ?_
      rintro _ _ ⟨rfl, rfl⟩
      dsimp only
      go_wp2_with fail
      refine (wpIn_wide (n := 3)).1 ?_
      have hwr := HS.out
      rw [List.take_length] at hwr
      have hrs : w.heap.size + 1 < WO.heap.size := Nat.lt_trans hwr.2.2.2.2 (Array.getElem?_eq_some_iff.1 hwr.2.1).1
      have HWR := Lib.hid hwr
      have hbw := hwr.2.2.2.1
      clear hwr
      refine wpIn_rangeFunc_ownH rfl (by omega : 1 ≤ 3) (gf := 105) (lb := #[.pointer (some ⟨WO.heap.size, 0, none⟩)]) rfl trivial (enters_of Tryz.func105 (by kernel_rfl) rfl)
        (backG_stops (3 - 1) (by omega) WO.heap.size w.heap.size ga gc us _ (by omega) (by simp) (by simp; omega) (by rw [hlen]; simp [go_sem]) (HRW.out.below (hbw.alloc (by omega) _))) (fun h k => ⟨h.1.trans k.1, k.2.trans h.2⟩) (fun W l o o' h1 h2 h3 h4 => ⟨belowK_b (by simp; omega) W l o o' h1 h2 h3 h4, World.cell?_of_block (World.putObj_heap_other (show WO.heap.size ≠ l by simp at h1; omega))⟩) (Below.refl _ _) (fun _ => rfl)
        (fun (pre : List (It us)) W => RcS w wM.heap.size n #[.slice ga n gc, .slice ob bn bc] ((pre.map (·.val)).foldl (markG G) (fun j => decide (j ∈ O))) W ∧ W.heap[WO.heap.size]? = some (.cells #[.slice ga n gc] 22 (0, 0)))
        (fun _ _ _ => False)
        (OwnFrom.and (RcS.own (by simp; omega)) (obj_ownM _ _ _ rfl))
        (fun _ => fun _ _ _ _ h _ _ => h) ⟨HWR.out.alloc _, World.alloc_heap_new WO _⟩
        (fun x a' W => ∃ Bx, W.heap[Bx]? = some (.cells #[.int .i64 (us[x.val]'x.2).1.1, .int .i64 (us[x.val]'x.2).1.2.1, .slice (us[x.val]'x.2).2.1 (us[x.val]'x.2).1.2.2.length (us[x.val]'x.2).2.2] 45 (0, 0)) ∧ a' = { tmps := #[.agg #[.slice ga n gc, .slice ob bn bc], .slice oa O.length oc, .pointer (some ⟨w.heap.size, 0, none⟩), undef, .slice none 0 0, .pointer (some ⟨wM.heap.size, 0, none⟩), undef, u7, .int .i64 (x.val : Int), .pointer (some ⟨Bx, 0, none⟩), undef, undef, .pointer (some ⟨w.heap.size, 0, none⟩), .slice ga n gc, .int .i64 n, .slice (some ⟨w.heap.size + 1, 0, none⟩) n n, .slice oa O.length oc, .int .i64 O.length, .int .i64 O.length, .bool false, u20, u21, u22, u23, u24, u25, .pointer (some ⟨w.heap.size, 0, none⟩), .slice ga n gc, .func (.func 105) #[] #[.pointer (some ⟨WO.heap.size, 0, none⟩)], .int .i64 (x.val : Int), .agg #[.int .i64 (us[x.val]'x.2).1.1, .int .i64 (us[x.val]'x.2).1.2.1, .slice (us[x.val]'x.2).2.1 (us[x.val]'x.2).1.2.2.length (us[x.val]'x.2).2.2], undef, undef, undef, undef, undef, undef, undef, undef, undef, undef, undef, undef, undef, undef, undef, undef, undef], defers := [] })
        (fun x a' _ X Y row hs hg hr => by obtain ⟨Bx, e1, e2⟩ := hs; exact ⟨Bx, obj_ownM _ _ _ rfl () X Y row e1 hg hr, e2⟩)
        ?assign ?body ?done ?stop
      case stop => rintro D c q W hD hq hx hK; exact hx.elim
      case assign =>
        rintro l pre x W K ⟨hst, hbn⟩ hK
        have hlt := (Array.getElem?_eq_some_iff.1 hbn).1
        have hbs := hst.2.2.2.1.size
        dsimp only [encI]
        gi_wp2
        exact hK _ _ ((KeepsOthers.alloc _ _).from _) ⟨(Below.refl _ _).alloc (by omega) _, World.cell?_of_block (Below.heap_alloc _ _ WO.heap.size hlt)⟩ ⟨hst.alloc _, obj_alloc _ hbn⟩ ⟨W.heap.size, World.alloc_heap_new W _, rfl⟩
      case body =>
        rintro l pre ⟨x, hx⟩ a' W hl ⟨r, hrl⟩ ⟨hst, hbn⟩ ⟨Bx, hbx, rfl⟩ hlen2
        dsimp only at hbx ⊢
        obtain ⟨u, hu⟩ : ∃ u, us[x]'hx = u := ⟨_, rfl⟩
        rw [hu] at hbx ⊢
        have hu2 : us[x]? = some u := by rw [List.getElem?_eq_getElem hx, hu]
        have hxn : x < n := by omega
        have hgz : u.1 = gz (gtAt G x) := by
          have h := congrArg (fun l => l[x]?) HUS.out
          simp only [List.getElem?_map, hu2] at h
          rw [List.getElem?_eq_getElem (by rw [HN.out]; exact hxn)] at h
          injection h with h
          rw [show u.1 = _ from h, gtAt, List.getD_eq_getElem?_getD, List.getElem?_eq_getElem (by rw [HN.out]; exact hxn)]
          rfl
        have hgl : u.1.2.2.length ≤ 17592186044416 := by
          rw [hgz]
          show ((gtAt G x).2.2.map fun k : Nat => (k : Int)).length ≤ _
          rw [List.length_map]
          exact HIL.out _ (by rw [gtAt, List.getD_eq_getElem?_getD, List.getElem?_eq_getElem (by rw [HN.out]; exact hxn)]; exact List.getElem_mem _)
        have hins : ∀ k ∈ (gtAt G x).2.2, k < n := fun k hk => Nat.lt_trans (okG_ins (HOK.out x _ (by rw [gtAt, List.getD_eq_getElem?_getD, List.getElem?_eq_getElem (by rw [HN.out]; exact hxn)]; rfl)) k hk) hxn
        obtain ⟨bg, og, -, -, hcs⟩ := HRW.out (by omega)
        have hin := (hcs x u hu2).2.2.2.of hst.2.2.2.1
        clear hcs
        obtain ⟨m, hm⟩ : ∃ m, (pre.map (·.val)).foldl (markG G) (fun j => decide (j ∈ O)) = m := ⟨_, rfl⟩
        have hms : (List.map (·.val) (pre ++ [(⟨x, hx⟩ : It us)])).foldl (markG G) (fun j => decide (j ∈ O)) = markG G m x := by
          rw [List.map_append, List.foldl_append, hm]
          rfl
        rw [hm] at hst
        have HMS := Lib.hid hms
        have HI := Lib.hid hin
        have HGZ := Lib.hid hgz
        have HINS := Lib.hid hins
        have HST2 := Lib.hid hst
        have hws := hst.2.2.2.1.size
        have hne : Bx ≠ w.heap.size + 1 := fun e => by
          obtain ⟨cur, hc⟩ := ownB_obj hst.2.2.1
          rw [e, hc] at hbx
          cases hbx
        obtain ⟨e1, e2, e3⟩ := hst.cells hxn
        obtain ⟨c0, c1, c2⟩ := box3 hbx
        have hwl := (Array.getElem?_eq_some_iff.1 hst.2.1).1
        have hbo := hst.2.2.2.2
        have hib : (0 ≤ (x : Int) ∧ (x : Int) < (n : Int)) := ⟨by omega, by omega⟩
        obtain ⟨mx, hmx⟩ : ∃ mx, m x = mx := ⟨_, rfl⟩
        rw [hmx] at e2
        have HMX := Lib.hid hmx
        have HBX := Lib.hid hbx
        have HBN := Lib.hid hbn
        clear hms hm hu hu2 hgz hins hst hbx hbn hmx hin
        cases mx
        · gi_wp2
          refine ⟨(KeepsOthers.refl _).from _, ⟨Below.refl _ _, rfl⟩, ?_, HBN.out⟩
          rw [HMS.out, markG, if_neg (by rw [HMX.out]; decide)]
          exact HST2.out
        · gi_wp2
          gi_loopw [39] (fun iv wr => ∃ k : Nat, iv = .int .i64 (k : Int) ∧ k ≤ u.1.2.2.length ∧ RcS w wM.heap.size n #[.slice ga n gc, .slice ob bn bc] (fun j => m j || decide (j ∈ (gtAt G x).2.2.take k)) wr ∧ KeepsOthers W wr ∧ wr.heap[Bx]? = some (.cells #[.int .i64 u.1.1, .int .i64 u.1.2.1, .slice u.2.1 u.1.2.2.length u.2.2] 45 (0, 0)) ∧ wr.heap[WO.heap.size]? = some (.cells #[.slice ga n gc] 22 (0, 0)) ∧ Below w.heap.size W wr) (fun iv _ => u.1.2.2.length - (intOf iv).toNat)
          case atStart => exact ⟨0, rfl, Nat.zero_le _, HST2.out.congr fun j _ => by simp, KeepsOthers.refl _, HBX.out, HBN.out, Below.refl _ _⟩
          case round =>
            obtain ⟨k, rfl, hk, hS, hko, hbx2, hbn2, hbe⟩ := hrel
            have HS2 := Lib.hid hS
            have HKO := Lib.hid hko
            have HBX2 := Lib.hid hbx2
            have HBN2 := Lib.hid hbn2
            obtain ⟨d0, d1, d2⟩ := box3 hbx2
            have hgi : u.1.2.2 = (gtAt G x).2.2.map fun k : Nat => (k : Int) := by rw [HGZ.out]; rfl
            have hgn : u.1.2.2.length = (gtAt G x).2.2.length := by rw [hgi, List.length_map]
            clear hS hko hbx2 hbn2
            rcases Nat.lt_or_ge k u.1.2.2.length with hkl2 | hkl2
            · obtain ⟨y, hy⟩ := some_at (l := (gtAt G x).2.2) (k := k) (by omega)
              have hyn := HINS.out y (List.mem_of_getElem? hy)
              have hyi : u.1.2.2[k]? = some (y : Int) := by rw [hgi, List.getElem?_map, hy]; rfl
              obtain ⟨b1, o1, hadd, hb1, x0⟩ := (HI.out.move (fun b off z hb hz => (hbe.cell (p := ⟨b, off, none⟩) hb).trans hz) (fun _ _ h => h) : InS (fun b => b < w.heap.size) wr u.2.1 u.1.2.2).at hyi
              rw [hadd] at d2
              obtain ⟨q1, q2, q3⟩ := HS2.out.cells hyn
              have f1 : decide ((k : Int) < (u.1.2.2.length : Int)) = true := decide_eq_true (by omega)
              have hib3 : (0 ≤ (k : Int) ∧ (k : Int) < (u.1.2.2.length : Int)) := ⟨by omega, by omega⟩
              have hib4 : (0 ≤ (y : Int) ∧ (y : Int) < (n : Int)) := ⟨by omega, by omega⟩
              have HY := Lib.hid hy
              have HGN := Lib.hid hgn
              clear hgi hy hyi hgn
              gi_wp2
              go_roundw
              case rel =>
                refine ⟨k + 1, by go_num, by omega, (HS2.out.set y).congr fun j _ => ?_, HKO.out.trans (KeepsOthers.setCell _ _ _), obj_neD _ hne HBX2.out, obj_neD _ (by omega) HBN2.out, hbe.setCell (p := ⟨w.heap.size + 1, y, none⟩) (by simp) _⟩
                rw [List.take_add_one, HY.out]
                simp [Bool.or_assoc]
              case measure => simp [intOf]; omega
            · have hke : k = u.1.2.2.length := by omega
              have f1 : decide ((u.1.2.2.length : Int) < (u.1.2.2.length : Int)) = false := decide_eq_false (by omega)
              subst hke
              have HGN := Lib.hid hgn
              clear hgi hgn
              gi_wp2
              refine ⟨HKO.out.from _, ⟨hbe, World.cell?_of_block (HBN2.out.trans HBN.out.symm)⟩, HS2.out.congr fun j _ => ?_, HBN2.out⟩
              have e := congrFun HMS.out j
              rw [e, markG, if_pos HMX.out, HGN.out, List.take_length]
      case done =>
        rintro D ys W hD hys ⟨hst, hbn⟩ hK
        have hm : (ys.map (·.val)).foldl (markG G) (fun j => decide (j ∈ O)) = reachG G O := by
          rw [hys, hlen, reachG, HN.out, backG_down]
        rw [hm] at hst
        have HS2 := Lib.hid hst
        have HK := Lib.hid hK
        have hb2 := box1 hst.2.1
        clear hst hbn hm hys hK
        go_wp2
        have hlt := (Array.getElem?_eq_some_iff.1 HK.out).1
        have hsD := HS2.out.2.2.2.1.size
        refine ⟨by simp, .inl ⟨_, _, rfl, run_takeDeferred HK.out, ?_⟩⟩
        have hend := (RcS.own (β := Unit) (m := fun _ => reachG G O) (Nat.le_refl _)).putObj (.deferred none) (s := ()) HS2.out (by simp at hD; omega) HK.out rfl
        exact ⟨_, results_tmp rfl _ _ _, w.heap.size + 1, n, by rw [bsOf_len]; rfl, hend.2.2.1, hend.2.2.2.1⟩
end Go.Proofs.YtlnedapimmabdaaGreatDoor
