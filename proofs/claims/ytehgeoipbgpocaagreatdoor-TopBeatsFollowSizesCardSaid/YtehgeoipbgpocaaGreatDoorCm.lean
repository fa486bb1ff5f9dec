/- Worlds that have grown: what the walks of this seat lean on. No program in sight. Small laws on texts and numbers as values. No program in sight. Slices that the call itself owns. No program in sight. Slices of the call's own that show a list of one-cell values. No program in sight. What every range over a function of this seat leans on. No program in sight. A region that draws its order: at first operations that read and calls that leave all that lay there as it lay, then operations in one forced order. The class of worlds of Base in the place of one world. A region that draws its order: operations that read, and calls that leave all that lay there as it lay, in whatever order; and among them operations that make memory, each of which stands alone when its turn comes. One walk, in an order of one's own. Sets of texts, and tables of numbers, in maps that the call has made. No program in sight. -/
import Derived.WalkKit
import Derived.WalkLawsBesides
import Derived.WalkSpells
import Derived.Lib.Hide
import Derived.Deep.QuietTactic
import Derived.BigQuiet
import Derived.Lib.ItoaLen
import Derived.Laws.IdiomStrings
import Derived.RangeFuncBox
import Derived.Maps.AppendAt
import Derived.RangeFuncNested
import Derived.RangeFuncBound
import Derived.RangeFuncCalls
import Derived.RangeFuncLeaves
import Derived.Shelf.Abstract
import Derived.Shelf.RegionOpen
import Derived.OwnWalkIn
import Derived.TacticsInMore
import Derived.LoopNIn
import Derived.LoopIn
import Derived.Lib.Join
import Derived.StillTailTactics
import Derived.Maps.OwnSet
import Derived.Maps.OwnOps
import Derived.StringKeys
namespace Go.Proofs.YtehgeoipbgpocaaGreatDoor
set_option linter.unusedVariables false
set_option linter.unusedSimpArgs false
open Go.RowKit

/-- A world in which all that lay in W lies as it lay. -/
structure Bel (W : World) where
  w : World
  below : Below W.heap.size W w

instance bel_nonempty (W : World) : Nonempty (Bel W) := ⟨⟨W, Below.refl _ _⟩⟩
theorem Bel.size_le {W : World} (x : Bel W) : W.heap.size ≤ x.w.heap.size := x.below.size
theorem cell_none {w : World} {p : Addr} (h : ¬ p.block < w.heap.size) : w.cell? p = none := by
  cases hc : w.cell? p with
  | none => rfl
  | some u => exact absurd (World.block_lt_of_cell? w p hc) h
/-- What a cell beyond W holds. -/
def Bel.rest {W : World} (x : Bel W) (p : Addr) : Option Value := if p.block < W.heap.size then none else x.w.cell? p
def Bel.restF {W : World} (x : Bel W) (p : Addr) : Bool := x.w.frozen? p
def restA (w : World) (o : Obj) (p : Addr) : Option Value := if p.block < w.heap.size then none else (w.alloc o).cell? p
def restAF (w : World) (o : Obj) (p : Addr) : Bool := (w.alloc o).frozen? p
theorem Bel.cell {W : World} (x : Bel W) (p : Addr) : x.w.cell? p = (W.cell? p).or (x.rest p) := by
  unfold Bel.rest
  by_cases h : p.block < W.heap.size
  · rw [if_pos h, x.below.cell h, Option.or_none]
  · rw [if_neg h, cell_none h, Option.none_or]
theorem Bel.frozen {W : World} (x : Bel W) (p : Addr) : x.w.frozen? p = bif (W.cell? p).isSome then W.frozen? p else x.restF p := by
  cases h : (W.cell? p).isSome with
  | false => rfl
  | true =>
    obtain ⟨u, hu⟩ := Option.isSome_iff_exists.1 h
    exact x.below.frozen (World.block_lt_of_cell? W p hu)
theorem alloc_cell (w : World) (o : Obj) (p : Addr) : (w.alloc o).cell? p = (w.cell? p).or (restA w o p) := by
  unfold restA
  by_cases h : p.block < w.heap.size
  · rw [if_pos h, World.cell?_alloc_lt _ _ _ h, Option.or_none]
  · rw [if_neg h, cell_none h, Option.none_or]
theorem alloc_frozen (w : World) (o : Obj) (p : Addr) : (w.alloc o).frozen? p = bif (w.cell? p).isSome then w.frozen? p else restAF w o p := by
  cases h : (w.cell? p).isSome with
  | false => rfl
  | true =>
    obtain ⟨u, hu⟩ := Option.isSome_iff_exists.1 h
    exact World.frozen?_alloc_old _ _ _ (Nat.ne_of_lt (World.block_lt_of_cell? w p hu))

theorem Below.bel {B : Nat} {a W : World} {x : Bel W} (h : Below B a W) (hB : B ≤ W.heap.size) : Below B a x.w := h.trans (x.below.mono hB)
theorem Below.drawsN {B : Nat} {a w : World} (h : Below B a w) (n : Nat) : Below B a (w.drewN n) := ⟨h.os, h.tape, h.output, h.size, h.block⟩
theorem le_bel {B : Nat} {W : World} {x : Bel W} (h : B ≤ W.heap.size) : B ≤ x.w.heap.size := Nat.le_trans h x.size_le
theorem le_bel_add {B k : Nat} {W : World} {x : Bel W} (h : B ≤ W.heap.size) : B ≤ x.w.heap.size + k := Nat.le_trans (Nat.le_trans h x.size_le) (Nat.le_add_right _ _)
theorem le_alloc {B : Nat} {w : World} {o : Obj} (h : B ≤ w.heap.size) : B ≤ (w.alloc o).heap.size := by simp; omega
theorem le_setCell {B : Nat} {w : World} {p : Addr} {v : Value} (h : B ≤ w.heap.size) : B ≤ (w.setCell p v).heap.size := by simpa using h
theorem le_drew {B : Nat} {w : World} (h : B ≤ w.heap.size) : B ≤ w.drew.heap.size := h
theorem le_drawsN {B n : Nat} {w : World} (h : B ≤ w.heap.size) : B ≤ (w.drewN n).heap.size := h
theorem size_drewN (w : World) (n : Nat) : (w.drewN n).heap.size = w.heap.size := rfl

/-- The call returns v; all that lay in w lies as it lay. -/
def Ret (v : Value) (w : World) (e : Ending) (w' : World) : Prop := e = .returned v ∧ ∃ x : Bel w, w' = x.w
theorem Ret.mk {v u : Value} {w w' : World} (h : u = v) (hb : Below w.heap.size w w') : Ret v w (.returned u) w' := ⟨by rw [h], ⟨w', hb⟩, rfl⟩

theorem ret_of_same {P : Program} {f : FuncId} {args : Array Value} {w : World} {v : Value} (h : Calls P f args w fun e w' => e = .returned v ∧ w = w') : Calls P f args w (Ret v w) :=
  h.mono fun _ _ ⟨he, hy⟩ => ⟨he, ⟨w, Below.refl _ _⟩, hy.symm⟩
theorem ret_of_draws {P : Program} {f : FuncId} {args : Array Value} {w : World} {v : Value} (h : Calls P f args w fun e w' => e = .returned v ∧ ∃ n, w' = w.drewN n) : Calls P f args w (Ret v w) :=
  h.mono fun _ _ ⟨he, n, hy⟩ => ⟨he, ⟨w.drewN n, Below.drawsN (Below.refl _ _) n⟩, hy⟩
theorem bel_of {P : Program} {f : FuncId} {args : Array Value} {W : World} {x : Bel W} {v : Value} (h : Calls P f args x.w (Ret v x.w)) :
    Calls P f args x.w fun e w'' => e = .returned v ∧ ∃ y : Bel W, w'' = y.w :=
  h.mono fun _ _ ⟨he, y, hy⟩ => ⟨he, ⟨y.w, x.below.trans (y.below.mono x.size_le)⟩, hy⟩
theorem bel_of_same {P : Program} {f : FuncId} {args : Array Value} {W : World} {x : Bel W} {v : Value} (h : Calls P f args x.w fun e w' => e = .returned v ∧ x.w = w') :
    Calls P f args x.w fun e w'' => e = .returned v ∧ ∃ y : Bel W, w'' = y.w :=
  h.mono fun _ _ ⟨he, hy⟩ => ⟨he, x, hy.symm⟩
theorem bel_of_draws {P : Program} {f : FuncId} {args : Array Value} {W : World} {x : Bel W} {v : Value} (h : Calls P f args x.w fun e w' => e = .returned v ∧ ∃ n, w' = x.w.drewN n) :
    Calls P f args x.w fun e w'' => e = .returned v ∧ ∃ y : Bel W, w'' = y.w :=
  h.mono fun _ _ ⟨he, n, hy⟩ => ⟨he, ⟨x.w.drewN n, Below.drawsN x.below n⟩, hy⟩

/-- A region that draws its order, whose operations read, and whose calls leave all that lay there as it lay: one walk, in the order of the text. -/
theorem wp_region_bel {P : Program} {id : Nat} {Q : Exit → Act → World → Prop} {a : Act} {w : World} {l : List Oper} (hm : P.follows .mixedOrders = true) (hB : Region.lexB .any l.toArray = true)
    (h : wpQuiet P l.toArray (fun w' => ∃ x : Bel w, w' = x.w) (fun a' => ∀ w', (∃ x : Bel w, w' = x.w) → Q .normal a' w') l a) : (Code.region id l.toArray true).wp P Q a w :=
  wp_region_quiet (C := fun w' => ∃ x : Bel w, w' = x.w) hm hB ⟨⟨{ w with drawn := w.drawn + 1 }, ⟨rfl, rfl, rfl, Nat.le_refl _, fun _ _ => rfl⟩⟩, rfl⟩ (by simpa using h)
theorem ret_int {k : IntKind} {a b : Int} (h : a = b) : Ending.returned (.int k a) = .returned (.int k b) := by rw [h]
/- Short names for a search that is printed often. -/
theorem Zl1 {n : Nat} {w : World} : Below n w w := Below.refl n w
theorem Zl2 {n : Nat} : n ≤ n := Nat.le_refl n
theorem Zl3 {B : Nat} {a W : World} {x : Bel W} (h : Below B a W) (hB : B ≤ W.heap.size) : Below B a x.w := Below.bel h hB
theorem Zl4 {B : Nat} {a w : World} {o : Obj} (h : Below B a w) (hB : B ≤ w.heap.size) : Below B a (w.alloc o) := h.alloc hB o
theorem Zl5 {B : Nat} {a w : World} (h : Below B a w) : Below B a w.drew := h.drew
theorem Zl6 {B n : Nat} {a w : World} (h : Below B a w) : Below B a (w.drewN n) := Below.drawsN h n
theorem Zl7 {B : Nat} {a w : World} {p : Addr} {u : Value} (h : Below B a w) (hp : B ≤ p.block) : Below B a (w.setCell p u) := h.setCell hp u
theorem Zl8 {B : Nat} {W : World} {x : Bel W} (h : B ≤ W.heap.size) : B ≤ x.w.heap.size := le_bel h
theorem Zl9 {B : Nat} {w : World} {o : Obj} (h : B ≤ w.heap.size) : B ≤ (w.alloc o).heap.size := le_alloc h
theorem Zla {B : Nat} {w : World} {p : Addr} {v : Value} (h : B ≤ w.heap.size) : B ≤ (w.setCell p v).heap.size := le_setCell h
theorem Zlb {B : Nat} {w : World} (h : B ≤ w.heap.size) : B ≤ w.drew.heap.size := le_drew h
theorem Zlc {B n : Nat} {w : World} (h : B ≤ w.heap.size) : B ≤ (w.drewN n).heap.size := le_drawsN h
theorem Zld {B k : Nat} {W : World} {x : Bel W} (h : B ≤ W.heap.size) : B ≤ x.w.heap.size + k := le_bel_add h
end Go.Proofs.YtehgeoipbgpocaaGreatDoor

namespace Go.Proofs.YtehgeoipbgpocaaGreatDoor
set_option linter.unusedVariables false
set_option linter.unusedSimpArgs false
open Go.RowKit
theorem bytes_app (a b : List UInt8) : (⟨a.toArray⟩ : ByteArray) ++ ⟨b.toArray⟩ = ⟨(a ++ b).toArray⟩ := by
  refine ByteArray.ext ?_
  rw [ByteArray.data_append]
  simp
theorem str_val {a b : ByteArray} (h : a = b) : Value.string a = Value.string b := by rw [h]
theorem str_eq {l m : List UInt8} (h : l = m) : Value.string ⟨l.toArray⟩ = .string ⟨m.toArray⟩ := by rw [h]
theorem pair_val {a b c d : Value} (h1 : a = c) (h2 : b = d) : Value.tuple #[a, b] = .tuple #[c, d] := by rw [h1, h2]
theorem extract_drop (l : List UInt8) (k : Nat) : (ByteArray.mk l.toArray).extract k l.length = ⟨(l.drop k).toArray⟩ := by
  have h : ((ByteArray.mk l.toArray).extract k l.length).data = (l.drop k).toArray := by
    rw [ByteArray.data_extract, List.extract_toArray, List.extract_eq_take_drop, List.take_of_length_le (by simp)]
  exact ByteArray.ext h
theorem extract_take (l : List UInt8) (k : Nat) : (ByteArray.mk l.toArray).extract 0 k = ⟨(l.take k).toArray⟩ := by
  have h : ((ByteArray.mk l.toArray).extract 0 k).data = (l.take k).toArray := by
    rw [ByteArray.data_extract, List.extract_toArray, List.extract_eq_take_drop, List.drop_zero, Nat.sub_zero]
  exact ByteArray.ext h
/-- Two cells of the call's own. -/
def Own2 (w : World) (B : Nat) (a b : Value) : Prop := w.cell? ⟨B, 0, none⟩ = some a ∧ w.cell? ⟨B, 1, none⟩ = some b ∧ w.frozen? ⟨B, 0, none⟩ = false ∧ w.frozen? ⟨B, 1, none⟩ = false
theorem cell_carry {w wr : World} {p : Addr} {v : Value} (hb : Below w.heap.size w wr) (h : w.cell? p = some v) : wr.cell? p = some v := by
  rw [hb.cell (World.block_lt_of_cell? w p h), h]
/-- A byte slice of one new cell as a text. -/
theorem conv_one {P : Program} (src dst e : TypeId) (hs : P.underlying src = some (.slice e)) (he : P.underlying e = some (.int .u8)) (hd : P.underlying dst = some .string) (w : World) (p : Nat) (hp : p < 256) (x : Bel (w.alloc (.cells #[.int .u8 (p : Int)] e))) :
    (convert src dst (.slice (some ⟨w.heap.size, 0, none⟩) 1 1)).run P x.w = .ok (.string ⟨[p.toUInt8].toArray⟩) x.w := by
  refine run_convert_bytes_back x.w src dst e ⟨w.heap.size, 0, none⟩ 1 [p.toUInt8] hs he hd fun j hj => ?_
  obtain rfl : j = 0 := by simpa using hj
  have h : (w.alloc (.cells #[.int .u8 (p : Int)] e)).cell? ⟨w.heap.size, 0, none⟩ = some (.int .u8 (p : Int)) := by simp [go_sem]
  have h2 := x.below.cell (p := ⟨w.heap.size, 0, none⟩) (by simp)
  rw [h] at h2
  have h3 : (p.toUInt8).toNat = p := by rw [Nat.toUInt8, UInt8.toNat_ofNat']; omega
  show x.w.cell? (Addr.add ⟨w.heap.size, 0, none⟩ 0) = some (.int .u8 ((p.toUInt8).toNat : Int))
  rw [h3]
  exact h2
end Go.Proofs.YtehgeoipbgpocaaGreatDoor

namespace Go.Proofs.YtehgeoipbgpocaaGreatDoor
set_option linter.unusedVariables false
set_option linter.unusedSimpArgs false
open Go.RowKit
theorem bel_grown {w : World} (x : Bel w) : w.grownBy x.w none := ⟨x.below.1, x.below.2, x.below.3, x.below.size, fun k hk _ => x.below.5 k hk⟩
theorem ownsRow_bel {W : World} {base : Nat} {e : TypeId} {size : Nat} {v : Value} {n : Nat} {xs : List Value} (h : W.ownsRow base e size v n xs) (x : Bel W) : x.w.ownsRow base e size v n xs :=
  World.ownsRow.kept h (bel_grown x) (by cases hv : v.ownBlock <;> simp)
theorem boxed_bel {W : World} {B : Nat} {t : TypeId} {v : Value} (h : Boxed W B t v) (x : Bel W) : Boxed x.w B t v := h.kept (bel_grown x) (by simp)
/-- The cells of such a slice. -/
theorem ownsRow_cells {W : World} {base : Nat} {e : TypeId} {v : Value} {n : Nat} {xs : List Value} (h : W.ownsRow base e 1 v n xs) (hn : 0 < n) :
    ∃ g cap, v = .slice (some ⟨g, 0, none⟩) n cap ∧ base ≤ g ∧ g < W.heap.size ∧ n ≤ cap ∧ ∀ (j : Nat) x, xs[j]? = some x → W.cell? ⟨g, j, none⟩ = some x ∧ W.frozen? ⟨g, j, none⟩ = false := by
  obtain ⟨hl, ⟨_, rfl⟩ | ⟨g, cap, cur, rfl, hb, hg, hnc, _, hcs, ht⟩⟩ := h
  · omega
  · refine ⟨g, cap, rfl, hb, (Array.getElem?_eq_some_iff.1 hg).1, hnc, fun j x hj => ?_⟩
    have hjl : j < n := by
      have := (List.getElem?_eq_some_iff.1 hj).1
      omega
    rw [← ht, List.getElem?_take, if_pos (by omega)] at hj
    constructor
    · simp only [World.cell?, hg]
      simpa using hj
    · simp [World.frozen?, hg]
end Go.Proofs.YtehgeoipbgpocaaGreatDoor

namespace Go.Proofs.YtehgeoipbgpocaaGreatDoor
set_option linter.unusedVariables false
set_option linter.unusedSimpArgs false
open Go.RowKit
def OwnV (w : World) (base : Nat) (e : TypeId) (v : Value) (l : List Value) : Prop := w.ownsRow base e 1 v l.length l
theorem ownV_nil (w : World) (base : Nat) (e : TypeId) : OwnV w base e (.slice none 0 0) [] := World.ownsRow_nil _ _ _ _
theorem ownV_mono {w : World} {base base' : Nat} {e : TypeId} {v : Value} {l : List Value} (h : OwnV w base e v l) (hb : base' ≤ base) : OwnV w base' e v l :=
  ⟨h.1, by
    rcases h.2 with h0 | ⟨g, cap, cur, h1, h2, h3⟩
    · exact .inl h0
    · exact .inr ⟨g, cap, cur, h1, Nat.le_trans hb h2, h3⟩⟩
theorem ownV_kept {w w' : World} {base : Nat} {e : TypeId} {v : Value} {l : List Value} (h : OwnV w base e v l) (hg : w.grownBy w' none) : OwnV w' base e v l :=
  World.ownsRow.kept h hg (by cases hv : v.ownBlock <;> simp)
theorem ownV_bel {w : World} {base : Nat} {e : TypeId} {v : Value} {l : List Value} (h : OwnV w base e v l) (x : Bel w) : OwnV x.w base e v l := ownV_kept h (bel_grown x)
theorem ownV_alloc {w : World} {base : Nat} {e : TypeId} {v : Value} {l : List Value} (h : OwnV w base e v l) (o : Obj) : OwnV (w.alloc o) base e v l :=
  ownV_kept h (bel_grown ⟨_, (Below.refl _ _).alloc (Nat.le_refl _) o⟩)
theorem ownV_app {w w1 : World} {base : Nat} {e : TypeId} {v v' : Value} {l news : List Value} {k : Nat} {w0 : World} (h : OwnV w base e v l) (hb0 : Below base w w0) (hs : w.heap.size ≤ w0.heap.size) (hb : base ≤ w.heap.size)
    (hk : news.length = k) (h' : w1.ownsRow base e 1 v' (l.length + k) (l ++ news)) (hg : w0.grownBy w1 v.ownBlock) : OwnV w1 base e v' (l ++ news) ∧ Below base w w1 := by
  refine ⟨by unfold OwnV; rw [List.length_append, hk]; exact h', ?_⟩
  refine hb0.grown hg (by omega) (fun k hk => ?_)
  rcases h.2 with ⟨rfl, _⟩ | ⟨g, cap, cur, rfl, hb, _⟩
  · cases hk
  · cases hk; exact hb
theorem ownV_cells {W : World} {base : Nat} {e : TypeId} {v : Value} {l : List Value} (h : OwnV W base e v l) (hn : 0 < l.length) :
    ∃ g cap, v = .slice (some ⟨g, 0, none⟩) l.length cap ∧ base ≤ g ∧ g < W.heap.size ∧ l.length ≤ cap ∧ ∀ (j : Nat) x, l[j]? = some x → W.cell? ⟨g, j, none⟩ = some x ∧ W.frozen? ⟨g, j, none⟩ = false := ownsRow_cells h hn
/-- A slice that shows a list, at whatever place. -/
def ShowsV (W : World) (v : Value) (l : List Value) : Prop :=
  (l = [] ∧ ∃ a c, v = .slice a 0 c) ∨ ∃ b off cap, v = .slice (some ⟨b, off, none⟩) l.length cap ∧ 0 < l.length ∧ ∀ (j : Nat) x, l[j]? = some x → W.cell? ⟨b, off + j, none⟩ = some x
theorem ownV_shows {W : World} {base : Nat} {e : TypeId} {v : Value} {l : List Value} (h : OwnV W base e v l) : ShowsV W v l := by
  by_cases h0 : 0 < l.length
  · obtain ⟨g, cap, hv, _, _, _, hc⟩ := ownV_cells h h0
    exact .inr ⟨g, 0, cap, hv, h0, fun j x hj => by rw [Nat.zero_add]; exact (hc j x hj).1⟩
  · have h1 : l = [] := List.length_eq_zero_iff.1 (by omega)
    subst h1
    refine .inl ⟨rfl, ?_⟩
    rcases h.2 with ⟨rfl, _⟩ | ⟨g, cap, cur, rfl, _⟩
    · exact ⟨_, _, rfl⟩
    · exact ⟨_, _, rfl⟩
theorem showsV_of {w w' : World} {v : Value} {l : List Value} (h : ShowsV w v l) (hb : Below w.heap.size w w') : ShowsV w' v l := by
  rcases h with h | ⟨b, off, cap, hv, hl, hc⟩
  · exact .inl h
  · exact .inr ⟨b, off, cap, hv, hl, fun j x hj => (by rw [hb.cell (World.block_lt_of_cell? w _ (hc j x hj)), hc j x hj])⟩
/-- The same, with its cells at hand, in whatever case. -/
theorem showsV_at {W : World} {v : Value} {l : List Value} (h : ShowsV W v l) : ∃ a cap, v = .slice a l.length cap ∧ (0 < l.length → ∃ b off, a = some ⟨b, off, none⟩ ∧ ∀ (j : Nat) x, l[j]? = some x → W.cell? ⟨b, off + j, none⟩ = some x) := by
  rcases h with ⟨rfl, a, c, rfl⟩ | ⟨b, off, cap, hv, hl, hc⟩
  · exact ⟨a, c, rfl, fun h => absurd h (by decide)⟩
  · exact ⟨_, cap, hv, fun _ => ⟨b, off, rfl, hc⟩⟩
end Go.Proofs.YtehgeoipbgpocaaGreatDoor

namespace Go.Proofs.YtehgeoipbgpocaaGreatDoor
set_option linter.unusedVariables false
set_option linter.unusedSimpArgs false
open Go.RowKit
theorem bel_keeps {W : World} (y : Bel W) : KeepsOthers W y.w := KeepsOthers.of_grownBy (bel_grown y) (fun _ _ h => by cases h)
theorem bel_heap {W : World} (y : Bel W) {k : Nat} {o : Obj} (h : W.heap[k]? = some o) : y.w.heap[k]? = some o := by
  rw [y.below.block k (Array.getElem?_eq_some_iff.1 h).1, h]
theorem join_le (sep : List UInt8) (m : Nat) : ∀ xs : List (List UInt8), (∀ x ∈ xs, x.length ≤ m) → (Lib.join xs sep).length ≤ xs.length * (m + sep.length) := by
  intro xs
  induction xs with
  | nil => intro _; simp [Lib.join, List.intercalate]
  | cons x r ih =>
    intro h
    have h1 := h x (List.mem_cons_self ..)
    have h2 := ih fun y hy => h y (List.mem_cons_of_mem _ hy)
    have h3 : (Lib.join (x :: r) sep).length ≤ x.length + (sep.length + (Lib.join r sep).length) := by
      cases r with
      | nil => simp [Lib.join, List.intercalate]
      | cons y r => simp [Lib.join, List.intercalate, List.intersperse]
    rw [List.length_cons, Nat.add_mul]
    omega
end Go.Proofs.YtehgeoipbgpocaaGreatDoor

namespace Go.Proofs.YtehgeoipbgpocaaGreatDoor
set_option linter.unusedVariables false
set_option linter.unusedSimpArgs false
open Go.RowKit

section
variable {P : Program} {ops : Array Oper} {md : Region.Mode} {C : World → Prop}

/-- The head's operations, in whatever order; behind them L. -/
def headQ (P : Program) (md : Region.Mode) (ops : Array Oper) (C : World → Prop) (n : Nat) (L : Array Bool → Act → Prop) : Nat → Array Bool → Act → Prop
  | 0, listed, a => L listed a
  | f + 1, listed, a => Region.ready md ops listed ≠ [] ∧ ∀ i ∈ Region.ready md ops listed, i < n ∧ qOp P ops C i (headQ P md ops C n L f (listed.setIfInBounds i true)) a

theorem any_of_headQ {n g : Nat} {L : Array Bool → Act → Prop} {Q : Exit → Act → World → Prop} (hL : ∀ listed a w, C w → L listed a → wpAny P md ops Q g listed a w) (f : Nat) :
    ∀ (listed : Array Bool) (a : Act) (w : World), C w → headQ P md ops C n L f listed a → wpAny P md ops Q (f + g) listed a w := by
  induction f with
  | zero => intro listed a w hw h; rw [Nat.zero_add]; exact hL _ _ _ hw h
  | succ f ih =>
    intro listed a w hw h
    rw [show f + 1 + g = (f + g) + 1 by omega]
    exact ⟨fun h0 => absurd h0 h.1, fun i hi => wpOp_of_qOp hw (fun a' w' hw' h' => ih _ a' w' hw' h') (h.2 i hi).2⟩

theorem headQ_first {n i : Nat} {oi : Oper} {v : Value} {L : Array Bool → Act → Prop} (hi : ops[i]? = some oi) (hsel : ∀ (j : Nat) (o : Oper) cs b, ops[j]? = some o → o.op ≠ .select cs b)
    (hs : Region.sinkB md ops n = true) (hc : Region.chainB md ops n = true) (hn : n < ops.size) (hin : i < n) (hdone : ∀ listed a, L listed a → ∀ j ∈ Region.ready md ops listed, n ≤ j) (f : Nat) :
    ∀ (listed : Array Bool) (a : Act), HeadInv md ops n listed →
      (∀ j oj, ops[j]? = some oj → j ≠ i → listed.getD j true = false → (∀ e ∈ oj.after, Region.binds md e = true → e.on ≠ i) → oi.apart ops oj = true) →
      i ∈ Region.ready md ops listed → YieldsIn P ops C oi v a →
      headQ P md ops C n L f (listed.setIfInBounds i true) (a.put oi.dst v) → headQ P md ops C n L (f + 1) listed a := by
  have below : ∀ {listed : Array Bool}, HeadInv md ops n listed → i ∈ Region.ready md ops listed → ∀ j ∈ Region.ready md ops listed, j < n := fun inv hr j hj =>
    Nat.lt_of_not_le fun h => tail_waits hs hc hn inv _ i rfl hin (mem_ready.1 hr).1 j h hj
  induction f with
  | zero =>
    intro listed a inv _ hr hy H
    refine ⟨fun h => (by rw [h] at hr; cases hr), fun j hj => ⟨below inv hr j hj, ?_⟩⟩
    by_cases hji : j = i
    · subst hji
      exact hy.qOp hi H
    · have h1 := hdone _ _ H j (ready_mono hj hji)
      have h2 := below inv hr j hj
      omega
  | succ f ih =>
    intro listed a inv hfree hr hy H
    refine ⟨fun h => (by rw [h] at hr; cases hr), fun j hj => ⟨below inv hr j hj, ?_⟩⟩
    by_cases hji : j = i
    · subst hji
      exact hy.qOp hi H
    · have h1 := (H.2 j (ready_mono hj hji)).2
      obtain ⟨hjun, oj, hoj, hall⟩ := mem_ready.1 hj
      have hun := (mem_ready.1 hr).1
      have hnot : ∀ e ∈ oj.after, Region.binds md e = true → e.on ≠ i := fun e he hb heq => by
        have h3 := hall e he hb
        rw [heq, getD_both hun] at h3
        cases h3
      refine qOp_mono (fun a' h3 => ih (listed.setIfInBounds j true) a' (inv.set hj (below inv hr j hj)) (fun k ok hk hki hkn hno => hfree k ok hk hki ?_ hno) (ready_mono hr (Ne.symm hji)) h3.1 ?_)
        (qOp_put hoj (hfree j oj hoj hji hjun hnot) (fun cs b => hsel i oi cs b hi) (fun cs b => hsel j oj cs b hoj) hy h1)
      · by_cases hjk : j = k
        · subst hjk; exact hjun
        · rwa [getD_set_ne true hjk] at hkn
      · rw [Array.setIfInBounds_comm _ _ hji]
        exact h3.2

theorem headQ_lex {n g : Nat} {Lq : Act → Prop} (hsel : Region.noSelect ops = true) (hs : Region.sinkB md ops n = true) (hc : Region.chainB md ops n = true) (hn : n < ops.size) (l : List Oper) :
    ∀ (k : Nat) (listed : Array Bool) (a : Act), (∀ j, j < l.length → l[j]? = ops[k + j]?) → k + l.length = n → HeadInv md ops n listed →
    Region.lexHead md ops g l.length k listed = true → wpQuiet P ops C Lq l a → headQ P md ops C n (fun listed' a' => Region.seqB md ops g n listed' = true ∧ Lq a') l.length listed a := by
  induction l with
  | nil =>
    intro k listed a _ hk _ hB h
    obtain rfl : k = n := by simpa using hk
    exact ⟨by simpa [Region.lexHead] using hB, h⟩
  | cons o l ih =>
    intro k listed a hl hk inv hB h
    have h0 : ops[k]? = some o := by simpa using (hl 0 (by simp)).symm
    simp only [List.length_cons, Region.lexHead, Bool.and_eq_true] at hB hk
    obtain ⟨⟨hr, hf⟩, hB'⟩ := hB
    have hr' : k ∈ Region.ready md ops listed := by simpa using hr
    obtain ⟨v, hy, hK⟩ := yieldsIn_of_qOp (K := wpQuiet P ops C Lq l) h0 (by unfold qOp; simp only [h0]; exact h)
    exact headQ_first h0 (Region.noSelect_spec hsel) hs hc hn (by omega) (fun _ _ hL => seqB_ready hL.1) l.length listed a inv (Region.free_spec h0 hf) hr' hy
      (ih (k + 1) _ _ (fun j hj => by have := hl (j + 1) (by simp; omega); simpa [Nat.add_assoc, Nat.add_comm 1 j] using this) (by omega) (inv.set hr' (by omega)) hB' hK)

/-- The region: its first n operations as a lexical walk in the class, the others one behind the other, in every world of the class. -/
theorem wp_region_tail {id : Nat} {Q : Exit → Act → World → Prop} {a : Act} {w : World} {l : List Oper} (n : Nat) (hm : P.follows .mixedOrders = true) (hB : Region.lexTailB .any l.toArray n = true) (hC : C { w with drawn := w.drawn + 1 })
    (h : wpQuiet P l.toArray C (fun a' => ∀ w', C w' → wpList P l.toArray Q (l.drop n) a' w') (l.take n) a) : (Code.region id l.toArray true).wp P Q a w := by
  simp only [Region.lexTailB, Bool.and_eq_true, decide_eq_true_eq] at hB
  obtain ⟨⟨⟨⟨hsel, hn⟩, hs⟩, hc⟩, hlex⟩ := hB
  have hn' : n < l.length := by simpa using hn
  have htl : (l.take n).length = n := by simp; omega
  have hdl : (l.drop n).length = l.toArray.size - n := by simp
  have inv0 : HeadInv .any l.toArray n (Array.replicate l.toArray.size false) :=
    ⟨by simp, fun j oj _ hl => (by rw [getD_replicate_false] at hl; cases hl), fun t _ ht => getD_in (by simpa using ht) (getD_replicate_false _ _)⟩
  have H := headQ_lex (md := .any) (g := l.toArray.size - n) hsel hs hc hn (l.take n) 0 _ a (fun j hj => by
    have hj' : j < n := by rw [htl] at hj; exact hj
    simp [hj']) (by simpa using htl) inv0 (by rw [htl]; exact hlex) h
  refine wp_region_any hm ?_
  have := any_of_headQ (Q := Q) (g := l.toArray.size - n) (fun listed a' w' hw' hL => by
    have := wpAny_of_seq (md := .any) (Q' := Q) (l.drop n) n listed a' w' (fun j => by simp [List.getElem?_drop]) (by rw [hdl]; exact hL.1) (hL.2 w' hw')
    rwa [hdl] at this) _ _ _ _ hC H
  rw [htl, show n + (l.toArray.size - n) = l.toArray.size by omega] at this
  exact this

theorem wp_region_belT {id : Nat} {Q : Exit → Act → World → Prop} {a : Act} {w : World} {l : List Oper} (n : Nat) (hm : P.follows .mixedOrders = true) (hB : Region.lexTailB .any l.toArray n = true)
    (h : wpQuiet P l.toArray (fun w' => ∃ x : Bel w, w' = x.w) (fun a' => ∀ w', (∃ x : Bel w, w' = x.w) → wpList P l.toArray Q (l.drop n) a' w') (l.take n) a) : (Code.region id l.toArray true).wp P Q a w :=
  wp_region_tail (C := fun w' => ∃ x : Bel w, w' = x.w) n hm hB ⟨⟨{ w with drawn := w.drawn + 1 }, ⟨rfl, rfl, rfl, Nat.le_refl _, fun _ _ => rfl⟩⟩, rfl⟩ h
end
end Go.Proofs.YtehgeoipbgpocaaGreatDoor

namespace Go.Proofs.YtehgeoipbgpocaaGreatDoor
set_option linter.unusedVariables false
set_option linter.unusedSimpArgs false
open Go.RowKit

section
variable {P : Program} {ops : Array Oper} {md : Region.Mode}

/-- The operation, in a world, yields v and leaves the world, or calls a function that returns v and leaves all that lay there as it lay. -/
def yieldsC (P : Program) (w : World) (v : Value) : Result Next → Prop
  | .ok (.value u) w' => w' = w ∧ u = v
  | .ok .skip w' => w' = w ∧ v = undef
  | .ok (.enter f args) w' => w' = w ∧ Calls P f args w (Ret v w)
  | _ => False
/-- The operation, in a world, makes memory beside what lay there. -/
def grows (P : Program) (w : World) (K : Value → World → Prop) : Result Next → Prop
  | .ok (.value v) w' => Below w.heap.size w w' ∧ K v w'
  | .ok .skip w' => Below w.heap.size w w' ∧ K undef w'
  | .ok (.enter f args) w' => w' = w ∧ Calls P f args w fun e w'' => ∃ v, e = .returned v ∧ Below w.heap.size w w'' ∧ K v w''
  | _ => False
theorem grows_mono {w : World} {K K' : Value → World → Prop} {r : Result Next} (h : ∀ v w', Below w.heap.size w w' → K v w' → K' v w') (hg : grows P w K r) : grows P w K' r := by
  cases r with
  | ok nx w' =>
    cases nx <;> simp only [grows] at hg ⊢
    case value v => exact ⟨hg.1, h _ _ hg.1 hg.2⟩
    case skip => exact ⟨hg.1, h _ _ hg.1 hg.2⟩
    case enter f args => exact ⟨hg.1, hg.2.mono fun _ _ ⟨v, h1, h2, h3⟩ => ⟨v, h1, h2, h _ _ h2 h3⟩⟩
  | halt x w' => simp only [grows] at hg

def calmOp (P : Program) (ops : Array Oper) (o : Oper) (K : Act → World → Prop) (a : Act) (W : World) : Prop :=
  if Region.wanted o (yielded ops a.tmps) then ∃ v, (∀ x : Bel W, yieldsC P x.w v ((execOp a.eval o).run P x.w)) ∧ K (a.put o.dst v) W else K (a.put o.dst undef) W
def chainOp (P : Program) (ops : Array Oper) (o : Oper) (K : Act → World → Prop) (a : Act) (W : World) : Prop :=
  if Region.wanted o (yielded ops a.tmps) then ∀ x : Bel W, grows P x.w (fun v w' => K (a.put o.dst v) w') ((execOp a.eval o).run P x.w) else K (a.put o.dst undef) W
/-- A walk: calm operations, and forks, at which only operations that make memory can stand next. -/
inductive Walk where
  | tail
  | none
  | calm (o : Oper) (p : Walk)
  | fork (o : Oper) (p q : Walk)
/-- The walk's claim. -/
def wpX (P : Program) (ops : Array Oper) (Q : Act → World → Prop) : Walk → Act → World → Prop
  | .tail, a, W => Q a W
  | .none, _, _ => True
  | .calm o p, a, W => calmOp P ops o (wpX P ops Q p) a W
  | .fork o p q, a, W => chainOp P ops o (wpX P ops Q p) a W ∧ wpX P ops Q q a W
theorem wpX_tail {Q : Act → World → Prop} {a : Act} {W : World} (h : Q a W) : wpX P ops Q .tail a W := h
theorem wpX_none {Q : Act → World → Prop} {a : Act} {W : World} : wpX P ops Q .none a W := trivial
theorem wpX_calm {Q : Act → World → Prop} {a : Act} {W : World} {o : Oper} {p : Walk} (h : ∀ K : Act → World → Prop, (∀ a W, wpX P ops Q p a W → K a W) → calmOp P ops o K a W) : wpX P ops Q (.calm o p) a W := h _ fun _ _ h => h
theorem wpX_fork {Q : Act → World → Prop} {a : Act} {W : World} {o : Oper} {p q : Walk} (h : ∀ K : Act → World → Prop, (∀ a W, wpX P ops Q p a W → K a W) → chainOp P ops o K a W) (h' : wpX P ops Q q a W) : wpX P ops Q (.fork o p q) a W := ⟨h _ fun _ _ h => h, h'⟩
theorem wpX_only {Q : Act → World → Prop} {a : Act} {W : World} {o : Oper} {p : Walk} (h : ∀ K : Act → World → Prop, (∀ a W, wpX P ops Q p a W → K a W) → chainOp P ops o K a W) : wpX P ops Q (.fork o p .none) a W := ⟨h _ fun _ _ h => h, trivial⟩

/-- What an operation does that leaves the world. -/
inductive Calm (P : Program) (ops : Array Oper) (o : Oper) (a : Act) (W : World) : Value → Prop
  | calm (v : Value) : Region.wanted o (yielded ops a.tmps) = true → (∀ x : Bel W, yieldsC P x.w v ((execOp a.eval o).run P x.w)) → Calm P ops o a W v
  | over : Region.wanted o (yielded ops a.tmps) = false → Calm P ops o a W undef
theorem calm_of {o : Oper} {K : Act → World → Prop} {a : Act} {W : World} (h : calmOp P ops o K a W) : ∃ v, Calm P ops o a W v ∧ K (a.put o.dst v) W := by
  unfold calmOp at h
  split at h
  · obtain ⟨v, h1, h2⟩ := h
    exact ⟨v, .calm v (by assumption) h1, h2⟩
  · rename_i hn
    exact ⟨undef, .over (Bool.eq_false_iff.2 hn), h⟩
theorem Calm.later {o : Oper} {a : Act} {W W' : World} {v : Value} (h : Calm P ops o a W v) (hb : Below W.heap.size W W') : Calm P ops o a W' v := by
  cases h with
  | calm v hw hv => exact .calm v hw fun x => hv ⟨x.w, hb.trans (x.below.mono hb.size)⟩
  | over hw => exact .over hw
theorem Calm.put {oi oj : Oper} {a : Act} {W : World} {v x : Value} (hap : oi.apart ops oj = true) (hsi : ∀ cs b, oi.op ≠ .select cs b) (h : Calm P ops oi a W v) : Calm P ops oi (a.put oj.dst x) W v := by
  obtain ⟨h1, h2, h3⟩ := Oper.apart_spec hap
  have e1 := execOp_put (ops := ops) oi hsi a oj.dst x h3
  have e2 := wanted_put (ops := ops) oi a oj.dst x h3
  cases h with
  | calm v hw hv => exact .calm v (e2.trans hw) (fun y => by rw [e1]; exact hv y)
  | over hw => exact .over (e2.trans hw)

/-- A step of the region in a class of worlds. -/
inductive DoesX (P : Program) (ops : Array Oper) (o : Oper) (K : Act → World → Prop) (a : Act) (W : World) : Prop
  | calm (v : Value) : Calm P ops o a W v → K (a.put o.dst v) W → DoesX P ops o K a W
  | chain : Region.wanted o (yielded ops a.tmps) = true → (∀ x : Bel W, grows P x.w (fun v w' => K (a.put o.dst v) w') ((execOp a.eval o).run P x.w)) → DoesX P ops o K a W
theorem doesX_of_chain {o : Oper} {K : Act → World → Prop} {a : Act} {W : World} (h : chainOp P ops o K a W) : DoesX P ops o K a W := by
  unfold chainOp at h
  split at h
  · exact .chain (by assumption) h
  · rename_i hn
    exact .calm undef (.over (Bool.eq_false_iff.2 hn)) h
theorem DoesX.mono {o : Oper} {K K' : Act → World → Prop} {a : Act} {W : World} (hk : ∀ a W, K a W → K' a W) (h : DoesX P ops o K a W) : DoesX P ops o K' a W := by
  cases h with
  | calm v hv hK => exact .calm v hv (hk _ _ hK)
  | chain hw hg => exact .chain hw fun x => grows_mono (fun _ _ _ h => hk _ _ h) (hg x)

/-- The head's operations, in whatever order; behind them L. -/
def headX (P : Program) (md : Region.Mode) (ops : Array Oper) (n : Nat) (L : Array Bool → Act → World → Prop) : Nat → Array Bool → Act → World → Prop
  | 0, listed, a, W => L listed a W
  | f + 1, listed, a, W => Region.ready md ops listed ≠ [] ∧ ∀ i ∈ Region.ready md ops listed, i < n ∧ ∃ o, ops[i]? = some o ∧ DoesX P ops o (headX P md ops n L f (listed.setIfInBounds i true)) a W

theorem headX_first {n i : Nat} {oi : Oper} {v : Value} {L : Array Bool → Act → World → Prop} (hi : ops[i]? = some oi) (hsel : ∀ (j : Nat) (o : Oper) cs b, ops[j]? = some o → o.op ≠ .select cs b)
    (hs : Region.sinkB md ops n = true) (hc : Region.chainB md ops n = true) (hn : n < ops.size) (hin : i < n) (hdone : ∀ listed a W, L listed a W → ∀ j ∈ Region.ready md ops listed, n ≤ j) (f : Nat) :
    ∀ (listed : Array Bool) (a : Act) (W : World), HeadInv md ops n listed →
      (∀ j oj, ops[j]? = some oj → j ≠ i → listed.getD j true = false → (∀ e ∈ oj.after, Region.binds md e = true → e.on ≠ i) → oi.apart ops oj = true) →
      i ∈ Region.ready md ops listed → Calm P ops oi a W v →
      headX P md ops n L f (listed.setIfInBounds i true) (a.put oi.dst v) W → headX P md ops n L (f + 1) listed a W := by
  have below : ∀ {listed : Array Bool}, HeadInv md ops n listed → i ∈ Region.ready md ops listed → ∀ j ∈ Region.ready md ops listed, j < n := fun inv hr j hj =>
    Nat.lt_of_not_le fun h => tail_waits hs hc hn inv _ i rfl hin (mem_ready.1 hr).1 j h hj
  induction f with
  | zero =>
    intro listed a W inv _ hr hy H
    refine ⟨fun h => (by rw [h] at hr; cases hr), fun j hj => ⟨below inv hr j hj, ?_⟩⟩
    by_cases hji : j = i
    · subst hji
      exact ⟨oi, hi, .calm v hy H⟩
    · have h1 := hdone _ _ _ H j (ready_mono hj hji)
      have h2 := below inv hr j hj
      omega
  | succ f ih =>
    intro listed a W inv hfree hr hy H
    refine ⟨fun h => (by rw [h] at hr; cases hr), fun j hj => ⟨below inv hr j hj, ?_⟩⟩
    by_cases hji : j = i
    · subst hji
      exact ⟨oi, hi, .calm v hy H⟩
    · obtain ⟨_, oj, hoj, hd⟩ := H.2 j (ready_mono hj hji)
      obtain ⟨hjun, oj', hoj', hall⟩ := mem_ready.1 hj
      obtain rfl : oj' = oj := Option.some.inj (hoj'.symm.trans hoj)
      have hun := (mem_ready.1 hr).1
      have hnot : ∀ e ∈ oj'.after, Region.binds md e = true → e.on ≠ i := fun e he hb heq => by
        have h3 := hall e he hb
        rw [heq, getD_both hun] at h3
        cases h3
      have hap := hfree j oj' hoj hji hjun hnot
      obtain ⟨p1, p2, p3⟩ := Oper.apart_spec hap
      have e1 := execOp_put (ops := ops) oj' (fun cs b => hsel j oj' cs b hoj) a oi.dst v p1
      have e2 := wanted_put (ops := ops) oj' a oi.dst v p1
      have step : ∀ (u : Value) (W' : World), Below W.heap.size W W' → headX P md ops n L f ((listed.setIfInBounds i true).setIfInBounds j true) ((a.put oi.dst v).put oj'.dst u) W' →
          headX P md ops n L (f + 1) (listed.setIfInBounds j true) (a.put oj'.dst u) W' := fun u W' hb hk => by
        refine ih (listed.setIfInBounds j true) _ _ (inv.set hj (below inv hr j hj)) (fun k ok hk hki hkn hno => hfree k ok hk hki ?_ hno) (ready_mono hr (Ne.symm hji)) ((hy.later hb).put hap (fun cs b => hsel i oi cs b hi)) ?_
        · by_cases hjk : j = k
          · subst hjk; exact hjun
          · rwa [getD_set_ne true hjk] at hkn
        · rw [Array.setIfInBounds_comm _ _ hji, ← Act.put_comm a _ _ p2]
          exact hk
      refine ⟨oj', hoj, ?_⟩
      cases hd with
      | calm u hu hk =>
        have hu' : Calm P ops oj' a W u := by
          cases hu with
          | calm u hw hv => exact .calm u (e2.symm.trans hw) (fun y => by have := hv y; rw [e1] at this; exact this)
          | over hw => exact .over (e2.symm.trans hw)
        exact .calm u hu' (step u W (Below.refl _ _) hk)
      | chain hw hg =>
        refine .chain (e2.symm.trans hw) fun x => ?_
        have := hg x
        rw [e1] at this
        exact grows_mono (fun u w' hb hk => step u w' (x.below.trans (hb.mono x.size_le)) hk) this

/-- A plan: the walk by the operations' numbers. -/
inductive Plan where
  | tail
  | none
  | calm (k : Nat) (p : Plan)
  | fork (k : Nat) (p q : Plan)
def Plan.keys : Plan → List Nat
  | .fork k _ q => k :: q.keys
  | _ => []
def operAt (l : List Oper) (k : Nat) : Oper := (l[k]?).getD ⟨none, .move (.tmp 0), 0, "", #[], none⟩
def Plan.walk (l : List Oper) : Plan → Walk
  | .tail => .tail
  | .none => .none
  | .calm k p => .calm (operAt l k) (p.walk l)
  | .fork k p q => .fork (operAt l k) (p.walk l) (q.walk l)
/-- The plan fits: each calm operation is ready and apart from what may stand ahead of it; at a fork just its operations are ready. m: how many operations are left; b: inside a fork. -/
def Plan.fits (md : Region.Mode) (ops : Array Oper) (g n : Nat) : Plan → Bool → Nat → Array Bool → Bool
  | .tail, b, m, listed => !b && m == 0 && Region.seqB md ops g n listed
  | .none, b, _, _ => b
  | .calm k p, b, m, listed => !b && (Region.ready md ops listed).contains k && Region.free md ops listed k && decide (k < n) && decide (0 < m) && p.fits md ops g n false (m - 1) (listed.setIfInBounds k true)
  | .fork k p q, b, m, listed => (b || decide (Region.ready md ops listed = k :: q.keys)) && decide (0 < m) && decide (k < n) && p.fits md ops g n false (m - 1) (listed.setIfInBounds k true) && q.fits md ops g n true m listed

theorem headX_plan {n g : Nat} {l : List Oper} {Lq : Act → World → Prop} (hl : ops = l.toArray) (hsel : Region.noSelect ops = true) (hs : Region.sinkB md ops n = true) (hc : Region.chainB md ops n = true) (hn : n < ops.size) (p : Plan) :
    ∀ (m : Nat) (listed : Array Bool) (a : Act) (W : World), HeadInv md ops n listed → wpX P ops Lq (p.walk l) a W →
    (p.fits md ops g n false m listed = true → headX P md ops n (fun listed' a' W' => Region.seqB md ops g n listed' = true ∧ Lq a' W') m listed a W) ∧
    (p.fits md ops g n true m listed = true → (∀ k ∈ p.keys, k ∈ Region.ready md ops listed) → ∀ k ∈ p.keys, k < n ∧ ∃ o, ops[k]? = some o ∧
      DoesX P ops o (headX P md ops n (fun listed' a' W' => Region.seqB md ops g n listed' = true ∧ Lq a' W') (m - 1) (listed.setIfInBounds k true)) a W) := by
  have hoper : ∀ k, k < n → ops[k]? = some (operAt l k) := fun k hkn => by
    have hk : k < l.length := by rw [hl] at hn; simp at hn; omega
    unfold operAt
    rw [hl]; simp [hk]
  induction p with
  | tail =>
    intro m listed a W inv h
    refine ⟨fun hf => ?_, fun hf => by simp [Plan.fits] at hf⟩
    simp only [Plan.fits, Bool.not_false, Bool.true_and, Bool.and_eq_true, beq_iff_eq] at hf
    rw [hf.1]
    exact ⟨hf.2, h⟩
  | none =>
    intro m listed a W inv h
    exact ⟨fun hf => by simp [Plan.fits] at hf, fun _ _ k hk => by simp [Plan.keys] at hk⟩
  | calm k p ih =>
    intro m listed a W inv h
    refine ⟨fun hf => ?_, fun hf => by simp [Plan.fits] at hf⟩
    simp only [Plan.fits, Bool.not_false, Bool.true_and, Bool.and_eq_true, decide_eq_true_eq] at hf
    obtain ⟨⟨⟨⟨hr, hfree⟩, hkn⟩, hm⟩, hp⟩ := hf
    have hr' : k ∈ Region.ready md ops listed := by simpa using hr
    obtain ⟨v, hv, hK⟩ := calm_of (show calmOp P ops (operAt l k) (wpX P ops Lq (p.walk l)) a W from h)
    have := (ih (m - 1) _ _ _ (inv.set hr' hkn) hK).1 hp
    obtain ⟨m', rfl⟩ : ∃ m', m = m' + 1 := ⟨m - 1, by omega⟩
    exact headX_first (hoper k hkn) (Region.noSelect_spec hsel) hs hc hn hkn (fun _ _ _ hL => seqB_ready hL.1) m' listed a W inv (Region.free_spec (hoper k hkn) hfree) hr' hv this
  | fork k p q ihp ihq =>
    intro m listed a W inv h
    obtain ⟨h1, h2⟩ := (show chainOp P ops (operAt l k) (wpX P ops Lq (p.walk l)) a W ∧ wpX P ops Lq (q.walk l) a W from h)
    have both : ∀ b, (Plan.fork k p q).fits md ops g n b m listed = true → (∀ k' ∈ (Plan.fork k p q).keys, k' ∈ Region.ready md ops listed) → ∀ k' ∈ (Plan.fork k p q).keys, k' < n ∧ ∃ o, ops[k']? = some o ∧
        DoesX P ops o (headX P md ops n (fun listed' a' W' => Region.seqB md ops g n listed' = true ∧ Lq a' W') (m - 1) (listed.setIfInBounds k' true)) a W := fun b hf hall k' hk' => by
      simp only [Plan.fits, Bool.and_eq_true, decide_eq_true_eq] at hf
      obtain ⟨⟨⟨⟨_, hm⟩, hkn⟩, hp⟩, hq⟩ := hf
      have hall' : k ∈ Region.ready md ops listed ∧ ∀ k' ∈ q.keys, k' ∈ Region.ready md ops listed := ⟨hall k (by simp [Plan.keys]), fun k' h => hall k' (by simp [Plan.keys, h])⟩
      rcases (show k' = k ∨ k' ∈ q.keys by simpa [Plan.keys] using hk') with rfl | hk'
      · exact ⟨hkn, _, hoper k' hkn, (doesX_of_chain h1).mono fun a' W' h' => (ihp _ _ _ _ (inv.set hall'.1 hkn) h').1 hp⟩
      · exact (ihq m listed a W inv h2).2 hq hall'.2 k' hk'
    refine ⟨fun hf => ?_, both true⟩
    have hf' := hf
    simp only [Plan.fits, Bool.false_or, Bool.and_eq_true, decide_eq_true_eq] at hf'
    obtain ⟨⟨⟨⟨hr, hm⟩, hkn⟩, _⟩, _⟩ := hf'
    obtain ⟨m', rfl⟩ : ∃ m', m = m' + 1 := ⟨m - 1, by omega⟩
    refine ⟨fun h0 => (by rw [hr] at h0; cases h0), fun i hi => ?_⟩
    exact both false hf (fun k' hk' => by rw [hr]; exact hk') i (by rw [hr] at hi; exact hi)

theorem any_of_headX {n g : Nat} {L : Array Bool → Act → World → Prop} {Q : Exit → Act → World → Prop} (hL : ∀ listed a W (x : Bel W), L listed a W → wpAny P md ops Q g listed a x.w) (f : Nat) :
    ∀ (listed : Array Bool) (a : Act) (W : World) (x : Bel W), headX P md ops n L f listed a W → wpAny P md ops Q (f + g) listed a x.w := by
  induction f with
  | zero => intro listed a W x h; rw [Nat.zero_add]; exact hL _ _ _ x h
  | succ f ih =>
    intro listed a W x h
    rw [show f + 1 + g = (f + g) + 1 by omega]
    refine ⟨fun h0 => absurd h0 h.1, fun i hi => ?_⟩
    obtain ⟨_, o, ho, hd⟩ := h.2 i hi
    unfold wpOp
    simp only [ho]
    cases hd with
    | calm v hv hk =>
      cases hv with
      | over hw => rw [if_neg (by rw [hw]; exact Bool.false_ne_true)]; exact ih _ _ _ x hk
      | calm v hw hy =>
        rw [if_pos hw]
        refine .inl ?_
        unfold Oper.wp
        have h3 := hy x
        generalize (execOp a.eval o).run P x.w = r at *
        cases r with
        | ok nx w' =>
          cases nx <;> simp only [yieldsC] at h3 <;> simp only [Oper.upon]
          case value u => obtain ⟨rfl, rfl⟩ := h3; exact ih _ _ _ x hk
          case skip => obtain ⟨rfl, rfl⟩ := h3; exact ih _ _ _ x hk
          case enter fn args =>
            obtain ⟨rfl, hcl⟩ := h3
            refine hcl.mono fun e w'' ⟨he, y, hy'⟩ => ?_
            subst he hy'
            exact ih _ _ _ ⟨y.w, x.below.trans (y.below.mono x.size_le)⟩ hk
        | halt y w' => simp only [yieldsC] at h3
    | chain hw hg =>
      rw [if_pos hw]
      refine .inl ?_
      unfold Oper.wp
      have h3 := hg x
      generalize (execOp a.eval o).run P x.w = r at *
      cases r with
      | ok nx w' =>
        cases nx <;> simp only [grows] at h3 <;> simp only [Oper.upon]
        case value u => exact ih _ _ w' ⟨w', Below.refl _ _⟩ h3.2
        case skip => exact ih _ _ w' ⟨w', Below.refl _ _⟩ h3.2
        case enter fn args =>
          obtain ⟨rfl, hcl⟩ := h3
          refine hcl.mono fun e w'' ⟨u, he, _, hk⟩ => ?_
          subst he
          exact ih _ _ w'' ⟨w'', Below.refl _ _⟩ hk
      | halt y w' => simp only [grows] at h3

/-- The region: its first n operations by the plan, the others one behind the other. -/
theorem wp_region_plan {id : Nat} {Q : Exit → Act → World → Prop} {a : Act} {w : World} {l : List Oper} (n : Nat) (p : Plan) (hm : P.follows .mixedOrders = true)
    (hB : (Region.noSelect l.toArray && decide (n < l.length) && Region.sinkB .any l.toArray n && Region.chainB .any l.toArray n && p.fits .any l.toArray (l.length - n) n false n (Array.replicate l.length false)) = true)
    (h : wpX P l.toArray (fun a' W' => ∀ x : Bel W', wpList P l.toArray Q (l.drop n) a' x.w) (p.walk l) a w) : (Code.region id l.toArray true).wp P Q a w := by
  simp only [Bool.and_eq_true, decide_eq_true_eq] at hB
  obtain ⟨⟨⟨⟨hsel, hn⟩, hs⟩, hc⟩, hord⟩ := hB
  have hdl : (l.drop n).length = l.length - n := by simp
  have inv0 : HeadInv .any l.toArray n (Array.replicate l.length false) :=
    ⟨by simp, fun j oj _ hl => (by rw [getD_replicate_false] at hl; cases hl), fun t _ ht => getD_in (by simpa using ht) (getD_replicate_false _ _)⟩
  have H := (headX_plan (P := P) (md := .any) (g := l.length - n) rfl hsel hs hc (by simpa using hn) p n _ a w inv0 h).1 hord
  refine wp_region_any hm ?_
  have := any_of_headX (Q := Q) (g := l.length - n) (fun listed a' W' x hL => by
    have := wpAny_of_seq (md := .any) (Q' := Q) (l.drop n) n listed a' x.w (fun j => by simp [List.getElem?_drop]) (by rw [hdl]; exact hL.1) (hL.2 x)
    rwa [hdl] at this) _ _ _ w ⟨{ w with drawn := w.drawn + 1 }, ⟨rfl, rfl, rfl, Nat.le_refl _, fun _ _ => rfl⟩⟩ H
  rw [show n + (l.length - n) = l.toArray.size by simp; omega] at this
  simpa using this
end
end Go.Proofs.YtehgeoipbgpocaaGreatDoor

namespace Go.Proofs.YtehgeoipbgpocaaGreatDoor
set_option linter.unusedVariables false
set_option linter.unusedSimpArgs false
open Go.RowKit Go.Maps

/-- The map at block b holds true at the texts of S. -/
def SetM (P : Program) (kT eT : TypeId) (w : World) (b n : Nat) (S : List (List UInt8)) : Prop :=
  ∃ D : DataW Unit, w.ownsMap P kT (plainElem P eT) b n D ∧ ∀ s : List UInt8, D.atKey (.string s) (.lit (.bool false)) = .lit (.bool (decide (s ∈ S)))
/-- The map at block b holds the numbers of m. -/
def IntM (P : Program) (kT eT : TypeId) (w : World) (b n : Nat) (m : Int → Int) : Prop :=
  ∃ D : DataW Unit, w.ownsMap P kT (plainElem P eT) b n D ∧ ∀ x : Int, D.atKey (.int .i64 x) (.lit (.int .i64 0)) = .lit (.int .i64 (m x))
theorem setM_made (w : World) (P : Program) (kT eT : TypeId) : SetM P kT eT (w.alloc (.map #[] 0)) w.heap.size 0 [] :=
  ⟨.map [], World.ownsMap_made w P kT _, fun s => by simp [DataW.atKey]⟩
theorem intM_made (w : World) (P : Program) (kT eT : TypeId) : IntM P kT eT (w.alloc (.map #[] 0)) w.heap.size 0 (fun _ => 0) :=
  ⟨.map [], World.ownsMap_made w P kT _, fun s => by simp [DataW.atKey]⟩
theorem ownsMap_heap {P : Program} {kT : TypeId} {R : Value → Option (DataW Unit × List MemPlace)} {w w' : World} {b n : Nat} {D : DataW Unit} (h : w.ownsMap P kT R b n D) (hb : ∀ o, w.heap[b]? = some o → w'.heap[b]? = some o) : w'.ownsMap P kT R b n D := by
  obtain ⟨es, clock, h1, h2⟩ := h
  exact ⟨es, clock, hb _ h1, h2⟩
theorem SetM.heap {P : Program} {kT eT : TypeId} {w w' : World} {b n : Nat} {S : List (List UInt8)} (h : SetM P kT eT w b n S) (hb : ∀ o, w.heap[b]? = some o → w'.heap[b]? = some o) : SetM P kT eT w' b n S := by
  obtain ⟨D, h1, h2⟩ := h
  exact ⟨D, ownsMap_heap h1 hb, h2⟩
theorem IntM.heap {P : Program} {kT eT : TypeId} {w w' : World} {b n : Nat} {m : Int → Int} (h : IntM P kT eT w b n m) (hb : ∀ o, w.heap[b]? = some o → w'.heap[b]? = some o) : IntM P kT eT w' b n m := by
  obtain ⟨D, h1, h2⟩ := h
  exact ⟨D, ownsMap_heap h1 hb, h2⟩
theorem SetM.lt {P : Program} {kT eT : TypeId} {w : World} {b n : Nat} {S : List (List UInt8)} (h : SetM P kT eT w b n S) : b < w.heap.size := by
  obtain ⟨_, h1, _⟩ := h
  exact h1.lt
theorem IntM.lt {P : Program} {kT eT : TypeId} {w : World} {b n : Nat} {m : Int → Int} (h : IntM P kT eT w b n m) : b < w.heap.size := by
  obtain ⟨_, h1, _⟩ := h
  exact h1.lt
theorem plainElem_bool_inv {P : Program} {e : TypeId} (he : P.underlying e = some .bool) {v : Value} {x : Bool} {ps : List MemPlace} (h : plainElem (H := Unit) P e v = some (.lit (.bool x), ps)) : v = .bool x := by
  unfold plainElem at h
  rw [he] at h
  cases v <;> simp at h
  rw [h.1]
theorem key_str {P : Program} {k : TypeId} (hk : P.underlying k = some .string) {s : List UInt8} (hs : s.length ≤ maxLen) : keyOf P k (.string ⟨s.toArray⟩) = some (.string s) := by
  have h := Go.WideMaps.keyOf_string_mk (P := P) (k := k) hk (s := ⟨s.toArray⟩) (by simpa [ByteArray.size] using hs)
  simpa using h
section
variable {P : Program} (w : World) {ops : Array Oper} {rest : List Oper} {o : Oper} {a : Act} {Q : Exit → Act → World → Prop}
theorem wpList_lookup_set (hg : o.guard = none) (m x : Operand) (t : TypeId) (hop : o.op = Op.lookup t m x false) (k e : TypeId) (hk : P.underlying k = some .string) (ht : P.underlying t = some (.map k e)) (he : P.underlying e = some .bool)
    (hz : (zeroValue e).run P w = .ok (.bool false) w) (b n : Nat) (S : List (List UInt8)) (hm : a.eval m = .map (some b)) (hown : SetM P k e w b n S) (s : List UInt8) (hx : a.eval x = .string ⟨s.toArray⟩) (hs : s.length ≤ maxLen)
    (hK : wpList P ops Q rest (a.put o.dst (.bool (decide (s ∈ S)))) w) : wpList P ops Q (o :: rest) a w := by
  obtain ⟨D, hD, hat⟩ := hown
  refine wpList_plain hg fun K' hK' => ?_
  obtain ⟨v, ps, hrun, hv⟩ := hD.lookup (string_keyed hk) ht hz (plainElem_bool he false) (key_str hk hs)
  rw [hat s] at hv
  have hv' := plainElem_bool_inv he hv
  subst hv'
  unfold Oper.wp
  simp [execOp, hop, hm, hx, hrun, Result.andThen]
  exact hK' _ _ (by simpa using hK)
omit w in
theorem setM_run {w : World} {t k e : TypeId} (hk : P.underlying k = some .string) (ht : P.underlying t = some (.map k e)) (he : P.underlying e = some .bool) (hz : (zeroValue e).run P w = .ok (.bool false) w) {b n : Nat} {S : List (List UInt8)} (hown : SetM P k e w b n S) (s : List UInt8) (hs : s.length ≤ maxLen) :
    (Instr.lookup t (.map (some b)) (.string ⟨s.toArray⟩) false).run P w = .ok (.bool (decide (s ∈ S))) w := by
  obtain ⟨D, hD, hat⟩ := hown
  obtain ⟨v, ps, hrun, hv⟩ := hD.lookup (string_keyed hk) ht hz (plainElem_bool he false) (key_str hk hs)
  rw [hat s] at hv
  have hv' := plainElem_bool_inv he hv
  subst hv'
  exact hrun
omit w in
theorem intM_run {w : World} {t k e : TypeId} (hk : P.underlying k = some (.int .i64)) (ht : P.underlying t = some (.map k e)) (he : P.underlying e = some (.int .i64)) (hz : (zeroValue e).run P w = .ok (.int .i64 0) w) {b n : Nat} {f : Int → Int} (hown : IntM P k e w b n f) (i : Int) (hw : (Lit.int .i64 i).wf = true) :
    (Instr.lookup t (.map (some b)) (.int .i64 i) false).run P w = .ok (.int .i64 (f i)) w := by
  obtain ⟨D, hD, hat⟩ := hown
  obtain ⟨c, hrun, hc, _⟩ := hD.lookup_int (int_keyed hk) ht he hz (keyOf_int_mk hk hw)
  rw [hat i] at hc
  simp at hc
  rw [hc]
  exact hrun
theorem wpList_update_set (hg : o.guard = none) (m x v : Operand) (t : TypeId) (hop : o.op = Op.mapUpdate t m x v) (k e : TypeId) (hk : P.underlying k = some .string) (ht : P.underlying t = some (.map k e)) (he : P.underlying e = some .bool)
    (b n : Nat) (S : List (List UInt8)) (hm : a.eval m = .map (some b)) (hown : SetM P k e w b n S) (hn : n < maxLen) (s : List UInt8) (hx : a.eval x = .string ⟨s.toArray⟩) (hs : s.length ≤ maxLen) (hv : a.eval v = .bool true)
    (hK : ∀ w', SetM P k e w' b (n + 1) (s :: S) → w.grownBy w' (some b) → wpList P ops Q rest (a.put o.dst undef) w') : wpList P ops Q (o :: rest) a w := by
  obtain ⟨D, hD, hat⟩ := hown
  refine wpList_mapUpdate_own w hg m x v t hop k e (string_keyed hk) ht _ b n D hm hD hn _ _ (.string s) hx hv (key_str hk hs) (.lit (.bool true)) [] (plainElem_bool he true) fun w' h1 h2 => hK w' ⟨_, h1, fun s' => ?_⟩ h2
  by_cases h : s' = s
  · subst h
    rw [atKey_put_same hD.isMap ((string_keyed hk).key (key_str hk hs))]
    simp
  · rw [atKey_put_other (by simpa using h), hat s']
    simp [h]
theorem wpList_lookup_intM (hg : o.guard = none) (m x : Operand) (t : TypeId) (hop : o.op = Op.lookup t m x false) (k e : TypeId) (hk : P.underlying k = some (.int .i64)) (ht : P.underlying t = some (.map k e)) (he : P.underlying e = some (.int .i64))
    (hz : (zeroValue e).run P w = .ok (.int .i64 0) w) (b n : Nat) (f : Int → Int) (hm : a.eval m = .map (some b)) (hown : IntM P k e w b n f) (i : Int) (hx : a.eval x = .int .i64 i) (hw : (Lit.int .i64 i).wf = true)
    (hK : wpList P ops Q rest (a.put o.dst (.int .i64 (f i))) w) : wpList P ops Q (o :: rest) a w := by
  obtain ⟨D, hD, hat⟩ := hown
  refine wpList_lookup_own_int w hg m x t hop k e .i64 (int_keyed hk) ht he hz b n D hm hD _ _ hx (keyOf_int_mk hk hw) fun c hc _ => ?_
  rw [hat i] at hc
  simp at hc
  rw [← hc]
  exact hK
theorem wpList_update_intM (hg : o.guard = none) (m x v : Operand) (t : TypeId) (hop : o.op = Op.mapUpdate t m x v) (k e : TypeId) (hk : P.underlying k = some (.int .i64)) (ht : P.underlying t = some (.map k e)) (he : P.underlying e = some (.int .i64))
    (b n : Nat) (f : Int → Int) (hm : a.eval m = .map (some b)) (hown : IntM P k e w b n f) (hn : n < maxLen) (i : Int) (hx : a.eval x = .int .i64 i) (hw : (Lit.int .i64 i).wf = true) (z : Int) (hv : a.eval v = .int .i64 z) (hwz : (Lit.int .i64 z).wf = true)
    (hK : ∀ w', IntM P k e w' b (n + 1) (fun j => if j = i then z else f j) → w.grownBy w' (some b) → wpList P ops Q rest (a.put o.dst undef) w') : wpList P ops Q (o :: rest) a w := by
  obtain ⟨D, hD, hat⟩ := hown
  refine wpList_mapUpdate_own w hg m x v t hop k e (int_keyed hk) ht _ b n D hm hD hn _ _ (.int .i64 i) hx hv (keyOf_int_mk hk hw) (.lit (.int .i64 z)) [] (plainElem_int he hwz) fun w' h1 h2 => hK w' ⟨_, h1, fun j => ?_⟩ h2
  by_cases h : j = i
  · subst h
    rw [atKey_put_same hD.isMap ((int_keyed hk).key (keyOf_int_mk hk hw))]
    simp
  · rw [atKey_put_other (by simpa using h), hat j]
    simp [h]
end
end Go.Proofs.YtehgeoipbgpocaaGreatDoor
