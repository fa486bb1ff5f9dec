/- Text. -/
import Derived.Test.YtjojdkdpdlmahaaDoorSeq
import Derived.Test.YtjojdkdpdlmahaaDoorE
namespace Go.Proofs.YtjojdkdpdlmahaaDoor
open Go.RowKit Go.Shelf
attribute [local go_sem low] Bel.cell Bel.frozen alloc_cell alloc_frozen
attribute [local go_sem] Oper.semAt_some

theorem allF_any (lo hi : Nat) (w : World) : Calls Tryd.prog 52 #[.agg #[.int .u64 (lo : Int), .int .u64 (hi : Int)]] w fun e w' => e = .returned (.func (.func 64) #[] #[.pointer (some ⟨w.heap.size, 0, none⟩)]) ∧ w' = w.alloc (.cells #[.int .u64 (lo : Int), .int .u64 (hi : Int)] 34) := by
  go_enter Tryd.func52, Tryd.ntmps52
  go_wp2
  go_ret
  exact ⟨rfl, rfl⟩
theorem all_stops (n : Nat) (hn : 1 ≤ n) (Bn n₀ lo hi : Nat) (w : World) (h1 : lo < 18446744073709551616) (h2 : hi < 18446744073709551616) (hBn : Bn < w.heap.size)
    (hc0 : w.cell? ⟨Bn, 0, none⟩ = some (.int .u64 lo)) (hc1 : w.cell? ⟨Bn, 1, none⟩ = some (.int .u64 hi)) (hg : 0 < n₀) (hT : Tz w) :
    SeqStopsK Fence.wide n Tryd.prog 64 #[.pointer (some ⟨Bn, 0, none⟩)] (fun x : Fin 128 => #[Value.int .i64 (x.val : Int)]) (Below n₀) (fun ys => ys = memF lo hi) (fun pre => pre <+: memF lo hi) 128 w := fun l J Jx W hW hJ _ hY h0 =>
  all1_in n hn l Bn n₀ lo hi J Jx h1 h2 hY W ((hW.cell (p := ⟨Bn, 0, none⟩) hBn).trans hc0) ((hW.cell (p := ⟨Bn, 1, none⟩) hBn).trans hc1) hg (hT.of hT.lt hW) hJ h0

theorem Tryd.infoStr : (Tryd.prog.info? 9).map (fun i => (i.zero, i.size, i.bytes)) = some (some (.string ByteArray.empty), 1, 16) := by kernel_rfl
def nameV (x : Fin 128) : Value := .string ⟨(nameL x.val).toArray⟩
def textF (lo hi : Nat) : List UInt8 := Lib.join ((mems lo hi).map nameL) [32]

/-- Join of such a slice of names. -/
theorem join_row {W : World} {base : Nat} {v : Value} {l : List (Fin 128)} (h : W.ownsRow base 9 1 v l.length (l.map nameV)) (hl : l.length ≤ 128) :
    Calls Tryd.prog 55 #[v, .string ⟨#[32]⟩] W (Ret (.string ⟨(Lib.join (l.map fun x => nameL x.val) [32]).toArray⟩) W) := by
  cases hl0 : l with
  | nil =>
    subst hl0
    obtain ⟨a, c, rfl⟩ : ∃ a c, v = .slice a 0 c := by
      rcases h.2 with ⟨rfl, _⟩ | ⟨g, cap, cur, rfl, _⟩
      · exact ⟨_, _, rfl⟩
      · exact ⟨_, _, rfl⟩
    exact (Tryd.strings_Join_none a c ⟨#[32]⟩ W).mono fun e w' ⟨he, hw⟩ => ⟨by rw [he]; rfl, ⟨w', by rw [hw]; exact Below.refl _ _⟩, rfl⟩
  | cons x r =>
    rw [← hl0]
    obtain ⟨g, cap, rfl, _, hg, hcap, hcell⟩ := ownsRow_cells h (by rw [hl0]; simp)
    have hxs : ((l.map fun x => (⟨(nameL x.val).toArray⟩ : ByteArray)).map fun b => b.data.toList) = l.map fun x => nameL x.val := by rw [List.map_map]; rfl
    have hle := join_le [32] 4 (l.map fun x => nameL x.val) (fun y hy => by obtain ⟨x, _, rfl⟩ := List.mem_map.1 hy; exact nameL_len x)
    rw [List.length_map, List.length_singleton] at hle
    have := Tryd.strings_Join g 0 cap (l.map fun x => ⟨(nameL x.val).toArray⟩) ⟨#[32]⟩ W (fun j x hj => by
      rw [Nat.zero_add]
      refine (hcell j (.string x) ?_).1
      rw [List.getElem?_map] at hj ⊢
      cases hlj : l[j]? with
      | none => rw [hlj] at hj; cases hj
      | some y => rw [hlj] at hj; cases hj; rfl) hg (by rw [List.length_map]; omega) (by rw [List.length_map]; exact hcap) (by rw [hxs]; exact Nat.le_trans hle (by omega))
    rw [List.length_map, hxs] at this
    exact this.mono fun e w' ⟨he, hb⟩ => ⟨he, ⟨w', hb⟩, rfl⟩
set_option maxRecDepth 100000 in
set_option maxHeartbeats 4000000 in
theorem text_any (lo hi : Nat) (w : World) (h1 : lo < 18446744073709551616) (h2 : hi < 18446744073709551616) (hTz : Tz w) (hTab : Tab w) :
    Calls Tryd.prog 38 #[.agg #[.int .u64 (lo : Int), .int .u64 (hi : Int)]] w (Ret (.string ⟨(textF lo hi).toArray⟩) w) := by
  obtain ⟨i0, hi0, hz0, hz1, hz2⟩ := info_parts Tryd.infoStr
  have hw0 := hTz.lt
  rw [show textF lo hi = Lib.join ((memF lo hi).map fun x => nameL x.val) [32] by unfold textF; rw [← memF_val, List.map_map]; rfl]
  refine (callsIn_wide (n := 3)).1 ?_
  refine callsIn_of_wp_marks Tryd.func38 rfl trivial ?_ rfl
  simp only [Tryd.ntmps38, List.size_toArray, List.length_cons, List.length_nil, Nat.reduceAdd, Nat.reduceSub, Array.replicate_succ, Array.replicate_zero, List.push_toArray, List.append_toArray, List.nil_append, List.cons_append]
  gi_wp2_with (refine ⟨trivial, ?_⟩; gi_at_call 52; refine (callsIn_wide.2 (allF_any _ _ _)).mono ?_; rintro _ _ ⟨rfl, rfl⟩)
  have bO := Boxed.new (w.alloc (.cells #[.int .u64 (lo : Int), .int .u64 (hi : Int)] 34)) 59 (.slice none 0 0)
  have hT' : Tz (((w.alloc (.cells #[.int .u64 (lo : Int), .int .u64 (hi : Int)] 34)).alloc (.cells #[.slice none 0 0] 59)).alloc (.cells #[.int .u64 (lo : Int), .int .u64 (hi : Int)] 34)) := hTz.of hw0 (by (repeat' (first | (with_reducible exact Below.refl _ _) | (with_reducible exact Nat.le_refl _) | (with_reducible refine Below.bel ?_ ?_) | (with_reducible refine Below.alloc ?_ ?_ _) | (with_reducible refine Below.drew ?_) | (with_reducible refine Below.drawsN ?_ _) | (with_reducible refine Below.setCell ?_ ?_ _) | (with_reducible refine le_bel ?_) | (with_reducible refine le_alloc ?_) | (with_reducible refine le_setCell ?_) | (with_reducible refine le_drew ?_) | (with_reducible refine le_drawsN ?_) | (dsimp only; with_reducible refine le_bel ?_) | (dsimp only; with_reducible refine Nat.le_refl _) | (dsimp only; with_reducible refine le_bel_add ?_) | (with_reducible assumption) | omega | (dsimp only; omega))))
  have hlen : (memF lo hi).length ≤ 128 := by
    unfold memF; rw [List.length_map, mems_len]
    have := popc_le lo
    have := popc_le hi
    omega
  refine wpIn_rangeFunc_ownG rfl (by omega : 1 ≤ 3) (gf := 64) (lb := #[.pointer (some ⟨w.heap.size + 1 + 1, 0, none⟩)]) rfl trivial (enters_of Tryd.func64 (by kernel_rfl) rfl)
    (all_stops (3 - 1) (by omega) (w.heap.size + 1 + 1) w.heap.size lo hi _ h1 h2 (by simp) (by simp [go_sem]) (by simp [go_sem]) hw0 hT') belowK_t (belowK_b (by simp; omega)) (Below.refl _ _) (fun _ => rfl)
    (fun (pre : List (Fin 128)) W => (∃ v, Boxed W (w.heap.size + 1) 59 v ∧ W.ownsRow w.heap.size 9 1 v pre.length (pre.map nameV) ∧ True) ∧ Below w.heap.size w W)
    (fun _ _ _ => False)
    (OwnFrom.and (Own.from (holdsRow_own w.heap.size (w.heap.size + 1) 59 9 1 (fun pre : List (Fin 128) => pre.length) (fun pre : List (Fin 128) => pre.map nameV) (fun _ _ => True)) _) (ownFrom_below (Nat.le_refl _) (by simp; omega)))
    (fun _ _ _ _ _ hs _ _ => hs)
    ⟨⟨_, by simpa using bO.alloc _, World.ownsRow_nil _ _ _ _, trivial⟩, by (repeat' (first | (with_reducible exact Below.refl _ _) | (with_reducible exact Nat.le_refl _) | (with_reducible refine Below.bel ?_ ?_) | (with_reducible refine Below.alloc ?_ ?_ _) | (with_reducible refine Below.drew ?_) | (with_reducible refine Below.drawsN ?_ _) | (with_reducible refine Below.setCell ?_ ?_ _) | (with_reducible refine le_bel ?_) | (with_reducible refine le_alloc ?_) | (with_reducible refine le_setCell ?_) | (with_reducible refine le_drew ?_) | (with_reducible refine le_drawsN ?_) | (dsimp only; with_reducible refine le_bel ?_) | (dsimp only; with_reducible refine Nat.le_refl _) | (dsimp only; with_reducible refine le_bel_add ?_) | (with_reducible assumption) | omega | (dsimp only; omega)))⟩
    (fun x => { tmps := #[.agg #[.int .u64 (lo : Int), .int .u64 (hi : Int)], .pointer (some ⟨w.heap.size, 0, none⟩), .string ⟨#[]⟩, .pointer (some ⟨w.heap.size + 1, 0, none⟩), .int .i64 (x.val : Int), undef, undef, .agg #[.int .u64 (lo : Int), .int .u64 (hi : Int)], .func (.func 64) #[] #[.pointer (some ⟨w.heap.size + 1 + 1, 0, none⟩)], .int .i64 (x.val : Int), undef, undef, undef, undef, undef, undef, undef, undef, undef, undef, undef], defers := [] }) ?assign ?body ?done ?stop
  case assign =>
    intro l x W K hK
    gi_wp2
    exact hK
  case body =>
    rintro l pre x W ⟨⟨v, hv, hrow, _⟩, hB⟩ hlt
    have hBs := hB.size
    have hx127 : x.val ≤ 127 := by omega
    have HTb := Lib.hid (hTab.of hB)
    gi_wp2_with (first | (refine ⟨trivial, ?_⟩; gi_at_call 14; refine (CallsIn.inRound l (callsIn_wide.2 (name_any x.val _ hx127 HTb.out))).mono ?_; rintro _ _ ⟨rfl, y, rfl⟩; have hvy := boxed_bel hv y; have hc := hvy.cell; have hrowy := ownsRow_bel hrow y; have hys := y.size_le) | (gi_at_builtin; refine wpListIn_append_own _ rfl _ _ 59 rfl w.heap.size 9 i0 (.string ByteArray.empty) 1 16 Tryd.underlying59 hi0 hz0 hz1 hz2 rfl (by decide) _ _ _ rfl (hrowy.alloc _) ⟨y.w.heap.size, 0, none⟩ 1 1 [nameV x] rfl rfl (cell_one_new _ _ _) (by simp [Value.oneCell', nameV]) (by unfold maxLen; omega) (by omega) (by simp; omega) ?_; intro v' w1 hown' hgrow _; obtain ⟨g', cap', rfl⟩ := ownsRow_succ hown'; obtain ⟨hv1, hv2, hr2, hk2, hb2⟩ := hvy.appended (by decide) hrowy (by omega) (by omega) hown' hgrow; have hc1 := hv1.cell; have hf1 := hv1.frozen))
    have hbW := (y.below.mono hBs).trans hb2
    exact ⟨((bel_keeps y).trans hk2).from _, hbW, ⟨_, hv2, by simpa using hr2, trivial⟩, hB.trans hbW⟩
  case done =>
    rintro D' ys W hD rfl ⟨⟨v, hv, hrow, _⟩, hB⟩ hK
    have hc := hv.cell
    have hJ := join_row hrow (by omega)
    gi_wp2_with (refine ⟨trivial, ?_⟩; gi_at_call 55; refine (callsIn_wide.2 hJ).mono ?_; rintro _ _ ⟨rfl, z, rfl⟩)
    have hKz := bel_heap z hK
    refine ⟨by simp, .inl ⟨_, _, rfl, run_takeDeferred hKz, ?_⟩⟩
    exact ⟨_, results_tmp rfl _ _ _, Ret.mk rfl ((hB.trans (z.below.mono hB.size)).trans (belowK_b (w := w) (Nat.le_refl _) z.w D' _ _ (by simp at hD; omega) hKz rfl rfl))⟩
  case stop =>
    rintro D' c pre W _ _ h _
    exact h.elim
end Go.Proofs.YtjojdkdpdlmahaaDoor
