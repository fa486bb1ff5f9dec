/- The reference: has, flat, Simplify. -/
import Derived.Test.YtkbellmhanpocaaDoorG10
import Derived.Test.YtkbellmhanpocaaDoorFi
import Derived.Test.YtkbellmhanpocaaDoorFj
import Derived.Test.YtkbellmhanpocaaDoorFl
namespace Go.Proofs.YtkbellmhanpocaaDoor
set_option linter.unusedVariables false
set_option linter.unusedSimpArgs false
open Go.RowKit F
attribute [local go_sem low] Bel.cell Bel.frozen alloc_cell alloc_frozen
attribute [local go_sem] calmOp chainOp yieldsC grows

theorem mem_drop_none {l : List F} {t : F} {k : Nat} (hk : k = l.length) : decide (t ∈ l.drop k) = false := by
  rw [hk, List.drop_length]; simp
set_option maxRecDepth 100000 in
set_option maxHeartbeats 12800000 in
theorem has_any (l : List F) (t : F) (P P' : Nat → Prop) (ad ad' : Option Addr) (cap cap' : Nat) (w : World) (hi : InsF P w ad l) (hi' : InsF P' w ad' t.l) (hn : nodesL l ≤ 100000000) (hn' : nodes t ≤ 100000000) :
    Calls Tryd.prog 46 #[.slice ad l.length cap, .agg #[.int .i64 t.k, .int .i64 t.a, .slice ad' t.l.length cap']] w (Ret (.bool (decide (t ∈ l))) w) := by
  have HN := Lib.hid hn
  have hlen : l.length ≤ 100000000 := Nat.le_trans (length_nodesL l) hn
  have hlt : InsF (fun c => c < w.heap.size) w ad l := hi.imp fun b hb _ => hb
  have HI' := Lib.hid hi'
  have HS := Lib.hid (fun u (hu : u ∈ l) adu capu w' (h : InsF (fun c => c < w.heap.size) w' adu u.l) (h' : InsF P' w' ad' t.l) => Same_any (nodes u) u (Nat.le_refl _) t _ P' adu ad' capu cap' w' h h' (by have := nodesL_mem hu; omega) (by omega))
  clear hi hi' hn
  obtain ⟨R, hR⟩ : ∃ R, decide (t ∈ l) = R := ⟨_, rfl⟩
  rw [hR]
  have HR := Lib.hid hR
  clear hR
  go_enter Tryd.func46, Tryd.ntmps46
  go_wp2
  go_loopw [5] (fun i wr => ∃ k : Nat, i = .int .i64 (k : Int) ∧ k ≤ l.length ∧ decide (t ∈ l.drop k) = R ∧ wr.heap[w.heap.size]? = some (.cells #[.int .i64 t.k, .int .i64 t.a, .slice ad' t.l.length cap'] 36 (0, 0)) ∧ Below w.heap.size w wr) (fun i _ => l.length - (intOf i).toNat)
  case atStart => exact ⟨0, rfl, by omega, by rw [← HR.out]; rfl, World.alloc_heap_new _ _, by (repeat' (first | (with_reducible exact Below.refl _ _) | (with_reducible exact Nat.le_refl _) | (with_reducible refine Below.bel ?_ ?_) | (with_reducible refine Below.alloc ?_ ?_ _) | (with_reducible refine Below.drew ?_) | (with_reducible refine Below.drawsN ?_ _) | (with_reducible refine Below.setCell ?_ ?_ _) | (with_reducible refine le_bel ?_) | (with_reducible refine le_alloc ?_) | (with_reducible refine le_setCell ?_) | (with_reducible refine le_drew ?_) | (with_reducible refine le_drawsN ?_) | (dsimp only; with_reducible refine le_bel ?_) | (dsimp only; with_reducible refine Nat.le_refl _) | (dsimp only; with_reducible refine le_bel_add ?_) | (with_reducible assumption) | omega | (dsimp only; omega)))⟩
  case round =>
    obtain ⟨k, rfl, hk, hr, hf1, hb⟩ := hrel
    have hiW := below_move hlt (fun _ h => h) hb
    obtain ⟨b0, b1, b2⟩ := box3 hf1
    have hbs := hb.size
    rcases Nat.lt_or_ge k l.length with hkl | hkl
    · obtain ⟨u, hu⟩ := some_at hkl
      obtain ⟨bb, off, hadd, hp, hcs⟩ := insF_at hiW (by omega)
      cases hadd
      obtain ⟨c0, c1, adu, capu, c2, hiu⟩ := cellF_open (hcs k u hu)
      have f0 : decide ((k : Int) < (l.length : Int)) = true := decide_eq_true (by omega)
      have hib : (0 ≤ (k : Int) ∧ (k : Int) < (l.length : Int)) := ⟨by omega, by omega⟩
      have hr2 : (decide (t = u) || decide (t ∈ l.drop (k + 1))) = R := by
        rw [← hr, drop_at hu]
        simp [List.mem_cons]
      have HCC := Lib.hid (HS.out u (List.mem_of_getElem? hu) adu capu)
      have HI1 := Lib.hid hiu
      have HF1 := Lib.hid hf1
      clear hcs hiW hiu hu hp hf1 hr
      have hq : eqF u t = decide (t = u) := by rw [eqF_dec]; exact decide_eq_decide.2 eq_comm
      rw [hq] at HCC
      obtain ⟨q, hq2⟩ : ∃ q, decide (t = u) = q := ⟨_, rfl⟩
      rw [hq2] at hr2 HCC
      have HRR := Lib.hid hr2
      clear hq hq2 hr2
      cases q
      · go_wp2_with fail
        refine wp_region_bel (by kernel_rfl) (by kernel_rfl) ?_
        repeat (go_big_quiet_step (with_reducible exact bel_of (HCC.out _ (HI1.out.of (by (repeat' (first | (with_reducible exact Below.refl _ _) | (with_reducible exact Nat.le_refl _) | (with_reducible refine Below.bel ?_ ?_) | (with_reducible refine Below.alloc ?_ ?_ _) | (with_reducible refine Below.drew ?_) | (with_reducible refine Below.drawsN ?_ _) | (with_reducible refine Below.setCell ?_ ?_ _) | (with_reducible refine le_bel ?_) | (with_reducible refine le_alloc ?_) | (with_reducible refine le_setCell ?_) | (with_reducible refine le_drew ?_) | (with_reducible refine le_drawsN ?_) | (dsimp only; with_reducible refine le_bel ?_) | (dsimp only; with_reducible refine Nat.le_refl _) | (dsimp only; with_reducible refine le_bel_add ?_) | (with_reducible assumption) | omega | (dsimp only; omega))))) (HI'.out.of (by (repeat' (first | (with_reducible exact Below.refl _ _) | (with_reducible exact Nat.le_refl _) | (with_reducible refine Below.bel ?_ ?_) | (with_reducible refine Below.alloc ?_ ?_ _) | (with_reducible refine Below.drew ?_) | (with_reducible refine Below.drawsN ?_ _) | (with_reducible refine Below.setCell ?_ ?_ _) | (with_reducible refine le_bel ?_) | (with_reducible refine le_alloc ?_) | (with_reducible refine le_setCell ?_) | (with_reducible refine le_drew ?_) | (with_reducible refine le_drawsN ?_) | (dsimp only; with_reducible refine le_bel ?_) | (dsimp only; with_reducible refine Nat.le_refl _) | (dsimp only; with_reducible refine le_bel_add ?_) | (with_reducible assumption) | omega | (dsimp only; omega))))))))
        refine wpQuiet_nil ?_
        rintro _ ⟨x, rfl⟩
        go_wp2
        go_roundw
        case rel => exact ⟨k + 1, by go_num, by omega, by rw [← HRR.out]; rfl, obj_bel x HF1.out, by (repeat' (first | (with_reducible exact Below.refl _ _) | (with_reducible exact Nat.le_refl _) | (with_reducible refine Below.bel ?_ ?_) | (with_reducible refine Below.alloc ?_ ?_ _) | (with_reducible refine Below.drew ?_) | (with_reducible refine Below.drawsN ?_ _) | (with_reducible refine Below.setCell ?_ ?_ _) | (with_reducible refine le_bel ?_) | (with_reducible refine le_alloc ?_) | (with_reducible refine le_setCell ?_) | (with_reducible refine le_drew ?_) | (with_reducible refine le_drawsN ?_) | (dsimp only; with_reducible refine le_bel ?_) | (dsimp only; with_reducible refine Nat.le_refl _) | (dsimp only; with_reducible refine le_bel_add ?_) | (with_reducible assumption) | omega | (dsimp only; omega)))⟩
        case measure => simp [intOf]; omega
      · go_wp2_with fail
        refine wp_region_bel (by kernel_rfl) (by kernel_rfl) ?_
        repeat (go_big_quiet_step (with_reducible exact bel_of (HCC.out _ (HI1.out.of (by (repeat' (first | (with_reducible exact Below.refl _ _) | (with_reducible exact Nat.le_refl _) | (with_reducible refine Below.bel ?_ ?_) | (with_reducible refine Below.alloc ?_ ?_ _) | (with_reducible refine Below.drew ?_) | (with_reducible refine Below.drawsN ?_ _) | (with_reducible refine Below.setCell ?_ ?_ _) | (with_reducible refine le_bel ?_) | (with_reducible refine le_alloc ?_) | (with_reducible refine le_setCell ?_) | (with_reducible refine le_drew ?_) | (with_reducible refine le_drawsN ?_) | (dsimp only; with_reducible refine le_bel ?_) | (dsimp only; with_reducible refine Nat.le_refl _) | (dsimp only; with_reducible refine le_bel_add ?_) | (with_reducible assumption) | omega | (dsimp only; omega))))) (HI'.out.of (by (repeat' (first | (with_reducible exact Below.refl _ _) | (with_reducible exact Nat.le_refl _) | (with_reducible refine Below.bel ?_ ?_) | (with_reducible refine Below.alloc ?_ ?_ _) | (with_reducible refine Below.drew ?_) | (with_reducible refine Below.drawsN ?_ _) | (with_reducible refine Below.setCell ?_ ?_ _) | (with_reducible refine le_bel ?_) | (with_reducible refine le_alloc ?_) | (with_reducible refine le_setCell ?_) | (with_reducible refine le_drew ?_) | (with_reducible refine le_drawsN ?_) | (dsimp only; with_reducible refine le_bel ?_) | (dsimp only; with_reducible refine Nat.le_refl _) | (dsimp only; with_reducible refine le_bel_add ?_) | (with_reducible assumption) | omega | (dsimp only; omega))))))))
        refine wpQuiet_nil ?_
        rintro _ ⟨x, rfl⟩
        go_wp2
        go_ret
        exact Ret.mk (by rw [← HRR.out]; rfl) (by (repeat' (first | (with_reducible exact Below.refl _ _) | (with_reducible exact Nat.le_refl _) | (with_reducible refine Below.bel ?_ ?_) | (with_reducible refine Below.alloc ?_ ?_ _) | (with_reducible refine Below.drew ?_) | (with_reducible refine Below.drawsN ?_ _) | (with_reducible refine Below.setCell ?_ ?_ _) | (with_reducible refine le_bel ?_) | (with_reducible refine le_alloc ?_) | (with_reducible refine le_setCell ?_) | (with_reducible refine le_drew ?_) | (with_reducible refine le_drawsN ?_) | (dsimp only; with_reducible refine le_bel ?_) | (dsimp only; with_reducible refine Nat.le_refl _) | (dsimp only; with_reducible refine le_bel_add ?_) | (with_reducible assumption) | omega | (dsimp only; omega))))
    · have hke : k = l.length := by omega
      subst hke
      have f0 : decide ((l.length : Int) < (l.length : Int)) = false := decide_eq_false (by omega)
      rw [mem_drop_none rfl] at hr
      have HRR := Lib.hid hr
      clear hr hiW
      go_wp2
      go_ret
      exact Ret.mk (by rw [← HRR.out]; rfl) (by (repeat' (first | (with_reducible exact Below.refl _ _) | (with_reducible exact Nat.le_refl _) | (with_reducible refine Below.bel ?_ ?_) | (with_reducible refine Below.alloc ?_ ?_ _) | (with_reducible refine Below.drew ?_) | (with_reducible refine Below.drawsN ?_ _) | (with_reducible refine Below.setCell ?_ ?_ _) | (with_reducible refine le_bel ?_) | (with_reducible refine le_alloc ?_) | (with_reducible refine le_setCell ?_) | (with_reducible refine le_drew ?_) | (with_reducible refine le_drawsN ?_) | (dsimp only; with_reducible refine le_bel ?_) | (dsimp only; with_reducible refine Nat.le_refl _) | (dsimp only; with_reducible refine le_bel_add ?_) | (with_reducible assumption) | omega | (dsimp only; omega))))
/-- The call returns a row of its own that shows trees. -/
def RetL (l : List F) (w : World) (e : Ending) (w' : World) : Prop := ∃ ad cap, e = .returned (.slice ad l.length cap) ∧ ∃ y : Bel w, w' = y.w ∧ InsF (fun b => w.heap.size ≤ b) y.w ad l
def FSt (w wr : World) (v : Value) (l : List F) (fo : Obj) : Prop :=
  OwnG wr (w.heap.size + 1) (fun b => w.heap.size + 1 ≤ b) 36 v l ∧ wr.heap[w.heap.size]? = some fo ∧ Below w.heap.size w wr ∧ w.heap.size + 1 ≤ wr.heap.size
theorem FSt.next {w wr Z w1 : World} {v v' : Value} {l l' : List F} {fo : Obj} (h : FSt w wr v l fo) (hz : Below wr.heap.size wr Z) (hb : Below (w.heap.size + 1) Z w1) (ho : OwnG w1 (w.heap.size + 1) (fun b => w.heap.size + 1 ≤ b) 36 v' l') : FSt w w1 v' l' fo := by
  obtain ⟨_, a1, a3, a4⟩ := h
  have hsz : w.heap.size + 1 ≤ w1.heap.size := Nat.le_trans a4 (Nat.le_trans hz.size hb.size)
  exact ⟨ho, obj_below hb (by omega) (obj_bel ⟨_, hz⟩ a1), (a3.trans (hz.mono a3.size)).trans (hb.mono (by omega)), hsz⟩
set_option maxRecDepth 100000 in
set_option maxHeartbeats 12800000 in
theorem flat_any (kk : Int) (tl : List F) (ad : Option Addr) (cap : Nat) (w : World) (hi : InsF (fun c => c < w.heap.size) w ad tl) (hok : ∀ u ∈ tl, okT u) (hn : nodesL tl ≤ 100000)
    (HS : ∀ u ∈ tl, ∀ ad cap W, Below w.heap.size w W → InsF (fun c => c < w.heap.size) W ad u.l → Calls Tryd.prog 19 #[.agg #[.int .i64 u.k, .int .i64 u.a, .slice ad u.l.length cap]] W (RetF (smp u) W)) :
    Calls Tryd.prog 45 #[.agg #[.int .i64 kk, .int .i64 0, .slice ad tl.length cap]] w (RetL (smpL kk tl) w) := by
  obtain ⟨i0, hi0, hz0, hz1, hz2⟩ := info_parts Tryd.infoT
  have hlen : tl.length ≤ 100000 := Nat.le_trans (length_nodesL tl) hn
  have HSH := Lib.hid HS
  have HOK := Lib.hid hok
  have HNN := Lib.hid hn
  clear HS hok hn
  go_enter Tryd.func45, Tryd.ntmps45
  go_wp2
  go_loopw [3, 4] (fun v i wr => ∃ k : Nat, i = .int .i64 (k : Int) ∧ k ≤ tl.length ∧ FSt w wr v (smpL kk (tl.take k)) (.cells #[.int .i64 kk, .int .i64 0, .slice ad tl.length cap] 36 (0, 0))) (fun _ i _ => tl.length - (intOf i).toNat)
  case atStart => exact ⟨0, rfl, by omega, ownG_nil _ _ _ _, World.alloc_heap_new _ _, by (repeat' (first | (with_reducible exact Below.refl _ _) | (with_reducible exact Nat.le_refl _) | (with_reducible refine Below.bel ?_ ?_) | (with_reducible refine Below.alloc ?_ ?_ _) | (with_reducible refine Below.drew ?_) | (with_reducible refine Below.drawsN ?_ _) | (with_reducible refine Below.setCell ?_ ?_ _) | (with_reducible refine le_bel ?_) | (with_reducible refine le_alloc ?_) | (with_reducible refine le_setCell ?_) | (with_reducible refine le_drew ?_) | (with_reducible refine le_drawsN ?_) | (dsimp only; with_reducible refine le_bel ?_) | (dsimp only; with_reducible refine Nat.le_refl _) | (dsimp only; with_reducible refine le_bel_add ?_) | (with_reducible assumption) | omega | (dsimp only; omega))), by simp⟩
  case round =>
    obtain ⟨k, rfl, hk, hst⟩ := hrel
    have HST := Lib.hid hst
    obtain ⟨hown, hfo, hb, hsz⟩ := hst
    have hiW := below_move hi (fun _ h => h) hb
    obtain ⟨va, vc, rfl⟩ := ownG_val hown
    obtain ⟨b0, b1, b2⟩ := box3 hfo
    have hsm := smpL_take_size kk tl k (okL_of HOK.out)
    have hnn := HNN.out
    have hll := length_nodesL (smpL kk (tl.take k))
    rcases Nat.lt_or_ge k tl.length with hkl | hkl
    · obtain ⟨u, hu⟩ := some_at hkl
      have hum := List.mem_of_getElem? hu
      obtain ⟨bb, off, hadd, hp, hcs⟩ := insF_at hiW (by omega)
      cases hadd
      obtain ⟨c0, c1, ad', cap', c2, hiu⟩ := cellF_open (hcs k u hu)
      have f0 : decide ((k : Int) < (tl.length : Int)) = true := decide_eq_true (by omega)
      have hib : (0 ≤ (k : Int) ∧ (k : Int) < (tl.length : Int)) := ⟨by omega, by omega⟩
      have HC := HSH.out u hum ad' cap'
      have hsu2 := (smp_size u (HOK.out u hum)).1
      have hun := nodesL_mem hum
      have hsn := smpL_snoc kk (tl.take k) u
      have hlk : (tl.take (k + 1)) = tl.take k ++ [u] := by rw [List.take_add_one, hu]; rfl
      rw [← hlk] at hsn
      obtain ⟨su, hsu⟩ : ∃ su, smp u = su := ⟨_, rfl⟩
      rw [hsu] at HC hsu2 hsn
      have hsul : su.l.length ≤ 100000 := by have := length_nodesL su.l; rw [nodes_l] at hsu2; omega
      obtain ⟨LK, hLK⟩ : ∃ LK, smpL kk (tl.take k) = LK := ⟨_, rfl⟩
      rw [hLK] at hown hsn hll hsm ⊢
      have HLK := Lib.hid hLK
      have HSN := Lib.hid hsn
      have HCC := Lib.hid HC
      have HI := Lib.hid hiu
      have HO := Lib.hid hown
      clear hcs hiW hiu hown hu hsu hp HC hsn hlk hLK hum
      go_wp2_with fail
      refine (HCC.out _ (by (repeat' (first | (with_reducible exact Below.refl _ _) | (with_reducible exact Nat.le_refl _) | (with_reducible refine Below.bel ?_ ?_) | (with_reducible refine Below.alloc ?_ ?_ _) | (with_reducible refine Below.drew ?_) | (with_reducible refine Below.drawsN ?_ _) | (with_reducible refine Below.setCell ?_ ?_ _) | (with_reducible refine le_bel ?_) | (with_reducible refine le_alloc ?_) | (with_reducible refine le_setCell ?_) | (with_reducible refine le_drew ?_) | (with_reducible refine le_drawsN ?_) | (dsimp only; with_reducible refine le_bel ?_) | (dsimp only; with_reducible refine Nat.le_refl _) | (dsimp only; with_reducible refine le_bel_add ?_) | (with_reducible assumption) | omega | (dsimp only; omega)))) (HI.out.of (by (repeat' (first | (with_reducible exact Below.refl _ _) | (with_reducible exact Nat.le_refl _) | (with_reducible refine Below.bel ?_ ?_) | (with_reducible refine Below.alloc ?_ ?_ _) | (with_reducible refine Below.drew ?_) | (with_reducible refine Below.drawsN ?_ _) | (with_reducible refine Below.setCell ?_ ?_ _) | (with_reducible refine le_bel ?_) | (with_reducible refine le_alloc ?_) | (with_reducible refine le_setCell ?_) | (with_reducible refine le_drew ?_) | (with_reducible refine le_drawsN ?_) | (dsimp only; with_reducible refine le_bel ?_) | (dsimp only; with_reducible refine Nat.le_refl _) | (dsimp only; with_reducible refine le_bel_add ?_) | (with_reducible assumption) | omega | (dsimp only; omega)))))).mono ?_
      rintro _ _ ⟨_, rfl, y, rfl, ad5, cap5, rfl, hi5⟩
      have hys := y.size_le
      try simp at hys
      have HI5 := Lib.hid hi5
      have hfo2 := obj_bel ⟨y.w, (by (repeat' (first | (with_reducible exact Below.refl _ _) | (with_reducible exact Nat.le_refl _) | (with_reducible refine Below.bel ?_ ?_) | (with_reducible refine Below.alloc ?_ ?_ _) | (with_reducible refine Below.drew ?_) | (with_reducible refine Below.drawsN ?_ _) | (with_reducible refine Below.setCell ?_ ?_ _) | (with_reducible refine le_bel ?_) | (with_reducible refine le_alloc ?_) | (with_reducible refine le_setCell ?_) | (with_reducible refine le_drew ?_) | (with_reducible refine le_drawsN ?_) | (dsimp only; with_reducible refine le_bel ?_) | (dsimp only; with_reducible refine Nat.le_refl _) | (dsimp only; with_reducible refine le_bel_add ?_) | (with_reducible assumption) | omega | (dsimp only; omega))) : Below wr.heap.size wr y.w)⟩ hfo
      obtain ⟨d0, d1, d2⟩ := box3 hfo2
      clear hi5
      dsimp only
      by_cases hsk : su.k = kk
      · have fk : (su.k == kk) = true := beq_iff_eq.2 hsk
        rw [if_pos hsk] at HSN
        have hbz : Below wr.heap.size wr (y.w.alloc (.cells #[.int .i64 su.k, .int .i64 su.a, .slice ad5 su.l.length cap5] 36)) := by (repeat' (first | (with_reducible exact Below.refl _ _) | (with_reducible exact Nat.le_refl _) | (with_reducible refine Below.bel ?_ ?_) | (with_reducible refine Below.alloc ?_ ?_ _) | (with_reducible refine Below.drew ?_) | (with_reducible refine Below.drawsN ?_ _) | (with_reducible refine Below.setCell ?_ ?_ _) | (with_reducible refine le_bel ?_) | (with_reducible refine le_alloc ?_) | (with_reducible refine le_setCell ?_) | (with_reducible refine le_drew ?_) | (with_reducible refine le_drawsN ?_) | (dsimp only; with_reducible refine le_bel ?_) | (dsimp only; with_reducible refine Nat.le_refl _) | (dsimp only; with_reducible refine le_bel_add ?_) | (with_reducible assumption) | omega | (dsimp only; omega)))
        have HOZ := Lib.hid (ownG_bel HO.out ⟨_, hbz⟩)
        have HCZ := Lib.hid (show InsF (fun b => w.heap.size + 1 ≤ b ∧ (Value.slice va LK.length vc).ownBlock ≠ some b) (y.w.alloc (.cells #[.int .i64 su.k, .int .i64 su.a, .slice ad5 su.l.length cap5] 36)) ad5 su.l from
          (HI5.out.of (by (repeat' (first | (with_reducible exact Below.refl _ _) | (with_reducible exact Nat.le_refl _) | (with_reducible refine Below.bel ?_ ?_) | (with_reducible refine Below.alloc ?_ ?_ _) | (with_reducible refine Below.drew ?_) | (with_reducible refine Below.drawsN ?_ _) | (with_reducible refine Below.setCell ?_ ?_ _) | (with_reducible refine le_bel ?_) | (with_reducible refine le_alloc ?_) | (with_reducible refine le_setCell ?_) | (with_reducible refine le_drew ?_) | (with_reducible refine le_drawsN ?_) | (dsimp only; with_reducible refine le_bel ?_) | (dsimp only; with_reducible refine Nat.le_refl _) | (dsimp only; with_reducible refine le_bel_add ?_) | (with_reducible assumption) | omega | (dsimp only; omega))))).imp fun b _ hb => ⟨by (try simp at hb); omega, ownG_avoid HO.out (.inl (by (try simp at hb); omega))⟩)
        clear hsk
        go_wp2_with (at_builtin; refine wpList_appG rfl _ _ 34 36 rfl i0 Tryd.underlying34 hi0 hz0 hz1 hz2 _ (w.heap.size + 1) (fun b => w.heap.size + 1 ≤ b) _ LK su.l ad5 cap5 rfl HOZ.out HCZ.out.c rfl (by omega) (by simp; omega) ?_; intro va2 vc2 w1 hof hbw; have HBW := Lib.hid hbw; have HOF := Lib.hid hof; have hbws := hbw.size; simp at hbws; clear hof hbw)
        go_roundw
        case rel => exact ⟨k + 1, by go_num, by omega, HST.out.next hbz HBW.out (by rw [HSN.out]; exact HOF.out)⟩
        case measure => simp [intOf]; omega
      · have fk : (su.k == kk) = false := beq_eq_false_iff_ne.2 hsk
        rw [if_neg hsk] at HSN
        have hbz : Below wr.heap.size wr ((y.w.alloc (.cells #[.int .i64 su.k, .int .i64 su.a, .slice ad5 su.l.length cap5] 36)).alloc (.cells #[.int .i64 su.k, .int .i64 su.a, .slice ad5 su.l.length cap5] 36)) := by (repeat' (first | (with_reducible exact Below.refl _ _) | (with_reducible exact Nat.le_refl _) | (with_reducible refine Below.bel ?_ ?_) | (with_reducible refine Below.alloc ?_ ?_ _) | (with_reducible refine Below.drew ?_) | (with_reducible refine Below.drawsN ?_ _) | (with_reducible refine Below.setCell ?_ ?_ _) | (with_reducible refine le_bel ?_) | (with_reducible refine le_alloc ?_) | (with_reducible refine le_setCell ?_) | (with_reducible refine le_drew ?_) | (with_reducible refine le_drawsN ?_) | (dsimp only; with_reducible refine le_bel ?_) | (dsimp only; with_reducible refine Nat.le_refl _) | (dsimp only; with_reducible refine le_bel_add ?_) | (with_reducible assumption) | omega | (dsimp only; omega)))
        have HOZ := Lib.hid (ownG_bel HO.out ⟨_, hbz⟩)
        have HCZ := Lib.hid (show InsF (fun b => w.heap.size + 1 ≤ b ∧ (Value.slice va LK.length vc).ownBlock ≠ some b) ((y.w.alloc (.cells #[.int .i64 su.k, .int .i64 su.a, .slice ad5 su.l.length cap5] 36)).alloc (.cells #[.int .i64 su.k, .int .i64 su.a, .slice ad5 su.l.length cap5] 36)) (some ⟨y.w.heap.size + 1, 0, none⟩) [su] from
          insF_one (E := 36) (ad := ad5) (cap := cap5) (heap2_1 _ _ _) ⟨by omega, ownG_avoid HO.out (.inl (by omega))⟩ ((HI5.out.of (by (repeat' (first | (with_reducible exact Below.refl _ _) | (with_reducible exact Nat.le_refl _) | (with_reducible refine Below.bel ?_ ?_) | (with_reducible refine Below.alloc ?_ ?_ _) | (with_reducible refine Below.drew ?_) | (with_reducible refine Below.drawsN ?_ _) | (with_reducible refine Below.setCell ?_ ?_ _) | (with_reducible refine le_bel ?_) | (with_reducible refine le_alloc ?_) | (with_reducible refine le_setCell ?_) | (with_reducible refine le_drew ?_) | (with_reducible refine le_drawsN ?_) | (dsimp only; with_reducible refine le_bel ?_) | (dsimp only; with_reducible refine Nat.le_refl _) | (dsimp only; with_reducible refine le_bel_add ?_) | (with_reducible assumption) | omega | (dsimp only; omega))))).imp fun b _ hb => ⟨by (try simp at hb); omega, ownG_avoid HO.out (.inl (by (try simp at hb); omega))⟩))
        clear hsk
        go_wp2_with (at_builtin; refine wpList_appG rfl _ _ 34 36 rfl i0 Tryd.underlying34 hi0 hz0 hz1 hz2 _ (w.heap.size + 1) (fun b => w.heap.size + 1 ≤ b) _ LK [su] (some ⟨y.w.heap.size + 1, 0, none⟩) 1 rfl HOZ.out HCZ.out.c rfl (by simp; omega) (by simp; omega) ?_; intro va2 vc2 w1 hof hbw; have HBW := Lib.hid hbw; have HOF := Lib.hid hof; have hbws := hbw.size; simp at hbws; clear hof hbw)
        go_roundw
        case rel => exact ⟨k + 1, by go_num, by omega, HST.out.next hbz HBW.out (by rw [HSN.out]; exact HOF.out)⟩
        case measure => simp [intOf]; omega
    · have hke : k = tl.length := by omega
      subst hke
      have f0 : decide ((tl.length : Int) < (tl.length : Int)) = false := decide_eq_false (by omega)
      rw [List.take_length] at hown ⊢
      have HO := Lib.hid hown
      have HB := Lib.hid hb
      clear hown hiW hb
      go_wp2
      obtain ⟨la, lc, hv, hL1⟩ := ownG_ins HO.out
      injection hv with e1 e2 e3
      subst e1 e3
      refine bodyPost_ret (v := .slice va (smpL kk tl).length vc) (by simp [results, Tryd.results45, go_sem]) rfl ⟨va, vc, rfl, ⟨_, HB.out⟩, rfl, hL1.imp fun b _ h => by rcases h with h | h <;> omega⟩
end Go.Proofs.YtkbellmhanpocaaDoor

namespace Go.Proofs.YtkbellmhanpocaaDoor
set_option linter.unusedVariables false
set_option linter.unusedSimpArgs false
open Go.RowKit F
attribute [local go_sem low] Bel.cell Bel.frozen alloc_cell alloc_frozen
attribute [local go_sem] calmOp chainOp yieldsC grows floatOp Oper.floats Oper.calm yieldsR

/-- What makes the reference stop: the deciding constant, or a tree whose negation is in the list, too. -/
def rbad (k : Int) (l : List F) (g : F) : Prop := g = nd (strong k) 0 [] ∨ nd 2 0 [g] ∈ l
theorem any_rbad {k : Int} {l : List F} (hl : ∀ g ∈ l, okT g) : l.any (bad k l) = true ↔ ∃ g ∈ l, rbad k l g := by
  rw [List.any_eq_true]
  constructor
  · rintro ⟨g, hg, hb⟩
    unfold bad at hb
    rw [Bool.or_eq_true, Bool.and_eq_true, decide_eq_true_eq, decide_eq_true_eq, decide_eq_true_eq] at hb
    have hs := okT_s (hl g hg)
    rw [F_eta g] at hs
    have hsk := (strong_in k).1
    rcases hb with hb | ⟨h2, hm⟩
    · refine ⟨g, hg, .inl ?_⟩
      rcases single_cases hs with ⟨e, _⟩ | ⟨e, _⟩ | ⟨e, _⟩ | ⟨_, ha, hl'⟩
      · omega
      · omega
      · omega
      · rw [F_eta g, hb, ha, hl']
    · rcases single_cases hs with ⟨e, _⟩ | ⟨_, ha, h, hl'⟩ | ⟨e, _⟩ | ⟨e, _⟩
      · omega
      · rw [hl'] at hm
        refine ⟨h, hm, .inr ?_⟩
        have : nd 2 0 [h] = g := by rw [F_eta g, h2, ha, hl']
        rw [this]
        exact hg
      · omega
      · omega
  · rintro ⟨g, hg, h | hm⟩
    · exact ⟨g, hg, by rw [h]; simp [bad, F.k]⟩
    · exact ⟨_, hm, by simp [bad, F.k, headF, F.l, hg]⟩
theorem joinF_yes {k : Int} {l : List F} (hl : ∀ g ∈ l, okT g) {g : F} (hg : g ∈ l) (hr : rbad k l g) : joinF k l = nd (strong k) 0 [] := by
  unfold joinF
  rw [if_pos ((any_rbad hl).2 ⟨g, hg, hr⟩)]
theorem joinF_no {k : Int} {l : List F} (hl : ∀ g ∈ l, okT g) (h : ∀ g ∈ l, ¬ rbad k l g) : joinF k l = pickF k (dd k [] l) := by
  unfold joinF
  rw [if_neg (fun e => by obtain ⟨g, hg, hr⟩ := (any_rbad hl).1 e; exact h g hg hr)]
theorem const_iff {g : F} {c : Int} (hc : c = 5 ∨ c = 6) (hok : okT g) : eqF g (nd c 0 []) = decide (g.k = c) := by
  rw [eqF_dec]
  refine decide_eq_decide.2 ⟨fun e => by rw [e]; rfl, fun e => ?_⟩
  have hs := okT_s hok
  rw [F_eta g] at hs
  rcases single_cases hs with ⟨e', _⟩ | ⟨e', _⟩ | ⟨e', _⟩ | ⟨_, ha, hl'⟩
  · omega
  · omega
  · omega
  · rw [F_eta g, e, ha, hl']
theorem refConstant_ret (b : Bool) (w : World) : Calls Tryd.prog 42 #[.bool b] w (Ret (.agg #[.int .i64 (if b then 6 else 5), .int .i64 0, .slice none 0 0]) w) := by
  cases b
  · go_enter Tryd.func42, Tryd.ntmps42
    go_wp2
    refine bodyPost_ret (v := .agg #[.int .i64 5, .int .i64 0, .slice none 0 0]) (by simp [results, Tryd.results42, go_sem]) rfl (Ret.mk (by rfl) (by (repeat' (first | (with_reducible exact Below.refl _ _) | (with_reducible exact Nat.le_refl _) | (with_reducible refine Below.bel ?_ ?_) | (with_reducible refine Below.alloc ?_ ?_ _) | (with_reducible refine Below.drew ?_) | (with_reducible refine Below.drawsN ?_ _) | (with_reducible refine Below.setCell ?_ ?_ _) | (with_reducible refine le_bel ?_) | (with_reducible refine le_alloc ?_) | (with_reducible refine le_setCell ?_) | (with_reducible refine le_drew ?_) | (with_reducible refine le_drawsN ?_) | (dsimp only; with_reducible refine le_bel ?_) | (dsimp only; with_reducible refine Nat.le_refl _) | (dsimp only; with_reducible refine le_bel_add ?_) | (with_reducible assumption) | omega | (dsimp only; omega)))))
  · go_enter Tryd.func42, Tryd.ntmps42
    go_wp2
    refine bodyPost_ret (v := .agg #[.int .i64 6, .int .i64 0, .slice none 0 0]) (by simp [results, Tryd.results42, go_sem]) rfl (Ret.mk (by rfl) (by (repeat' (first | (with_reducible exact Below.refl _ _) | (with_reducible exact Nat.le_refl _) | (with_reducible refine Below.bel ?_ ?_) | (with_reducible refine Below.alloc ?_ ?_ _) | (with_reducible refine Below.drew ?_) | (with_reducible refine Below.drawsN ?_ _) | (with_reducible refine Below.setCell ?_ ?_ _) | (with_reducible refine le_bel ?_) | (with_reducible refine le_alloc ?_) | (with_reducible refine le_setCell ?_) | (with_reducible refine le_drew ?_) | (with_reducible refine le_drawsN ?_) | (dsimp only; with_reducible refine le_bel ?_) | (dsimp only; with_reducible refine Nat.le_refl _) | (dsimp only; with_reducible refine le_bel_add ?_) | (with_reducible assumption) | omega | (dsimp only; omega)))))
theorem run_allocT (o : Oper) (t : TypeId) (ho : o.op = .alloc t) (ht : t ∈ [36]) (a : Act) (w : World) : (execOp a.eval o).run Tryd.prog w = .ok (.value (ptr w.heap.size)) (w.alloc ((fun _ => .cells #[.int .i64 0, .int .i64 0, .slice none 0 0] 36 : TypeId → Obj) t)) := by
  obtain rfl : t = 36 := by simpa using ht
  unfold execOp
  rw [ho]
  kernel_rfl
theorem insF_set {Q : Nat → Prop} {w : World} {ad : Option Addr} {l : List F} {c i : Nat} {x : Value} (h : InsF Q w ad l) (hne : ∀ b, Q b → b ≠ c) : InsF Q (w.setCell ⟨c, i, none⟩ x) ad l :=
  h.move (fun b o u hb hu => by rw [World.cell?_of_block (Below.heap_setCell _ _ _ b (hne b hb))]; exact hu) (fun _ _ h => h)
theorem nodesL_take (l : List F) (n : Nat) : nodesL (l.take n) ≤ nodesL l := by
  have h := nodesL_app (l.take n) (l.drop n)
  rw [List.take_append_drop] at h
  omega
/-- What the loop of a join holds: the kept trees, the list, and four boxes. -/
def RSt (w wr : World) (B N b5 b6 : Nat) (v : Value) (D L : List F) (la : Option Addr) (fo rz d5 d6 : Obj) : Prop :=
  OwnG wr B (fun b => w.heap.size + 2 ≤ b ∧ b < N) 36 v D ∧ InsF (fun b => w.heap.size + 2 ≤ b ∧ b < N) wr la L ∧ wr.heap[w.heap.size]? = some fo ∧ wr.heap[w.heap.size + 1]? = some rz ∧ wr.heap[b5]? = some d5 ∧ wr.heap[b6]? = some d6 ∧ Below w.heap.size w wr ∧ B ≤ wr.heap.size
theorem RSt.next {w wr Z w1 : World} {B N b5 b6 : Nat} {v v' : Value} {D D' L : List F} {la : Option Addr} {fo rz d5 d6 : Obj} (h : RSt w wr B N b5 b6 v D L la fo rz d5 d6) (hN : w.heap.size + 2 ≤ N) (hB : N ≤ B) (h5 : b5 < B) (h6 : b6 < B) (hz : Below wr.heap.size wr Z) (hb : Below B Z w1)
    (ho : OwnG w1 B (fun b => w.heap.size + 2 ≤ b ∧ b < N) 36 v' D') : RSt w w1 B N b5 b6 v' D' L la fo rz d5 d6 := by
  obtain ⟨_, a1, a2, a3, a4, a5, a6, a7⟩ := h
  have hsz : B ≤ w1.heap.size := Nat.le_trans a7 (Nat.le_trans hz.size hb.size)
  exact ⟨ho, below_move (a1.of hz) (fun b h => by omega) hb, obj_below hb (by omega) (obj_bel ⟨_, hz⟩ a2), obj_below hb (by omega) (obj_bel ⟨_, hz⟩ a3), obj_below hb h5 (obj_bel ⟨_, hz⟩ a4), obj_below hb h6 (obj_bel ⟨_, hz⟩ a5), (a6.trans (hz.mono a6.size)).trans (hb.mono (by omega)), hsz⟩
theorem RSt.keep {w wr Z : World} {B N b5 b6 : Nat} {v : Value} {D L : List F} {la : Option Addr} {fo rz d5 d6 : Obj} (h : RSt w wr B N b5 b6 v D L la fo rz d5 d6) (hz : Below wr.heap.size wr Z) : RSt w Z B N b5 b6 v D L la fo rz d5 d6 := by
  obtain ⟨a0, a1, a2, a3, a4, a5, a6, a7⟩ := h
  exact ⟨ownG_bel a0 ⟨_, hz⟩, a1.of hz, obj_bel ⟨_, hz⟩ a2, obj_bel ⟨_, hz⟩ a3, obj_bel ⟨_, hz⟩ a4, obj_bel ⟨_, hz⟩ a5, a6.trans (hz.mono a6.size), Nat.le_trans a7 hz.size⟩
set_option maxRecDepth 100000 in
set_option maxHeartbeats 12800000 in
theorem refJoin3 (tl : List F) (ad : Option Addr) (cap : Nat) (w : World) (hi : InsF (fun c => c < w.heap.size) w ad tl) (hok : ∀ u ∈ tl, okT u) (hn : nodesL tl ≤ 10000)
    (HS : ∀ u ∈ tl, ∀ (P : Nat → Prop) ad cap W, InsF P W ad u.l → Calls Tryd.prog 19 #[.agg #[.int .i64 u.k, .int .i64 u.a, .slice ad u.l.length cap]] W (RetF (smp u) W)) :
    Calls Tryd.prog 19 #[.agg #[.int .i64 3, .int .i64 0, .slice ad tl.length cap]] w (RetF (joinF 3 (smpL 3 tl)) w) := by
  obtain ⟨i0, hi0, hz0, hz1, hz2⟩ := info_parts Tryd.infoT
  have HFL := Lib.hid (fun W (hW : Below w.heap.size w W) => flat_any 3 tl ad cap W ((hi.of hW).imp fun b _ h => by have := hW.size; omega) hok (by omega) (fun u hu ad' cap' W' _ hi' => HS u hu _ ad' cap' W' hi'))
  have hLok := smpL_ok 3 tl (okL_of hok) hn
  have hLn : nodesL (smpL 3 tl) ≤ 10000 := by have := smpL_take_size 3 tl tl.length (okL_of hok); rw [List.take_length] at this; omega
  obtain ⟨L, hL⟩ : ∃ L, smpL 3 tl = L := ⟨_, rfl⟩
  rw [hL] at HFL hLok hLn ⊢
  have hLl : L.length ≤ 10000 := Nat.le_trans (length_nodesL L) hLn
  have HLOK := Lib.hid hLok
  clear hi hok hn HS hL hLok
  go_enter Tryd.func19, Tryd.ntmps19
  go_wp2_with fail
  refine (HFL.out _ (by (repeat' (first | (with_reducible exact Below.refl _ _) | (with_reducible exact Nat.le_refl _) | (with_reducible refine Below.bel ?_ ?_) | (with_reducible refine Below.alloc ?_ ?_ _) | (with_reducible refine Below.drew ?_) | (with_reducible refine Below.drawsN ?_ _) | (with_reducible refine Below.setCell ?_ ?_ _) | (with_reducible refine le_bel ?_) | (with_reducible refine le_alloc ?_) | (with_reducible refine le_setCell ?_) | (with_reducible refine le_drew ?_) | (with_reducible refine le_drawsN ?_) | (dsimp only; with_reducible refine le_bel ?_) | (dsimp only; with_reducible refine Nat.le_refl _) | (dsimp only; with_reducible refine le_bel_add ?_) | (with_reducible assumption) | omega | (dsimp only; omega))))).mono ?_
  rintro _ _ ⟨la, lc, rfl, y, rfl, hiL⟩
  have HIL := Lib.hid hiL
  have hres := obj_bel y (heap2_1 w (.cells #[.int .i64 3, .int .i64 0, .slice ad tl.length cap] 36) (.cells #[.int .i64 0, .int .i64 0, .slice none 0 0] 36))
  have hfo := obj_bel y (heap2_0 w (.cells #[.int .i64 3, .int .i64 0, .slice ad tl.length cap] 36) (.cells #[.int .i64 0, .int .i64 0, .slice none 0 0] 36))
  have hys := y.size_le
  simp at hys
  obtain ⟨b0, b1, b2⟩ := box3 hfo
  have hB1 : Below w.heap.size w y.w := by (repeat' (first | (with_reducible exact Below.refl _ _) | (with_reducible exact Nat.le_refl _) | (with_reducible refine Below.bel ?_ ?_) | (with_reducible refine Below.alloc ?_ ?_ _) | (with_reducible refine Below.drew ?_) | (with_reducible refine Below.drawsN ?_ _) | (with_reducible refine Below.setCell ?_ ?_ _) | (with_reducible refine le_bel ?_) | (with_reducible refine le_alloc ?_) | (with_reducible refine le_setCell ?_) | (with_reducible refine le_drew ?_) | (with_reducible refine le_drawsN ?_) | (dsimp only; with_reducible refine le_bel ?_) | (dsimp only; with_reducible refine Nat.le_refl _) | (dsimp only; with_reducible refine le_bel_add ?_) | (with_reducible assumption) | omega | (dsimp only; omega)))
  clear hiL
  dsimp only
  go_wp2_with fail
  refine wp_region_vars 10 [8, 9] [36] (fun _ => .cells #[.int .i64 0, .int .i64 0, .slice none 0 0] 36) (by kernel_rfl) (by kernel_rfl) (by kernel_rfl) (by kernel_rfl) (by decide) (by kernel_rfl) run_allocT ?_
  simp only [List.take_succ_cons, List.take_zero, List.drop_succ_cons, List.drop_zero]
  repeat (refine wpFloat_step (fun K hK => ?_); go_simp; first | (refine hK _ ?_; clear hK K) | (apply Exists.intro; refine ⟨fun _ => ?_, hK _ ?_⟩; (go_at_call 42; exact refConstant_ret _ _); clear hK K))
  refine wpFloat_nil ?_
  rintro B m ⟨hM, hA⟩
  obtain ⟨ml8, mm8⟩ := hM 8 (by decide)
  obtain ⟨ml9, mm9⟩ := hM 9 (by decide)
  have mn8_9 := hA 8 (by decide) 9 (by decide) (by decide)
  have mn9_8 := Ne.symm mn8_9
  clear hM hA
  simp only [puts, binds, dstAt, ptr, List.map_cons, List.map_nil, List.foldl_cons, List.foldl_nil]
  generalize B 8 = mb8 at *
  generalize B 9 = mb9 at *
  have mc8_0 : m.w.cell? ⟨mb8, 0, none⟩ = some (.int .i64 0) := (made_cell mm8 0).1
  have mf8_0 : m.w.frozen? ⟨mb8, 0, none⟩ = false := (made_cell mm8 0).2
  have mc8_1 : m.w.cell? ⟨mb8, 1, none⟩ = some (.int .i64 0) := (made_cell mm8 1).1
  have mf8_1 : m.w.frozen? ⟨mb8, 1, none⟩ = false := (made_cell mm8 1).2
  have mc8_2 : m.w.cell? ⟨mb8, 2, none⟩ = some (.slice none 0 0) := (made_cell mm8 2).1
  have mf8_2 : m.w.frozen? ⟨mb8, 2, none⟩ = false := (made_cell mm8 2).2
  have mc9_0 : m.w.cell? ⟨mb9, 0, none⟩ = some (.int .i64 0) := (made_cell mm9 0).1
  have mf9_0 : m.w.frozen? ⟨mb9, 0, none⟩ = false := (made_cell mm9 0).2
  have mc9_1 : m.w.cell? ⟨mb9, 1, none⟩ = some (.int .i64 0) := (made_cell mm9 1).1
  have mf9_1 : m.w.frozen? ⟨mb9, 1, none⟩ = false := (made_cell mm9 1).2
  have mc9_2 : m.w.cell? ⟨mb9, 2, none⟩ = some (.slice none 0 0) := (made_cell mm9 2).1
  have mf9_2 : m.w.frozen? ⟨mb9, 2, none⟩ = false := (made_cell mm9 2).2
  have mo8 := Lib.hid mm8
  have mo9 := Lib.hid mm9
  clear mm8 mm9
  have ms := m.size_le
  have hlo : w.heap.size + 2 ≤ y.w.heap.size := by omega
  have hlt8 : mb8 < m.w.heap.size := (Array.getElem?_eq_some_iff.1 mo8.out).1
  have hlt9 : mb9 < m.w.heap.size := (Array.getElem?_eq_some_iff.1 mo9.out).1
  go_wp2_with fail
  go_loopw [7, 8] (fun v i wr => ∃ j : Nat, i = .int .i64 (j : Int) ∧ j ≤ L.length ∧ (∀ g ∈ L.take j, ¬ rbad 3 L g) ∧ RSt w wr m.w.heap.size y.w.heap.size mb8 mb9 v (dd 3 [] (L.take j)) L la (.cells #[.int .i64 3, .int .i64 0, .slice ad tl.length cap] 36 (0, 0)) (.cells #[.int .i64 0, .int .i64 0, .slice none 0 0] 36 (0, 0)) (.cells #[.int .i64 5, .int .i64 0, .slice none 0 0] 36 (0, 0)) (.cells #[.int .i64 6, .int .i64 0, .slice none 0 0] 36 (0, 0))) (fun _ i _ => L.length - (intOf i).toNat)
  case atStart =>
    refine ⟨0, rfl, by omega, fun g hg => by simp at hg, ownG_nil _ _ _ _, ?_, ?_, ?_, ?_, ?_, by (repeat' (first | (with_reducible exact Below.refl _ _) | (with_reducible exact Nat.le_refl _) | (with_reducible refine Below.bel ?_ ?_) | (with_reducible refine Below.alloc ?_ ?_ _) | (with_reducible refine Below.drew ?_) | (with_reducible refine Below.drawsN ?_ _) | (with_reducible refine Below.setCell ?_ ?_ _) | (with_reducible refine le_bel ?_) | (with_reducible refine le_alloc ?_) | (with_reducible refine le_setCell ?_) | (with_reducible refine le_drew ?_) | (with_reducible refine le_drawsN ?_) | (dsimp only; with_reducible refine le_bel ?_) | (dsimp only; with_reducible refine Nat.le_refl _) | (dsimp only; with_reducible refine le_bel_add ?_) | (with_reducible assumption) | omega | (dsimp only; omega))), by simp⟩
    · have h0 := ((HIL.out.imp (Q := fun b => w.heap.size + 2 ≤ b ∧ b < y.w.heap.size) fun b hb h => ⟨by simp at h; omega, hb⟩)).of m.below
      have n8 : ∀ b, w.heap.size + 2 ≤ b ∧ b < y.w.heap.size → b ≠ mb8 := fun b h => by omega
      have n9 : ∀ b, w.heap.size + 2 ≤ b ∧ b < y.w.heap.size → b ≠ mb9 := fun b h => by omega
      exact insF_set (insF_set (insF_set (insF_set (insF_set (insF_set h0 n8) n8) n8) n9) n9) n9
    · have n8 : w.heap.size ≠ mb8 := by omega
      have n9 : w.heap.size ≠ mb9 := by omega
      exact obj_ne _ n9 (obj_ne _ n9 (obj_ne _ n9 (obj_ne _ n8 (obj_ne _ n8 (obj_ne _ n8 (obj_bel m hfo))))))
    · have n8 : w.heap.size + 1 ≠ mb8 := by omega
      have n9 : w.heap.size + 1 ≠ mb9 := by omega
      exact obj_ne _ n9 (obj_ne _ n9 (obj_ne _ n9 (obj_ne _ n8 (obj_ne _ n8 (obj_ne _ n8 (obj_bel m hres))))))
    · exact obj_ne _ mn8_9 (obj_ne _ mn8_9 (obj_ne _ mn8_9 (obj_set3 _ _ _ mo8.out)))
    · exact obj_set3 _ _ _ (obj_ne _ mn9_8 (obj_ne _ mn9_8 (obj_ne _ mn9_8 mo9.out)))
  case round =>
    obtain ⟨j, rfl, hj, hnb, hst⟩ := hrel
    have HST := Lib.hid hst
    have HNB := Lib.hid hnb
    obtain ⟨hown, hiW, hfw, hrw, h5w, h6w, hbw, hsw⟩ := hst
    obtain ⟨va, vc, rfl⟩ := ownG_val hown
    obtain ⟨b0, b1, b2⟩ := box3 hfw
    obtain ⟨d50, d51, d52⟩ := box3 h5w
    obtain ⟨d60, d61, d62⟩ := box3 h6w
    obtain ⟨oa, oc, hov, hoi⟩ := ownG_ins hown
    injection hov with e1 e2 e3
    subst e1 e3
    have hmN : y.w.heap.size ≤ m.w.heap.size := m.size_le
    clear e2 hnb
    rcases Nat.lt_or_ge j L.length with hjl | hjl
    · obtain ⟨g, hg⟩ := some_at hjl
      have hgm := List.mem_of_getElem? hg
      have hgok := HLOK.out g hgm
      have hgn : nodes g ≤ 10000 := nodes_mem_ok hgm hLn
      have HIL2 := Lib.hid hiW
      obtain ⟨bb, off, hadd, hp, hcs⟩ := insF_at hiW (by omega)
      cases hadd
      obtain ⟨c0, c1, ad', cap', c2, hig⟩ := cellF_open (hcs j g hg)
      have f1 : decide ((j : Int) < (L.length : Int)) = true := decide_eq_true (by omega)
      have hib : (0 ≤ (j : Int) ∧ (j : Int) < (L.length : Int)) := ⟨by omega, by omega⟩
      have HTK := Lib.hid (show L.take (j + 1) = L.take j ++ [g] by rw [List.take_add_one, hg]; rfl)
      have hDl := dd_len 3 (L.take j) []
      rw [List.length_nil, List.length_take] at hDl
      have hDn := (dd_size 3 (L.take j) []).1
      rw [nodesL] at hDn
      have hDt := nodesL_take L j
      have HDS := Lib.hid (dd_snoc 3 g (L.take j) [])
      rw [← HTK.out] at HDS
      obtain ⟨D, hDD⟩ : ∃ D, dd 3 [] (L.take j) = D := ⟨_, rfl⟩
      rw [hDD] at hown hDl HDS hDn hoi HST ⊢
      have HS1 := Lib.hid (fun w' (h : InsF (fun b => w.heap.size + 2 ≤ b ∧ b < y.w.heap.size) w' ad' g.l) => Same_any (nodes g) g (Nat.le_refl _) (nd 5 0 []) _ AnyB ad' none cap' 0 w' h (insF_nil _ _ _) (by omega) (by simp [nodes, nodesL]))
      have HS2 := Lib.hid (fun w' (h : InsF (fun b => w.heap.size + 2 ≤ b ∧ b < y.w.heap.size) w' ad' g.l) => Same_any (nodes g) g (Nat.le_refl _) (nd 6 0 []) _ AnyB ad' none cap' 0 w' h (insF_nil _ _ _) (by omega) (by simp [nodes, nodesL]))
      have HIN := Lib.hid (fun w' (h : InsF (fun b => w.heap.size + 2 ≤ b ∧ b < y.w.heap.size) w' ad' g.l) => Inverse_any _ g ad' cap' w' h)
      have HH1 := Lib.hid (fun (P' : Nat → Prop) g5 w' (h : InsF (fun b => w.heap.size + 2 ≤ b ∧ b < y.w.heap.size) w' (some ⟨bb, off, none⟩) L) (h' : InsF P' w' (some ⟨g5, 0, none⟩) [g]) => has_any L (nd 2 0 [g]) _ P' _ _ lc 1 w' h h' (by omega) (by simp [nodes, nodesL]; omega))
      have HH2 := Lib.hid (fun (P : Nat → Prop) w' (h : InsF P w' va D) (h' : InsF (fun b => w.heap.size + 2 ≤ b ∧ b < y.w.heap.size) w' ad' g.l) => has_any D g P _ va ad' vc cap' w' h h' (by omega) (by omega))
      have k_nd : ∀ k a l, (nd k a l).k = k := fun _ _ _ => rfl
      have a_nd : ∀ k a l, (nd k a l).a = a := fun _ _ _ => rfl
      have l_nd : ∀ k a l, (nd k a l).l = l := fun _ _ _ => rfl
      simp only [k_nd, a_nd, l_nd, List.length_cons, List.length_nil, Nat.zero_add] at HS1 HS2 HH1
      clear k_nd a_nd l_nd
      have HIG := Lib.hid hig
      have HO := Lib.hid hown
      have HOI := Lib.hid hoi
      have HGM := Lib.hid (And.intro hgm hgok)
      clear hcs hiW hp hown hoi hg hDD hig hgm hgok
      have HRB := Lib.hid (show rbad 3 L g ↔ (eqF g (nd 5 0 []) = true ∨ decide (nd 2 0 [g] ∈ L) = true) by rw [eqF_iff, decide_eq_true_eq]; exact Iff.rfl)
      have HQ3 := Lib.hid (const_iff (g := g) (c := 6) (by omega) HGM.out.2)
      rw [HQ3.out] at HS2
      obtain ⟨q1, hq1⟩ : ∃ q, eqF g (nd 5 0 []) = q := ⟨_, rfl⟩
      obtain ⟨q2, hq2⟩ : ∃ q, decide (nd 2 0 [g] ∈ L) = q := ⟨_, rfl⟩
      rw [hq1] at HS1 HRB
      rw [hq2] at HH1 HRB
      clear hq1 hq2 HQ3
      cases q1
      · go_wp2_with fail
        refine wp_region_plan 14 (.calm 0 (.calm 1 (.calm 2 (.calm 3 (.calm 4 (.calm 5 (.calm 6 (.calm 7 (.calm 8 (.calm 9 (.calm 10 (.calm 11 (.fork 12 (.calm 13 .tail) .none))))))))))))) (by kernel_rfl) (by kernel_rfl) ?_
        simp only [Plan.walk, operAt, List.getElem?_cons_succ, List.getElem?_cons_zero, Option.getD_some, List.drop_succ_cons, List.drop_zero]
        repeat (refine wpX_calm (fun K hK => ?_); go_simp; first | (refine hK _ _ ?_; clear hK K) | (apply Exists.intro; refine ⟨fun _ => ?_, hK _ _ ?_⟩; (go_at_call 40; exact HS1.out _ (HIG.out.of (by (repeat' (first | (with_reducible exact Below.refl _ _) | (with_reducible exact Nat.le_refl _) | (with_reducible refine Below.bel ?_ ?_) | (with_reducible refine Below.alloc ?_ ?_ _) | (with_reducible refine Below.drew ?_) | (with_reducible refine Below.drawsN ?_ _) | (with_reducible refine Below.setCell ?_ ?_ _) | (with_reducible refine le_bel ?_) | (with_reducible refine le_alloc ?_) | (with_reducible refine le_setCell ?_) | (with_reducible refine le_drew ?_) | (with_reducible refine le_drawsN ?_) | (dsimp only; with_reducible refine le_bel ?_) | (dsimp only; with_reducible refine Nat.le_refl _) | (dsimp only; with_reducible refine le_bel_add ?_) | (with_reducible assumption) | omega | (dsimp only; omega)))))); clear hK K))
        refine wpX_only (fun K hK => ?_)
        go_simp
        intro x
        refine (HIN.out _ (HIG.out.of (by (repeat' (first | (with_reducible exact Below.refl _ _) | (with_reducible exact Nat.le_refl _) | (with_reducible refine Below.bel ?_ ?_) | (with_reducible refine Below.alloc ?_ ?_ _) | (with_reducible refine Below.drew ?_) | (with_reducible refine Below.drawsN ?_ _) | (with_reducible refine Below.setCell ?_ ?_ _) | (with_reducible refine le_bel ?_) | (with_reducible refine le_alloc ?_) | (with_reducible refine le_setCell ?_) | (with_reducible refine le_drew ?_) | (with_reducible refine le_drawsN ?_) | (dsimp only; with_reducible refine le_bel ?_) | (dsimp only; with_reducible refine Nat.le_refl _) | (dsimp only; with_reducible refine le_bel_add ?_) | (with_reducible assumption) | omega | (dsimp only; omega)))))).mono ?_
        rintro _ _ ⟨g5, hg5s, rfl, y2, rfl, hi6⟩
        have HI6 := Lib.hid hi6
        clear hi6
        refine ⟨_, rfl, y2.below, hK _ _ ?_⟩
        clear hK K
        have hxz := x.size_le
        have hyz := y2.size_le
        repeat (refine wpX_calm (fun K hK => ?_); go_simp; first | (refine hK _ _ ?_; clear hK K) | (apply Exists.intro; refine ⟨fun _ => ?_, hK _ _ ?_⟩; (go_at_call 46; exact HH1.out _ _ _ (HIL2.out.of (by (repeat' (first | (with_reducible exact Below.refl _ _) | (with_reducible exact Nat.le_refl _) | (with_reducible refine Below.bel ?_ ?_) | (with_reducible refine Below.alloc ?_ ?_ _) | (with_reducible refine Below.drew ?_) | (with_reducible refine Below.drawsN ?_ _) | (with_reducible refine Below.setCell ?_ ?_ _) | (with_reducible refine le_bel ?_) | (with_reducible refine le_alloc ?_) | (with_reducible refine le_setCell ?_) | (with_reducible refine le_drew ?_) | (with_reducible refine le_drawsN ?_) | (dsimp only; with_reducible refine le_bel ?_) | (dsimp only; with_reducible refine Nat.le_refl _) | (dsimp only; with_reducible refine le_bel_add ?_) | (with_reducible assumption) | omega | (dsimp only; omega))))) (HI6.out.of (by (repeat' (first | (with_reducible exact Below.refl _ _) | (with_reducible exact Nat.le_refl _) | (with_reducible refine Below.bel ?_ ?_) | (with_reducible refine Below.alloc ?_ ?_ _) | (with_reducible refine Below.drew ?_) | (with_reducible refine Below.drawsN ?_ _) | (with_reducible refine Below.setCell ?_ ?_ _) | (with_reducible refine le_bel ?_) | (with_reducible refine le_alloc ?_) | (with_reducible refine le_setCell ?_) | (with_reducible refine le_drew ?_) | (with_reducible refine le_drawsN ?_) | (dsimp only; with_reducible refine le_bel ?_) | (dsimp only; with_reducible refine Nat.le_refl _) | (dsimp only; with_reducible refine le_bel_add ?_) | (with_reducible assumption) | omega | (dsimp only; omega)))))); clear hK K))
        refine wpX_tail ?_
        intro z
        have hbz : Below wr.heap.size wr z.w := by (repeat' (first | (with_reducible exact Below.refl _ _) | (with_reducible exact Nat.le_refl _) | (with_reducible refine Below.bel ?_ ?_) | (with_reducible refine Below.alloc ?_ ?_ _) | (with_reducible refine Below.drew ?_) | (with_reducible refine Below.drawsN ?_ _) | (with_reducible refine Below.setCell ?_ ?_ _) | (with_reducible refine le_bel ?_) | (with_reducible refine le_alloc ?_) | (with_reducible refine le_setCell ?_) | (with_reducible refine le_drew ?_) | (with_reducible refine le_drawsN ?_) | (dsimp only; with_reducible refine le_bel ?_) | (dsimp only; with_reducible refine Nat.le_refl _) | (dsimp only; with_reducible refine le_bel_add ?_) | (with_reducible assumption) | omega | (dsimp only; omega)))
        cases q2
        · have HRN := Lib.hid (show ¬ rbad 3 L g from fun h => by simpa using HRB.out.1 h)
          have HSZ := Lib.hid (HST.out.keep hbz)
          obtain ⟨_, _, _, _, _, h6z, hbw2, _⟩ := HSZ.out
          obtain ⟨d63, d64, d65⟩ := box3 h6z
          have hbs := hbz.size
          obtain ⟨cc0, cc1, cc2⟩ : z.w.cell? ⟨bb, off + j * 3, none⟩ = some (.int .i64 g.k) ∧ z.w.cell? ⟨bb, off + j * 3 + 1, none⟩ = some (.int .i64 g.a) ∧ z.w.cell? ⟨bb, off + j * 3 + 2, none⟩ = some (.slice ad' g.l.length cap') := ⟨below_cell hbz _ _ _ c0, below_cell hbz _ _ _ c1, below_cell hbz _ _ _ c2⟩
          go_wp2_with fail
          obtain ⟨q3, hq3⟩ : ∃ q, decide (g.k = 6) = q := ⟨_, rfl⟩
          obtain ⟨q4, hq4⟩ : ∃ q, decide (g ∈ D) = q := ⟨_, rfl⟩
          rw [hq3] at HS2
          rw [hq4] at HH2
          have HQ3 := Lib.hid hq3
          have HQ4 := Lib.hid hq4
          clear hq3 hq4
          cases q3
          · cases q4
            · refine wp_region_bel (by kernel_rfl) (by kernel_rfl) ?_
              repeat (go_big_quiet_step ((first | (go_at_call 40; with_reducible refine bel_of (HS2.out _ (HIG.out.of ?_)) <;> (repeat' (first | (with_reducible exact Below.refl _ _) | (with_reducible exact Nat.le_refl _) | (with_reducible refine Below.bel ?_ ?_) | (with_reducible refine Below.alloc ?_ ?_ _) | (with_reducible refine Below.drew ?_) | (with_reducible refine Below.drawsN ?_ _) | (with_reducible refine Below.setCell ?_ ?_ _) | (with_reducible refine le_bel ?_) | (with_reducible refine le_alloc ?_) | (with_reducible refine le_setCell ?_) | (with_reducible refine le_drew ?_) | (with_reducible refine le_drawsN ?_) | (dsimp only; with_reducible refine le_bel ?_) | (dsimp only; with_reducible refine Nat.le_refl _) | (dsimp only; with_reducible refine le_bel_add ?_) | (with_reducible assumption) | omega | (dsimp only; omega)))) | (go_at_call 46; with_reducible refine bel_of (HH2.out _ _ (HOI.out.of ?_) (HIG.out.of ?_)) <;> (repeat' (first | (with_reducible exact Below.refl _ _) | (with_reducible exact Nat.le_refl _) | (with_reducible refine Below.bel ?_ ?_) | (with_reducible refine Below.alloc ?_ ?_ _) | (with_reducible refine Below.drew ?_) | (with_reducible refine Below.drawsN ?_ _) | (with_reducible refine Below.setCell ?_ ?_ _) | (with_reducible refine le_bel ?_) | (with_reducible refine le_alloc ?_) | (with_reducible refine le_setCell ?_) | (with_reducible refine le_drew ?_) | (with_reducible refine le_drawsN ?_) | (dsimp only; with_reducible refine le_bel ?_) | (dsimp only; with_reducible refine Nat.le_refl _) | (dsimp only; with_reducible refine le_bel_add ?_) | (with_reducible assumption) | omega | (dsimp only; omega)))))))
              refine wpQuiet_nil ?_
              rintro _ ⟨x2, rfl⟩
              have hbx : Below wr.heap.size wr x2.w := by (repeat' (first | (with_reducible exact Below.refl _ _) | (with_reducible exact Nat.le_refl _) | (with_reducible refine Below.bel ?_ ?_) | (with_reducible refine Below.alloc ?_ ?_ _) | (with_reducible refine Below.drew ?_) | (with_reducible refine Below.drawsN ?_ _) | (with_reducible refine Below.setCell ?_ ?_ _) | (with_reducible refine le_bel ?_) | (with_reducible refine le_alloc ?_) | (with_reducible refine le_setCell ?_) | (with_reducible refine le_drew ?_) | (with_reducible refine le_drawsN ?_) | (dsimp only; with_reducible refine le_bel ?_) | (dsimp only; with_reducible refine Nat.le_refl _) | (dsimp only; with_reducible refine le_bel_add ?_) | (with_reducible assumption) | omega | (dsimp only; omega)))
              have HDS2 := Lib.hid HDS.out
              rw [if_neg (fun h => h.elim (of_decide_eq_false HQ3.out) (of_decide_eq_false HQ4.out))] at HDS2
              have hbx2 := hbx.size
              have hba : Below x2.w.heap.size x2.w (x2.w.alloc (.cells #[.int .i64 g.k, .int .i64 g.a, .slice ad' g.l.length cap'] 36)) := by (repeat' (first | (with_reducible exact Below.refl _ _) | (with_reducible exact Nat.le_refl _) | (with_reducible refine Below.bel ?_ ?_) | (with_reducible refine Below.alloc ?_ ?_ _) | (with_reducible refine Below.drew ?_) | (with_reducible refine Below.drawsN ?_ _) | (with_reducible refine Below.setCell ?_ ?_ _) | (with_reducible refine le_bel ?_) | (with_reducible refine le_alloc ?_) | (with_reducible refine le_setCell ?_) | (with_reducible refine le_drew ?_) | (with_reducible refine le_drawsN ?_) | (dsimp only; with_reducible refine le_bel ?_) | (dsimp only; with_reducible refine Nat.le_refl _) | (dsimp only; with_reducible refine le_bel_add ?_) | (with_reducible assumption) | omega | (dsimp only; omega)))
              have hbz2 : Below wr.heap.size wr (x2.w.alloc (.cells #[.int .i64 g.k, .int .i64 g.a, .slice ad' g.l.length cap'] 36)) := hbx.trans (hba.mono hbx2)
              have HOZ := Lib.hid (show OwnG (x2.w.alloc (.cells #[.int .i64 g.k, .int .i64 g.a, .slice ad' g.l.length cap'] 36)) m.w.heap.size (fun b => w.heap.size + 2 ≤ b ∧ b < y.w.heap.size) 36 (.slice va D.length vc) D from ownG_bel HO.out ⟨_, hbz2⟩)
              have HCZ2 := Lib.hid (show InsC (fun b => (w.heap.size + 2 ≤ b ∧ b < y.w.heap.size) ∧ (Value.slice va D.length vc).ownBlock ≠ some b) (x2.w.alloc (.cells #[.int .i64 g.k, .int .i64 g.a, .slice ad' g.l.length cap'] 36)) (some ⟨x2.w.heap.size, 0, none⟩) [g] from
                insC_one (E := 36) (ad := ad') (cap := cap') (World.alloc_heap_new _ _) ((HIG.out.of hbz2).imp fun b _ hb => ⟨hb, ownG_avoid HO.out (.inr (by omega))⟩))
              go_wp2_with (at_builtin; refine wpList_appG rfl _ _ 34 36 rfl i0 Tryd.underlying34 hi0 hz0 hz1 hz2 _ m.w.heap.size (fun b => w.heap.size + 2 ≤ b ∧ b < y.w.heap.size) (.slice va D.length vc) D [g] (some ⟨x2.w.heap.size, 0, none⟩) 1 rfl HOZ.out HCZ2.out rfl (by simp; omega) (by simp; omega) ?_; intro va2 vc2 w4 hof hbw; have HBW := Lib.hid hbw; have HOF := Lib.hid hof; have hbws := hbw.size; simp at hbws; clear hof hbw)
              go_roundw
              case rel => exact ⟨j + 1, by go_num, by omega, by rw [HTK.out]; intro u hu; rcases List.mem_append.1 hu with hu | hu; exact HNB.out u hu; rw [List.mem_singleton.1 hu]; exact HRN.out, by rw [HDS2.out]; exact HST.out.next hlo hmN hlt8 hlt9 hbz2 HBW.out HOF.out⟩
              case measure => simp [intOf]; omega
            · refine wp_region_bel (by kernel_rfl) (by kernel_rfl) ?_
              repeat (go_big_quiet_step ((first | (go_at_call 40; with_reducible refine bel_of (HS2.out _ (HIG.out.of ?_)) <;> (repeat' (first | (with_reducible exact Below.refl _ _) | (with_reducible exact Nat.le_refl _) | (with_reducible refine Below.bel ?_ ?_) | (with_reducible refine Below.alloc ?_ ?_ _) | (with_reducible refine Below.drew ?_) | (with_reducible refine Below.drawsN ?_ _) | (with_reducible refine Below.setCell ?_ ?_ _) | (with_reducible refine le_bel ?_) | (with_reducible refine le_alloc ?_) | (with_reducible refine le_setCell ?_) | (with_reducible refine le_drew ?_) | (with_reducible refine le_drawsN ?_) | (dsimp only; with_reducible refine le_bel ?_) | (dsimp only; with_reducible refine Nat.le_refl _) | (dsimp only; with_reducible refine le_bel_add ?_) | (with_reducible assumption) | omega | (dsimp only; omega)))) | (go_at_call 46; with_reducible refine bel_of (HH2.out _ _ (HOI.out.of ?_) (HIG.out.of ?_)) <;> (repeat' (first | (with_reducible exact Below.refl _ _) | (with_reducible exact Nat.le_refl _) | (with_reducible refine Below.bel ?_ ?_) | (with_reducible refine Below.alloc ?_ ?_ _) | (with_reducible refine Below.drew ?_) | (with_reducible refine Below.drawsN ?_ _) | (with_reducible refine Below.setCell ?_ ?_ _) | (with_reducible refine le_bel ?_) | (with_reducible refine le_alloc ?_) | (with_reducible refine le_setCell ?_) | (with_reducible refine le_drew ?_) | (with_reducible refine le_drawsN ?_) | (dsimp only; with_reducible refine le_bel ?_) | (dsimp only; with_reducible refine Nat.le_refl _) | (dsimp only; with_reducible refine le_bel_add ?_) | (with_reducible assumption) | omega | (dsimp only; omega)))))))
              refine wpQuiet_nil ?_
              rintro _ ⟨x2, rfl⟩
              have hbx : Below wr.heap.size wr x2.w := by (repeat' (first | (with_reducible exact Below.refl _ _) | (with_reducible exact Nat.le_refl _) | (with_reducible refine Below.bel ?_ ?_) | (with_reducible refine Below.alloc ?_ ?_ _) | (with_reducible refine Below.drew ?_) | (with_reducible refine Below.drawsN ?_ _) | (with_reducible refine Below.setCell ?_ ?_ _) | (with_reducible refine le_bel ?_) | (with_reducible refine le_alloc ?_) | (with_reducible refine le_setCell ?_) | (with_reducible refine le_drew ?_) | (with_reducible refine le_drawsN ?_) | (dsimp only; with_reducible refine le_bel ?_) | (dsimp only; with_reducible refine Nat.le_refl _) | (dsimp only; with_reducible refine le_bel_add ?_) | (with_reducible assumption) | omega | (dsimp only; omega)))
              have HDS2 := Lib.hid HDS.out
              rw [if_pos (.inr (of_decide_eq_true HQ4.out))] at HDS2
              go_wp2
              go_roundw
              case rel => exact ⟨j + 1, by go_num, by omega, by rw [HTK.out]; intro u hu; rcases List.mem_append.1 hu with hu | hu; exact HNB.out u hu; rw [List.mem_singleton.1 hu]; exact HRN.out, by rw [HDS2.out]; exact HST.out.keep hbx⟩
              case measure => simp [intOf]; omega
          · refine wp_region_bel (by kernel_rfl) (by kernel_rfl) ?_
            repeat (go_big_quiet_step ((first | (go_at_call 40; with_reducible refine bel_of (HS2.out _ (HIG.out.of ?_)) <;> (repeat' (first | (with_reducible exact Below.refl _ _) | (with_reducible exact Nat.le_refl _) | (with_reducible refine Below.bel ?_ ?_) | (with_reducible refine Below.alloc ?_ ?_ _) | (with_reducible refine Below.drew ?_) | (with_reducible refine Below.drawsN ?_ _) | (with_reducible refine Below.setCell ?_ ?_ _) | (with_reducible refine le_bel ?_) | (with_reducible refine le_alloc ?_) | (with_reducible refine le_setCell ?_) | (with_reducible refine le_drew ?_) | (with_reducible refine le_drawsN ?_) | (dsimp only; with_reducible refine le_bel ?_) | (dsimp only; with_reducible refine Nat.le_refl _) | (dsimp only; with_reducible refine le_bel_add ?_) | (with_reducible assumption) | omega | (dsimp only; omega)))) | (go_at_call 46; with_reducible refine bel_of (HH2.out _ _ (HOI.out.of ?_) (HIG.out.of ?_)) <;> (repeat' (first | (with_reducible exact Below.refl _ _) | (with_reducible exact Nat.le_refl _) | (with_reducible refine Below.bel ?_ ?_) | (with_reducible refine Below.alloc ?_ ?_ _) | (with_reducible refine Below.drew ?_) | (with_reducible refine Below.drawsN ?_ _) | (with_reducible refine Below.setCell ?_ ?_ _) | (with_reducible refine le_bel ?_) | (with_reducible refine le_alloc ?_) | (with_reducible refine le_setCell ?_) | (with_reducible refine le_drew ?_) | (with_reducible refine le_drawsN ?_) | (dsimp only; with_reducible refine le_bel ?_) | (dsimp only; with_reducible refine Nat.le_refl _) | (dsimp only; with_reducible refine le_bel_add ?_) | (with_reducible assumption) | omega | (dsimp only; omega)))))))
            refine wpQuiet_nil ?_
            rintro _ ⟨x2, rfl⟩
            have hbx : Below wr.heap.size wr x2.w := by (repeat' (first | (with_reducible exact Below.refl _ _) | (with_reducible exact Nat.le_refl _) | (with_reducible refine Below.bel ?_ ?_) | (with_reducible refine Below.alloc ?_ ?_ _) | (with_reducible refine Below.drew ?_) | (with_reducible refine Below.drawsN ?_ _) | (with_reducible refine Below.setCell ?_ ?_ _) | (with_reducible refine le_bel ?_) | (with_reducible refine le_alloc ?_) | (with_reducible refine le_setCell ?_) | (with_reducible refine le_drew ?_) | (with_reducible refine le_drawsN ?_) | (dsimp only; with_reducible refine le_bel ?_) | (dsimp only; with_reducible refine Nat.le_refl _) | (dsimp only; with_reducible refine le_bel_add ?_) | (with_reducible assumption) | omega | (dsimp only; omega)))
            have HDS2 := Lib.hid HDS.out
            rw [if_pos (.inl (of_decide_eq_true HQ3.out))] at HDS2
            go_wp2
            go_roundw
            case rel => exact ⟨j + 1, by go_num, by omega, by rw [HTK.out]; intro u hu; rcases List.mem_append.1 hu with hu | hu; exact HNB.out u hu; rw [List.mem_singleton.1 hu]; exact HRN.out, by rw [HDS2.out]; exact HST.out.keep hbx⟩
            case measure => simp [intOf]; omega
        · have HJS := Lib.hid (joinF_yes HLOK.out HGM.out.1 (HRB.out.2 (by simp)))
          have HSZ := Lib.hid (HST.out.keep hbz)
          obtain ⟨_, _, _, hrz, h5z, _, hbz, _⟩ := HSZ.out
          obtain ⟨r0, r1, r2⟩ := box3 hrz
          obtain ⟨s0, s1, s2⟩ := box3f hrz
          obtain ⟨t0, t1, t2⟩ := box3 h5z
          have HBF := Lib.hid hbz
          go_wp2
          have hR := obj_set3 (.int .i64 5) (.int .i64 0) (.slice none 0 0) hrz
          obtain ⟨x0, x1, x2⟩ := box3 hR
          exact bodyPost_ret (v := .agg #[.int .i64 5, .int .i64 0, .slice none 0 0]) (by simp [results, Tryd.results19, go_sem, x0, x1, x2]) rfl (by rw [HJS.out]; exact RetF.mk (t := nd 5 0 []) none 0 rfl (((HBF.out.setCell (p := ⟨w.heap.size + 1, 0, none⟩) (by simp) _).setCell (p := ⟨w.heap.size + 1, 1, none⟩) (by simp) _).setCell (p := ⟨w.heap.size + 1, 2, none⟩) (by simp) _) (insF_nil _ _ _))
      · go_wp2_with fail
        refine wp_region_bel (by kernel_rfl) (by kernel_rfl) ?_
        repeat (go_big_quiet_step ((go_at_call 40; with_reducible refine bel_of (HS1.out _ (HIG.out.of ?_)) <;> (repeat' (first | (with_reducible exact Below.refl _ _) | (with_reducible exact Nat.le_refl _) | (with_reducible refine Below.bel ?_ ?_) | (with_reducible refine Below.alloc ?_ ?_ _) | (with_reducible refine Below.drew ?_) | (with_reducible refine Below.drawsN ?_ _) | (with_reducible refine Below.setCell ?_ ?_ _) | (with_reducible refine le_bel ?_) | (with_reducible refine le_alloc ?_) | (with_reducible refine le_setCell ?_) | (with_reducible refine le_drew ?_) | (with_reducible refine le_drawsN ?_) | (dsimp only; with_reducible refine le_bel ?_) | (dsimp only; with_reducible refine Nat.le_refl _) | (dsimp only; with_reducible refine le_bel_add ?_) | (with_reducible assumption) | omega | (dsimp only; omega))))))
        refine wpQuiet_nil ?_
        rintro _ ⟨x, rfl⟩
        have HJS := Lib.hid (joinF_yes HLOK.out HGM.out.1 (HRB.out.2 (by simp)))
        have HSZ := Lib.hid (HST.out.keep x.below)
        obtain ⟨_, _, _, hrz, h5z, _, hbz, _⟩ := HSZ.out
        obtain ⟨r0, r1, r2⟩ := box3 hrz
        obtain ⟨s0, s1, s2⟩ := box3f hrz
        obtain ⟨t0, t1, t2⟩ := box3 h5z
        have HBF := Lib.hid hbz
        go_wp2
        have hR := obj_set3 (.int .i64 5) (.int .i64 0) (.slice none 0 0) hrz
        obtain ⟨x0, x1, x2⟩ := box3 hR
        exact bodyPost_ret (v := .agg #[.int .i64 5, .int .i64 0, .slice none 0 0]) (by simp [results, Tryd.results19, go_sem, x0, x1, x2]) rfl (by rw [HJS.out]; exact RetF.mk (t := nd 5 0 []) none 0 rfl (((HBF.out.setCell (p := ⟨w.heap.size + 1, 0, none⟩) (by simp) _).setCell (p := ⟨w.heap.size + 1, 1, none⟩) (by simp) _).setCell (p := ⟨w.heap.size + 1, 2, none⟩) (by simp) _) (insF_nil _ _ _))
    · have hje : j = L.length := by omega
      subst hje
      have f1 : decide ((L.length : Int) < (L.length : Int)) = false := decide_eq_false (by omega)
      rw [List.take_length] at HNB hoi
      obtain ⟨r0, r1, r2⟩ := box3 hrw
      obtain ⟨s0, s1, s2⟩ := box3f hrw
      have HJJ := Lib.hid (joinF_no HLOK.out HNB.out)
      obtain ⟨D, hD⟩ : ∃ D, dd 3 [] L = D := ⟨_, rfl⟩
      rw [List.take_length] at hown ⊢
      rw [hD] at hown hoi HJJ ⊢
      have HBF := Lib.hid hbw
      have HOI := Lib.hid (show InsF (fun b => w.heap.size + 2 ≤ b) wr va D from hoi.imp fun b _ hb => by rcases hb with hb | hb <;> omega)
      clear hown hoi hiW hD HST HNB hbw
      have hmv : ∀ (ad : Option Addr) (l : List F) (a b c : Value), InsF (fun b => w.heap.size + 2 ≤ b) wr ad l → InsF (fun b => w.heap.size ≤ b) (((wr.setCell ⟨w.heap.size + 1, 0, none⟩ a).setCell ⟨w.heap.size + 1, 1, none⟩ b).setCell ⟨w.heap.size + 1, 2, none⟩ c) ad l := fun ad l a b c h => by
        have hn : ∀ b, w.heap.size + 2 ≤ b → b ≠ w.heap.size + 1 := fun b h => by omega
        exact (insF_set (insF_set (insF_set h hn) hn) hn).imp fun b _ h => by omega
      have HMV := Lib.hid hmv
      clear hmv
      rcases D with _ | ⟨t, _ | ⟨t2, r⟩⟩
      · rw [List.length_nil]
        go_wp2
        have hR := obj_set3 (.int .i64 6) (.int .i64 0) (.slice none 0 0) hrw
        obtain ⟨x0, x1, x2⟩ := box3 hR
        exact bodyPost_ret (v := .agg #[.int .i64 6, .int .i64 0, .slice none 0 0]) (by simp [results, Tryd.results19, go_sem, x0, x1, x2]) rfl (by rw [HJJ.out]; exact RetF.mk (t := nd 6 0 []) none 0 rfl (((HBF.out.setCell (p := ⟨w.heap.size + 1, 0, none⟩) (by simp) _).setCell (p := ⟨w.heap.size + 1, 1, none⟩) (by simp) _).setCell (p := ⟨w.heap.size + 1, 2, none⟩) (by simp) _) (insF_nil _ _ _))
      · obtain ⟨bb, off, rfl, hp, hcs⟩ := insF_at HOI.out (by simp)
        obtain ⟨c0, c1, ad', cap', c2, hit⟩ := cellF_open (hcs 0 t rfl)
        rw [Nat.zero_mul, Nat.add_zero] at c0 c1 c2
        have HIT := Lib.hid hit
        clear hcs hit
        rw [List.length_singleton]
        go_wp2
        have hR := obj_set3 (.int .i64 t.k) (.int .i64 t.a) (.slice ad' t.l.length cap') hrw
        obtain ⟨x0, x1, x2⟩ := box3 hR
        exact bodyPost_ret (v := .agg #[.int .i64 t.k, .int .i64 t.a, .slice ad' t.l.length cap']) (by simp [results, Tryd.results19, go_sem, x0, x1, x2]) rfl (by rw [HJJ.out]; exact RetF.mk (t := t) ad' cap' rfl (((HBF.out.setCell (p := ⟨w.heap.size + 1, 0, none⟩) (by simp) _).setCell (p := ⟨w.heap.size + 1, 1, none⟩) (by simp) _).setCell (p := ⟨w.heap.size + 1, 2, none⟩) (by simp) _) (HMV.out _ _ _ _ _ HIT.out))
      · rw [show pickF 3 (t :: t2 :: r) = nd 3 0 (t :: t2 :: r) from rfl] at HJJ
        obtain ⟨DD, hDD⟩ : ∃ DD, t :: t2 :: r = DD := ⟨_, rfl⟩
        have hdl : 2 ≤ DD.length := by rw [← hDD]; simp
        rw [hDD] at HOI HJJ ⊢
        clear hDD
        have f5 : ((DD.length : Int) == 0) = false := beq_eq_false_iff_ne.2 (by omega)
        have f6 : ((DD.length : Int) == 1) = false := beq_eq_false_iff_ne.2 (by omega)
        go_wp2
        have hR := obj_set3 (.int .i64 3) (.int .i64 0) (.slice va DD.length vc) hrw
        obtain ⟨x0, x1, x2⟩ := box3 hR
        exact bodyPost_ret (v := .agg #[.int .i64 3, .int .i64 0, .slice va DD.length vc]) (by simp [results, Tryd.results19, go_sem, x0, x1, x2]) rfl (by rw [HJJ.out]; exact RetF.mk (t := nd 3 0 DD) va vc rfl (((HBF.out.setCell (p := ⟨w.heap.size + 1, 0, none⟩) (by simp) _).setCell (p := ⟨w.heap.size + 1, 1, none⟩) (by simp) _).setCell (p := ⟨w.heap.size + 1, 2, none⟩) (by simp) _) (HMV.out _ _ _ _ _ HOI.out))
set_option maxRecDepth 100000 in
set_option maxHeartbeats 12800000 in
theorem refJoin4 (tl : List F) (ad : Option Addr) (cap : Nat) (w : World) (hi : InsF (fun c => c < w.heap.size) w ad tl) (hok : ∀ u ∈ tl, okT u) (hn : nodesL tl ≤ 10000)
    (HS : ∀ u ∈ tl, ∀ (P : Nat → Prop) ad cap W, InsF P W ad u.l → Calls Tryd.prog 19 #[.agg #[.int .i64 u.k, .int .i64 u.a, .slice ad u.l.length cap]] W (RetF (smp u) W)) :
    Calls Tryd.prog 19 #[.agg #[.int .i64 4, .int .i64 0, .slice ad tl.length cap]] w (RetF (joinF 4 (smpL 4 tl)) w) := by
  obtain ⟨i0, hi0, hz0, hz1, hz2⟩ := info_parts Tryd.infoT
  have HFL := Lib.hid (fun W (hW : Below w.heap.size w W) => flat_any 4 tl ad cap W ((hi.of hW).imp fun b _ h => by have := hW.size; omega) hok (by omega) (fun u hu ad' cap' W' _ hi' => HS u hu _ ad' cap' W' hi'))
  have hLok := smpL_ok 4 tl (okL_of hok) hn
  have hLn : nodesL (smpL 4 tl) ≤ 10000 := by have := smpL_take_size 4 tl tl.length (okL_of hok); rw [List.take_length] at this; omega
  obtain ⟨L, hL⟩ : ∃ L, smpL 4 tl = L := ⟨_, rfl⟩
  rw [hL] at HFL hLok hLn ⊢
  have hLl : L.length ≤ 10000 := Nat.le_trans (length_nodesL L) hLn
  have HLOK := Lib.hid hLok
  clear hi hok hn HS hL hLok
  go_enter Tryd.func19, Tryd.ntmps19
  go_wp2_with fail
  refine (HFL.out _ (by (repeat' (first | (with_reducible exact Below.refl _ _) | (with_reducible exact Nat.le_refl _) | (with_reducible refine Below.bel ?_ ?_) | (with_reducible refine Below.alloc ?_ ?_ _) | (with_reducible refine Below.drew ?_) | (with_reducible refine Below.drawsN ?_ _) | (with_reducible refine Below.setCell ?_ ?_ _) | (with_reducible refine le_bel ?_) | (with_reducible refine le_alloc ?_) | (with_reducible refine le_setCell ?_) | (with_reducible refine le_drew ?_) | (with_reducible refine le_drawsN ?_) | (dsimp only; with_reducible refine le_bel ?_) | (dsimp only; with_reducible refine Nat.le_refl _) | (dsimp only; with_reducible refine le_bel_add ?_) | (with_reducible assumption) | omega | (dsimp only; omega))))).mono ?_
  rintro _ _ ⟨la, lc, rfl, y, rfl, hiL⟩
  have HIL := Lib.hid hiL
  have hres := obj_bel y (heap2_1 w (.cells #[.int .i64 4, .int .i64 0, .slice ad tl.length cap] 36) (.cells #[.int .i64 0, .int .i64 0, .slice none 0 0] 36))
  have hfo := obj_bel y (heap2_0 w (.cells #[.int .i64 4, .int .i64 0, .slice ad tl.length cap] 36) (.cells #[.int .i64 0, .int .i64 0, .slice none 0 0] 36))
  have hys := y.size_le
  simp at hys
  obtain ⟨b0, b1, b2⟩ := box3 hfo
  have hB1 : Below w.heap.size w y.w := by (repeat' (first | (with_reducible exact Below.refl _ _) | (with_reducible exact Nat.le_refl _) | (with_reducible refine Below.bel ?_ ?_) | (with_reducible refine Below.alloc ?_ ?_ _) | (with_reducible refine Below.drew ?_) | (with_reducible refine Below.drawsN ?_ _) | (with_reducible refine Below.setCell ?_ ?_ _) | (with_reducible refine le_bel ?_) | (with_reducible refine le_alloc ?_) | (with_reducible refine le_setCell ?_) | (with_reducible refine le_drew ?_) | (with_reducible refine le_drawsN ?_) | (dsimp only; with_reducible refine le_bel ?_) | (dsimp only; with_reducible refine Nat.le_refl _) | (dsimp only; with_reducible refine le_bel_add ?_) | (with_reducible assumption) | omega | (dsimp only; omega)))
  clear hiL
  dsimp only
  go_wp2_with fail
  refine wp_region_vars 10 [8, 9] [36] (fun _ => .cells #[.int .i64 0, .int .i64 0, .slice none 0 0] 36) (by kernel_rfl) (by kernel_rfl) (by kernel_rfl) (by kernel_rfl) (by decide) (by kernel_rfl) run_allocT ?_
  simp only [List.take_succ_cons, List.take_zero, List.drop_succ_cons, List.drop_zero]
  repeat (refine wpFloat_step (fun K hK => ?_); go_simp; first | (refine hK _ ?_; clear hK K) | (apply Exists.intro; refine ⟨fun _ => ?_, hK _ ?_⟩; (go_at_call 42; exact refConstant_ret _ _); clear hK K))
  refine wpFloat_nil ?_
  rintro B m ⟨hM, hA⟩
  obtain ⟨ml8, mm8⟩ := hM 8 (by decide)
  obtain ⟨ml9, mm9⟩ := hM 9 (by decide)
  have mn8_9 := hA 8 (by decide) 9 (by decide) (by decide)
  have mn9_8 := Ne.symm mn8_9
  clear hM hA
  simp only [puts, binds, dstAt, ptr, List.map_cons, List.map_nil, List.foldl_cons, List.foldl_nil]
  generalize B 8 = mb8 at *
  generalize B 9 = mb9 at *
  have mc8_0 : m.w.cell? ⟨mb8, 0, none⟩ = some (.int .i64 0) := (made_cell mm8 0).1
  have mf8_0 : m.w.frozen? ⟨mb8, 0, none⟩ = false := (made_cell mm8 0).2
  have mc8_1 : m.w.cell? ⟨mb8, 1, none⟩ = some (.int .i64 0) := (made_cell mm8 1).1
  have mf8_1 : m.w.frozen? ⟨mb8, 1, none⟩ = false := (made_cell mm8 1).2
  have mc8_2 : m.w.cell? ⟨mb8, 2, none⟩ = some (.slice none 0 0) := (made_cell mm8 2).1
  have mf8_2 : m.w.frozen? ⟨mb8, 2, none⟩ = false := (made_cell mm8 2).2
  have mc9_0 : m.w.cell? ⟨mb9, 0, none⟩ = some (.int .i64 0) := (made_cell mm9 0).1
  have mf9_0 : m.w.frozen? ⟨mb9, 0, none⟩ = false := (made_cell mm9 0).2
  have mc9_1 : m.w.cell? ⟨mb9, 1, none⟩ = some (.int .i64 0) := (made_cell mm9 1).1
  have mf9_1 : m.w.frozen? ⟨mb9, 1, none⟩ = false := (made_cell mm9 1).2
  have mc9_2 : m.w.cell? ⟨mb9, 2, none⟩ = some (.slice none 0 0) := (made_cell mm9 2).1
  have mf9_2 : m.w.frozen? ⟨mb9, 2, none⟩ = false := (made_cell mm9 2).2
  have mo8 := Lib.hid mm8
  have mo9 := Lib.hid mm9
  clear mm8 mm9
  have ms := m.size_le
  have hlo : w.heap.size + 2 ≤ y.w.heap.size := by omega
  have hlt8 : mb8 < m.w.heap.size := (Array.getElem?_eq_some_iff.1 mo8.out).1
  have hlt9 : mb9 < m.w.heap.size := (Array.getElem?_eq_some_iff.1 mo9.out).1
  go_wp2_with fail
  go_loopw [7, 8] (fun v i wr => ∃ j : Nat, i = .int .i64 (j : Int) ∧ j ≤ L.length ∧ (∀ g ∈ L.take j, ¬ rbad 4 L g) ∧ RSt w wr m.w.heap.size y.w.heap.size mb8 mb9 v (dd 4 [] (L.take j)) L la (.cells #[.int .i64 4, .int .i64 0, .slice ad tl.length cap] 36 (0, 0)) (.cells #[.int .i64 0, .int .i64 0, .slice none 0 0] 36 (0, 0)) (.cells #[.int .i64 6, .int .i64 0, .slice none 0 0] 36 (0, 0)) (.cells #[.int .i64 5, .int .i64 0, .slice none 0 0] 36 (0, 0))) (fun _ i _ => L.length - (intOf i).toNat)
  case atStart =>
    refine ⟨0, rfl, by omega, fun g hg => by simp at hg, ownG_nil _ _ _ _, ?_, ?_, ?_, ?_, ?_, by (repeat' (first | (with_reducible exact Below.refl _ _) | (with_reducible exact Nat.le_refl _) | (with_reducible refine Below.bel ?_ ?_) | (with_reducible refine Below.alloc ?_ ?_ _) | (with_reducible refine Below.drew ?_) | (with_reducible refine Below.drawsN ?_ _) | (with_reducible refine Below.setCell ?_ ?_ _) | (with_reducible refine le_bel ?_) | (with_reducible refine le_alloc ?_) | (with_reducible refine le_setCell ?_) | (with_reducible refine le_drew ?_) | (with_reducible refine le_drawsN ?_) | (dsimp only; with_reducible refine le_bel ?_) | (dsimp only; with_reducible refine Nat.le_refl _) | (dsimp only; with_reducible refine le_bel_add ?_) | (with_reducible assumption) | omega | (dsimp only; omega))), by simp⟩
    · have h0 := ((HIL.out.imp (Q := fun b => w.heap.size + 2 ≤ b ∧ b < y.w.heap.size) fun b hb h => ⟨by simp at h; omega, hb⟩)).of m.below
      have n8 : ∀ b, w.heap.size + 2 ≤ b ∧ b < y.w.heap.size → b ≠ mb8 := fun b h => by omega
      have n9 : ∀ b, w.heap.size + 2 ≤ b ∧ b < y.w.heap.size → b ≠ mb9 := fun b h => by omega
      exact insF_set (insF_set (insF_set (insF_set (insF_set (insF_set h0 n8) n8) n8) n9) n9) n9
    · have n8 : w.heap.size ≠ mb8 := by omega
      have n9 : w.heap.size ≠ mb9 := by omega
      exact obj_ne _ n9 (obj_ne _ n9 (obj_ne _ n9 (obj_ne _ n8 (obj_ne _ n8 (obj_ne _ n8 (obj_bel m hfo))))))
    · have n8 : w.heap.size + 1 ≠ mb8 := by omega
      have n9 : w.heap.size + 1 ≠ mb9 := by omega
      exact obj_ne _ n9 (obj_ne _ n9 (obj_ne _ n9 (obj_ne _ n8 (obj_ne _ n8 (obj_ne _ n8 (obj_bel m hres))))))
    · exact obj_ne _ mn8_9 (obj_ne _ mn8_9 (obj_ne _ mn8_9 (obj_set3 _ _ _ mo8.out)))
    · exact obj_set3 _ _ _ (obj_ne _ mn9_8 (obj_ne _ mn9_8 (obj_ne _ mn9_8 mo9.out)))
  case round =>
    obtain ⟨j, rfl, hj, hnb, hst⟩ := hrel
    have HST := Lib.hid hst
    have HNB := Lib.hid hnb
    obtain ⟨hown, hiW, hfw, hrw, h5w, h6w, hbw, hsw⟩ := hst
    obtain ⟨va, vc, rfl⟩ := ownG_val hown
    obtain ⟨b0, b1, b2⟩ := box3 hfw
    obtain ⟨d50, d51, d52⟩ := box3 h5w
    obtain ⟨d60, d61, d62⟩ := box3 h6w
    obtain ⟨oa, oc, hov, hoi⟩ := ownG_ins hown
    injection hov with e1 e2 e3
    subst e1 e3
    have hmN : y.w.heap.size ≤ m.w.heap.size := m.size_le
    clear e2 hnb
    rcases Nat.lt_or_ge j L.length with hjl | hjl
    · obtain ⟨g, hg⟩ := some_at hjl
      have hgm := List.mem_of_getElem? hg
      have hgok := HLOK.out g hgm
      have hgn : nodes g ≤ 10000 := nodes_mem_ok hgm hLn
      have HIL2 := Lib.hid hiW
      obtain ⟨bb, off, hadd, hp, hcs⟩ := insF_at hiW (by omega)
      cases hadd
      obtain ⟨c0, c1, ad', cap', c2, hig⟩ := cellF_open (hcs j g hg)
      have f1 : decide ((j : Int) < (L.length : Int)) = true := decide_eq_true (by omega)
      have hib : (0 ≤ (j : Int) ∧ (j : Int) < (L.length : Int)) := ⟨by omega, by omega⟩
      have HTK := Lib.hid (show L.take (j + 1) = L.take j ++ [g] by rw [List.take_add_one, hg]; rfl)
      have hDl := dd_len 4 (L.take j) []
      rw [List.length_nil, List.length_take] at hDl
      have hDn := (dd_size 4 (L.take j) []).1
      rw [nodesL] at hDn
      have hDt := nodesL_take L j
      have HDS := Lib.hid (dd_snoc 4 g (L.take j) [])
      rw [← HTK.out] at HDS
      obtain ⟨D, hDD⟩ : ∃ D, dd 4 [] (L.take j) = D := ⟨_, rfl⟩
      rw [hDD] at hown hDl HDS hDn hoi HST ⊢
      have HS1 := Lib.hid (fun w' (h : InsF (fun b => w.heap.size + 2 ≤ b ∧ b < y.w.heap.size) w' ad' g.l) => Same_any (nodes g) g (Nat.le_refl _) (nd 6 0 []) _ AnyB ad' none cap' 0 w' h (insF_nil _ _ _) (by omega) (by simp [nodes, nodesL]))
      have HS2 := Lib.hid (fun w' (h : InsF (fun b => w.heap.size + 2 ≤ b ∧ b < y.w.heap.size) w' ad' g.l) => Same_any (nodes g) g (Nat.le_refl _) (nd 5 0 []) _ AnyB ad' none cap' 0 w' h (insF_nil _ _ _) (by omega) (by simp [nodes, nodesL]))
      have HIN := Lib.hid (fun w' (h : InsF (fun b => w.heap.size + 2 ≤ b ∧ b < y.w.heap.size) w' ad' g.l) => Inverse_any _ g ad' cap' w' h)
      have HH1 := Lib.hid (fun (P' : Nat → Prop) g5 w' (h : InsF (fun b => w.heap.size + 2 ≤ b ∧ b < y.w.heap.size) w' (some ⟨bb, off, none⟩) L) (h' : InsF P' w' (some ⟨g5, 0, none⟩) [g]) => has_any L (nd 2 0 [g]) _ P' _ _ lc 1 w' h h' (by omega) (by simp [nodes, nodesL]; omega))
      have HH2 := Lib.hid (fun (P : Nat → Prop) w' (h : InsF P w' va D) (h' : InsF (fun b => w.heap.size + 2 ≤ b ∧ b < y.w.heap.size) w' ad' g.l) => has_any D g P _ va ad' vc cap' w' h h' (by omega) (by omega))
      have k_nd : ∀ k a l, (nd k a l).k = k := fun _ _ _ => rfl
      have a_nd : ∀ k a l, (nd k a l).a = a := fun _ _ _ => rfl
      have l_nd : ∀ k a l, (nd k a l).l = l := fun _ _ _ => rfl
      simp only [k_nd, a_nd, l_nd, List.length_cons, List.length_nil, Nat.zero_add] at HS1 HS2 HH1
      clear k_nd a_nd l_nd
      have HIG := Lib.hid hig
      have HO := Lib.hid hown
      have HOI := Lib.hid hoi
      have HGM := Lib.hid (And.intro hgm hgok)
      clear hcs hiW hp hown hoi hg hDD hig hgm hgok
      have HRB := Lib.hid (show rbad 4 L g ↔ (eqF g (nd 6 0 []) = true ∨ decide (nd 2 0 [g] ∈ L) = true) by rw [eqF_iff, decide_eq_true_eq]; exact Iff.rfl)
      have HQ3 := Lib.hid (const_iff (g := g) (c := 5) (by omega) HGM.out.2)
      rw [HQ3.out] at HS2
      obtain ⟨q1, hq1⟩ : ∃ q, eqF g (nd 6 0 []) = q := ⟨_, rfl⟩
      obtain ⟨q2, hq2⟩ : ∃ q, decide (nd 2 0 [g] ∈ L) = q := ⟨_, rfl⟩
      rw [hq1] at HS1 HRB
      rw [hq2] at HH1 HRB
      clear hq1 hq2 HQ3
      cases q1
      · go_wp2_with fail
        refine wp_region_plan 14 (.calm 0 (.calm 1 (.calm 2 (.calm 3 (.calm 4 (.calm 5 (.calm 6 (.calm 7 (.calm 8 (.calm 9 (.calm 10 (.calm 11 (.fork 12 (.calm 13 .tail) .none))))))))))))) (by kernel_rfl) (by kernel_rfl) ?_
        simp only [Plan.walk, operAt, List.getElem?_cons_succ, List.getElem?_cons_zero, Option.getD_some, List.drop_succ_cons, List.drop_zero]
        repeat (refine wpX_calm (fun K hK => ?_); go_simp; first | (refine hK _ _ ?_; clear hK K) | (apply Exists.intro; refine ⟨fun _ => ?_, hK _ _ ?_⟩; (go_at_call 40; exact HS1.out _ (HIG.out.of (by (repeat' (first | (with_reducible exact Below.refl _ _) | (with_reducible exact Nat.le_refl _) | (with_reducible refine Below.bel ?_ ?_) | (with_reducible refine Below.alloc ?_ ?_ _) | (with_reducible refine Below.drew ?_) | (with_reducible refine Below.drawsN ?_ _) | (with_reducible refine Below.setCell ?_ ?_ _) | (with_reducible refine le_bel ?_) | (with_reducible refine le_alloc ?_) | (with_reducible refine le_setCell ?_) | (with_reducible refine le_drew ?_) | (with_reducible refine le_drawsN ?_) | (dsimp only; with_reducible refine le_bel ?_) | (dsimp only; with_reducible refine Nat.le_refl _) | (dsimp only; with_reducible refine le_bel_add ?_) | (with_reducible assumption) | omega | (dsimp only; omega)))))); clear hK K))
        refine wpX_only (fun K hK => ?_)
        go_simp
        intro x
        refine (HIN.out _ (HIG.out.of (by (repeat' (first | (with_reducible exact Below.refl _ _) | (with_reducible exact Nat.le_refl _) | (with_reducible refine Below.bel ?_ ?_) | (with_reducible refine Below.alloc ?_ ?_ _) | (with_reducible refine Below.drew ?_) | (with_reducible refine Below.drawsN ?_ _) | (with_reducible refine Below.setCell ?_ ?_ _) | (with_reducible refine le_bel ?_) | (with_reducible refine le_alloc ?_) | (with_reducible refine le_setCell ?_) | (with_reducible refine le_drew ?_) | (with_reducible refine le_drawsN ?_) | (dsimp only; with_reducible refine le_bel ?_) | (dsimp only; with_reducible refine Nat.le_refl _) | (dsimp only; with_reducible refine le_bel_add ?_) | (with_reducible assumption) | omega | (dsimp only; omega)))))).mono ?_
        rintro _ _ ⟨g5, hg5s, rfl, y2, rfl, hi6⟩
        have HI6 := Lib.hid hi6
        clear hi6
        refine ⟨_, rfl, y2.below, hK _ _ ?_⟩
        clear hK K
        have hxz := x.size_le
        have hyz := y2.size_le
        repeat (refine wpX_calm (fun K hK => ?_); go_simp; first | (refine hK _ _ ?_; clear hK K) | (apply Exists.intro; refine ⟨fun _ => ?_, hK _ _ ?_⟩; (go_at_call 46; exact HH1.out _ _ _ (HIL2.out.of (by (repeat' (first | (with_reducible exact Below.refl _ _) | (with_reducible exact Nat.le_refl _) | (with_reducible refine Below.bel ?_ ?_) | (with_reducible refine Below.alloc ?_ ?_ _) | (with_reducible refine Below.drew ?_) | (with_reducible refine Below.drawsN ?_ _) | (with_reducible refine Below.setCell ?_ ?_ _) | (with_reducible refine le_bel ?_) | (with_reducible refine le_alloc ?_) | (with_reducible refine le_setCell ?_) | (with_reducible refine le_drew ?_) | (with_reducible refine le_drawsN ?_) | (dsimp only; with_reducible refine le_bel ?_) | (dsimp only; with_reducible refine Nat.le_refl _) | (dsimp only; with_reducible refine le_bel_add ?_) | (with_reducible assumption) | omega | (dsimp only; omega))))) (HI6.out.of (by (repeat' (first | (with_reducible exact Below.refl _ _) | (with_reducible exact Nat.le_refl _) | (with_reducible refine Below.bel ?_ ?_) | (with_reducible refine Below.alloc ?_ ?_ _) | (with_reducible refine Below.drew ?_) | (with_reducible refine Below.drawsN ?_ _) | (with_reducible refine Below.setCell ?_ ?_ _) | (with_reducible refine le_bel ?_) | (with_reducible refine le_alloc ?_) | (with_reducible refine le_setCell ?_) | (with_reducible refine le_drew ?_) | (with_reducible refine le_drawsN ?_) | (dsimp only; with_reducible refine le_bel ?_) | (dsimp only; with_reducible refine Nat.le_refl _) | (dsimp only; with_reducible refine le_bel_add ?_) | (with_reducible assumption) | omega | (dsimp only; omega)))))); clear hK K))
        refine wpX_tail ?_
        intro z
        have hbz : Below wr.heap.size wr z.w := by (repeat' (first | (with_reducible exact Below.refl _ _) | (with_reducible exact Nat.le_refl _) | (with_reducible refine Below.bel ?_ ?_) | (with_reducible refine Below.alloc ?_ ?_ _) | (with_reducible refine Below.drew ?_) | (with_reducible refine Below.drawsN ?_ _) | (with_reducible refine Below.setCell ?_ ?_ _) | (with_reducible refine le_bel ?_) | (with_reducible refine le_alloc ?_) | (with_reducible refine le_setCell ?_) | (with_reducible refine le_drew ?_) | (with_reducible refine le_drawsN ?_) | (dsimp only; with_reducible refine le_bel ?_) | (dsimp only; with_reducible refine Nat.le_refl _) | (dsimp only; with_reducible refine le_bel_add ?_) | (with_reducible assumption) | omega | (dsimp only; omega)))
        cases q2
        · have HRN := Lib.hid (show ¬ rbad 4 L g from fun h => by simpa using HRB.out.1 h)
          have HSZ := Lib.hid (HST.out.keep hbz)
          obtain ⟨_, _, _, _, _, h6z, hbw2, _⟩ := HSZ.out
          obtain ⟨d63, d64, d65⟩ := box3 h6z
          have hbs := hbz.size
          obtain ⟨cc0, cc1, cc2⟩ : z.w.cell? ⟨bb, off + j * 3, none⟩ = some (.int .i64 g.k) ∧ z.w.cell? ⟨bb, off + j * 3 + 1, none⟩ = some (.int .i64 g.a) ∧ z.w.cell? ⟨bb, off + j * 3 + 2, none⟩ = some (.slice ad' g.l.length cap') := ⟨below_cell hbz _ _ _ c0, below_cell hbz _ _ _ c1, below_cell hbz _ _ _ c2⟩
          go_wp2_with fail
          obtain ⟨q3, hq3⟩ : ∃ q, decide (g.k = 5) = q := ⟨_, rfl⟩
          obtain ⟨q4, hq4⟩ : ∃ q, decide (g ∈ D) = q := ⟨_, rfl⟩
          rw [hq3] at HS2
          rw [hq4] at HH2
          have HQ3 := Lib.hid hq3
          have HQ4 := Lib.hid hq4
          clear hq3 hq4
          cases q3
          · cases q4
            · refine wp_region_bel (by kernel_rfl) (by kernel_rfl) ?_
              repeat (go_big_quiet_step ((first | (go_at_call 40; with_reducible refine bel_of (HS2.out _ (HIG.out.of ?_)) <;> (repeat' (first | (with_reducible exact Below.refl _ _) | (with_reducible exact Nat.le_refl _) | (with_reducible refine Below.bel ?_ ?_) | (with_reducible refine Below.alloc ?_ ?_ _) | (with_reducible refine Below.drew ?_) | (with_reducible refine Below.drawsN ?_ _) | (with_reducible refine Below.setCell ?_ ?_ _) | (with_reducible refine le_bel ?_) | (with_reducible refine le_alloc ?_) | (with_reducible refine le_setCell ?_) | (with_reducible refine le_drew ?_) | (with_reducible refine le_drawsN ?_) | (dsimp only; with_reducible refine le_bel ?_) | (dsimp only; with_reducible refine Nat.le_refl _) | (dsimp only; with_reducible refine le_bel_add ?_) | (with_reducible assumption) | omega | (dsimp only; omega)))) | (go_at_call 46; with_reducible refine bel_of (HH2.out _ _ (HOI.out.of ?_) (HIG.out.of ?_)) <;> (repeat' (first | (with_reducible exact Below.refl _ _) | (with_reducible exact Nat.le_refl _) | (with_reducible refine Below.bel ?_ ?_) | (with_reducible refine Below.alloc ?_ ?_ _) | (with_reducible refine Below.drew ?_) | (with_reducible refine Below.drawsN ?_ _) | (with_reducible refine Below.setCell ?_ ?_ _) | (with_reducible refine le_bel ?_) | (with_reducible refine le_alloc ?_) | (with_reducible refine le_setCell ?_) | (with_reducible refine le_drew ?_) | (with_reducible refine le_drawsN ?_) | (dsimp only; with_reducible refine le_bel ?_) | (dsimp only; with_reducible refine Nat.le_refl _) | (dsimp only; with_reducible refine le_bel_add ?_) | (with_reducible assumption) | omega | (dsimp only; omega)))))))
              refine wpQuiet_nil ?_
              rintro _ ⟨x2, rfl⟩
              have hbx : Below wr.heap.size wr x2.w := by (repeat' (first | (with_reducible exact Below.refl _ _) | (with_reducible exact Nat.le_refl _) | (with_reducible refine Below.bel ?_ ?_) | (with_reducible refine Below.alloc ?_ ?_ _) | (with_reducible refine Below.drew ?_) | (with_reducible refine Below.drawsN ?_ _) | (with_reducible refine Below.setCell ?_ ?_ _) | (with_reducible refine le_bel ?_) | (with_reducible refine le_alloc ?_) | (with_reducible refine le_setCell ?_) | (with_reducible refine le_drew ?_) | (with_reducible refine le_drawsN ?_) | (dsimp only; with_reducible refine le_bel ?_) | (dsimp only; with_reducible refine Nat.le_refl _) | (dsimp only; with_reducible refine le_bel_add ?_) | (with_reducible assumption) | omega | (dsimp only; omega)))
              have HDS2 := Lib.hid HDS.out
              rw [if_neg (fun h => h.elim (of_decide_eq_false HQ3.out) (of_decide_eq_false HQ4.out))] at HDS2
              have hbx2 := hbx.size
              have hba : Below x2.w.heap.size x2.w (x2.w.alloc (.cells #[.int .i64 g.k, .int .i64 g.a, .slice ad' g.l.length cap'] 36)) := by (repeat' (first | (with_reducible exact Below.refl _ _) | (with_reducible exact Nat.le_refl _) | (with_reducible refine Below.bel ?_ ?_) | (with_reducible refine Below.alloc ?_ ?_ _) | (with_reducible refine Below.drew ?_) | (with_reducible refine Below.drawsN ?_ _) | (with_reducible refine Below.setCell ?_ ?_ _) | (with_reducible refine le_bel ?_) | (with_reducible refine le_alloc ?_) | (with_reducible refine le_setCell ?_) | (with_reducible refine le_drew ?_) | (with_reducible refine le_drawsN ?_) | (dsimp only; with_reducible refine le_bel ?_) | (dsimp only; with_reducible refine Nat.le_refl _) | (dsimp only; with_reducible refine le_bel_add ?_) | (with_reducible assumption) | omega | (dsimp only; omega)))
              have hbz2 : Below wr.heap.size wr (x2.w.alloc (.cells #[.int .i64 g.k, .int .i64 g.a, .slice ad' g.l.length cap'] 36)) := hbx.trans (hba.mono hbx2)
              have HOZ := Lib.hid (show OwnG (x2.w.alloc (.cells #[.int .i64 g.k, .int .i64 g.a, .slice ad' g.l.length cap'] 36)) m.w.heap.size (fun b => w.heap.size + 2 ≤ b ∧ b < y.w.heap.size) 36 (.slice va D.length vc) D from ownG_bel HO.out ⟨_, hbz2⟩)
              have HCZ2 := Lib.hid (show InsC (fun b => (w.heap.size + 2 ≤ b ∧ b < y.w.heap.size) ∧ (Value.slice va D.length vc).ownBlock ≠ some b) (x2.w.alloc (.cells #[.int .i64 g.k, .int .i64 g.a, .slice ad' g.l.length cap'] 36)) (some ⟨x2.w.heap.size, 0, none⟩) [g] from
                insC_one (E := 36) (ad := ad') (cap := cap') (World.alloc_heap_new _ _) ((HIG.out.of hbz2).imp fun b _ hb => ⟨hb, ownG_avoid HO.out (.inr (by omega))⟩))
              go_wp2_with (at_builtin; refine wpList_appG rfl _ _ 34 36 rfl i0 Tryd.underlying34 hi0 hz0 hz1 hz2 _ m.w.heap.size (fun b => w.heap.size + 2 ≤ b ∧ b < y.w.heap.size) (.slice va D.length vc) D [g] (some ⟨x2.w.heap.size, 0, none⟩) 1 rfl HOZ.out HCZ2.out rfl (by simp; omega) (by simp; omega) ?_; intro va2 vc2 w4 hof hbw; have HBW := Lib.hid hbw; have HOF := Lib.hid hof; have hbws := hbw.size; simp at hbws; clear hof hbw)
              go_roundw
              case rel => exact ⟨j + 1, by go_num, by omega, by rw [HTK.out]; intro u hu; rcases List.mem_append.1 hu with hu | hu; exact HNB.out u hu; rw [List.mem_singleton.1 hu]; exact HRN.out, by rw [HDS2.out]; exact HST.out.next hlo hmN hlt8 hlt9 hbz2 HBW.out HOF.out⟩
              case measure => simp [intOf]; omega
            · refine wp_region_bel (by kernel_rfl) (by kernel_rfl) ?_
              repeat (go_big_quiet_step ((first | (go_at_call 40; with_reducible refine bel_of (HS2.out _ (HIG.out.of ?_)) <;> (repeat' (first | (with_reducible exact Below.refl _ _) | (with_reducible exact Nat.le_refl _) | (with_reducible refine Below.bel ?_ ?_) | (with_reducible refine Below.alloc ?_ ?_ _) | (with_reducible refine Below.drew ?_) | (with_reducible refine Below.drawsN ?_ _) | (with_reducible refine Below.setCell ?_ ?_ _) | (with_reducible refine le_bel ?_) | (with_reducible refine le_alloc ?_) | (with_reducible refine le_setCell ?_) | (with_reducible refine le_drew ?_) | (with_reducible refine le_drawsN ?_) | (dsimp only; with_reducible refine le_bel ?_) | (dsimp only; with_reducible refine Nat.le_refl _) | (dsimp only; with_reducible refine le_bel_add ?_) | (with_reducible assumption) | omega | (dsimp only; omega)))) | (go_at_call 46; with_reducible refine bel_of (HH2.out _ _ (HOI.out.of ?_) (HIG.out.of ?_)) <;> (repeat' (first | (with_reducible exact Below.refl _ _) | (with_reducible exact Nat.le_refl _) | (with_reducible refine Below.bel ?_ ?_) | (with_reducible refine Below.alloc ?_ ?_ _) | (with_reducible refine Below.drew ?_) | (with_reducible refine Below.drawsN ?_ _) | (with_reducible refine Below.setCell ?_ ?_ _) | (with_reducible refine le_bel ?_) | (with_reducible refine le_alloc ?_) | (with_reducible refine le_setCell ?_) | (with_reducible refine le_drew ?_) | (with_reducible refine le_drawsN ?_) | (dsimp only; with_reducible refine le_bel ?_) | (dsimp only; with_reducible refine Nat.le_refl _) | (dsimp only; with_reducible refine le_bel_add ?_) | (with_reducible assumption) | omega | (dsimp only; omega)))))))
              refine wpQuiet_nil ?_
              rintro _ ⟨x2, rfl⟩
              have hbx : Below wr.heap.size wr x2.w := by (repeat' (first | (with_reducible exact Below.refl _ _) | (with_reducible exact Nat.le_refl _) | (with_reducible refine Below.bel ?_ ?_) | (with_reducible refine Below.alloc ?_ ?_ _) | (with_reducible refine Below.drew ?_) | (with_reducible refine Below.drawsN ?_ _) | (with_reducible refine Below.setCell ?_ ?_ _) | (with_reducible refine le_bel ?_) | (with_reducible refine le_alloc ?_) | (with_reducible refine le_setCell ?_) | (with_reducible refine le_drew ?_) | (with_reducible refine le_drawsN ?_) | (dsimp only; with_reducible refine le_bel ?_) | (dsimp only; with_reducible refine Nat.le_refl _) | (dsimp only; with_reducible refine le_bel_add ?_) | (with_reducible assumption) | omega | (dsimp only; omega)))
              have HDS2 := Lib.hid HDS.out
              rw [if_pos (.inr (of_decide_eq_true HQ4.out))] at HDS2
              go_wp2
              go_roundw
              case rel => exact ⟨j + 1, by go_num, by omega, by rw [HTK.out]; intro u hu; rcases List.mem_append.1 hu with hu | hu; exact HNB.out u hu; rw [List.mem_singleton.1 hu]; exact HRN.out, by rw [HDS2.out]; exact HST.out.keep hbx⟩
              case measure => simp [intOf]; omega
          · refine wp_region_bel (by kernel_rfl) (by kernel_rfl) ?_
            repeat (go_big_quiet_step ((first | (go_at_call 40; with_reducible refine bel_of (HS2.out _ (HIG.out.of ?_)) <;> (repeat' (first | (with_reducible exact Below.refl _ _) | (with_reducible exact Nat.le_refl _) | (with_reducible refine Below.bel ?_ ?_) | (with_reducible refine Below.alloc ?_ ?_ _) | (with_reducible refine Below.drew ?_) | (with_reducible refine Below.drawsN ?_ _) | (with_reducible refine Below.setCell ?_ ?_ _) | (with_reducible refine le_bel ?_) | (with_reducible refine le_alloc ?_) | (with_reducible refine le_setCell ?_) | (with_reducible refine le_drew ?_) | (with_reducible refine le_drawsN ?_) | (dsimp only; with_reducible refine le_bel ?_) | (dsimp only; with_reducible refine Nat.le_refl _) | (dsimp only; with_reducible refine le_bel_add ?_) | (with_reducible assumption) | omega | (dsimp only; omega)))) | (go_at_call 46; with_reducible refine bel_of (HH2.out _ _ (HOI.out.of ?_) (HIG.out.of ?_)) <;> (repeat' (first | (with_reducible exact Below.refl _ _) | (with_reducible exact Nat.le_refl _) | (with_reducible refine Below.bel ?_ ?_) | (with_reducible refine Below.alloc ?_ ?_ _) | (with_reducible refine Below.drew ?_) | (with_reducible refine Below.drawsN ?_ _) | (with_reducible refine Below.setCell ?_ ?_ _) | (with_reducible refine le_bel ?_) | (with_reducible refine le_alloc ?_) | (with_reducible refine le_setCell ?_) | (with_reducible refine le_drew ?_) | (with_reducible refine le_drawsN ?_) | (dsimp only; with_reducible refine le_bel ?_) | (dsimp only; with_reducible refine Nat.le_refl _) | (dsimp only; with_reducible refine le_bel_add ?_) | (with_reducible assumption) | omega | (dsimp only; omega)))))))
            refine wpQuiet_nil ?_
            rintro _ ⟨x2, rfl⟩
            have hbx : Below wr.heap.size wr x2.w := by (repeat' (first | (with_reducible exact Below.refl _ _) | (with_reducible exact Nat.le_refl _) | (with_reducible refine Below.bel ?_ ?_) | (with_reducible refine Below.alloc ?_ ?_ _) | (with_reducible refine Below.drew ?_) | (with_reducible refine Below.drawsN ?_ _) | (with_reducible refine Below.setCell ?_ ?_ _) | (with_reducible refine le_bel ?_) | (with_reducible refine le_alloc ?_) | (with_reducible refine le_setCell ?_) | (with_reducible refine le_drew ?_) | (with_reducible refine le_drawsN ?_) | (dsimp only; with_reducible refine le_bel ?_) | (dsimp only; with_reducible refine Nat.le_refl _) | (dsimp only; with_reducible refine le_bel_add ?_) | (with_reducible assumption) | omega | (dsimp only; omega)))
            have HDS2 := Lib.hid HDS.out
            rw [if_pos (.inl (of_decide_eq_true HQ3.out))] at HDS2
            go_wp2
            go_roundw
            case rel => exact ⟨j + 1, by go_num, by omega, by rw [HTK.out]; intro u hu; rcases List.mem_append.1 hu with hu | hu; exact HNB.out u hu; rw [List.mem_singleton.1 hu]; exact HRN.out, by rw [HDS2.out]; exact HST.out.keep hbx⟩
            case measure => simp [intOf]; omega
        · have HJS := Lib.hid (joinF_yes HLOK.out HGM.out.1 (HRB.out.2 (by simp)))
          have HSZ := Lib.hid (HST.out.keep hbz)
          obtain ⟨_, _, _, hrz, h5z, _, hbz, _⟩ := HSZ.out
          obtain ⟨r0, r1, r2⟩ := box3 hrz
          obtain ⟨s0, s1, s2⟩ := box3f hrz
          obtain ⟨t0, t1, t2⟩ := box3 h5z
          have HBF := Lib.hid hbz
          go_wp2
          have hR := obj_set3 (.int .i64 6) (.int .i64 0) (.slice none 0 0) hrz
          obtain ⟨x0, x1, x2⟩ := box3 hR
          exact bodyPost_ret (v := .agg #[.int .i64 6, .int .i64 0, .slice none 0 0]) (by simp [results, Tryd.results19, go_sem, x0, x1, x2]) rfl (by rw [HJS.out]; exact RetF.mk (t := nd 6 0 []) none 0 rfl (((HBF.out.setCell (p := ⟨w.heap.size + 1, 0, none⟩) (by simp) _).setCell (p := ⟨w.heap.size + 1, 1, none⟩) (by simp) _).setCell (p := ⟨w.heap.size + 1, 2, none⟩) (by simp) _) (insF_nil _ _ _))
      · go_wp2_with fail
        refine wp_region_bel (by kernel_rfl) (by kernel_rfl) ?_
        repeat (go_big_quiet_step ((go_at_call 40; with_reducible refine bel_of (HS1.out _ (HIG.out.of ?_)) <;> (repeat' (first | (with_reducible exact Below.refl _ _) | (with_reducible exact Nat.le_refl _) | (with_reducible refine Below.bel ?_ ?_) | (with_reducible refine Below.alloc ?_ ?_ _) | (with_reducible refine Below.drew ?_) | (with_reducible refine Below.drawsN ?_ _) | (with_reducible refine Below.setCell ?_ ?_ _) | (with_reducible refine le_bel ?_) | (with_reducible refine le_alloc ?_) | (with_reducible refine le_setCell ?_) | (with_reducible refine le_drew ?_) | (with_reducible refine le_drawsN ?_) | (dsimp only; with_reducible refine le_bel ?_) | (dsimp only; with_reducible refine Nat.le_refl _) | (dsimp only; with_reducible refine le_bel_add ?_) | (with_reducible assumption) | omega | (dsimp only; omega))))))
        refine wpQuiet_nil ?_
        rintro _ ⟨x, rfl⟩
        have HJS := Lib.hid (joinF_yes HLOK.out HGM.out.1 (HRB.out.2 (by simp)))
        have HSZ := Lib.hid (HST.out.keep x.below)
        obtain ⟨_, _, _, hrz, h5z, _, hbz, _⟩ := HSZ.out
        obtain ⟨r0, r1, r2⟩ := box3 hrz
        obtain ⟨s0, s1, s2⟩ := box3f hrz
        obtain ⟨t0, t1, t2⟩ := box3 h5z
        have HBF := Lib.hid hbz
        go_wp2
        have hR := obj_set3 (.int .i64 6) (.int .i64 0) (.slice none 0 0) hrz
        obtain ⟨x0, x1, x2⟩ := box3 hR
        exact bodyPost_ret (v := .agg #[.int .i64 6, .int .i64 0, .slice none 0 0]) (by simp [results, Tryd.results19, go_sem, x0, x1, x2]) rfl (by rw [HJS.out]; exact RetF.mk (t := nd 6 0 []) none 0 rfl (((HBF.out.setCell (p := ⟨w.heap.size + 1, 0, none⟩) (by simp) _).setCell (p := ⟨w.heap.size + 1, 1, none⟩) (by simp) _).setCell (p := ⟨w.heap.size + 1, 2, none⟩) (by simp) _) (insF_nil _ _ _))
    · have hje : j = L.length := by omega
      subst hje
      have f1 : decide ((L.length : Int) < (L.length : Int)) = false := decide_eq_false (by omega)
      rw [List.take_length] at HNB hoi
      obtain ⟨r0, r1, r2⟩ := box3 hrw
      obtain ⟨s0, s1, s2⟩ := box3f hrw
      have HJJ := Lib.hid (joinF_no HLOK.out HNB.out)
      obtain ⟨D, hD⟩ : ∃ D, dd 4 [] L = D := ⟨_, rfl⟩
      rw [List.take_length] at hown ⊢
      rw [hD] at hown hoi HJJ ⊢
      have HBF := Lib.hid hbw
      have HOI := Lib.hid (show InsF (fun b => w.heap.size + 2 ≤ b) wr va D from hoi.imp fun b _ hb => by rcases hb with hb | hb <;> omega)
      clear hown hoi hiW hD HST HNB hbw
      have hmv : ∀ (ad : Option Addr) (l : List F) (a b c : Value), InsF (fun b => w.heap.size + 2 ≤ b) wr ad l → InsF (fun b => w.heap.size ≤ b) (((wr.setCell ⟨w.heap.size + 1, 0, none⟩ a).setCell ⟨w.heap.size + 1, 1, none⟩ b).setCell ⟨w.heap.size + 1, 2, none⟩ c) ad l := fun ad l a b c h => by
        have hn : ∀ b, w.heap.size + 2 ≤ b → b ≠ w.heap.size + 1 := fun b h => by omega
        exact (insF_set (insF_set (insF_set h hn) hn) hn).imp fun b _ h => by omega
      have HMV := Lib.hid hmv
      clear hmv
      rcases D with _ | ⟨t, _ | ⟨t2, r⟩⟩
      · rw [List.length_nil]
        go_wp2
        have hR := obj_set3 (.int .i64 5) (.int .i64 0) (.slice none 0 0) hrw
        obtain ⟨x0, x1, x2⟩ := box3 hR
        exact bodyPost_ret (v := .agg #[.int .i64 5, .int .i64 0, .slice none 0 0]) (by simp [results, Tryd.results19, go_sem, x0, x1, x2]) rfl (by rw [HJJ.out]; exact RetF.mk (t := nd 5 0 []) none 0 rfl (((HBF.out.setCell (p := ⟨w.heap.size + 1, 0, none⟩) (by simp) _).setCell (p := ⟨w.heap.size + 1, 1, none⟩) (by simp) _).setCell (p := ⟨w.heap.size + 1, 2, none⟩) (by simp) _) (insF_nil _ _ _))
      · obtain ⟨bb, off, rfl, hp, hcs⟩ := insF_at HOI.out (by simp)
        obtain ⟨c0, c1, ad', cap', c2, hit⟩ := cellF_open (hcs 0 t rfl)
        rw [Nat.zero_mul, Nat.add_zero] at c0 c1 c2
        have HIT := Lib.hid hit
        clear hcs hit
        rw [List.length_singleton]
        go_wp2
        have hR := obj_set3 (.int .i64 t.k) (.int .i64 t.a) (.slice ad' t.l.length cap') hrw
        obtain ⟨x0, x1, x2⟩ := box3 hR
        exact bodyPost_ret (v := .agg #[.int .i64 t.k, .int .i64 t.a, .slice ad' t.l.length cap']) (by simp [results, Tryd.results19, go_sem, x0, x1, x2]) rfl (by rw [HJJ.out]; exact RetF.mk (t := t) ad' cap' rfl (((HBF.out.setCell (p := ⟨w.heap.size + 1, 0, none⟩) (by simp) _).setCell (p := ⟨w.heap.size + 1, 1, none⟩) (by simp) _).setCell (p := ⟨w.heap.size + 1, 2, none⟩) (by simp) _) (HMV.out _ _ _ _ _ HIT.out))
      · rw [show pickF 4 (t :: t2 :: r) = nd 4 0 (t :: t2 :: r) from rfl] at HJJ
        obtain ⟨DD, hDD⟩ : ∃ DD, t :: t2 :: r = DD := ⟨_, rfl⟩
        have hdl : 2 ≤ DD.length := by rw [← hDD]; simp
        rw [hDD] at HOI HJJ ⊢
        clear hDD
        have f5 : ((DD.length : Int) == 0) = false := beq_eq_false_iff_ne.2 (by omega)
        have f6 : ((DD.length : Int) == 1) = false := beq_eq_false_iff_ne.2 (by omega)
        go_wp2
        have hR := obj_set3 (.int .i64 4) (.int .i64 0) (.slice va DD.length vc) hrw
        obtain ⟨x0, x1, x2⟩ := box3 hR
        exact bodyPost_ret (v := .agg #[.int .i64 4, .int .i64 0, .slice va DD.length vc]) (by simp [results, Tryd.results19, go_sem, x0, x1, x2]) rfl (by rw [HJJ.out]; exact RetF.mk (t := nd 4 0 DD) va vc rfl (((HBF.out.setCell (p := ⟨w.heap.size + 1, 0, none⟩) (by simp) _).setCell (p := ⟨w.heap.size + 1, 1, none⟩) (by simp) _).setCell (p := ⟨w.heap.size + 1, 2, none⟩) (by simp) _) (HMV.out _ _ _ _ _ HOI.out))
end Go.Proofs.YtkbellmhanpocaaDoor

namespace Go.Proofs.YtkbellmhanpocaaDoor
set_option linter.unusedVariables false
set_option linter.unusedSimpArgs false
open Go.RowKit F
attribute [local go_sem low] Bel.cell Bel.frozen alloc_cell alloc_frozen
attribute [local go_sem] calmOp chainOp yieldsC grows

set_option maxRecDepth 100000 in
set_option maxHeartbeats 12800000 in
theorem refSimplify_any : ∀ (N : Nat) (t : F), nodes t ≤ N → okT t → ∀ (P : Nat → Prop) (ad : Option Addr) (cap : Nat) (w : World), InsF P w ad t.l → nodes t ≤ 10000 →
    Calls Tryd.prog 19 #[.agg #[.int .i64 t.k, .int .i64 t.a, .slice ad t.l.length cap]] w (RetF (smp t) w) := by
  obtain ⟨i0, hi0, hz0, hz1, hz2⟩ := info_parts Tryd.infoT
  intro N
  induction N with
  | zero => intro t h; have := nodes_pos t; omega
  | succ N ih =>
    intro t hN hok P ad cap w hi hbig
    have HNL := Lib.hid (show nodesL t.l ≤ N by rw [nodes_l] at hN; omega)
    have HBIG := Lib.hid (show nodesL t.l ≤ 10000 by rw [nodes_l] at hbig; omega)
    have hlen : t.l.length ≤ 10000 := Nat.le_trans (length_nodesL t.l) HBIG.out
    have hlt : InsF (fun c => c < w.heap.size) w ad t.l := hi.imp fun b hb _ => hb
    have HOKL := Lib.hid (okT_l hok)
    clear hi hN hbig
    obtain ⟨tk, ta, tl⟩ := t
    simp only [F.k, F.a, F.l] at HNL HBIG hlen hlt HOKL ⊢
    rcases single_cases hok.1 with ⟨rfl, h1, h2, rfl⟩ | ⟨rfl, rfl, t, rfl⟩ | ⟨hk, rfl, hl⟩ | ⟨hk, rfl, rfl⟩
    · rw [smp, if_neg (by decide), if_neg (by decide)]
      go_enter Tryd.func19, Tryd.ntmps19
      go_wp2
      refine bodyPost_ret (v := .agg #[.int .i64 1, .int .i64 ta, .slice ad 0 cap]) (by simp [results, Tryd.results19, go_sem]) rfl (RetF.mk ad cap rfl (by (repeat' (first | (with_reducible exact Below.refl _ _) | (with_reducible exact Nat.le_refl _) | (with_reducible refine Below.bel ?_ ?_) | (with_reducible refine Below.alloc ?_ ?_ _) | (with_reducible refine Below.drew ?_) | (with_reducible refine Below.drawsN ?_ _) | (with_reducible refine Below.setCell ?_ ?_ _) | (with_reducible refine le_bel ?_) | (with_reducible refine le_alloc ?_) | (with_reducible refine le_setCell ?_) | (with_reducible refine le_drew ?_) | (with_reducible refine le_drawsN ?_) | (dsimp only; with_reducible refine le_bel ?_) | (dsimp only; with_reducible refine Nat.le_refl _) | (dsimp only; with_reducible refine le_bel_add ?_) | (with_reducible assumption) | omega | (dsimp only; omega)))) (insF_nil _ _ _))
    · -- Not
      obtain ⟨bb, off, rfl, hp, hcs⟩ := insF_at hlt (by simp)
      obtain ⟨c0, c1, ad', cap', c2, hiu⟩ := cellF_open (hcs 0 t rfl)
      rw [Nat.zero_mul, Nat.add_zero] at c0 c1 c2
      rw [smp, if_pos rfl, smpH]
      have htn : nodes t ≤ N ∧ nodes t ≤ 10000 := by have h1 := HNL.out; have h2 := HBIG.out; rw [nodesL, nodesL] at h1 h2; omega
      have HI := Lib.hid (fun w' (hiu : InsF (fun c => c < w.heap.size) w' ad' t.l) => ih t htn.1 HOKL.out.1 _ ad' cap' w' hiu htn.2)
      have HU := Lib.hid hiu
      have hXok := smp_ok t HOKL.out.1 htn.2
      have hXn := (smp_size t HOKL.out.1).1
      clear hiu hcs hlt
      obtain ⟨X, hX⟩ : ∃ X, smp t = X := ⟨_, rfl⟩
      rw [hX] at HI hXok hXn ⊢
      clear hX
      have hXn : nodes X ≤ 10000 := by omega
      clear htn
      obtain ⟨xk, xa, xl⟩ := X
      have HFC := Lib.hid refConstant_any
      have HFI := Lib.hid (fun w' ad' cap' (hi : InsF (fun b => w.heap.size + 2 ≤ b) w' ad' xl) => Inverse_any (fun b => w.heap.size + 2 ≤ b) (nd xk xa xl) ad' cap' w' hi)
      simp only [F.k, F.a, F.l] at HI HFI ⊢
      rcases single_cases hXok.1 with ⟨rfl, h1, h2, rfl⟩ | ⟨rfl, rfl, h, rfl⟩ | ⟨hk, rfl, hl⟩ | ⟨hk, rfl, rfl⟩
      · rw [show negF (nd 1 xa []) = nd 2 0 [nd 1 xa []] from rfl]
        go_enter Tryd.func19, Tryd.ntmps19
        go_wp2_with fail
        refine (HI.out _ (HU.out.of (by (repeat' (first | (with_reducible exact Below.refl _ _) | (with_reducible exact Nat.le_refl _) | (with_reducible refine Below.bel ?_ ?_) | (with_reducible refine Below.alloc ?_ ?_ _) | (with_reducible refine Below.drew ?_) | (with_reducible refine Below.drawsN ?_ _) | (with_reducible refine Below.setCell ?_ ?_ _) | (with_reducible refine le_bel ?_) | (with_reducible refine le_alloc ?_) | (with_reducible refine le_setCell ?_) | (with_reducible refine le_drew ?_) | (with_reducible refine le_drawsN ?_) | (dsimp only; with_reducible refine le_bel ?_) | (dsimp only; with_reducible refine Nat.le_refl _) | (dsimp only; with_reducible refine le_bel_add ?_) | (with_reducible assumption) | omega | (dsimp only; omega)))))).mono ?_
        rintro _ _ ⟨_, rfl, y, rfl, ad5, cap5, rfl, hi5⟩
        have HI5 := Lib.hid (hi5.imp fun b _ h => (show w.heap.size + 2 ≤ b by simp at h; omega))
        clear hi5
        have hres := obj_bel y (heap2_1 w (.cells #[.int .i64 2, .int .i64 0, .slice (some ⟨bb, off, none⟩) 1 cap] 36) (.cells #[.int .i64 0, .int .i64 0, .slice none 0 0] 36))
        have hys := y.size_le
        simp at hys
        dsimp only [F.k, F.a, F.l] at HI5 ⊢
        go_wp2_with fail
        refine (HFI.out _ _ _ (HI5.out.of (by (repeat' (first | (with_reducible exact Below.refl _ _) | (with_reducible exact Nat.le_refl _) | (with_reducible refine Below.bel ?_ ?_) | (with_reducible refine Below.alloc ?_ ?_ _) | (with_reducible refine Below.drew ?_) | (with_reducible refine Below.drawsN ?_ _) | (with_reducible refine Below.setCell ?_ ?_ _) | (with_reducible refine le_bel ?_) | (with_reducible refine le_alloc ?_) | (with_reducible refine le_setCell ?_) | (with_reducible refine le_drew ?_) | (with_reducible refine le_drawsN ?_) | (dsimp only; with_reducible refine le_bel ?_) | (dsimp only; with_reducible refine Nat.le_refl _) | (dsimp only; with_reducible refine le_bel_add ?_) | (with_reducible assumption) | omega | (dsimp only; omega)))))).mono ?_
        rintro _ _ ⟨g5, hg5s, rfl, y2, rfl, hi6⟩
        simp at hg5s
        have HI6 := Lib.hid hi6
        clear hi6
        have hby : Below y.w.heap.size y.w y2.w := by (repeat' (first | (with_reducible exact Below.refl _ _) | (with_reducible exact Nat.le_refl _) | (with_reducible refine Below.bel ?_ ?_) | (with_reducible refine Below.alloc ?_ ?_ _) | (with_reducible refine Below.drew ?_) | (with_reducible refine Below.drawsN ?_ _) | (with_reducible refine Below.setCell ?_ ?_ _) | (with_reducible refine le_bel ?_) | (with_reducible refine le_alloc ?_) | (with_reducible refine le_setCell ?_) | (with_reducible refine le_drew ?_) | (with_reducible refine le_drawsN ?_) | (dsimp only; with_reducible refine le_bel ?_) | (dsimp only; with_reducible refine Nat.le_refl _) | (dsimp only; with_reducible refine le_bel_add ?_) | (with_reducible assumption) | omega | (dsimp only; omega)))
        have hres2 := obj_bel ⟨_, hby⟩ hres
        obtain ⟨r0, r1, r2⟩ := box3 hres2
        obtain ⟨g0, g1, g2⟩ := box3f hres2
        have hys2 := y2.size_le
        simp at hys2
        dsimp only
        go_wp2
        have hR := obj_set3 (.int .i64 2) (.int .i64 0) (.slice (some ⟨g5, 0, none⟩) 1 1) hres2
        obtain ⟨q0, q1, q2⟩ := box3 hR
        refine bodyPost_ret (v := .agg #[.int .i64 2, .int .i64 0, .slice (some ⟨g5, 0, none⟩) 1 1]) (by simp [results, Tryd.results19, go_sem, q0, q1, q2]) rfl (RetF.mk (some ⟨g5, 0, none⟩) 1 rfl (by (repeat' (first | (with_reducible exact Below.refl _ _) | (with_reducible exact Nat.le_refl _) | (with_reducible refine Below.bel ?_ ?_) | (with_reducible refine Below.alloc ?_ ?_ _) | (with_reducible refine Below.drew ?_) | (with_reducible refine Below.drawsN ?_ _) | (with_reducible refine Below.setCell ?_ ?_ _) | (with_reducible refine le_bel ?_) | (with_reducible refine le_alloc ?_) | (with_reducible refine le_setCell ?_) | (with_reducible refine le_drew ?_) | (with_reducible refine le_drawsN ?_) | (dsimp only; with_reducible refine le_bel ?_) | (dsimp only; with_reducible refine Nat.le_refl _) | (dsimp only; with_reducible refine le_bel_add ?_) | (with_reducible assumption) | omega | (dsimp only; omega)))) ?_)
        refine (HI6.out.move (fun c o u hc hu => ?_) (fun b _ h => h)).imp (fun b _ h => by simp at h; omega)
        have hne : c ≠ w.heap.size + 1 := by simp at hc; omega
        rw [World.cell?_of_block (Below.heap_setCell _ _ _ c hne), World.cell?_of_block (Below.heap_setCell _ _ _ c hne), World.cell?_of_block (Below.heap_setCell _ _ _ c hne)]
        exact hu
      · rw [show negF (nd 2 0 [h]) = h from rfl]
        clear HFC HFI
        go_enter Tryd.func19, Tryd.ntmps19
        go_wp2_with fail
        refine (HI.out _ (HU.out.of (by (repeat' (first | (with_reducible exact Below.refl _ _) | (with_reducible exact Nat.le_refl _) | (with_reducible refine Below.bel ?_ ?_) | (with_reducible refine Below.alloc ?_ ?_ _) | (with_reducible refine Below.drew ?_) | (with_reducible refine Below.drawsN ?_ _) | (with_reducible refine Below.setCell ?_ ?_ _) | (with_reducible refine le_bel ?_) | (with_reducible refine le_alloc ?_) | (with_reducible refine le_setCell ?_) | (with_reducible refine le_drew ?_) | (with_reducible refine le_drawsN ?_) | (dsimp only; with_reducible refine le_bel ?_) | (dsimp only; with_reducible refine Nat.le_refl _) | (dsimp only; with_reducible refine le_bel_add ?_) | (with_reducible assumption) | omega | (dsimp only; omega)))))).mono ?_
        rintro _ _ ⟨_, rfl, y, rfl, ad5, cap5, rfl, hi5⟩
        have HI5 := Lib.hid (hi5.imp fun b _ h => (show w.heap.size + 2 ≤ b by simp at h; omega))
        clear hi5
        have hres := obj_bel y (heap2_1 w (.cells #[.int .i64 2, .int .i64 0, .slice (some ⟨bb, off, none⟩) 1 cap] 36) (.cells #[.int .i64 0, .int .i64 0, .slice none 0 0] 36))
        have hys := y.size_le
        simp at hys
        dsimp only [F.k, F.a, F.l] at HI5 ⊢
        obtain ⟨b5, o5, rfl, hp5, hcs5⟩ := insF_at HI5.out (by simp)
        obtain ⟨d0, d1, ad6, cap6, d2, hih⟩ := cellF_open (hcs5 0 h rfl)
        rw [Nat.zero_mul, Nat.add_zero] at d0 d1 d2
        have HIH := Lib.hid hih
        clear hih hcs5 hp5
        obtain ⟨r0, r1, r2⟩ := box3 hres
        obtain ⟨g0, g1, g2⟩ := box3f hres
        go_wp2
        have hbz : Below y.w.heap.size y.w (y.w.alloc (.cells #[.int .i64 2, .int .i64 0, .slice (some ⟨b5, o5, none⟩) 1 cap5] 36)) := by (repeat' (first | (with_reducible exact Below.refl _ _) | (with_reducible exact Nat.le_refl _) | (with_reducible refine Below.bel ?_ ?_) | (with_reducible refine Below.alloc ?_ ?_ _) | (with_reducible refine Below.drew ?_) | (with_reducible refine Below.drawsN ?_ _) | (with_reducible refine Below.setCell ?_ ?_ _) | (with_reducible refine le_bel ?_) | (with_reducible refine le_alloc ?_) | (with_reducible refine le_setCell ?_) | (with_reducible refine le_drew ?_) | (with_reducible refine le_drawsN ?_) | (dsimp only; with_reducible refine le_bel ?_) | (dsimp only; with_reducible refine Nat.le_refl _) | (dsimp only; with_reducible refine le_bel_add ?_) | (with_reducible assumption) | omega | (dsimp only; omega)))
        have hR := obj_set3 (.int .i64 h.k) (.int .i64 h.a) (.slice ad6 h.l.length cap6) (obj_bel ⟨_, hbz⟩ hres)
        obtain ⟨q0, q1, q2⟩ := box3 hR
        refine bodyPost_ret (v := .agg #[.int .i64 h.k, .int .i64 h.a, .slice ad6 h.l.length cap6]) (by simp [results, Tryd.results19, go_sem, q0, q1, q2]) rfl (RetF.mk ad6 cap6 rfl (by (repeat' (first | (with_reducible exact Below.refl _ _) | (with_reducible exact Nat.le_refl _) | (with_reducible refine Below.bel ?_ ?_) | (with_reducible refine Below.alloc ?_ ?_ _) | (with_reducible refine Below.drew ?_) | (with_reducible refine Below.drawsN ?_ _) | (with_reducible refine Below.setCell ?_ ?_ _) | (with_reducible refine le_bel ?_) | (with_reducible refine le_alloc ?_) | (with_reducible refine le_setCell ?_) | (with_reducible refine le_drew ?_) | (with_reducible refine le_drawsN ?_) | (dsimp only; with_reducible refine le_bel ?_) | (dsimp only; with_reducible refine Nat.le_refl _) | (dsimp only; with_reducible refine le_bel_add ?_) | (with_reducible assumption) | omega | (dsimp only; omega)))) ?_)
        refine ((HIH.out.of hbz).move (fun c o u hc hu => ?_) (fun b _ h => h)).imp (fun b _ h => by omega)
        have hne : c ≠ w.heap.size + 1 := by omega
        rw [World.cell?_of_block (Below.heap_setCell _ _ _ c hne), World.cell?_of_block (Below.heap_setCell _ _ _ c hne), World.cell?_of_block (Below.heap_setCell _ _ _ c hne)]
        exact hu
      · rw [show negF (nd xk 0 xl) = nd 2 0 [nd xk 0 xl] from by unfold negF; rw [if_neg (by simp only [F.k]; omega), if_neg (by simp only [F.k]; omega)]]
        have f6 : (xk == 6) = false := beq_eq_false_iff_ne.2 (by omega)
        have f5 : (xk == 5) = false := beq_eq_false_iff_ne.2 (by omega)
        have f2 : (xk == 2) = false := beq_eq_false_iff_ne.2 (by omega)
        go_enter Tryd.func19, Tryd.ntmps19
        go_wp2_with fail
        refine (HI.out _ (HU.out.of (by (repeat' (first | (with_reducible exact Below.refl _ _) | (with_reducible exact Nat.le_refl _) | (with_reducible refine Below.bel ?_ ?_) | (with_reducible refine Below.alloc ?_ ?_ _) | (with_reducible refine Below.drew ?_) | (with_reducible refine Below.drawsN ?_ _) | (with_reducible refine Below.setCell ?_ ?_ _) | (with_reducible refine le_bel ?_) | (with_reducible refine le_alloc ?_) | (with_reducible refine le_setCell ?_) | (with_reducible refine le_drew ?_) | (with_reducible refine le_drawsN ?_) | (dsimp only; with_reducible refine le_bel ?_) | (dsimp only; with_reducible refine Nat.le_refl _) | (dsimp only; with_reducible refine le_bel_add ?_) | (with_reducible assumption) | omega | (dsimp only; omega)))))).mono ?_
        rintro _ _ ⟨_, rfl, y, rfl, ad5, cap5, rfl, hi5⟩
        have HI5 := Lib.hid (hi5.imp fun b _ h => (show w.heap.size + 2 ≤ b by simp at h; omega))
        clear hi5
        have hres := obj_bel y (heap2_1 w (.cells #[.int .i64 2, .int .i64 0, .slice (some ⟨bb, off, none⟩) 1 cap] 36) (.cells #[.int .i64 0, .int .i64 0, .slice none 0 0] 36))
        have hys := y.size_le
        simp at hys
        dsimp only [F.k, F.a, F.l] at HI5 ⊢
        go_wp2_with fail
        refine (HFI.out _ _ _ (HI5.out.of (by (repeat' (first | (with_reducible exact Below.refl _ _) | (with_reducible exact Nat.le_refl _) | (with_reducible refine Below.bel ?_ ?_) | (with_reducible refine Below.alloc ?_ ?_ _) | (with_reducible refine Below.drew ?_) | (with_reducible refine Below.drawsN ?_ _) | (with_reducible refine Below.setCell ?_ ?_ _) | (with_reducible refine le_bel ?_) | (with_reducible refine le_alloc ?_) | (with_reducible refine le_setCell ?_) | (with_reducible refine le_drew ?_) | (with_reducible refine le_drawsN ?_) | (dsimp only; with_reducible refine le_bel ?_) | (dsimp only; with_reducible refine Nat.le_refl _) | (dsimp only; with_reducible refine le_bel_add ?_) | (with_reducible assumption) | omega | (dsimp only; omega)))))).mono ?_
        rintro _ _ ⟨g5, hg5s, rfl, y2, rfl, hi6⟩
        simp at hg5s
        have HI6 := Lib.hid hi6
        clear hi6
        have hby : Below y.w.heap.size y.w y2.w := by (repeat' (first | (with_reducible exact Below.refl _ _) | (with_reducible exact Nat.le_refl _) | (with_reducible refine Below.bel ?_ ?_) | (with_reducible refine Below.alloc ?_ ?_ _) | (with_reducible refine Below.drew ?_) | (with_reducible refine Below.drawsN ?_ _) | (with_reducible refine Below.setCell ?_ ?_ _) | (with_reducible refine le_bel ?_) | (with_reducible refine le_alloc ?_) | (with_reducible refine le_setCell ?_) | (with_reducible refine le_drew ?_) | (with_reducible refine le_drawsN ?_) | (dsimp only; with_reducible refine le_bel ?_) | (dsimp only; with_reducible refine Nat.le_refl _) | (dsimp only; with_reducible refine le_bel_add ?_) | (with_reducible assumption) | omega | (dsimp only; omega)))
        have hres2 := obj_bel ⟨_, hby⟩ hres
        obtain ⟨r0, r1, r2⟩ := box3 hres2
        obtain ⟨g0, g1, g2⟩ := box3f hres2
        have hys2 := y2.size_le
        simp at hys2
        dsimp only
        go_wp2
        have hR := obj_set3 (.int .i64 2) (.int .i64 0) (.slice (some ⟨g5, 0, none⟩) 1 1) hres2
        obtain ⟨q0, q1, q2⟩ := box3 hR
        refine bodyPost_ret (v := .agg #[.int .i64 2, .int .i64 0, .slice (some ⟨g5, 0, none⟩) 1 1]) (by simp [results, Tryd.results19, go_sem, q0, q1, q2]) rfl (RetF.mk (some ⟨g5, 0, none⟩) 1 rfl (by (repeat' (first | (with_reducible exact Below.refl _ _) | (with_reducible exact Nat.le_refl _) | (with_reducible refine Below.bel ?_ ?_) | (with_reducible refine Below.alloc ?_ ?_ _) | (with_reducible refine Below.drew ?_) | (with_reducible refine Below.drawsN ?_ _) | (with_reducible refine Below.setCell ?_ ?_ _) | (with_reducible refine le_bel ?_) | (with_reducible refine le_alloc ?_) | (with_reducible refine le_setCell ?_) | (with_reducible refine le_drew ?_) | (with_reducible refine le_drawsN ?_) | (dsimp only; with_reducible refine le_bel ?_) | (dsimp only; with_reducible refine Nat.le_refl _) | (dsimp only; with_reducible refine le_bel_add ?_) | (with_reducible assumption) | omega | (dsimp only; omega)))) ?_)
        refine (HI6.out.move (fun c o u hc hu => ?_) (fun b _ h => h)).imp (fun b _ h => by simp at h; omega)
        have hne : c ≠ w.heap.size + 1 := by simp at hc; omega
        rw [World.cell?_of_block (Below.heap_setCell _ _ _ c hne), World.cell?_of_block (Below.heap_setCell _ _ _ c hne), World.cell?_of_block (Below.heap_setCell _ _ _ c hne)]
        exact hu
      · rcases hk with rfl | rfl
        · rw [show negF (nd 5 0 []) = nd 6 0 [] from rfl]
          clear HFI
          go_enter Tryd.func19, Tryd.ntmps19
          go_wp2_with fail
          refine (HI.out _ (HU.out.of (by (repeat' (first | (with_reducible exact Below.refl _ _) | (with_reducible exact Nat.le_refl _) | (with_reducible refine Below.bel ?_ ?_) | (with_reducible refine Below.alloc ?_ ?_ _) | (with_reducible refine Below.drew ?_) | (with_reducible refine Below.drawsN ?_ _) | (with_reducible refine Below.setCell ?_ ?_ _) | (with_reducible refine le_bel ?_) | (with_reducible refine le_alloc ?_) | (with_reducible refine le_setCell ?_) | (with_reducible refine le_drew ?_) | (with_reducible refine le_drawsN ?_) | (dsimp only; with_reducible refine le_bel ?_) | (dsimp only; with_reducible refine Nat.le_refl _) | (dsimp only; with_reducible refine le_bel_add ?_) | (with_reducible assumption) | omega | (dsimp only; omega)))))).mono ?_
          rintro _ _ ⟨_, rfl, y, rfl, ad5, cap5, rfl, hi5⟩
          have HI5 := Lib.hid (hi5.imp fun b _ h => (show w.heap.size + 2 ≤ b by simp at h; omega))
          clear hi5
          have hres := obj_bel y (heap2_1 w (.cells #[.int .i64 2, .int .i64 0, .slice (some ⟨bb, off, none⟩) 1 cap] 36) (.cells #[.int .i64 0, .int .i64 0, .slice none 0 0] 36))
          have hys := y.size_le
          simp at hys
          dsimp only [F.k, F.a, F.l] at HI5 ⊢
          go_wp2_with fail
          (with_reducible refine (refConstant_ret _ _).mono ?_)
          rintro _ _ ⟨rfl, y2, rfl⟩
          have hby : Below y.w.heap.size y.w y2.w := by (repeat' (first | (with_reducible exact Below.refl _ _) | (with_reducible exact Nat.le_refl _) | (with_reducible refine Below.bel ?_ ?_) | (with_reducible refine Below.alloc ?_ ?_ _) | (with_reducible refine Below.drew ?_) | (with_reducible refine Below.drawsN ?_ _) | (with_reducible refine Below.setCell ?_ ?_ _) | (with_reducible refine le_bel ?_) | (with_reducible refine le_alloc ?_) | (with_reducible refine le_setCell ?_) | (with_reducible refine le_drew ?_) | (with_reducible refine le_drawsN ?_) | (dsimp only; with_reducible refine le_bel ?_) | (dsimp only; with_reducible refine Nat.le_refl _) | (dsimp only; with_reducible refine le_bel_add ?_) | (with_reducible assumption) | omega | (dsimp only; omega)))
          have hres2 := obj_bel ⟨_, hby⟩ hres
          obtain ⟨r0, r1, r2⟩ := box3 hres2
          obtain ⟨g0, g1, g2⟩ := box3f hres2
          dsimp only
          go_wp2
          have hR := obj_set3 (.int .i64 6) (.int .i64 0) (.slice none 0 0) hres2
          obtain ⟨q0, q1, q2⟩ := box3 hR
          refine bodyPost_ret (v := .agg #[.int .i64 6, .int .i64 0, .slice none 0 0]) (by simp [results, Tryd.results19, go_sem, q0, q1, q2]) rfl (RetF.mk (t := nd 6 0 []) none 0 rfl (by (repeat' (first | (with_reducible exact Below.refl _ _) | (with_reducible exact Nat.le_refl _) | (with_reducible refine Below.bel ?_ ?_) | (with_reducible refine Below.alloc ?_ ?_ _) | (with_reducible refine Below.drew ?_) | (with_reducible refine Below.drawsN ?_ _) | (with_reducible refine Below.setCell ?_ ?_ _) | (with_reducible refine le_bel ?_) | (with_reducible refine le_alloc ?_) | (with_reducible refine le_setCell ?_) | (with_reducible refine le_drew ?_) | (with_reducible refine le_drawsN ?_) | (dsimp only; with_reducible refine le_bel ?_) | (dsimp only; with_reducible refine Nat.le_refl _) | (dsimp only; with_reducible refine le_bel_add ?_) | (with_reducible assumption) | omega | (dsimp only; omega)))) (insF_nil _ _ _))
        · rw [show negF (nd 6 0 []) = nd 5 0 [] from rfl]
          clear HFI
          go_enter Tryd.func19, Tryd.ntmps19
          go_wp2_with fail
          refine (HI.out _ (HU.out.of (by (repeat' (first | (with_reducible exact Below.refl _ _) | (with_reducible exact Nat.le_refl _) | (with_reducible refine Below.bel ?_ ?_) | (with_reducible refine Below.alloc ?_ ?_ _) | (with_reducible refine Below.drew ?_) | (with_reducible refine Below.drawsN ?_ _) | (with_reducible refine Below.setCell ?_ ?_ _) | (with_reducible refine le_bel ?_) | (with_reducible refine le_alloc ?_) | (with_reducible refine le_setCell ?_) | (with_reducible refine le_drew ?_) | (with_reducible refine le_drawsN ?_) | (dsimp only; with_reducible refine le_bel ?_) | (dsimp only; with_reducible refine Nat.le_refl _) | (dsimp only; with_reducible refine le_bel_add ?_) | (with_reducible assumption) | omega | (dsimp only; omega)))))).mono ?_
          rintro _ _ ⟨_, rfl, y, rfl, ad5, cap5, rfl, hi5⟩
          have HI5 := Lib.hid (hi5.imp fun b _ h => (show w.heap.size + 2 ≤ b by simp at h; omega))
          clear hi5
          have hres := obj_bel y (heap2_1 w (.cells #[.int .i64 2, .int .i64 0, .slice (some ⟨bb, off, none⟩) 1 cap] 36) (.cells #[.int .i64 0, .int .i64 0, .slice none 0 0] 36))
          have hys := y.size_le
          simp at hys
          dsimp only [F.k, F.a, F.l] at HI5 ⊢
          go_wp2_with fail
          (with_reducible refine (refConstant_ret _ _).mono ?_)
          rintro _ _ ⟨rfl, y2, rfl⟩
          have hby : Below y.w.heap.size y.w y2.w := by (repeat' (first | (with_reducible exact Below.refl _ _) | (with_reducible exact Nat.le_refl _) | (with_reducible refine Below.bel ?_ ?_) | (with_reducible refine Below.alloc ?_ ?_ _) | (with_reducible refine Below.drew ?_) | (with_reducible refine Below.drawsN ?_ _) | (with_reducible refine Below.setCell ?_ ?_ _) | (with_reducible refine le_bel ?_) | (with_reducible refine le_alloc ?_) | (with_reducible refine le_setCell ?_) | (with_reducible refine le_drew ?_) | (with_reducible refine le_drawsN ?_) | (dsimp only; with_reducible refine le_bel ?_) | (dsimp only; with_reducible refine Nat.le_refl _) | (dsimp only; with_reducible refine le_bel_add ?_) | (with_reducible assumption) | omega | (dsimp only; omega)))
          have hres2 := obj_bel ⟨_, hby⟩ hres
          obtain ⟨r0, r1, r2⟩ := box3 hres2
          obtain ⟨g0, g1, g2⟩ := box3f hres2
          dsimp only
          go_wp2
          have hR := obj_set3 (.int .i64 5) (.int .i64 0) (.slice none 0 0) hres2
          obtain ⟨q0, q1, q2⟩ := box3 hR
          refine bodyPost_ret (v := .agg #[.int .i64 5, .int .i64 0, .slice none 0 0]) (by simp [results, Tryd.results19, go_sem, q0, q1, q2]) rfl (RetF.mk (t := nd 5 0 []) none 0 rfl (by (repeat' (first | (with_reducible exact Below.refl _ _) | (with_reducible exact Nat.le_refl _) | (with_reducible refine Below.bel ?_ ?_) | (with_reducible refine Below.alloc ?_ ?_ _) | (with_reducible refine Below.drew ?_) | (with_reducible refine Below.drawsN ?_ _) | (with_reducible refine Below.setCell ?_ ?_ _) | (with_reducible refine le_bel ?_) | (with_reducible refine le_alloc ?_) | (with_reducible refine le_setCell ?_) | (with_reducible refine le_drew ?_) | (with_reducible refine le_drawsN ?_) | (dsimp only; with_reducible refine le_bel ?_) | (dsimp only; with_reducible refine Nat.le_refl _) | (dsimp only; with_reducible refine le_bel_add ?_) | (with_reducible assumption) | omega | (dsimp only; omega)))) (insF_nil _ _ _))
    · rw [smp, if_neg (by omega), if_pos hk]
      have hokl := fun u hu => okL_mem HOKL.out (t := u) hu
      rcases hk with rfl | rfl
      · exact refJoin3 tl ad cap w hlt hokl HBIG.out fun u hu _ ad' cap' W hi => ih u (Nat.le_trans (nodesL_mem hu) HNL.out) (hokl u hu) _ ad' cap' W hi (Nat.le_trans (nodesL_mem hu) HBIG.out)
      · exact refJoin4 tl ad cap w hlt hokl HBIG.out fun u hu _ ad' cap' W hi => ih u (Nat.le_trans (nodesL_mem hu) HNL.out) (hokl u hu) _ ad' cap' W hi (Nat.le_trans (nodesL_mem hu) HBIG.out)
    · rw [smp, if_neg (by omega), if_neg (by omega)]
      have f2 : (tk == 2) = false := beq_eq_false_iff_ne.2 (by omega)
      have f3 : (tk != 3) = true := bne_iff_ne.2 (by omega)
      have f4 : (tk != 4) = true := bne_iff_ne.2 (by omega)
      go_enter Tryd.func19, Tryd.ntmps19
      go_wp2
      refine bodyPost_ret (v := .agg #[.int .i64 tk, .int .i64 0, .slice ad 0 cap]) (by simp [results, Tryd.results19, go_sem]) rfl (RetF.mk (t := nd tk 0 []) ad cap rfl (by (repeat' (first | (with_reducible exact Below.refl _ _) | (with_reducible exact Nat.le_refl _) | (with_reducible refine Below.bel ?_ ?_) | (with_reducible refine Below.alloc ?_ ?_ _) | (with_reducible refine Below.drew ?_) | (with_reducible refine Below.drawsN ?_ _) | (with_reducible refine Below.setCell ?_ ?_ _) | (with_reducible refine le_bel ?_) | (with_reducible refine le_alloc ?_) | (with_reducible refine le_setCell ?_) | (with_reducible refine le_drew ?_) | (with_reducible refine le_drawsN ?_) | (dsimp only; with_reducible refine le_bel ?_) | (dsimp only; with_reducible refine Nat.le_refl _) | (dsimp only; with_reducible refine le_bel_add ?_) | (with_reducible assumption) | omega | (dsimp only; omega)))) (insF_nil _ _ _))
end Go.Proofs.YtkbellmhanpocaaDoor
