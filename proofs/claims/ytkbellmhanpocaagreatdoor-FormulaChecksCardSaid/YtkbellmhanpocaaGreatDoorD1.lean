/- count and small. -/
import Derived.Test.YtkbellmhanpocaaGreatDoorG5
namespace Go.Proofs.YtkbellmhanpocaaGreatDoor
set_option linter.unusedVariables false
set_option linter.unusedSimpArgs false
open Go.RowKit F
attribute [local go_sem low] Bel.cell Bel.frozen alloc_cell alloc_frozen

mutual
def cnt : F → Nat → Nat | nd _ _ l, m => cntR l m 1
def cntR : List F → Nat → Nat → Nat | [], _, n => n | t :: r, m, n => if n ≤ m then cntR r m (n + cnt t (m - n)) else n
end
mutual
theorem cnt_spec : ∀ (t : F) (m : Nat), (nodes t ≤ m → cnt t m = nodes t) ∧ (m < nodes t → m < cnt t m) ∧ cnt t m ≤ m + 1 ∧ 1 ≤ cnt t m
  | nd _ _ l, m => by
    have := cntR_spec l m 1 (by omega) (Nat.le_refl _)
    rw [nodes, cnt]
    exact this
theorem cntR_spec : ∀ (l : List F) (m n : Nat), n ≤ m + 1 → 1 ≤ n → (n + nodesL l ≤ m → cntR l m n = n + nodesL l) ∧ (m < n + nodesL l → m < cntR l m n) ∧ cntR l m n ≤ m + 1 ∧ 1 ≤ cntR l m n
  | [], m, n, h, h1 => by rw [cntR, nodesL]; omega
  | t :: r, m, n, h, h1 => by
    rw [cntR, nodesL]
    by_cases hn : n ≤ m
    · rw [if_pos hn]
      have hc := cnt_spec t (m - n)
      have hr := cntR_spec r m (n + cnt t (m - n)) (by omega) (by omega)
      generalize cnt t (m - n) = c at *
      by_cases ht : nodes t ≤ m - n
      · have := hc.1 ht
        subst this
        omega
      · have := hc.2.1 (by omega)
        omega
    · rw [if_neg hn]; omega
end
theorem cntR_stop (l : List F) (m n : Nat) (h : m < n) : cntR l m n = n := by
  cases l with
  | nil => rfl
  | cons t r => rw [cntR, if_neg (by omega)]
set_option maxRecDepth 100000 in
set_option maxHeartbeats 6400000 in
theorem count_any : ∀ (N : Nat) (t : F), nodes t ≤ N → ∀ (m : Nat) (P : Nat → Prop) (ad : Option Addr) (cap : Nat) (w : World), InsF P w ad t.l → m ≤ 1000 →
    Calls Tryz.prog 35 #[.agg #[.int .i64 t.k, .int .i64 t.a, .slice ad t.l.length cap], .int .i64 (m : Int)] w (Ret (.int .i64 (cnt t m : Nat)) w) := by
  intro N
  induction N with
  | zero => intro t h; have := nodes_pos t; omega
  | succ N ih =>
    intro t hN m P ad cap w hi hm
    have HNL := Lib.hid (show nodesL t.l ≤ N by rw [nodes_l] at hN; omega)
    have hlt : InsF (fun c => c < w.heap.size) w ad t.l := hi.imp fun b hb _ => hb
    have HC := Lib.hid (fun u (hu : u ∈ t.l) m' (hm' : m' ≤ 1000) ad' cap' w' (hiu : InsF (fun c => c < w.heap.size) w' ad' u.l) => ih u (Nat.le_trans (nodesL_mem hu) HNL.out) m' _ ad' cap' w' hiu hm')
    clear hi hN ih
    obtain ⟨tk, ta, tl⟩ := t
    simp only [F.k, F.a, F.l] at HC HNL hlt ⊢
    rw [cnt]
    obtain ⟨R, hR⟩ : ∃ R, cntR tl m 1 = R := ⟨_, rfl⟩
    rw [hR]
    have HR := Lib.hid hR
    clear hR
    go_enter Tryz.func35, Tryz.ntmps35
    go_wp2
    go_loopw [5, 6] (fun nv i wr => ∃ (k n : Nat), i = .int .i64 (k : Int) ∧ nv = .int .i64 (n : Int) ∧ k ≤ tl.length ∧ cntR (tl.drop k) m n = R ∧ n ≤ m + 1 ∧ k + 1 ≤ n ∧ wr.heap[w.heap.size]? = some (.cells #[.int .i64 tk, .int .i64 ta, .slice ad tl.length cap] 26 (0, 0)) ∧ Below w.heap.size w wr) (fun nv _ _ => m + 2 - (intOf nv).toNat)
    case atStart => exact ⟨0, 1, rfl, rfl, by omega, HR.out, by omega, by omega, World.alloc_heap_new _ _, by (repeat' (first | (with_reducible exact Below.refl _ _) | (with_reducible exact Nat.le_refl _) | (with_reducible refine Below.bel ?_ ?_) | (with_reducible refine Below.alloc ?_ ?_ _) | (with_reducible refine Below.drew ?_) | (with_reducible refine Below.drawsN ?_ _) | (with_reducible refine Below.setCell ?_ ?_ _) | (with_reducible refine le_bel ?_) | (with_reducible refine le_alloc ?_) | (with_reducible refine le_setCell ?_) | (with_reducible refine le_drew ?_) | (with_reducible refine le_drawsN ?_) | (dsimp only; with_reducible refine le_bel ?_) | (dsimp only; with_reducible refine Nat.le_refl _) | (dsimp only; with_reducible refine le_bel_add ?_) | (with_reducible assumption) | omega | (dsimp only; omega)))⟩
    case round =>
      obtain ⟨k, n, rfl, rfl, hk, hA, hn, hkn, hfb, hb⟩ := hrel
      have hiW := below_move hlt (fun _ h => h) hb
      obtain ⟨fb0, fb1, fb2⟩ := box3 hfb
      have HA := Lib.hid hA
      have hbs := hb.size
      clear hA
      rcases Nat.lt_or_ge k tl.length with hkl | hkl
      · have f0 : decide ((k : Int) < (tl.length : Int)) = true := decide_eq_true (by omega)
        rcases Nat.lt_or_ge m n with hmn | hmn
        · have f1 : decide ((n : Int) ≤ (m : Int)) = false := decide_eq_false (by omega)
          have HE := Lib.hid (cntR_stop (tl.drop k) m n hmn)
          go_wp2
          go_ret
          exact Ret.mk (by (rw [← HA.out, HE.out]; rfl)) (by (repeat' (first | (with_reducible exact Below.refl _ _) | (with_reducible exact Nat.le_refl _) | (with_reducible refine Below.bel ?_ ?_) | (with_reducible refine Below.alloc ?_ ?_ _) | (with_reducible refine Below.drew ?_) | (with_reducible refine Below.drawsN ?_ _) | (with_reducible refine Below.setCell ?_ ?_ _) | (with_reducible refine le_bel ?_) | (with_reducible refine le_alloc ?_) | (with_reducible refine le_setCell ?_) | (with_reducible refine le_drew ?_) | (with_reducible refine le_drawsN ?_) | (dsimp only; with_reducible refine le_bel ?_) | (dsimp only; with_reducible refine Nat.le_refl _) | (dsimp only; with_reducible refine le_bel_add ?_) | (with_reducible assumption) | omega | (dsimp only; omega))))
        · have f1 : decide ((n : Int) ≤ (m : Int)) = true := decide_eq_true (by omega)
          obtain ⟨u, hu⟩ := some_at hkl
          obtain ⟨bb, off, hadd, hp, hcs⟩ := insF_at hiW (by omega)
          cases hadd
          obtain ⟨c0, c1, ad', cap', c2, hiu⟩ := cellF_open (hcs k u hu)
          have hib : (0 ≤ (k : Int) ∧ (k : Int) < (tl.length : Int)) := ⟨by omega, by omega⟩
          have HCC := HC.out u (List.mem_of_getElem? hu) (m - n) (by omega) ad' cap'
          have hsp := cnt_spec u (m - n)
          have HD := Lib.hid (show cntR (tl.drop (k + 1)) m (n + cnt u (m - n)) = R by
            have := HA.out
            rwa [drop_at hu, cntR, if_pos hmn] at this)
          obtain ⟨c, hc⟩ : ∃ c, cnt u (m - n) = c := ⟨_, rfl⟩
          rw [hc] at HCC hsp HD
          have hmn2 : ((m - n : Nat) : Int) = (m : Int) - (n : Int) := by omega
          rw [hmn2] at HCC
          have HCC2 := Lib.hid HCC
          have HI := Lib.hid hiu
          clear hcs hiW hiu hp hu hc HCC hmn2
          go_wp2_with fail
          refine (HCC2.out _ (HI.out.of (by (repeat' (first | (with_reducible exact Below.refl _ _) | (with_reducible exact Nat.le_refl _) | (with_reducible refine Below.bel ?_ ?_) | (with_reducible refine Below.alloc ?_ ?_ _) | (with_reducible refine Below.drew ?_) | (with_reducible refine Below.drawsN ?_ _) | (with_reducible refine Below.setCell ?_ ?_ _) | (with_reducible refine le_bel ?_) | (with_reducible refine le_alloc ?_) | (with_reducible refine le_setCell ?_) | (with_reducible refine le_drew ?_) | (with_reducible refine le_drawsN ?_) | (dsimp only; with_reducible refine le_bel ?_) | (dsimp only; with_reducible refine Nat.le_refl _) | (dsimp only; with_reducible refine le_bel_add ?_) | (with_reducible assumption) | omega | (dsimp only; omega)))))).mono ?_
          rintro _ _ ⟨rfl, y, rfl⟩
          have hfb2 := obj_bel y hfb
          dsimp only
          go_wp2
          go_roundw
          case rel => exact ⟨k + 1, n + c, by go_num, by go_num, by omega, HD.out, by omega, by omega, hfb2, by (repeat' (first | (with_reducible exact Below.refl _ _) | (with_reducible exact Nat.le_refl _) | (with_reducible refine Below.bel ?_ ?_) | (with_reducible refine Below.alloc ?_ ?_ _) | (with_reducible refine Below.drew ?_) | (with_reducible refine Below.drawsN ?_ _) | (with_reducible refine Below.setCell ?_ ?_ _) | (with_reducible refine le_bel ?_) | (with_reducible refine le_alloc ?_) | (with_reducible refine le_setCell ?_) | (with_reducible refine le_drew ?_) | (with_reducible refine le_drawsN ?_) | (dsimp only; with_reducible refine le_bel ?_) | (dsimp only; with_reducible refine Nat.le_refl _) | (dsimp only; with_reducible refine le_bel_add ?_) | (with_reducible assumption) | omega | (dsimp only; omega)))⟩
          case measure => simp [intOf]; omega
      · have hke : k = tl.length := by omega
        subst hke
        have f0 : decide ((tl.length : Int) < (tl.length : Int)) = false := decide_eq_false (by omega)
        have HE := Lib.hid (show cntR (tl.drop tl.length) m n = n by rw [List.drop_length]; rfl)
        clear hiW
        go_wp2
        go_ret
        exact Ret.mk (by (rw [← HA.out, HE.out]; rfl)) (by (repeat' (first | (with_reducible exact Below.refl _ _) | (with_reducible exact Nat.le_refl _) | (with_reducible refine Below.bel ?_ ?_) | (with_reducible refine Below.alloc ?_ ?_ _) | (with_reducible refine Below.drew ?_) | (with_reducible refine Below.drawsN ?_ _) | (with_reducible refine Below.setCell ?_ ?_ _) | (with_reducible refine le_bel ?_) | (with_reducible refine le_alloc ?_) | (with_reducible refine le_setCell ?_) | (with_reducible refine le_drew ?_) | (with_reducible refine le_drawsN ?_) | (dsimp only; with_reducible refine le_bel ?_) | (dsimp only; with_reducible refine Nat.le_refl _) | (dsimp only; with_reducible refine le_bel_add ?_) | (with_reducible assumption) | omega | (dsimp only; omega))))
set_option maxRecDepth 100000 in
theorem small_any (t : F) (P : Nat → Prop) (ad : Option Addr) (cap : Nat) (w : World) (hi : InsF P w ad t.l) :
    Calls Tryz.prog 14 #[.agg #[.int .i64 t.k, .int .i64 t.a, .slice ad t.l.length cap]] w (Ret (.bool (decide (nodes t ≤ 40))) w) := by
  have HC := Lib.hid (fun w' (h : InsF P w' ad t.l) => count_any (nodes t) t (Nat.le_refl _) 40 P ad cap w' h (by omega))
  have HI := Lib.hid hi
  have hs := cnt_spec t 40
  have hd : decide (((cnt t 40 : Nat) : Int) ≤ 40) = decide (nodes t ≤ 40) := decide_eq_decide.2 (by omega)
  clear hi
  obtain ⟨c, hc⟩ : ∃ c, cnt t 40 = c := ⟨_, rfl⟩
  rw [hc] at HC hd
  rw [← hd]
  clear hd hs hc
  go_enter Tryz.func14, Tryz.ntmps14
  go_wp2_with fail
  refine (HC.out _ (HI.out.of (by (repeat' (first | (with_reducible exact Below.refl _ _) | (with_reducible exact Nat.le_refl _) | (with_reducible refine Below.bel ?_ ?_) | (with_reducible refine Below.alloc ?_ ?_ _) | (with_reducible refine Below.drew ?_) | (with_reducible refine Below.drawsN ?_ _) | (with_reducible refine Below.setCell ?_ ?_ _) | (with_reducible refine le_bel ?_) | (with_reducible refine le_alloc ?_) | (with_reducible refine le_setCell ?_) | (with_reducible refine le_drew ?_) | (with_reducible refine le_drawsN ?_) | (dsimp only; with_reducible refine le_bel ?_) | (dsimp only; with_reducible refine Nat.le_refl _) | (dsimp only; with_reducible refine le_bel_add ?_) | (with_reducible assumption) | omega | (dsimp only; omega)))))).mono ?_
  rintro _ _ ⟨rfl, y, rfl⟩
  dsimp only
  go_wp2
  go_ret
  exact Ret.mk (by rfl) (by (repeat' (first | (with_reducible exact Below.refl _ _) | (with_reducible exact Nat.le_refl _) | (with_reducible refine Below.bel ?_ ?_) | (with_reducible refine Below.alloc ?_ ?_ _) | (with_reducible refine Below.drew ?_) | (with_reducible refine Below.drawsN ?_ _) | (with_reducible refine Below.setCell ?_ ?_ _) | (with_reducible refine le_bel ?_) | (with_reducible refine le_alloc ?_) | (with_reducible refine le_setCell ?_) | (with_reducible refine le_drew ?_) | (with_reducible refine le_drawsN ?_) | (dsimp only; with_reducible refine le_bel ?_) | (dsimp only; with_reducible refine Nat.le_refl _) | (dsimp only; with_reducible refine le_bel_add ?_) | (with_reducible assumption) | omega | (dsimp only; omega))))
end Go.Proofs.YtkbellmhanpocaaGreatDoor
