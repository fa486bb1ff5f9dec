/- The reference: texts. -/
import Derived.Laws.BytesArg
import Derived.Test.YtkbellmhanpocaaDoorG10
import Derived.Test.YtkbellmhanpocaaDoorFd
import Derived.Test.YtkbellmhanpocaaDoorStrs
namespace Go.Proofs.YtkbellmhanpocaaDoor
set_option linter.unusedVariables false
set_option linter.unusedSimpArgs false
open Go.RowKit F
attribute [local go_sem low] Bel.cell Bel.frozen alloc_cell alloc_frozen
attribute [local go_sem] calmOp chainOp yieldsC grows

/-- One byte as a string. -/
theorem conv1 (w : World) (g : Nat) (z : Int) (hc : w.cell? ⟨g, 0, none⟩ = some (.int .u8 z)) : Sem.run Tryd.prog (convert 29 9 (.slice (some ⟨g, 0, none⟩) 1 1)) w = .ok (.string ⟨[UInt8.ofNat z.toNat].toArray⟩) w :=
  run_convert_bytes_arg (P := Tryd.prog) _ 29 5 Tryd.underlying29 Tryd.underlying5 g 0 1 1 [z] rfl (fun i hi => by
    obtain rfl : i = 0 := by omega
    simpa using hc) 9 Tryd.underlying9
theorem cell1_new (w : World) (x : Value) (t : TypeId) : (w.alloc (.cells #[x] t)).cell? ⟨w.heap.size, 0, none⟩ = some x := by
  have := cell_one_new w x t 0 x rfl
  rwa [show ((⟨w.heap.size, 0, none⟩ : Addr).add 0) = ⟨w.heap.size, 0, none⟩ from rfl] at this
theorem ofNat_dig {n : Int} (h : 0 ≤ n) : UInt8.ofNat (48 + n % 10).toNat = UInt8.ofNat (48 + n.toNat % 10) := by
  congr 1
  omega
set_option maxRecDepth 100000 in
theorem number_any : ∀ (N n : Nat), n < N → n ≤ 1000000 → ∀ (w : World), Calls Tryd.prog 49 #[.int .i64 (n : Int)] w (Ret (.string ⟨(Go.Lib.decDigits n).toArray⟩) w) := by
  intro N
  induction N with
  | zero => intro n h; omega
  | succ N ih =>
    intro n hn hb w
    by_cases h : n < 10
    · rw [Go.Lib.decDigits_one h]
      have f0 : decide ((n : Int) < 10) = true := decide_eq_true (by omega)
      go_enter Tryd.func49, Tryd.ntmps49
      have HCV := conv1 (w.alloc (.cells #[.int .u8 (48 + (n : Int))] 5)) w.heap.size (48 + (n : Int)) (cell1_new _ _ _)
      have HV := Lib.hid (show UInt8.ofNat (48 + (n : Int)).toNat = UInt8.ofNat (48 + n) by congr 1)
      rw [HV.out] at HCV
      go_wp2
      go_ret
      exact Ret.mk (by simp) (by (repeat' (first | (with_reducible exact Below.refl _ _) | (with_reducible exact Nat.le_refl _) | (with_reducible refine Below.bel ?_ ?_) | (with_reducible refine Below.alloc ?_ ?_ _) | (with_reducible refine Below.drew ?_) | (with_reducible refine Below.drawsN ?_ _) | (with_reducible refine Below.setCell ?_ ?_ _) | (with_reducible refine le_bel ?_) | (with_reducible refine le_alloc ?_) | (with_reducible refine le_setCell ?_) | (with_reducible refine le_drew ?_) | (with_reducible refine le_drawsN ?_) | (dsimp only; with_reducible refine le_bel ?_) | (dsimp only; with_reducible refine Nat.le_refl _) | (dsimp only; with_reducible refine le_bel_add ?_) | (with_reducible assumption) | omega | (dsimp only; omega))))
    · have f0 : decide ((n : Int) < 10) = false := decide_eq_false (by omega)
      rw [Go.Lib.decDigits, dif_neg h]
      have HC := Lib.hid (ih (n / 10) (by omega) (by omega))
      obtain ⟨d, hd⟩ : ∃ d, n % 10 = d := ⟨_, rfl⟩
      obtain ⟨q, hq⟩ : ∃ q, n / 10 = q := ⟨_, rfl⟩
      have e1 : IntKind.i64.wrap ((n : Int) / 10) = (q : Int) := by
        rw [← hq]
        simp [IntKind.wrap, IntKind.bits, IntKind.signed]
        omega
      have e2 : (n : Int).tmod 10 = (d : Int) := by rw [← hd]; exact (Int.ofNat_tmod n 10).symm
      have hd10 : d < 10 := by omega
      have e3 : IntKind.u8.wrap (d : Int) = (d : Int) := by simp [IntKind.wrap, IntKind.bits, IntKind.signed]; omega
      have e4 : IntKind.u8.wrap (48 + (d : Int)) = 48 + (d : Int) := by simp [IntKind.wrap, IntKind.bits, IntKind.signed]; omega
      rw [hq] at HC ⊢
      rw [hd]
      have hRl := dec_lenk 6 q (by omega)
      obtain ⟨R, hR⟩ : ∃ R, Go.Lib.decDigits q = R := ⟨_, rfl⟩
      rw [hR] at HC hRl ⊢
      have hcat : (9223372036854775807 < R.length + 1) = False := eq_false (by omega)
      clear hR hd hq ih
      have HE := Lib.hid (And.intro e1 (And.intro e2 (And.intro e3 e4)))
      clear e1 e2 e3 e4
      have HOF := Lib.hid (show UInt8.ofNat (48 + d) = 48 + UInt8.ofNat d by simp)
      have HV := Lib.hid (show UInt8.ofNat (48 + (d : Int)).toNat = UInt8.ofNat (48 + d) by congr 1)
      go_enter Tryd.func49, Tryd.ntmps49
      go_wp2_with fail
      refine wp_region_plan 9 (.calm 0 (.calm 1 (.calm 3 (.calm 4 (.calm 5 (.calm 6 (.fork 2 (.fork 7 (.calm 8 .tail) .none) (.fork 7 (.calm 8 (.fork 2 .tail .none)) .none)))))))) (by kernel_rfl) (by kernel_rfl) ?_
      simp only [Plan.walk, operAt, List.getElem?_cons_succ, List.getElem?_cons_zero, Option.getD_some, List.drop_succ_cons, List.drop_zero]
      repeat (refine wpX_calm (fun K hK => ?_); go_simp; first | (refine hK _ _ ?_; clear hK K) | (apply Exists.intro; refine ⟨fun _ => ?_, hK _ _ ?_⟩; (fail); clear hK K))
      rw [HE.out.1, HE.out.2.1, HE.out.2.2.1, HE.out.2.2.2]
      refine wpX_fork (fun K hK => ?_) ?_
      · go_simp
        intro x
        refine (HC.out _).mono ?_
        rintro _ _ ⟨rfl, y, rfl⟩
        refine ⟨_, rfl, y.below, hK _ _ ?_⟩
        clear hK K
        refine wpX_only (fun K hK => ?_)
        go_simp
        intro x2
        refine ⟨(Below.refl _ _).alloc (Nat.le_refl _) _, hK _ _ ?_⟩
        clear hK K
        refine wpX_calm (fun K hK => ?_)
        go_simp
        refine ⟨.string ⟨[UInt8.ofNat (48 + d)].toArray⟩, fun x3 => ?_, hK _ _ ?_⟩
        · rw [conv1 _ _ _ ((x3.below.cell (p := ⟨x2.w.heap.size, 0, none⟩) (by simp)).trans (cell1_new _ _ _)), HV.out]
          exact ⟨rfl, rfl⟩
        clear hK K
        refine wpX_tail ?_
        intro z
        go_wp2
        refine bodyPost_ret (v := .string (⟨R.toArray⟩ ++ ⟨#[48 + UInt8.ofNat d]⟩)) (by simp [results, Tryd.results49, go_sem]) rfl (Ret.mk (by (rw [HOF.out]; exact str_val (bytes_app R [_]))) (by (repeat' (first | (with_reducible exact Below.refl _ _) | (with_reducible exact Nat.le_refl _) | (with_reducible refine Below.bel ?_ ?_) | (with_reducible refine Below.alloc ?_ ?_ _) | (with_reducible refine Below.drew ?_) | (with_reducible refine Below.drawsN ?_ _) | (with_reducible refine Below.setCell ?_ ?_ _) | (with_reducible refine le_bel ?_) | (with_reducible refine le_alloc ?_) | (with_reducible refine le_setCell ?_) | (with_reducible refine le_drew ?_) | (with_reducible refine le_drawsN ?_) | (dsimp only; with_reducible refine le_bel ?_) | (dsimp only; with_reducible refine Nat.le_refl _) | (dsimp only; with_reducible refine le_bel_add ?_) | (with_reducible assumption) | omega | (dsimp only; omega)))))
      · refine wpX_only (fun K hK => ?_)
        go_simp
        intro x2
        refine ⟨(Below.refl _ _).alloc (Nat.le_refl _) _, hK _ _ ?_⟩
        clear hK K
        refine wpX_calm (fun K hK => ?_)
        go_simp
        refine ⟨.string ⟨[UInt8.ofNat (48 + d)].toArray⟩, fun x3 => ?_, hK _ _ ?_⟩
        · rw [conv1 _ _ _ ((x3.below.cell (p := ⟨x2.w.heap.size, 0, none⟩) (by simp)).trans (cell1_new _ _ _)), HV.out]
          exact ⟨rfl, rfl⟩
        clear hK K
        refine wpX_only (fun K hK => ?_)
        go_simp
        intro x
        refine (HC.out _).mono ?_
        rintro _ _ ⟨rfl, y, rfl⟩
        refine ⟨_, rfl, y.below, hK _ _ ?_⟩
        clear hK K
        refine wpX_tail ?_
        intro z
        go_wp2
        refine bodyPost_ret (v := .string (⟨R.toArray⟩ ++ ⟨#[48 + UInt8.ofNat d]⟩)) (by simp [results, Tryd.results49, go_sem]) rfl (Ret.mk (by (rw [HOF.out]; exact str_val (bytes_app R [_]))) (by (repeat' (first | (with_reducible exact Below.refl _ _) | (with_reducible exact Nat.le_refl _) | (with_reducible refine Below.bel ?_ ?_) | (with_reducible refine Below.alloc ?_ ?_ _) | (with_reducible refine Below.drew ?_) | (with_reducible refine Below.drawsN ?_ _) | (with_reducible refine Below.setCell ?_ ?_ _) | (with_reducible refine le_bel ?_) | (with_reducible refine le_alloc ?_) | (with_reducible refine le_setCell ?_) | (with_reducible refine le_drew ?_) | (with_reducible refine le_drawsN ?_) | (dsimp only; with_reducible refine le_bel ?_) | (dsimp only; with_reducible refine Nat.le_refl _) | (dsimp only; with_reducible refine le_bel_add ?_) | (with_reducible assumption) | omega | (dsimp only; omega)))))
theorem okL_take {l : List F} (h : okL l) (n : Nat) : okL (l.take n) := okL_of fun u hu => okL_mem h (List.mem_of_mem_take hu)
theorem nodesL_take' (l : List F) (n : Nat) : nodesL (l.take n) ≤ nodesL l := by
  have h := nodesL_app (l.take n) (l.drop n)
  rw [List.take_append_drop] at h
  omega
theorem dgs_nat (n : Nat) : dgs (n : Int) = Go.Lib.decDigits n := by unfold dgs; rw [Int.toNat_natCast]
theorem no_big {a : Nat} (h : a ≤ 1000000) : (9223372036854775807 < a) = False := eq_false (by omega)
set_option maxRecDepth 100000 in
set_option maxHeartbeats 6400000 in
theorem refText_any : ∀ (N : Nat) (t : F), nodes t ≤ N → okT t → ∀ (P : Nat → Prop) (ad : Option Addr) (cap : Nat) (w : World), InsF P w ad t.l → nodes t ≤ 10000 →
    Calls Tryd.prog 22 #[.agg #[.int .i64 t.k, .int .i64 t.a, .slice ad t.l.length cap]] w (Ret (.string ⟨(txt t).toArray⟩) w) := by
  intro N
  induction N with
  | zero => intro t h; have := nodes_pos t; omega
  | succ N ih =>
    intro t hN hok P ad cap w hi hbig
    have HNL := Lib.hid (show nodesL t.l ≤ N by rw [nodes_l] at hN; omega)
    have HBIG := Lib.hid (show nodesL t.l ≤ 10000 by rw [nodes_l] at hbig; omega)
    have hlen : t.l.length ≤ 10000 := Nat.le_trans (length_nodesL t.l) HBIG.out
    have hlt : InsF (fun c => c < w.heap.size) w ad t.l := hi.imp fun b hb _ => hb
    have HOKL := Lib.hid (okT_l hok)
    clear hi hN hbig
    obtain ⟨tk, ta, tl⟩ := t
    simp only [F.k, F.a, F.l] at HNL HBIG hlen hlt HOKL ⊢
    rcases single_cases hok.1 with ⟨rfl, h1, h2, rfl⟩ | ⟨rfl, rfl, t, rfl⟩ | ⟨hk, rfl, hl⟩ | ⟨hk, rfl, rfl⟩
    · rw [txt, if_pos rfl]
      obtain ⟨n, rfl⟩ := Int.eq_ofNat_of_zero_le h1
      rw [dgs_nat]
      have HC := Lib.hid (number_any (n + 1) n (by omega) (by omega))
      have hRl := dec_lenk 3 n (by omega)
      obtain ⟨R, hR⟩ : ∃ R, Go.Lib.decDigits n = R := ⟨_, rfl⟩
      rw [hR] at HC hRl ⊢
      have hcat : (9223372036854775807 < 1 + R.length) = False := no_big (by omega)
      clear hR
      go_enter Tryd.func22, Tryd.ntmps22
      go_wp2_with fail
      refine (HC.out _).mono ?_
      rintro _ _ ⟨rfl, y, rfl⟩
      dsimp only
      go_wp2
      go_ret
      exact Ret.mk (by exact str_val (bytes_app [120] R)) (by (repeat' (first | (with_reducible exact Below.refl _ _) | (with_reducible exact Nat.le_refl _) | (with_reducible refine Below.bel ?_ ?_) | (with_reducible refine Below.alloc ?_ ?_ _) | (with_reducible refine Below.drew ?_) | (with_reducible refine Below.drawsN ?_ _) | (with_reducible refine Below.setCell ?_ ?_ _) | (with_reducible refine le_bel ?_) | (with_reducible refine le_alloc ?_) | (with_reducible refine le_setCell ?_) | (with_reducible refine le_drew ?_) | (with_reducible refine le_drawsN ?_) | (dsimp only; with_reducible refine le_bel ?_) | (dsimp only; with_reducible refine Nat.le_refl _) | (dsimp only; with_reducible refine le_bel_add ?_) | (with_reducible assumption) | omega | (dsimp only; omega))))
    · obtain ⟨bb, off, rfl, hp, hcs⟩ := insF_at hlt (by simp)
      obtain ⟨c0, c1, ad', cap', c2, hiu⟩ := cellF_open (hcs 0 t rfl)
      rw [Nat.zero_mul, Nat.add_zero] at c0 c1 c2
      rw [txt, if_neg (by decide), if_pos rfl, txtH]
      have htn : nodes t ≤ N ∧ nodes t ≤ 10000 := by have h1 := HNL.out; have h2 := HBIG.out; rw [nodesL, nodesL] at h1 h2; omega
      have HI := Lib.hid (fun w' (hiu : InsF (fun c => c < w.heap.size) w' ad' t.l) => ih t htn.1 HOKL.out.1 _ ad' cap' w' hiu htn.2)
      have HU := Lib.hid hiu
      have hRl := txt_len t HOKL.out.1
      clear hiu hcs hlt
      obtain ⟨R, hR⟩ : ∃ R, txt t = R := ⟨_, rfl⟩
      rw [hR] at HI hRl ⊢
      have hcat : (9223372036854775807 < 1 + R.length) = False := no_big (by omega)
      clear hR
      go_enter Tryd.func22, Tryd.ntmps22
      go_wp2_with fail
      refine (HI.out _ (HU.out.of (by (repeat' (first | (with_reducible exact Below.refl _ _) | (with_reducible exact Nat.le_refl _) | (with_reducible refine Below.bel ?_ ?_) | (with_reducible refine Below.alloc ?_ ?_ _) | (with_reducible refine Below.drew ?_) | (with_reducible refine Below.drawsN ?_ _) | (with_reducible refine Below.setCell ?_ ?_ _) | (with_reducible refine le_bel ?_) | (with_reducible refine le_alloc ?_) | (with_reducible refine le_setCell ?_) | (with_reducible refine le_drew ?_) | (with_reducible refine le_drawsN ?_) | (dsimp only; with_reducible refine le_bel ?_) | (dsimp only; with_reducible refine Nat.le_refl _) | (dsimp only; with_reducible refine le_bel_add ?_) | (with_reducible assumption) | omega | (dsimp only; omega)))))).mono ?_
      rintro _ _ ⟨rfl, y, rfl⟩
      dsimp only
      go_wp2
      go_ret
      exact Ret.mk (by exact str_val (bytes_app [33] R)) (by (repeat' (first | (with_reducible exact Below.refl _ _) | (with_reducible exact Nat.le_refl _) | (with_reducible refine Below.bel ?_ ?_) | (with_reducible refine Below.alloc ?_ ?_ _) | (with_reducible refine Below.drew ?_) | (with_reducible refine Below.drawsN ?_ _) | (with_reducible refine Below.setCell ?_ ?_ _) | (with_reducible refine le_bel ?_) | (with_reducible refine le_alloc ?_) | (with_reducible refine le_setCell ?_) | (with_reducible refine le_drew ?_) | (with_reducible refine le_drawsN ?_) | (dsimp only; with_reducible refine le_bel ?_) | (dsimp only; with_reducible refine Nat.le_refl _) | (dsimp only; with_reducible refine le_bel_add ?_) | (with_reducible assumption) | omega | (dsimp only; omega))))
    · rw [txt, if_neg (by omega), if_neg (by omega), if_neg (by omega), if_neg (by omega)]
      rcases hk with rfl | rfl
      · rw [if_pos rfl]
        have HC := Lib.hid (fun u (hu : u ∈ tl) ad' cap' w' (hiu : InsF (fun c => c < w.heap.size) w' ad' u.l) => ih u (Nat.le_trans (nodesL_mem hu) HNL.out) (okL_mem HOKL.out hu) _ ad' cap' w' hiu (Nat.le_trans (nodesL_mem hu) HBIG.out))
        go_enter Tryd.func22, Tryd.ntmps22
        go_wp2
        go_loopw [3, 4] (fun s i wr => ∃ k : Nat, i = .int .i64 (k : Int) ∧ k ≤ tl.length ∧ s = .string ⟨(38 :: 40 :: txtL (tl.take k)).toArray⟩ ∧ wr.heap[w.heap.size]? = some (.cells #[.int .i64 3, .int .i64 0, .slice ad tl.length cap] 36 (0, 0)) ∧ Below w.heap.size w wr) (fun _ i _ => tl.length - (intOf i).toNat)
        case atStart => exact ⟨0, rfl, by omega, rfl, World.alloc_heap_new _ _, by (repeat' (first | (with_reducible exact Below.refl _ _) | (with_reducible exact Nat.le_refl _) | (with_reducible refine Below.bel ?_ ?_) | (with_reducible refine Below.alloc ?_ ?_ _) | (with_reducible refine Below.drew ?_) | (with_reducible refine Below.drawsN ?_ _) | (with_reducible refine Below.setCell ?_ ?_ _) | (with_reducible refine le_bel ?_) | (with_reducible refine le_alloc ?_) | (with_reducible refine le_setCell ?_) | (with_reducible refine le_drew ?_) | (with_reducible refine le_drawsN ?_) | (dsimp only; with_reducible refine le_bel ?_) | (dsimp only; with_reducible refine Nat.le_refl _) | (dsimp only; with_reducible refine le_bel_add ?_) | (with_reducible assumption) | omega | (dsimp only; omega)))⟩
        case round =>
          obtain ⟨k, rfl, hk, rfl, hf1, hb⟩ := hrel
          have hiW := below_move hlt (fun _ h => h) hb
          obtain ⟨b0, b1, b2⟩ := box3 hf1
          have hSl := txtL_len (tl.take k) (okL_take HOKL.out k)
          have hSn := nodesL_take' tl k
          have hSb := HBIG.out
          rcases Nat.lt_or_ge k tl.length with hkl | hkl
          · obtain ⟨u, hu⟩ := some_at hkl
            have hum := List.mem_of_getElem? hu
            obtain ⟨bb, off, hadd, hp, hcs⟩ := insF_at hiW (by omega)
            cases hadd
            obtain ⟨c0, c1, ad', cap', c2, hiu⟩ := cellF_open (hcs k u hu)
            have f0 : decide ((k : Int) < (tl.length : Int)) = true := decide_eq_true (by omega)
            have hib : (0 ≤ (k : Int) ∧ (k : Int) < (tl.length : Int)) := ⟨by omega, by omega⟩
            have hRl := txt_len u (okL_mem HOKL.out hum)
            have hun := nodesL_mem hum
            have HCC := Lib.hid (HC.out u hum ad' cap')
            have hsn := txtL_snoc (tl.take k) u
            rw [show tl.take k ++ [u] = tl.take (k + 1) by rw [List.take_add_one, hu]; rfl] at hsn
            obtain ⟨R, hR⟩ : ∃ R, txt u = R := ⟨_, rfl⟩
            rw [hR] at HCC hRl hsn
            have HI1 := Lib.hid hiu
            have HF1 := Lib.hid hf1
            have HB1 := Lib.hid hb
            have HSN := Lib.hid hsn
            clear hcs hiW hiu hp hf1 hR hsn hb
            rcases Nat.eq_zero_or_pos k with hk0 | hk0
            · have f2 : decide ((0 : Int) < (k : Int)) = false := decide_eq_false (by omega)
              have HSN2 := Lib.hid HSN.out
              have htk : tl.take k = [] := by rw [hk0]; rfl
              rw [htk, if_pos rfl, show txtL [] = [] from rfl, List.nil_append] at HSN2
              rw [htk, show txtL [] = [] from rfl]
              have f3 : decide (0 < k) = false := decide_eq_false (by omega)
              have f4 : (0 < k) = False := eq_false (by omega)
              clear hk0 htk
              have hcat : (9223372036854775807 < 2 + R.length) = False := no_big (by omega)
              go_wp2_with fail
              refine (HCC.out _ (HI1.out.of (by (repeat' (first | (with_reducible exact Below.refl _ _) | (with_reducible exact Nat.le_refl _) | (with_reducible refine Below.bel ?_ ?_) | (with_reducible refine Below.alloc ?_ ?_ _) | (with_reducible refine Below.drew ?_) | (with_reducible refine Below.drawsN ?_ _) | (with_reducible refine Below.setCell ?_ ?_ _) | (with_reducible refine le_bel ?_) | (with_reducible refine le_alloc ?_) | (with_reducible refine le_setCell ?_) | (with_reducible refine le_drew ?_) | (with_reducible refine le_drawsN ?_) | (dsimp only; with_reducible refine le_bel ?_) | (dsimp only; with_reducible refine Nat.le_refl _) | (dsimp only; with_reducible refine le_bel_add ?_) | (with_reducible assumption) | omega | (dsimp only; omega)))))).mono ?_
              rintro _ _ ⟨rfl, y, rfl⟩
              dsimp only
              go_wp2
              go_roundw
              case rel => exact ⟨k + 1, by go_num, by omega, by rw [HSN2.out]; exact str_val (bytes_app [38, 40] R), obj_bel y HF1.out, HB1.out.trans (y.below.mono HB1.out.size)⟩
              case measure => simp [intOf]; omega
            · have f2 : decide ((0 : Int) < (k : Int)) = true := decide_eq_true (by omega)
              have HSN2 := Lib.hid HSN.out
              rw [if_neg (fun e => by have := congrArg List.length e; rw [List.length_take, List.length_nil] at this; omega)] at HSN2
              obtain ⟨S, hS⟩ : ∃ S, 38 :: 40 :: txtL (tl.take k) = S := ⟨_, rfl⟩
              have hSS : S.length = (txtL (tl.take k)).length + 2 := by rw [← hS]; rfl
              rw [hS]
              have HS2 := Lib.hid hS
              clear hS
              have hcat : (9223372036854775807 < S.length + 1) = False := no_big (by omega)
              have happ := bytes_app S [32]
              have hcat2 : (9223372036854775807 < (S ++ [32]).length + R.length) = False := no_big (by rw [List.length_append]; simp; omega)
              go_wp2_with fail
              refine (HCC.out _ (HI1.out.of (by (repeat' (first | (with_reducible exact Below.refl _ _) | (with_reducible exact Nat.le_refl _) | (with_reducible refine Below.bel ?_ ?_) | (with_reducible refine Below.alloc ?_ ?_ _) | (with_reducible refine Below.drew ?_) | (with_reducible refine Below.drawsN ?_ _) | (with_reducible refine Below.setCell ?_ ?_ _) | (with_reducible refine le_bel ?_) | (with_reducible refine le_alloc ?_) | (with_reducible refine le_setCell ?_) | (with_reducible refine le_drew ?_) | (with_reducible refine le_drawsN ?_) | (dsimp only; with_reducible refine le_bel ?_) | (dsimp only; with_reducible refine Nat.le_refl _) | (dsimp only; with_reducible refine le_bel_add ?_) | (with_reducible assumption) | omega | (dsimp only; omega)))))).mono ?_
              rintro _ _ ⟨rfl, y, rfl⟩
              have happ2 := bytes_app (S ++ [32]) R
              dsimp only
              go_wp2
              go_roundw
              case rel => exact ⟨k + 1, by go_num, by omega, by rw [HSN2.out]; exact str_eq (by rw [← HS2.out]; simp), obj_bel y HF1.out, HB1.out.trans (y.below.mono HB1.out.size)⟩
              case measure => simp [intOf]; omega
          · have hke : k = tl.length := by omega
            subst hke
            have f0 : decide ((tl.length : Int) < (tl.length : Int)) = false := decide_eq_false (by omega)
            rw [List.take_length] at hSl ⊢
            obtain ⟨S, hS⟩ : ∃ S, 38 :: 40 :: txtL tl = S := ⟨_, rfl⟩
            have hSS : S.length = (txtL tl).length + 2 := by rw [← hS]; rfl
            rw [hS]
            have HS2 := Lib.hid (show 38 :: 40 :: (txtL tl ++ [41]) = S ++ [41] by rw [← hS]; rfl)
            have hcat : (9223372036854775807 < S.length + 1) = False := no_big (by omega)
            have happ := bytes_app S [41]
            have HB1 := Lib.hid hb
            clear hS hiW hb
            go_wp2
            have hb2 := HB1.out
            go_ret
            exact Ret.mk (by exact str_eq HS2.out.symm) (by (repeat' (first | (with_reducible exact Below.refl _ _) | (with_reducible exact Nat.le_refl _) | (with_reducible refine Below.bel ?_ ?_) | (with_reducible refine Below.alloc ?_ ?_ _) | (with_reducible refine Below.drew ?_) | (with_reducible refine Below.drawsN ?_ _) | (with_reducible refine Below.setCell ?_ ?_ _) | (with_reducible refine le_bel ?_) | (with_reducible refine le_alloc ?_) | (with_reducible refine le_setCell ?_) | (with_reducible refine le_drew ?_) | (with_reducible refine le_drawsN ?_) | (dsimp only; with_reducible refine le_bel ?_) | (dsimp only; with_reducible refine Nat.le_refl _) | (dsimp only; with_reducible refine le_bel_add ?_) | (with_reducible assumption) | omega | (dsimp only; omega))))
      · rw [if_neg (by decide)]
        have HC := Lib.hid (fun u (hu : u ∈ tl) ad' cap' w' (hiu : InsF (fun c => c < w.heap.size) w' ad' u.l) => ih u (Nat.le_trans (nodesL_mem hu) HNL.out) (okL_mem HOKL.out hu) _ ad' cap' w' hiu (Nat.le_trans (nodesL_mem hu) HBIG.out))
        go_enter Tryd.func22, Tryd.ntmps22
        go_wp2
        go_loopw [3, 4] (fun s i wr => ∃ k : Nat, i = .int .i64 (k : Int) ∧ k ≤ tl.length ∧ s = .string ⟨(124 :: 40 :: txtL (tl.take k)).toArray⟩ ∧ wr.heap[w.heap.size]? = some (.cells #[.int .i64 4, .int .i64 0, .slice ad tl.length cap] 36 (0, 0)) ∧ Below w.heap.size w wr) (fun _ i _ => tl.length - (intOf i).toNat)
        case atStart => exact ⟨0, rfl, by omega, rfl, World.alloc_heap_new _ _, by (repeat' (first | (with_reducible exact Below.refl _ _) | (with_reducible exact Nat.le_refl _) | (with_reducible refine Below.bel ?_ ?_) | (with_reducible refine Below.alloc ?_ ?_ _) | (with_reducible refine Below.drew ?_) | (with_reducible refine Below.drawsN ?_ _) | (with_reducible refine Below.setCell ?_ ?_ _) | (with_reducible refine le_bel ?_) | (with_reducible refine le_alloc ?_) | (with_reducible refine le_setCell ?_) | (with_reducible refine le_drew ?_) | (with_reducible refine le_drawsN ?_) | (dsimp only; with_reducible refine le_bel ?_) | (dsimp only; with_reducible refine Nat.le_refl _) | (dsimp only; with_reducible refine le_bel_add ?_) | (with_reducible assumption) | omega | (dsimp only; omega)))⟩
        case round =>
          obtain ⟨k, rfl, hk, rfl, hf1, hb⟩ := hrel
          have hiW := below_move hlt (fun _ h => h) hb
          obtain ⟨b0, b1, b2⟩ := box3 hf1
          have hSl := txtL_len (tl.take k) (okL_take HOKL.out k)
          have hSn := nodesL_take' tl k
          have hSb := HBIG.out
          rcases Nat.lt_or_ge k tl.length with hkl | hkl
          · obtain ⟨u, hu⟩ := some_at hkl
            have hum := List.mem_of_getElem? hu
            obtain ⟨bb, off, hadd, hp, hcs⟩ := insF_at hiW (by omega)
            cases hadd
            obtain ⟨c0, c1, ad', cap', c2, hiu⟩ := cellF_open (hcs k u hu)
            have f0 : decide ((k : Int) < (tl.length : Int)) = true := decide_eq_true (by omega)
            have hib : (0 ≤ (k : Int) ∧ (k : Int) < (tl.length : Int)) := ⟨by omega, by omega⟩
            have hRl := txt_len u (okL_mem HOKL.out hum)
            have hun := nodesL_mem hum
            have HCC := Lib.hid (HC.out u hum ad' cap')
            have hsn := txtL_snoc (tl.take k) u
            rw [show tl.take k ++ [u] = tl.take (k + 1) by rw [List.take_add_one, hu]; rfl] at hsn
            obtain ⟨R, hR⟩ : ∃ R, txt u = R := ⟨_, rfl⟩
            rw [hR] at HCC hRl hsn
            have HI1 := Lib.hid hiu
            have HF1 := Lib.hid hf1
            have HB1 := Lib.hid hb
            have HSN := Lib.hid hsn
            clear hcs hiW hiu hp hf1 hR hsn hb
            rcases Nat.eq_zero_or_pos k with hk0 | hk0
            · have f2 : decide ((0 : Int) < (k : Int)) = false := decide_eq_false (by omega)
              have HSN2 := Lib.hid HSN.out
              have htk : tl.take k = [] := by rw [hk0]; rfl
              rw [htk, if_pos rfl, show txtL [] = [] from rfl, List.nil_append] at HSN2
              rw [htk, show txtL [] = [] from rfl]
              have f3 : decide (0 < k) = false := decide_eq_false (by omega)
              have f4 : (0 < k) = False := eq_false (by omega)
              clear hk0 htk
              have hcat : (9223372036854775807 < 2 + R.length) = False := no_big (by omega)
              go_wp2_with fail
              refine (HCC.out _ (HI1.out.of (by (repeat' (first | (with_reducible exact Below.refl _ _) | (with_reducible exact Nat.le_refl _) | (with_reducible refine Below.bel ?_ ?_) | (with_reducible refine Below.alloc ?_ ?_ _) | (with_reducible refine Below.drew ?_) | (with_reducible refine Below.drawsN ?_ _) | (with_reducible refine Below.setCell ?_ ?_ _) | (with_reducible refine le_bel ?_) | (with_reducible refine le_alloc ?_) | (with_reducible refine le_setCell ?_) | (with_reducible refine le_drew ?_) | (with_reducible refine le_drawsN ?_) | (dsimp only; with_reducible refine le_bel ?_) | (dsimp only; with_reducible refine Nat.le_refl _) | (dsimp only; with_reducible refine le_bel_add ?_) | (with_reducible assumption) | omega | (dsimp only; omega)))))).mono ?_
              rintro _ _ ⟨rfl, y, rfl⟩
              dsimp only
              go_wp2
              go_roundw
              case rel => exact ⟨k + 1, by go_num, by omega, by rw [HSN2.out]; exact str_val (bytes_app [124, 40] R), obj_bel y HF1.out, HB1.out.trans (y.below.mono HB1.out.size)⟩
              case measure => simp [intOf]; omega
            · have f2 : decide ((0 : Int) < (k : Int)) = true := decide_eq_true (by omega)
              have HSN2 := Lib.hid HSN.out
              rw [if_neg (fun e => by have := congrArg List.length e; rw [List.length_take, List.length_nil] at this; omega)] at HSN2
              obtain ⟨S, hS⟩ : ∃ S, 124 :: 40 :: txtL (tl.take k) = S := ⟨_, rfl⟩
              have hSS : S.length = (txtL (tl.take k)).length + 2 := by rw [← hS]; rfl
              rw [hS]
              have HS2 := Lib.hid hS
              clear hS
              have hcat : (9223372036854775807 < S.length + 1) = False := no_big (by omega)
              have happ := bytes_app S [32]
              have hcat2 : (9223372036854775807 < (S ++ [32]).length + R.length) = False := no_big (by rw [List.length_append]; simp; omega)
              go_wp2_with fail
              refine (HCC.out _ (HI1.out.of (by (repeat' (first | (with_reducible exact Below.refl _ _) | (with_reducible exact Nat.le_refl _) | (with_reducible refine Below.bel ?_ ?_) | (with_reducible refine Below.alloc ?_ ?_ _) | (with_reducible refine Below.drew ?_) | (with_reducible refine Below.drawsN ?_ _) | (with_reducible refine Below.setCell ?_ ?_ _) | (with_reducible refine le_bel ?_) | (with_reducible refine le_alloc ?_) | (with_reducible refine le_setCell ?_) | (with_reducible refine le_drew ?_) | (with_reducible refine le_drawsN ?_) | (dsimp only; with_reducible refine le_bel ?_) | (dsimp only; with_reducible refine Nat.le_refl _) | (dsimp only; with_reducible refine le_bel_add ?_) | (with_reducible assumption) | omega | (dsimp only; omega)))))).mono ?_
              rintro _ _ ⟨rfl, y, rfl⟩
              have happ2 := bytes_app (S ++ [32]) R
              dsimp only
              go_wp2
              go_roundw
              case rel => exact ⟨k + 1, by go_num, by omega, by rw [HSN2.out]; exact str_eq (by rw [← HS2.out]; simp), obj_bel y HF1.out, HB1.out.trans (y.below.mono HB1.out.size)⟩
              case measure => simp [intOf]; omega
          · have hke : k = tl.length := by omega
            subst hke
            have f0 : decide ((tl.length : Int) < (tl.length : Int)) = false := decide_eq_false (by omega)
            rw [List.take_length] at hSl ⊢
            obtain ⟨S, hS⟩ : ∃ S, 124 :: 40 :: txtL tl = S := ⟨_, rfl⟩
            have hSS : S.length = (txtL tl).length + 2 := by rw [← hS]; rfl
            rw [hS]
            have HS2 := Lib.hid (show 124 :: 40 :: (txtL tl ++ [41]) = S ++ [41] by rw [← hS]; rfl)
            have hcat : (9223372036854775807 < S.length + 1) = False := no_big (by omega)
            have happ := bytes_app S [41]
            have HB1 := Lib.hid hb
            clear hS hiW hb
            go_wp2
            have hb2 := HB1.out
            go_ret
            exact Ret.mk (by exact str_eq HS2.out.symm) (by (repeat' (first | (with_reducible exact Below.refl _ _) | (with_reducible exact Nat.le_refl _) | (with_reducible refine Below.bel ?_ ?_) | (with_reducible refine Below.alloc ?_ ?_ _) | (with_reducible refine Below.drew ?_) | (with_reducible refine Below.drawsN ?_ _) | (with_reducible refine Below.setCell ?_ ?_ _) | (with_reducible refine le_bel ?_) | (with_reducible refine le_alloc ?_) | (with_reducible refine le_setCell ?_) | (with_reducible refine le_drew ?_) | (with_reducible refine le_drawsN ?_) | (dsimp only; with_reducible refine le_bel ?_) | (dsimp only; with_reducible refine Nat.le_refl _) | (dsimp only; with_reducible refine le_bel_add ?_) | (with_reducible assumption) | omega | (dsimp only; omega))))
    · go_enter Tryd.func22, Tryd.ntmps22
      rcases hk with rfl | rfl
      · go_wp2
        go_ret
        exact Ret.mk (by rfl) (by (repeat' (first | (with_reducible exact Below.refl _ _) | (with_reducible exact Nat.le_refl _) | (with_reducible refine Below.bel ?_ ?_) | (with_reducible refine Below.alloc ?_ ?_ _) | (with_reducible refine Below.drew ?_) | (with_reducible refine Below.drawsN ?_ _) | (with_reducible refine Below.setCell ?_ ?_ _) | (with_reducible refine le_bel ?_) | (with_reducible refine le_alloc ?_) | (with_reducible refine le_setCell ?_) | (with_reducible refine le_drew ?_) | (with_reducible refine le_drawsN ?_) | (dsimp only; with_reducible refine le_bel ?_) | (dsimp only; with_reducible refine Nat.le_refl _) | (dsimp only; with_reducible refine le_bel_add ?_) | (with_reducible assumption) | omega | (dsimp only; omega))))
      · go_wp2
        go_ret
        exact Ret.mk (by rfl) (by (repeat' (first | (with_reducible exact Below.refl _ _) | (with_reducible exact Nat.le_refl _) | (with_reducible refine Below.bel ?_ ?_) | (with_reducible refine Below.alloc ?_ ?_ _) | (with_reducible refine Below.drew ?_) | (with_reducible refine Below.drawsN ?_ _) | (with_reducible refine Below.setCell ?_ ?_ _) | (with_reducible refine le_bel ?_) | (with_reducible refine le_alloc ?_) | (with_reducible refine le_setCell ?_) | (with_reducible refine le_drew ?_) | (with_reducible refine le_drawsN ?_) | (dsimp only; with_reducible refine le_bel ?_) | (dsimp only; with_reducible refine Nat.le_refl _) | (dsimp only; with_reducible refine le_bel_add ?_) | (with_reducible assumption) | omega | (dsimp only; omega))))
end Go.Proofs.YtkbellmhanpocaaDoor
