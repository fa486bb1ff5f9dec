/- The walk of NotesetMembers. -/
import Derived.Test.YtjojdkdpdlmahaaDoorK
import Derived.Test.YtjojdkdpdlmahaaDoorE6
import Derived.Test.YtjojdkdpdlmahaaDoorChain
namespace Go.Proofs.YtjojdkdpdlmahaaDoor
open Go.RowKit
attribute [local go_sem low] Bel.cell Bel.frozen alloc_cell alloc_frozen
attribute [local go_sem] calmOp chainOp yieldsC grows

theorem mems_le (lo hi : Nat) : (mems lo hi).length ≤ 128 := by
  have := memF_len lo hi
  rw [← memF_val, List.length_map]; exact this
theorem same_true (v u : Value) (l : List Nat) (w : World) (hv : ShowsV w v (natVs l)) (hu : ShowsV w u (natVs l)) (hl : l.length ≤ 128) : Calls Tryd.prog 37 #[v, u] w (Ret (.bool true) w) := by
  have := refsame_any v u l l w hv hu (by omega) (by omega)
  rwa [decide_eq_true rfl] at this
set_option maxRecDepth 100000 in
set_option maxHeartbeats 6400000 in
theorem lawMembers_any (lo hi : Nat) (n : Int) (w : World) (hL : Lib3 w) (h1 : lo < 18446744073709551616) (h2 : hi < 18446744073709551616) (hn1 : -9223372036854775808 ≤ n) (hn2 : n ≤ 9223372036854775807) :
    Calls Tryd.prog 10 #[.agg #[.int .u64 (lo : Int), .int .u64 (hi : Int)], .int .i64 n] w (Ret (.bool true) w) := by
  have HL := Lib.hid hL
  clear hL
  have hlen := mems_le lo hi
  have HM := Lib.hid (fun w' (hT : Tz w') => members_any lo hi w' h1 h2 hT)
  have HI := Lib.hid (fun w' => reflist_any lo hi w' h1 h2)
  have HE := Lib.hid (fun w' (hT : Tz w') => least_any lo hi w' h1 h2 hT)
  have HG := Lib.hid (fun w' => great_any lo hi w' h1 h2)
  have HC := Lib.hid (fun w' => show Calls Tryd.prog 24 #[.agg #[.int .u64 (lo : Int), .int .u64 (hi : Int)]] w' (Ret (.int .i64 ((mems lo hi).length : Int)) w') by
    rw [mems_len, Int.natCast_add]; exact count_any lo hi w' h1 h2)
  have HH := Lib.hid (fun w' => has_any lo hi n w' h1 h2)
  have HR := Lib.hid (fun w' => refhas_any lo hi n w' h1 h2 hn1 hn2)
  go_enter Tryd.func10, Tryd.ntmps10
  go_wp2_with fail
  (with_reducible refine (known_any _ (HL.out.of (by (repeat' (first | (with_reducible exact Below.refl _ _) | (with_reducible exact Nat.le_refl _) | (with_reducible refine Below.bel ?_ ?_) | (with_reducible refine Below.alloc ?_ ?_ _) | (with_reducible refine Below.drew ?_) | (with_reducible refine Below.drawsN ?_ _) | (with_reducible refine Below.setCell ?_ ?_ _) | (with_reducible refine le_bel ?_) | (with_reducible refine le_alloc ?_) | (with_reducible refine le_setCell ?_) | (with_reducible refine le_drew ?_) | (with_reducible refine le_drawsN ?_) | (dsimp only; with_reducible refine le_bel ?_) | (dsimp only; with_reducible refine Nat.le_refl _) | (dsimp only; with_reducible refine le_bel_add ?_) | (with_reducible assumption) | omega | (dsimp only; omega)))))).mono ?_)
  rintro _ _ ⟨rfl, x, rfl⟩
  have hxs := x.size_le
  simp at hxs
  go_wp2_with fail
  (with_reducible refine (HI.out _).mono ?_)
  rintro _ _ ⟨v, rfl, y, rfl, hv⟩
  have hys := y.size_le
  obtain ⟨pa, cap, rfl, hcc⟩ := showsV_at (ownV_shows hv)
  rw [natVs_len] at hcc ⊢
  have HV := Lib.hid (show ShowsV y.w (.slice pa (mems lo hi).length cap) (natVs (mems lo hi)) by have := ownV_shows hv; rw [natVs_len] at this; exact this)
  have HCC := Lib.hid hcc
  clear hv hcc
  dsimp only
  go_wp2_with fail
  (with_reducible refine (HE.out _ (HL.out.of (by (repeat' (first | (with_reducible exact Below.refl _ _) | (with_reducible exact Nat.le_refl _) | (with_reducible refine Below.bel ?_ ?_) | (with_reducible refine Below.alloc ?_ ?_ _) | (with_reducible refine Below.drew ?_) | (with_reducible refine Below.drawsN ?_ _) | (with_reducible refine Below.setCell ?_ ?_ _) | (with_reducible refine le_bel ?_) | (with_reducible refine le_alloc ?_) | (with_reducible refine le_setCell ?_) | (with_reducible refine le_drew ?_) | (with_reducible refine le_drawsN ?_) | (dsimp only; with_reducible refine le_bel ?_) | (dsimp only; with_reducible refine Nat.le_refl _) | (dsimp only; with_reducible refine le_bel_add ?_) | (with_reducible assumption) | omega | (dsimp only; omega))))).tz).mono ?_)
  rintro _ _ ⟨rfl, u, rfl⟩
  have hus := u.size_le
  obtain ⟨L, hL⟩ : ∃ L, mems lo hi = L := ⟨_, rfl⟩
  unfold leastV at *
  unfold greatV at HG
  rw [hL] at HM HI HE HG HC HV HCC hlen ⊢
  obtain ⟨A, hA⟩ : ∃ A, memI lo hi n = A := ⟨_, rfl⟩
  rw [hA] at HH HR
  clear hA
  have HLN := Lib.hid hlen
  cases L with
  | nil =>
    simp only [List.getLast?_nil] at HG
    dsimp only
    go_wp2_with fail
    (with_reducible refine (HG.out _).mono ?_)
    rintro _ _ ⟨rfl, g, rfl⟩
    have hgs := g.size_le
    dsimp only
    go_wp2_with fail
    refine wp_region_plan 20 (.calm 0 (.calm 2 (.fork 1 (.calm 3 (.calm 4 (.calm 5 (.calm 6 (.calm 7 (.calm 8 (.calm 9 (.calm 10 (.calm 11 (.calm 12 (.calm 13 (.calm 14 (.calm 15 (.calm 16 (.calm 17 (.calm 18 (.calm 19 .tail))))))))))))))))) .none))) (by kernel_rfl) (by kernel_rfl) ?_
    simp only [Plan.walk, operAt, List.getElem?_cons_succ, List.getElem?_cons_zero, Option.getD_some, List.drop_succ_cons, List.drop_zero]
    repeat (refine wpX_calm (fun K hK => ?_); go_simp; first | (refine hK _ _ ?_; clear hK K) | (apply Exists.intro; refine ⟨fun _ => ?_, hK _ _ ?_⟩; (fail); clear hK K))
    refine wpX_only (fun K hK => ?_)
    go_simp
    intro q
    have hqs := q.size_le
    refine (HM.out _ (HL.out.of (by (repeat' (first | (with_reducible exact Below.refl _ _) | (with_reducible exact Nat.le_refl _) | (with_reducible refine Below.bel ?_ ?_) | (with_reducible refine Below.alloc ?_ ?_ _) | (with_reducible refine Below.drew ?_) | (with_reducible refine Below.drawsN ?_ _) | (with_reducible refine Below.setCell ?_ ?_ _) | (with_reducible refine le_bel ?_) | (with_reducible refine le_alloc ?_) | (with_reducible refine le_setCell ?_) | (with_reducible refine le_drew ?_) | (with_reducible refine le_drawsN ?_) | (dsimp only; with_reducible refine le_bel ?_) | (dsimp only; with_reducible refine Nat.le_refl _) | (dsimp only; with_reducible refine le_bel_add ?_) | (with_reducible assumption) | omega | (dsimp only; omega))))).tz).mono ?_
    rintro _ _ ⟨v2, rfl, m, rfl, hv2⟩
    have hms := m.size_le
    refine ⟨_, rfl, m.below, hK _ _ ?_⟩
    clear hK K
    have HV2 := Lib.hid (ownV_shows hv2)
    clear hv2
    repeat (refine wpX_calm (fun K hK => ?_); go_simp; first | (refine hK _ _ ?_; clear hK K) | (apply Exists.intro; refine ⟨fun _ => ?_, hK _ _ ?_⟩; (first | (go_at_call 37; with_reducible exact same_true _ _ _ _ (showsV_of HV2.out (by (repeat' (first | (with_reducible exact Below.refl _ _) | (with_reducible exact Nat.le_refl _) | (with_reducible refine Below.bel ?_ ?_) | (with_reducible refine Below.alloc ?_ ?_ _) | (with_reducible refine Below.drew ?_) | (with_reducible refine Below.drawsN ?_ _) | (with_reducible refine Below.setCell ?_ ?_ _) | (with_reducible refine le_bel ?_) | (with_reducible refine le_alloc ?_) | (with_reducible refine le_setCell ?_) | (with_reducible refine le_drew ?_) | (with_reducible refine le_drawsN ?_) | (dsimp only; with_reducible refine le_bel ?_) | (dsimp only; with_reducible refine Nat.le_refl _) | (dsimp only; with_reducible refine le_bel_add ?_) | (with_reducible assumption) | omega | (dsimp only; omega))))) (showsV_of HV.out (by (repeat' (first | (with_reducible exact Below.refl _ _) | (with_reducible exact Nat.le_refl _) | (with_reducible refine Below.bel ?_ ?_) | (with_reducible refine Below.alloc ?_ ?_ _) | (with_reducible refine Below.drew ?_) | (with_reducible refine Below.drawsN ?_ _) | (with_reducible refine Below.setCell ?_ ?_ _) | (with_reducible refine le_bel ?_) | (with_reducible refine le_alloc ?_) | (with_reducible refine le_setCell ?_) | (with_reducible refine le_drew ?_) | (with_reducible refine le_drawsN ?_) | (dsimp only; with_reducible refine le_bel ?_) | (dsimp only; with_reducible refine Nat.le_refl _) | (dsimp only; with_reducible refine le_bel_add ?_) | (with_reducible assumption) | omega | (dsimp only; omega))))) HLN.out) | (go_at_call 24; with_reducible exact HC.out _) | (go_at_call 26; with_reducible exact HH.out _) | (go_at_call 25; with_reducible exact HR.out _)); clear hK K))
    refine wpX_tail ?_
    intro z
    go_wp2
    go_ret
    exact Ret.mk (by rfl) (by (repeat' (first | (with_reducible exact Below.refl _ _) | (with_reducible exact Nat.le_refl _) | (with_reducible refine Below.bel ?_ ?_) | (with_reducible refine Below.alloc ?_ ?_ _) | (with_reducible refine Below.drew ?_) | (with_reducible refine Below.drawsN ?_ _) | (with_reducible refine Below.setCell ?_ ?_ _) | (with_reducible refine le_bel ?_) | (with_reducible refine le_alloc ?_) | (with_reducible refine le_setCell ?_) | (with_reducible refine le_drew ?_) | (with_reducible refine le_drawsN ?_) | (dsimp only; with_reducible refine le_bel ?_) | (dsimp only; with_reducible refine Nat.le_refl _) | (dsimp only; with_reducible refine le_bel_add ?_) | (with_reducible assumption) | omega | (dsimp only; omega))))
  | cons n0 r =>
    obtain ⟨m0, hm0⟩ : ∃ m0, (n0 :: r).getLast? = some m0 := ⟨_, List.getLast?_eq_some_getLast (List.cons_ne_nil _ _)⟩
    rw [hm0] at HG
    rw [List.getLast?_eq_getElem?] at hm0
    obtain ⟨b, off, rfl, hc⟩ := HCC.out (by simp)
    have c0 := hc 0 _ (natVs_get rfl)
    have c1 := hc _ _ (natVs_get hm0)
    simp only [Nat.add_zero] at c0
    simp only [List.length_cons, Nat.add_sub_cancel] at c1 hlen
    have hr0 : (0 : Int) < ((r.length + 1 : Nat) : Int) := by omega
    have hr1 : (r.length : Int) < ((r.length + 1 : Nat) : Int) := by omega
    have hr2 : ((((r.length + 1 : Nat) : Int)) == 0) = false := by simp; omega
    have hr3 : IntKind.i64.wrap (((r.length + 1 : Nat) : Int) - 1) = (r.length : Int) := by rw [IntWalk.i64_in _ (by omega)]; omega
    rw [List.length_cons] at HV HC
    rw [List.length_cons]
    clear hc hm0 HCC
    dsimp only
    go_wp2_with fail
    (with_reducible refine (HG.out _).mono ?_)
    rintro _ _ ⟨rfl, g, rfl⟩
    have hgs := g.size_le
    dsimp only
    go_wp2_with fail
    refine wp_region_plan 20 (.calm 0 (.calm 2 (.fork 1 (.calm 3 (.calm 4 (.calm 5 (.calm 6 (.calm 7 (.calm 8 (.calm 9 (.calm 10 (.calm 11 (.calm 12 (.calm 13 (.calm 14 (.calm 15 (.calm 16 (.calm 17 (.calm 18 (.calm 19 .tail))))))))))))))))) .none))) (by kernel_rfl) (by kernel_rfl) ?_
    simp only [Plan.walk, operAt, List.getElem?_cons_succ, List.getElem?_cons_zero, Option.getD_some, List.drop_succ_cons, List.drop_zero]
    repeat (refine wpX_calm (fun K hK => ?_); go_simp; first | (refine hK _ _ ?_; clear hK K) | (apply Exists.intro; refine ⟨fun _ => ?_, hK _ _ ?_⟩; (fail); clear hK K))
    refine wpX_only (fun K hK => ?_)
    go_simp
    intro q
    have hqs := q.size_le
    refine (HM.out _ (HL.out.of (by (repeat' (first | (with_reducible exact Below.refl _ _) | (with_reducible exact Nat.le_refl _) | (with_reducible refine Below.bel ?_ ?_) | (with_reducible refine Below.alloc ?_ ?_ _) | (with_reducible refine Below.drew ?_) | (with_reducible refine Below.drawsN ?_ _) | (with_reducible refine Below.setCell ?_ ?_ _) | (with_reducible refine le_bel ?_) | (with_reducible refine le_alloc ?_) | (with_reducible refine le_setCell ?_) | (with_reducible refine le_drew ?_) | (with_reducible refine le_drawsN ?_) | (dsimp only; with_reducible refine le_bel ?_) | (dsimp only; with_reducible refine Nat.le_refl _) | (dsimp only; with_reducible refine le_bel_add ?_) | (with_reducible assumption) | omega | (dsimp only; omega))))).tz).mono ?_
    rintro _ _ ⟨v2, rfl, m, rfl, hv2⟩
    have hms := m.size_le
    refine ⟨_, rfl, m.below, hK _ _ ?_⟩
    clear hK K
    have HV2 := Lib.hid (ownV_shows hv2)
    clear hv2
    repeat (refine wpX_calm (fun K hK => ?_); go_simp; first | (refine hK _ _ ?_; clear hK K) | (apply Exists.intro; refine ⟨fun _ => ?_, hK _ _ ?_⟩; (first | (go_at_call 37; with_reducible exact same_true _ _ _ _ (showsV_of HV2.out (by (repeat' (first | (with_reducible exact Below.refl _ _) | (with_reducible exact Nat.le_refl _) | (with_reducible refine Below.bel ?_ ?_) | (with_reducible refine Below.alloc ?_ ?_ _) | (with_reducible refine Below.drew ?_) | (with_reducible refine Below.drawsN ?_ _) | (with_reducible refine Below.setCell ?_ ?_ _) | (with_reducible refine le_bel ?_) | (with_reducible refine le_alloc ?_) | (with_reducible refine le_setCell ?_) | (with_reducible refine le_drew ?_) | (with_reducible refine le_drawsN ?_) | (dsimp only; with_reducible refine le_bel ?_) | (dsimp only; with_reducible refine Nat.le_refl _) | (dsimp only; with_reducible refine le_bel_add ?_) | (with_reducible assumption) | omega | (dsimp only; omega))))) (showsV_of HV.out (by (repeat' (first | (with_reducible exact Below.refl _ _) | (with_reducible exact Nat.le_refl _) | (with_reducible refine Below.bel ?_ ?_) | (with_reducible refine Below.alloc ?_ ?_ _) | (with_reducible refine Below.drew ?_) | (with_reducible refine Below.drawsN ?_ _) | (with_reducible refine Below.setCell ?_ ?_ _) | (with_reducible refine le_bel ?_) | (with_reducible refine le_alloc ?_) | (with_reducible refine le_setCell ?_) | (with_reducible refine le_drew ?_) | (with_reducible refine le_drawsN ?_) | (dsimp only; with_reducible refine le_bel ?_) | (dsimp only; with_reducible refine Nat.le_refl _) | (dsimp only; with_reducible refine le_bel_add ?_) | (with_reducible assumption) | omega | (dsimp only; omega))))) HLN.out) | (go_at_call 24; with_reducible exact HC.out _) | (go_at_call 26; with_reducible exact HH.out _) | (go_at_call 25; with_reducible exact HR.out _)); clear hK K))
    refine wpX_tail ?_
    intro z
    go_wp2
    go_ret
    exact Ret.mk (by rfl) (by (repeat' (first | (with_reducible exact Below.refl _ _) | (with_reducible exact Nat.le_refl _) | (with_reducible refine Below.bel ?_ ?_) | (with_reducible refine Below.alloc ?_ ?_ _) | (with_reducible refine Below.drew ?_) | (with_reducible refine Below.drawsN ?_ _) | (with_reducible refine Below.setCell ?_ ?_ _) | (with_reducible refine le_bel ?_) | (with_reducible refine le_alloc ?_) | (with_reducible refine le_setCell ?_) | (with_reducible refine le_drew ?_) | (with_reducible refine le_drawsN ?_) | (dsimp only; with_reducible refine le_bel ?_) | (dsimp only; with_reducible refine Nat.le_refl _) | (dsimp only; with_reducible refine le_bel_add ?_) | (with_reducible assumption) | omega | (dsimp only; omega))))
end Go.Proofs.YtjojdkdpdlmahaaDoor
