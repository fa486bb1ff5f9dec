/- The reference's groups: slices of numbers below ten thousand; short, toInt, order. -/
import Derived.Test.YteglfhmmkoahfaaGreatDoorM27
import Derived.Test.YteglfhmmkoahfaaGreatDoorM2
namespace Go.Proofs.YteglfhmmkoahfaaGreatDoor
open Go.RowKit
attribute [local go_sem low] Bel.cell Bel.frozen alloc_cell alloc_frozen

theorem Tryz.infoI : (Tryz.prog.info? 3).map (fun i => (i.zero, i.size, i.bytes)) = some (some (.int .i64 0), 1, 8) := by kernel_rfl
abbrev GB : Nat := 10000
abbrev vG (l : List Nat) : Nat := valB 10000 l
abbrev grp (n : Nat) : List Nat := limbs 10000 n
def iVs (l : List Nat) : List Value := l.map fun n : Nat => Value.int .i64 (n : Int)
theorem iVs_len (l : List Nat) : (iVs l).length = l.length := List.length_map _
theorem iVs_snoc (l : List Nat) (n : Nat) : iVs l ++ [.int .i64 (n : Int)] = iVs (l ++ [n]) := by unfold iVs; rw [List.map_append]; rfl
theorem iVs_cons (l : List Nat) (n : Nat) : [.int .i64 (n : Int)] ++ iVs l = iVs (n :: l) := rfl
theorem iVs_get {l : List Nat} {j n : Nat} (h : l[j]? = some n) : (iVs l)[j]? = some (.int .i64 (n : Int)) := by unfold iVs; rw [List.getElem?_map, h]; rfl
theorem iVs_take (l : List Nat) (k : Nat) : iVs (l.take k) = (iVs l).take k := by unfold iVs; rw [List.map_take]
/-- The cells of a slice that shows groups. -/
def Grps (w : World) (a : Option Addr) (l : List Nat) : Prop := 0 < l.length → ∃ b off, a = some ⟨b, off, none⟩ ∧ ∀ (j x : Nat), l[j]? = some x → w.cell? ⟨b, off + j, none⟩ = some (.int .i64 (x : Int))
theorem grps_of {w w' : World} {a : Option Addr} {l : List Nat} (h : Grps w a l) (hb : Below w.heap.size w w') : Grps w' a l := fun h0 => by
  obtain ⟨b, off, ha, hc⟩ := h h0
  exact ⟨b, off, ha, fun j x hj => cell_carry hb (hc j x hj)⟩
theorem grps_own {w : World} {base : Nat} {v : Value} {l : List Nat} (h : OwnV w base 3 v (iVs l)) : ∃ a cap, v = .slice a l.length cap ∧ Grps w a l := by
  obtain ⟨a, cap, hv, hc⟩ := showsV_at (ownV_shows h)
  rw [iVs_len] at hv hc
  refine ⟨a, cap, hv, fun h0 => ?_⟩
  obtain ⟨b, off, ha, hcc⟩ := hc h0
  exact ⟨b, off, ha, fun j x hj => hcc j _ (iVs_get hj)⟩
theorem grps_nil (w : World) (a : Option Addr) : Grps w a [] := fun h => absurd h (by decide)
theorem own_trimG {w : World} {base : Nat} {e : TypeId} {a : Option Addr} {cap : Nat} {l : List Nat} (h : OwnV w base e (.slice a l.length cap) (iVs l)) : OwnV w base e (.slice a (trimL l).length cap) (iVs (trimL l)) := by
  obtain ⟨k, hk, he⟩ := trim_prefix l
  rw [he, iVs_take, show (l.take k).length = k by rw [List.length_take]; omega]
  rw [← iVs_len] at h hk
  exact own_take h hk
set_option maxHeartbeats 1600000 in
theorem short_any (a : Option Addr) (cap : Nat) (l : List Nat) (w : World) (h : Grps w a l) (hl : l.length ≤ 100000) (hc : l.length ≤ cap) :
    Calls Tryz.prog 72 #[.slice a l.length cap] w (Ret (.slice a (trimL l).length cap) w) := by
  go_enter Tryz.func72, Tryz.ntmps72
  go_wp2
  go_loopw [0] (fun v wr => ∃ k : Nat, k ≤ l.length ∧ v = .slice a k cap ∧ trimL (l.take k) = trimL l ∧ Below w.heap.size w wr) (fun v _ => match v with | .slice _ k _ => k | _ => 0)
  case atStart => exact ⟨l.length, by omega, rfl, by rw [List.take_length], by (repeat' (first | (with_reducible exact Below.refl _ _) | (with_reducible exact Nat.le_refl _) | (with_reducible refine Below.bel ?_ ?_) | (with_reducible refine Below.alloc ?_ ?_ _) | (with_reducible refine Below.drew ?_) | (with_reducible refine Below.drawsN ?_ _) | (with_reducible refine Below.setCell ?_ ?_ _) | (with_reducible refine le_bel ?_) | (with_reducible refine le_alloc ?_) | (with_reducible refine le_setCell ?_) | (with_reducible refine le_drew ?_) | (with_reducible refine le_drawsN ?_) | (dsimp only; with_reducible refine le_bel ?_) | (dsimp only; with_reducible refine Nat.le_refl _) | (dsimp only; with_reducible refine le_bel_add ?_) | (with_reducible assumption) | omega | (dsimp only; omega)))⟩
  case round =>
    obtain ⟨k, hk, rfl, ht, hb⟩ := hrel
    have hbs := hb.size
    by_cases h0 : k = 0
    · subst h0
      have HT := Lib.hid (show (trimL l).length = 0 by rw [← ht]; rfl)
      clear ht
      go_wp2
      go_ret
      exact Ret.mk (by rw [HT.out]; rfl) (by (repeat' (first | (with_reducible exact Below.refl _ _) | (with_reducible exact Nat.le_refl _) | (with_reducible refine Below.bel ?_ ?_) | (with_reducible refine Below.alloc ?_ ?_ _) | (with_reducible refine Below.drew ?_) | (with_reducible refine Below.drawsN ?_ _) | (with_reducible refine Below.setCell ?_ ?_ _) | (with_reducible refine le_bel ?_) | (with_reducible refine le_alloc ?_) | (with_reducible refine le_setCell ?_) | (with_reducible refine le_drew ?_) | (with_reducible refine le_drawsN ?_) | (dsimp only; with_reducible refine le_bel ?_) | (dsimp only; with_reducible refine Nat.le_refl _) | (dsimp only; with_reducible refine le_bel_add ?_) | (with_reducible assumption) | omega | (dsimp only; omega))))
    · obtain ⟨j, rfl⟩ : ∃ j, k = j + 1 := ⟨k - 1, by omega⟩
      obtain ⟨b, off, rfl, hcc⟩ := h (by omega)
      obtain ⟨x, hx⟩ : ∃ x, l[j]? = some x := ⟨_, List.getElem?_eq_getElem (by omega)⟩
      have hc1 := cell_carry hb (hcc j x hx)
      have e1 : l.take (j + 1) = l.take j ++ [x] := by rw [List.take_add_one, hx]; rfl
      have t1 : IntKind.i64.wrap (((j + 1 : Nat) : Int) - 1) = (j : Int) := by rw [IntWalk.i64_in _ (by omega)]; omega
      have t0 : decide (0 < ((j + 1 : Nat) : Int)) = true := decide_eq_true (by omega)
      have hj1 : (j : Int) < ((j + 1 : Nat) : Int) := by omega
      have hjc : (j : Int) ≤ (cap : Int) := by omega
      generalize hK : ((j + 1 : Nat) : Int) = K at *
      by_cases hx0 : x = 0
      · subst hx0
        have HT := Lib.hid (show trimL (l.take j) = trimL l by rw [← ht, e1, trimL_snoc_zero])
        have HK := Lib.hid hK
        clear ht e1 hcc hx h hK
        go_wp2
        go_roundw
        case rel => exact ⟨j, by omega, rfl, HT.out, by (repeat' (first | (with_reducible exact Below.refl _ _) | (with_reducible exact Nat.le_refl _) | (with_reducible refine Below.bel ?_ ?_) | (with_reducible refine Below.alloc ?_ ?_ _) | (with_reducible refine Below.drew ?_) | (with_reducible refine Below.drawsN ?_ _) | (with_reducible refine Below.setCell ?_ ?_ _) | (with_reducible refine le_bel ?_) | (with_reducible refine le_alloc ?_) | (with_reducible refine le_setCell ?_) | (with_reducible refine le_drew ?_) | (with_reducible refine le_drawsN ?_) | (dsimp only; with_reducible refine le_bel ?_) | (dsimp only; with_reducible refine Nat.le_refl _) | (dsimp only; with_reducible refine le_bel_add ?_) | (with_reducible assumption) | omega | (dsimp only; omega)))⟩
        case measure => dsimp only; omega
      · have HT := Lib.hid (show (trimL l).length = j + 1 by rw [← ht, e1, trimL_snoc hx0, ← e1, List.length_take]; omega)
        have HK := Lib.hid hK
        have hx1 : ((x : Int) == 0) = false := by simp; omega
        clear ht e1 hcc hx h hK
        go_wp2
        go_ret
        exact Ret.mk (by rw [HT.out]; rfl) (by (repeat' (first | (with_reducible exact Below.refl _ _) | (with_reducible exact Nat.le_refl _) | (with_reducible refine Below.bel ?_ ?_) | (with_reducible refine Below.alloc ?_ ?_ _) | (with_reducible refine Below.drew ?_) | (with_reducible refine Below.drawsN ?_ _) | (with_reducible refine Below.setCell ?_ ?_ _) | (with_reducible refine le_bel ?_) | (with_reducible refine le_alloc ?_) | (with_reducible refine le_setCell ?_) | (with_reducible refine le_drew ?_) | (with_reducible refine le_drawsN ?_) | (dsimp only; with_reducible refine le_bel ?_) | (dsimp only; with_reducible refine Nat.le_refl _) | (dsimp only; with_reducible refine le_bel_add ?_) | (with_reducible assumption) | omega | (dsimp only; omega))))
theorem grp_lt (n : Nat) : ∀ x ∈ grp n, x < 10000 := limbs_lt (by decide) n
theorem vG_grp (n : Nat) : vG (grp n) = n := valB_limbs (by decide) n
theorem vG_snoc (L : List Nat) (x : Nat) : vG (L ++ [x]) = vG L + 10000 ^ L.length * x := valB_snoc _ x L
theorem lt_snocG {L : List Nat} {d : Nat} (h : ∀ x ∈ L, x < 10000) (hd : d < 10000) : ∀ x ∈ L ++ [d], x < 10000 := fun x hx => by
  rcases List.mem_append.1 hx with h1 | h1
  · exact h x h1
  · rw [List.mem_singleton.1 h1]; exact hd
theorem trim_grp {L : List Nat} {n : Nat} (h : ∀ x ∈ L, x < 10000) (hv : vG L = n) : trimL L = grp n := trimL_val (by decide) h hv
/-- The call returns a new slice of a number's groups; all that lay there lies as it lay. -/
def GrpRet (w : World) (N : Nat) (e : Ending) (w' : World) : Prop := ∃ v, e = .returned v ∧ ∃ y : Bel w, w' = y.w ∧ OwnV y.w w.heap.size 3 v (iVs (grp N))
theorem grpRet_trim {w W : World} {a : Option Addr} {cap : Nat} {L : List Nat} {n : Nat} (x : Bel W) (hW : Below w.heap.size w W) (ho : OwnV W w.heap.size 3 (.slice a L.length cap) (iVs L)) (hL : ∀ x ∈ L, x < 10000) (hv : vG L = n) :
    GrpRet w n (.returned (.slice a (trimL L).length cap)) x.w := by
  have h1 := own_trimG ho
  rw [trim_grp hL hv] at h1 ⊢
  exact ⟨_, rfl, ⟨x.w, Below.bel hW hW.size⟩, rfl, ownV_bel h1 x⟩
theorem short_own {W : World} {base : Nat} {a : Option Addr} {cap : Nat} {L : List Nat} (h : OwnV W base 3 (.slice a L.length cap) (iVs L)) (hl : L.length ≤ 100000) :
    Calls Tryz.prog 72 #[.slice a L.length cap] W (Ret (.slice a (trimL L).length cap) W) := by
  obtain ⟨a', cap', hv, hc⟩ := grps_own h
  injection hv with e1 e2 e3
  subst e1
  refine short_any a cap L W hc hl ?_
  have hn := iVs_len L
  rcases h.2 with ⟨hv, h0⟩ | ⟨g, cap', cur, hv, _, _, hc, _⟩
  · omega
  · injection hv with f1 f2 f3
    omega
theorem toInt_any (b : Bool) (w : World) : Calls Tryz.prog 35 #[.bool b] w (Ret (.int .i64 (if b then 1 else 0)) w) := by
  cases b
  · go_enter Tryz.func35, Tryz.ntmps35
    go_wp2
    go_ret
    exact Ret.mk (by rfl) (by (repeat' (first | (with_reducible exact Below.refl _ _) | (with_reducible exact Nat.le_refl _) | (with_reducible refine Below.bel ?_ ?_) | (with_reducible refine Below.alloc ?_ ?_ _) | (with_reducible refine Below.drew ?_) | (with_reducible refine Below.drawsN ?_ _) | (with_reducible refine Below.setCell ?_ ?_ _) | (with_reducible refine le_bel ?_) | (with_reducible refine le_alloc ?_) | (with_reducible refine le_setCell ?_) | (with_reducible refine le_drew ?_) | (with_reducible refine le_drawsN ?_) | (dsimp only; with_reducible refine le_bel ?_) | (dsimp only; with_reducible refine Nat.le_refl _) | (dsimp only; with_reducible refine le_bel_add ?_) | (with_reducible assumption) | omega | (dsimp only; omega))))
  · go_enter Tryz.func35, Tryz.ntmps35
    go_wp2
    go_ret
    exact Ret.mk (by rfl) (by (repeat' (first | (with_reducible exact Below.refl _ _) | (with_reducible exact Nat.le_refl _) | (with_reducible refine Below.bel ?_ ?_) | (with_reducible refine Below.alloc ?_ ?_ _) | (with_reducible refine Below.drew ?_) | (with_reducible refine Below.drawsN ?_ _) | (with_reducible refine Below.setCell ?_ ?_ _) | (with_reducible refine le_bel ?_) | (with_reducible refine le_alloc ?_) | (with_reducible refine le_setCell ?_) | (with_reducible refine le_drew ?_) | (with_reducible refine le_drawsN ?_) | (dsimp only; with_reducible refine le_bel ?_) | (dsimp only; with_reducible refine Nat.le_refl _) | (dsimp only; with_reducible refine le_bel_add ?_) | (with_reducible assumption) | omega | (dsimp only; omega))))
theorem toInt_true (w : World) : Calls Tryz.prog 35 #[.bool true] w (Ret (.int .i64 1) w) := toInt_any true w
theorem toInt_false (w : World) : Calls Tryz.prog 35 #[.bool false] w (Ret (.int .i64 0) w) := toInt_any false w
theorem grp_at {n k x : Nat} (h : (grp n)[k]? = some x) : x < 10000 := grp_lt n x (List.mem_of_getElem? h)
set_option maxHeartbeats 3200000 in
theorem order_any (a b : Option Addr) (cap cap' m n : Nat) (w : World) (h1 : Grps w a (grp m)) (h2 : Grps w b (grp n)) (hl1 : (grp m).length ≤ 100000) (hl2 : (grp n).length ≤ 100000) :
    Calls Tryz.prog 55 #[.slice a (grp m).length cap, .slice b (grp n).length cap'] w (Ret (.int .i64 (cmpN m n)) w) := by
  have HT1 := Lib.hid toInt_true
  have HT0 := Lib.hid toInt_false
  rcases Nat.lt_trichotomy (grp m).length (grp n).length with hlt | heq | hgt
  · have HC := Lib.hid (cmpN_lt (limbs_lt_of_len (by decide) hlt))
    have q1 : (((grp m).length : Int) != ((grp n).length : Int)) = true := by simp; omega
    have q2 : decide ((grp n).length < (grp m).length) = false := decide_eq_false (by omega)
    go_enter Tryz.func55, Tryz.ntmps55
    go_wp2_with fail
    (with_reducible refine (HT0.out _).mono ?_)
    rintro _ _ ⟨rfl, x, rfl⟩
    go_wp2
    go_ret
    exact Ret.mk (by exact val_i64 HC.out) (by (repeat' (first | (with_reducible exact Below.refl _ _) | (with_reducible exact Nat.le_refl _) | (with_reducible refine Below.bel ?_ ?_) | (with_reducible refine Below.alloc ?_ ?_ _) | (with_reducible refine Below.drew ?_) | (with_reducible refine Below.drawsN ?_ _) | (with_reducible refine Below.setCell ?_ ?_ _) | (with_reducible refine le_bel ?_) | (with_reducible refine le_alloc ?_) | (with_reducible refine le_setCell ?_) | (with_reducible refine le_drew ?_) | (with_reducible refine le_drawsN ?_) | (dsimp only; with_reducible refine le_bel ?_) | (dsimp only; with_reducible refine Nat.le_refl _) | (dsimp only; with_reducible refine le_bel_add ?_) | (with_reducible assumption) | omega | (dsimp only; omega))))
  · obtain ⟨L, hL⟩ : ∃ L, grp m = L := ⟨_, rfl⟩
    obtain ⟨M, hM⟩ : ∃ M, grp n = M := ⟨_, rfl⟩
    have vL : valB 10000 L = m := by rw [← hL]; exact valB_limbs (by decide) m
    have vM : valB 10000 M = n := by rw [← hM]; exact valB_limbs (by decide) n
    have bL : ∀ x ∈ L, x < 10000 := by rw [← hL]; exact grp_lt m
    have bM : ∀ x ∈ M, x < 10000 := by rw [← hM]; exact grp_lt n
    rw [hL, hM] at heq
    rw [hL] at h1 hl1 ⊢
    rw [hM] at h2 hl2 ⊢
    clear hL hM
    have q1 : ((L.length : Int) != (M.length : Int)) = false := by simp; omega
    have t1 : IntKind.i64.wrap ((L.length : Int) - 1) = (L.length : Int) - 1 := IntWalk.i64_in _ (by omega)
    go_enter Tryz.func55, Tryz.ntmps55
    go_wp2
    go_loopw [5] (fun i wr => ∃ k : Nat, k ≤ L.length ∧ i = .int .i64 ((k : Int) - 1) ∧ L.drop k = M.drop k ∧ Below w.heap.size w wr) (fun i _ => (intOf i + 1).toNat)
    case atStart => exact ⟨L.length, by omega, by rw [heq], by rw [List.drop_length, List.drop_of_length_le (by omega)], by (repeat' (first | (with_reducible exact Below.refl _ _) | (with_reducible exact Nat.le_refl _) | (with_reducible refine Below.bel ?_ ?_) | (with_reducible refine Below.alloc ?_ ?_ _) | (with_reducible refine Below.drew ?_) | (with_reducible refine Below.drawsN ?_ _) | (with_reducible refine Below.setCell ?_ ?_ _) | (with_reducible refine le_bel ?_) | (with_reducible refine le_alloc ?_) | (with_reducible refine le_setCell ?_) | (with_reducible refine le_drew ?_) | (with_reducible refine le_drawsN ?_) | (dsimp only; with_reducible refine le_bel ?_) | (dsimp only; with_reducible refine Nat.le_refl _) | (dsimp only; with_reducible refine le_bel_add ?_) | (with_reducible assumption) | omega | (dsimp only; omega)))⟩
    case round =>
      obtain ⟨k, hk, rfl, hd, hb⟩ := hrel
      have hbs := hb.size
      by_cases h0 : k = 0
      · subst h0
        have HE := Lib.hid (cmpN_eq (show m = n by rw [← vL, ← vM]; rw [List.drop_zero, List.drop_zero] at hd; rw [hd]))
        clear hd h1 h2
        go_wp2
        go_ret
        exact Ret.mk (by exact val_i64 HE.out) (by (repeat' (first | (with_reducible exact Below.refl _ _) | (with_reducible exact Nat.le_refl _) | (with_reducible refine Below.bel ?_ ?_) | (with_reducible refine Below.alloc ?_ ?_ _) | (with_reducible refine Below.drew ?_) | (with_reducible refine Below.drawsN ?_ _) | (with_reducible refine Below.setCell ?_ ?_ _) | (with_reducible refine le_bel ?_) | (with_reducible refine le_alloc ?_) | (with_reducible refine le_setCell ?_) | (with_reducible refine le_drew ?_) | (with_reducible refine le_drawsN ?_) | (dsimp only; with_reducible refine le_bel ?_) | (dsimp only; with_reducible refine Nat.le_refl _) | (dsimp only; with_reducible refine le_bel_add ?_) | (with_reducible assumption) | omega | (dsimp only; omega))))
      · obtain ⟨j, rfl⟩ : ∃ j, k = j + 1 := ⟨k - 1, by omega⟩
        obtain ⟨b1, o1, rfl, c1⟩ := h1 (by omega)
        obtain ⟨b2, o2, rfl, c2⟩ := h2 (by omega)
        obtain ⟨x, hx⟩ : ∃ x, L[j]? = some x := ⟨_, List.getElem?_eq_getElem (by omega)⟩
        obtain ⟨y, hy⟩ : ∃ y, M[j]? = some y := ⟨_, List.getElem?_eq_getElem (by omega)⟩
        have g1 := cell_carry hb (c1 j x hx)
        have g2 := cell_carry hb (c2 j y hy)
        have t3 : ((j + 1 : Nat) : Int) - 1 = (j : Int) := by omega
        have t2 : IntKind.i64.wrap ((j : Int) - 1) = (j : Int) - 1 := IntWalk.i64_in _ (by omega)
        have hj1 : (j : Int) < (L.length : Int) := by omega
        have hj2 : (j : Int) < (M.length : Int) := by omega
        rw [t3]
        clear t3
        rcases Nat.lt_trichotomy x y with hxy | hxy | hxy
        · have HC := Lib.hid (cmpN_lt (show m < n by rw [← vL, ← vM]; exact cmp_top (by decide) bL heq hx hy hd hxy))
          have p1 : ((x : Int) != (y : Int)) = true := bne_iff_ne.2 (by omega)
          have p2 : decide (y < x) = false := decide_eq_false (by omega)
          clear hd h1 h2 c1 c2 hx hy
          go_wp2_with fail
          refine wp_region_bel (by kernel_rfl) (by kernel_rfl) ?_
          repeat (go_big_quiet_step (fail))
          refine wpQuiet_nil ?_
          rintro _ ⟨z, rfl⟩
          go_wp2_with fail
          refine wp_region_bel (by kernel_rfl) (by kernel_rfl) ?_
          repeat (go_big_quiet_step ((go_at_call 35; with_reducible exact bel_of (HT0.out _))))
          refine wpQuiet_nil ?_
          rintro _ ⟨z2, rfl⟩
          go_wp2
          go_ret
          exact Ret.mk (by exact val_i64 HC.out) (by (repeat' (first | (with_reducible exact Below.refl _ _) | (with_reducible exact Nat.le_refl _) | (with_reducible refine Below.bel ?_ ?_) | (with_reducible refine Below.alloc ?_ ?_ _) | (with_reducible refine Below.drew ?_) | (with_reducible refine Below.drawsN ?_ _) | (with_reducible refine Below.setCell ?_ ?_ _) | (with_reducible refine le_bel ?_) | (with_reducible refine le_alloc ?_) | (with_reducible refine le_setCell ?_) | (with_reducible refine le_drew ?_) | (with_reducible refine le_drawsN ?_) | (dsimp only; with_reducible refine le_bel ?_) | (dsimp only; with_reducible refine Nat.le_refl _) | (dsimp only; with_reducible refine le_bel_add ?_) | (with_reducible assumption) | omega | (dsimp only; omega))))
        · subst hxy
          have HD := Lib.hid (show L.drop j = M.drop j by
            rw [List.drop_eq_getElem_cons (by omega), List.drop_eq_getElem_cons (show j < M.length by omega), hd, (List.getElem?_eq_some_iff.1 hx).2, (List.getElem?_eq_some_iff.1 hy).2])
          have p1 : ((x : Int) != (x : Int)) = false := by simp
          clear hd h1 h2 c1 c2 hx hy
          go_wp2_with fail
          refine wp_region_bel (by kernel_rfl) (by kernel_rfl) ?_
          repeat (go_big_quiet_step (fail))
          refine wpQuiet_nil ?_
          rintro _ ⟨z, rfl⟩
          go_wp2
          go_roundw
          case rel => exact ⟨j, by omega, rfl, HD.out, by (repeat' (first | (with_reducible exact Below.refl _ _) | (with_reducible exact Nat.le_refl _) | (with_reducible refine Below.bel ?_ ?_) | (with_reducible refine Below.alloc ?_ ?_ _) | (with_reducible refine Below.drew ?_) | (with_reducible refine Below.drawsN ?_ _) | (with_reducible refine Below.setCell ?_ ?_ _) | (with_reducible refine le_bel ?_) | (with_reducible refine le_alloc ?_) | (with_reducible refine le_setCell ?_) | (with_reducible refine le_drew ?_) | (with_reducible refine le_drawsN ?_) | (dsimp only; with_reducible refine le_bel ?_) | (dsimp only; with_reducible refine Nat.le_refl _) | (dsimp only; with_reducible refine le_bel_add ?_) | (with_reducible assumption) | omega | (dsimp only; omega)))⟩
          case measure => simp [intOf] <;> omega
        · have HC := Lib.hid (cmpN_gt (show n < m by rw [← vL, ← vM]; exact cmp_top (by decide) bM heq.symm hy hx hd.symm hxy))
          have p1 : ((x : Int) != (y : Int)) = true := bne_iff_ne.2 (by omega)
          have p2 : decide (y < x) = true := decide_eq_true (by omega)
          clear hd h1 h2 c1 c2 hx hy
          go_wp2_with fail
          refine wp_region_bel (by kernel_rfl) (by kernel_rfl) ?_
          repeat (go_big_quiet_step (fail))
          refine wpQuiet_nil ?_
          rintro _ ⟨z, rfl⟩
          go_wp2_with fail
          refine wp_region_bel (by kernel_rfl) (by kernel_rfl) ?_
          repeat (go_big_quiet_step ((go_at_call 35; with_reducible exact bel_of (HT1.out _))))
          refine wpQuiet_nil ?_
          rintro _ ⟨z2, rfl⟩
          go_wp2
          go_ret
          exact Ret.mk (by exact val_i64 HC.out) (by (repeat' (first | (with_reducible exact Below.refl _ _) | (with_reducible exact Nat.le_refl _) | (with_reducible refine Below.bel ?_ ?_) | (with_reducible refine Below.alloc ?_ ?_ _) | (with_reducible refine Below.drew ?_) | (with_reducible refine Below.drawsN ?_ _) | (with_reducible refine Below.setCell ?_ ?_ _) | (with_reducible refine le_bel ?_) | (with_reducible refine le_alloc ?_) | (with_reducible refine le_setCell ?_) | (with_reducible refine le_drew ?_) | (with_reducible refine le_drawsN ?_) | (dsimp only; with_reducible refine le_bel ?_) | (dsimp only; with_reducible refine Nat.le_refl _) | (dsimp only; with_reducible refine le_bel_add ?_) | (with_reducible assumption) | omega | (dsimp only; omega))))
  · have HC := Lib.hid (cmpN_gt (limbs_lt_of_len (by decide) hgt))
    have q1 : (((grp m).length : Int) != ((grp n).length : Int)) = true := by simp; omega
    have q2 : decide ((grp n).length < (grp m).length) = true := decide_eq_true (by omega)
    go_enter Tryz.func55, Tryz.ntmps55
    go_wp2_with fail
    (with_reducible refine (HT1.out _).mono ?_)
    rintro _ _ ⟨rfl, x, rfl⟩
    go_wp2
    go_ret
    exact Ret.mk (by exact val_i64 HC.out) (by (repeat' (first | (with_reducible exact Below.refl _ _) | (with_reducible exact Nat.le_refl _) | (with_reducible refine Below.bel ?_ ?_) | (with_reducible refine Below.alloc ?_ ?_ _) | (with_reducible refine Below.drew ?_) | (with_reducible refine Below.drawsN ?_ _) | (with_reducible refine Below.setCell ?_ ?_ _) | (with_reducible refine le_bel ?_) | (with_reducible refine le_alloc ?_) | (with_reducible refine le_setCell ?_) | (with_reducible refine le_drew ?_) | (with_reducible refine le_drawsN ?_) | (dsimp only; with_reducible refine le_bel ?_) | (dsimp only; with_reducible refine Nat.le_refl _) | (dsimp only; with_reducible refine le_bel_add ?_) | (with_reducible assumption) | omega | (dsimp only; omega))))
end Go.Proofs.YteglfhmmkoahfaaGreatDoor
