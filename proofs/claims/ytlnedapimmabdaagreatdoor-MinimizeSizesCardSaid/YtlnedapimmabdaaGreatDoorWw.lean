/- The law's tables. -/
import Derived.Test.YtlnedapimmabdaaGreatDoorWv
namespace Go.Proofs.YtlnedapimmabdaaGreatDoor
set_option linter.unusedVariables false
set_option linter.unusedSimpArgs false
open Go.RowKit
attribute [local go_sem low] Bel.cell Bel.frozen alloc_cell alloc_frozen
attribute [local go_sem] calmOp chainOp yieldsC grows

theorem wpList_appU {P : Program} {ops : Array Oper} {rest : List Oper} {o : Oper} {a : Act} {Q : Exit → Act → World → Prop} (hgd : o.guard = none) (s x : Operand) (T : TypeId)
    (ho : o.op = .call { callee := .builtin .append, args := #[s, x], argTypes := #[T, T] }) (i : TypeInfo) (ht : P.underlying T = some (.slice 42)) (hi : P.info? 42 = some i)
    (hz : i.zero = some (.int .u64 0)) (hsize : i.size = 1) (hby : i.bytes = 8) (W : World) (base : Nat) (v : Value) (l : List Nat) (u : Nat) (g0 : Nat)
    (hs : a.eval s = v) (hown : OwnU W base v l) (hx : a.eval x = .slice (some ⟨g0, 0, none⟩) 1 1) (hsrc : W.heap[g0]? = some (.cells #[.int .u64 (u : Int)] 42 (0, 0))) (hn : l.length ≤ 100000000) (hbase : base ≤ W.heap.size)
    (h : ∀ g c w1, OwnU w1 base (.slice (some ⟨g, 0, none⟩) (l.length + 1) c) (l ++ [u]) → Below base W w1 → W.heap.size ≤ w1.heap.size → wpList P ops Q rest (a.put o.dst (.slice (some ⟨g, 0, none⟩) (l.length + 1) c)) w1) :
    wpList P ops Q (o :: rest) a W := by
  refine wpList_append_own_at _ hgd s x T ho base 42 i _ 1 8 ht hi hz hsize hby rfl (by decide) v l.length (tabsV l) hs hown ⟨g0, 0, none⟩ 1 1 [.int .u64 (u : Int)] hx rfl ?_ ?_ (by unfold maxLen; omega) (by omega) hbase ?_
  · intro j z hj
    match j, hj with
    | 0, hj => simp at hj; subst hj; simp [Addr.add, World.cell?, hsrc]
  · intro z hz
    simp at hz
    rw [hz]
    rfl
  · intro v' w1 hrow hg hnil h5
    obtain ⟨g, c, rfl⟩ : ∃ g c, v' = .slice (some ⟨g, 0, none⟩) (l.length + 1) c := by
      rcases hrow.2 with ⟨_, h0⟩ | ⟨g, cp, cur, hv, _⟩
      · omega
      · exact ⟨g, cp, hv⟩
    refine h g c w1 ?_ ((Below.refl _ W).grown hg hbase (fun k hk => (World.ownsRow.lt hown k hk).1)) hg.size
    unfold OwnU
    rw [show tabsV (l ++ [u]) = tabsV l ++ [.int .u64 (u : Int)] by simp [tabsV], List.length_append]
    exact hrow
def RetU (l : List Nat) (w : World) (e : Ending) (w' : World) : Prop := ∃ v, e = .returned v ∧ OwnU w' w.heap.size v l ∧ Below w.heap.size w w'
theorem ones_and {x : Nat} (h : x < 2 ^ 64) : 18446744073709551615 &&& x = x := by
  have := Nat.and_two_pow_sub_one_of_lt_two_pow h
  rwa [Nat.and_comm, show 2 ^ 64 - 1 = 18446744073709551615 by decide] at this
theorem not_bits {Y : Nat} (h : Y < 2 ^ 64) : bits .xor .u64 IntKind.u64.max (Y : Int) = ((notT Y : Nat) : Int) := by
  have e : IntKind.u64.max = ((18446744073709551615 : Nat) : Int) := by decide
  rw [e, u64_xor_nat _ _ (by decide) h]
  congr 1
  refine table_eq (Nat.xor_lt_two_pow (by decide) h) (notT_lt Y) fun v hv => ?_
  rw [Nat.testBit_xor, ones_bit hv, notT_test h hv]
  simp
theorem not_bits2 {Y : Nat} (h : Y < 2 ^ 64) : bits .xor .u64 (if IntKind.u64.signed = true then -1 else IntKind.u64.max) (Y : Int) = ((notT Y : Nat) : Int) := not_bits h
def allT (f : Nat → Nat) (l : List Nat) : Nat := l.foldl (fun a k => a &&& f k) 18446744073709551615
def someT (f : Nat → Nat) (l : List Nat) : Nat := l.foldl (fun a k => a ||| f k) 0
theorem allT_snoc (f : Nat → Nat) (l : List Nat) (k : Nat) : allT f (l ++ [k]) = allT f l &&& f k := by unfold allT; rw [List.foldl_append]; rfl
theorem someT_snoc (f : Nat → Nat) (l : List Nat) (k : Nat) : someT f (l ++ [k]) = someT f l ||| f k := by unfold someT; rw [List.foldl_append]; rfl
theorem allT_lt (f : Nat → Nat) (l : List Nat) : allT f l < 18446744073709551616 := foldl_and_lt f l _ (by decide)
theorem someT_lt {f : Nat → Nat} {l : List Nat} (h : ∀ k, f k < 2 ^ 64) : someT f l < 18446744073709551616 := foldl_or_lt f l _ (by decide) fun k _ => h k
set_option maxRecDepth 100000 in
set_option maxHeartbeats 12800000 in
theorem tables_any (G : List Gt) (P : Nat → Prop) (ga oa : Option Addr) (gc on oc : Nat) (w : World) (hok : okL 6 G) (hg : InGt P w ga (G.map gz)) (hl : G.length ≤ 1000000) (hil : ∀ g ∈ G, g.2.2.length ≤ 100000000) :
    Calls Tryz.prog 20 #[nV ga G.length gc oa on oc] w (RetU (tabsG G) w) := by
  obtain ⟨i0, hi0, hz0, hz1, hz2⟩ := info_parts Tryz.infoU
  have HG := Lib.hid hg
  have HOK := Lib.hid hok
  have HIL := Lib.hid hil
  have HEV := Lib.hid (fun i (h : i < G.length) => evT_tab hok h)
  have HTL := Lib.hid (fun i => tabI_lt G i)
  unfold tabsG
  obtain ⟨f, hf⟩ : ∃ f, tabI G = f := ⟨_, rfl⟩
  rw [hf] at HEV HTL ⊢
  obtain ⟨n, hn⟩ : ∃ n, G.length = n := ⟨_, rfl⟩
  have HN := Lib.hid hn
  rw [hn] at hl HEV ⊢
  clear hok hg hil hn hf
  unfold nV
  go_enter Tryz.func20, Tryz.ntmps20
  go_wp2_with fail
  go_loopw [3, 4] (fun tv iv wr => ∃ k : Nat, iv = .int .i64 (k : Int) ∧ k ≤ n ∧ OwnU wr (w.heap.size + 1) tv ((List.range k).map f) ∧ Below w.heap.size w wr ∧ wr.heap[w.heap.size]? = some (.cells #[.slice ga n gc, .slice oa on oc] 25 (0, 0)) ∧ w.heap.size + 1 ≤ wr.heap.size) (fun _ iv _ => n - (intOf iv).toNat)
  case atStart => exact ⟨0, rfl, Nat.zero_le _, World.ownsRow_nil _ _ _ _, by (repeat' (first | (with_reducible first | apply Zl1 | apply Zl2 | apply Zl3 | apply Zl4 | apply Zl5 | apply Zl6 | apply Zl7 | apply Zl8 | apply Zl9 | apply Zla | apply Zlb | apply Zlc) | (dsimp only; with_reducible first | apply Zl8 | apply Zl2 | apply Zld) | with_reducible assumption | omega | (dsimp only; omega))), World.alloc_heap_new w _, by simp⟩
  case round =>
    rename World => wo
    obtain ⟨k, rfl, hk, hou, hbe, hnet, hsz⟩ := hrel
    obtain ⟨ta, tc, htv, hcells⟩ := ownU_sl hou
    have hll : ((List.range k).map f).length = k := by rw [List.length_map, List.length_range]
    rw [hll] at htv hcells
    subst htv
    obtain ⟨n1, n2, -⟩ := box2 hnet
    have HOU := Lib.hid hou
    have HBE := Lib.hid hbe
    have HNE := Lib.hid hnet
    have HCE := Lib.hid hcells
    have HLL := Lib.hid hll
    have hbs := hbe.size
    clear hou hbe hnet hcells hll
    rcases Nat.lt_or_ge k n with hkl | hkl
    · obtain ⟨gg, hgg⟩ : ∃ gg, G[k]? = some gg := ⟨_, List.getElem?_eq_getElem (by rw [HN.out]; exact hkl)⟩
      obtain ⟨b2, o2, hadd, hb2, ax, cx, y0, y1, y2, hiy⟩ := (HG.out.of HBE.out).at (show (G.map gz)[k]? = some (gz gg) by rw [List.getElem?_map, hgg]; rfl)
      subst hadd
      dsimp only [gz] at y0 y1 y2 hiy
      rw [List.length_map] at y2
      have HOG := Lib.hid (HOK.out k gg hgg)
      have HI2 := Lib.hid hiy
      have hgl := HIL.out gg (List.mem_of_getElem? hgg)
      have hins := okG_ins HOG.out
      have hev := HEV.out k hkl
      rw [gtAt_some hgg] at hev
      have HE := Lib.hid hev
      have f1 : decide ((k : Int) < (n : Int)) = true := decide_eq_true (by omega)
      have hib : (0 ≤ (k : Int) ∧ (k : Int) < (n : Int)) := ⟨by omega, by omega⟩
      have hbx := World.alloc_heap_new wo (.cells #[.int .i64 (gg.1 : Int), .int .i64 (gg.2.1 : Int), .slice ax gg.2.2.length cx] 45 (0, 0))
      have hb2w : Below wo.heap.size wo (wo.alloc (.cells #[.int .i64 (gg.1 : Int), .int .i64 (gg.2.1 : Int), .slice ax gg.2.2.length cx] 45)) := (Below.refl _ _).alloc (Nat.le_refl _) _
      have HBX0 := Lib.hid hbx
      have HB2 := Lib.hid hb2w
      clear hgg hiy hev hbx hb2w
      go_wp2_with fail
      obtain ⟨w2, hw2⟩ : ∃ w2, wo.alloc (.cells #[.int .i64 (gg.1 : Int), .int .i64 (gg.2.1 : Int), .slice ax gg.2.2.length cx] 45) = w2 := ⟨_, rfl⟩
      rw [hw2] at HBX0 HB2 ⊢
      have hbz := HB2.out
      have hbx := HBX0.out
      clear hw2 n1 n2 y0 y1 y2
      go_loopw [6, 7, 8] (fun av sv iv wi => ∃ j : Nat, iv = .int .i64 (j : Int) ∧ j ≤ gg.2.2.length ∧ av = .int .u64 (allT f (gg.2.2.take j) : Int) ∧ sv = .int .u64 (someT f (gg.2.2.take j) : Int) ∧ wi = w2) (fun _ _ iv _ => gg.2.2.length - (intOf iv).toNat)
      case atStart => exact ⟨0, rfl, Nat.zero_le _, rfl, rfl, rfl⟩
      case round =>
        obtain ⟨j, rfl, hj, rfl, rfl, rfl⟩ := hrel
        rename World => wi
        obtain ⟨p0, p1, p2⟩ := box3 hbx
        rcases Nat.lt_or_ge j gg.2.2.length with hjl | hjl
        · obtain ⟨y, hy⟩ := some_at hjl
          have hyk := hins y (List.mem_of_getElem? hy)
          obtain ⟨b3, o3, hadd, hb3, z0⟩ := (HI2.out.of hbz).at (show (gg.2.2.map fun k : Nat => (k : Int))[j]? = some (y : Int) by rw [List.getElem?_map, hy]; rfl)
          subst hadd
          obtain ⟨tg, hta, htg1, htg2, htc⟩ := HCE.out (by omega)
          subst hta
          have z1 := below_cell hbz _ _ _ (htc y (f y) (by rw [List.getElem?_map, List.getElem?_range hyk]; rfl))
          have hfy := HTL.out y
          have ha := u64_and_nat (allT f (gg.2.2.take j)) (f y) (allT_lt _ _) hfy
          have hs := u64_or_nat (someT f (gg.2.2.take j)) (f y) (someT_lt HTL.out) hfy
          rw [← allT_snoc, ← take_snoc hy] at ha
          rw [← someT_snoc, ← take_snoc hy] at hs
          obtain ⟨A, hA⟩ : ∃ A, allT f (gg.2.2.take j) = A := ⟨_, rfl⟩
          obtain ⟨S, hS⟩ : ∃ S, someT f (gg.2.2.take j) = S := ⟨_, rfl⟩
          obtain ⟨A', hA'⟩ : ∃ A, allT f (gg.2.2.take (j + 1)) = A := ⟨_, rfl⟩
          obtain ⟨S', hS'⟩ : ∃ S, someT f (gg.2.2.take (j + 1)) = S := ⟨_, rfl⟩
          obtain ⟨Y, hY⟩ : ∃ Y, f y = Y := ⟨_, rfl⟩
          have HA' := Lib.hid (And.intro hA' hS')
          rw [hA, hA', hY] at ha
          rw [hS, hS', hY] at hs
          rw [hA, hS]
          rw [hY] at z1
          have f2 : decide ((j : Int) < (gg.2.2.length : Int)) = true := decide_eq_true (by omega)
          have hib2 : (0 ≤ (j : Int) ∧ (j : Int) < (gg.2.2.length : Int)) := ⟨by omega, by omega⟩
          have hib3 : (0 ≤ (y : Int) ∧ (y : Int) < (k : Int)) := ⟨by omega, by omega⟩
          clear hy hA hS hA' hS' hY htc hfy
          go_wp2
          go_roundw
          case rel => exact ⟨j + 1, by go_num, by omega, by rw [HA'.out.1], by rw [HA'.out.2], (by first | rfl | trivial)⟩
          case measure => simp [intOf]; omega
        · have hke : j = gg.2.2.length := by omega
          subst hke
          have f2 : decide ((gg.2.2.length : Int) < (gg.2.2.length : Int)) = false := decide_eq_false (by omega)
          rw [List.take_length]
          have hsz2 := hbz.size
          have hA64 := allT_lt f gg.2.2
          have HNET := Lib.hid (obj_in hbz HNE.out)
          have HRG := Lib.hid (show (List.range (k + 1)).map f = (List.range k).map f ++ [f k] by rw [List.range_succ, List.map_append]; rfl)
          by_cases h1 : gg.1 = 1
          · have f3 : ((gg.1 : Int) == 1) = true := by simp [h1]
            have harg : gg.2.1 < 6 := by
              rcases HOG.out with ⟨_, h, _⟩ | ⟨h, _⟩ | ⟨h, _⟩ | ⟨h, _⟩ <;> omega
            have HVAL := Lib.hid (show f k = mask6 gg.2.1 by rw [HE.out, evT, if_pos h1])
            clear h1
            go_wp2_with fail
            refine (refMask_any gg.2.1 harg _).mono ?_
            rintro _ _ ⟨rfl, y, rfl⟩
            obtain ⟨W5, hW5⟩ : ∃ W5, y.w = W5 := ⟨_, rfl⟩
            have hbw := hbz.trans (y.below.mono hsz2)
            rw [hW5] at hbw ⊢
            have HBW := Lib.hid hbw
            have hs5 := hbw.size
            dsimp only
            clear hbw hW5
            go_wp2_with (at_builtin; refine wpList_appU rfl _ _ 40 rfl i0 Tryz.underlying40 hi0 hz0 hz1 hz2 _ (w.heap.size + 1) (.slice ta k tc) ((List.range k).map f) ((mask6 gg.2.1)) W5.heap.size rfl (ownU_bel (ownU_bel HOU.out HBW.out) ((Below.refl _ _).alloc (Nat.le_refl _) _)) rfl (World.alloc_heap_new W5 _) (by rw [HLL.out]; omega) (by simp; omega) ?_; intro g1 c1 w1 ho1 hb1 hs1; rw [HLL.out] at ho1 ⊢; have HO1 := Lib.hid ho1; have HB1 := Lib.hid hb1; simp only [World.size_alloc] at hs1; clear ho1 hb1)
            have hbf : Below (w.heap.size + 1) W5 w1 := ((Below.refl _ W5).alloc (by omega) _).trans HB1.out
            refine ⟨⟨k + 1, by go_num, by omega, ?_, HBE.out.trans ((HBW.out.mono hbs).trans (hbf.mono (by omega))), obj_below hbf (by omega) (obj_in HBW.out HNE.out), by omega⟩, by simp [intOf]; omega⟩
            rw [HRG.out, HVAL.out]
            exact HO1.out
          have f3 : ((gg.1 : Int) == 1) = false := by simp; omega
          have HBW := Lib.hid hbz
          by_cases h2 : gg.1 = 2
          · have f4 : ((gg.1 : Int) == 2) = true := by simp [h2]
            obtain ⟨k0, hk0⟩ : ∃ k0, gg.2.2 = [k0] := by
              rcases HOG.out with ⟨h, _⟩ | ⟨_, _, k0, h, h'⟩ | ⟨h, _⟩ | ⟨h, _⟩
              · omega
              · exact ⟨k0, h⟩
              · omega
              · omega
            have hall : allT f gg.2.2 = f k0 := by rw [hk0]; exact ones_and (HTL.out k0)
            have HVAL := Lib.hid (show f k = notT (f k0) by rw [HE.out, evT, if_neg h1, if_pos h2, hk0]; rfl)
            rw [hall]
            obtain ⟨Y, hY⟩ : ∃ Y, f k0 = Y := ⟨_, rfl⟩
            have hnb := not_bits2 (HTL.out k0)
            rw [hY] at HVAL hnb ⊢
            have HNB := Lib.hid hnb
            clear hnb
            clear h1 h2 hk0 hall hY hA64
            go_wp2_with (at_builtin; refine wpList_appU rfl _ _ 40 rfl i0 Tryz.underlying40 hi0 hz0 hz1 hz2 _ (w.heap.size + 1) (.slice ta k tc) ((List.range k).map f) ((notT Y)) wi.heap.size rfl (ownU_bel (ownU_bel HOU.out HBW.out) ((Below.refl _ _).alloc (Nat.le_refl _) _)) rfl ((World.alloc_heap_new wi _).trans (by rw [HNB.out])) (by rw [HLL.out]; omega) (by simp; omega) ?_; intro g1 c1 w1 ho1 hb1 hs1; rw [HLL.out] at ho1 ⊢; have HO1 := Lib.hid ho1; have HB1 := Lib.hid hb1; simp only [World.size_alloc] at hs1; clear ho1 hb1)
            have hbf : Below (w.heap.size + 1) wi w1 := ((Below.refl _ wi).alloc (by omega) _).trans HB1.out
            refine ⟨⟨k + 1, by go_num, by omega, ?_, HBE.out.trans ((HBW.out.mono hbs).trans (hbf.mono (by omega))), obj_below hbf (by omega) (obj_in HBW.out HNE.out), by omega⟩, by simp [intOf]; omega⟩
            rw [HRG.out, HVAL.out]
            exact HO1.out
          have f4 : ((gg.1 : Int) == 2) = false := by simp; omega
          obtain ⟨A, hA⟩ : ∃ A, allT f gg.2.2 = A := ⟨_, rfl⟩
          obtain ⟨S, hS⟩ : ∃ S, someT f gg.2.2 = S := ⟨_, rfl⟩
          rw [hA, hS]
          by_cases h4 : gg.1 = 4
          · have f5 : ((gg.1 : Int) == 4) = true := by simp [h4]
            have HVAL := Lib.hid (show f k = S by rw [HE.out, evT, if_neg h1, if_neg h2, if_neg (by omega), if_pos h4, ← hS]; rfl)
            clear h1 h2 h4 hA hS hA64
            go_wp2_with (at_builtin; refine wpList_appU rfl _ _ 40 rfl i0 Tryz.underlying40 hi0 hz0 hz1 hz2 _ (w.heap.size + 1) (.slice ta k tc) ((List.range k).map f) S wi.heap.size rfl (ownU_bel (ownU_bel HOU.out HBW.out) ((Below.refl _ _).alloc (Nat.le_refl _) _)) rfl (World.alloc_heap_new wi _) (by rw [HLL.out]; omega) (by simp; omega) ?_; intro g1 c1 w1 ho1 hb1 hs1; rw [HLL.out] at ho1 ⊢; have HO1 := Lib.hid ho1; have HB1 := Lib.hid hb1; simp only [World.size_alloc] at hs1; clear ho1 hb1)
            have hbf : Below (w.heap.size + 1) wi w1 := ((Below.refl _ wi).alloc (by omega) _).trans HB1.out
            refine ⟨⟨k + 1, by go_num, by omega, ?_, HBE.out.trans ((HBW.out.mono hbs).trans (hbf.mono (by omega))), obj_below hbf (by omega) (obj_in HBW.out HNE.out), by omega⟩, by simp [intOf]; omega⟩
            rw [HRG.out, HVAL.out]
            exact HO1.out
          have f5 : ((gg.1 : Int) == 4) = false := by simp; omega
          by_cases h5 : gg.1 = 5
          · have f6 : ((gg.1 : Int) == 5) = true := by simp [h5]
            have hnil : gg.2.2 = [] := by
              rcases HOG.out with ⟨h, _⟩ | ⟨h, _⟩ | ⟨h, _⟩ | ⟨_, _, h⟩
              · omega
              · omega
              · omega
              · exact h
            have HVAL := Lib.hid (show f k = S by rw [HE.out, evT, if_neg h1, if_neg h2, if_neg (by omega), if_neg h4, if_neg (by omega), ← hS, hnil]; rfl)
            clear h1 h2 h4 h5 hA hS hnil hA64
            go_wp2_with (at_builtin; refine wpList_appU rfl _ _ 40 rfl i0 Tryz.underlying40 hi0 hz0 hz1 hz2 _ (w.heap.size + 1) (.slice ta k tc) ((List.range k).map f) S wi.heap.size rfl (ownU_bel (ownU_bel HOU.out HBW.out) ((Below.refl _ _).alloc (Nat.le_refl _) _)) rfl (World.alloc_heap_new wi _) (by rw [HLL.out]; omega) (by simp; omega) ?_; intro g1 c1 w1 ho1 hb1 hs1; rw [HLL.out] at ho1 ⊢; have HO1 := Lib.hid ho1; have HB1 := Lib.hid hb1; simp only [World.size_alloc] at hs1; clear ho1 hb1)
            have hbf : Below (w.heap.size + 1) wi w1 := ((Below.refl _ wi).alloc (by omega) _).trans HB1.out
            refine ⟨⟨k + 1, by go_num, by omega, ?_, HBE.out.trans ((HBW.out.mono hbs).trans (hbf.mono (by omega))), obj_below hbf (by omega) (obj_in HBW.out HNE.out), by omega⟩, by simp [intOf]; omega⟩
            rw [HRG.out, HVAL.out]
            exact HO1.out
          · have f6 : ((gg.1 : Int) == 5) = false := by simp; omega
            have HVAL := Lib.hid (show f k = A by
              rw [HE.out, evT, if_neg h1, if_neg h2]
              by_cases h3 : gg.1 = 3
              · rw [if_pos h3, ← hA]; rfl
              · rw [if_neg h3, if_neg h4]
                rcases HOG.out with ⟨h, _⟩ | ⟨h, _⟩ | ⟨h, _⟩ | ⟨h, _, hn⟩
                · omega
                · omega
                · omega
                · rw [if_pos (by omega), ← hA, hn]; rfl)
            clear h1 h2 h4 h5 hA hS hA64
            go_wp2_with (at_builtin; refine wpList_appU rfl _ _ 40 rfl i0 Tryz.underlying40 hi0 hz0 hz1 hz2 _ (w.heap.size + 1) (.slice ta k tc) ((List.range k).map f) A wi.heap.size rfl (ownU_bel (ownU_bel HOU.out HBW.out) ((Below.refl _ _).alloc (Nat.le_refl _) _)) rfl (World.alloc_heap_new wi _) (by rw [HLL.out]; omega) (by simp; omega) ?_; intro g1 c1 w1 ho1 hb1 hs1; rw [HLL.out] at ho1 ⊢; have HO1 := Lib.hid ho1; have HB1 := Lib.hid hb1; simp only [World.size_alloc] at hs1; clear ho1 hb1)
            have hbf : Below (w.heap.size + 1) wi w1 := ((Below.refl _ wi).alloc (by omega) _).trans HB1.out
            refine ⟨⟨k + 1, by go_num, by omega, ?_, HBE.out.trans ((HBW.out.mono hbs).trans (hbf.mono (by omega))), obj_below hbf (by omega) (obj_in HBW.out HNE.out), by omega⟩, by simp [intOf]; omega⟩
            rw [HRG.out, HVAL.out]
            exact HO1.out
    · have hke : k = n := by omega
      subst hke
      have f1 : decide ((k : Int) < (k : Int)) = false := decide_eq_false (by omega)
      go_wp2
      refine bodyPost_ret (v := .slice ta k tc) (by simp [results, Tryz.results20, go_sem]) rfl ⟨_, rfl, ?_, HBE.out⟩
      have := HOU.out
      obtain ⟨hxl, ⟨e1, e2⟩ | ⟨g', cap', cur, e1, hg, hh⟩⟩ := this
      · exact ⟨hxl, .inl ⟨e1, e2⟩⟩
      · exact ⟨hxl, .inr ⟨g', cap', cur, e1, by omega, hh⟩⟩
end Go.Proofs.YtlnedapimmabdaaGreatDoor
