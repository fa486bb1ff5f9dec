/- The law of temperaments: Names, Make. -/
import Derived.Test.YtehgeoipbgpocaaGreatDoorTn
import Derived.Deep.RegionHeld3
namespace Go.Proofs.YtehgeoipbgpocaaGreatDoor
set_option linter.unusedVariables false
set_option linter.unusedSimpArgs false
open Go.RowKit
attribute [local go_sem low] Bel.cell Bel.frozen alloc_cell alloc_frozen
attribute [local go_sem] calmOp chainOp yieldsC grows

theorem lnames_any (w : World) : Calls Tryz.prog 79 #[] w fun e w' => ∃ b, e = .returned (.slice (some ⟨b, 0, none⟩) 6 6) ∧ ∃ y : Bel w, w' = y.w ∧
    w'.heap[b]? = some (.cells #[.string ⟨#[101, 113, 117, 97, 108]⟩, .string ⟨#[112, 121, 116, 104, 97, 103, 111, 114, 101, 97, 110]⟩, .string ⟨#[109, 101, 97, 110, 116, 111, 110, 101]⟩, .string ⟨#[119, 101, 114, 99, 107, 109, 101, 105, 115, 116, 101, 114]⟩, .string ⟨#[118, 97, 108, 108, 111, 116, 116, 105]⟩, .string ⟨#[107, 105, 114, 110, 98, 101, 114, 103, 101, 114]⟩] 9) := by
  go_enter Tryz.func79, Tryz.ntmps79
  go_wp2
  go_ret
  exact ⟨_, rfl, ⟨_, (Below.refl _ _).alloc (Nat.le_refl _) _⟩, rfl, obj_new _ _⟩
theorem drew_size (w : World) : w.drew.heap.size = w.heap.size := rfl
theorem wp_stC {op : Oper} {a : Act} {w : World} {K : Act → World → Prop} {Q : Exit → Act → World → Prop} (x y : Operand) (ho : op.op = .store 36 x y)
    (B : Nat) (c : Cir) (hx : a.eval x = .pointer (some ⟨B, 0, none⟩)) (hy : a.eval y = .agg (cirA c)) (T : TypeId) (old : Array Value) (hob : w.heap[B]? = some (.cells old T)) (h2 : old.size = 48)
    (h : ∀ W', Chg B (.cells (cirA c) T) w W' → K (a.put op.dst undef) W') : op.wp Tryz.prog a w K Q :=
  wp_store_row 36 x y ho B (cirA c) hx hy T old hob (by rw [cir_info, cirA_size]) (by rw [h2, cirA_size]) (cirA_one c) (h _ (chg_row hob))
def nmB (j : Nat) : Array UInt8 := match j with
  | 0 => #[101, 113, 117, 97, 108]
  | 1 => #[112, 121, 116, 104, 97, 103, 111, 114, 101, 97, 110]
  | 2 => #[109, 101, 97, 110, 116, 111, 110, 101]
  | 3 => #[119, 101, 114, 99, 107, 109, 101, 105, 115, 116, 101, 114]
  | 4 => #[118, 97, 108, 108, 111, 116, 116, 105]
  | _ => #[107, 105, 114, 110, 98, 101, 114, 103, 101, 114]
theorem nm_named (j : Nat) (hj : j < 6) (w : World) : Calls Tryz.prog 78 #[.string ⟨nmB j⟩] w (RetC w) := by
  rcases (show j = 0 ∨ j = 1 ∨ j = 2 ∨ j = 3 ∨ j = 4 ∨ j = 5 by omega) with rfl | rfl | rfl | rfl | rfl | rfl
  · exact lnamed_eq w
  · exact lnamed_pyt w
  · exact lnamed_mea w
  · exact lnamed_wer w
  · exact lnamed_val w
  · exact lnamed_kir w
theorem nm_cell {V : World} {b j : Nat} {T : TypeId} (hj : j < 6) (h : V.heap[b]? = some (.cells #[.string ⟨#[101, 113, 117, 97, 108]⟩, .string ⟨#[112, 121, 116, 104, 97, 103, 111, 114, 101, 97, 110]⟩, .string ⟨#[109, 101, 97, 110, 116, 111, 110, 101]⟩, .string ⟨#[119, 101, 114, 99, 107, 109, 101, 105, 115, 116, 101, 114]⟩, .string ⟨#[118, 97, 108, 108, 111, 116, 116, 105]⟩, .string ⟨#[107, 105, 114, 110, 98, 101, 114, 103, 101, 114]⟩] T)) : V.cell? ⟨b, j, none⟩ = some (.string ⟨nmB j⟩) := by
  have := (made_cell h j).1
  rcases (show j = 0 ∨ j = 1 ∨ j = 2 ∨ j = 3 ∨ j = 4 ∨ j = 5 by omega) with rfl | rfl | rfl | rfl | rfl | rfl <;> exact this
theorem there_of {V : World} {b : Nat} {T : TypeId} {cs : Array Value} (h : V.heap[b]? = some (.cells cs T)) (hs : cs.size = 48) : V.there b 0 48 := fun j hj => by
  have hm := made_cell h (0 + j)
  rw [Array.getElem?_eq_getElem (by omega)] at hm
  exact ⟨by rw [hm.1]; rfl, hm.2⟩
theorem setCells_row {V : World} {b : Nat} {T : TypeId} {old : Array Value} (c : Cir) (h : V.heap[b]? = some (.cells old T)) (hs : old.size = 48) : V.setCells b 0 (cirA c).toList = V.setRow b (cirA c) := by
  have h1 := run_storeVar_row (P := Tryz.prog) V b T 36 old (cirA c) h (by rw [cir_info, cirA_size]) (by rw [hs, cirA_size]) (cirA_one c)
  have h2 := run_storeVar_mid (P := Tryz.prog) V b 0 36 (cirA c) (by rw [cirA_size]; exact there_of h hs) (by rw [cir_info, cirA_size]) (cirA_one c)
  rw [h1] at h2
  exact (Result.ok.inj h2).2.symm
/-- A plan of a circle. -/
def parA (p : Nat → Int × Int) : List Value := (List.range 12).flatMap fun k => [Value.int .i8 (p k).1, .int .i8 (p k).2]
def planA (a : Int) (p : Nat → Int × Int) (d : Int) : Array Value := (Value.int .u8 a :: (parA p ++ [Value.int .u8 d])).toArray
theorem planA_0 (a : Int) (p : Nat → Int × Int) (d : Int) : (planA a p d)[0]? = some (.int .u8 a) := rfl
theorem planA_25 (a : Int) (p : Nat → Int × Int) (d : Int) : (planA a p d)[25]? = some (.int .u8 d) := rfl
theorem planA_size (a : Int) (p : Nat → Int × Int) (d : Int) : (planA a p d).size = 26 := rfl
theorem par_idx (p : Nat → Int × Int) (k : Nat) (hk : k < 12) (w : World) : (Instr.index 24 (.agg (parA p).toArray) (.int .i64 (k : Int))).run Tryz.prog w = .ok (.agg #[.int .i8 (p k).1, .int .i8 (p k).2]) w := by
  rcases (show k = 0 ∨ k = 1 ∨ k = 2 ∨ k = 3 ∨ k = 4 ∨ k = 5 ∨ k = 6 ∨ k = 7 ∨ k = 8 ∨ k = 9 ∨ k = 10 ∨ k = 11 by omega) with rfl | rfl | rfl | rfl | rfl | rfl | rfl | rfl | rfl | rfl | rfl | rfl <;> kernel_rfl
theorem par_under : Tryz.prog.underlying 24 = some (.array 12 23) := by kernel_rfl
theorem par_info : (Tryz.prog.info? 24).map (·.size) = some 24 := by kernel_rfl
theorem setCells_oth (b k : Nat) (hk : k ≠ b) : ∀ (vs : List Value) (o : Nat) (w : World), (w.setCells b o vs).heap[k]? = w.heap[k]?
  | [], _, _ => rfl
  | v :: r, o, w => by
    rw [World.setCells, setCells_oth b k hk r (o + 1)]
    exact Below.heap_setCell _ _ _ _ (by first | exact hk | exact hk.symm)
theorem setCells_below {n b : Nat} (hn : n ≤ b) {w0 : World} : ∀ (vs : List Value) (o : Nat) (w : World), Below n w0 w → Below n w0 (w.setCells b o vs)
  | [], _, _, h => h
  | v :: r, o, w, h => setCells_below hn r (o + 1) _ (h.setCell hn v)
set_option maxRecDepth 100000 in
set_option maxHeartbeats 6400000 in
theorem lmake_any (a : Int) (p : Nat → Int × Int) (d : Int) (w : World) (ha0 : 0 ≤ a) (ha : a < 256) (hd0 : 0 ≤ d) (hd : d < 256) (hp : ∀ k, k < 12 → -128 ≤ (p k).1 ∧ (p k).1 ≤ 127 ∧ -128 ≤ (p k).2 ∧ (p k).2 ≤ 127) :
    Calls Tryz.prog 33 #[.agg (planA a p d)] w fun e w' => ∃ c : Cir, e = .returned (.agg (cirA c)) ∧ ∃ y : Bel w, w' = y.w := by
  have HP := Lib.hid hp
  clear hp
  have HA0 := Lib.hid (planA_0 a p d)
  have HA1 := Lib.hid (planA_25 a p d)
  have HAS := Lib.hid (planA_size a p d)
  have HAP := Lib.hid (show ∀ j v, (parA p)[j]? = some v → (planA a p d)[1 + j]? = some v from fun j v h => by
    unfold planA
    rw [Nat.add_comm]
    simp [List.getElem?_append, (List.getElem?_eq_some_iff.1 h).1, (List.getElem?_eq_some_iff.1 h).2])
  generalize planA a p d = PA at *
  by_cases hc : a % 8 < 6
  · have c0 : ∀ o, ((w.alloc (.cells PA 26)).alloc o).cell? ⟨w.heap.size, 0, none⟩ = some (.int .u8 a) := fun o => (made_cell (obj_alloc o (obj_new w (.cells PA 26))) 0).1.trans HA0.out
    obtain ⟨j, hj6, hj⟩ : ∃ j : Nat, j < 6 ∧ a % 8 = (j : Int) := ⟨(a % 8).toNat, by omega, by omega⟩
    have hjt : a.tmod 8 = (j : Int) := by rw [Int.tmod_eq_emod_of_nonneg ha0]; exact hj
    have hib2 : (j : Int) < 6 := by omega
    have HNM := Lib.hid (nm_named j hj6)
    go_enter Tryz.func33, Tryz.ntmps33
    go_wp2_with fail
    have ho0 : ((w.alloc (.cells PA 26)).alloc (.cells (cirA zC) 36)).heap[w.heap.size]? = _ := obj_alloc _ (obj_new w (.cells PA 26))
    have ho1 : ((w.alloc (.cells PA 26)).alloc (.cells (cirA zC) 36)).heap[w.heap.size + 1]? = _ := obj_new1 _ _ _
    have hb : Below w.heap.size w ((w.alloc (.cells PA 26)).alloc (.cells (cirA zC) 36)) := by (repeat' (first | (with_reducible first | apply Zl1 | apply Zl2 | apply Zl3 | apply Zl4 | apply Zl5 | apply Zl6 | apply Zl7 | apply Zl8 | apply Zl9 | apply Zla | apply Zlb | apply Zlc) | (dsimp only; with_reducible first | apply Zl8 | apply Zl2 | apply Zld) | with_reducible assumption | omega | (dsimp only; omega)))
    have hcz := zC_lit
    rw [← hcz]
    clear hcz c0
    generalize (w.alloc (.cells PA 26)).alloc (.cells (cirA zC) 36) = Y at *
    clear hc
    obtain ⟨KE, hKE⟩ : ∃ KE : World → Prop, KE = fun V => Below w.heap.size w V ∧ V.heap[w.heap.size]? = some (.cells PA 26) ∧ V.heap[w.heap.size + 1]? = some (.cells (cirA zC) 36) := ⟨_, rfl⟩
    have hK0 : KE Y := by rw [hKE]; exact ⟨hb, ho0, ho1⟩
    have KB := Lib.hid (show ∀ (V : World) (z : Bel V), KE V → KE z.w from fun V z h => by rw [hKE] at h ⊢; exact ⟨Below.bel h.1 h.1.size, obj_bel z h.2.1, obj_bel z h.2.2⟩)
    have KD := Lib.hid (show ∀ (V : World), KE V → KE V.drew from fun V h => by rw [hKE] at h ⊢; exact ⟨h.1.drew, h.2.1, h.2.2⟩)
    have KA := Lib.hid (show ∀ (V : World) (o : Obj), KE V → KE (V.alloc o) from fun V o h => by rw [hKE] at h ⊢; exact ⟨h.1.alloc h.1.size o, obj_alloc o h.2.1, obj_alloc o h.2.2⟩)
    have KR := Lib.hid (show ∀ (V : World), KE V → Below w.heap.size w V ∧ V.heap[w.heap.size]? = some (.cells PA 26) ∧ V.heap[w.heap.size + 1]? = some (.cells (cirA zC) 36) from fun V h => by rw [hKE] at h; exact h)
    have KS := Lib.hid (show ∀ (V V' : World) (b : Nat) (o : Obj), Chg b o V V' → KE V → w.heap.size + 2 ≤ b → KE V' from fun V V' b o hc h hb => by
      rw [hKE] at h ⊢
      exact ⟨hc.below h.1 (by omega), hc.obj (by omega) h.2.1, hc.obj (by omega) h.2.2⟩)
    have SK := Lib.hid (show ∀ V : World, KE V → V.cell? ⟨w.heap.size, 0, none⟩ = some (.int .u8 a) ∧ KE V from fun V h => ⟨(made_cell (KR.out V h).2.1 0).1.trans HA0.out, h⟩)
    have hci := cir_info
    have hcz : cirA zC = #[.int .i64 0, .int .i64 0, .int .i64 0, .int .i64 0, .int .i64 0, .int .i64 0, .int .i64 0, .int .i64 0, .int .i64 0, .int .i64 0, .int .i64 0, .int .i64 0, .int .i64 0, .int .i64 0, .int .i64 0, .int .i64 0, .int .i64 0, .int .i64 0, .int .i64 0, .int .i64 0, .int .i64 0, .int .i64 0, .int .i64 0, .int .i64 0, .int .i64 0, .int .i64 0, .int .i64 0, .int .i64 0, .int .i64 0, .int .i64 0, .int .i64 0, .int .i64 0, .int .i64 0, .int .i64 0, .int .i64 0, .int .i64 0, .int .i64 0, .int .i64 0, .int .i64 0, .int .i64 0, .int .i64 0, .int .i64 0, .int .i64 0, .int .i64 0, .int .i64 0, .int .i64 0, .int .i64 0, .int .i64 0] := zC_lit
    have HZ := Lib.hid hcz
    have hYl := obj_lt ho1
    clear hcz ho0 ho1 hb hKE
    -- REGION2
    refine wp_region_held_drew (S := fun V => V.cell? ⟨w.heap.size, 0, none⟩ = some (.int .u8 a) ∧ KE V) (by kernel_rfl) (SK.out _ (KD.out _ hK0)) (fun hHeld => ?_)
    refine wpAnyH_take (i := 1) (oi := ?o1) (v := ?v1) ?hi1 (by kernel_rfl) (by kernel_rfl) (by kernel_rfl) ?hQ1 (Or.inl ⟨?hw1, ?hy1⟩) (by assumption) ?_
    case hi1 => (simp only [List.getElem?_toArray, List.getElem?_cons_succ, List.getElem?_cons_zero]; rfl)
    case hQ1 => exact fun _ _ _ h => h
    case hw1 => rfl
    case hy1 => intro w9 hSw; (try dsimp only at hSw); go_simp; try with_reducible rfl
    try simp only [Act.put, List.setIfInBounds_toArray, List.set_cons_zero, List.set_cons_succ]
    refine wpAnyH_take (i := 2) (oi := ?o2) (v := ?v2) ?hi2 (by kernel_rfl) (by kernel_rfl) (by kernel_rfl) ?hQ2 (Or.inl ⟨?hw2, ?hy2⟩) (by assumption) ?_
    case hi2 => (simp only [List.getElem?_toArray, List.getElem?_cons_succ, List.getElem?_cons_zero]; rfl)
    case hQ2 => exact fun _ _ _ h => h
    case hw2 => rfl
    case hy2 => intro w9 hSw; (try dsimp only at hSw); go_simp; try with_reducible rfl
    try simp only [Act.put, List.setIfInBounds_toArray, List.set_cons_zero, List.set_cons_succ]
    refine wpAnyH_take (i := 3) (oi := ?o3) (v := ?v3) ?hi3 (by kernel_rfl) (by kernel_rfl) (by kernel_rfl) ?hQ3 (Or.inl ⟨?hw3, ?hy3⟩) (by assumption) ?_
    case hi3 => (simp only [List.getElem?_toArray, List.getElem?_cons_succ, List.getElem?_cons_zero]; rfl)
    case hQ3 => exact fun _ _ _ h => h
    case hw3 => rfl
    case hy3 => intro w9 hSw; (try dsimp only at hSw); go_simp; try with_reducible rfl
    try simp only [Act.put, List.setIfInBounds_toArray, List.set_cons_zero, List.set_cons_succ]
    refine wpAnyH_ready (rs := [0, 10]) (by kernel_rfl) (by simp) ?_
    refine AllReadyH.cons (o := ?o38) ?hi38 (fun K hK => ?s38) ?m38
    case hi38 => (simp only [List.getElem?_toArray, List.getElem?_cons_succ, List.getElem?_cons_zero]; rfl)
    case s38 =>
      go_simp
      go_at_call 79
      refine (lnames_any _).mono ?_
      rintro _ _ ⟨nb, rfl, y, rfl, hnm⟩
      have hys := y.size_le
      try simp only [drew_size, World.size_alloc] at hys
      have hnc := nm_cell hj6 hnm
      have HN := Lib.hid hnm
      clear hnm
      dsimp only
      refine hK.out _ _ ?_ (fun hHeld => ?_)
      · exact SK.out _ (by (repeat' (first | with_reducible assumption | (with_reducible apply KD.out) | (with_reducible apply KB.out) | (with_reducible apply KA.out))))
      clear hK K
      try simp only [Act.put, List.setIfInBounds_toArray, List.set_cons_zero, List.set_cons_succ]
      refine wpAnyH_take (i := 4) (oi := ?o4) (v := ?v4) ?hi4 (by kernel_rfl) (by kernel_rfl) (by kernel_rfl) ?hQ4 (Or.inl ⟨?hw4, ?hy4⟩) (by assumption) ?_
      case hi4 => (simp only [List.getElem?_toArray, List.getElem?_cons_succ, List.getElem?_cons_zero]; rfl)
      case hQ4 => exact fun _ _ _ h => h
      case hw4 => rfl
      case hy4 => intro w9 hSw; (try dsimp only at hSw); go_simp; try with_reducible rfl
      try simp only [Act.put, List.setIfInBounds_toArray, List.set_cons_zero, List.set_cons_succ]
      refine wpAnyH_ready (rs := [5, 10]) (by kernel_rfl) (by simp) ?_
      refine AllReadyH.cons (o := ?o27) ?hi27 (fun K hK => ?s27) ?m27
      case hi27 => (simp only [List.getElem?_toArray, List.getElem?_cons_succ, List.getElem?_cons_zero]; rfl)
      case s27 =>
        go_simp
        refine hK.out _ _ ?_ (fun hHeld => ?_)
        · exact SK.out _ (by (repeat' (first | with_reducible assumption | (with_reducible apply KD.out) | (with_reducible apply KB.out) | (with_reducible apply KA.out))))
        clear hK K
        try simp only [Act.put, List.setIfInBounds_toArray, List.set_cons_zero, List.set_cons_succ]
        refine wpAnyH_ready (rs := [6, 10]) (by kernel_rfl) (by simp) ?_
        refine AllReadyH.cons (o := ?o18) ?hi18 (fun K hK => ?s18) ?m18
        case hi18 => (simp only [List.getElem?_toArray, List.getElem?_cons_succ, List.getElem?_cons_zero]; rfl)
        case s18 =>
          go_simp
          go_at_call 78
          refine (HNM.out _).mono ?_
          rintro _ _ ⟨c, rfl, z, rfl⟩
          have hzs := z.size_le
          try simp only [drew_size, World.size_alloc] at hzs
          dsimp only
          refine hK.out _ _ ?_ (fun hHeld => ?_)
          · exact SK.out _ (by (repeat' (first | with_reducible assumption | (with_reducible apply KD.out) | (with_reducible apply KB.out) | (with_reducible apply KA.out))))
          clear hK K
          try simp only [Act.put, List.setIfInBounds_toArray, List.set_cons_zero, List.set_cons_succ]
          refine wpAnyH_take (i := 7) (oi := ?o5) (v := ?v5) ?hi5 (by kernel_rfl) (by kernel_rfl) (by kernel_rfl) ?hQ5 (Or.inl ⟨?hw5, ?hy5⟩) (by assumption) ?_
          case hi5 => (simp only [List.getElem?_toArray, List.getElem?_cons_succ, List.getElem?_cons_zero]; rfl)
          case hQ5 => exact fun _ _ _ h => h
          case hw5 => rfl
          case hy5 => intro w9 hSw; (try dsimp only at hSw); go_simp; try with_reducible rfl
          try simp only [Act.put, List.setIfInBounds_toArray, List.set_cons_zero, List.set_cons_succ]
          refine wpAnyH_take (i := 8) (oi := ?o6) (v := ?v6) ?hi6 (by kernel_rfl) (by kernel_rfl) (by kernel_rfl) ?hQ6 (Or.inl ⟨?hw6, ?hy6⟩) (by assumption) ?_
          case hi6 => (simp only [List.getElem?_toArray, List.getElem?_cons_succ, List.getElem?_cons_zero]; rfl)
          case hQ6 => exact fun _ _ _ h => h
          case hw6 => rfl
          case hy6 => intro w9 hSw; (try dsimp only at hSw); go_simp; try with_reducible rfl
          try simp only [Act.put, List.setIfInBounds_toArray, List.set_cons_zero, List.set_cons_succ]
          refine wpAnyH_take (i := 9) (oi := ?o7) (v := ?v7) ?hi7 (by kernel_rfl) (by kernel_rfl) (by kernel_rfl) ?hQ7 (Or.inl ⟨?hw7, ?hy7⟩) (by assumption) ?_
          case hi7 => (simp only [List.getElem?_toArray, List.getElem?_cons_succ, List.getElem?_cons_zero]; rfl)
          case hQ7 => exact fun _ _ _ h => h
          case hw7 => rfl
          case hy7 => intro w9 hSw; (try dsimp only at hSw); go_simp; try with_reducible rfl
          try simp only [Act.put, List.setIfInBounds_toArray, List.set_cons_zero, List.set_cons_succ]
          refine wpAnyH_ready (rs := [10]) (by kernel_rfl) (by simp) ?_
          refine AllReadyH.cons (o := ?o10) ?hi10 (fun K hK => ?s10) ?m10
          case hi10 => (simp only [List.getElem?_toArray, List.getElem?_cons_succ, List.getElem?_cons_zero]; rfl)
          case s10 =>
            go_simp
            refine hK.out _ _ ?_ (fun hHeld => ?_)
            · exact SK.out _ (by (repeat' (first | with_reducible assumption | (with_reducible apply KD.out) | (with_reducible apply KB.out) | (with_reducible apply KA.out))))
            clear hK K
            try simp only [Act.put, List.setIfInBounds_toArray, List.set_cons_zero, List.set_cons_succ]
            refine wpAnyH_ready (rs := [11]) (by kernel_rfl) (by simp) ?_
            refine AllReadyH.cons (o := ?o9) ?hi9 (fun K hK => ?s9) ?m9
            case hi9 => (simp only [List.getElem?_toArray, List.getElem?_cons_succ, List.getElem?_cons_zero]; rfl)
            case s9 =>
              rw [if_pos (by rfl)]
              refine wp_stC _ _ rfl _ c rfl rfl _ _ (by (repeat' (first | exact obj_new _ _ | (with_reducible apply obj_bel) | (with_reducible apply obj_drew) | (with_reducible apply obj_alloc)))) (by rfl) (fun W' hW' => ?_)
              refine hK.out _ _ (SK.out _ (KS.out _ _ _ _ hW' (by (repeat' (first | with_reducible assumption | (with_reducible apply KD.out) | (with_reducible apply KB.out) | (with_reducible apply KA.out)))) (by omega))) (fun hHeld => ?_)
              clear hK K
              try simp only [Act.put, List.setIfInBounds_toArray, List.set_cons_zero, List.set_cons_succ]
              refine wpAnyH_take (i := 12) (oi := ?o8) (v := ?v8) ?hi8 (by kernel_rfl) (by kernel_rfl) (by kernel_rfl) ?hQ8 (Or.inl ⟨?hw8, ?hy8⟩) (by assumption) ?_
              case hi8 => (simp only [List.getElem?_toArray, List.getElem?_cons_succ, List.getElem?_cons_zero]; rfl)
              case hQ8 => exact fun _ _ _ h => h
              case hw8 => rfl
              case hy8 => intro w9 hSw; (try dsimp only at hSw); go_simp; try with_reducible rfl
              try simp only [Act.put, List.setIfInBounds_toArray, List.set_cons_zero, List.set_cons_succ]
              refine wpAnyH_done (by kernel_rfl) ?_ _
              have hE := KR.out _ hHeld.2
              have HV2 := Lib.hid hW'.b
              have HV0 := Lib.hid hE.2.2
              have hvb := hE.1
              have hvw := hvb.size
              clear hE hHeld hW' KB KD KA KR KS SK
              go_wp2_with (first | refine wpList_ldC rfl _ rfl _ rfl (cirA c) HV2.out (cirA_size _) ?_ | refine wpList_stC rfl _ _ rfl (w.heap.size + 1) (cirA c) rfl rfl (cirA zC) _ HV0.out (cirA_size _) (cirA_size _) (cirA_one _) (fun W' hW' => Hid.out ?_))
              refine Lib.hid ?_
              have hbb := hW'.below hvb (by omega)
              have hcr := hW'.b
              clear HV0 HV2 hW'
              go_wp2_with fail
              refine ret_obj (b := w.heap.size + 1) hcr (fun W2 h2 => by
                have hl := cir_load h2
                simp [results, Tryz.results33, Act.put, Sem.run_bind, asAddr, hl]) rfl ⟨c, rfl, ⟨_, hbb⟩, rfl⟩
            case m9 =>
              exact AllReadyH.nil
          case m10 =>
            exact AllReadyH.nil
        case m18 =>
          refine AllReadyH.cons (o := ?o17) ?hi17 (fun K hK => ?s17) ?m17
          case hi17 => (simp only [List.getElem?_toArray, List.getElem?_cons_succ, List.getElem?_cons_zero]; rfl)
          case s17 =>
            go_simp
            refine hK.out _ _ ?_ (fun hHeld => ?_)
            · exact SK.out _ (by (repeat' (first | with_reducible assumption | (with_reducible apply KD.out) | (with_reducible apply KB.out) | (with_reducible apply KA.out))))
            clear hK K
            try simp only [Act.put, List.setIfInBounds_toArray, List.set_cons_zero, List.set_cons_succ]
            refine wpAnyH_ready (rs := [6]) (by kernel_rfl) (by simp) ?_
            refine AllReadyH.cons (o := ?o16) ?hi16 (fun K hK => ?s16) ?m16
            case hi16 => (simp only [List.getElem?_toArray, List.getElem?_cons_succ, List.getElem?_cons_zero]; rfl)
            case s16 =>
              go_simp
              go_at_call 78
              refine (HNM.out _).mono ?_
              rintro _ _ ⟨c, rfl, z, rfl⟩
              have hzs := z.size_le
              try simp only [drew_size, World.size_alloc] at hzs
              dsimp only
              refine hK.out _ _ ?_ (fun hHeld => ?_)
              · exact SK.out _ (by (repeat' (first | with_reducible assumption | (with_reducible apply KD.out) | (with_reducible apply KB.out) | (with_reducible apply KA.out))))
              clear hK K
              try simp only [Act.put, List.setIfInBounds_toArray, List.set_cons_zero, List.set_cons_succ]
              refine wpAnyH_take (i := 7) (oi := ?o11) (v := ?v11) ?hi11 (by kernel_rfl) (by kernel_rfl) (by kernel_rfl) ?hQ11 (Or.inl ⟨?hw11, ?hy11⟩) (by assumption) ?_
              case hi11 => (simp only [List.getElem?_toArray, List.getElem?_cons_succ, List.getElem?_cons_zero]; rfl)
              case hQ11 => exact fun _ _ _ h => h
              case hw11 => rfl
              case hy11 => intro w9 hSw; (try dsimp only at hSw); go_simp; try with_reducible rfl
              try simp only [Act.put, List.setIfInBounds_toArray, List.set_cons_zero, List.set_cons_succ]
              refine wpAnyH_take (i := 8) (oi := ?o12) (v := ?v12) ?hi12 (by kernel_rfl) (by kernel_rfl) (by kernel_rfl) ?hQ12 (Or.inl ⟨?hw12, ?hy12⟩) (by assumption) ?_
              case hi12 => (simp only [List.getElem?_toArray, List.getElem?_cons_succ, List.getElem?_cons_zero]; rfl)
              case hQ12 => exact fun _ _ _ h => h
              case hw12 => rfl
              case hy12 => intro w9 hSw; (try dsimp only at hSw); go_simp; try with_reducible rfl
              try simp only [Act.put, List.setIfInBounds_toArray, List.set_cons_zero, List.set_cons_succ]
              refine wpAnyH_take (i := 9) (oi := ?o13) (v := ?v13) ?hi13 (by kernel_rfl) (by kernel_rfl) (by kernel_rfl) ?hQ13 (Or.inl ⟨?hw13, ?hy13⟩) (by assumption) ?_
              case hi13 => (simp only [List.getElem?_toArray, List.getElem?_cons_succ, List.getElem?_cons_zero]; rfl)
              case hQ13 => exact fun _ _ _ h => h
              case hw13 => rfl
              case hy13 => intro w9 hSw; (try dsimp only at hSw); go_simp; try with_reducible rfl
              try simp only [Act.put, List.setIfInBounds_toArray, List.set_cons_zero, List.set_cons_succ]
              refine wpAnyH_ready (rs := [11]) (by kernel_rfl) (by simp) ?_
              refine AllReadyH.cons (o := ?o15) ?hi15 (fun K hK => ?s15) ?m15
              case hi15 => (simp only [List.getElem?_toArray, List.getElem?_cons_succ, List.getElem?_cons_zero]; rfl)
              case s15 =>
                rw [if_pos (by rfl)]
                refine wp_stC _ _ rfl _ c rfl rfl _ _ (by (repeat' (first | exact obj_new _ _ | (with_reducible apply obj_bel) | (with_reducible apply obj_drew) | (with_reducible apply obj_alloc)))) (by rfl) (fun W' hW' => ?_)
                refine hK.out _ _ (SK.out _ (KS.out _ _ _ _ hW' (by (repeat' (first | with_reducible assumption | (with_reducible apply KD.out) | (with_reducible apply KB.out) | (with_reducible apply KA.out)))) (by omega))) (fun hHeld => ?_)
                clear hK K
                try simp only [Act.put, List.setIfInBounds_toArray, List.set_cons_zero, List.set_cons_succ]
                refine wpAnyH_take (i := 12) (oi := ?o14) (v := ?v14) ?hi14 (by kernel_rfl) (by kernel_rfl) (by kernel_rfl) ?hQ14 (Or.inl ⟨?hw14, ?hy14⟩) (by assumption) ?_
                case hi14 => (simp only [List.getElem?_toArray, List.getElem?_cons_succ, List.getElem?_cons_zero]; rfl)
                case hQ14 => exact fun _ _ _ h => h
                case hw14 => rfl
                case hy14 => intro w9 hSw; (try dsimp only at hSw); go_simp; try with_reducible rfl
                try simp only [Act.put, List.setIfInBounds_toArray, List.set_cons_zero, List.set_cons_succ]
                refine wpAnyH_done (by kernel_rfl) ?_ _
                have hE := KR.out _ hHeld.2
                have HV2 := Lib.hid hW'.b
                have HV0 := Lib.hid hE.2.2
                have hvb := hE.1
                have hvw := hvb.size
                clear hE hHeld hW' KB KD KA KR KS SK
                go_wp2_with (first | refine wpList_ldC rfl _ rfl _ rfl (cirA c) HV2.out (cirA_size _) ?_ | refine wpList_stC rfl _ _ rfl (w.heap.size + 1) (cirA c) rfl rfl (cirA zC) _ HV0.out (cirA_size _) (cirA_size _) (cirA_one _) (fun W' hW' => Hid.out ?_))
                refine Lib.hid ?_
                have hbb := hW'.below hvb (by omega)
                have hcr := hW'.b
                clear HV0 HV2 hW'
                go_wp2_with fail
                refine ret_obj (b := w.heap.size + 1) hcr (fun W2 h2 => by
                  have hl := cir_load h2
                  simp [results, Tryz.results33, Act.put, Sem.run_bind, asAddr, hl]) rfl ⟨c, rfl, ⟨_, hbb⟩, rfl⟩
              case m15 =>
                exact AllReadyH.nil
            case m16 =>
              exact AllReadyH.nil
          case m17 =>
            exact AllReadyH.nil
      case m27 =>
        refine AllReadyH.cons (o := ?o26) ?hi26 (fun K hK => ?s26) ?m26
        case hi26 => (simp only [List.getElem?_toArray, List.getElem?_cons_succ, List.getElem?_cons_zero]; rfl)
        case s26 =>
          go_simp
          refine hK.out _ _ ?_ (fun hHeld => ?_)
          · exact SK.out _ (by (repeat' (first | with_reducible assumption | (with_reducible apply KD.out) | (with_reducible apply KB.out) | (with_reducible apply KA.out))))
          clear hK K
          try simp only [Act.put, List.setIfInBounds_toArray, List.set_cons_zero, List.set_cons_succ]
          refine wpAnyH_ready (rs := [5]) (by kernel_rfl) (by simp) ?_
          refine AllReadyH.cons (o := ?o25) ?hi25 (fun K hK => ?s25) ?m25
          case hi25 => (simp only [List.getElem?_toArray, List.getElem?_cons_succ, List.getElem?_cons_zero]; rfl)
          case s25 =>
            go_simp
            refine hK.out _ _ ?_ (fun hHeld => ?_)
            · exact SK.out _ (by (repeat' (first | with_reducible assumption | (with_reducible apply KD.out) | (with_reducible apply KB.out) | (with_reducible apply KA.out))))
            clear hK K
            try simp only [Act.put, List.setIfInBounds_toArray, List.set_cons_zero, List.set_cons_succ]
            refine wpAnyH_ready (rs := [6]) (by kernel_rfl) (by simp) ?_
            refine AllReadyH.cons (o := ?o24) ?hi24 (fun K hK => ?s24) ?m24
            case hi24 => (simp only [List.getElem?_toArray, List.getElem?_cons_succ, List.getElem?_cons_zero]; rfl)
            case s24 =>
              go_simp
              go_at_call 78
              refine (HNM.out _).mono ?_
              rintro _ _ ⟨c, rfl, z, rfl⟩
              have hzs := z.size_le
              try simp only [drew_size, World.size_alloc] at hzs
              dsimp only
              refine hK.out _ _ ?_ (fun hHeld => ?_)
              · exact SK.out _ (by (repeat' (first | with_reducible assumption | (with_reducible apply KD.out) | (with_reducible apply KB.out) | (with_reducible apply KA.out))))
              clear hK K
              try simp only [Act.put, List.setIfInBounds_toArray, List.set_cons_zero, List.set_cons_succ]
              refine wpAnyH_take (i := 7) (oi := ?o19) (v := ?v19) ?hi19 (by kernel_rfl) (by kernel_rfl) (by kernel_rfl) ?hQ19 (Or.inl ⟨?hw19, ?hy19⟩) (by assumption) ?_
              case hi19 => (simp only [List.getElem?_toArray, List.getElem?_cons_succ, List.getElem?_cons_zero]; rfl)
              case hQ19 => exact fun _ _ _ h => h
              case hw19 => rfl
              case hy19 => intro w9 hSw; (try dsimp only at hSw); go_simp; try with_reducible rfl
              try simp only [Act.put, List.setIfInBounds_toArray, List.set_cons_zero, List.set_cons_succ]
              refine wpAnyH_take (i := 8) (oi := ?o20) (v := ?v20) ?hi20 (by kernel_rfl) (by kernel_rfl) (by kernel_rfl) ?hQ20 (Or.inl ⟨?hw20, ?hy20⟩) (by assumption) ?_
              case hi20 => (simp only [List.getElem?_toArray, List.getElem?_cons_succ, List.getElem?_cons_zero]; rfl)
              case hQ20 => exact fun _ _ _ h => h
              case hw20 => rfl
              case hy20 => intro w9 hSw; (try dsimp only at hSw); go_simp; try with_reducible rfl
              try simp only [Act.put, List.setIfInBounds_toArray, List.set_cons_zero, List.set_cons_succ]
              refine wpAnyH_take (i := 9) (oi := ?o21) (v := ?v21) ?hi21 (by kernel_rfl) (by kernel_rfl) (by kernel_rfl) ?hQ21 (Or.inl ⟨?hw21, ?hy21⟩) (by assumption) ?_
              case hi21 => (simp only [List.getElem?_toArray, List.getElem?_cons_succ, List.getElem?_cons_zero]; rfl)
              case hQ21 => exact fun _ _ _ h => h
              case hw21 => rfl
              case hy21 => intro w9 hSw; (try dsimp only at hSw); go_simp; try with_reducible rfl
              try simp only [Act.put, List.setIfInBounds_toArray, List.set_cons_zero, List.set_cons_succ]
              refine wpAnyH_ready (rs := [11]) (by kernel_rfl) (by simp) ?_
              refine AllReadyH.cons (o := ?o23) ?hi23 (fun K hK => ?s23) ?m23
              case hi23 => (simp only [List.getElem?_toArray, List.getElem?_cons_succ, List.getElem?_cons_zero]; rfl)
              case s23 =>
                rw [if_pos (by rfl)]
                refine wp_stC _ _ rfl _ c rfl rfl _ _ (by (repeat' (first | exact obj_new _ _ | (with_reducible apply obj_bel) | (with_reducible apply obj_drew) | (with_reducible apply obj_alloc)))) (by rfl) (fun W' hW' => ?_)
                refine hK.out _ _ (SK.out _ (KS.out _ _ _ _ hW' (by (repeat' (first | with_reducible assumption | (with_reducible apply KD.out) | (with_reducible apply KB.out) | (with_reducible apply KA.out)))) (by omega))) (fun hHeld => ?_)
                clear hK K
                try simp only [Act.put, List.setIfInBounds_toArray, List.set_cons_zero, List.set_cons_succ]
                refine wpAnyH_take (i := 12) (oi := ?o22) (v := ?v22) ?hi22 (by kernel_rfl) (by kernel_rfl) (by kernel_rfl) ?hQ22 (Or.inl ⟨?hw22, ?hy22⟩) (by assumption) ?_
                case hi22 => (simp only [List.getElem?_toArray, List.getElem?_cons_succ, List.getElem?_cons_zero]; rfl)
                case hQ22 => exact fun _ _ _ h => h
                case hw22 => rfl
                case hy22 => intro w9 hSw; (try dsimp only at hSw); go_simp; try with_reducible rfl
                try simp only [Act.put, List.setIfInBounds_toArray, List.set_cons_zero, List.set_cons_succ]
                refine wpAnyH_done (by kernel_rfl) ?_ _
                have hE := KR.out _ hHeld.2
                have HV2 := Lib.hid hW'.b
                have HV0 := Lib.hid hE.2.2
                have hvb := hE.1
                have hvw := hvb.size
                clear hE hHeld hW' KB KD KA KR KS SK
                go_wp2_with (first | refine wpList_ldC rfl _ rfl _ rfl (cirA c) HV2.out (cirA_size _) ?_ | refine wpList_stC rfl _ _ rfl (w.heap.size + 1) (cirA c) rfl rfl (cirA zC) _ HV0.out (cirA_size _) (cirA_size _) (cirA_one _) (fun W' hW' => Hid.out ?_))
                refine Lib.hid ?_
                have hbb := hW'.below hvb (by omega)
                have hcr := hW'.b
                clear HV0 HV2 hW'
                go_wp2_with fail
                refine ret_obj (b := w.heap.size + 1) hcr (fun W2 h2 => by
                  have hl := cir_load h2
                  simp [results, Tryz.results33, Act.put, Sem.run_bind, asAddr, hl]) rfl ⟨c, rfl, ⟨_, hbb⟩, rfl⟩
              case m23 =>
                exact AllReadyH.nil
            case m24 =>
              exact AllReadyH.nil
          case m25 =>
            exact AllReadyH.nil
        case m26 =>
          exact AllReadyH.nil
    case m38 =>
      refine AllReadyH.cons (o := ?o37) ?hi37 (fun K hK => ?s37) ?m37
      case hi37 => (simp only [List.getElem?_toArray, List.getElem?_cons_succ, List.getElem?_cons_zero]; rfl)
      case s37 =>
        go_simp
        refine hK.out _ _ ?_ (fun hHeld => ?_)
        · exact SK.out _ (by (repeat' (first | with_reducible assumption | (with_reducible apply KD.out) | (with_reducible apply KB.out) | (with_reducible apply KA.out))))
        clear hK K
        try simp only [Act.put, List.setIfInBounds_toArray, List.set_cons_zero, List.set_cons_succ]
        refine wpAnyH_ready (rs := [0]) (by kernel_rfl) (by simp) ?_
        refine AllReadyH.cons (o := ?o36) ?hi36 (fun K hK => ?s36) ?m36
        case hi36 => (simp only [List.getElem?_toArray, List.getElem?_cons_succ, List.getElem?_cons_zero]; rfl)
        case s36 =>
          go_simp
          go_at_call 79
          refine (lnames_any _).mono ?_
          rintro _ _ ⟨nb, rfl, y, rfl, hnm⟩
          have hys := y.size_le
          try simp only [drew_size, World.size_alloc] at hys
          have hnc := nm_cell hj6 hnm
          have HN := Lib.hid hnm
          clear hnm
          dsimp only
          refine hK.out _ _ ?_ (fun hHeld => ?_)
          · exact SK.out _ (by (repeat' (first | with_reducible assumption | (with_reducible apply KD.out) | (with_reducible apply KB.out) | (with_reducible apply KA.out))))
          clear hK K
          try simp only [Act.put, List.setIfInBounds_toArray, List.set_cons_zero, List.set_cons_succ]
          refine wpAnyH_take (i := 4) (oi := ?o28) (v := ?v28) ?hi28 (by kernel_rfl) (by kernel_rfl) (by kernel_rfl) ?hQ28 (Or.inl ⟨?hw28, ?hy28⟩) (by assumption) ?_
          case hi28 => (simp only [List.getElem?_toArray, List.getElem?_cons_succ, List.getElem?_cons_zero]; rfl)
          case hQ28 => exact fun _ _ _ h => h
          case hw28 => rfl
          case hy28 => intro w9 hSw; (try dsimp only at hSw); go_simp; try with_reducible rfl
          try simp only [Act.put, List.setIfInBounds_toArray, List.set_cons_zero, List.set_cons_succ]
          refine wpAnyH_ready (rs := [5]) (by kernel_rfl) (by simp) ?_
          refine AllReadyH.cons (o := ?o35) ?hi35 (fun K hK => ?s35) ?m35
          case hi35 => (simp only [List.getElem?_toArray, List.getElem?_cons_succ, List.getElem?_cons_zero]; rfl)
          case s35 =>
            go_simp
            refine hK.out _ _ ?_ (fun hHeld => ?_)
            · exact SK.out _ (by (repeat' (first | with_reducible assumption | (with_reducible apply KD.out) | (with_reducible apply KB.out) | (with_reducible apply KA.out))))
            clear hK K
            try simp only [Act.put, List.setIfInBounds_toArray, List.set_cons_zero, List.set_cons_succ]
            refine wpAnyH_ready (rs := [6]) (by kernel_rfl) (by simp) ?_
            refine AllReadyH.cons (o := ?o34) ?hi34 (fun K hK => ?s34) ?m34
            case hi34 => (simp only [List.getElem?_toArray, List.getElem?_cons_succ, List.getElem?_cons_zero]; rfl)
            case s34 =>
              go_simp
              go_at_call 78
              refine (HNM.out _).mono ?_
              rintro _ _ ⟨c, rfl, z, rfl⟩
              have hzs := z.size_le
              try simp only [drew_size, World.size_alloc] at hzs
              dsimp only
              refine hK.out _ _ ?_ (fun hHeld => ?_)
              · exact SK.out _ (by (repeat' (first | with_reducible assumption | (with_reducible apply KD.out) | (with_reducible apply KB.out) | (with_reducible apply KA.out))))
              clear hK K
              try simp only [Act.put, List.setIfInBounds_toArray, List.set_cons_zero, List.set_cons_succ]
              refine wpAnyH_take (i := 7) (oi := ?o29) (v := ?v29) ?hi29 (by kernel_rfl) (by kernel_rfl) (by kernel_rfl) ?hQ29 (Or.inl ⟨?hw29, ?hy29⟩) (by assumption) ?_
              case hi29 => (simp only [List.getElem?_toArray, List.getElem?_cons_succ, List.getElem?_cons_zero]; rfl)
              case hQ29 => exact fun _ _ _ h => h
              case hw29 => rfl
              case hy29 => intro w9 hSw; (try dsimp only at hSw); go_simp; try with_reducible rfl
              try simp only [Act.put, List.setIfInBounds_toArray, List.set_cons_zero, List.set_cons_succ]
              refine wpAnyH_take (i := 8) (oi := ?o30) (v := ?v30) ?hi30 (by kernel_rfl) (by kernel_rfl) (by kernel_rfl) ?hQ30 (Or.inl ⟨?hw30, ?hy30⟩) (by assumption) ?_
              case hi30 => (simp only [List.getElem?_toArray, List.getElem?_cons_succ, List.getElem?_cons_zero]; rfl)
              case hQ30 => exact fun _ _ _ h => h
              case hw30 => rfl
              case hy30 => intro w9 hSw; (try dsimp only at hSw); go_simp; try with_reducible rfl
              try simp only [Act.put, List.setIfInBounds_toArray, List.set_cons_zero, List.set_cons_succ]
              refine wpAnyH_take (i := 9) (oi := ?o31) (v := ?v31) ?hi31 (by kernel_rfl) (by kernel_rfl) (by kernel_rfl) ?hQ31 (Or.inl ⟨?hw31, ?hy31⟩) (by assumption) ?_
              case hi31 => (simp only [List.getElem?_toArray, List.getElem?_cons_succ, List.getElem?_cons_zero]; rfl)
              case hQ31 => exact fun _ _ _ h => h
              case hw31 => rfl
              case hy31 => intro w9 hSw; (try dsimp only at hSw); go_simp; try with_reducible rfl
              try simp only [Act.put, List.setIfInBounds_toArray, List.set_cons_zero, List.set_cons_succ]
              refine wpAnyH_ready (rs := [11]) (by kernel_rfl) (by simp) ?_
              refine AllReadyH.cons (o := ?o33) ?hi33 (fun K hK => ?s33) ?m33
              case hi33 => (simp only [List.getElem?_toArray, List.getElem?_cons_succ, List.getElem?_cons_zero]; rfl)
              case s33 =>
                rw [if_pos (by rfl)]
                refine wp_stC _ _ rfl _ c rfl rfl _ _ (by (repeat' (first | exact obj_new _ _ | (with_reducible apply obj_bel) | (with_reducible apply obj_drew) | (with_reducible apply obj_alloc)))) (by rfl) (fun W' hW' => ?_)
                refine hK.out _ _ (SK.out _ (KS.out _ _ _ _ hW' (by (repeat' (first | with_reducible assumption | (with_reducible apply KD.out) | (with_reducible apply KB.out) | (with_reducible apply KA.out)))) (by omega))) (fun hHeld => ?_)
                clear hK K
                try simp only [Act.put, List.setIfInBounds_toArray, List.set_cons_zero, List.set_cons_succ]
                refine wpAnyH_take (i := 12) (oi := ?o32) (v := ?v32) ?hi32 (by kernel_rfl) (by kernel_rfl) (by kernel_rfl) ?hQ32 (Or.inl ⟨?hw32, ?hy32⟩) (by assumption) ?_
                case hi32 => (simp only [List.getElem?_toArray, List.getElem?_cons_succ, List.getElem?_cons_zero]; rfl)
                case hQ32 => exact fun _ _ _ h => h
                case hw32 => rfl
                case hy32 => intro w9 hSw; (try dsimp only at hSw); go_simp; try with_reducible rfl
                try simp only [Act.put, List.setIfInBounds_toArray, List.set_cons_zero, List.set_cons_succ]
                refine wpAnyH_done (by kernel_rfl) ?_ _
                have hE := KR.out _ hHeld.2
                have HV2 := Lib.hid hW'.b
                have HV0 := Lib.hid hE.2.2
                have hvb := hE.1
                have hvw := hvb.size
                clear hE hHeld hW' KB KD KA KR KS SK
                go_wp2_with (first | refine wpList_ldC rfl _ rfl _ rfl (cirA c) HV2.out (cirA_size _) ?_ | refine wpList_stC rfl _ _ rfl (w.heap.size + 1) (cirA c) rfl rfl (cirA zC) _ HV0.out (cirA_size _) (cirA_size _) (cirA_one _) (fun W' hW' => Hid.out ?_))
                refine Lib.hid ?_
                have hbb := hW'.below hvb (by omega)
                have hcr := hW'.b
                clear HV0 HV2 hW'
                go_wp2_with fail
                refine ret_obj (b := w.heap.size + 1) hcr (fun W2 h2 => by
                  have hl := cir_load h2
                  simp [results, Tryz.results33, Act.put, Sem.run_bind, asAddr, hl]) rfl ⟨c, rfl, ⟨_, hbb⟩, rfl⟩
              case m33 =>
                exact AllReadyH.nil
            case m34 =>
              exact AllReadyH.nil
          case m35 =>
            exact AllReadyH.nil
        case m36 =>
          exact AllReadyH.nil
      case m37 =>
        exact AllReadyH.nil
    -- END2
  · have c0 : ∀ o, ((w.alloc (.cells PA 26)).alloc o).cell? ⟨w.heap.size, 0, none⟩ = some (.int .u8 a) := fun o => (made_cell (obj_alloc o (obj_new w (.cells PA 26))) 0).1.trans HA0.out
    have c25 : ∀ o o', (((w.alloc (.cells PA 26)).alloc o).alloc o').cell? ⟨w.heap.size, 25, none⟩ = some (.int .u8 d) := fun o o' => (made_cell (obj_alloc o' (obj_alloc o (obj_new w (.cells PA 26)))) 25).1.trans HA1.out
    have HRG := Lib.hid (show ∀ o o', (((w.alloc (.cells PA 26)).alloc o).alloc o').rangeAt w.heap.size 1 (parA p) from fun o o' j v hv => (made_cell (obj_alloc o' (obj_alloc o (obj_new w (.cells PA 26)))) (1 + j)).1.trans (HAP.out j v hv))
    have hd6 : d.tmod 6 = d % 6 := Int.tmod_eq_emod_of_nonneg hd0
    have hc2 : decide (a % 8 < 6) = false := decide_eq_false hc
    have hc3 : (a % 8 < 6) = False := eq_false hc
    clear hc
    go_enter Tryz.func33, Tryz.ntmps33
    go_wp2_with (refine wpList_load_mid rfl 24 _ rfl w.heap.size 1 rfl (parA p) _ (HRG.out _ _) par_under rfl par_info ?_)
    have hz2 : (((w.alloc (.cells PA 26)).alloc (.cells (cirA zC) 36)).alloc (.cells (cirA zC) 36)).heap[w.heap.size + 2]? = _ := obj_new2 _ _ _ _
    have hz1 : (((w.alloc (.cells PA 26)).alloc (.cells (cirA zC) 36)).alloc (.cells (cirA zC) 36)).heap[w.heap.size + 1]? = _ := obj_alloc _ (obj_new1 _ _ _)
    have hzb : Below w.heap.size w (((w.alloc (.cells PA 26)).alloc (.cells (cirA zC) 36)).alloc (.cells (cirA zC) 36)) := by (repeat' (first | (with_reducible first | apply Zl1 | apply Zl2 | apply Zl3 | apply Zl4 | apply Zl5 | apply Zl6 | apply Zl7 | apply Zl8 | apply Zl9 | apply Zla | apply Zlb | apply Zlc) | (dsimp only; with_reducible first | apply Zl8 | apply Zl2 | apply Zld) | with_reducible assumption | omega | (dsimp only; omega)))
    have hcz := zC_lit
    rw [← hcz]
    clear hcz c0 c25 HRG
    generalize ((w.alloc (.cells PA 26)).alloc (.cells (cirA zC) 36)).alloc (.cells (cirA zC) 36) = Y at *
    have HIX := Lib.hid (par_idx p)
    generalize (parA p).toArray = PV at *
    obtain ⟨e, he, he1, he2⟩ : ∃ e : Int, 1 + d % 6 = e ∧ 1 ≤ e ∧ e ≤ 6 := ⟨_, rfl, by omega, by omega⟩
    rw [he]
    clear he hd6 hc2 hc3 HAP HA0 HA1 HAS
    go_loopw [31] (fun iv wr => ∃ k : Nat, k ≤ 12 ∧ iv = .int .i64 (k : Int) ∧ wr.heap[w.heap.size + 1]? = some (.cells (cirA zC) 36) ∧
      (∃ c, wr.heap[w.heap.size + 2]? = some (.cells (cirA c) 36)) ∧ Below w.heap.size w wr) (fun iv _ => 12 - (intOf iv).toNat)
    case atStart => exact ⟨0, by omega, rfl, hz1, ⟨_, hz2⟩, hzb⟩
    case round =>
      obtain ⟨k, hk, rfl, ho1, ⟨c, ho2⟩, hB⟩ := hrel
      have hbs := hB.size
      have hl2 := obj_lt ho2
      clear hz1 hz2 hzb
      have HO1 := Lib.hid ho1
      have HO2 := Lib.hid ho2
      clear ho1 ho2
      by_cases hk12 : k < 12
      · have hki : (k : Int) < 12 := by omega
        obtain ⟨p1, p2, p3, p4⟩ := HP.out k hk12
        have hix := HIX.out k hk12
        generalize (p k).1 = x at *
        generalize (p k).2 = y at *
        have hx4 : -3 ≤ x.tmod 4 ∧ x.tmod 4 ≤ 3 := by
          have h1 := Int.natAbs_tmod x 4
          have h2 := Nat.mod_lt x.natAbs (show 0 < (4 : Int).natAbs by decide)
          rw [← h1] at h2
          have : (4 : Int).natAbs = 4 := rfl
          omega
        have hy4 : -3 ≤ y.tmod 4 ∧ y.tmod 4 ≤ 3 := by
          have h1 := Int.natAbs_tmod y 4
          have h2 := Nat.mod_lt y.natAbs (show 0 < (4 : Int).natAbs by decide)
          rw [← h1] at h2
          have : (4 : Int).natAbs = 4 := rfl
          omega
        have HL1 := Lib.hid (fun w' => lpart_any (x.tmod 4) e w' (by omega) (by omega) (by omega) (by omega))
        have HL2 := Lib.hid (fun w' => lpart_any (y.tmod 4) e w' (by omega) (by omega) (by omega) (by omega))
        obtain ⟨q1, hq1⟩ : ∃ q, lowS (x.tmod 4) e = q := ⟨_, rfl⟩
        obtain ⟨q2, hq2⟩ : ∃ q, lowS (y.tmod 4) e = q := ⟨_, rfl⟩
        rw [hq1] at HL1
        rw [hq2] at HL2
        clear hq1 hq2 hx4 hy4
        go_wp2_with fail
        have HV1 := Lib.hid (obj_alloc (.cells #[.int .i8 x, .int .i8 y] 23) HO1.out)
        have HV2 := Lib.hid (obj_alloc (.cells #[.int .i8 x, .int .i8 y] 23) HO2.out)
        have hvb : Below w.heap.size w (wr.alloc (.cells #[.int .i8 x, .int .i8 y] 23)) := by (repeat' (first | (with_reducible first | apply Zl1 | apply Zl2 | apply Zl3 | apply Zl4 | apply Zl5 | apply Zl6 | apply Zl7 | apply Zl8 | apply Zl9 | apply Zla | apply Zlb | apply Zlc) | (dsimp only; with_reducible first | apply Zl8 | apply Zl2 | apply Zld) | with_reducible assumption | omega | (dsimp only; omega)))
        clear HO1 HO2
        refine wp_region_belT 15 (by kernel_rfl) (by kernel_rfl) ?_
        simp only [List.take_succ_cons, List.take_zero, List.drop_succ_cons, List.drop_zero]
        repeat (go_big_quiet_step ((first | (go_at_call 80; first | with_reducible exact bel_of (HL1.out _) | with_reducible exact bel_of (HL2.out _)))))
        refine wpQuiet_nil ?_
        rintro _ ⟨z, rfl⟩
        have hzs := z.size_le
        rw [World.size_alloc] at hzs
        have HZ1 := Lib.hid (obj_bel z HV1.out)
        have HZ2 := Lib.hid (obj_bel z HV2.out)
        have hzb : Below w.heap.size w z.w := by (repeat' (first | (with_reducible first | apply Zl1 | apply Zl2 | apply Zl3 | apply Zl4 | apply Zl5 | apply Zl6 | apply Zl7 | apply Zl8 | apply Zl9 | apply Zla | apply Zlb | apply Zlc) | (dsimp only; with_reducible first | apply Zl8 | apply Zl2 | apply Zld) | with_reducible assumption | omega | (dsimp only; omega)))
        generalize z.w = Z at *
        clear HV1 HV2 hvb hix
        go_wp2_with (refine wpList_stT rfl _ _ rfl (w.heap.size + 2) k c _ q1.n q1.d q2.n q2.d hk12 _ (by omega) rfl rfl HZ2.out (fun W' hW' => Hid.out ?_))
        refine Lib.hid ?_
        have hb' := hW'.below hzb (by omega)
        have ho1 := hW'.obj (by omega) HZ1.out
        have ho2 := hW'.b
        clear HZ1 HZ2 hW'
        go_wp2
        go_roundw
        case rel => exact ⟨k + 1, by omega, by go_num, ho1, ⟨_, ho2⟩, hb'⟩
        case measure => simp [intOf]; omega
      · obtain rfl : k = 12 := by omega
        rw [show ((12 : Nat) : Int) = 12 from rfl]
        go_wp2_with (first | refine wpList_ldC rfl _ rfl _ rfl (cirA c) HO2.out (cirA_size _) ?_ | refine wpList_stC rfl _ _ rfl (w.heap.size + 1) (cirA c) rfl rfl (cirA zC) _ HO1.out (cirA_size _) (cirA_size _) (cirA_one _) (fun W' hW' => Hid.out ?_))
        refine Lib.hid ?_
        have hbb := hW'.below hB (by omega)
        have hcr := hW'.b
        clear HO1 HO2 hW'
        go_wp2_with fail
        refine ret_obj (b := w.heap.size + 1) hcr (fun W2 h2 => by
          have hl := cir_load h2
          simp [results, Tryz.results33, Act.put, Sem.run_bind, asAddr, hl]) rfl ⟨c, rfl, ⟨_, hbb⟩, rfl⟩
end Go.Proofs.YtehgeoipbgpocaaGreatDoor
