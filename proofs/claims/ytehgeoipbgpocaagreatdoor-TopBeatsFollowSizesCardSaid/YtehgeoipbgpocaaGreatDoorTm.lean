/- The law of temperaments: part, same12, Names, the closure of named. -/
import Derived.Test.YtehgeoipbgpocaaGreatDoorTl
namespace Go.Proofs.YtehgeoipbgpocaaGreatDoor
set_option linter.unusedVariables false
set_option linter.unusedSimpArgs false
open Go.RowKit
attribute [local go_sem low] Bel.cell Bel.frozen alloc_cell alloc_frozen
attribute [local go_sem] calmOp chainOp yieldsC grows

def lowS (n d : Int) : Q := ⟨n.tdiv (Int.gcd n d), d.tdiv (Int.gcd n d)⟩
theorem tdiv_bd (a g : Int) (h1 : -1000 ≤ a) (h2 : a ≤ 1000) : -1000 ≤ a.tdiv g ∧ a.tdiv g ≤ 1000 := by
  have h : (a.tdiv g).natAbs ≤ a.natAbs := by rw [Int.natAbs_tdiv]; exact Nat.div_le_self _ _
  omega
set_option maxHeartbeats 1600000 in
theorem lowest_any (n d : Int) (w : World) (h1 : -1000 ≤ n) (h2 : n ≤ 1000) (h3 : 1 ≤ d) (h4 : d ≤ 1000) : Calls Tryz.prog 141 #[.int .i64 n, .int .i64 d] w (Ret (.agg #[.int .i64 (lowS n d).n, .int .i64 (lowS n d).d]) w) := by
  have HG := Lib.hid (fun w' => rgcd_any n d w' (by omega) (by omega) (by omega) (by omega))
  have HN : Hid ((lowS n d).n = n.tdiv (Int.gcd n d) ∧ (lowS n d).d = d.tdiv (Int.gcd n d)) := Lib.hid ⟨rfl, rfl⟩
  have hg : (1 : Int) ≤ (Int.gcd n d : Int) := by have := Int.gcd_pos_of_ne_zero_right n (show d ≠ 0 by omega); omega
  obtain ⟨a1, a2⟩ := tdiv_bd n (Int.gcd n d) h1 h2
  obtain ⟨b1, b2⟩ := tdiv_bd d (Int.gcd n d) (by omega) h4
  generalize lowS n d = r at *
  generalize (Int.gcd n d : Int) = g at *
  have hw1 : IntKind.i64.wrap (n.tdiv g) = n.tdiv g := IntWalk.i64_in _ (by omega)
  have hw2 : IntKind.i64.wrap (d.tdiv g) = d.tdiv g := IntWalk.i64_in _ (by omega)
  have hg0 : g ≠ 0 := by omega
  go_enter Tryz.func141, Tryz.ntmps141
  go_wp2_with fail
  (with_reducible refine (HG.out _).mono ?_)
  rintro _ _ ⟨rfl, x, rfl⟩
  go_wp2_with fail
  refine wp_region_belT 7 (by kernel_rfl) (by kernel_rfl) ?_
  simp only [List.take_succ_cons, List.take_zero, List.drop_succ_cons, List.drop_zero]
  repeat (go_big_quiet_step (fail))
  refine wpQuiet_nil ?_
  rintro _ ⟨z, rfl⟩
  go_wp2
  refine bodyPost_ret (v := .agg #[.int .i64 (n.tdiv g), .int .i64 (d.tdiv g)]) (by simp [results, Tryz.results141, go_sem]) rfl (Ret.mk (by rw [HN.out.1, HN.out.2]) (by (repeat' (first | (with_reducible first | apply Zl1 | apply Zl2 | apply Zl3 | apply Zl4 | apply Zl5 | apply Zl6 | apply Zl7 | apply Zl8 | apply Zl9 | apply Zla | apply Zlb | apply Zlc) | (dsimp only; with_reducible first | apply Zl8 | apply Zl2 | apply Zld) | with_reducible assumption | omega | (dsimp only; omega)))))
theorem lpart_any (n d : Int) (w : World) (h1 : -1000 ≤ n) (h2 : n ≤ 1000) (h3 : 1 ≤ d) (h4 : d ≤ 1000) : Calls Tryz.prog 80 #[.int .i64 n, .int .i64 d] w (Ret (.agg #[.int .i64 (lowS n d).n, .int .i64 (lowS n d).d]) w) := by
  have HG := Lib.hid (fun w' => lowest_any n d w' h1 h2 h3 h4)
  generalize lowS n d = r at *
  go_enter Tryz.func80, Tryz.ntmps80
  go_wp2_with fail
  (with_reducible refine (HG.out _).mono ?_)
  rintro _ _ ⟨rfl, x, rfl⟩
  go_wp2
  refine bodyPost_ret (v := .agg #[.int .i64 r.n, .int .i64 r.d]) (by simp [results, Tryz.results80, go_sem]) rfl (Ret.mk (by rfl) (by (repeat' (first | (with_reducible first | apply Zl1 | apply Zl2 | apply Zl3 | apply Zl4 | apply Zl5 | apply Zl6 | apply Zl7 | apply Zl8 | apply Zl9 | apply Zla | apply Zlb | apply Zlc) | (dsimp only; with_reducible first | apply Zl8 | apply Zl2 | apply Zld) | with_reducible assumption | omega | (dsimp only; omega)))))
set_option maxRecDepth 100000 in
set_option maxHeartbeats 6400000 in
theorem same12_any (p s : Q) (w : World) : Calls Tryz.prog 139 #[.agg #[.int .i64 p.n, .int .i64 p.d], .agg #[.int .i64 s.n, .int .i64 s.d]] w (Ret (.agg (cirA (fillC zC (p, s) 12))) w) := by
  obtain ⟨R, hR⟩ : ∃ R, fillC zC (p, s) 12 = R := ⟨_, rfl⟩
  rw [hR]
  have HR := Lib.hid hR
  clear hR
  go_enter Tryz.func139, Tryz.ntmps139
  go_wp2_with fail
  have hz3 : ((((w.alloc (.cells #[.int .i64 p.n, .int .i64 p.d] 32)).alloc (.cells #[.int .i64 s.n, .int .i64 s.d] 32)).alloc (.cells (cirA zC) 36)).alloc (.cells (cirA zC) 36)).heap[w.heap.size + 3]? = some (.cells (cirA zC) 36) := by
    have h := obj_new (((w.alloc (.cells #[.int .i64 p.n, .int .i64 p.d] 32)).alloc (.cells #[.int .i64 s.n, .int .i64 s.d] 32)).alloc (.cells (cirA zC) 36)) (.cells (cirA zC) 36)
    rw [World.size_alloc, World.size_alloc, World.size_alloc] at h
    exact h
  have hz2 : ((((w.alloc (.cells #[.int .i64 p.n, .int .i64 p.d] 32)).alloc (.cells #[.int .i64 s.n, .int .i64 s.d] 32)).alloc (.cells (cirA zC) 36)).alloc (.cells (cirA zC) 36)).heap[w.heap.size + 2]? = some (.cells (cirA zC) 36) := obj_alloc _ (obj_new2 _ _ _ _)
  have hz1 : ((((w.alloc (.cells #[.int .i64 p.n, .int .i64 p.d] 32)).alloc (.cells #[.int .i64 s.n, .int .i64 s.d] 32)).alloc (.cells (cirA zC) 36)).alloc (.cells (cirA zC) 36)).heap[w.heap.size + 1]? = some (.cells #[.int .i64 s.n, .int .i64 s.d] 32) := obj_alloc _ (obj_alloc _ (obj_new1 _ _ _))
  have hz0 : ((((w.alloc (.cells #[.int .i64 p.n, .int .i64 p.d] 32)).alloc (.cells #[.int .i64 s.n, .int .i64 s.d] 32)).alloc (.cells (cirA zC) 36)).alloc (.cells (cirA zC) 36)).heap[w.heap.size]? = some (.cells #[.int .i64 p.n, .int .i64 p.d] 32) := obj_alloc _ (obj_alloc _ (obj_alloc _ (obj_new _ _)))
  have hzb : Below w.heap.size w ((((w.alloc (.cells #[.int .i64 p.n, .int .i64 p.d] 32)).alloc (.cells #[.int .i64 s.n, .int .i64 s.d] 32)).alloc (.cells (cirA zC) 36)).alloc (.cells (cirA zC) 36)) := by (repeat' (first | (with_reducible first | apply Zl1 | apply Zl2 | apply Zl3 | apply Zl4 | apply Zl5 | apply Zl6 | apply Zl7 | apply Zl8 | apply Zl9 | apply Zla | apply Zlb | apply Zlc) | (dsimp only; with_reducible first | apply Zl8 | apply Zl2 | apply Zld) | with_reducible assumption | omega | (dsimp only; omega)))
  have hcz := zC_lit
  rw [← hcz]
  clear hcz
  generalize (((w.alloc (.cells #[.int .i64 p.n, .int .i64 p.d] 32)).alloc (.cells #[.int .i64 s.n, .int .i64 s.d] 32)).alloc (.cells (cirA zC) 36)).alloc (.cells (cirA zC) 36) = Y at *
  go_loopw [7] (fun iv wr => ∃ k : Nat, k ≤ 12 ∧ iv = .int .i64 (k : Int) ∧ wr.heap[w.heap.size]? = some (.cells #[.int .i64 p.n, .int .i64 p.d] 32) ∧ wr.heap[w.heap.size + 1]? = some (.cells #[.int .i64 s.n, .int .i64 s.d] 32) ∧ wr.heap[w.heap.size + 2]? = some (.cells (cirA zC) 36) ∧
    wr.heap[w.heap.size + 3]? = some (.cells (cirA (fillC zC (p, s) k)) 36) ∧ Below w.heap.size w wr) (fun iv _ => 12 - (intOf iv).toNat)
  case atStart => exact ⟨0, by omega, rfl, hz0, hz1, hz2, hz3, hzb⟩
  case round =>
    obtain ⟨k, hk, rfl, ho0, ho1, ho2, ho3, hB⟩ := hrel
    have hbs := hB.size
    have hl2 := obj_lt ho3
    clear hz0 hz1 hz2 hz3 hzb
    by_cases hk12 : k < 12
    · have hki : (k : Int) < 12 := by omega
      have q0 := (made_cell ho0 0).1
      have q1 := (made_cell ho0 1).1
      have q2 := (made_cell ho1 0).1
      have q3 := (made_cell ho1 1).1
      have HO0 := Lib.hid ho0
      have HO1 := Lib.hid ho1
      have HO2 := Lib.hid ho2
      have HO3 := Lib.hid ho3
      clear ho0 ho1 ho2 ho3
      go_wp2_with (refine wpList_stT rfl _ _ rfl (w.heap.size + 3) k (fillC zC (p, s) k) _ p.n p.d s.n s.d hk12 _ (by omega) rfl rfl HO3.out (fun W' hW' => Hid.out ?_))
      refine Lib.hid ?_
      have hb' := hW'.below hB (by omega)
      have ho0 := hW'.obj (by omega) HO0.out
      have ho1 := hW'.obj (by omega) HO1.out
      have ho2 := hW'.obj (by omega) HO2.out
      have ho3 := hW'.b
      clear HO0 HO1 HO2 HO3 hW' q0 q1 q2 q3
      go_wp2
      go_roundw
      case rel => exact ⟨k + 1, by omega, by go_num, ho0, ho1, ho2, ho3, hb'⟩
      case measure => simp [intOf]; omega
    · obtain rfl : k = 12 := by omega
      rw [HR.out] at ho3
      have HO2 := Lib.hid ho2
      have HO3 := Lib.hid ho3
      clear ho0 ho1 ho2 ho3 hk12 hk
      rw [show ((12 : Nat) : Int) = 12 from rfl]
      go_wp2_with (first | refine wpList_ldC rfl _ rfl _ rfl (cirA R) HO3.out (cirA_size _) ?_ | refine wpList_stC rfl _ _ rfl (w.heap.size + 2) (cirA R) rfl rfl (cirA zC) _ HO2.out (cirA_size _) (cirA_size _) (cirA_one _) (fun W' hW' => Hid.out ?_))
      refine Lib.hid ?_
      have hbb := hW'.below hB (by omega)
      have hcr := hW'.b
      clear HO2 HO3 hW'
      go_wp2_with fail
      refine ret_obj (b := w.heap.size + 2) hcr (fun W2 h2 => by
        have hl := cir_load h2
        simp [results, Tryz.results139, Act.put, Sem.run_bind, asAddr, hl]) rfl (Ret.mk rfl hbb)
set_option maxRecDepth 100000 in
set_option maxHeartbeats 6400000 in
/-- The closure of named writes a tempering into the circle at block B. -/
theorem some_any (t : Q × Q) (l : List Nat) (b B cap : Nat) (c : Cir) (w : World) (T T' : TypeId) (hl : ∀ k, k ∈ l → k < 12) (hb : w.heap[b]? = some (.cells (natVs l).toArray T')) (hB : w.heap[B]? = some (.cells (cirA c) T)) (hne : b ≠ B) (hlen : l.length ≤ 1000) :
    Calls Tryz.prog 140 #[.agg #[.int .i64 t.1.n, .int .i64 t.1.d, .int .i64 t.2.n, .int .i64 t.2.d], .slice (some ⟨b, 0, none⟩) l.length cap, .pointer (some ⟨B, 0, none⟩)] w fun e w' => e = .returned (.tuple #[]) ∧ w'.heap[B]? = some (.cells (cirA (temC c t l)) T) ∧ Below B w w' ∧ ∀ k, k ≠ B → k < w.heap.size → w'.heap[k]? = w.heap[k]? := by
  have hBl := obj_lt hB
  have hbl := obj_lt hb
  have HB0 := Lib.hid hb
  have HB1 := Lib.hid hB
  have HL := Lib.hid hl
  obtain ⟨⟨t1, t2⟩, ⟨t3, t4⟩⟩ := t
  dsimp only
  clear hb hB hl
  go_enter Tryz.func140, Tryz.ntmps140
  go_wp2_with fail
  have hn0 := obj_new w (.cells #[.int .i64 t1, .int .i64 t2, .int .i64 t3, .int .i64 t4] 34)
  have hn1 := obj_alloc (.cells #[.int .i64 t1, .int .i64 t2, .int .i64 t3, .int .i64 t4] 34) HB1.out
  have hnb : Below w.heap.size w (w.alloc (.cells #[.int .i64 t1, .int .i64 t2, .int .i64 t3, .int .i64 t4] 34)) := by (repeat' (first | (with_reducible first | apply Zl1 | apply Zl2 | apply Zl3 | apply Zl4 | apply Zl5 | apply Zl6 | apply Zl7 | apply Zl8 | apply Zl9 | apply Zla | apply Zlb | apply Zlc) | (dsimp only; with_reducible first | apply Zl8 | apply Zl2 | apply Zld) | with_reducible assumption | omega | (dsimp only; omega)))
  generalize w.alloc (.cells #[.int .i64 t1, .int .i64 t2, .int .i64 t3, .int .i64 t4] 34) = Y at *
  go_loopw [9] (fun iv wr => ∃ k : Nat, k ≤ l.length ∧ iv = .int .i64 (k : Int) ∧ wr.heap[w.heap.size]? = some (.cells #[.int .i64 t1, .int .i64 t2, .int .i64 t3, .int .i64 t4] 34) ∧
    wr.heap[B]? = some (.cells (cirA (temC c (⟨t1, t2⟩, ⟨t3, t4⟩) (l.take k))) T) ∧ Below B w wr ∧ ∀ j, j ≠ B → j < w.heap.size → wr.heap[j]? = w.heap[j]?) (fun iv _ => l.length - (intOf iv).toNat)
  case atStart => exact ⟨0, by omega, rfl, hn0, hn1, hnb.mono (by omega), fun j _ hj => hnb.block j hj⟩
  case round =>
    obtain ⟨k, hk, rfl, ho0, ho2, hB2, hoth⟩ := hrel
    have hbs2 := hB2.size
    have hl0 := obj_lt ho0
    clear hn0 hn1 hnb
    by_cases hkl : k < l.length
    · have f1 : decide ((k : Int) < (l.length : Int)) = true := decide_eq_true (by omega)
      have hib : (0 ≤ (k : Int) ∧ (k : Int) < (l.length : Int)) := ⟨by omega, by omega⟩
      obtain ⟨i, hi⟩ : ∃ i, l[k]? = some i := ⟨_, List.getElem?_eq_getElem hkl⟩
      have hi12 := HL.out i (List.mem_of_getElem? hi)
      have HTK : Hid (temC c (⟨t1, t2⟩, ⟨t3, t4⟩) (l.take (k + 1)) = upd (temC c (⟨t1, t2⟩, ⟨t3, t4⟩) (l.take k)) i (⟨t1, t2⟩, ⟨t3, t4⟩)) := Lib.hid (by rw [List.take_add_one, hi]; exact temC_snoc _ _ _ _)
      have x0 : wr.cell? ⟨b, k, none⟩ = some (.int .i64 (i : Int)) := by
        have h := (made_cell ((hoth b hne hbl).trans HB0.out) k).1
        rw [h]
        simpa using natVs_get hi
      have hii2 : (i : Int) < 12 := by omega
      have hii : (0 ≤ (i : Int) ∧ (i : Int) < 12) := ⟨by omega, by omega⟩
      generalize temC c (⟨t1, t2⟩, ⟨t3, t4⟩) (l.take k) = TC at *
      obtain ⟨q0, q1, q2, q3⟩ := cells4 ho0
      have HO0 := Lib.hid ho0
      have HO2 := Lib.hid ho2
      have HOT := Lib.hid hoth
      clear ho0 ho2 hi hoth
      go_wp2_with (refine wpList_stT rfl _ _ rfl B i TC _ t1 t2 t3 t4 hi12 _ (by omega) rfl rfl HO2.out (fun W' hW' => Hid.out ?_))
      refine Lib.hid ?_
      have hb' := hB2.trans hW'.bl
      have ho0 := hW'.obj (by omega) HO0.out
      have ho2 := hW'.b
      have hoth' : ∀ j, j ≠ B → j < w.heap.size → W'.heap[j]? = w.heap[j]? := fun j h1 h2 => (hW'.oth j h1).trans (HOT.out j h1 h2)
      clear HO0 HO2 HOT hW' hB2 x0 q0 q1 q2 q3
      go_wp2
      go_roundw
      case rel => exact ⟨k + 1, by omega, by go_num, ho0, by rw [HTK.out]; exact ho2, hb', hoth'⟩
      case measure => simp [intOf]; omega
    · obtain rfl : k = l.length := by omega
      have f1 : decide ((l.length : Int) < (l.length : Int)) = false := decide_eq_false (by omega)
      rw [List.take_length] at ho2
      have HOT := Lib.hid hoth
      clear ho0 hoth
      go_wp2
      refine bodyPost_end (results_none rfl _ _ _) rfl ?_
      exact ⟨rfl, ho2, hB2, HOT.out⟩

end Go.Proofs.YtehgeoipbgpocaaGreatDoor
