/- The law of temperaments: named. -/
import Derived.Test.YtehgeoipbgpocaaGreatDoorTm
import Derived.Deep.RegionHeld3
namespace Go.Proofs.YtehgeoipbgpocaaGreatDoor
set_option linter.unusedVariables false
set_option linter.unusedSimpArgs false
open Go.RowKit
attribute [local go_sem low] Bel.cell Bel.frozen alloc_cell alloc_frozen
attribute [local go_sem] calmOp chainOp yieldsC grows

/-- A circle and true come back. -/
def RetC (w : World) (e : Ending) (w' : World) : Prop := ∃ c : Cir, e = .returned (.tuple #[.agg (cirA c), .bool true]) ∧ ∃ y : Bel w, w' = y.w
/-- What named's regions keep. -/
structure KeepN (w : World) (F Cb : Nat) (n d : Int) (V : World) : Prop where
  bl : Below w.heap.size w V
  f : V.heap[F]? = some (.cells #[.int .i64 n, .int .i64 d] 32)
  r : V.heap[w.heap.size]? = some (.cells (cirA zC) 36)
  c : ∃ c, V.heap[Cb]? = some (.cells (cirA c) 36)
theorem KeepN.bel {w : World} {F Cb : Nat} {n d : Int} {V : World} (z : Bel V) (h : KeepN w F Cb n d V) : KeepN w F Cb n d z.w :=
  ⟨Below.bel h.bl h.bl.size, obj_bel z h.f, obj_bel z h.r, by obtain ⟨c, hc⟩ := h.c; exact ⟨c, obj_bel z hc⟩⟩
theorem KeepN.drew {w : World} {F Cb : Nat} {n d : Int} {V : World} (h : KeepN w F Cb n d V) : KeepN w F Cb n d V.drew := ⟨h.bl.drew, h.f, h.r, h.c⟩
theorem KeepN.alloc {w : World} {F Cb : Nat} {n d : Int} {V : World} (h : KeepN w F Cb n d V) (o : Obj) : KeepN w F Cb n d (V.alloc o) :=
  ⟨h.bl.alloc h.bl.size o, obj_alloc o h.f, obj_alloc o h.r, by obtain ⟨c, hc⟩ := h.c; exact ⟨c, obj_alloc o hc⟩⟩
theorem KeepN.some {w : World} {F Cb : Nat} {n d : Int} {V : World} (h : KeepN w F Cb n d V) (hw : w.heap.size < F) (hF : F < Cb) (t : Q × Q) (l : List Nat) (b cap : Nat) (hl : ∀ k, k ∈ l → k < 12) (hlen : l.length ≤ 1000)
    (hb : V.heap[b]? = some (.cells (natVs l).toArray 3)) :
    Calls Tryz.prog 140 #[.agg #[.int .i64 t.1.n, .int .i64 t.1.d, .int .i64 t.2.n, .int .i64 t.2.d], .slice (some ⟨b, 0, none⟩) l.length cap, .pointer (some ⟨Cb, 0, none⟩)] V fun e w' => e = .returned (.tuple #[]) ∧ KeepN w F Cb n d w' ∧ V.heap.size ≤ w'.heap.size := by
  obtain ⟨c, hc⟩ := h.c
  have hlF := obj_lt h.f
  have hlR := obj_lt h.r
  have hne : b ≠ Cb := fun e => by
    rw [e, hc] at hb
    injection hb with hb
    injection hb with _ hb
    exact absurd hb (by decide)
  refine (some_any t l b Cb cap c V 36 3 hl hb hc hne hlen).mono ?_
  rintro _ w' ⟨rfl, h1, h2, h3⟩
  exact ⟨rfl, ⟨h.bl.trans (h2.mono (by omega)), (h3 F (by omega) hlF).trans h.f, (h3 _ (by omega) hlR).trans h.r, ⟨_, h1⟩⟩, h2.size⟩
set_option maxRecDepth 100000 in
set_option maxHeartbeats 6400000 in
theorem lnamed_eq (w : World) : Calls Tryz.prog 78 #[.string ⟨[101, 113, 117, 97, 108].toArray⟩] w (RetC w) := by
  have HP := Lib.hid (fun n d w' h1 h2 h3 h4 => lpart_any n d w' h1 h2 h3 h4)
  have HS := Lib.hid (fun p s w' => same12_any p s w')
  have HP0 := Lib.hid (fun w' => lpart_any 0 1 w' (by omega) (by omega) (by omega) (by omega))
  obtain ⟨p0, hp0⟩ : ∃ p, lowS 0 1 = p := ⟨_, rfl⟩
  rw [hp0] at HP0
  clear hp0
  obtain ⟨c1, hc1⟩ : ∃ c, fillC zC (p0, p0) 12 = c := ⟨_, rfl⟩
  have HS0 := Lib.hid (fun w' => same12_any p0 p0 w')
  rw [hc1] at HS0
  clear hc1
  go_enter Tryz.func78, Tryz.ntmps78
  go_wp2_with fail
  have hz0 : (w.alloc (.cells (cirA zC) 36)).heap[w.heap.size]? = _ := obj_new _ _
  have hzb : Below w.heap.size w (w.alloc (.cells (cirA zC) 36)) := by (repeat' (first | (with_reducible first | apply Zl1 | apply Zl2 | apply Zl3 | apply Zl4 | apply Zl5 | apply Zl6 | apply Zl7 | apply Zl8 | apply Zl9 | apply Zla | apply Zlb | apply Zlc) | (dsimp only; with_reducible first | apply Zl8 | apply Zl2 | apply Zld) | with_reducible assumption | omega | (dsimp only; omega)))
  have hcz := zC_lit
  rw [← hcz]
  clear hcz
  have hl := obj_lt hz0
  generalize w.alloc (.cells (cirA zC) 36) = Y at *
  (with_reducible refine (HP0.out _).mono ?_)
  rintro _ _ ⟨rfl, x, rfl⟩
  have hxs := x.size_le
  have hxb : Below w.heap.size w x.w := by (repeat' (first | (with_reducible first | apply Zl1 | apply Zl2 | apply Zl3 | apply Zl4 | apply Zl5 | apply Zl6 | apply Zl7 | apply Zl8 | apply Zl9 | apply Zla | apply Zlb | apply Zlc) | (dsimp only; with_reducible first | apply Zl8 | apply Zl2 | apply Zld) | with_reducible assumption | omega | (dsimp only; omega)))
  have hx0 := obj_bel x hz0
  generalize x.w = X at *
  clear hz0 hzb
  dsimp only
  go_wp2_with fail
  (with_reducible refine (HS0.out _).mono ?_)
  rintro _ _ ⟨rfl, y, rfl⟩
  have hys := y.size_le
  rw [World.size_alloc] at hys
  have hyb : Below w.heap.size w y.w := by (repeat' (first | (with_reducible first | apply Zl1 | apply Zl2 | apply Zl3 | apply Zl4 | apply Zl5 | apply Zl6 | apply Zl7 | apply Zl8 | apply Zl9 | apply Zla | apply Zlb | apply Zlc) | (dsimp only; with_reducible first | apply Zl8 | apply Zl2 | apply Zld) | with_reducible assumption | omega | (dsimp only; omega)))
  have hy0 := obj_bel y (obj_alloc (.cells #[.int .i64 p0.n, .int .i64 p0.d] 32) hx0)
  have hy1 := obj_bel y (obj_new X (.cells #[.int .i64 p0.n, .int .i64 p0.d] 32))
  generalize X.heap.size = F at *
  generalize y.w = Y1 at *
  clear hx0 hxb
  have hu0 := obj_alloc (.cells (cirA zC) 36) hy0
  have hu1 := obj_alloc (.cells (cirA zC) 36) hy1
  have hu2 := obj_new Y1 (.cells (cirA zC) 36)
  have hub : Below w.heap.size w (Y1.alloc (.cells (cirA zC) 36)) := by (repeat' (first | (with_reducible first | apply Zl1 | apply Zl2 | apply Zl3 | apply Zl4 | apply Zl5 | apply Zl6 | apply Zl7 | apply Zl8 | apply Zl9 | apply Zla | apply Zlb | apply Zlc) | (dsimp only; with_reducible first | apply Zl8 | apply Zl2 | apply Zld) | with_reducible assumption | omega | (dsimp only; omega)))
  generalize hU : Y1.alloc (.cells (cirA zC) 36) = U at hu0 hu1 hu2 hub
  rw [zC_lit] at hU
  have HU := Lib.hid hU
  generalize hCb : Y1.heap.size = Cb at *
  clear hy0 hy1 hyb hU
  have HU0 := Lib.hid hu0
  have HU1 := Lib.hid hu1
  have HU2 := Lib.hid hu2
  clear hu0 hu1 hu2
  dsimp only
  go_wp2_with (first | rw [HU.out] | refine wpList_stC rfl _ _ rfl Cb (cirA c1) rfl rfl (cirA zC) _ HU2.out (cirA_size _) (cirA_size _) (cirA_one _) (fun W' hW' => Hid.out ?_))
  refine Lib.hid ?_
  have hwb := hW'.below hub (by omega)
  have hw0 := hW'.obj (by omega) HU0.out
  have hw1 := hW'.obj (by omega) HU1.out
  have hw2 := hW'.b
  have hwl := obj_lt hw2
  clear HU0 HU1 HU2 HU hub hW'
  have q0 := (made_cell hw1 0).1
  have q1 := (made_cell hw1 1).1
  have HW0 := Lib.hid hw0
  have HW1 := Lib.hid hw1
  have HW2 := Lib.hid hw2
  have hFC : w.heap.size < F ∧ F < Cb := by omega
  have hwz := hwb.size
  clear hw0 hw1 hw2 hys hxs hCb
  go_wp2_with fail
  obtain ⟨p1, hp1⟩ : ∃ p, lowS 1 12 = p := ⟨_, rfl⟩
  have HP1 := Lib.hid (fun w' => lpart_any 1 12 w' (by omega) (by omega) (by omega) (by omega))
  rw [hp1] at HP1
  clear hp1
  obtain ⟨c2, hc2⟩ : ∃ c, fillC zC (p1, p0) 12 = c := ⟨_, rfl⟩
  have HS1 := Lib.hid (fun w' => same12_any p1 p0 w')
  rw [hc2] at HS1
  clear hc2
  clear HS HP0 HS0
  refine wp_region_belT 3 (by kernel_rfl) (by kernel_rfl) ?_
  simp only [List.take_succ_cons, List.take_zero, List.drop_succ_cons, List.drop_zero]
  repeat (go_big_quiet_step ((first | (go_at_call 80; exact bel_of (HP1.out _)) | (go_at_call 139; exact bel_of (HS1.out _)))))
  refine wpQuiet_nil ?_
  rintro _ ⟨z, rfl⟩
  have hzs := z.size_le
  have hzb : Below w.heap.size w z.w := by (repeat' (first | (with_reducible first | apply Zl1 | apply Zl2 | apply Zl3 | apply Zl4 | apply Zl5 | apply Zl6 | apply Zl7 | apply Zl8 | apply Zl9 | apply Zla | apply Zlb | apply Zlc) | (dsimp only; with_reducible first | apply Zl8 | apply Zl2 | apply Zld) | with_reducible assumption | omega | (dsimp only; omega)))
  have hzw := hzb.size
  have HZ0 := Lib.hid (obj_bel z HW0.out)
  have HZ1 := Lib.hid (obj_bel z HW1.out)
  have HZ2 := Lib.hid (obj_bel z HW2.out)
  generalize z.w = Z at *
  clear HW0 HW1 HW2 q0 q1
  go_wp2_with (refine wpList_stC rfl _ _ rfl Cb (cirA c2) rfl rfl (cirA c1) _ HZ2.out (cirA_size _) (cirA_size _) (cirA_one _) (fun W' hW' => Hid.out ?_))
  refine Lib.hid ?_
  have hvb := hW'.below hzb (by omega)
  have HV0 := Lib.hid (hW'.obj (by omega) HZ0.out)
  have HV1 := Lib.hid (hW'.obj (by omega) HZ1.out)
  have HV2 := Lib.hid (hW'.b)
  clear HZ0 HZ1 HZ2 hW' hzb
  clear HV1
  go_wp2_with (first | refine wpList_ldC rfl _ rfl _ rfl (cirA c2) HV2.out (cirA_size _) ?_ | refine wpList_stC rfl _ _ rfl w.heap.size (cirA c2) rfl rfl (cirA zC) _ HV0.out (cirA_size _) (cirA_size _) (cirA_one _) (fun W' hW' => Hid.out ?_))
  refine Lib.hid ?_
  have hbb := hW'.below hvb (by omega)
  have hcr := hW'.b
  clear HV0 HV2 hW'
  go_wp2_with fail
  refine ret_obj (b := w.heap.size) hcr (fun W2 h2 => by
    have hl := cir_load h2
    simp [results, Tryz.results78, Act.put, Sem.run_bind, asAddr, hl]) rfl ⟨c2, rfl, ⟨_, hbb⟩, rfl⟩
set_option maxRecDepth 100000 in
set_option maxHeartbeats 6400000 in
theorem lnamed_pyt (w : World) : Calls Tryz.prog 78 #[.string ⟨[112, 121, 116, 104, 97, 103, 111, 114, 101, 97, 110].toArray⟩] w (RetC w) := by
  have HP := Lib.hid (fun n d w' h1 h2 h3 h4 => lpart_any n d w' h1 h2 h3 h4)
  have HS := Lib.hid (fun p s w' => same12_any p s w')
  have HP0 := Lib.hid (fun w' => lpart_any 0 1 w' (by omega) (by omega) (by omega) (by omega))
  obtain ⟨p0, hp0⟩ : ∃ p, lowS 0 1 = p := ⟨_, rfl⟩
  rw [hp0] at HP0
  clear hp0
  obtain ⟨c1, hc1⟩ : ∃ c, fillC zC (p0, p0) 12 = c := ⟨_, rfl⟩
  have HS0 := Lib.hid (fun w' => same12_any p0 p0 w')
  rw [hc1] at HS0
  clear hc1
  go_enter Tryz.func78, Tryz.ntmps78
  go_wp2_with fail
  have hz0 : (w.alloc (.cells (cirA zC) 36)).heap[w.heap.size]? = _ := obj_new _ _
  have hzb : Below w.heap.size w (w.alloc (.cells (cirA zC) 36)) := by (repeat' (first | (with_reducible first | apply Zl1 | apply Zl2 | apply Zl3 | apply Zl4 | apply Zl5 | apply Zl6 | apply Zl7 | apply Zl8 | apply Zl9 | apply Zla | apply Zlb | apply Zlc) | (dsimp only; with_reducible first | apply Zl8 | apply Zl2 | apply Zld) | with_reducible assumption | omega | (dsimp only; omega)))
  have hcz := zC_lit
  rw [← hcz]
  clear hcz
  have hl := obj_lt hz0
  generalize w.alloc (.cells (cirA zC) 36) = Y at *
  (with_reducible refine (HP0.out _).mono ?_)
  rintro _ _ ⟨rfl, x, rfl⟩
  have hxs := x.size_le
  have hxb : Below w.heap.size w x.w := by (repeat' (first | (with_reducible first | apply Zl1 | apply Zl2 | apply Zl3 | apply Zl4 | apply Zl5 | apply Zl6 | apply Zl7 | apply Zl8 | apply Zl9 | apply Zla | apply Zlb | apply Zlc) | (dsimp only; with_reducible first | apply Zl8 | apply Zl2 | apply Zld) | with_reducible assumption | omega | (dsimp only; omega)))
  have hx0 := obj_bel x hz0
  generalize x.w = X at *
  clear hz0 hzb
  dsimp only
  go_wp2_with fail
  (with_reducible refine (HS0.out _).mono ?_)
  rintro _ _ ⟨rfl, y, rfl⟩
  have hys := y.size_le
  rw [World.size_alloc] at hys
  have hyb : Below w.heap.size w y.w := by (repeat' (first | (with_reducible first | apply Zl1 | apply Zl2 | apply Zl3 | apply Zl4 | apply Zl5 | apply Zl6 | apply Zl7 | apply Zl8 | apply Zl9 | apply Zla | apply Zlb | apply Zlc) | (dsimp only; with_reducible first | apply Zl8 | apply Zl2 | apply Zld) | with_reducible assumption | omega | (dsimp only; omega)))
  have hy0 := obj_bel y (obj_alloc (.cells #[.int .i64 p0.n, .int .i64 p0.d] 32) hx0)
  have hy1 := obj_bel y (obj_new X (.cells #[.int .i64 p0.n, .int .i64 p0.d] 32))
  generalize X.heap.size = F at *
  generalize y.w = Y1 at *
  clear hx0 hxb
  have hu0 := obj_alloc (.cells (cirA zC) 36) hy0
  have hu1 := obj_alloc (.cells (cirA zC) 36) hy1
  have hu2 := obj_new Y1 (.cells (cirA zC) 36)
  have hub : Below w.heap.size w (Y1.alloc (.cells (cirA zC) 36)) := by (repeat' (first | (with_reducible first | apply Zl1 | apply Zl2 | apply Zl3 | apply Zl4 | apply Zl5 | apply Zl6 | apply Zl7 | apply Zl8 | apply Zl9 | apply Zla | apply Zlb | apply Zlc) | (dsimp only; with_reducible first | apply Zl8 | apply Zl2 | apply Zld) | with_reducible assumption | omega | (dsimp only; omega)))
  generalize hU : Y1.alloc (.cells (cirA zC) 36) = U at hu0 hu1 hu2 hub
  rw [zC_lit] at hU
  have HU := Lib.hid hU
  generalize hCb : Y1.heap.size = Cb at *
  clear hy0 hy1 hyb hU
  have HU0 := Lib.hid hu0
  have HU1 := Lib.hid hu1
  have HU2 := Lib.hid hu2
  clear hu0 hu1 hu2
  dsimp only
  go_wp2_with (first | rw [HU.out] | refine wpList_stC rfl _ _ rfl Cb (cirA c1) rfl rfl (cirA zC) _ HU2.out (cirA_size _) (cirA_size _) (cirA_one _) (fun W' hW' => Hid.out ?_))
  refine Lib.hid ?_
  have hwb := hW'.below hub (by omega)
  have hw0 := hW'.obj (by omega) HU0.out
  have hw1 := hW'.obj (by omega) HU1.out
  have hw2 := hW'.b
  have hwl := obj_lt hw2
  clear HU0 HU1 HU2 HU hub hW'
  have q0 := (made_cell hw1 0).1
  have q1 := (made_cell hw1 1).1
  have HW0 := Lib.hid hw0
  have HW1 := Lib.hid hw1
  have HW2 := Lib.hid hw2
  have hFC : w.heap.size < F ∧ F < Cb := by omega
  have hwz := hwb.size
  clear hw0 hw1 hw2 hys hxs hCb
  go_wp2_with fail
  obtain ⟨KE, hKE⟩ : ∃ KE : World → Prop, KE = KeepN w F Cb p0.n p0.d := ⟨_, rfl⟩
  have KB := Lib.hid (show ∀ (V : World) (z : Bel V), KE V → KE z.w from fun V z h => by rw [hKE] at h ⊢; exact h.bel z)
  have KD := Lib.hid (show ∀ (V : World), KE V → KE V.drew from fun V h => by rw [hKE] at h ⊢; exact h.drew)
  have KA := Lib.hid (show ∀ (V : World) (o : Obj), KE V → KE (V.alloc o) from fun V o h => by rw [hKE] at h ⊢; exact h.alloc o)
  have KR := Lib.hid (show ∀ (V : World), KE V → KeepN w F Cb p0.n p0.d V from fun V h => by rw [hKE] at h; exact h)
  have KF := Lib.hid (show ∀ (t : Q × Q) (l : List Nat) (hl : ∀ k, k ∈ l → k < 12) (hlen : l.length ≤ 1000) (V : World) (b cap : Nat), KE V → V.heap[b]? = some (.cells (natVs l).toArray 3) →
      Calls Tryz.prog 140 #[.agg #[.int .i64 t.1.n, .int .i64 t.1.d, .int .i64 t.2.n, .int .i64 t.2.d], .slice (some ⟨b, 0, none⟩) l.length cap, .pointer (some ⟨Cb, 0, none⟩)] V fun e w' => e = .returned (.tuple #[]) ∧ KE w' ∧ V.heap.size ≤ w'.heap.size from
    fun t l hl hlen V b cap h hb => by rw [hKE] at h ⊢; exact h.some hFC.1 hFC.2 t l b cap hl hlen hb)
  have hK0 : KE W' := by rw [hKE]; exact ⟨hwb, HW1.out, HW0.out, ⟨_, HW2.out⟩⟩
  clear hKE HW0 HW1 HW2 HS HP0 HS0
  obtain ⟨p1, hp1⟩ : ∃ p, lowS 1 1 = p := ⟨_, rfl⟩
  have HP1 := Lib.hid (fun w' => lpart_any 1 1 w' (by omega) (by omega) (by omega) (by omega))
  rw [hp1] at HP1
  clear hp1
  have KC := Lib.hid (KF.out (p1, p0) ([8]) (by decide) (by decide))
  have SK := Lib.hid (show ∀ V : World, KE V → V.cell? ⟨F, 0, none⟩ = some (.int .i64 p0.n) ∧ V.cell? ⟨F, 1, none⟩ = some (.int .i64 p0.d) ∧ KE V from
    fun V h => have hb := (KR.out V h).f; ⟨(made_cell hb 0).1, (made_cell hb 1).1, h⟩)
  go_region_held3 (fun V => V.cell? ⟨F, 0, none⟩ = some (.int .i64 p0.n) ∧ V.cell? ⟨F, 1, none⟩ = some (.int .i64 p0.d) ∧ KE V)
    (exact SK.out _ (by (repeat' (first | with_reducible assumption | apply And.intro | (with_reducible apply KD.out) | (with_reducible apply KB.out) | (with_reducible apply KA.out)))))
    (first
      | (go_at_call 80; refine (HP1.out _).mono ?_; rintro _ _ ⟨rfl, u, rfl⟩; have hus := u.size_le)
      | (go_at_call 140; refine (KC.out _ _ _ (by (repeat' (first | with_reducible assumption | (with_reducible apply KD.out) | (with_reducible apply KB.out) | (with_reducible apply KA.out)))) (by (repeat' (first | exact obj_new _ _ | (with_reducible apply obj_bel) | (with_reducible apply obj_drew) | (with_reducible apply obj_alloc))))).mono ?_; rintro _ w9 ⟨rfl, hk9, hsz9⟩))
  all_goals
    have hE := KR.out _ hk9
    obtain ⟨cE, hE2⟩ := hE.c
    have HV0 := Lib.hid hE.r
    have HV2 := Lib.hid hE2
    have hvb := hE.bl
    have hvw := hvb.size
    clear hE hE2 hK0 q0 q1 KB KD KA KR KF KC SK HP HP1
    go_wp2_with (first | refine wpList_ldC rfl _ rfl _ rfl (cirA cE) HV2.out (cirA_size _) ?_ | refine wpList_stC rfl _ _ rfl w.heap.size (cirA cE) rfl rfl (cirA zC) _ HV0.out (cirA_size _) (cirA_size _) (cirA_one _) (fun W' hW' => Hid.out ?_))
    refine Lib.hid ?_
    have hbb := hW'.below hvb (by omega)
    have hcr := hW'.b
    clear HV0 HV2 hW'
    go_wp2_with fail
    refine ret_obj (b := w.heap.size) hcr (fun W2 h2 => by
      have hl := cir_load h2
      simp [results, Tryz.results78, Act.put, Sem.run_bind, asAddr, hl]) rfl ⟨cE, rfl, ⟨_, hbb⟩, rfl⟩
set_option maxRecDepth 100000 in
set_option maxHeartbeats 6400000 in
theorem lnamed_wer (w : World) : Calls Tryz.prog 78 #[.string ⟨[119, 101, 114, 99, 107, 109, 101, 105, 115, 116, 101, 114].toArray⟩] w (RetC w) := by
  have HP := Lib.hid (fun n d w' h1 h2 h3 h4 => lpart_any n d w' h1 h2 h3 h4)
  have HS := Lib.hid (fun p s w' => same12_any p s w')
  have HP0 := Lib.hid (fun w' => lpart_any 0 1 w' (by omega) (by omega) (by omega) (by omega))
  obtain ⟨p0, hp0⟩ : ∃ p, lowS 0 1 = p := ⟨_, rfl⟩
  rw [hp0] at HP0
  clear hp0
  obtain ⟨c1, hc1⟩ : ∃ c, fillC zC (p0, p0) 12 = c := ⟨_, rfl⟩
  have HS0 := Lib.hid (fun w' => same12_any p0 p0 w')
  rw [hc1] at HS0
  clear hc1
  go_enter Tryz.func78, Tryz.ntmps78
  go_wp2_with fail
  have hz0 : (w.alloc (.cells (cirA zC) 36)).heap[w.heap.size]? = _ := obj_new _ _
  have hzb : Below w.heap.size w (w.alloc (.cells (cirA zC) 36)) := by (repeat' (first | (with_reducible first | apply Zl1 | apply Zl2 | apply Zl3 | apply Zl4 | apply Zl5 | apply Zl6 | apply Zl7 | apply Zl8 | apply Zl9 | apply Zla | apply Zlb | apply Zlc) | (dsimp only; with_reducible first | apply Zl8 | apply Zl2 | apply Zld) | with_reducible assumption | omega | (dsimp only; omega)))
  have hcz := zC_lit
  rw [← hcz]
  clear hcz
  have hl := obj_lt hz0
  generalize w.alloc (.cells (cirA zC) 36) = Y at *
  (with_reducible refine (HP0.out _).mono ?_)
  rintro _ _ ⟨rfl, x, rfl⟩
  have hxs := x.size_le
  have hxb : Below w.heap.size w x.w := by (repeat' (first | (with_reducible first | apply Zl1 | apply Zl2 | apply Zl3 | apply Zl4 | apply Zl5 | apply Zl6 | apply Zl7 | apply Zl8 | apply Zl9 | apply Zla | apply Zlb | apply Zlc) | (dsimp only; with_reducible first | apply Zl8 | apply Zl2 | apply Zld) | with_reducible assumption | omega | (dsimp only; omega)))
  have hx0 := obj_bel x hz0
  generalize x.w = X at *
  clear hz0 hzb
  dsimp only
  go_wp2_with fail
  (with_reducible refine (HS0.out _).mono ?_)
  rintro _ _ ⟨rfl, y, rfl⟩
  have hys := y.size_le
  rw [World.size_alloc] at hys
  have hyb : Below w.heap.size w y.w := by (repeat' (first | (with_reducible first | apply Zl1 | apply Zl2 | apply Zl3 | apply Zl4 | apply Zl5 | apply Zl6 | apply Zl7 | apply Zl8 | apply Zl9 | apply Zla | apply Zlb | apply Zlc) | (dsimp only; with_reducible first | apply Zl8 | apply Zl2 | apply Zld) | with_reducible assumption | omega | (dsimp only; omega)))
  have hy0 := obj_bel y (obj_alloc (.cells #[.int .i64 p0.n, .int .i64 p0.d] 32) hx0)
  have hy1 := obj_bel y (obj_new X (.cells #[.int .i64 p0.n, .int .i64 p0.d] 32))
  generalize X.heap.size = F at *
  generalize y.w = Y1 at *
  clear hx0 hxb
  have hu0 := obj_alloc (.cells (cirA zC) 36) hy0
  have hu1 := obj_alloc (.cells (cirA zC) 36) hy1
  have hu2 := obj_new Y1 (.cells (cirA zC) 36)
  have hub : Below w.heap.size w (Y1.alloc (.cells (cirA zC) 36)) := by (repeat' (first | (with_reducible first | apply Zl1 | apply Zl2 | apply Zl3 | apply Zl4 | apply Zl5 | apply Zl6 | apply Zl7 | apply Zl8 | apply Zl9 | apply Zla | apply Zlb | apply Zlc) | (dsimp only; with_reducible first | apply Zl8 | apply Zl2 | apply Zld) | with_reducible assumption | omega | (dsimp only; omega)))
  generalize hU : Y1.alloc (.cells (cirA zC) 36) = U at hu0 hu1 hu2 hub
  rw [zC_lit] at hU
  have HU := Lib.hid hU
  generalize hCb : Y1.heap.size = Cb at *
  clear hy0 hy1 hyb hU
  have HU0 := Lib.hid hu0
  have HU1 := Lib.hid hu1
  have HU2 := Lib.hid hu2
  clear hu0 hu1 hu2
  dsimp only
  go_wp2_with (first | rw [HU.out] | refine wpList_stC rfl _ _ rfl Cb (cirA c1) rfl rfl (cirA zC) _ HU2.out (cirA_size _) (cirA_size _) (cirA_one _) (fun W' hW' => Hid.out ?_))
  refine Lib.hid ?_
  have hwb := hW'.below hub (by omega)
  have hw0 := hW'.obj (by omega) HU0.out
  have hw1 := hW'.obj (by omega) HU1.out
  have hw2 := hW'.b
  have hwl := obj_lt hw2
  clear HU0 HU1 HU2 HU hub hW'
  have q0 := (made_cell hw1 0).1
  have q1 := (made_cell hw1 1).1
  have HW0 := Lib.hid hw0
  have HW1 := Lib.hid hw1
  have HW2 := Lib.hid hw2
  have hFC : w.heap.size < F ∧ F < Cb := by omega
  have hwz := hwb.size
  clear hw0 hw1 hw2 hys hxs hCb
  go_wp2_with fail
  obtain ⟨KE, hKE⟩ : ∃ KE : World → Prop, KE = KeepN w F Cb p0.n p0.d := ⟨_, rfl⟩
  have KB := Lib.hid (show ∀ (V : World) (z : Bel V), KE V → KE z.w from fun V z h => by rw [hKE] at h ⊢; exact h.bel z)
  have KD := Lib.hid (show ∀ (V : World), KE V → KE V.drew from fun V h => by rw [hKE] at h ⊢; exact h.drew)
  have KA := Lib.hid (show ∀ (V : World) (o : Obj), KE V → KE (V.alloc o) from fun V o h => by rw [hKE] at h ⊢; exact h.alloc o)
  have KR := Lib.hid (show ∀ (V : World), KE V → KeepN w F Cb p0.n p0.d V from fun V h => by rw [hKE] at h; exact h)
  have KF := Lib.hid (show ∀ (t : Q × Q) (l : List Nat) (hl : ∀ k, k ∈ l → k < 12) (hlen : l.length ≤ 1000) (V : World) (b cap : Nat), KE V → V.heap[b]? = some (.cells (natVs l).toArray 3) →
      Calls Tryz.prog 140 #[.agg #[.int .i64 t.1.n, .int .i64 t.1.d, .int .i64 t.2.n, .int .i64 t.2.d], .slice (some ⟨b, 0, none⟩) l.length cap, .pointer (some ⟨Cb, 0, none⟩)] V fun e w' => e = .returned (.tuple #[]) ∧ KE w' ∧ V.heap.size ≤ w'.heap.size from
    fun t l hl hlen V b cap h hb => by rw [hKE] at h ⊢; exact h.some hFC.1 hFC.2 t l b cap hl hlen hb)
  have hK0 : KE W' := by rw [hKE]; exact ⟨hwb, HW1.out, HW0.out, ⟨_, HW2.out⟩⟩
  clear hKE HW0 HW1 HW2 HS HP0 HS0
  obtain ⟨p1, hp1⟩ : ∃ p, lowS 1 4 = p := ⟨_, rfl⟩
  have HP1 := Lib.hid (fun w' => lpart_any 1 4 w' (by omega) (by omega) (by omega) (by omega))
  rw [hp1] at HP1
  clear hp1
  have KC := Lib.hid (KF.out (p1, p0) ([0, 1, 2, 5]) (by decide) (by decide))
  have SK := Lib.hid (show ∀ V : World, KE V → V.cell? ⟨F, 0, none⟩ = some (.int .i64 p0.n) ∧ V.cell? ⟨F, 1, none⟩ = some (.int .i64 p0.d) ∧ KE V from
    fun V h => have hb := (KR.out V h).f; ⟨(made_cell hb 0).1, (made_cell hb 1).1, h⟩)
  go_region_held3 (fun V => V.cell? ⟨F, 0, none⟩ = some (.int .i64 p0.n) ∧ V.cell? ⟨F, 1, none⟩ = some (.int .i64 p0.d) ∧ KE V)
    (exact SK.out _ (by (repeat' (first | with_reducible assumption | apply And.intro | (with_reducible apply KD.out) | (with_reducible apply KB.out) | (with_reducible apply KA.out)))))
    (first
      | (go_at_call 80; refine (HP1.out _).mono ?_; rintro _ _ ⟨rfl, u, rfl⟩; have hus := u.size_le)
      | (go_at_call 140; refine (KC.out _ _ _ (by (repeat' (first | with_reducible assumption | (with_reducible apply KD.out) | (with_reducible apply KB.out) | (with_reducible apply KA.out)))) (by (repeat' (first | exact obj_new _ _ | (with_reducible apply obj_bel) | (with_reducible apply obj_drew) | (with_reducible apply obj_alloc))))).mono ?_; rintro _ w9 ⟨rfl, hk9, hsz9⟩))
  all_goals
    have hE := KR.out _ hk9
    obtain ⟨cE, hE2⟩ := hE.c
    have HV0 := Lib.hid hE.r
    have HV2 := Lib.hid hE2
    have hvb := hE.bl
    have hvw := hvb.size
    clear hE hE2 hK0 q0 q1 KB KD KA KR KF KC SK HP HP1
    go_wp2_with (first | refine wpList_ldC rfl _ rfl _ rfl (cirA cE) HV2.out (cirA_size _) ?_ | refine wpList_stC rfl _ _ rfl w.heap.size (cirA cE) rfl rfl (cirA zC) _ HV0.out (cirA_size _) (cirA_size _) (cirA_one _) (fun W' hW' => Hid.out ?_))
    refine Lib.hid ?_
    have hbb := hW'.below hvb (by omega)
    have hcr := hW'.b
    clear HV0 HV2 hW'
    go_wp2_with fail
    refine ret_obj (b := w.heap.size) hcr (fun W2 h2 => by
      have hl := cir_load h2
      simp [results, Tryz.results78, Act.put, Sem.run_bind, asAddr, hl]) rfl ⟨cE, rfl, ⟨_, hbb⟩, rfl⟩
set_option maxRecDepth 100000 in
set_option maxHeartbeats 6400000 in
theorem lnamed_val (w : World) : Calls Tryz.prog 78 #[.string ⟨[118, 97, 108, 108, 111, 116, 116, 105].toArray⟩] w (RetC w) := by
  have HP := Lib.hid (fun n d w' h1 h2 h3 h4 => lpart_any n d w' h1 h2 h3 h4)
  have HS := Lib.hid (fun p s w' => same12_any p s w')
  have HP0 := Lib.hid (fun w' => lpart_any 0 1 w' (by omega) (by omega) (by omega) (by omega))
  obtain ⟨p0, hp0⟩ : ∃ p, lowS 0 1 = p := ⟨_, rfl⟩
  rw [hp0] at HP0
  clear hp0
  obtain ⟨c1, hc1⟩ : ∃ c, fillC zC (p0, p0) 12 = c := ⟨_, rfl⟩
  have HS0 := Lib.hid (fun w' => same12_any p0 p0 w')
  rw [hc1] at HS0
  clear hc1
  go_enter Tryz.func78, Tryz.ntmps78
  go_wp2_with fail
  have hz0 : (w.alloc (.cells (cirA zC) 36)).heap[w.heap.size]? = _ := obj_new _ _
  have hzb : Below w.heap.size w (w.alloc (.cells (cirA zC) 36)) := by (repeat' (first | (with_reducible first | apply Zl1 | apply Zl2 | apply Zl3 | apply Zl4 | apply Zl5 | apply Zl6 | apply Zl7 | apply Zl8 | apply Zl9 | apply Zla | apply Zlb | apply Zlc) | (dsimp only; with_reducible first | apply Zl8 | apply Zl2 | apply Zld) | with_reducible assumption | omega | (dsimp only; omega)))
  have hcz := zC_lit
  rw [← hcz]
  clear hcz
  have hl := obj_lt hz0
  generalize w.alloc (.cells (cirA zC) 36) = Y at *
  (with_reducible refine (HP0.out _).mono ?_)
  rintro _ _ ⟨rfl, x, rfl⟩
  have hxs := x.size_le
  have hxb : Below w.heap.size w x.w := by (repeat' (first | (with_reducible first | apply Zl1 | apply Zl2 | apply Zl3 | apply Zl4 | apply Zl5 | apply Zl6 | apply Zl7 | apply Zl8 | apply Zl9 | apply Zla | apply Zlb | apply Zlc) | (dsimp only; with_reducible first | apply Zl8 | apply Zl2 | apply Zld) | with_reducible assumption | omega | (dsimp only; omega)))
  have hx0 := obj_bel x hz0
  generalize x.w = X at *
  clear hz0 hzb
  dsimp only
  go_wp2_with fail
  (with_reducible refine (HS0.out _).mono ?_)
  rintro _ _ ⟨rfl, y, rfl⟩
  have hys := y.size_le
  rw [World.size_alloc] at hys
  have hyb : Below w.heap.size w y.w := by (repeat' (first | (with_reducible first | apply Zl1 | apply Zl2 | apply Zl3 | apply Zl4 | apply Zl5 | apply Zl6 | apply Zl7 | apply Zl8 | apply Zl9 | apply Zla | apply Zlb | apply Zlc) | (dsimp only; with_reducible first | apply Zl8 | apply Zl2 | apply Zld) | with_reducible assumption | omega | (dsimp only; omega)))
  have hy0 := obj_bel y (obj_alloc (.cells #[.int .i64 p0.n, .int .i64 p0.d] 32) hx0)
  have hy1 := obj_bel y (obj_new X (.cells #[.int .i64 p0.n, .int .i64 p0.d] 32))
  generalize X.heap.size = F at *
  generalize y.w = Y1 at *
  clear hx0 hxb
  have hu0 := obj_alloc (.cells (cirA zC) 36) hy0
  have hu1 := obj_alloc (.cells (cirA zC) 36) hy1
  have hu2 := obj_new Y1 (.cells (cirA zC) 36)
  have hub : Below w.heap.size w (Y1.alloc (.cells (cirA zC) 36)) := by (repeat' (first | (with_reducible first | apply Zl1 | apply Zl2 | apply Zl3 | apply Zl4 | apply Zl5 | apply Zl6 | apply Zl7 | apply Zl8 | apply Zl9 | apply Zla | apply Zlb | apply Zlc) | (dsimp only; with_reducible first | apply Zl8 | apply Zl2 | apply Zld) | with_reducible assumption | omega | (dsimp only; omega)))
  generalize hU : Y1.alloc (.cells (cirA zC) 36) = U at hu0 hu1 hu2 hub
  rw [zC_lit] at hU
  have HU := Lib.hid hU
  generalize hCb : Y1.heap.size = Cb at *
  clear hy0 hy1 hyb hU
  have HU0 := Lib.hid hu0
  have HU1 := Lib.hid hu1
  have HU2 := Lib.hid hu2
  clear hu0 hu1 hu2
  dsimp only
  go_wp2_with (first | rw [HU.out] | refine wpList_stC rfl _ _ rfl Cb (cirA c1) rfl rfl (cirA zC) _ HU2.out (cirA_size _) (cirA_size _) (cirA_one _) (fun W' hW' => Hid.out ?_))
  refine Lib.hid ?_
  have hwb := hW'.below hub (by omega)
  have hw0 := hW'.obj (by omega) HU0.out
  have hw1 := hW'.obj (by omega) HU1.out
  have hw2 := hW'.b
  have hwl := obj_lt hw2
  clear HU0 HU1 HU2 HU hub hW'
  have q0 := (made_cell hw1 0).1
  have q1 := (made_cell hw1 1).1
  have HW0 := Lib.hid hw0
  have HW1 := Lib.hid hw1
  have HW2 := Lib.hid hw2
  have hFC : w.heap.size < F ∧ F < Cb := by omega
  have hwz := hwb.size
  clear hw0 hw1 hw2 hys hxs hCb
  go_wp2_with fail
  obtain ⟨KE, hKE⟩ : ∃ KE : World → Prop, KE = KeepN w F Cb p0.n p0.d := ⟨_, rfl⟩
  have KB := Lib.hid (show ∀ (V : World) (z : Bel V), KE V → KE z.w from fun V z h => by rw [hKE] at h ⊢; exact h.bel z)
  have KD := Lib.hid (show ∀ (V : World), KE V → KE V.drew from fun V h => by rw [hKE] at h ⊢; exact h.drew)
  have KA := Lib.hid (show ∀ (V : World) (o : Obj), KE V → KE (V.alloc o) from fun V o h => by rw [hKE] at h ⊢; exact h.alloc o)
  have KR := Lib.hid (show ∀ (V : World), KE V → KeepN w F Cb p0.n p0.d V from fun V h => by rw [hKE] at h; exact h)
  have KF := Lib.hid (show ∀ (t : Q × Q) (l : List Nat) (hl : ∀ k, k ∈ l → k < 12) (hlen : l.length ≤ 1000) (V : World) (b cap : Nat), KE V → V.heap[b]? = some (.cells (natVs l).toArray 3) →
      Calls Tryz.prog 140 #[.agg #[.int .i64 t.1.n, .int .i64 t.1.d, .int .i64 t.2.n, .int .i64 t.2.d], .slice (some ⟨b, 0, none⟩) l.length cap, .pointer (some ⟨Cb, 0, none⟩)] V fun e w' => e = .returned (.tuple #[]) ∧ KE w' ∧ V.heap.size ≤ w'.heap.size from
    fun t l hl hlen V b cap h hb => by rw [hKE] at h ⊢; exact h.some hFC.1 hFC.2 t l b cap hl hlen hb)
  have hK0 : KE W' := by rw [hKE]; exact ⟨hwb, HW1.out, HW0.out, ⟨_, HW2.out⟩⟩
  clear hKE HW0 HW1 HW2 HS HP0 HS0
  obtain ⟨p1, hp1⟩ : ∃ p, lowS 1 6 = p := ⟨_, rfl⟩
  have HP1 := Lib.hid (fun w' => lpart_any 1 6 w' (by omega) (by omega) (by omega) (by omega))
  rw [hp1] at HP1
  clear hp1
  have KC := Lib.hid (KF.out (p1, p0) ([0, 1, 2, 3, 4, 11]) (by decide) (by decide))
  have SK := Lib.hid (show ∀ V : World, KE V → V.cell? ⟨F, 0, none⟩ = some (.int .i64 p0.n) ∧ V.cell? ⟨F, 1, none⟩ = some (.int .i64 p0.d) ∧ KE V from
    fun V h => have hb := (KR.out V h).f; ⟨(made_cell hb 0).1, (made_cell hb 1).1, h⟩)
  go_region_held3 (fun V => V.cell? ⟨F, 0, none⟩ = some (.int .i64 p0.n) ∧ V.cell? ⟨F, 1, none⟩ = some (.int .i64 p0.d) ∧ KE V)
    (exact SK.out _ (by (repeat' (first | with_reducible assumption | apply And.intro | (with_reducible apply KD.out) | (with_reducible apply KB.out) | (with_reducible apply KA.out)))))
    (first
      | (go_at_call 80; refine (HP1.out _).mono ?_; rintro _ _ ⟨rfl, u, rfl⟩; have hus := u.size_le)
      | (go_at_call 140; refine (KC.out _ _ _ (by (repeat' (first | with_reducible assumption | (with_reducible apply KD.out) | (with_reducible apply KB.out) | (with_reducible apply KA.out)))) (by (repeat' (first | exact obj_new _ _ | (with_reducible apply obj_bel) | (with_reducible apply obj_drew) | (with_reducible apply obj_alloc))))).mono ?_; rintro _ w9 ⟨rfl, hk9, hsz9⟩))
  all_goals
    have hE := KR.out _ hk9
    obtain ⟨cE, hE2⟩ := hE.c
    have HV0 := Lib.hid hE.r
    have HV2 := Lib.hid hE2
    have hvb := hE.bl
    have hvw := hvb.size
    clear hE hE2 hK0 q0 q1 KB KD KA KR KF KC SK HP HP1
    go_wp2_with (first | refine wpList_ldC rfl _ rfl _ rfl (cirA cE) HV2.out (cirA_size _) ?_ | refine wpList_stC rfl _ _ rfl w.heap.size (cirA cE) rfl rfl (cirA zC) _ HV0.out (cirA_size _) (cirA_size _) (cirA_one _) (fun W' hW' => Hid.out ?_))
    refine Lib.hid ?_
    have hbb := hW'.below hvb (by omega)
    have hcr := hW'.b
    clear HV0 HV2 hW'
    go_wp2_with fail
    refine ret_obj (b := w.heap.size) hcr (fun W2 h2 => by
      have hl := cir_load h2
      simp [results, Tryz.results78, Act.put, Sem.run_bind, asAddr, hl]) rfl ⟨cE, rfl, ⟨_, hbb⟩, rfl⟩
set_option maxRecDepth 100000 in
set_option maxHeartbeats 6400000 in
theorem lnamed_kir (w : World) : Calls Tryz.prog 78 #[.string ⟨[107, 105, 114, 110, 98, 101, 114, 103, 101, 114].toArray⟩] w (RetC w) := by
  have HP := Lib.hid (fun n d w' h1 h2 h3 h4 => lpart_any n d w' h1 h2 h3 h4)
  have HS := Lib.hid (fun p s w' => same12_any p s w')
  have HP0 := Lib.hid (fun w' => lpart_any 0 1 w' (by omega) (by omega) (by omega) (by omega))
  obtain ⟨p0, hp0⟩ : ∃ p, lowS 0 1 = p := ⟨_, rfl⟩
  rw [hp0] at HP0
  clear hp0
  obtain ⟨c1, hc1⟩ : ∃ c, fillC zC (p0, p0) 12 = c := ⟨_, rfl⟩
  have HS0 := Lib.hid (fun w' => same12_any p0 p0 w')
  rw [hc1] at HS0
  clear hc1
  go_enter Tryz.func78, Tryz.ntmps78
  go_wp2_with fail
  have hz0 : (w.alloc (.cells (cirA zC) 36)).heap[w.heap.size]? = _ := obj_new _ _
  have hzb : Below w.heap.size w (w.alloc (.cells (cirA zC) 36)) := by (repeat' (first | (with_reducible first | apply Zl1 | apply Zl2 | apply Zl3 | apply Zl4 | apply Zl5 | apply Zl6 | apply Zl7 | apply Zl8 | apply Zl9 | apply Zla | apply Zlb | apply Zlc) | (dsimp only; with_reducible first | apply Zl8 | apply Zl2 | apply Zld) | with_reducible assumption | omega | (dsimp only; omega)))
  have hcz := zC_lit
  rw [← hcz]
  clear hcz
  have hl := obj_lt hz0
  generalize w.alloc (.cells (cirA zC) 36) = Y at *
  (with_reducible refine (HP0.out _).mono ?_)
  rintro _ _ ⟨rfl, x, rfl⟩
  have hxs := x.size_le
  have hxb : Below w.heap.size w x.w := by (repeat' (first | (with_reducible first | apply Zl1 | apply Zl2 | apply Zl3 | apply Zl4 | apply Zl5 | apply Zl6 | apply Zl7 | apply Zl8 | apply Zl9 | apply Zla | apply Zlb | apply Zlc) | (dsimp only; with_reducible first | apply Zl8 | apply Zl2 | apply Zld) | with_reducible assumption | omega | (dsimp only; omega)))
  have hx0 := obj_bel x hz0
  generalize x.w = X at *
  clear hz0 hzb
  dsimp only
  go_wp2_with fail
  (with_reducible refine (HS0.out _).mono ?_)
  rintro _ _ ⟨rfl, y, rfl⟩
  have hys := y.size_le
  rw [World.size_alloc] at hys
  have hyb : Below w.heap.size w y.w := by (repeat' (first | (with_reducible first | apply Zl1 | apply Zl2 | apply Zl3 | apply Zl4 | apply Zl5 | apply Zl6 | apply Zl7 | apply Zl8 | apply Zl9 | apply Zla | apply Zlb | apply Zlc) | (dsimp only; with_reducible first | apply Zl8 | apply Zl2 | apply Zld) | with_reducible assumption | omega | (dsimp only; omega)))
  have hy0 := obj_bel y (obj_alloc (.cells #[.int .i64 p0.n, .int .i64 p0.d] 32) hx0)
  have hy1 := obj_bel y (obj_new X (.cells #[.int .i64 p0.n, .int .i64 p0.d] 32))
  generalize X.heap.size = F at *
  generalize y.w = Y1 at *
  clear hx0 hxb
  have hu0 := obj_alloc (.cells (cirA zC) 36) hy0
  have hu1 := obj_alloc (.cells (cirA zC) 36) hy1
  have hu2 := obj_new Y1 (.cells (cirA zC) 36)
  have hub : Below w.heap.size w (Y1.alloc (.cells (cirA zC) 36)) := by (repeat' (first | (with_reducible first | apply Zl1 | apply Zl2 | apply Zl3 | apply Zl4 | apply Zl5 | apply Zl6 | apply Zl7 | apply Zl8 | apply Zl9 | apply Zla | apply Zlb | apply Zlc) | (dsimp only; with_reducible first | apply Zl8 | apply Zl2 | apply Zld) | with_reducible assumption | omega | (dsimp only; omega)))
  generalize hU : Y1.alloc (.cells (cirA zC) 36) = U at hu0 hu1 hu2 hub
  rw [zC_lit] at hU
  have HU := Lib.hid hU
  generalize hCb : Y1.heap.size = Cb at *
  clear hy0 hy1 hyb hU
  have HU0 := Lib.hid hu0
  have HU1 := Lib.hid hu1
  have HU2 := Lib.hid hu2
  clear hu0 hu1 hu2
  dsimp only
  go_wp2_with (first | rw [HU.out] | refine wpList_stC rfl _ _ rfl Cb (cirA c1) rfl rfl (cirA zC) _ HU2.out (cirA_size _) (cirA_size _) (cirA_one _) (fun W' hW' => Hid.out ?_))
  refine Lib.hid ?_
  have hwb := hW'.below hub (by omega)
  have hw0 := hW'.obj (by omega) HU0.out
  have hw1 := hW'.obj (by omega) HU1.out
  have hw2 := hW'.b
  have hwl := obj_lt hw2
  clear HU0 HU1 HU2 HU hub hW'
  have q0 := (made_cell hw1 0).1
  have q1 := (made_cell hw1 1).1
  have HW0 := Lib.hid hw0
  have HW1 := Lib.hid hw1
  have HW2 := Lib.hid hw2
  have hFC : w.heap.size < F ∧ F < Cb := by omega
  have hwz := hwb.size
  clear hw0 hw1 hw2 hys hxs hCb
  go_wp2_with fail
  obtain ⟨KE, hKE⟩ : ∃ KE : World → Prop, KE = KeepN w F Cb p0.n p0.d := ⟨_, rfl⟩
  have KB := Lib.hid (show ∀ (V : World) (z : Bel V), KE V → KE z.w from fun V z h => by rw [hKE] at h ⊢; exact h.bel z)
  have KD := Lib.hid (show ∀ (V : World), KE V → KE V.drew from fun V h => by rw [hKE] at h ⊢; exact h.drew)
  have KA := Lib.hid (show ∀ (V : World) (o : Obj), KE V → KE (V.alloc o) from fun V o h => by rw [hKE] at h ⊢; exact h.alloc o)
  have KR := Lib.hid (show ∀ (V : World), KE V → KeepN w F Cb p0.n p0.d V from fun V h => by rw [hKE] at h; exact h)
  have KF := Lib.hid (show ∀ (t : Q × Q) (l : List Nat) (hl : ∀ k, k ∈ l → k < 12) (hlen : l.length ≤ 1000) (V : World) (b cap : Nat), KE V → V.heap[b]? = some (.cells (natVs l).toArray 3) →
      Calls Tryz.prog 140 #[.agg #[.int .i64 t.1.n, .int .i64 t.1.d, .int .i64 t.2.n, .int .i64 t.2.d], .slice (some ⟨b, 0, none⟩) l.length cap, .pointer (some ⟨Cb, 0, none⟩)] V fun e w' => e = .returned (.tuple #[]) ∧ KE w' ∧ V.heap.size ≤ w'.heap.size from
    fun t l hl hlen V b cap h hb => by rw [hKE] at h ⊢; exact h.some hFC.1 hFC.2 t l b cap hl hlen hb)
  have hK0 : KE W' := by rw [hKE]; exact ⟨hwb, HW1.out, HW0.out, ⟨_, HW2.out⟩⟩
  clear hKE HW0 HW1 HW2 HS HP0 HS0
  obtain ⟨p1, hp1⟩ : ∃ p, lowS 1 4 = p := ⟨_, rfl⟩
  have HP1 := Lib.hid (fun w' => lpart_any 1 4 w' (by omega) (by omega) (by omega) (by omega))
  rw [hp1] at HP1
  clear hp1
  have KC := Lib.hid (KF.out (p0, p1) ([0, 1, 2, 3]) (by decide) (by decide))
  have SK := Lib.hid (show ∀ V : World, KE V → V.cell? ⟨F, 0, none⟩ = some (.int .i64 p0.n) ∧ V.cell? ⟨F, 1, none⟩ = some (.int .i64 p0.d) ∧ KE V from
    fun V h => have hb := (KR.out V h).f; ⟨(made_cell hb 0).1, (made_cell hb 1).1, h⟩)
  go_region_held3 (fun V => V.cell? ⟨F, 0, none⟩ = some (.int .i64 p0.n) ∧ V.cell? ⟨F, 1, none⟩ = some (.int .i64 p0.d) ∧ KE V)
    (exact SK.out _ (by (repeat' (first | with_reducible assumption | apply And.intro | (with_reducible apply KD.out) | (with_reducible apply KB.out) | (with_reducible apply KA.out)))))
    (first
      | (go_at_call 80; refine (HP1.out _).mono ?_; rintro _ _ ⟨rfl, u, rfl⟩; have hus := u.size_le)
      | (go_at_call 140; refine (KC.out _ _ _ (by (repeat' (first | with_reducible assumption | (with_reducible apply KD.out) | (with_reducible apply KB.out) | (with_reducible apply KA.out)))) (by (repeat' (first | exact obj_new _ _ | (with_reducible apply obj_bel) | (with_reducible apply obj_drew) | (with_reducible apply obj_alloc))))).mono ?_; rintro _ w9 ⟨rfl, hk9, hsz9⟩))
  all_goals
    clear hK0 q0 q1
    obtain ⟨a1, ha1⟩ : ∃ p, lowS 1 1 = p := ⟨_, rfl⟩
    have HA1 := Lib.hid (fun w' => lpart_any 1 1 w' (by omega) (by omega) (by omega) (by omega))
    rw [ha1] at HA1
    obtain ⟨a2, ha2⟩ : ∃ p, lowS (-1) 1 = p := ⟨_, rfl⟩
    have HA2 := Lib.hid (fun w' => lpart_any (-1) 1 w' (by omega) (by omega) (by omega) (by omega))
    rw [ha2] at HA2
    clear ha1 ha2
    have KP := Lib.hid (KF.out (a1, a2) [6] (by decide) (by decide))
    go_wp2_with fail
    (with_reducible refine (HA1.out _).mono ?_)
    rintro _ _ ⟨rfl, r1, rfl⟩
    dsimp only
    go_wp2_with fail
    (with_reducible refine (HA2.out _).mono ?_)
    rintro _ _ ⟨rfl, r2, rfl⟩
    dsimp only
    go_wp2_with fail
    refine (KP.out _ _ _ (by (repeat' (first | with_reducible assumption | (with_reducible apply KD.out) | (with_reducible apply KB.out) | (with_reducible apply KA.out)))) (by (repeat' (first | exact obj_new _ _ | (with_reducible apply obj_bel) | (with_reducible apply obj_drew) | (with_reducible apply obj_alloc))))).mono ?_
    rintro _ w10 ⟨rfl, hk10, hsz10⟩
    dsimp only
  all_goals
    have hE := KR.out _ hk10
    obtain ⟨cE, hE2⟩ := hE.c
    have HV0 := Lib.hid hE.r
    have HV2 := Lib.hid hE2
    have hvb := hE.bl
    have hvw := hvb.size
    clear hE hE2 KB KD KA KR KF KC KP SK HA1 HA2 HP HP1
    go_wp2_with (first | refine wpList_ldC rfl _ rfl _ rfl (cirA cE) HV2.out (cirA_size _) ?_ | refine wpList_stC rfl _ _ rfl w.heap.size (cirA cE) rfl rfl (cirA zC) _ HV0.out (cirA_size _) (cirA_size _) (cirA_one _) (fun W' hW' => Hid.out ?_))
    refine Lib.hid ?_
    have hbb := hW'.below hvb (by omega)
    have hcr := hW'.b
    clear HV0 HV2 hW'
    go_wp2_with fail
    refine ret_obj (b := w.heap.size) hcr (fun W2 h2 => by
      have hl := cir_load h2
      simp [results, Tryz.results78, Act.put, Sem.run_bind, asAddr, hl]) rfl ⟨cE, rfl, ⟨_, hbb⟩, rfl⟩
set_option maxRecDepth 100000 in
set_option maxHeartbeats 6400000 in
theorem lnamed_mea (w : World) : Calls Tryz.prog 78 #[.string ⟨[109, 101, 97, 110, 116, 111, 110, 101].toArray⟩] w (RetC w) := by
  have HP := Lib.hid (fun n d w' h1 h2 h3 h4 => lpart_any n d w' h1 h2 h3 h4)
  have HS := Lib.hid (fun p s w' => same12_any p s w')
  have HP0 := Lib.hid (fun w' => lpart_any 0 1 w' (by omega) (by omega) (by omega) (by omega))
  obtain ⟨p0, hp0⟩ : ∃ p, lowS 0 1 = p := ⟨_, rfl⟩
  rw [hp0] at HP0
  clear hp0
  obtain ⟨c1, hc1⟩ : ∃ c, fillC zC (p0, p0) 12 = c := ⟨_, rfl⟩
  have HS0 := Lib.hid (fun w' => same12_any p0 p0 w')
  rw [hc1] at HS0
  clear hc1
  go_enter Tryz.func78, Tryz.ntmps78
  go_wp2_with fail
  have hz0 : (w.alloc (.cells (cirA zC) 36)).heap[w.heap.size]? = _ := obj_new _ _
  have hzb : Below w.heap.size w (w.alloc (.cells (cirA zC) 36)) := by (repeat' (first | (with_reducible first | apply Zl1 | apply Zl2 | apply Zl3 | apply Zl4 | apply Zl5 | apply Zl6 | apply Zl7 | apply Zl8 | apply Zl9 | apply Zla | apply Zlb | apply Zlc) | (dsimp only; with_reducible first | apply Zl8 | apply Zl2 | apply Zld) | with_reducible assumption | omega | (dsimp only; omega)))
  have hcz := zC_lit
  rw [← hcz]
  clear hcz
  have hl := obj_lt hz0
  generalize w.alloc (.cells (cirA zC) 36) = Y at *
  (with_reducible refine (HP0.out _).mono ?_)
  rintro _ _ ⟨rfl, x, rfl⟩
  have hxs := x.size_le
  have hxb : Below w.heap.size w x.w := by (repeat' (first | (with_reducible first | apply Zl1 | apply Zl2 | apply Zl3 | apply Zl4 | apply Zl5 | apply Zl6 | apply Zl7 | apply Zl8 | apply Zl9 | apply Zla | apply Zlb | apply Zlc) | (dsimp only; with_reducible first | apply Zl8 | apply Zl2 | apply Zld) | with_reducible assumption | omega | (dsimp only; omega)))
  have hx0 := obj_bel x hz0
  generalize x.w = X at *
  clear hz0 hzb
  dsimp only
  go_wp2_with fail
  (with_reducible refine (HS0.out _).mono ?_)
  rintro _ _ ⟨rfl, y, rfl⟩
  have hys := y.size_le
  rw [World.size_alloc] at hys
  have hyb : Below w.heap.size w y.w := by (repeat' (first | (with_reducible first | apply Zl1 | apply Zl2 | apply Zl3 | apply Zl4 | apply Zl5 | apply Zl6 | apply Zl7 | apply Zl8 | apply Zl9 | apply Zla | apply Zlb | apply Zlc) | (dsimp only; with_reducible first | apply Zl8 | apply Zl2 | apply Zld) | with_reducible assumption | omega | (dsimp only; omega)))
  have hy0 := obj_bel y (obj_alloc (.cells #[.int .i64 p0.n, .int .i64 p0.d] 32) hx0)
  have hy1 := obj_bel y (obj_new X (.cells #[.int .i64 p0.n, .int .i64 p0.d] 32))
  generalize X.heap.size = F at *
  generalize y.w = Y1 at *
  clear hx0 hxb
  have hu0 := obj_alloc (.cells (cirA zC) 36) hy0
  have hu1 := obj_alloc (.cells (cirA zC) 36) hy1
  have hu2 := obj_new Y1 (.cells (cirA zC) 36)
  have hub : Below w.heap.size w (Y1.alloc (.cells (cirA zC) 36)) := by (repeat' (first | (with_reducible first | apply Zl1 | apply Zl2 | apply Zl3 | apply Zl4 | apply Zl5 | apply Zl6 | apply Zl7 | apply Zl8 | apply Zl9 | apply Zla | apply Zlb | apply Zlc) | (dsimp only; with_reducible first | apply Zl8 | apply Zl2 | apply Zld) | with_reducible assumption | omega | (dsimp only; omega)))
  generalize hU : Y1.alloc (.cells (cirA zC) 36) = U at hu0 hu1 hu2 hub
  rw [zC_lit] at hU
  have HU := Lib.hid hU
  generalize hCb : Y1.heap.size = Cb at *
  clear hy0 hy1 hyb hU
  have HU0 := Lib.hid hu0
  have HU1 := Lib.hid hu1
  have HU2 := Lib.hid hu2
  clear hu0 hu1 hu2
  dsimp only
  go_wp2_with (first | rw [HU.out] | refine wpList_stC rfl _ _ rfl Cb (cirA c1) rfl rfl (cirA zC) _ HU2.out (cirA_size _) (cirA_size _) (cirA_one _) (fun W' hW' => Hid.out ?_))
  refine Lib.hid ?_
  have hwb := hW'.below hub (by omega)
  have hw0 := hW'.obj (by omega) HU0.out
  have hw1 := hW'.obj (by omega) HU1.out
  have hw2 := hW'.b
  have hwl := obj_lt hw2
  clear HU0 HU1 HU2 HU hub hW'
  have q0 := (made_cell hw1 0).1
  have q1 := (made_cell hw1 1).1
  have HW0 := Lib.hid hw0
  have HW1 := Lib.hid hw1
  have HW2 := Lib.hid hw2
  have hFC : w.heap.size < F ∧ F < Cb := by omega
  have hwz := hwb.size
  clear hw0 hw1 hw2 hys hxs hCb
  go_wp2_with fail
  obtain ⟨p1, hp1⟩ : ∃ p, lowS 1 4 = p := ⟨_, rfl⟩
  have HP1 := Lib.hid (fun w' => lpart_any 1 4 w' (by omega) (by omega) (by omega) (by omega))
  rw [hp1] at HP1
  clear hp1
  obtain ⟨c2, hc2⟩ : ∃ c, fillC zC (p0, p1) 12 = c := ⟨_, rfl⟩
  have HS1 := Lib.hid (fun w' => same12_any p0 p1 w')
  rw [hc2] at HS1
  clear hc2
  clear HS HP0 HS0
  refine wp_region_belT 3 (by kernel_rfl) (by kernel_rfl) ?_
  simp only [List.take_succ_cons, List.take_zero, List.drop_succ_cons, List.drop_zero]
  repeat (go_big_quiet_step ((first | (go_at_call 80; exact bel_of (HP1.out _)) | (go_at_call 139; exact bel_of (HS1.out _)))))
  refine wpQuiet_nil ?_
  rintro _ ⟨z, rfl⟩
  have hzs := z.size_le
  have hzb : Below w.heap.size w z.w := by (repeat' (first | (with_reducible first | apply Zl1 | apply Zl2 | apply Zl3 | apply Zl4 | apply Zl5 | apply Zl6 | apply Zl7 | apply Zl8 | apply Zl9 | apply Zla | apply Zlb | apply Zlc) | (dsimp only; with_reducible first | apply Zl8 | apply Zl2 | apply Zld) | with_reducible assumption | omega | (dsimp only; omega)))
  have hzw := hzb.size
  have HZ0 := Lib.hid (obj_bel z HW0.out)
  have HZ1 := Lib.hid (obj_bel z HW1.out)
  have HZ2 := Lib.hid (obj_bel z HW2.out)
  generalize z.w = Z at *
  clear HW0 HW1 HW2 q0 q1
  go_wp2_with (refine wpList_stC rfl _ _ rfl Cb (cirA c2) rfl rfl (cirA c1) _ HZ2.out (cirA_size _) (cirA_size _) (cirA_one _) (fun W' hW' => Hid.out ?_))
  refine Lib.hid ?_
  have hvb := hW'.below hzb (by omega)
  have HV0 := Lib.hid (hW'.obj (by omega) HZ0.out)
  have HV1 := Lib.hid (hW'.obj (by omega) HZ1.out)
  have HV2 := Lib.hid (hW'.b)
  clear HZ0 HZ1 HZ2 hW' hzb
  obtain ⟨KE, hKE⟩ : ∃ KE : World → Prop, KE = KeepN w F Cb p0.n p0.d := ⟨_, rfl⟩
  have KB := Lib.hid (show ∀ (V : World) (z : Bel V), KE V → KE z.w from fun V z h => by rw [hKE] at h ⊢; exact h.bel z)
  have KD := Lib.hid (show ∀ (V : World), KE V → KE V.drew from fun V h => by rw [hKE] at h ⊢; exact h.drew)
  have KA := Lib.hid (show ∀ (V : World) (o : Obj), KE V → KE (V.alloc o) from fun V o h => by rw [hKE] at h ⊢; exact h.alloc o)
  have KR := Lib.hid (show ∀ (V : World), KE V → KeepN w F Cb p0.n p0.d V from fun V h => by rw [hKE] at h; exact h)
  have KF := Lib.hid (show ∀ (t : Q × Q) (l : List Nat) (hl : ∀ k, k ∈ l → k < 12) (hlen : l.length ≤ 1000) (V : World) (b cap : Nat), KE V → V.heap[b]? = some (.cells (natVs l).toArray 3) →
      Calls Tryz.prog 140 #[.agg #[.int .i64 t.1.n, .int .i64 t.1.d, .int .i64 t.2.n, .int .i64 t.2.d], .slice (some ⟨b, 0, none⟩) l.length cap, .pointer (some ⟨Cb, 0, none⟩)] V fun e w' => e = .returned (.tuple #[]) ∧ KE w' ∧ V.heap.size ≤ w'.heap.size from
    fun t l hl hlen V b cap h hb => by rw [hKE] at h ⊢; exact h.some hFC.1 hFC.2 t l b cap hl hlen hb)
  have hK0 : KE W' := by rw [hKE]; exact ⟨hvb, HV1.out, HV0.out, ⟨_, HV2.out⟩⟩
  clear hKE HV0 HV1 HV2
  obtain ⟨a1, ha1⟩ : ∃ p, lowS 1 1 = p := ⟨_, rfl⟩
  have HA1 := Lib.hid (fun w' => lpart_any 1 1 w' (by omega) (by omega) (by omega) (by omega))
  rw [ha1] at HA1
  obtain ⟨a2, ha2⟩ : ∃ p, lowS (-11) 4 = p := ⟨_, rfl⟩
  have HA2 := Lib.hid (fun w' => lpart_any (-11) 4 w' (by omega) (by omega) (by omega) (by omega))
  rw [ha2] at HA2
  clear ha1 ha2
  have KP := Lib.hid (KF.out (a1, a2) [8] (by decide) (by decide))
  go_wp2_with fail
  (with_reducible refine (HA1.out _).mono ?_)
  rintro _ _ ⟨rfl, r1, rfl⟩
  dsimp only
  go_wp2_with fail
  (with_reducible refine (HA2.out _).mono ?_)
  rintro _ _ ⟨rfl, r2, rfl⟩
  dsimp only
  go_wp2_with fail
  refine (KP.out _ _ _ (by (repeat' (first | with_reducible assumption | (with_reducible apply KD.out) | (with_reducible apply KB.out) | (with_reducible apply KA.out)))) (by (repeat' (first | exact obj_new _ _ | (with_reducible apply obj_bel) | (with_reducible apply obj_drew) | (with_reducible apply obj_alloc))))).mono ?_
  rintro _ w10 ⟨rfl, hk10, hsz10⟩
  dsimp only
  all_goals
    have hE := KR.out _ hk10
    obtain ⟨cE, hE2⟩ := hE.c
    have HV0 := Lib.hid hE.r
    have HV2 := Lib.hid hE2
    have hvb := hE.bl
    have hvw := hvb.size
    clear hE hE2 KB KD KA KR KF KP HA1 HA2
    go_wp2_with (first | refine wpList_ldC rfl _ rfl _ rfl (cirA cE) HV2.out (cirA_size _) ?_ | refine wpList_stC rfl _ _ rfl w.heap.size (cirA cE) rfl rfl (cirA zC) _ HV0.out (cirA_size _) (cirA_size _) (cirA_one _) (fun W' hW' => Hid.out ?_))
    refine Lib.hid ?_
    have hbb := hW'.below hvb (by omega)
    have hcr := hW'.b
    clear HV0 HV2 hW'
    go_wp2_with fail
    refine ret_obj (b := w.heap.size) hcr (fun W2 h2 => by
      have hl := cir_load h2
      simp [results, Tryz.results78, Act.put, Sem.run_bind, asAddr, hl]) rfl ⟨cE, rfl, ⟨_, hbb⟩, rfl⟩
end Go.Proofs.YtehgeoipbgpocaaGreatDoor
