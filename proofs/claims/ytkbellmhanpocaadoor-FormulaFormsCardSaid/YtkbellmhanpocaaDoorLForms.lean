/- The walk of FormulaForms. -/
import Derived.Test.YtkbellmhanpocaaDoorK1
import Derived.Test.YtkbellmhanpocaaDoorK2
import Derived.Test.YtkbellmhanpocaaDoorQ1
import Derived.Test.YtkbellmhanpocaaDoorE1
import Derived.Test.YtkbellmhanpocaaDoorC1
import Derived.Test.YtkbellmhanpocaaDoorFs
import Derived.Test.YtkbellmhanpocaaDoorW2
namespace Go.Proofs.YtkbellmhanpocaaDoor
set_option linter.unusedVariables false
set_option linter.unusedSimpArgs false
open Go.RowKit F
attribute [local go_sem low] Bel.cell Bel.frozen alloc_cell alloc_frozen

set_option maxRecDepth 100000 in
theorem lawForms_long (p : Option Addr) (n cap : Nat) (w : World) (hT : Tab w) (hn : 30 < n) : Calls Tryd.prog 9 #[.slice p n cap] w (Ret (.bool true) w) := by
  have f0 : decide ((30 : Int) < (n : Int)) = true := decide_eq_true (by omega)
  have HT := Lib.hid hT
  clear hT
  go_enter Tryd.func9, Tryd.ntmps9
  go_wp2_with fail
  (with_reducible refine (known_any _ (HT.out.of (by (repeat' (first | (with_reducible exact Below.refl _ _) | (with_reducible exact Nat.le_refl _) | (with_reducible refine Below.bel ?_ ?_) | (with_reducible refine Below.alloc ?_ ?_ _) | (with_reducible refine Below.drew ?_) | (with_reducible refine Below.drawsN ?_ _) | (with_reducible refine Below.setCell ?_ ?_ _) | (with_reducible refine le_bel ?_) | (with_reducible refine le_alloc ?_) | (with_reducible refine le_setCell ?_) | (with_reducible refine le_drew ?_) | (with_reducible refine le_drawsN ?_) | (dsimp only; with_reducible refine le_bel ?_) | (dsimp only; with_reducible refine Nat.le_refl _) | (dsimp only; with_reducible refine le_bel_add ?_) | (with_reducible assumption) | omega | (dsimp only; omega)))))).mono ?_)
  rintro _ _ ⟨rfl, y1, rfl⟩
  go_wp2_with fail
  (with_reducible refine (known_any _ (HT.out.of (by (repeat' (first | (with_reducible exact Below.refl _ _) | (with_reducible exact Nat.le_refl _) | (with_reducible refine Below.bel ?_ ?_) | (with_reducible refine Below.alloc ?_ ?_ _) | (with_reducible refine Below.drew ?_) | (with_reducible refine Below.drawsN ?_ _) | (with_reducible refine Below.setCell ?_ ?_ _) | (with_reducible refine le_bel ?_) | (with_reducible refine le_alloc ?_) | (with_reducible refine le_setCell ?_) | (with_reducible refine le_drew ?_) | (with_reducible refine le_drawsN ?_) | (dsimp only; with_reducible refine le_bel ?_) | (dsimp only; with_reducible refine Nat.le_refl _) | (dsimp only; with_reducible refine le_bel_add ?_) | (with_reducible assumption) | omega | (dsimp only; omega)))))).mono ?_)
  rintro _ _ ⟨rfl, y2, rfl⟩
  go_wp2
  go_ret
  exact Ret.mk (by rfl) (by (repeat' (first | (with_reducible exact Below.refl _ _) | (with_reducible exact Nat.le_refl _) | (with_reducible refine Below.bel ?_ ?_) | (with_reducible refine Below.alloc ?_ ?_ _) | (with_reducible refine Below.drew ?_) | (with_reducible refine Below.drawsN ?_ _) | (with_reducible refine Below.setCell ?_ ?_ _) | (with_reducible refine le_bel ?_) | (with_reducible refine le_alloc ?_) | (with_reducible refine le_setCell ?_) | (with_reducible refine le_drew ?_) | (with_reducible refine le_drawsN ?_) | (dsimp only; with_reducible refine le_bel ?_) | (dsimp only; with_reducible refine Nat.le_refl _) | (dsimp only; with_reducible refine le_bel_add ?_) | (with_reducible assumption) | omega | (dsimp only; omega))))
theorem rising_len2 : ∀ {l : List Int} {a b : Int}, l.Pairwise (· < ·) → (∀ x ∈ l, a ≤ x ∧ x < b) → l.length ≤ (b - a).toNat
  | [], _, _, _, _ => Nat.zero_le _
  | x :: r, a, b, hs, hr => by
    rw [List.pairwise_cons] at hs
    have h0 := hr x (List.mem_cons_self ..)
    have := rising_len2 (l := r) (a := x + 1) (b := b) hs.2 fun y hy => ⟨by have := hs.1 y hy; omega, (hr y (List.mem_cons_of_mem _ hy)).2⟩
    rw [List.length_cons]
    omega
theorem sup_six {t u : F} (ht : okT t) (hu : okT u) (h6 : inV 6 (pre t)) (h : ∀ x, occ x u = true → occ x t = true) : (supF [t, u]).length ≤ 12 := by
  have hsp := supF_spec [t, u]
  have hr : ∀ x ∈ supF [t, u], 0 ≤ x ∧ x < 6 := fun x hx => by
    rcases (supF_two ht hu x).1 hx with h' | h'
    · exact occ_inV ht h6 h'
    · exact occ_inV ht h6 (h x h')
  exact Nat.le_trans (rising_len2 hsp.1 hr) (by decide)
set_option maxRecDepth 100000 in
set_option maxHeartbeats 12800000 in
theorem lawForms_any (code : List UInt8) (ca : Option Addr) (cc : Nat) (w : World) (hT : Tab w) (hs : ShowsV w (.slice ca code.length cc) (bytesV code)) (hl : code.length ≤ 30) : Calls Tryd.prog 9 #[.slice ca code.length cc] w (Ret (.bool true) w) := by
  have f0 : decide ((30 : Int) < (code.length : Int)) = false := decide_eq_false (by omega)
  have HT := Lib.hid hT
  have HM := Lib.hid (fun W (hW : Below w.heap.size w W) => Make_any code ca cc W (showsV_of hs hW) hl)
  obtain ⟨g1, g2, g3, g4⟩ := mkF_good code
  obtain ⟨t, ht⟩ : ∃ t, mkF code = t := ⟨_, rfl⟩
  rw [ht] at HM g1 g2 g3 g4
  have hn1 := nrm_size t false g1
  have hn2 := nrm_ok t false g1
  have hn3 := nrm_nrm t false g1
  have hn4 := nrm_lit t false g1
  have hs1 := smp_size t g1
  have hs2 := smp_ok t g1 (by omega)
  have hs3 := smp_id (smp t) hs2 (smp_nf t)
  have hs4 := nf_const hs2 (smp_nf t)
  have he1 : eqv t (nrm t false) := fun ρ => by rw [val_nrm ρ t false g1]; cases val ρ t <;> rfl
  have he2 : eqv t (smp t) := fun ρ => (smp_val ρ t g1 (by omega)).symm
  have hl1 := sup_six g1 hn2 g2 (fun x => occ_nrm x t false g1)
  have hl2 := sup_six g1 hs2 g2 (fun x => occ_smp x t g1)
  have HN := Lib.hid (fun (P : Nat → Prop) ad cap w' hi => Normal_ok P t ad cap w' hi g1 (by omega) (by omega))
  have HSM := Lib.hid (fun (P : Nat → Prop) ad cap w' hi hT => Simplify_ok P t ad cap w' hi g1 (by omega) (by omega) hT)
  obtain ⟨tn, htn⟩ : ∃ tn, nrm t false = tn := ⟨_, rfl⟩
  rw [htn] at hn1 hn2 hn3 hn4 he1 hl1 HN
  obtain ⟨ts, hts⟩ : ∃ ts, smp t = ts := ⟨_, rfl⟩
  rw [hts] at hs1 hs2 hs3 hs4 he2 hl2 HSM
  have HNN := Lib.hid (fun (P : Nat → Prop) ad cap w' hi => Normal_ok P tn ad cap w' hi hn2 (by omega) (by omega))
  have HSS := Lib.hid (fun (P : Nat → Prop) ad cap w' hi hT => Simplify_ok P ts ad cap w' hi hs2 (by omega) (by omega) hT)
  rw [hn3] at HNN
  rw [hs3] at HSS
  have HE1 := Lib.hid (fun (P P' : Nat → Prop) ad ad' cap cap' w' hi hi' => Equivalent_ok P P' t tn ad ad' cap cap' true (by simp [he1]) w' hi hi' g1 hn2 (by omega) (by omega) (by omega) (by omega) hl1)
  have HE2 := Lib.hid (fun (P P' : Nat → Prop) ad ad' cap cap' w' hi hi' => Equivalent_ok P P' t ts ad ad' cap cap' true (by simp [he2]) w' hi hi' g1 hs2 (by omega) (by omega) (by omega) (by omega) hl2)
  have HQ1 := Lib.hid (fun (P P' : Nat → Prop) ad ad' cap cap' w' hi hi' => Equal_any (nodes tn) tn (Nat.le_refl _) tn P P' ad ad' cap cap' w' hi hi' (by omega) (by omega))
  have HQ2 := Lib.hid (fun (P P' : Nat → Prop) ad ad' cap cap' w' hi hi' => Equal_any (nodes ts) ts (Nat.le_refl _) ts P P' ad ad' cap cap' w' hi hi' (by omega) (by omega))
  rw [(eqF_iff tn tn).2 rfl] at HQ1
  rw [(eqF_iff ts ts).2 rfl] at HQ2
  have HLI := Lib.hid (fun (P : Nat → Prop) ad cap w' hi => literal_any (nodes tn) tn (Nat.le_refl _) P ad cap w' hi (by omega))
  rw [hn4] at HLI
  have HCO := Lib.hid (fun (hc : hasC ts = false) (P : Nat → Prop) ad cap w' hi => (show Calls Tryd.prog 30 #[.agg #[.int .i64 ts.k, .int .i64 ts.a, .slice ad ts.l.length cap]] w' (Ret (.bool false) w') from by
    have := constant_law_any (nodes ts) ts (Nat.le_refl _) P ad cap w' hi (by omega)
    rwa [hc] at this))
  clear hT hs ht g1 g2 g3 g4 hn1 hn2 hn3 hn4 hs1 hs2 hs3 he1 he2 hl1 hl2 htn hts
  go_enter Tryd.func9, Tryd.ntmps9
  go_wp2_with fail
  (with_reducible refine (known_any _ (HT.out.of (by (repeat' (first | (with_reducible exact Below.refl _ _) | (with_reducible exact Nat.le_refl _) | (with_reducible refine Below.bel ?_ ?_) | (with_reducible refine Below.alloc ?_ ?_ _) | (with_reducible refine Below.drew ?_) | (with_reducible refine Below.drawsN ?_ _) | (with_reducible refine Below.setCell ?_ ?_ _) | (with_reducible refine le_bel ?_) | (with_reducible refine le_alloc ?_) | (with_reducible refine le_setCell ?_) | (with_reducible refine le_drew ?_) | (with_reducible refine le_drawsN ?_) | (dsimp only; with_reducible refine le_bel ?_) | (dsimp only; with_reducible refine Nat.le_refl _) | (dsimp only; with_reducible refine le_bel_add ?_) | (with_reducible assumption) | omega | (dsimp only; omega)))))).mono ?_)
  rintro _ _ ⟨rfl, y1, rfl⟩
  go_wp2_with fail
  refine (HM.out _ (by (repeat' (first | (with_reducible exact Below.refl _ _) | (with_reducible exact Nat.le_refl _) | (with_reducible refine Below.bel ?_ ?_) | (with_reducible refine Below.alloc ?_ ?_ _) | (with_reducible refine Below.drew ?_) | (with_reducible refine Below.drawsN ?_ _) | (with_reducible refine Below.setCell ?_ ?_ _) | (with_reducible refine le_bel ?_) | (with_reducible refine le_alloc ?_) | (with_reducible refine le_setCell ?_) | (with_reducible refine le_drew ?_) | (with_reducible refine le_drawsN ?_) | (dsimp only; with_reducible refine le_bel ?_) | (dsimp only; with_reducible refine Nat.le_refl _) | (dsimp only; with_reducible refine le_bel_add ?_) | (with_reducible assumption) | omega | (dsimp only; omega))))).mono ?_
  rintro _ _ ⟨_, rfl, y2, rfl, ad2, cap2, rfl, hi2⟩
  have hsz1 := y1.size_le
  have hsz2 := y2.size_le
  have o3 := World.alloc_heap_new y2.w (.cells #[.int .i64 t.k, .int .i64 t.a, .slice ad2 t.l.length cap2] 25)
  have hB : Below w.heap.size w (y2.w.alloc (.cells #[.int .i64 t.k, .int .i64 t.a, .slice ad2 t.l.length cap2] 25)) := by (repeat' (first | (with_reducible exact Below.refl _ _) | (with_reducible exact Nat.le_refl _) | (with_reducible refine Below.bel ?_ ?_) | (with_reducible refine Below.alloc ?_ ?_ _) | (with_reducible refine Below.drew ?_) | (with_reducible refine Below.drawsN ?_ _) | (with_reducible refine Below.setCell ?_ ?_ _) | (with_reducible refine le_bel ?_) | (with_reducible refine le_alloc ?_) | (with_reducible refine le_setCell ?_) | (with_reducible refine le_drew ?_) | (with_reducible refine le_drawsN ?_) | (dsimp only; with_reducible refine le_bel ?_) | (dsimp only; with_reducible refine Nat.le_refl _) | (dsimp only; with_reducible refine le_bel_add ?_) | (with_reducible assumption) | omega | (dsimp only; omega)))
  have HI2 := Lib.hid ((hi2.imp fun _ _ _ => trivial : InsF (fun _ => True) _ _ _).of ((Below.refl _ _).alloc (Nat.le_refl _) (.cells #[.int .i64 t.k, .int .i64 t.a, .slice ad2 t.l.length cap2] 25)))
  have hszV : (y2.w.alloc (.cells #[.int .i64 t.k, .int .i64 t.a, .slice ad2 t.l.length cap2] 25)).heap.size = y2.w.heap.size + 1 := by simp
  obtain ⟨V, hV⟩ : ∃ V, y2.w.alloc (.cells #[.int .i64 t.k, .int .i64 t.a, .slice ad2 t.l.length cap2] 25) = V := ⟨_, rfl⟩
  rw [hV] at o3 hB HI2 hszV
  obtain ⟨b0, b1, b2⟩ := box3 o3
  clear hi2
  dsimp only
  go_wp2_with fail
  clear hV b0 b1 b2
  obtain ⟨B3, hB3⟩ : ∃ B3, y2.w.heap.size = B3 := ⟨_, rfl⟩
  rw [hB3] at o3 hszV ⊢
  clear hB3 hsz1 hsz2 y2 y1
  refine (HN.out _ _ _ _ HI2.out).mono ?_
  rintro _ _ ⟨_, rfl, y, rfl, ad4, cap4, rfl, hi4⟩
  have hsy := y.size_le
  have hbn : Below V.heap.size V (y.w.alloc (.cells #[.int .i64 tn.k, .int .i64 tn.a, .slice ad4 tn.l.length cap4] 25)) := by (repeat' (first | (with_reducible exact Below.refl _ _) | (with_reducible exact Nat.le_refl _) | (with_reducible refine Below.bel ?_ ?_) | (with_reducible refine Below.alloc ?_ ?_ _) | (with_reducible refine Below.drew ?_) | (with_reducible refine Below.drawsN ?_ _) | (with_reducible refine Below.setCell ?_ ?_ _) | (with_reducible refine le_bel ?_) | (with_reducible refine le_alloc ?_) | (with_reducible refine le_setCell ?_) | (with_reducible refine le_drew ?_) | (with_reducible refine le_drawsN ?_) | (dsimp only; with_reducible refine le_bel ?_) | (dsimp only; with_reducible refine Nat.le_refl _) | (dsimp only; with_reducible refine le_bel_add ?_) | (with_reducible assumption) | omega | (dsimp only; omega)))
  have oN := World.alloc_heap_new y.w (.cells #[.int .i64 tn.k, .int .i64 tn.a, .slice ad4 tn.l.length cap4] 25)
  have HI4 := Lib.hid ((hi4.imp fun _ _ _ => trivial : InsF (fun _ => True) _ _ _).of ((Below.refl _ _).alloc (Nat.le_refl _) (.cells #[.int .i64 tn.k, .int .i64 tn.a, .slice ad4 tn.l.length cap4] 25)))
  have o3' := obj_below hbn (Array.getElem?_eq_some_iff.1 o3).1 o3
  have HI2' := Lib.hid (HI2.out.of hbn)
  have hB' := hB.trans (hbn.mono hB.size)
  have hszn : (y.w.alloc (.cells #[.int .i64 tn.k, .int .i64 tn.a, .slice ad4 tn.l.length cap4] 25)).heap.size = y.w.heap.size + 1 := by simp
  obtain ⟨V1, hV⟩ : ∃ V1, y.w.alloc (.cells #[.int .i64 tn.k, .int .i64 tn.a, .slice ad4 tn.l.length cap4] 25) = V1 := ⟨_, rfl⟩
  rw [hV] at oN hB' hszn o3' HI2' HI4
  clear o3 HI2 hi4 hB hbn
  have o3 := o3'
  have HI2 := HI2'
  have hB := hB'
  clear o3' HI2' hB'
  obtain ⟨p0, q0, r0⟩ := box3 o3
  obtain ⟨p1, q1, r1⟩ := box3 oN
  dsimp only
  go_wp2_with fail
  clear hV p0 q0 r0 p1 q1 r1
  obtain ⟨B4, hBi⟩ : ∃ B4, y.w.heap.size = B4 := ⟨_, rfl⟩
  rw [hBi] at oN hszn ⊢
  have o4 := oN
  clear oN hBi hszn hsy y
  refine (HSM.out _ _ _ _ HI2.out (HT.out.of hB)).mono ?_
  rintro _ _ ⟨_, rfl, y, rfl, ad6, cap6, rfl, hi6⟩
  have hsy := y.size_le
  have hbn : Below V1.heap.size V1 (y.w.alloc (.cells #[.int .i64 ts.k, .int .i64 ts.a, .slice ad6 ts.l.length cap6] 25)) := by (repeat' (first | (with_reducible exact Below.refl _ _) | (with_reducible exact Nat.le_refl _) | (with_reducible refine Below.bel ?_ ?_) | (with_reducible refine Below.alloc ?_ ?_ _) | (with_reducible refine Below.drew ?_) | (with_reducible refine Below.drawsN ?_ _) | (with_reducible refine Below.setCell ?_ ?_ _) | (with_reducible refine le_bel ?_) | (with_reducible refine le_alloc ?_) | (with_reducible refine le_setCell ?_) | (with_reducible refine le_drew ?_) | (with_reducible refine le_drawsN ?_) | (dsimp only; with_reducible refine le_bel ?_) | (dsimp only; with_reducible refine Nat.le_refl _) | (dsimp only; with_reducible refine le_bel_add ?_) | (with_reducible assumption) | omega | (dsimp only; omega)))
  have oN := World.alloc_heap_new y.w (.cells #[.int .i64 ts.k, .int .i64 ts.a, .slice ad6 ts.l.length cap6] 25)
  have HI6 := Lib.hid ((hi6.imp fun _ _ _ => trivial : InsF (fun _ => True) _ _ _).of ((Below.refl _ _).alloc (Nat.le_refl _) (.cells #[.int .i64 ts.k, .int .i64 ts.a, .slice ad6 ts.l.length cap6] 25)))
  have o3' := obj_below hbn (Array.getElem?_eq_some_iff.1 o3).1 o3
  have o4' := obj_below hbn (Array.getElem?_eq_some_iff.1 o4).1 o4
  have HI2' := Lib.hid (HI2.out.of hbn)
  have HI4' := Lib.hid (HI4.out.of hbn)
  have hB' := hB.trans (hbn.mono hB.size)
  have hszn : (y.w.alloc (.cells #[.int .i64 ts.k, .int .i64 ts.a, .slice ad6 ts.l.length cap6] 25)).heap.size = y.w.heap.size + 1 := by simp
  obtain ⟨V2, hV⟩ : ∃ V2, y.w.alloc (.cells #[.int .i64 ts.k, .int .i64 ts.a, .slice ad6 ts.l.length cap6] 25) = V2 := ⟨_, rfl⟩
  rw [hV] at oN hB' hszn o3' o4' HI2' HI4' HI6
  clear o3 o4 HI2 HI4 hi6 hB hbn
  have o3 := o3'
  have o4 := o4'
  have HI2 := HI2'
  have HI4 := HI4'
  have hB := hB'
  clear o3' o4' HI2' HI4' hB'
  obtain ⟨p0, q0, r0⟩ := box3 o3
  obtain ⟨p1, q1, r1⟩ := box3 o4
  obtain ⟨p2, q2, r2⟩ := box3 oN
  dsimp only
  go_wp2_with fail
  clear hV p0 q0 r0 p1 q1 r1 p2 q2 r2
  obtain ⟨B6, hBi⟩ : ∃ B6, y.w.heap.size = B6 := ⟨_, rfl⟩
  rw [hBi] at oN hszn ⊢
  have o6 := oN
  clear oN hBi hszn hsy y
  refine (HE1.out _ _ _ _ _ _ _ HI2.out HI4.out).mono ?_
  rintro _ _ ⟨rfl, y, rfl⟩
  have hbn := y.below
  have o3' := obj_below hbn (Array.getElem?_eq_some_iff.1 o3).1 o3
  have o4' := obj_below hbn (Array.getElem?_eq_some_iff.1 o4).1 o4
  have o6' := obj_below hbn (Array.getElem?_eq_some_iff.1 o6).1 o6
  have HI2' := Lib.hid (HI2.out.of hbn)
  have HI4' := Lib.hid (HI4.out.of hbn)
  have HI6' := Lib.hid (HI6.out.of hbn)
  have hB' := hB.trans (hbn.mono hB.size)
  obtain ⟨V3, hV⟩ : ∃ V3, y.w = V3 := ⟨_, rfl⟩
  rw [hV] at hB' o3' o4' o6' HI2' HI4' HI6' ⊢
  clear hV hbn hB o3 o4 o6 HI2 HI4 HI6
  have o3 := o3'
  have o4 := o4'
  have o6 := o6'
  have HI2 := HI2'
  have HI4 := HI4'
  have HI6 := HI6'
  have hB := hB'
  clear hB' y o3' o4' o6' HI2' HI4' HI6'
  obtain ⟨p0, q0, r0⟩ := box3 o3
  obtain ⟨p1, q1, r1⟩ := box3 o4
  obtain ⟨p2, q2, r2⟩ := box3 o6
  dsimp only
  go_wp2_with fail
  clear p0 q0 r0 p1 q1 r1 p2 q2 r2
  refine (HE2.out _ _ _ _ _ _ _ HI2.out HI6.out).mono ?_
  rintro _ _ ⟨rfl, y, rfl⟩
  have hbn := y.below
  have o3' := obj_below hbn (Array.getElem?_eq_some_iff.1 o3).1 o3
  have o4' := obj_below hbn (Array.getElem?_eq_some_iff.1 o4).1 o4
  have o6' := obj_below hbn (Array.getElem?_eq_some_iff.1 o6).1 o6
  have HI2' := Lib.hid (HI2.out.of hbn)
  have HI4' := Lib.hid (HI4.out.of hbn)
  have HI6' := Lib.hid (HI6.out.of hbn)
  have hB' := hB.trans (hbn.mono hB.size)
  obtain ⟨V4, hV⟩ : ∃ V4, y.w = V4 := ⟨_, rfl⟩
  rw [hV] at hB' o3' o4' o6' HI2' HI4' HI6' ⊢
  clear hV hbn hB o3 o4 o6 HI2 HI4 HI6
  have o3 := o3'
  have o4 := o4'
  have o6 := o6'
  have HI2 := HI2'
  have HI4 := HI4'
  have HI6 := HI6'
  have hB := hB'
  clear hB' y o3' o4' o6' HI2' HI4' HI6'
  obtain ⟨p0, q0, r0⟩ := box3 o3
  obtain ⟨p1, q1, r1⟩ := box3 o4
  obtain ⟨p2, q2, r2⟩ := box3 o6
  dsimp only
  go_wp2_with fail
  clear p0 q0 r0 p1 q1 r1 p2 q2 r2
  refine (HNN.out _ _ _ _ HI4.out).mono ?_
  rintro _ _ ⟨_, rfl, y, rfl, ad12, cap12, rfl, hi12⟩
  have hsy := y.size_le
  have hbn : Below V4.heap.size V4 (y.w.alloc (.cells #[.int .i64 tn.k, .int .i64 tn.a, .slice ad12 tn.l.length cap12] 25)) := by (repeat' (first | (with_reducible exact Below.refl _ _) | (with_reducible exact Nat.le_refl _) | (with_reducible refine Below.bel ?_ ?_) | (with_reducible refine Below.alloc ?_ ?_ _) | (with_reducible refine Below.drew ?_) | (with_reducible refine Below.drawsN ?_ _) | (with_reducible refine Below.setCell ?_ ?_ _) | (with_reducible refine le_bel ?_) | (with_reducible refine le_alloc ?_) | (with_reducible refine le_setCell ?_) | (with_reducible refine le_drew ?_) | (with_reducible refine le_drawsN ?_) | (dsimp only; with_reducible refine le_bel ?_) | (dsimp only; with_reducible refine Nat.le_refl _) | (dsimp only; with_reducible refine le_bel_add ?_) | (with_reducible assumption) | omega | (dsimp only; omega)))
  have oN := World.alloc_heap_new y.w (.cells #[.int .i64 tn.k, .int .i64 tn.a, .slice ad12 tn.l.length cap12] 25)
  have HI12 := Lib.hid ((hi12.imp fun _ _ _ => trivial : InsF (fun _ => True) _ _ _).of ((Below.refl _ _).alloc (Nat.le_refl _) (.cells #[.int .i64 tn.k, .int .i64 tn.a, .slice ad12 tn.l.length cap12] 25)))
  have o3' := obj_below hbn (Array.getElem?_eq_some_iff.1 o3).1 o3
  have o4' := obj_below hbn (Array.getElem?_eq_some_iff.1 o4).1 o4
  have o6' := obj_below hbn (Array.getElem?_eq_some_iff.1 o6).1 o6
  have HI2' := Lib.hid (HI2.out.of hbn)
  have HI4' := Lib.hid (HI4.out.of hbn)
  have HI6' := Lib.hid (HI6.out.of hbn)
  have hB' := hB.trans (hbn.mono hB.size)
  have hszn : (y.w.alloc (.cells #[.int .i64 tn.k, .int .i64 tn.a, .slice ad12 tn.l.length cap12] 25)).heap.size = y.w.heap.size + 1 := by simp
  obtain ⟨V5, hV⟩ : ∃ V5, y.w.alloc (.cells #[.int .i64 tn.k, .int .i64 tn.a, .slice ad12 tn.l.length cap12] 25) = V5 := ⟨_, rfl⟩
  rw [hV] at oN hB' hszn o3' o4' o6' HI2' HI4' HI6' HI12
  clear o3 o4 o6 HI2 HI4 HI6 hi12 hB hbn
  have o3 := o3'
  have o4 := o4'
  have o6 := o6'
  have HI2 := HI2'
  have HI4 := HI4'
  have HI6 := HI6'
  have hB := hB'
  clear o3' o4' o6' HI2' HI4' HI6' hB'
  obtain ⟨p0, q0, r0⟩ := box3 o3
  obtain ⟨p1, q1, r1⟩ := box3 o4
  obtain ⟨p2, q2, r2⟩ := box3 o6
  obtain ⟨p3, q3, r3⟩ := box3 oN
  dsimp only
  go_wp2_with fail
  clear hV p0 q0 r0 p1 q1 r1 p2 q2 r2 p3 q3 r3
  obtain ⟨B12, hBi⟩ : ∃ B12, y.w.heap.size = B12 := ⟨_, rfl⟩
  rw [hBi] at oN hszn ⊢
  have o12 := oN
  clear oN hBi hszn hsy y
  refine (HSS.out _ _ _ _ HI6.out (HT.out.of hB)).mono ?_
  rintro _ _ ⟨_, rfl, y, rfl, ad14, cap14, rfl, hi14⟩
  have hsy := y.size_le
  have hbn : Below V5.heap.size V5 (y.w.alloc (.cells #[.int .i64 ts.k, .int .i64 ts.a, .slice ad14 ts.l.length cap14] 25)) := by (repeat' (first | (with_reducible exact Below.refl _ _) | (with_reducible exact Nat.le_refl _) | (with_reducible refine Below.bel ?_ ?_) | (with_reducible refine Below.alloc ?_ ?_ _) | (with_reducible refine Below.drew ?_) | (with_reducible refine Below.drawsN ?_ _) | (with_reducible refine Below.setCell ?_ ?_ _) | (with_reducible refine le_bel ?_) | (with_reducible refine le_alloc ?_) | (with_reducible refine le_setCell ?_) | (with_reducible refine le_drew ?_) | (with_reducible refine le_drawsN ?_) | (dsimp only; with_reducible refine le_bel ?_) | (dsimp only; with_reducible refine Nat.le_refl _) | (dsimp only; with_reducible refine le_bel_add ?_) | (with_reducible assumption) | omega | (dsimp only; omega)))
  have oN := World.alloc_heap_new y.w (.cells #[.int .i64 ts.k, .int .i64 ts.a, .slice ad14 ts.l.length cap14] 25)
  have HI14 := Lib.hid ((hi14.imp fun _ _ _ => trivial : InsF (fun _ => True) _ _ _).of ((Below.refl _ _).alloc (Nat.le_refl _) (.cells #[.int .i64 ts.k, .int .i64 ts.a, .slice ad14 ts.l.length cap14] 25)))
  have o3' := obj_below hbn (Array.getElem?_eq_some_iff.1 o3).1 o3
  have o4' := obj_below hbn (Array.getElem?_eq_some_iff.1 o4).1 o4
  have o6' := obj_below hbn (Array.getElem?_eq_some_iff.1 o6).1 o6
  have o12' := obj_below hbn (Array.getElem?_eq_some_iff.1 o12).1 o12
  have HI2' := Lib.hid (HI2.out.of hbn)
  have HI4' := Lib.hid (HI4.out.of hbn)
  have HI6' := Lib.hid (HI6.out.of hbn)
  have HI12' := Lib.hid (HI12.out.of hbn)
  have hB' := hB.trans (hbn.mono hB.size)
  have hszn : (y.w.alloc (.cells #[.int .i64 ts.k, .int .i64 ts.a, .slice ad14 ts.l.length cap14] 25)).heap.size = y.w.heap.size + 1 := by simp
  obtain ⟨V6, hV⟩ : ∃ V6, y.w.alloc (.cells #[.int .i64 ts.k, .int .i64 ts.a, .slice ad14 ts.l.length cap14] 25) = V6 := ⟨_, rfl⟩
  rw [hV] at oN hB' hszn o3' o4' o6' o12' HI2' HI4' HI6' HI12' HI14
  clear o3 o4 o6 o12 HI2 HI4 HI6 HI12 hi14 hB hbn
  have o3 := o3'
  have o4 := o4'
  have o6 := o6'
  have o12 := o12'
  have HI2 := HI2'
  have HI4 := HI4'
  have HI6 := HI6'
  have HI12 := HI12'
  have hB := hB'
  clear o3' o4' o6' o12' HI2' HI4' HI6' HI12' hB'
  obtain ⟨p0, q0, r0⟩ := box3 o3
  obtain ⟨p1, q1, r1⟩ := box3 o4
  obtain ⟨p2, q2, r2⟩ := box3 o6
  obtain ⟨p3, q3, r3⟩ := box3 o12
  obtain ⟨p4, q4, r4⟩ := box3 oN
  dsimp only
  go_wp2_with fail
  clear hV p0 q0 r0 p1 q1 r1 p2 q2 r2 p3 q3 r3 p4 q4 r4
  obtain ⟨B14, hBi⟩ : ∃ B14, y.w.heap.size = B14 := ⟨_, rfl⟩
  rw [hBi] at oN hszn ⊢
  have o14 := oN
  clear oN hBi hszn hsy y
  refine (HQ1.out _ _ _ _ _ _ _ HI12.out HI4.out).mono ?_
  rintro _ _ ⟨rfl, y, rfl⟩
  have hbn := y.below
  have o3' := obj_below hbn (Array.getElem?_eq_some_iff.1 o3).1 o3
  have o4' := obj_below hbn (Array.getElem?_eq_some_iff.1 o4).1 o4
  have o6' := obj_below hbn (Array.getElem?_eq_some_iff.1 o6).1 o6
  have o12' := obj_below hbn (Array.getElem?_eq_some_iff.1 o12).1 o12
  have o14' := obj_below hbn (Array.getElem?_eq_some_iff.1 o14).1 o14
  have HI2' := Lib.hid (HI2.out.of hbn)
  have HI4' := Lib.hid (HI4.out.of hbn)
  have HI6' := Lib.hid (HI6.out.of hbn)
  have HI12' := Lib.hid (HI12.out.of hbn)
  have HI14' := Lib.hid (HI14.out.of hbn)
  have hB' := hB.trans (hbn.mono hB.size)
  obtain ⟨V7, hV⟩ : ∃ V7, y.w = V7 := ⟨_, rfl⟩
  rw [hV] at hB' o3' o4' o6' o12' o14' HI2' HI4' HI6' HI12' HI14' ⊢
  clear hV hbn hB o3 o4 o6 o12 o14 HI2 HI4 HI6 HI12 HI14
  have o3 := o3'
  have o4 := o4'
  have o6 := o6'
  have o12 := o12'
  have o14 := o14'
  have HI2 := HI2'
  have HI4 := HI4'
  have HI6 := HI6'
  have HI12 := HI12'
  have HI14 := HI14'
  have hB := hB'
  clear hB' y o3' o4' o6' o12' o14' HI2' HI4' HI6' HI12' HI14'
  obtain ⟨p0, q0, r0⟩ := box3 o3
  obtain ⟨p1, q1, r1⟩ := box3 o4
  obtain ⟨p2, q2, r2⟩ := box3 o6
  obtain ⟨p3, q3, r3⟩ := box3 o12
  obtain ⟨p4, q4, r4⟩ := box3 o14
  dsimp only
  go_wp2_with fail
  clear p0 q0 r0 p1 q1 r1 p2 q2 r2 p3 q3 r3 p4 q4 r4
  refine (HQ2.out _ _ _ _ _ _ _ HI14.out HI6.out).mono ?_
  rintro _ _ ⟨rfl, y, rfl⟩
  have hbn := y.below
  have o3' := obj_below hbn (Array.getElem?_eq_some_iff.1 o3).1 o3
  have o4' := obj_below hbn (Array.getElem?_eq_some_iff.1 o4).1 o4
  have o6' := obj_below hbn (Array.getElem?_eq_some_iff.1 o6).1 o6
  have o12' := obj_below hbn (Array.getElem?_eq_some_iff.1 o12).1 o12
  have o14' := obj_below hbn (Array.getElem?_eq_some_iff.1 o14).1 o14
  have HI2' := Lib.hid (HI2.out.of hbn)
  have HI4' := Lib.hid (HI4.out.of hbn)
  have HI6' := Lib.hid (HI6.out.of hbn)
  have HI12' := Lib.hid (HI12.out.of hbn)
  have HI14' := Lib.hid (HI14.out.of hbn)
  have hB' := hB.trans (hbn.mono hB.size)
  obtain ⟨V8, hV⟩ : ∃ V8, y.w = V8 := ⟨_, rfl⟩
  rw [hV] at hB' o3' o4' o6' o12' o14' HI2' HI4' HI6' HI12' HI14' ⊢
  clear hV hbn hB o3 o4 o6 o12 o14 HI2 HI4 HI6 HI12 HI14
  have o3 := o3'
  have o4 := o4'
  have o6 := o6'
  have o12 := o12'
  have o14 := o14'
  have HI2 := HI2'
  have HI4 := HI4'
  have HI6 := HI6'
  have HI12 := HI12'
  have HI14 := HI14'
  have hB := hB'
  clear hB' y o3' o4' o6' o12' o14' HI2' HI4' HI6' HI12' HI14'
  obtain ⟨p0, q0, r0⟩ := box3 o3
  obtain ⟨p1, q1, r1⟩ := box3 o4
  obtain ⟨p2, q2, r2⟩ := box3 o6
  obtain ⟨p3, q3, r3⟩ := box3 o12
  obtain ⟨p4, q4, r4⟩ := box3 o14
  have hBs := hB.size
  by_cases h0 : ts.l.length = 0
  · have f2 : ((ts.l.length : Int) == 0) = true := beq_iff_eq.2 (by omega)
    clear h0
    dsimp only
    go_wp2_with fail
    refine (HLI.out _ _ _ _ HI4.out).mono ?_
    rintro _ _ ⟨rfl, y, rfl⟩
    dsimp only
    go_wp2
    go_ret
    exact Ret.mk (by rfl) (by (repeat' (first | (with_reducible exact Below.refl _ _) | (with_reducible exact Nat.le_refl _) | (with_reducible refine Below.bel ?_ ?_) | (with_reducible refine Below.alloc ?_ ?_ _) | (with_reducible refine Below.drew ?_) | (with_reducible refine Below.drawsN ?_ _) | (with_reducible refine Below.setCell ?_ ?_ _) | (with_reducible refine le_bel ?_) | (with_reducible refine le_alloc ?_) | (with_reducible refine le_setCell ?_) | (with_reducible refine le_drew ?_) | (with_reducible refine le_drawsN ?_) | (dsimp only; with_reducible refine le_bel ?_) | (dsimp only; with_reducible refine Nat.le_refl _) | (dsimp only; with_reducible refine le_bel_add ?_) | (with_reducible assumption) | omega | (dsimp only; omega))))
  · have f2 : ((ts.l.length : Int) == 0) = false := beq_eq_false_iff_ne.2 (by omega)
    have hc := hs4.resolve_left h0
    clear h0
    dsimp only
    go_wp2_with fail
    refine (HCO.out hc _ _ _ _ HI6.out).mono ?_
    rintro _ _ ⟨rfl, y, rfl⟩
    have o4' := obj_bel y o4
    obtain ⟨p1, q1, r1⟩ := box3 o4'
    dsimp only
    go_wp2_with fail
    refine (HLI.out _ _ _ _ (HI4.out.of y.below)).mono ?_
    rintro _ _ ⟨rfl, y', rfl⟩
    dsimp only
    go_wp2
    go_ret
    exact Ret.mk (by rfl) (by (repeat' (first | (with_reducible exact Below.refl _ _) | (with_reducible exact Nat.le_refl _) | (with_reducible refine Below.bel ?_ ?_) | (with_reducible refine Below.alloc ?_ ?_ _) | (with_reducible refine Below.drew ?_) | (with_reducible refine Below.drawsN ?_ _) | (with_reducible refine Below.setCell ?_ ?_ _) | (with_reducible refine le_bel ?_) | (with_reducible refine le_alloc ?_) | (with_reducible refine le_setCell ?_) | (with_reducible refine le_drew ?_) | (with_reducible refine le_drawsN ?_) | (dsimp only; with_reducible refine le_bel ?_) | (dsimp only; with_reducible refine Nat.le_refl _) | (dsimp only; with_reducible refine le_bel_add ?_) | (with_reducible assumption) | omega | (dsimp only; omega))))
end Go.Proofs.YtkbellmhanpocaaDoor
