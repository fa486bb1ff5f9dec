/- Parse. -/
import Derived.Test.YteglfhmmkoahfaaGreatDoorM19
namespace Go.Proofs.YteglfhmmkoahfaaGreatDoor
open Go.RowKit Go.Shelf
attribute [local go_sem low] Bel.cell Bel.frozen alloc_cell alloc_frozen

def byteVs (l : List UInt8) : List Value := l.map fun c => Value.int .u8 (c.toNat : Int)
theorem byteVs_len (l : List UInt8) : (byteVs l).length = l.length := List.length_map _
theorem byteVs_snoc (l : List UInt8) (c : UInt8) : byteVs l ++ [.int .u8 (c.toNat : Int)] = byteVs (l ++ [c]) := by unfold byteVs; rw [List.map_append]; rfl
theorem own_conv {W : World} {base : Nat} {v : Value} {l : List UInt8} (h : OwnV W base 5 v (byteVs l)) (hl : l ≠ []) : (convert 75 9 v).run Tryz.prog W = .ok (.string ⟨l.toArray⟩) W := by
  obtain ⟨g, cap, rfl, _, _, _, hc⟩ := ownV_cells h (by rw [byteVs_len]; exact List.length_pos_iff.2 hl)
  rw [byteVs_len]
  refine run_convert_bytes_back (P := Tryz.prog) W 75 9 5 ⟨g, 0, none⟩ cap l Tryz.underlying75 Tryz.underlying5 Tryz.underlying9 (fun j hj => ?_)
  have h1 := (hc j (.int .u8 (l[j].toNat : Int)) (by unfold byteVs; rw [List.getElem?_map, List.getElem?_eq_getElem hj]; rfl)).1
  rw [show (⟨g, 0, none⟩ : Addr).add j = ⟨g, j, none⟩ by unfold Addr.add; simp; intro h; exact h.symm]
  exact h1
/-- Whether the byte at i may stand there. -/
def okAt (t : List UInt8) (i : Nat) : Bool := isD (t.getD i 0) || (t.getD i 0 == 32 && decide (i ≠ 0) && decide (i + 1 ≠ t.length) && isD (t.getD (i - 1) 0) && isD (t.getD (i + 1) 0))
/-- The digits of a text behind its sign, where it is right. -/
def digS (t : List UInt8) : Option (List UInt8) := if (List.range t.length).all (okAt t) then some (t.filter isD) else none
theorem digS_bad {t : List UInt8} {k : Nat} (hk : k < t.length) (h : okAt t k = false) : digS t = none := by
  unfold digS
  rw [if_neg]
  intro ha
  rw [List.all_eq_true] at ha
  have := ha k (List.mem_range.2 hk)
  rw [h] at this
  cases this
theorem digS_ok {t : List UInt8} (h : ∀ i, i < t.length → okAt t i = true) : digS t = some (t.filter isD) := by
  unfold digS
  rw [if_pos]
  rw [List.all_eq_true]
  exact fun i hi => h i (List.mem_range.1 hi)
theorem okAt_next {t : List UInt8} {k : Nat} (h : ∀ i, i < k → okAt t i = true) (hk : okAt t k = true) : ∀ i, i < k + 1 → okAt t i = true := fun i hi => by
  rcases (show i < k ∨ i = k by omega) with h1 | rfl
  · exact h i h1
  · exact hk
/-- The text of digits without the zeros ahead. -/
def strip0 (l : List UInt8) : List UInt8 := Lib.trimLeftB l 48
/-- What Parse returns of the digits. -/
def parD (m : Bool) (o : Option (List UInt8)) : List UInt8 × Int := match o with
  | none => ([], 15)
  | some [] => ([], 15)
  | some (c :: r) => if strip0 (c :: r) = [] then ([48], 0) else if 400 < (strip0 (c :: r)).length then ([], 16) else if m then (45 :: strip0 (c :: r), 0) else (strip0 (c :: r), 0)
/-- What Parse returns. -/
def parI (l : List UInt8) : List UInt8 × Int := match l with
  | [] => ([], 13)
  | c :: r => if c = 45 then parD true (digS r) else if c = 43 then parD false (digS r) else parD false (digS (c :: r))
theorem Tryz.infoByte2 : (Tryz.prog.info? 5).map (fun i => (i.zero, i.size, i.bytes)) = some (some (.int .u8 0), 1, 1) := by kernel_rfl
theorem trimL_any (l : List UInt8) (w : World) : Calls Tryz.prog 57 #[.string ⟨l.toArray⟩, .string ⟨#[48]⟩] w (Ret (.string ⟨(strip0 l).toArray⟩) w) :=
  (Tryz.strings_TrimLeft_one ⟨l.toArray⟩ 48 (by decide) w).mono fun e w' ⟨he, hw⟩ => ⟨he, ⟨w, Below.refl _ _⟩, hw⟩
theorem getB {t : List UInt8} {k : Nat} (hk : k < t.length) : (ByteArray.mk t.toArray)[k]'(by show k < t.toArray.size; simpa using hk) = t.getD k 0 := by
  rw [List.getD_eq_getElem?_getD, List.getElem?_eq_getElem hk]; rfl
theorem parI_nil (w : World) : Calls Tryz.prog 31 #[.string ⟨#[]⟩] w (Ret (.tuple #[.string ⟨#[]⟩, .int .i64 13]) w) := by
  go_enter Tryz.func31, Tryz.ntmps31
  go_wp2
  refine bodyPost_ret (v := .tuple #[.string ⟨#[]⟩, .int .i64 13]) (by simp [results, Tryz.results31, go_sem]) rfl (Ret.mk (by rfl) (by (repeat' (first | (with_reducible exact Below.refl _ _) | (with_reducible exact Nat.le_refl _) | (with_reducible refine Below.bel ?_ ?_) | (with_reducible refine Below.alloc ?_ ?_ _) | (with_reducible refine Below.drew ?_) | (with_reducible refine Below.drawsN ?_ _) | (with_reducible refine Below.setCell ?_ ?_ _) | (with_reducible refine le_bel ?_) | (with_reducible refine le_alloc ?_) | (with_reducible refine le_setCell ?_) | (with_reducible refine le_drew ?_) | (with_reducible refine le_drawsN ?_) | (dsimp only; with_reducible refine le_bel ?_) | (dsimp only; with_reducible refine Nat.le_refl _) | (dsimp only; with_reducible refine le_bel_add ?_) | (with_reducible assumption) | omega | (dsimp only; omega)))))
set_option maxRecDepth 100000 in
set_option maxHeartbeats 12800000 in
theorem parI_any (c : UInt8) (r : List UInt8) (w : World) (hl : r.length ≤ 100000) : Calls Tryz.prog 31 #[.string ⟨(c :: r).toArray⟩] w
    (Ret (.tuple #[.string ⟨(parI (c :: r)).1.toArray⟩, .int .i64 (parI (c :: r)).2]) w) := by
  obtain ⟨i0, hi0, hz0, hz1, hz2⟩ := info_parts Tryz.infoByte2
  have hb0 : (ByteArray.mk (c :: r).toArray)[0]'(by show 0 < (c :: r).toArray.size; simp) = c := rfl
  have hex : (ByteArray.mk (c :: r).toArray).extract 1 (r.length + 1) = ⟨r.toArray⟩ := by
    have := extract_drop (c :: r) 1
    rw [List.length_cons] at this
    exact this
  by_cases h45 : c = 45
  · subst h45
    have HP := Lib.hid (show parI (45 :: r) = parD true (digS r) by rw [parI]; exact if_pos rfl)
    have HOK := Lib.hid (fun h => @digS_ok r h)
    have HBAD := Lib.hid (fun k hk h => @digS_bad r k hk h)
    go_enter Tryz.func31, Tryz.ntmps31
    go_wp2
    go_loopw [5, 24] (fun v i wr => ∃ k : Nat, k ≤ r.length ∧ i = .int .i64 (k : Int) ∧ (∀ j, j < k → okAt r j = true) ∧ OwnV wr w.heap.size 5 v (byteVs ((r.take k).filter isD)) ∧ Below w.heap.size w wr) (fun v i _ => r.length - (intOf i).toNat)
    case atStart => exact ⟨0, by omega, rfl, fun j hj => by omega, ownV_nil _ _ _, by (repeat' (first | (with_reducible exact Below.refl _ _) | (with_reducible exact Nat.le_refl _) | (with_reducible refine Below.bel ?_ ?_) | (with_reducible refine Below.alloc ?_ ?_ _) | (with_reducible refine Below.drew ?_) | (with_reducible refine Below.drawsN ?_ _) | (with_reducible refine Below.setCell ?_ ?_ _) | (with_reducible refine le_bel ?_) | (with_reducible refine le_alloc ?_) | (with_reducible refine le_setCell ?_) | (with_reducible refine le_drew ?_) | (with_reducible refine le_drawsN ?_) | (dsimp only; with_reducible refine le_bel ?_) | (dsimp only; with_reducible refine Nat.le_refl _) | (dsimp only; with_reducible refine le_bel_add ?_) | (with_reducible assumption) | omega | (dsimp only; omega)))⟩
    case round =>
      obtain ⟨k, hk, rfl, hall, hown, hb⟩ := hrel
      have hbs := hb.size
      by_cases hkl : k < r.length
      · have hki : (k : Int) < (r.length : Int) := by simp at hkl ⊢; omega
        have hkb : k < (ByteArray.mk (r).toArray).size := by show k < (r).toArray.size; simpa using hkl
        have hbk := getB (t := r) hkl
        obtain ⟨q, hq⟩ : ∃ q, (r).getD k 0 = q := ⟨_, rfl⟩
        have hqk : (r)[k]? = some q := by rw [List.getElem?_eq_getElem hkl, ← hq, List.getD_eq_getElem?_getD, List.getElem?_eq_getElem hkl]; rfl
        have htk : (r).take (k + 1) = (r).take k ++ [q] := by rw [List.take_add_one, hqk]; rfl
        have HA := Lib.hid hall
        have HO := Lib.hid hown
        have HQ := Lib.hid (isD_any q)
        rw [hq] at hbk
        clear hall hown hqk
        cases hD : isD q
        · have HE := Lib.hid (show okAt r k = false → parI (45 :: r) = ([], 15) from fun h => by rw [HP.out, HBAD.out k hkl h]; rfl)
          rw [hD] at HQ
          have HOKF := Lib.hid (show okAt r k = (q == 32 && decide (k ≠ 0) && decide (k + 1 ≠ (r).length) && isD ((r).getD (k - 1) 0) && isD ((r).getD (k + 1) 0)) by unfold okAt; rw [hq, hD]; rfl)
          have HTK := Lib.hid htk
          have HDQ := Lib.hid hD
          clear hD htk hq
          by_cases h32 : q = 32
          · have hqn : ((q.toNat : Int) != 32) = false := by rw [h32]; rfl
            have H32 := Lib.hid (show (q == 32) = true by rw [h32]; rfl)
            clear h32
            by_cases hk0 : k = 0
            · have HR := Lib.hid (HE.out (by rw [HOKF.out, decide_eq_false (by simp [hk0])]; simp))
              have hk0' : ((k : Int) == 0) = true := beq_iff_eq.2 (by omega)
              clear hk0
              go_wp2_with fail
              (with_reducible refine (HQ.out _).mono ?_)
              rintro _ _ ⟨rfl, y, rfl⟩
              go_wp2
              refine bodyPost_ret (v := .tuple #[.string ⟨#[]⟩, .int .i64 15]) (by simp [results, Tryz.results31, go_sem]) rfl (Ret.mk (by rw [HR.out]) (by (repeat' (first | (with_reducible exact Below.refl _ _) | (with_reducible exact Nat.le_refl _) | (with_reducible refine Below.bel ?_ ?_) | (with_reducible refine Below.alloc ?_ ?_ _) | (with_reducible refine Below.drew ?_) | (with_reducible refine Below.drawsN ?_ _) | (with_reducible refine Below.setCell ?_ ?_ _) | (with_reducible refine le_bel ?_) | (with_reducible refine le_alloc ?_) | (with_reducible refine le_setCell ?_) | (with_reducible refine le_drew ?_) | (with_reducible refine le_drawsN ?_) | (dsimp only; with_reducible refine le_bel ?_) | (dsimp only; with_reducible refine Nat.le_refl _) | (dsimp only; with_reducible refine le_bel_add ?_) | (with_reducible assumption) | omega | (dsimp only; omega)))))
            · obtain ⟨j, rfl⟩ : ∃ j, k = j + 1 := ⟨k - 1, by omega⟩
              have hk0' : ((j : Int) + 1 == 0) = false := beq_eq_false_iff_ne.2 (by omega)
              have hll : (r).length = r.length := rfl
              have tw : IntKind.i64.wrap ((r.length : Int) - 1) = (r.length : Int) - 1 := IntWalk.i64_in _ (by omega)
              clear hk0
              by_cases hlast : j + 1 + 1 = (r).length
              · have HR := Lib.hid (HE.out (by rw [HOKF.out, decide_eq_false (p := j + 1 + 1 ≠ (r).length) (by simpa using hlast)]; simp))
                have hq1 : ((j : Int) + 1 == ((r.length:Int) - 1)) = true := beq_iff_eq.2 (by omega)
                go_wp2_with fail
                (with_reducible refine (HQ.out _).mono ?_)
                rintro _ _ ⟨rfl, y, rfl⟩
                go_wp2
                refine bodyPost_ret (v := .tuple #[.string ⟨#[]⟩, .int .i64 15]) (by simp [results, Tryz.results31, go_sem]) rfl (Ret.mk (by rw [HR.out]) (by (repeat' (first | (with_reducible exact Below.refl _ _) | (with_reducible exact Nat.le_refl _) | (with_reducible refine Below.bel ?_ ?_) | (with_reducible refine Below.alloc ?_ ?_ _) | (with_reducible refine Below.drew ?_) | (with_reducible refine Below.drawsN ?_ _) | (with_reducible refine Below.setCell ?_ ?_ _) | (with_reducible refine le_bel ?_) | (with_reducible refine le_alloc ?_) | (with_reducible refine le_setCell ?_) | (with_reducible refine le_drew ?_) | (with_reducible refine le_drawsN ?_) | (dsimp only; with_reducible refine le_bel ?_) | (dsimp only; with_reducible refine Nat.le_refl _) | (dsimp only; with_reducible refine le_bel_add ?_) | (with_reducible assumption) | omega | (dsimp only; omega)))))
              · have hq1 : ((j : Int) + 1 == ((r.length:Int) - 1)) = false := beq_eq_false_iff_ne.2 (by omega)
                have hj1 : j < (r).length := by omega
                have hj2 : j + 1 + 1 < (r).length := by omega
                have hb1 := getB (t := r) hj1
                have hb2 := getB (t := r) hj2
                have HK := Lib.hid (show okAt r (j + 1) = (isD ((r).getD j 0) && isD ((r).getD (j + 1 + 1) 0)) by rw [HOKF.out, H32.out, decide_eq_true (by omega), decide_eq_true (p := j + 1 + 1 ≠ (r).length) hlast]; simp)
                obtain ⟨x1, hx1⟩ : ∃ x, (r).getD j 0 = x := ⟨_, rfl⟩
                obtain ⟨x2, hx2⟩ : ∃ x, (r).getD (j + 1 + 1) 0 = x := ⟨_, rfl⟩
                rw [hx1] at hb1 HK
                rw [hx2] at hb2 HK
                have HQ1 := Lib.hid (isD_any x1)
                have HQ2 := Lib.hid (isD_any x2)
                clear hx1 hx2
                cases h1 : isD x1
                · have HR := Lib.hid (HE.out (by rw [HK.out, h1]; rfl))
                  rw [h1] at HQ1
                  clear h1
                  go_wp2_with fail
                  (with_reducible refine (HQ.out _).mono ?_)
                  rintro _ _ ⟨rfl, y, rfl⟩
                  go_wp2_with fail
                  (with_reducible refine (HQ1.out _).mono ?_)
                  rintro _ _ ⟨rfl, y2, rfl⟩
                  go_wp2
                  refine bodyPost_ret (v := .tuple #[.string ⟨#[]⟩, .int .i64 15]) (by simp [results, Tryz.results31, go_sem]) rfl (Ret.mk (by rw [HR.out]) (by (repeat' (first | (with_reducible exact Below.refl _ _) | (with_reducible exact Nat.le_refl _) | (with_reducible refine Below.bel ?_ ?_) | (with_reducible refine Below.alloc ?_ ?_ _) | (with_reducible refine Below.drew ?_) | (with_reducible refine Below.drawsN ?_ _) | (with_reducible refine Below.setCell ?_ ?_ _) | (with_reducible refine le_bel ?_) | (with_reducible refine le_alloc ?_) | (with_reducible refine le_setCell ?_) | (with_reducible refine le_drew ?_) | (with_reducible refine le_drawsN ?_) | (dsimp only; with_reducible refine le_bel ?_) | (dsimp only; with_reducible refine Nat.le_refl _) | (dsimp only; with_reducible refine le_bel_add ?_) | (with_reducible assumption) | omega | (dsimp only; omega)))))
                · cases h2 : isD x2
                  · have HR := Lib.hid (HE.out (by rw [HK.out, h1, h2]; rfl))
                    rw [h1] at HQ1
                    rw [h2] at HQ2
                    clear h1 h2
                    go_wp2_with fail
                    (with_reducible refine (HQ.out _).mono ?_)
                    rintro _ _ ⟨rfl, y, rfl⟩
                    go_wp2_with fail
                    (with_reducible refine (HQ1.out _).mono ?_)
                    rintro _ _ ⟨rfl, y2, rfl⟩
                    go_wp2_with fail
                    (with_reducible refine (HQ2.out _).mono ?_)
                    rintro _ _ ⟨rfl, y3, rfl⟩
                    go_wp2
                    refine bodyPost_ret (v := .tuple #[.string ⟨#[]⟩, .int .i64 15]) (by simp [results, Tryz.results31, go_sem]) rfl (Ret.mk (by rw [HR.out]) (by (repeat' (first | (with_reducible exact Below.refl _ _) | (with_reducible exact Nat.le_refl _) | (with_reducible refine Below.bel ?_ ?_) | (with_reducible refine Below.alloc ?_ ?_ _) | (with_reducible refine Below.drew ?_) | (with_reducible refine Below.drawsN ?_ _) | (with_reducible refine Below.setCell ?_ ?_ _) | (with_reducible refine le_bel ?_) | (with_reducible refine le_alloc ?_) | (with_reducible refine le_setCell ?_) | (with_reducible refine le_drew ?_) | (with_reducible refine le_drawsN ?_) | (dsimp only; with_reducible refine le_bel ?_) | (dsimp only; with_reducible refine Nat.le_refl _) | (dsimp only; with_reducible refine le_bel_add ?_) | (with_reducible assumption) | omega | (dsimp only; omega)))))
                  · have HNX := Lib.hid (okAt_next HA.out (show okAt r (j + 1) = true by rw [HK.out, h1, h2]; rfl))
                    have HF := Lib.hid (show ((r).take (j + 1 + 1)).filter isD = ((r).take (j + 1)).filter isD by rw [HTK.out, List.filter_append]; simp [HDQ.out])
                    rw [h1] at HQ1
                    rw [h2] at HQ2
                    clear h1 h2
                    go_wp2_with fail
                    (with_reducible refine (HQ.out _).mono ?_)
                    rintro _ _ ⟨rfl, y, rfl⟩
                    have hys := y.size_le
                    go_wp2_with fail
                    (with_reducible refine (HQ1.out _).mono ?_)
                    rintro _ _ ⟨rfl, y2, rfl⟩
                    have hys2 := y2.size_le
                    go_wp2_with fail
                    (with_reducible refine (HQ2.out _).mono ?_)
                    rintro _ _ ⟨rfl, y3, rfl⟩
                    have HO3 := Lib.hid (ownV_bel (ownV_bel (ownV_bel HO.out y) y2) y3)
                    go_wp2
                    go_roundw
                    case rel => exact ⟨j + 1 + 1, by omega, by go_num, HNX.out, by rw [HF.out]; exact HO3.out, by (repeat' (first | (with_reducible exact Below.refl _ _) | (with_reducible exact Nat.le_refl _) | (with_reducible refine Below.bel ?_ ?_) | (with_reducible refine Below.alloc ?_ ?_ _) | (with_reducible refine Below.drew ?_) | (with_reducible refine Below.drawsN ?_ _) | (with_reducible refine Below.setCell ?_ ?_ _) | (with_reducible refine le_bel ?_) | (with_reducible refine le_alloc ?_) | (with_reducible refine le_setCell ?_) | (with_reducible refine le_drew ?_) | (with_reducible refine le_drawsN ?_) | (dsimp only; with_reducible refine le_bel ?_) | (dsimp only; with_reducible refine Nat.le_refl _) | (dsimp only; with_reducible refine le_bel_add ?_) | (with_reducible assumption) | omega | (dsimp only; omega)))⟩
                    case measure => simp [intOf]; omega
          · have HR := Lib.hid (HE.out (by rw [HOKF.out, beq_eq_false_iff_ne.2 h32]; rfl))
            have h32' : ((q.toNat : Int) != 32) = true := by
              refine bne_iff_ne.2 (fun h => h32 (UInt8.toNat_inj.1 (by show q.toNat = 32; omega)))
            clear h32
            go_wp2_with fail
            (with_reducible refine (HQ.out _).mono ?_)
            rintro _ _ ⟨rfl, y, rfl⟩
            go_wp2
            refine bodyPost_ret (v := .tuple #[.string ⟨#[]⟩, .int .i64 15]) (by simp [results, Tryz.results31, go_sem]) rfl (Ret.mk (by rw [HR.out]) (by (repeat' (first | (with_reducible exact Below.refl _ _) | (with_reducible exact Nat.le_refl _) | (with_reducible refine Below.bel ?_ ?_) | (with_reducible refine Below.alloc ?_ ?_ _) | (with_reducible refine Below.drew ?_) | (with_reducible refine Below.drawsN ?_ _) | (with_reducible refine Below.setCell ?_ ?_ _) | (with_reducible refine le_bel ?_) | (with_reducible refine le_alloc ?_) | (with_reducible refine le_setCell ?_) | (with_reducible refine le_drew ?_) | (with_reducible refine le_drawsN ?_) | (dsimp only; with_reducible refine le_bel ?_) | (dsimp only; with_reducible refine Nat.le_refl _) | (dsimp only; with_reducible refine le_bel_add ?_) | (with_reducible assumption) | omega | (dsimp only; omega)))))
        · have HNX := Lib.hid (okAt_next HA.out (show okAt r k = true by unfold okAt; rw [hq, hD]; rfl))
          have HF := Lib.hid (show ((r).take (k + 1)).filter isD = ((r).take k).filter isD ++ [q] by rw [htk, List.filter_append]; simp [hD])
          have hvl := byteVs_len (((r).take k).filter isD)
          have hfl : (((r).take k).filter isD).length ≤ k := Nat.le_trans (List.length_filter_le _ _) (by rw [List.length_take]; omega)
          rw [hD] at HQ
          clear hD htk hq
          generalize ((r).take k).filter isD = acc at *
          go_wp2_with fail
          (with_reducible refine (HQ.out _).mono ?_)
          rintro _ _ ⟨rfl, y, rfl⟩
          have hys := y.size_le
          have HOy := Lib.hid (ownV_bel HO.out y)
          go_wp2_with (at_builtin; refine wpList_append_own _ rfl _ _ 75 rfl (w.heap.size) 5 i0 (.int .u8 0) 1 1 Tryz.underlying75 hi0 hz0 hz1 hz2 rfl (by decide) _ _ _ rfl (World.ownsRow.alloc (HOy.out) _) ⟨y.w.heap.size, 0, none⟩ 1 1 [.int .u8 (q.toNat : Int)] rfl rfl (cell_one_new _ _ _) (by simp [Value.oneCell']) (by unfold maxLen; omega) (by omega) (by simp; omega) ?_; intro v1 w1 hown1 hgrow1 _; obtain ⟨g1, cap1, rfl⟩ := ownsRow_succ hown1; obtain ⟨ho1, hb1⟩ := ownV_app (HOy.out) ((Below.refl _ _).alloc (by omega) _) (by simp) (by omega) rfl hown1 hgrow1)
          go_roundw
          case rel => exact ⟨k + 1, by omega, by go_num, HNX.out, by rw [HF.out, ← byteVs_snoc]; have := ho1; rw [hvl] at this; exact this, by have := hb1; exact (hb.trans (y.below.mono hbs)).trans hb1⟩
          case measure => simp [intOf]; omega
      · obtain rfl : k = (r).length := by omega
        rw [List.take_length] at hown
        have hR0 : parI (45 :: r) = parD true (some ((r).filter isD)) := by rw [HP.out, HOK.out hall]
        clear hall
        generalize (r).filter isD = acc at *
        obtain ⟨pa, cap, rfl, hpc⟩ := showsV_at (ownV_shows hown)
        cases acc with
        | nil =>
          have HR := Lib.hid (show parI (45 :: r) = ([], 15) from hR0)
          clear hR0 hpc
          rw [show (byteVs []).length = 0 from rfl] at hown ⊢
          clear hown
          go_wp2
          refine bodyPost_ret (v := .tuple #[.string ⟨#[]⟩, .int .i64 15]) (by simp [results, Tryz.results31, go_sem]) rfl (Ret.mk (by rw [HR.out]) (by (repeat' (first | (with_reducible exact Below.refl _ _) | (with_reducible exact Nat.le_refl _) | (with_reducible refine Below.bel ?_ ?_) | (with_reducible refine Below.alloc ?_ ?_ _) | (with_reducible refine Below.drew ?_) | (with_reducible refine Below.drawsN ?_ _) | (with_reducible refine Below.setCell ?_ ?_ _) | (with_reducible refine le_bel ?_) | (with_reducible refine le_alloc ?_) | (with_reducible refine le_setCell ?_) | (with_reducible refine le_drew ?_) | (with_reducible refine le_drawsN ?_) | (dsimp only; with_reducible refine le_bel ?_) | (dsimp only; with_reducible refine Nat.le_refl _) | (dsimp only; with_reducible refine le_bel_add ?_) | (with_reducible assumption) | omega | (dsimp only; omega)))))
        | cons a ac =>
          have hcv := own_conv hown (by simp)
          rw [byteVs_len] at hcv ⊢
          have hR1 : parI (45 :: r) = if strip0 (a :: ac) = [] then ([48], 0) else if 400 < (strip0 (a :: ac)).length then ([], 16) else if true = true then (45 :: strip0 (a :: ac), 0) else (strip0 (a :: ac), 0) := hR0
          have HTL := Lib.hid (trimL_any (a :: ac))
          have hlz : (((a :: ac).length : Int) == 0) = false := beq_eq_false_iff_ne.2 (by simp; omega)
          clear hown hpc hR0
          generalize strip0 (a :: ac) = s at *
          generalize hac : a :: ac = al at *
          clear hac
          by_cases hs : s = []
          · rw [if_pos hs] at hR1
            have HR := Lib.hid hR1
            have hse : s.isEmpty = true := by rw [hs]; rfl
            clear hR1 hs
            go_wp2_with fail
            (with_reducible refine (HTL.out _).mono ?_)
            rintro _ _ ⟨rfl, y, rfl⟩
            go_wp2
            refine bodyPost_ret (v := .tuple #[.string ⟨#[48]⟩, .int .i64 0]) (by simp [results, Tryz.results31, go_sem]) rfl (Ret.mk (by rw [HR.out]) (by (repeat' (first | (with_reducible exact Below.refl _ _) | (with_reducible exact Nat.le_refl _) | (with_reducible refine Below.bel ?_ ?_) | (with_reducible refine Below.alloc ?_ ?_ _) | (with_reducible refine Below.drew ?_) | (with_reducible refine Below.drawsN ?_ _) | (with_reducible refine Below.setCell ?_ ?_ _) | (with_reducible refine le_bel ?_) | (with_reducible refine le_alloc ?_) | (with_reducible refine le_setCell ?_) | (with_reducible refine le_drew ?_) | (with_reducible refine le_drawsN ?_) | (dsimp only; with_reducible refine le_bel ?_) | (dsimp only; with_reducible refine Nat.le_refl _) | (dsimp only; with_reducible refine le_bel_add ?_) | (with_reducible assumption) | omega | (dsimp only; omega)))))
          · rw [if_neg hs] at hR1
            have hse : s.isEmpty = false := by cases s with
              | nil => exact absurd rfl hs
              | cons _ _ => rfl
            by_cases h4 : 400 < s.length
            · rw [if_pos h4] at hR1
              have HR := Lib.hid hR1
              have h4' : decide ((400 : Int) < (s.length : Int)) = true := decide_eq_true (by omega)
              clear hR1 hs
              go_wp2_with fail
              (with_reducible refine (HTL.out _).mono ?_)
              rintro _ _ ⟨rfl, y, rfl⟩
              go_wp2
              refine bodyPost_ret (v := .tuple #[.string ⟨#[]⟩, .int .i64 16]) (by simp [results, Tryz.results31, go_sem]) rfl (Ret.mk (by rw [HR.out]) (by (repeat' (first | (with_reducible exact Below.refl _ _) | (with_reducible exact Nat.le_refl _) | (with_reducible refine Below.bel ?_ ?_) | (with_reducible refine Below.alloc ?_ ?_ _) | (with_reducible refine Below.drew ?_) | (with_reducible refine Below.drawsN ?_ _) | (with_reducible refine Below.setCell ?_ ?_ _) | (with_reducible refine le_bel ?_) | (with_reducible refine le_alloc ?_) | (with_reducible refine le_setCell ?_) | (with_reducible refine le_drew ?_) | (with_reducible refine le_drawsN ?_) | (dsimp only; with_reducible refine le_bel ?_) | (dsimp only; with_reducible refine Nat.le_refl _) | (dsimp only; with_reducible refine le_bel_add ?_) | (with_reducible assumption) | omega | (dsimp only; omega)))))
            · rw [if_neg h4] at hR1
              have h4' : decide ((400 : Int) < (s.length : Int)) = false := decide_eq_false (by omega)
              have l1 : (9223372036854775807 < 1 + s.length) = False := eq_false (by omega)
              have b1 : (ByteArray.mk #[45]) ++ ⟨s.toArray⟩ = ⟨([45] ++ s).toArray⟩ := bytes_app [45] s
              have HR := Lib.hid (show parI (45 :: r) = ((45 :: s), 0) from hR1)
              clear hR1 hs
              go_wp2_with fail
              (with_reducible refine (HTL.out _).mono ?_)
              rintro _ _ ⟨rfl, y, rfl⟩
              go_wp2
              refine bodyPost_ret (v := .tuple #[.string ⟨((45 :: s)).toArray⟩, .int .i64 0]) (by simp [results, Tryz.results31, go_sem]) rfl (Ret.mk (by rw [HR.out]) (by (repeat' (first | (with_reducible exact Below.refl _ _) | (with_reducible exact Nat.le_refl _) | (with_reducible refine Below.bel ?_ ?_) | (with_reducible refine Below.alloc ?_ ?_ _) | (with_reducible refine Below.drew ?_) | (with_reducible refine Below.drawsN ?_ _) | (with_reducible refine Below.setCell ?_ ?_ _) | (with_reducible refine le_bel ?_) | (with_reducible refine le_alloc ?_) | (with_reducible refine le_setCell ?_) | (with_reducible refine le_drew ?_) | (with_reducible refine le_drawsN ?_) | (dsimp only; with_reducible refine le_bel ?_) | (dsimp only; with_reducible refine Nat.le_refl _) | (dsimp only; with_reducible refine le_bel_add ?_) | (with_reducible assumption) | omega | (dsimp only; omega)))))
  · have h45' : ((c.toNat : Int) == 45) = false := beq_eq_false_iff_ne.2 (fun h => h45 (UInt8.toNat_inj.1 (by show c.toNat = 45; omega)))
    by_cases h43 : c = 43
    · subst h43
      have HP := Lib.hid (show parI (43 :: r) = parD false (digS r) by rw [parI]; exact (if_neg (by decide)).trans (if_pos rfl))
      have HOK := Lib.hid (fun h => @digS_ok r h)
      have HBAD := Lib.hid (fun k hk h => @digS_bad r k hk h)
      go_enter Tryz.func31, Tryz.ntmps31
      go_wp2
      go_loopw [5, 24] (fun v i wr => ∃ k : Nat, k ≤ r.length ∧ i = .int .i64 (k : Int) ∧ (∀ j, j < k → okAt r j = true) ∧ OwnV wr w.heap.size 5 v (byteVs ((r.take k).filter isD)) ∧ Below w.heap.size w wr) (fun v i _ => r.length - (intOf i).toNat)
      case atStart => exact ⟨0, by omega, rfl, fun j hj => by omega, ownV_nil _ _ _, by (repeat' (first | (with_reducible exact Below.refl _ _) | (with_reducible exact Nat.le_refl _) | (with_reducible refine Below.bel ?_ ?_) | (with_reducible refine Below.alloc ?_ ?_ _) | (with_reducible refine Below.drew ?_) | (with_reducible refine Below.drawsN ?_ _) | (with_reducible refine Below.setCell ?_ ?_ _) | (with_reducible refine le_bel ?_) | (with_reducible refine le_alloc ?_) | (with_reducible refine le_setCell ?_) | (with_reducible refine le_drew ?_) | (with_reducible refine le_drawsN ?_) | (dsimp only; with_reducible refine le_bel ?_) | (dsimp only; with_reducible refine Nat.le_refl _) | (dsimp only; with_reducible refine le_bel_add ?_) | (with_reducible assumption) | omega | (dsimp only; omega)))⟩
      case round =>
        obtain ⟨k, hk, rfl, hall, hown, hb⟩ := hrel
        have hbs := hb.size
        by_cases hkl : k < r.length
        · have hki : (k : Int) < (r.length : Int) := by simp at hkl ⊢; omega
          have hkb : k < (ByteArray.mk (r).toArray).size := by show k < (r).toArray.size; simpa using hkl
          have hbk := getB (t := r) hkl
          obtain ⟨q, hq⟩ : ∃ q, (r).getD k 0 = q := ⟨_, rfl⟩
          have hqk : (r)[k]? = some q := by rw [List.getElem?_eq_getElem hkl, ← hq, List.getD_eq_getElem?_getD, List.getElem?_eq_getElem hkl]; rfl
          have htk : (r).take (k + 1) = (r).take k ++ [q] := by rw [List.take_add_one, hqk]; rfl
          have HA := Lib.hid hall
          have HO := Lib.hid hown
          have HQ := Lib.hid (isD_any q)
          rw [hq] at hbk
          clear hall hown hqk
          cases hD : isD q
          · have HE := Lib.hid (show okAt r k = false → parI (43 :: r) = ([], 15) from fun h => by rw [HP.out, HBAD.out k hkl h]; rfl)
            rw [hD] at HQ
            have HOKF := Lib.hid (show okAt r k = (q == 32 && decide (k ≠ 0) && decide (k + 1 ≠ (r).length) && isD ((r).getD (k - 1) 0) && isD ((r).getD (k + 1) 0)) by unfold okAt; rw [hq, hD]; rfl)
            have HTK := Lib.hid htk
            have HDQ := Lib.hid hD
            clear hD htk hq
            by_cases h32 : q = 32
            · have hqn : ((q.toNat : Int) != 32) = false := by rw [h32]; rfl
              have H32 := Lib.hid (show (q == 32) = true by rw [h32]; rfl)
              clear h32
              by_cases hk0 : k = 0
              · have HR := Lib.hid (HE.out (by rw [HOKF.out, decide_eq_false (by simp [hk0])]; simp))
                have hk0' : ((k : Int) == 0) = true := beq_iff_eq.2 (by omega)
                clear hk0
                go_wp2_with fail
                (with_reducible refine (HQ.out _).mono ?_)
                rintro _ _ ⟨rfl, y, rfl⟩
                go_wp2
                refine bodyPost_ret (v := .tuple #[.string ⟨#[]⟩, .int .i64 15]) (by simp [results, Tryz.results31, go_sem]) rfl (Ret.mk (by rw [HR.out]) (by (repeat' (first | (with_reducible exact Below.refl _ _) | (with_reducible exact Nat.le_refl _) | (with_reducible refine Below.bel ?_ ?_) | (with_reducible refine Below.alloc ?_ ?_ _) | (with_reducible refine Below.drew ?_) | (with_reducible refine Below.drawsN ?_ _) | (with_reducible refine Below.setCell ?_ ?_ _) | (with_reducible refine le_bel ?_) | (with_reducible refine le_alloc ?_) | (with_reducible refine le_setCell ?_) | (with_reducible refine le_drew ?_) | (with_reducible refine le_drawsN ?_) | (dsimp only; with_reducible refine le_bel ?_) | (dsimp only; with_reducible refine Nat.le_refl _) | (dsimp only; with_reducible refine le_bel_add ?_) | (with_reducible assumption) | omega | (dsimp only; omega)))))
              · obtain ⟨j, rfl⟩ : ∃ j, k = j + 1 := ⟨k - 1, by omega⟩
                have hk0' : ((j : Int) + 1 == 0) = false := beq_eq_false_iff_ne.2 (by omega)
                have hll : (r).length = r.length := rfl
                have tw : IntKind.i64.wrap ((r.length : Int) - 1) = (r.length : Int) - 1 := IntWalk.i64_in _ (by omega)
                clear hk0
                by_cases hlast : j + 1 + 1 = (r).length
                · have HR := Lib.hid (HE.out (by rw [HOKF.out, decide_eq_false (p := j + 1 + 1 ≠ (r).length) (by simpa using hlast)]; simp))
                  have hq1 : ((j : Int) + 1 == ((r.length:Int) - 1)) = true := beq_iff_eq.2 (by omega)
                  go_wp2_with fail
                  (with_reducible refine (HQ.out _).mono ?_)
                  rintro _ _ ⟨rfl, y, rfl⟩
                  go_wp2
                  refine bodyPost_ret (v := .tuple #[.string ⟨#[]⟩, .int .i64 15]) (by simp [results, Tryz.results31, go_sem]) rfl (Ret.mk (by rw [HR.out]) (by (repeat' (first | (with_reducible exact Below.refl _ _) | (with_reducible exact Nat.le_refl _) | (with_reducible refine Below.bel ?_ ?_) | (with_reducible refine Below.alloc ?_ ?_ _) | (with_reducible refine Below.drew ?_) | (with_reducible refine Below.drawsN ?_ _) | (with_reducible refine Below.setCell ?_ ?_ _) | (with_reducible refine le_bel ?_) | (with_reducible refine le_alloc ?_) | (with_reducible refine le_setCell ?_) | (with_reducible refine le_drew ?_) | (with_reducible refine le_drawsN ?_) | (dsimp only; with_reducible refine le_bel ?_) | (dsimp only; with_reducible refine Nat.le_refl _) | (dsimp only; with_reducible refine le_bel_add ?_) | (with_reducible assumption) | omega | (dsimp only; omega)))))
                · have hq1 : ((j : Int) + 1 == ((r.length:Int) - 1)) = false := beq_eq_false_iff_ne.2 (by omega)
                  have hj1 : j < (r).length := by omega
                  have hj2 : j + 1 + 1 < (r).length := by omega
                  have hb1 := getB (t := r) hj1
                  have hb2 := getB (t := r) hj2
                  have HK := Lib.hid (show okAt r (j + 1) = (isD ((r).getD j 0) && isD ((r).getD (j + 1 + 1) 0)) by rw [HOKF.out, H32.out, decide_eq_true (by omega), decide_eq_true (p := j + 1 + 1 ≠ (r).length) hlast]; simp)
                  obtain ⟨x1, hx1⟩ : ∃ x, (r).getD j 0 = x := ⟨_, rfl⟩
                  obtain ⟨x2, hx2⟩ : ∃ x, (r).getD (j + 1 + 1) 0 = x := ⟨_, rfl⟩
                  rw [hx1] at hb1 HK
                  rw [hx2] at hb2 HK
                  have HQ1 := Lib.hid (isD_any x1)
                  have HQ2 := Lib.hid (isD_any x2)
                  clear hx1 hx2
                  cases h1 : isD x1
                  · have HR := Lib.hid (HE.out (by rw [HK.out, h1]; rfl))
                    rw [h1] at HQ1
                    clear h1
                    go_wp2_with fail
                    (with_reducible refine (HQ.out _).mono ?_)
                    rintro _ _ ⟨rfl, y, rfl⟩
                    go_wp2_with fail
                    (with_reducible refine (HQ1.out _).mono ?_)
                    rintro _ _ ⟨rfl, y2, rfl⟩
                    go_wp2
                    refine bodyPost_ret (v := .tuple #[.string ⟨#[]⟩, .int .i64 15]) (by simp [results, Tryz.results31, go_sem]) rfl (Ret.mk (by rw [HR.out]) (by (repeat' (first | (with_reducible exact Below.refl _ _) | (with_reducible exact Nat.le_refl _) | (with_reducible refine Below.bel ?_ ?_) | (with_reducible refine Below.alloc ?_ ?_ _) | (with_reducible refine Below.drew ?_) | (with_reducible refine Below.drawsN ?_ _) | (with_reducible refine Below.setCell ?_ ?_ _) | (with_reducible refine le_bel ?_) | (with_reducible refine le_alloc ?_) | (with_reducible refine le_setCell ?_) | (with_reducible refine le_drew ?_) | (with_reducible refine le_drawsN ?_) | (dsimp only; with_reducible refine le_bel ?_) | (dsimp only; with_reducible refine Nat.le_refl _) | (dsimp only; with_reducible refine le_bel_add ?_) | (with_reducible assumption) | omega | (dsimp only; omega)))))
                  · cases h2 : isD x2
                    · have HR := Lib.hid (HE.out (by rw [HK.out, h1, h2]; rfl))
                      rw [h1] at HQ1
                      rw [h2] at HQ2
                      clear h1 h2
                      go_wp2_with fail
                      (with_reducible refine (HQ.out _).mono ?_)
                      rintro _ _ ⟨rfl, y, rfl⟩
                      go_wp2_with fail
                      (with_reducible refine (HQ1.out _).mono ?_)
                      rintro _ _ ⟨rfl, y2, rfl⟩
                      go_wp2_with fail
                      (with_reducible refine (HQ2.out _).mono ?_)
                      rintro _ _ ⟨rfl, y3, rfl⟩
                      go_wp2
                      refine bodyPost_ret (v := .tuple #[.string ⟨#[]⟩, .int .i64 15]) (by simp [results, Tryz.results31, go_sem]) rfl (Ret.mk (by rw [HR.out]) (by (repeat' (first | (with_reducible exact Below.refl _ _) | (with_reducible exact Nat.le_refl _) | (with_reducible refine Below.bel ?_ ?_) | (with_reducible refine Below.alloc ?_ ?_ _) | (with_reducible refine Below.drew ?_) | (with_reducible refine Below.drawsN ?_ _) | (with_reducible refine Below.setCell ?_ ?_ _) | (with_reducible refine le_bel ?_) | (with_reducible refine le_alloc ?_) | (with_reducible refine le_setCell ?_) | (with_reducible refine le_drew ?_) | (with_reducible refine le_drawsN ?_) | (dsimp only; with_reducible refine le_bel ?_) | (dsimp only; with_reducible refine Nat.le_refl _) | (dsimp only; with_reducible refine le_bel_add ?_) | (with_reducible assumption) | omega | (dsimp only; omega)))))
                    · have HNX := Lib.hid (okAt_next HA.out (show okAt r (j + 1) = true by rw [HK.out, h1, h2]; rfl))
                      have HF := Lib.hid (show ((r).take (j + 1 + 1)).filter isD = ((r).take (j + 1)).filter isD by rw [HTK.out, List.filter_append]; simp [HDQ.out])
                      rw [h1] at HQ1
                      rw [h2] at HQ2
                      clear h1 h2
                      go_wp2_with fail
                      (with_reducible refine (HQ.out _).mono ?_)
                      rintro _ _ ⟨rfl, y, rfl⟩
                      have hys := y.size_le
                      go_wp2_with fail
                      (with_reducible refine (HQ1.out _).mono ?_)
                      rintro _ _ ⟨rfl, y2, rfl⟩
                      have hys2 := y2.size_le
                      go_wp2_with fail
                      (with_reducible refine (HQ2.out _).mono ?_)
                      rintro _ _ ⟨rfl, y3, rfl⟩
                      have HO3 := Lib.hid (ownV_bel (ownV_bel (ownV_bel HO.out y) y2) y3)
                      go_wp2
                      go_roundw
                      case rel => exact ⟨j + 1 + 1, by omega, by go_num, HNX.out, by rw [HF.out]; exact HO3.out, by (repeat' (first | (with_reducible exact Below.refl _ _) | (with_reducible exact Nat.le_refl _) | (with_reducible refine Below.bel ?_ ?_) | (with_reducible refine Below.alloc ?_ ?_ _) | (with_reducible refine Below.drew ?_) | (with_reducible refine Below.drawsN ?_ _) | (with_reducible refine Below.setCell ?_ ?_ _) | (with_reducible refine le_bel ?_) | (with_reducible refine le_alloc ?_) | (with_reducible refine le_setCell ?_) | (with_reducible refine le_drew ?_) | (with_reducible refine le_drawsN ?_) | (dsimp only; with_reducible refine le_bel ?_) | (dsimp only; with_reducible refine Nat.le_refl _) | (dsimp only; with_reducible refine le_bel_add ?_) | (with_reducible assumption) | omega | (dsimp only; omega)))⟩
                      case measure => simp [intOf]; omega
            · have HR := Lib.hid (HE.out (by rw [HOKF.out, beq_eq_false_iff_ne.2 h32]; rfl))
              have h32' : ((q.toNat : Int) != 32) = true := by
                refine bne_iff_ne.2 (fun h => h32 (UInt8.toNat_inj.1 (by show q.toNat = 32; omega)))
              clear h32
              go_wp2_with fail
              (with_reducible refine (HQ.out _).mono ?_)
              rintro _ _ ⟨rfl, y, rfl⟩
              go_wp2
              refine bodyPost_ret (v := .tuple #[.string ⟨#[]⟩, .int .i64 15]) (by simp [results, Tryz.results31, go_sem]) rfl (Ret.mk (by rw [HR.out]) (by (repeat' (first | (with_reducible exact Below.refl _ _) | (with_reducible exact Nat.le_refl _) | (with_reducible refine Below.bel ?_ ?_) | (with_reducible refine Below.alloc ?_ ?_ _) | (with_reducible refine Below.drew ?_) | (with_reducible refine Below.drawsN ?_ _) | (with_reducible refine Below.setCell ?_ ?_ _) | (with_reducible refine le_bel ?_) | (with_reducible refine le_alloc ?_) | (with_reducible refine le_setCell ?_) | (with_reducible refine le_drew ?_) | (with_reducible refine le_drawsN ?_) | (dsimp only; with_reducible refine le_bel ?_) | (dsimp only; with_reducible refine Nat.le_refl _) | (dsimp only; with_reducible refine le_bel_add ?_) | (with_reducible assumption) | omega | (dsimp only; omega)))))
          · have HNX := Lib.hid (okAt_next HA.out (show okAt r k = true by unfold okAt; rw [hq, hD]; rfl))
            have HF := Lib.hid (show ((r).take (k + 1)).filter isD = ((r).take k).filter isD ++ [q] by rw [htk, List.filter_append]; simp [hD])
            have hvl := byteVs_len (((r).take k).filter isD)
            have hfl : (((r).take k).filter isD).length ≤ k := Nat.le_trans (List.length_filter_le _ _) (by rw [List.length_take]; omega)
            rw [hD] at HQ
            clear hD htk hq
            generalize ((r).take k).filter isD = acc at *
            go_wp2_with fail
            (with_reducible refine (HQ.out _).mono ?_)
            rintro _ _ ⟨rfl, y, rfl⟩
            have hys := y.size_le
            have HOy := Lib.hid (ownV_bel HO.out y)
            go_wp2_with (at_builtin; refine wpList_append_own _ rfl _ _ 75 rfl (w.heap.size) 5 i0 (.int .u8 0) 1 1 Tryz.underlying75 hi0 hz0 hz1 hz2 rfl (by decide) _ _ _ rfl (World.ownsRow.alloc (HOy.out) _) ⟨y.w.heap.size, 0, none⟩ 1 1 [.int .u8 (q.toNat : Int)] rfl rfl (cell_one_new _ _ _) (by simp [Value.oneCell']) (by unfold maxLen; omega) (by omega) (by simp; omega) ?_; intro v1 w1 hown1 hgrow1 _; obtain ⟨g1, cap1, rfl⟩ := ownsRow_succ hown1; obtain ⟨ho1, hb1⟩ := ownV_app (HOy.out) ((Below.refl _ _).alloc (by omega) _) (by simp) (by omega) rfl hown1 hgrow1)
            go_roundw
            case rel => exact ⟨k + 1, by omega, by go_num, HNX.out, by rw [HF.out, ← byteVs_snoc]; have := ho1; rw [hvl] at this; exact this, by have := hb1; exact (hb.trans (y.below.mono hbs)).trans hb1⟩
            case measure => simp [intOf]; omega
        · obtain rfl : k = (r).length := by omega
          rw [List.take_length] at hown
          have hR0 : parI (43 :: r) = parD false (some ((r).filter isD)) := by rw [HP.out, HOK.out hall]
          clear hall
          generalize (r).filter isD = acc at *
          obtain ⟨pa, cap, rfl, hpc⟩ := showsV_at (ownV_shows hown)
          cases acc with
          | nil =>
            have HR := Lib.hid (show parI (43 :: r) = ([], 15) from hR0)
            clear hR0 hpc
            rw [show (byteVs []).length = 0 from rfl] at hown ⊢
            clear hown
            go_wp2
            refine bodyPost_ret (v := .tuple #[.string ⟨#[]⟩, .int .i64 15]) (by simp [results, Tryz.results31, go_sem]) rfl (Ret.mk (by rw [HR.out]) (by (repeat' (first | (with_reducible exact Below.refl _ _) | (with_reducible exact Nat.le_refl _) | (with_reducible refine Below.bel ?_ ?_) | (with_reducible refine Below.alloc ?_ ?_ _) | (with_reducible refine Below.drew ?_) | (with_reducible refine Below.drawsN ?_ _) | (with_reducible refine Below.setCell ?_ ?_ _) | (with_reducible refine le_bel ?_) | (with_reducible refine le_alloc ?_) | (with_reducible refine le_setCell ?_) | (with_reducible refine le_drew ?_) | (with_reducible refine le_drawsN ?_) | (dsimp only; with_reducible refine le_bel ?_) | (dsimp only; with_reducible refine Nat.le_refl _) | (dsimp only; with_reducible refine le_bel_add ?_) | (with_reducible assumption) | omega | (dsimp only; omega)))))
          | cons a ac =>
            have hcv := own_conv hown (by simp)
            rw [byteVs_len] at hcv ⊢
            have hR1 : parI (43 :: r) = if strip0 (a :: ac) = [] then ([48], 0) else if 400 < (strip0 (a :: ac)).length then ([], 16) else if false = true then (45 :: strip0 (a :: ac), 0) else (strip0 (a :: ac), 0) := hR0
            have HTL := Lib.hid (trimL_any (a :: ac))
            have hlz : (((a :: ac).length : Int) == 0) = false := beq_eq_false_iff_ne.2 (by simp; omega)
            clear hown hpc hR0
            generalize strip0 (a :: ac) = s at *
            generalize hac : a :: ac = al at *
            clear hac
            by_cases hs : s = []
            · rw [if_pos hs] at hR1
              have HR := Lib.hid hR1
              have hse : s.isEmpty = true := by rw [hs]; rfl
              clear hR1 hs
              go_wp2_with fail
              (with_reducible refine (HTL.out _).mono ?_)
              rintro _ _ ⟨rfl, y, rfl⟩
              go_wp2
              refine bodyPost_ret (v := .tuple #[.string ⟨#[48]⟩, .int .i64 0]) (by simp [results, Tryz.results31, go_sem]) rfl (Ret.mk (by rw [HR.out]) (by (repeat' (first | (with_reducible exact Below.refl _ _) | (with_reducible exact Nat.le_refl _) | (with_reducible refine Below.bel ?_ ?_) | (with_reducible refine Below.alloc ?_ ?_ _) | (with_reducible refine Below.drew ?_) | (with_reducible refine Below.drawsN ?_ _) | (with_reducible refine Below.setCell ?_ ?_ _) | (with_reducible refine le_bel ?_) | (with_reducible refine le_alloc ?_) | (with_reducible refine le_setCell ?_) | (with_reducible refine le_drew ?_) | (with_reducible refine le_drawsN ?_) | (dsimp only; with_reducible refine le_bel ?_) | (dsimp only; with_reducible refine Nat.le_refl _) | (dsimp only; with_reducible refine le_bel_add ?_) | (with_reducible assumption) | omega | (dsimp only; omega)))))
            · rw [if_neg hs] at hR1
              have hse : s.isEmpty = false := by cases s with
                | nil => exact absurd rfl hs
                | cons _ _ => rfl
              by_cases h4 : 400 < s.length
              · rw [if_pos h4] at hR1
                have HR := Lib.hid hR1
                have h4' : decide ((400 : Int) < (s.length : Int)) = true := decide_eq_true (by omega)
                clear hR1 hs
                go_wp2_with fail
                (with_reducible refine (HTL.out _).mono ?_)
                rintro _ _ ⟨rfl, y, rfl⟩
                go_wp2
                refine bodyPost_ret (v := .tuple #[.string ⟨#[]⟩, .int .i64 16]) (by simp [results, Tryz.results31, go_sem]) rfl (Ret.mk (by rw [HR.out]) (by (repeat' (first | (with_reducible exact Below.refl _ _) | (with_reducible exact Nat.le_refl _) | (with_reducible refine Below.bel ?_ ?_) | (with_reducible refine Below.alloc ?_ ?_ _) | (with_reducible refine Below.drew ?_) | (with_reducible refine Below.drawsN ?_ _) | (with_reducible refine Below.setCell ?_ ?_ _) | (with_reducible refine le_bel ?_) | (with_reducible refine le_alloc ?_) | (with_reducible refine le_setCell ?_) | (with_reducible refine le_drew ?_) | (with_reducible refine le_drawsN ?_) | (dsimp only; with_reducible refine le_bel ?_) | (dsimp only; with_reducible refine Nat.le_refl _) | (dsimp only; with_reducible refine le_bel_add ?_) | (with_reducible assumption) | omega | (dsimp only; omega)))))
              · rw [if_neg h4] at hR1
                have h4' : decide ((400 : Int) < (s.length : Int)) = false := decide_eq_false (by omega)
                have l1 : (9223372036854775807 < 1 + s.length) = False := eq_false (by omega)
                have b1 : (ByteArray.mk #[45]) ++ ⟨s.toArray⟩ = ⟨([45] ++ s).toArray⟩ := bytes_app [45] s
                have HR := Lib.hid (show parI (43 :: r) = (s, 0) from hR1)
                clear hR1 hs
                go_wp2_with fail
                (with_reducible refine (HTL.out _).mono ?_)
                rintro _ _ ⟨rfl, y, rfl⟩
                go_wp2
                refine bodyPost_ret (v := .tuple #[.string ⟨(s).toArray⟩, .int .i64 0]) (by simp [results, Tryz.results31, go_sem]) rfl (Ret.mk (by rw [HR.out]) (by (repeat' (first | (with_reducible exact Below.refl _ _) | (with_reducible exact Nat.le_refl _) | (with_reducible refine Below.bel ?_ ?_) | (with_reducible refine Below.alloc ?_ ?_ _) | (with_reducible refine Below.drew ?_) | (with_reducible refine Below.drawsN ?_ _) | (with_reducible refine Below.setCell ?_ ?_ _) | (with_reducible refine le_bel ?_) | (with_reducible refine le_alloc ?_) | (with_reducible refine le_setCell ?_) | (with_reducible refine le_drew ?_) | (with_reducible refine le_drawsN ?_) | (dsimp only; with_reducible refine le_bel ?_) | (dsimp only; with_reducible refine Nat.le_refl _) | (dsimp only; with_reducible refine le_bel_add ?_) | (with_reducible assumption) | omega | (dsimp only; omega)))))
    · have h43' : ((c.toNat : Int) == 43) = false := beq_eq_false_iff_ne.2 (fun h => h43 (UInt8.toNat_inj.1 (by show c.toNat = 43; omega)))
      have HP := Lib.hid (show parI (c :: r) = parD false (digS (c :: r)) by rw [parI]; exact (if_neg h45).trans (if_neg h43))
      have HOK := Lib.hid (fun h => @digS_ok (c :: r) h)
      have HBAD := Lib.hid (fun k hk h => @digS_bad (c :: r) k hk h)
      go_enter Tryz.func31, Tryz.ntmps31
      go_wp2
      go_loopw [5, 24] (fun v i wr => ∃ k : Nat, k ≤ (c :: r).length ∧ i = .int .i64 (k : Int) ∧ (∀ j, j < k → okAt (c :: r) j = true) ∧ OwnV wr w.heap.size 5 v (byteVs (((c :: r).take k).filter isD)) ∧ Below w.heap.size w wr) (fun v i _ => (c :: r).length - (intOf i).toNat)
      case atStart => exact ⟨0, by omega, rfl, fun j hj => by omega, ownV_nil _ _ _, by (repeat' (first | (with_reducible exact Below.refl _ _) | (with_reducible exact Nat.le_refl _) | (with_reducible refine Below.bel ?_ ?_) | (with_reducible refine Below.alloc ?_ ?_ _) | (with_reducible refine Below.drew ?_) | (with_reducible refine Below.drawsN ?_ _) | (with_reducible refine Below.setCell ?_ ?_ _) | (with_reducible refine le_bel ?_) | (with_reducible refine le_alloc ?_) | (with_reducible refine le_setCell ?_) | (with_reducible refine le_drew ?_) | (with_reducible refine le_drawsN ?_) | (dsimp only; with_reducible refine le_bel ?_) | (dsimp only; with_reducible refine Nat.le_refl _) | (dsimp only; with_reducible refine le_bel_add ?_) | (with_reducible assumption) | omega | (dsimp only; omega)))⟩
      case round =>
        obtain ⟨k, hk, rfl, hall, hown, hb⟩ := hrel
        have hbs := hb.size
        by_cases hkl : k < (c :: r).length
        · have hki : (k : Int) < ((r.length+1) : Int) := by simp at hkl ⊢; omega
          have hkb : k < (ByteArray.mk ((c :: r)).toArray).size := by show k < ((c :: r)).toArray.size; simpa using hkl
          have hbk := getB (t := (c :: r)) hkl
          obtain ⟨q, hq⟩ : ∃ q, ((c :: r)).getD k 0 = q := ⟨_, rfl⟩
          have hqk : ((c :: r))[k]? = some q := by rw [List.getElem?_eq_getElem hkl, ← hq, List.getD_eq_getElem?_getD, List.getElem?_eq_getElem hkl]; rfl
          have htk : ((c :: r)).take (k + 1) = ((c :: r)).take k ++ [q] := by rw [List.take_add_one, hqk]; rfl
          have HA := Lib.hid hall
          have HO := Lib.hid hown
          have HQ := Lib.hid (isD_any q)
          rw [hq] at hbk
          clear hall hown hqk
          cases hD : isD q
          · have HE := Lib.hid (show okAt (c :: r) k = false → parI (c :: r) = ([], 15) from fun h => by rw [HP.out, HBAD.out k hkl h]; rfl)
            rw [hD] at HQ
            have HOKF := Lib.hid (show okAt (c :: r) k = (q == 32 && decide (k ≠ 0) && decide (k + 1 ≠ ((c :: r)).length) && isD (((c :: r)).getD (k - 1) 0) && isD (((c :: r)).getD (k + 1) 0)) by unfold okAt; rw [hq, hD]; rfl)
            have HTK := Lib.hid htk
            have HDQ := Lib.hid hD
            clear hD htk hq
            by_cases h32 : q = 32
            · have hqn : ((q.toNat : Int) != 32) = false := by rw [h32]; rfl
              have H32 := Lib.hid (show (q == 32) = true by rw [h32]; rfl)
              clear h32
              by_cases hk0 : k = 0
              · have HR := Lib.hid (HE.out (by rw [HOKF.out, decide_eq_false (by simp [hk0])]; simp))
                have hk0' : ((k : Int) == 0) = true := beq_iff_eq.2 (by omega)
                clear hk0
                go_wp2_with fail
                (with_reducible refine (HQ.out _).mono ?_)
                rintro _ _ ⟨rfl, y, rfl⟩
                go_wp2
                refine bodyPost_ret (v := .tuple #[.string ⟨#[]⟩, .int .i64 15]) (by simp [results, Tryz.results31, go_sem]) rfl (Ret.mk (by rw [HR.out]) (by (repeat' (first | (with_reducible exact Below.refl _ _) | (with_reducible exact Nat.le_refl _) | (with_reducible refine Below.bel ?_ ?_) | (with_reducible refine Below.alloc ?_ ?_ _) | (with_reducible refine Below.drew ?_) | (with_reducible refine Below.drawsN ?_ _) | (with_reducible refine Below.setCell ?_ ?_ _) | (with_reducible refine le_bel ?_) | (with_reducible refine le_alloc ?_) | (with_reducible refine le_setCell ?_) | (with_reducible refine le_drew ?_) | (with_reducible refine le_drawsN ?_) | (dsimp only; with_reducible refine le_bel ?_) | (dsimp only; with_reducible refine Nat.le_refl _) | (dsimp only; with_reducible refine le_bel_add ?_) | (with_reducible assumption) | omega | (dsimp only; omega)))))
              · obtain ⟨j, rfl⟩ : ∃ j, k = j + 1 := ⟨k - 1, by omega⟩
                have hk0' : ((j : Int) + 1 == 0) = false := beq_eq_false_iff_ne.2 (by omega)
                have hll : ((c :: r)).length = (r.length+1) := rfl
                have tw : IntKind.i64.wrap ((r.length : Int) - 1) = (r.length : Int) - 1 := IntWalk.i64_in _ (by omega)
                clear hk0
                by_cases hlast : j + 1 + 1 = ((c :: r)).length
                · have HR := Lib.hid (HE.out (by rw [HOKF.out, decide_eq_false (p := j + 1 + 1 ≠ ((c :: r)).length) (by simpa using hlast)]; simp))
                  have hq1 : ((j : Int) + 1 == (r.length:Int)) = true := beq_iff_eq.2 (by omega)
                  go_wp2_with fail
                  (with_reducible refine (HQ.out _).mono ?_)
                  rintro _ _ ⟨rfl, y, rfl⟩
                  go_wp2
                  refine bodyPost_ret (v := .tuple #[.string ⟨#[]⟩, .int .i64 15]) (by simp [results, Tryz.results31, go_sem]) rfl (Ret.mk (by rw [HR.out]) (by (repeat' (first | (with_reducible exact Below.refl _ _) | (with_reducible exact Nat.le_refl _) | (with_reducible refine Below.bel ?_ ?_) | (with_reducible refine Below.alloc ?_ ?_ _) | (with_reducible refine Below.drew ?_) | (with_reducible refine Below.drawsN ?_ _) | (with_reducible refine Below.setCell ?_ ?_ _) | (with_reducible refine le_bel ?_) | (with_reducible refine le_alloc ?_) | (with_reducible refine le_setCell ?_) | (with_reducible refine le_drew ?_) | (with_reducible refine le_drawsN ?_) | (dsimp only; with_reducible refine le_bel ?_) | (dsimp only; with_reducible refine Nat.le_refl _) | (dsimp only; with_reducible refine le_bel_add ?_) | (with_reducible assumption) | omega | (dsimp only; omega)))))
                · have hq1 : ((j : Int) + 1 == (r.length:Int)) = false := beq_eq_false_iff_ne.2 (by omega)
                  have hj1 : j < ((c :: r)).length := by omega
                  have hj2 : j + 1 + 1 < ((c :: r)).length := by omega
                  have hb1 := getB (t := (c :: r)) hj1
                  have hb2 := getB (t := (c :: r)) hj2
                  have HK := Lib.hid (show okAt (c :: r) (j + 1) = (isD (((c :: r)).getD j 0) && isD (((c :: r)).getD (j + 1 + 1) 0)) by rw [HOKF.out, H32.out, decide_eq_true (by omega), decide_eq_true (p := j + 1 + 1 ≠ ((c :: r)).length) hlast]; simp)
                  obtain ⟨x1, hx1⟩ : ∃ x, ((c :: r)).getD j 0 = x := ⟨_, rfl⟩
                  obtain ⟨x2, hx2⟩ : ∃ x, ((c :: r)).getD (j + 1 + 1) 0 = x := ⟨_, rfl⟩
                  rw [hx1] at hb1 HK
                  rw [hx2] at hb2 HK
                  have HQ1 := Lib.hid (isD_any x1)
                  have HQ2 := Lib.hid (isD_any x2)
                  clear hx1 hx2
                  cases h1 : isD x1
                  · have HR := Lib.hid (HE.out (by rw [HK.out, h1]; rfl))
                    rw [h1] at HQ1
                    clear h1
                    go_wp2_with fail
                    (with_reducible refine (HQ.out _).mono ?_)
                    rintro _ _ ⟨rfl, y, rfl⟩
                    go_wp2_with fail
                    (with_reducible refine (HQ1.out _).mono ?_)
                    rintro _ _ ⟨rfl, y2, rfl⟩
                    go_wp2
                    refine bodyPost_ret (v := .tuple #[.string ⟨#[]⟩, .int .i64 15]) (by simp [results, Tryz.results31, go_sem]) rfl (Ret.mk (by rw [HR.out]) (by (repeat' (first | (with_reducible exact Below.refl _ _) | (with_reducible exact Nat.le_refl _) | (with_reducible refine Below.bel ?_ ?_) | (with_reducible refine Below.alloc ?_ ?_ _) | (with_reducible refine Below.drew ?_) | (with_reducible refine Below.drawsN ?_ _) | (with_reducible refine Below.setCell ?_ ?_ _) | (with_reducible refine le_bel ?_) | (with_reducible refine le_alloc ?_) | (with_reducible refine le_setCell ?_) | (with_reducible refine le_drew ?_) | (with_reducible refine le_drawsN ?_) | (dsimp only; with_reducible refine le_bel ?_) | (dsimp only; with_reducible refine Nat.le_refl _) | (dsimp only; with_reducible refine le_bel_add ?_) | (with_reducible assumption) | omega | (dsimp only; omega)))))
                  · cases h2 : isD x2
                    · have HR := Lib.hid (HE.out (by rw [HK.out, h1, h2]; rfl))
                      rw [h1] at HQ1
                      rw [h2] at HQ2
                      clear h1 h2
                      go_wp2_with fail
                      (with_reducible refine (HQ.out _).mono ?_)
                      rintro _ _ ⟨rfl, y, rfl⟩
                      go_wp2_with fail
                      (with_reducible refine (HQ1.out _).mono ?_)
                      rintro _ _ ⟨rfl, y2, rfl⟩
                      go_wp2_with fail
                      (with_reducible refine (HQ2.out _).mono ?_)
                      rintro _ _ ⟨rfl, y3, rfl⟩
                      go_wp2
                      refine bodyPost_ret (v := .tuple #[.string ⟨#[]⟩, .int .i64 15]) (by simp [results, Tryz.results31, go_sem]) rfl (Ret.mk (by rw [HR.out]) (by (repeat' (first | (with_reducible exact Below.refl _ _) | (with_reducible exact Nat.le_refl _) | (with_reducible refine Below.bel ?_ ?_) | (with_reducible refine Below.alloc ?_ ?_ _) | (with_reducible refine Below.drew ?_) | (with_reducible refine Below.drawsN ?_ _) | (with_reducible refine Below.setCell ?_ ?_ _) | (with_reducible refine le_bel ?_) | (with_reducible refine le_alloc ?_) | (with_reducible refine le_setCell ?_) | (with_reducible refine le_drew ?_) | (with_reducible refine le_drawsN ?_) | (dsimp only; with_reducible refine le_bel ?_) | (dsimp only; with_reducible refine Nat.le_refl _) | (dsimp only; with_reducible refine le_bel_add ?_) | (with_reducible assumption) | omega | (dsimp only; omega)))))
                    · have HNX := Lib.hid (okAt_next HA.out (show okAt (c :: r) (j + 1) = true by rw [HK.out, h1, h2]; rfl))
                      have HF := Lib.hid (show (((c :: r)).take (j + 1 + 1)).filter isD = (((c :: r)).take (j + 1)).filter isD by rw [HTK.out, List.filter_append]; simp [HDQ.out])
                      rw [h1] at HQ1
                      rw [h2] at HQ2
                      clear h1 h2
                      go_wp2_with fail
                      (with_reducible refine (HQ.out _).mono ?_)
                      rintro _ _ ⟨rfl, y, rfl⟩
                      have hys := y.size_le
                      go_wp2_with fail
                      (with_reducible refine (HQ1.out _).mono ?_)
                      rintro _ _ ⟨rfl, y2, rfl⟩
                      have hys2 := y2.size_le
                      go_wp2_with fail
                      (with_reducible refine (HQ2.out _).mono ?_)
                      rintro _ _ ⟨rfl, y3, rfl⟩
                      have HO3 := Lib.hid (ownV_bel (ownV_bel (ownV_bel HO.out y) y2) y3)
                      go_wp2
                      go_roundw
                      case rel => exact ⟨j + 1 + 1, by omega, by go_num, HNX.out, by rw [HF.out]; exact HO3.out, by (repeat' (first | (with_reducible exact Below.refl _ _) | (with_reducible exact Nat.le_refl _) | (with_reducible refine Below.bel ?_ ?_) | (with_reducible refine Below.alloc ?_ ?_ _) | (with_reducible refine Below.drew ?_) | (with_reducible refine Below.drawsN ?_ _) | (with_reducible refine Below.setCell ?_ ?_ _) | (with_reducible refine le_bel ?_) | (with_reducible refine le_alloc ?_) | (with_reducible refine le_setCell ?_) | (with_reducible refine le_drew ?_) | (with_reducible refine le_drawsN ?_) | (dsimp only; with_reducible refine le_bel ?_) | (dsimp only; with_reducible refine Nat.le_refl _) | (dsimp only; with_reducible refine le_bel_add ?_) | (with_reducible assumption) | omega | (dsimp only; omega)))⟩
                      case measure => simp [intOf]; omega
            · have HR := Lib.hid (HE.out (by rw [HOKF.out, beq_eq_false_iff_ne.2 h32]; rfl))
              have h32' : ((q.toNat : Int) != 32) = true := by
                refine bne_iff_ne.2 (fun h => h32 (UInt8.toNat_inj.1 (by show q.toNat = 32; omega)))
              clear h32
              go_wp2_with fail
              (with_reducible refine (HQ.out _).mono ?_)
              rintro _ _ ⟨rfl, y, rfl⟩
              go_wp2
              refine bodyPost_ret (v := .tuple #[.string ⟨#[]⟩, .int .i64 15]) (by simp [results, Tryz.results31, go_sem]) rfl (Ret.mk (by rw [HR.out]) (by (repeat' (first | (with_reducible exact Below.refl _ _) | (with_reducible exact Nat.le_refl _) | (with_reducible refine Below.bel ?_ ?_) | (with_reducible refine Below.alloc ?_ ?_ _) | (with_reducible refine Below.drew ?_) | (with_reducible refine Below.drawsN ?_ _) | (with_reducible refine Below.setCell ?_ ?_ _) | (with_reducible refine le_bel ?_) | (with_reducible refine le_alloc ?_) | (with_reducible refine le_setCell ?_) | (with_reducible refine le_drew ?_) | (with_reducible refine le_drawsN ?_) | (dsimp only; with_reducible refine le_bel ?_) | (dsimp only; with_reducible refine Nat.le_refl _) | (dsimp only; with_reducible refine le_bel_add ?_) | (with_reducible assumption) | omega | (dsimp only; omega)))))
          · have HNX := Lib.hid (okAt_next HA.out (show okAt (c :: r) k = true by unfold okAt; rw [hq, hD]; rfl))
            have HF := Lib.hid (show (((c :: r)).take (k + 1)).filter isD = (((c :: r)).take k).filter isD ++ [q] by rw [htk, List.filter_append]; simp [hD])
            have hvl := byteVs_len ((((c :: r)).take k).filter isD)
            have hfl : ((((c :: r)).take k).filter isD).length ≤ k := Nat.le_trans (List.length_filter_le _ _) (by rw [List.length_take]; omega)
            rw [hD] at HQ
            clear hD htk hq
            generalize (((c :: r)).take k).filter isD = acc at *
            go_wp2_with fail
            (with_reducible refine (HQ.out _).mono ?_)
            rintro _ _ ⟨rfl, y, rfl⟩
            have hys := y.size_le
            have HOy := Lib.hid (ownV_bel HO.out y)
            go_wp2_with (at_builtin; refine wpList_append_own _ rfl _ _ 75 rfl (w.heap.size) 5 i0 (.int .u8 0) 1 1 Tryz.underlying75 hi0 hz0 hz1 hz2 rfl (by decide) _ _ _ rfl (World.ownsRow.alloc (HOy.out) _) ⟨y.w.heap.size, 0, none⟩ 1 1 [.int .u8 (q.toNat : Int)] rfl rfl (cell_one_new _ _ _) (by simp [Value.oneCell']) (by unfold maxLen; omega) (by omega) (by simp; omega) ?_; intro v1 w1 hown1 hgrow1 _; obtain ⟨g1, cap1, rfl⟩ := ownsRow_succ hown1; obtain ⟨ho1, hb1⟩ := ownV_app (HOy.out) ((Below.refl _ _).alloc (by omega) _) (by simp) (by omega) rfl hown1 hgrow1)
            go_roundw
            case rel => exact ⟨k + 1, by omega, by go_num, HNX.out, by rw [HF.out, ← byteVs_snoc]; have := ho1; rw [hvl] at this; exact this, by have := hb1; exact (hb.trans (y.below.mono hbs)).trans hb1⟩
            case measure => simp [intOf]; omega
        · obtain rfl : k = ((c :: r)).length := by omega
          rw [List.take_length] at hown
          have hR0 : parI (c :: r) = parD false (some (((c :: r)).filter isD)) := by rw [HP.out, HOK.out hall]
          clear hall
          generalize ((c :: r)).filter isD = acc at *
          obtain ⟨pa, cap, rfl, hpc⟩ := showsV_at (ownV_shows hown)
          cases acc with
          | nil =>
            have HR := Lib.hid (show parI (c :: r) = ([], 15) from hR0)
            clear hR0 hpc
            rw [show (byteVs []).length = 0 from rfl] at hown ⊢
            clear hown
            go_wp2
            refine bodyPost_ret (v := .tuple #[.string ⟨#[]⟩, .int .i64 15]) (by simp [results, Tryz.results31, go_sem]) rfl (Ret.mk (by rw [HR.out]) (by (repeat' (first | (with_reducible exact Below.refl _ _) | (with_reducible exact Nat.le_refl _) | (with_reducible refine Below.bel ?_ ?_) | (with_reducible refine Below.alloc ?_ ?_ _) | (with_reducible refine Below.drew ?_) | (with_reducible refine Below.drawsN ?_ _) | (with_reducible refine Below.setCell ?_ ?_ _) | (with_reducible refine le_bel ?_) | (with_reducible refine le_alloc ?_) | (with_reducible refine le_setCell ?_) | (with_reducible refine le_drew ?_) | (with_reducible refine le_drawsN ?_) | (dsimp only; with_reducible refine le_bel ?_) | (dsimp only; with_reducible refine Nat.le_refl _) | (dsimp only; with_reducible refine le_bel_add ?_) | (with_reducible assumption) | omega | (dsimp only; omega)))))
          | cons a ac =>
            have hcv := own_conv hown (by simp)
            rw [byteVs_len] at hcv ⊢
            have hR1 : parI (c :: r) = if strip0 (a :: ac) = [] then ([48], 0) else if 400 < (strip0 (a :: ac)).length then ([], 16) else if false = true then (45 :: strip0 (a :: ac), 0) else (strip0 (a :: ac), 0) := hR0
            have HTL := Lib.hid (trimL_any (a :: ac))
            have hlz : (((a :: ac).length : Int) == 0) = false := beq_eq_false_iff_ne.2 (by simp; omega)
            clear hown hpc hR0
            generalize strip0 (a :: ac) = s at *
            generalize hac : a :: ac = al at *
            clear hac
            by_cases hs : s = []
            · rw [if_pos hs] at hR1
              have HR := Lib.hid hR1
              have hse : s.isEmpty = true := by rw [hs]; rfl
              clear hR1 hs
              go_wp2_with fail
              (with_reducible refine (HTL.out _).mono ?_)
              rintro _ _ ⟨rfl, y, rfl⟩
              go_wp2
              refine bodyPost_ret (v := .tuple #[.string ⟨#[48]⟩, .int .i64 0]) (by simp [results, Tryz.results31, go_sem]) rfl (Ret.mk (by rw [HR.out]) (by (repeat' (first | (with_reducible exact Below.refl _ _) | (with_reducible exact Nat.le_refl _) | (with_reducible refine Below.bel ?_ ?_) | (with_reducible refine Below.alloc ?_ ?_ _) | (with_reducible refine Below.drew ?_) | (with_reducible refine Below.drawsN ?_ _) | (with_reducible refine Below.setCell ?_ ?_ _) | (with_reducible refine le_bel ?_) | (with_reducible refine le_alloc ?_) | (with_reducible refine le_setCell ?_) | (with_reducible refine le_drew ?_) | (with_reducible refine le_drawsN ?_) | (dsimp only; with_reducible refine le_bel ?_) | (dsimp only; with_reducible refine Nat.le_refl _) | (dsimp only; with_reducible refine le_bel_add ?_) | (with_reducible assumption) | omega | (dsimp only; omega)))))
            · rw [if_neg hs] at hR1
              have hse : s.isEmpty = false := by cases s with
                | nil => exact absurd rfl hs
                | cons _ _ => rfl
              by_cases h4 : 400 < s.length
              · rw [if_pos h4] at hR1
                have HR := Lib.hid hR1
                have h4' : decide ((400 : Int) < (s.length : Int)) = true := decide_eq_true (by omega)
                clear hR1 hs
                go_wp2_with fail
                (with_reducible refine (HTL.out _).mono ?_)
                rintro _ _ ⟨rfl, y, rfl⟩
                go_wp2
                refine bodyPost_ret (v := .tuple #[.string ⟨#[]⟩, .int .i64 16]) (by simp [results, Tryz.results31, go_sem]) rfl (Ret.mk (by rw [HR.out]) (by (repeat' (first | (with_reducible exact Below.refl _ _) | (with_reducible exact Nat.le_refl _) | (with_reducible refine Below.bel ?_ ?_) | (with_reducible refine Below.alloc ?_ ?_ _) | (with_reducible refine Below.drew ?_) | (with_reducible refine Below.drawsN ?_ _) | (with_reducible refine Below.setCell ?_ ?_ _) | (with_reducible refine le_bel ?_) | (with_reducible refine le_alloc ?_) | (with_reducible refine le_setCell ?_) | (with_reducible refine le_drew ?_) | (with_reducible refine le_drawsN ?_) | (dsimp only; with_reducible refine le_bel ?_) | (dsimp only; with_reducible refine Nat.le_refl _) | (dsimp only; with_reducible refine le_bel_add ?_) | (with_reducible assumption) | omega | (dsimp only; omega)))))
              · rw [if_neg h4] at hR1
                have h4' : decide ((400 : Int) < (s.length : Int)) = false := decide_eq_false (by omega)
                have l1 : (9223372036854775807 < 1 + s.length) = False := eq_false (by omega)
                have b1 : (ByteArray.mk #[45]) ++ ⟨s.toArray⟩ = ⟨([45] ++ s).toArray⟩ := bytes_app [45] s
                have HR := Lib.hid (show parI (c :: r) = (s, 0) from hR1)
                clear hR1 hs
                go_wp2_with fail
                (with_reducible refine (HTL.out _).mono ?_)
                rintro _ _ ⟨rfl, y, rfl⟩
                go_wp2
                refine bodyPost_ret (v := .tuple #[.string ⟨(s).toArray⟩, .int .i64 0]) (by simp [results, Tryz.results31, go_sem]) rfl (Ret.mk (by rw [HR.out]) (by (repeat' (first | (with_reducible exact Below.refl _ _) | (with_reducible exact Nat.le_refl _) | (with_reducible refine Below.bel ?_ ?_) | (with_reducible refine Below.alloc ?_ ?_ _) | (with_reducible refine Below.drew ?_) | (with_reducible refine Below.drawsN ?_ _) | (with_reducible refine Below.setCell ?_ ?_ _) | (with_reducible refine le_bel ?_) | (with_reducible refine le_alloc ?_) | (with_reducible refine le_setCell ?_) | (with_reducible refine le_drew ?_) | (with_reducible refine le_drawsN ?_) | (dsimp only; with_reducible refine le_bel ?_) | (dsimp only; with_reducible refine Nat.le_refl _) | (dsimp only; with_reducible refine le_bel_add ?_) | (with_reducible assumption) | omega | (dsimp only; omega)))))
end Go.Proofs.YteglfhmmkoahfaaGreatDoor
