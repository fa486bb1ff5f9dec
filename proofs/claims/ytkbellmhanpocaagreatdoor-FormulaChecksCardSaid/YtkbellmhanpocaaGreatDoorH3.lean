/- text, Text. -/
import Derived.Test.YtkbellmhanpocaaGreatDoorH2
namespace Go.Proofs.YtkbellmhanpocaaGreatDoor
set_option linter.unusedVariables false
set_option linter.unusedSimpArgs false
open Go.RowKit Go.Shelf F
attribute [local go_sem low] Bel.cell Bel.frozen alloc_cell alloc_frozen

set_option maxRecDepth 100000 in
set_option maxHeartbeats 6400000 in
theorem text_any (P : Nat → Prop) (t : F) (ad : Option Addr) (cap : Nat) (w : World) (hi : InsF P w ad t.l) (hok : okT t) (hn : nodes t ≤ 100000000) (hT : Tab w) :
    Calls Tryz.prog 47 #[.agg #[.int .i64 t.k, .int .i64 t.a, .slice ad t.l.length cap]] w (Ret (.string ⟨(txt t).toArray⟩) w) := by
  have hlt : InsF (fun c => c < w.heap.size) w ad t.l := hi.imp fun b hb _ => hb
  have hg := hT.lt
  have HW := Lib.hid (write_any (w.heap.size + 1) (w.heap.size + 1) (by omega) (nodes t) t (Nat.le_refl _) hok ad cap [])
  have HT := Lib.hid hT
  have hfr := Lib.fresh_isBuilder 90 5 (w.alloc (.cells #[.int .i64 t.k, .int .i64 t.a, .slice ad t.l.length cap] 26))
  rw [World.size_alloc] at hfr
  have HF := Lib.hid (show IsB (w.heap.size + 1) (w.heap.size + 1) [] ((w.alloc (.cells #[.int .i64 t.k, .int .i64 t.a, .slice ad t.l.length cap] 26)).alloc (.cells #[.pointer none, .slice none 0 0] 90)) from hfr)
  have HI := Lib.hid hlt
  clear hi hlt hfr hT
  go_enter Tryz.func47, Tryz.ntmps47
  go_wp2_with fail
  refine (HW.out _ ((HI.out.of (by (repeat' (first | (with_reducible exact Below.refl _ _) | (with_reducible exact Nat.le_refl _) | (with_reducible refine Below.bel ?_ ?_) | (with_reducible refine Below.alloc ?_ ?_ _) | (with_reducible refine Below.drew ?_) | (with_reducible refine Below.drawsN ?_ _) | (with_reducible refine Below.setCell ?_ ?_ _) | (with_reducible refine le_bel ?_) | (with_reducible refine le_alloc ?_) | (with_reducible refine le_setCell ?_) | (with_reducible refine le_drew ?_) | (with_reducible refine le_drawsN ?_) | (dsimp only; with_reducible refine le_bel ?_) | (dsimp only; with_reducible refine Nat.le_refl _) | (dsimp only; with_reducible refine le_bel_add ?_) | (with_reducible assumption) | omega | (dsimp only; omega))))).imp fun b _ h => by omega) HF.out (HT.out.of (by (repeat' (first | (with_reducible exact Below.refl _ _) | (with_reducible exact Nat.le_refl _) | (with_reducible refine Below.bel ?_ ?_) | (with_reducible refine Below.alloc ?_ ?_ _) | (with_reducible refine Below.drew ?_) | (with_reducible refine Below.drawsN ?_ _) | (with_reducible refine Below.setCell ?_ ?_ _) | (with_reducible refine le_bel ?_) | (with_reducible refine le_alloc ?_) | (with_reducible refine le_setCell ?_) | (with_reducible refine le_drew ?_) | (with_reducible refine le_drawsN ?_) | (dsimp only; with_reducible refine le_bel ?_) | (dsimp only; with_reducible refine Nat.le_refl _) | (dsimp only; with_reducible refine le_bel_add ?_) | (with_reducible assumption) | omega | (dsimp only; omega))))) (by simp) hn (by simp only [List.length_nil]; omega)).mono ?_
  rintro _ w2 ⟨⟨v, rfl⟩, hb2, hbl2, _⟩
  have hs2 := hbl2.size
  simp at hs2
  have HB2 := Lib.hid hb2
  have HBL := Lib.hid (show Below w.heap.size w w2 from Below.trans (by (repeat' (first | (with_reducible exact Below.refl _ _) | (with_reducible exact Nat.le_refl _) | (with_reducible refine Below.bel ?_ ?_) | (with_reducible refine Below.alloc ?_ ?_ _) | (with_reducible refine Below.drew ?_) | (with_reducible refine Below.drawsN ?_ _) | (with_reducible refine Below.setCell ?_ ?_ _) | (with_reducible refine le_bel ?_) | (with_reducible refine le_alloc ?_) | (with_reducible refine le_setCell ?_) | (with_reducible refine le_drew ?_) | (with_reducible refine le_drawsN ?_) | (dsimp only; with_reducible refine le_bel ?_) | (dsimp only; with_reducible refine Nat.le_refl _) | (dsimp only; with_reducible refine le_bel_add ?_) | (with_reducible assumption) | omega | (dsimp only; omega)))) (hbl2.mono (by omega)))
  clear hb2 hbl2
  dsimp only
  go_wp2_with fail
  refine (readB_any (w.heap.size + 1) (w.heap.size + 1) (txt t) _ (by have := HB2.out; rwa [List.nil_append] at this) (by omega)).mono ?_
  rintro _ w3 ⟨rfl, hb3⟩
  have HB3 := Lib.hid (HBL.out.trans (hb3.mono (by omega)))
  clear hb3
  dsimp only
  go_wp2
  go_ret
  exact Ret.mk rfl HB3.out
set_option maxRecDepth 100000 in
set_option maxHeartbeats 6400000 in
theorem Text_ok (P : Nat → Prop) (t : F) (ad : Option Addr) (cap : Nat) (w : World) (hi : InsF P w ad t.l) (hok : okT t) (hn : nodes t ≤ 10000) (hl : levels t ≤ 100) (hT : Tab w) :
    Calls Tryz.prog 27 #[.agg #[.int .i64 t.k, .int .i64 t.a, .slice ad t.l.length cap]] w (Ret (.tuple #[.string ⟨(txt t).toArray⟩, .int .i64 0]) w) := by
  have hc0 : checkF t = 0 := checkF_ok.2 ⟨decide_eq_true (by omega), hok⟩
  have hlt : InsF (fun c => c < w.heap.size) w ad t.l := hi.imp fun b hb _ => hb
  have HI := Lib.hid hlt
  have HC := Lib.hid (fun w' (h : InsF (fun c => c < w.heap.size) w' ad t.l) => check_any (fun c => c < w.heap.size) t ad cap w' h (by omega))
  rw [hc0] at HC
  have HX := Lib.hid (fun w' (h : InsF (fun c => c < w.heap.size) w' ad t.l) hT => text_any (fun c => c < w.heap.size) t ad cap w' h hok (by omega) hT)
  have hlen := txt_len t hok
  obtain ⟨s, hs⟩ : ∃ s, txt t = s := ⟨_, rfl⟩
  rw [hs] at HX hlen ⊢
  have hsz : decide ((65536 : Int) < (s.length : Int)) = false := decide_eq_false (by omega)
  have HT := Lib.hid hT
  clear hi hlt hc0 hs hT hlen
  go_enter Tryz.func27, Tryz.ntmps27
  go_wp2_with fail
  refine (HC.out _ (HI.out.of (by (repeat' (first | (with_reducible exact Below.refl _ _) | (with_reducible exact Nat.le_refl _) | (with_reducible refine Below.bel ?_ ?_) | (with_reducible refine Below.alloc ?_ ?_ _) | (with_reducible refine Below.drew ?_) | (with_reducible refine Below.drawsN ?_ _) | (with_reducible refine Below.setCell ?_ ?_ _) | (with_reducible refine le_bel ?_) | (with_reducible refine le_alloc ?_) | (with_reducible refine le_setCell ?_) | (with_reducible refine le_drew ?_) | (with_reducible refine le_drawsN ?_) | (dsimp only; with_reducible refine le_bel ?_) | (dsimp only; with_reducible refine Nat.le_refl _) | (dsimp only; with_reducible refine le_bel_add ?_) | (with_reducible assumption) | omega | (dsimp only; omega)))))).mono ?_
  rintro _ _ ⟨rfl, y1, rfl⟩
  have hs1 := y1.size_le
  simp at hs1
  dsimp only
  go_wp2_with fail
  refine (HX.out _ (HI.out.of (by (repeat' (first | (with_reducible exact Below.refl _ _) | (with_reducible exact Nat.le_refl _) | (with_reducible refine Below.bel ?_ ?_) | (with_reducible refine Below.alloc ?_ ?_ _) | (with_reducible refine Below.drew ?_) | (with_reducible refine Below.drawsN ?_ _) | (with_reducible refine Below.setCell ?_ ?_ _) | (with_reducible refine le_bel ?_) | (with_reducible refine le_alloc ?_) | (with_reducible refine le_setCell ?_) | (with_reducible refine le_drew ?_) | (with_reducible refine le_drawsN ?_) | (dsimp only; with_reducible refine le_bel ?_) | (dsimp only; with_reducible refine Nat.le_refl _) | (dsimp only; with_reducible refine le_bel_add ?_) | (with_reducible assumption) | omega | (dsimp only; omega))))) (HT.out.of (by (repeat' (first | (with_reducible exact Below.refl _ _) | (with_reducible exact Nat.le_refl _) | (with_reducible refine Below.bel ?_ ?_) | (with_reducible refine Below.alloc ?_ ?_ _) | (with_reducible refine Below.drew ?_) | (with_reducible refine Below.drawsN ?_ _) | (with_reducible refine Below.setCell ?_ ?_ _) | (with_reducible refine le_bel ?_) | (with_reducible refine le_alloc ?_) | (with_reducible refine le_setCell ?_) | (with_reducible refine le_drew ?_) | (with_reducible refine le_drawsN ?_) | (dsimp only; with_reducible refine le_bel ?_) | (dsimp only; with_reducible refine Nat.le_refl _) | (dsimp only; with_reducible refine le_bel_add ?_) | (with_reducible assumption) | omega | (dsimp only; omega)))))).mono ?_
  rintro _ _ ⟨rfl, y2, rfl⟩
  dsimp only
  go_wp2
  refine bodyPost_ret (v := .tuple #[.string ⟨s.toArray⟩, .int .i64 0]) (by simp [results, Tryz.results27, go_sem]) rfl (Ret.mk (by rfl) (by (repeat' (first | (with_reducible exact Below.refl _ _) | (with_reducible exact Nat.le_refl _) | (with_reducible refine Below.bel ?_ ?_) | (with_reducible refine Below.alloc ?_ ?_ _) | (with_reducible refine Below.drew ?_) | (with_reducible refine Below.drawsN ?_ _) | (with_reducible refine Below.setCell ?_ ?_ _) | (with_reducible refine le_bel ?_) | (with_reducible refine le_alloc ?_) | (with_reducible refine le_setCell ?_) | (with_reducible refine le_drew ?_) | (with_reducible refine le_drawsN ?_) | (dsimp only; with_reducible refine le_bel ?_) | (dsimp only; with_reducible refine Nat.le_refl _) | (dsimp only; with_reducible refine le_bel_add ?_) | (with_reducible assumption) | omega | (dsimp only; omega)))))
end Go.Proofs.YtkbellmhanpocaaGreatDoor
