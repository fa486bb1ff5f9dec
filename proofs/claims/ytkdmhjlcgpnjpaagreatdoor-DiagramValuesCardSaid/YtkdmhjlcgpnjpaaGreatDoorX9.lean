/- The builder's restrict. -/
import Derived.Test.YtkdmhjlcgpnjpaaGreatDoorXB
namespace Go.Proofs.YtkdmhjlcgpnjpaaGreatDoor
set_option linter.unusedVariables false
set_option linter.unusedSimpArgs false
open Go.RowKit Go.Maps
attribute [local go_sem low] Bel.cell Bel.frozen alloc_cell alloc_frozen
attribute [local go_sem] calmOp chainOp yieldsC grows
variable {rk : Nat → Nat}

/-- What restrict has done: the places of places with a value put. -/
def DoneR (w : World) (dm : Nat) (N : List (Nat × Nat × Nat)) (x : Nat) (b : Bool) (E : Nat) : Prop :=
  ∃ n m, FunM Tryz.prog 3 3 w dm n m ∧ n ≤ E ∧ ∀ (p : Nat) (z : Int), m (.int .i64 (p : Int)) = some z → p < N.length + 2 ∧ ∃ q : Nat, z = (q : Int) ∧ q < N.length + 2 ∧ ∀ ρ, val3 ρ N q = put3 N p x b ρ
theorem DoneR.up {w w' : World} {dm x E E' : Nat} {N : List (Nat × Nat × Nat)} {b : Bool} (h : DoneR w dm N x b E) (M : List (Nat × Nat × Nat)) (hE : E ≤ E') (hb : ∀ o, w.heap[dm]? = some o → w'.heap[dm]? = some o) : DoneR w' dm (N ++ M) x b E' := by
  obtain ⟨n, m, h1, h2, h3⟩ := h
  refine ⟨n, m, h1.heap hb, Nat.le_trans h2 hE, fun p z hz => ?_⟩
  obtain ⟨a1, q, a2, a3, a4⟩ := h3 p z hz
  rw [List.length_append]
  exact ⟨by omega, q, a2, by omega, fun ρ => by rw [val3_app ρ N a3, put3_app b a1]; exact a4 ρ⟩
theorem DoneR.lay {w w' : World} {dm x E : Nat} {N : List (Nat × Nat × Nat)} {b : Bool} (h : DoneR w dm N x b E) (hb : Below w.heap.size w w') : DoneR w' dm N x b E := by
  have := h.up [] (Nat.le_refl E) (w' := w') fun o ho => obj_in hb ho
  rwa [List.append_nil] at this
theorem DoneR.lt {w : World} {dm x E : Nat} {N : List (Nat × Nat × Nat)} {b : Bool} (h : DoneR w dm N x b E) : dm < w.heap.size := by
  obtain ⟨n, m, h1, _⟩ := h
  exact h1.lt
/-- The first blocks are kept, and nothing but the builder's own four blocks and one more turns. -/
structure KbX (b0 B mp md dm : Nat) (v : Value) (w : World) (v' : Value) (w' : World) : Prop where
  below : Below b0 w w'
  keep : ∀ (c : Nat) (o : Obj), w.heap[c]? = some o → c ≠ B → c ≠ mp → c ≠ md → c ≠ dm → v.ownBlock ≠ some c → w'.heap[c]? = some o
  own : ∀ g, v'.ownBlock = some g → v.ownBlock = some g ∨ w.heap.size ≤ g
theorem Kb.x {b0 B mp md : Nat} (dm : Nat) {v v' : Value} {w w' : World} (h : Kb b0 B mp md v w v' w') : KbX b0 B mp md dm v w v' w' := ⟨h.below, fun c o ho h1 h2 h3 _ h4 => h.keep c o ho h1 h2 h3 h4, h.own⟩
theorem KbX.trans {b0 B mp md dm : Nat} {v v' v'' : Value} {w w' w'' : World} (h : KbX b0 B mp md dm v w v' w') (k : KbX b0 B mp md dm v' w' v'' w'') : KbX b0 B mp md dm v w v'' w'' := by
  refine ⟨h.below.trans k.below, fun c o ho h1 h2 h3 h5 h4 => k.keep c o (h.keep c o ho h1 h2 h3 h5 h4) h1 h2 h3 h5 fun e => ?_, fun g hg => ?_⟩
  · rcases h.own c e with e1 | e1
    · exact h4 e1
    · have := (Array.getElem?_eq_some_iff.1 ho).1
      omega
  · rcases k.own g hg with e1 | e1
    · exact h.own g e1
    · exact .inr (Nat.le_trans h.below.size e1)
theorem KbX.ahead {b0 B mp md dm : Nat} {v v' : Value} {w w' w'' : World} (k : Below w.heap.size w w') (h : KbX b0 B mp md dm v w' v' w'') (hb : b0 ≤ w.heap.size) : KbX b0 B mp md dm v w v' w'' :=
  ⟨(k.mono hb).trans h.below, fun c o ho h1 h2 h3 h5 h4 => h.keep c o ((k.block c (Array.getElem?_eq_some_iff.1 ho).1).trans ho) h1 h2 h3 h5 h4, fun g hg => (h.own g hg).imp_right (Nat.le_trans k.size)⟩
theorem KbX.row {b0 B mp md dm : Nat} {v v' : Value} {w w1 w2 : World} (h : KbX b0 B mp md dm v w v' w1) (hg : w1.grownBy w2 (some dm)) (hd : b0 ≤ dm) (hs : b0 ≤ w1.heap.size) : KbX b0 B mp md dm v w v' w2 := by
  refine ⟨h.below.grown hg hs (fun k hk => by injection hk with hk; omega), fun c o ho h1 h2 h3 h5 h4 => ?_, h.own⟩
  have := h.keep c o ho h1 h2 h3 h5 h4
  exact (hg.block c (Array.getElem?_eq_some_iff.1 this).1 (fun e => h5 (by injection e))).trans this
/-- What restrict returns. -/
def RetR (rk : Nat → Nat) (b0 B mp md base dm x : Nat) (b : Bool) (v : Value) (N : List (Nat × Nat × Nat)) (D E : Nat) (w : World) (c : Nat) (S : (Nat → Bool) → Bool) (u : Ending) (w' : World) : Prop :=
  ∃ (p : Nat) (v' : Value) (M : List (Nat × Nat × Nat)), u = .returned (.int .i64 (p : Int)) ∧ Bld rk w' b0 B mp md base v' (N ++ M) D ∧ DoneR w' dm (N ++ M) x b (E + c) ∧ KbX b0 B mp md dm v w v' w' ∧ M.length ≤ c ∧ p < (N ++ M).length + 2 ∧ ∀ ρ, val3 ρ (N ++ M) p = S ρ
theorem RetR.same {b0 B mp md base dm x : Nat} {b : Bool} {v : Value} {N : List (Nat × Nat × Nat)} {D E : Nat} {w w' : World} {c : Nat} {S : (Nat → Bool) → Bool} {p : Nat} (h : Bld rk w b0 B mp md base v N D) (hd : DoneR w dm N x b E) (hb : Below w.heap.size w w') (hp : p < N.length + 2) (hS : ∀ ρ, val3 ρ N p = S ρ) : RetR rk b0 B mp md base dm x b v N D E w c S (.returned (.int .i64 (p : Int))) w' :=
  ⟨p, v, [], rfl, by rw [List.append_nil]; exact h.bel hb, hd.up [] (Nat.le_add_right _ _) fun o ho => obj_in hb ho, ((Kb.refl _ _ _ _ _ _).of_below hb (by obtain ⟨d1, d2, d3, d4, d5, d6, d7, d8, d9, d10⟩ := h.dist; omega)).x dm, Nat.zero_le _, by rw [List.append_nil]; exact hp, by rw [List.append_nil]; exact hS⟩
set_option maxRecDepth 100000 in
theorem restrict_quick {b0 B mp md base dm x : Nat} {b : Bool} {v : Value} {N : List (Nat × Nat × Nat)} {D E : Nat} {w : World} (h : Bld rk w b0 B mp md base v N D) (hd : DoneR w dm N x b E) (p c : Nat) (hx : x < 4096) (hp : p < N.length + 2) (hl : N.length ≤ 1000000) (hv : x ≤ var3 N p) :
    Calls Tryz.prog 65 #[.pointer (some ⟨B, 0, none⟩), .int .i64 (p : Int), .int .i64 (x : Int), .bool b, .map (some dm)] w (RetR rk b0 B mp md base dm x b v N D E w c (put3 N p x b)) := by
  have HV := Lib.hid (fun w' (h' : Bld rk w' b0 B mp md base v N D) => variable_any h' p hp hl)
  have HS := Lib.hid (fun w' (h' : Bld rk w' b0 B mp md base v N D) => side_any h' p x b hp hl hx)
  have HB := Lib.hid h
  have HD := Lib.hid hd
  have HG := Lib.hid h.good
  clear h hd
  rcases Nat.lt_or_ge x (var3 N p) with hlt | hge
  · obtain ⟨q, hq⟩ : ∃ q, var3 N p = q := ⟨_, rfl⟩
    have HLT := Lib.hid hlt
    rw [hq] at HV hlt
    have f0 : decide ((x : Int) < (q : Int)) = true := decide_eq_true (by omega)
    clear hq hv HS
    go_enter Tryz.func65, Tryz.ntmps65
    go_wp2_with fail
    refine (HV.out _ HB.out).mono ?_
    rintro _ _ ⟨rfl, y1, rfl⟩
    dsimp only
    go_wp2
    refine bodyPost_ret (v := .int .i64 (p : Int)) (by simp [results, Tryz.results65, go_sem]) rfl (RetR.same HB.out HD.out (by (repeat' (first | (with_reducible first | exact Below.refl _ _ | exact Nat.le_refl _ | refine Below.bel ?_ ?_ | refine Below.alloc ?_ ?_ _ | refine Below.drew ?_ | refine Below.drawsN ?_ _ | refine Below.setCell ?_ ?_ _ | refine le_bel ?_ | refine le_alloc ?_ | refine le_setCell ?_ | refine le_drew ?_ | refine le_drawsN ?_) | (dsimp only; with_reducible first | refine le_bel ?_ | refine Nat.le_refl _ | refine le_bel_add ?_) | (with_reducible assumption) | omega | (dsimp only; omega)))) hp fun ρ => (put3_gt HG.out b hp HLT.out ρ).symm)
  · have hxe : var3 N p = x := by omega
    have h2 := sd_node hxe hx
    have HXE := Lib.hid hxe
    have hxn : (node3 N p).1 = x := by rw [← (node3_ok HG.out hp h2).2.2.2.2.2.1]; exact hxe
    obtain ⟨a1, a2, _⟩ := node3_ok HG.out hp h2
    rw [hxe] at HV
    rw [if_pos hxe] at HS
    have f0 : decide ((x : Int) < (x : Int)) = false := decide_eq_false (by omega)
    have f1 : ((x : Int) == (x : Int)) = true := by simp
    obtain ⟨r, hr⟩ : ∃ r, (if b then (node3 N p).2.2 else (node3 N p).2.1) = r := ⟨_, rfl⟩
    have hrl : r < N.length + 2 := by rw [← hr]; split <;> omega
    have HR := Lib.hid (show ∀ ρ, val3 ρ N r = put3 N p x b ρ from fun ρ => by have e := put3_eq HG.out b hp h2 ρ; rw [hxn, hr] at e; exact e.symm)
    rw [hr] at HS
    clear hr hxe hv hge hxn a1 a2
    go_enter Tryz.func65, Tryz.ntmps65
    go_wp2_with fail
    refine (HV.out _ HB.out).mono ?_
    rintro _ _ ⟨rfl, y1, rfl⟩
    dsimp only
    go_wp2_with fail
    refine (HS.out _ (HB.out.bel (by (repeat' (first | (with_reducible first | exact Below.refl _ _ | exact Nat.le_refl _ | refine Below.bel ?_ ?_ | refine Below.alloc ?_ ?_ _ | refine Below.drew ?_ | refine Below.drawsN ?_ _ | refine Below.setCell ?_ ?_ _ | refine le_bel ?_ | refine le_alloc ?_ | refine le_setCell ?_ | refine le_drew ?_ | refine le_drawsN ?_) | (dsimp only; with_reducible first | refine le_bel ?_ | refine Nat.le_refl _ | refine le_bel_add ?_) | (with_reducible assumption) | omega | (dsimp only; omega)))))).mono ?_
    rintro _ _ ⟨rfl, y2, rfl⟩
    dsimp only
    go_wp2
    refine bodyPost_ret (v := .int .i64 (r : Int)) (by simp [results, Tryz.results65, go_sem]) rfl (RetR.same HB.out HD.out (by (repeat' (first | (with_reducible first | exact Below.refl _ _ | exact Nat.le_refl _ | refine Below.bel ?_ ?_ | refine Below.alloc ?_ ?_ _ | refine Below.drew ?_ | refine Below.drawsN ?_ _ | refine Below.setCell ?_ ?_ _ | refine le_bel ?_ | refine le_alloc ?_ | refine le_setCell ?_ | refine le_drew ?_ | refine le_drawsN ?_) | (dsimp only; with_reducible first | refine le_bel ?_ | refine Nat.le_refl _ | refine le_bel_add ?_) | (with_reducible assumption) | omega | (dsimp only; omega)))) hrl HR.out)
set_option maxRecDepth 100000 in
set_option maxHeartbeats 6400000 in
theorem restrict_any (b0 B mp md base dm x : Nat) (b : Bool) (hx : x < 4096) (hdm : base ≤ dm) : ∀ (k c : Nat), c + 1 = 2 ^ k → ∀ (v : Value) (N : List (Nat × Nat × Nat)) (D E p : Nat) (w : World), Bld rk w b0 B mp md base v N D → DoneR w dm N x b E → v.ownBlock ≠ some dm → p < N.length + 2 → rk (var3 N p) ≤ k → N.length + c ≤ 1000000 → E + c ≤ 100000000 →
    Calls Tryz.prog 65 #[.pointer (some ⟨B, 0, none⟩), .int .i64 (p : Int), .int .i64 (x : Int), .bool b, .map (some dm)] w (RetR rk b0 B mp md base dm x b v N D E w c (put3 N p x b)) := by
  intro k
  induction k with
  | zero =>
    intro c hc v N D E p w h hd hv hp kp hnl hel
    refine restrict_quick h hd p c hx hp (by omega) ?_
    rcases bld_var h hp with h1 | h1
    · omega
    · have := h1.2.2 _ (Nat.lt_succ_self _)
      omega
  | succ k ih =>
    intro c hc v N D E p w h hd hv hp kp hnl hel
    rcases Nat.lt_or_ge (var3 N p) x with hlt | hge
    · obtain ⟨cj, hcj⟩ : ∃ cj, cj + 1 = 2 ^ k := ⟨2 ^ k - 1, by have := Nat.two_pow_pos k; omega⟩
      have hc2 : c = 2 * cj + 1 := by rw [Nat.pow_succ] at hc; omega
      obtain ⟨h2, hvo⟩ : 2 ≤ p ∧ VarOk rk (var3 N p) := by
        rcases bld_var h hp with h1 | h1
        · omega
        · exact h1
      obtain ⟨d1, d2, d3, d4, d5, d6, d7, d8, d9, d10⟩ := h.dist
      obtain ⟨n0, m, hm, hn0, hms⟩ := hd
      have hkl := key_i (z := (p : Int)) (wf_nat (by omega))
      have HB := Lib.hid h
      have HD := Lib.hid (show DoneR w dm N x b E from ⟨n0, m, hm, hn0, hms⟩)
      have HM := Lib.hid hm
      have HV := Lib.hid (fun w' (h' : Bld rk w' b0 B mp md base v N D) => variable_any h' p hp (by omega))
      have hdl := hm.lt
      obtain ⟨a1, a2, a3, a4, a5, a6, _⟩ := node3_ok h.good hp h2
      have HGD := Lib.hid h.good
      obtain ⟨vp, hvp⟩ : ∃ vp, var3 N p = vp := ⟨_, rfl⟩
      have HSD := Lib.hid (fun (bb : Bool) w' v' M D' (h' : Bld rk w' b0 B mp md base v' (N ++ M) D') (hl' : (N ++ M).length ≤ 1000000) => (show Calls Tryz.prog 98 #[.pointer (some ⟨B, 0, none⟩), .int .i64 (p : Int), .int .i64 (vp : Int), .bool bb] w' (Ret (.int .i64 ((if bb then (node3 N p).2.2 else (node3 N p).2.1 : Nat) : Int)) w') from by
        have e := side_any h' p vp bb (by rw [List.length_append]; omega) hl' (by omega)
        rwa [var3_app hp, if_pos hvp, node3_app hp h2] at e))
      have HSF := Lib.hid (HSD.out false)
      have HST := Lib.hid (HSD.out true)
      simp only [if_true, Bool.false_eq_true, if_false] at HSF HST
      obtain ⟨xn, hxn⟩ : ∃ xn, (node3 N p).2.1 = xn := ⟨_, rfl⟩
      obtain ⟨xy, hxy⟩ : ∃ xy, (node3 N p).2.2 = xy := ⟨_, rfl⟩
      have HP3 := Lib.hid (fun ρ => put3_lt h.good b hp h2 (show (node3 N p).1 < x by omega) ρ)
      have hnv : (node3 N p).1 = vp := by omega
      rw [hnv] at HP3 a4 a5
      rw [hxn, hxy] at HP3
      rw [hxn] at a1 a4
      rw [hxy] at a2 a5
      rw [hxn] at HSF
      rw [hxy] at HST
      clear HSD
      rw [hvp] at HV hvo hlt kp
      have kn := hvo.2 _ a4
      have ky := hvo.2 _ a5
      have HVO := Lib.hid hvo
      have f0 : decide ((x : Int) < (vp : Int)) = false := decide_eq_false (by omega)
      have f1 : ((vp : Int) == (x : Int)) = false := by simp; omega
      have HOV := Lib.hid hv
      have HIH := Lib.hid (ih cj hcj)
      cases hmk : m (.int .i64 (p : Int)) with
      | some z =>
        obtain ⟨_, q, rfl, hq, hqv⟩ := hms p z hmk
        have HQ := Lib.hid hqv
        have hrun : ∀ x' : Bel w, (Instr.lookup 105 (.map (some dm)) (.int .i64 (p : Int)) true).run Tryz.prog x'.w = .ok (.tuple #[.int .i64 (q : Int), .bool true]) x'.w := fun x' => by
          have := funM_run_ok (t := 105) (w := x'.w) keyedI Tryz.underlying105 Tryz.underlying3 (by rfl) (HM.out.heap fun o ho => obj_in (show Below w.heap.size w x'.w by (repeat' (first | (with_reducible first | exact Below.refl _ _ | exact Nat.le_refl _ | refine Below.bel ?_ ?_ | refine Below.alloc ?_ ?_ _ | refine Below.drew ?_ | refine Below.drawsN ?_ _ | refine Below.setCell ?_ ?_ _ | refine le_bel ?_ | refine le_alloc ?_ | refine le_setCell ?_ | refine le_drew ?_ | refine le_drawsN ?_) | (dsimp only; with_reducible first | refine le_bel ?_ | refine Nat.le_refl _ | refine le_bel_add ?_) | (with_reducible assumption) | omega | (dsimp only; omega)))) ho) hkl
          rw [hmk] at this
          exact this
        clear h hm hms hmk hkl ih HIH hvo hv hvp hxn hxy hnv hqv kn ky
        go_enter Tryz.func65, Tryz.ntmps65
        go_wp2_with fail
        refine (HV.out _ HB.out).mono ?_
        rintro _ _ ⟨rfl, y1, rfl⟩
        dsimp only
        go_wp2_with fail
        refine bodyPost_ret (v := .int .i64 (q : Int)) (by simp [results, Tryz.results65, go_sem]) rfl (RetR.same HB.out HD.out (by (repeat' (first | (with_reducible first | exact Below.refl _ _ | exact Nat.le_refl _ | refine Below.bel ?_ ?_ | refine Below.alloc ?_ ?_ _ | refine Below.drew ?_ | refine Below.drawsN ?_ _ | refine Below.setCell ?_ ?_ _ | refine le_bel ?_ | refine le_alloc ?_ | refine le_setCell ?_ | refine le_drew ?_ | refine le_drawsN ?_) | (dsimp only; with_reducible first | refine le_bel ?_ | refine Nat.le_refl _ | refine le_bel_add ?_) | (with_reducible assumption) | omega | (dsimp only; omega)))) hq HQ.out)
      | none =>
        have hrun : ∀ x' : Bel w, (Instr.lookup 105 (.map (some dm)) (.int .i64 (p : Int)) true).run Tryz.prog x'.w = .ok (.tuple #[.int .i64 0, .bool false]) x'.w := fun x' => by
          have := funM_run_ok (t := 105) (w := x'.w) keyedI Tryz.underlying105 Tryz.underlying3 (by rfl) (HM.out.heap fun o ho => obj_in (show Below w.heap.size w x'.w by (repeat' (first | (with_reducible first | exact Below.refl _ _ | exact Nat.le_refl _ | refine Below.bel ?_ ?_ | refine Below.alloc ?_ ?_ _ | refine Below.drew ?_ | refine Below.drawsN ?_ _ | refine Below.setCell ?_ ?_ _ | refine le_bel ?_ | refine le_alloc ?_ | refine le_setCell ?_ | refine le_drew ?_ | refine le_drawsN ?_) | (dsimp only; with_reducible first | refine le_bel ?_ | refine Nat.le_refl _ | refine le_bel_add ?_) | (with_reducible assumption) | omega | (dsimp only; omega)))) ho) hkl
          rw [hmk] at this
          exact this
        clear h hm hms hmk ih hvo hv hvp hxn hxy hnv
        go_enter Tryz.func65, Tryz.ntmps65
        go_wp2_with fail
        refine (HV.out _ HB.out).mono ?_
        rintro _ _ ⟨rfl, y1, rfl⟩
        dsimp only
        go_wp2_with fail
        have HB6 := Lib.hid (show ∀ w', Below w.heap.size w w' → Bld rk w' b0 B mp md base v (N ++ []) D from fun w' h' => by rw [List.append_nil]; exact HB.out.bel h')
        refine (HSF.out _ _ _ _ (HB6.out _ (by (repeat' (first | (with_reducible first | exact Below.refl _ _ | exact Nat.le_refl _ | refine Below.bel ?_ ?_ | refine Below.alloc ?_ ?_ _ | refine Below.drew ?_ | refine Below.drawsN ?_ _ | refine Below.setCell ?_ ?_ _ | refine le_bel ?_ | refine le_alloc ?_ | refine le_setCell ?_ | refine le_drew ?_ | refine le_drawsN ?_) | (dsimp only; with_reducible first | refine le_bel ?_ | refine Nat.le_refl _ | refine le_bel_add ?_) | (with_reducible assumption) | omega | (dsimp only; omega))))) (by rw [List.append_nil]; omega)).mono ?_
        rintro _ _ ⟨rfl, y2, rfl⟩
        have hb2 : Below w.heap.size w y2.w := by (repeat' (first | (with_reducible first | exact Below.refl _ _ | exact Nat.le_refl _ | refine Below.bel ?_ ?_ | refine Below.alloc ?_ ?_ _ | refine Below.drew ?_ | refine Below.drawsN ?_ _ | refine Below.setCell ?_ ?_ _ | refine le_bel ?_ | refine le_alloc ?_ | refine le_setCell ?_ | refine le_drew ?_ | refine le_drawsN ?_) | (dsimp only; with_reducible first | refine le_bel ?_ | refine Nat.le_refl _ | refine le_bel_add ?_) | (with_reducible assumption) | omega | (dsimp only; omega)))
        have HL2 := Lib.hid hb2
        have hs2 := hb2.size
        clear hb2
        dsimp only
        go_wp2_with fail
        refine (HIH.out v N D E _ _ (HB.out.bel HL2.out) (HD.out.lay HL2.out) HOV.out (by omega) (by omega) (by omega) (by omega)).mono ?_
        rintro _ W1 ⟨np, v1, M1, rfl, hB1, hD1, hK1, hM1, hnp, hnv⟩
        have HB1 := Lib.hid hB1
        have HD1 := Lib.hid hD1
        have HK1 := Lib.hid (KbX.ahead HL2.out hK1 (by omega))
        have hown1 : (v1.ownBlock ≠ some dm) := fun e => by
          rcases hK1.own _ e with h | h
          · exact HOV.out h
          · omega
        have HO1 := Lib.hid hown1
        have HN1 := Lib.hid (And.intro hnp hnv)
        have hM1l : (N ++ M1).length = N.length + M1.length := List.length_append
        have HML1 := Lib.hid hM1l
        have hs1 := HK1.out.below.size
        clear hB1 hD1 hK1 hown1 hnp hnv HL2 HB6 y2 y1 hrun hs2 hM1l
        dsimp only
        go_wp2_with fail
        refine (HST.out _ _ _ _ HB1.out (by rw [HML1.out]; omega)).mono ?_
        rintro _ _ ⟨rfl, y3, rfl⟩
        have hb3 := y3.below
        have HL3 := Lib.hid hb3
        have hs3 := hb3.size
        have hd1s := HB1.out.dist.2.2.2.2.2.2.2.2.2
        clear hb3
        dsimp only
        go_wp2_with fail
        refine (HIH.out v1 (N ++ M1) D (E + cj) _ _ (HB1.out.bel HL3.out) (HD1.out.lay HL3.out) HO1.out (by rw [HML1.out]; omega) (by rw [var3_app (by omega)]; omega) (by rw [HML1.out]; omega) (by omega)).mono ?_
        rintro _ W2 ⟨yp, v2, M2, rfl, hB2, hD2, hK2, hM2, hyp, hyv⟩
        have hM2l : (N ++ M1 ++ M2).length = N.length + M1.length + M2.length := by rw [List.length_append, HML1.out]
        have HK2 := Lib.hid (HK1.out.trans (KbX.ahead HL3.out hK2 (by omega)))
        have hown2 : (v2.ownBlock ≠ some dm) := fun e => by
          rcases hK2.own _ e with h | h
          · exact HO1.out h
          · omega
        have HO2 := Lib.hid hown2
        have HB2 := Lib.hid hB2
        have HD2 := Lib.hid hD2
        have HN2 := Lib.hid (And.intro hyp hyv)
        have HML2 := Lib.hid hM2l
        have hm12 : M1.length ≤ cj ∧ M2.length ≤ cj := ⟨hM1, hM2⟩
        have hs22 := HK2.out.below.size
        clear hB2 hD2 hK2 hown2 hyp hyv HL3 y3 hs3 hM2l hM1 hM2
        dsimp only
        go_wp2_with fail
        have hpl := HN1.out.1
        rw [HML1.out] at hpl
        refine (node_any HB2.out vp np yp HVO.out (by rw [HML2.out]; omega) HN2.out.1 (fun _ => ?_) (by rw [HML2.out]; omega)).mono ?_
        · have hg2 := HB2.out.good
          have hv4 := HVO.out.1
          refine ⟨?_, ?_⟩
          · exact var_gt hg2 (S := put3 N xn x b) (by rw [HML2.out]; omega) (fun ρ => by rw [val3_app ρ _ HN1.out.1]; exact HN1.out.2 ρ) (fun ρ u c hu => put3_ind HGD.out b c (by omega) (by omega) ρ) hv4
          · exact var_gt hg2 (S := put3 N xy x b) HN2.out.1 (fun ρ => by rw [HN2.out.2 ρ, put3_app b (by omega)]) (fun ρ u c hu => put3_ind HGD.out b c (by omega) (by omega) ρ) hv4
        rintro _ W3 ⟨xp, v3, M3, rfl, hB3, hK3, hM3, hxp, hxv⟩
        have hval : ∀ ρ, val3 ρ (N ++ M1 ++ M2 ++ M3) xp = put3 N p x b ρ := fun ρ => by
          rw [hxv, HP3.out]
          dsimp only
          rw [val3_app ρ _ HN1.out.1, HN1.out.2 ρ, HN2.out.2 ρ, put3_app b (by omega)]
        have HVL := Lib.hid (And.intro hxp hval)
        have hM3l : (N ++ M1 ++ M2 ++ M3).length = N.length + M1.length + M2.length + M3.length := by rw [List.length_append, HML2.out]
        have HML3 := Lib.hid hM3l
        have hdo : W2.heap[dm]? ≠ none := fun e => by
          have h1 := Array.getElem?_eq_none_iff.1 e
          omega
        obtain ⟨n3, m3, hm3, hn3, hms3⟩ := HD2.out.up M3 (Nat.le_refl _) (w' := W3) (fun o ho => hK3.keep _ _ ho (by omega) (by omega) (by omega) HO2.out)
        have hown3 : (v3.ownBlock ≠ some dm) := fun e => by
          rcases hK3.own _ e with h | h
          · exact HO2.out h
          · omega
        have HK3 := Lib.hid (HK2.out.trans (hK3.x dm))
        have HB3 := Lib.hid hB3
        have HM3 := Lib.hid hm3
        have HMS3 := Lib.hid hms3
        have HO3 := Lib.hid hown3
        clear hB3 hK3 hxp hxv hval hM3l hm3 hms3 hown3 hdo HN1 HN2 HK1 HK2 HO2 HO1 HIH HSF HST HV HML1 HML2 HB1 HB2 HD1 HD2
        dsimp only
        go_wp2_with (at_mapUpdate; (refine wpList_update_funM _ rfl _ _ _ _ rfl 3 3 keyedI Tryz.underlying105 Tryz.underlying3 dm n3 m3 rfl HM3.out (by unfold maxLen; omega) (.int .i64 (p : Int)) _ rfl hkl (xp : Int) rfl (wf_nat (by have := HVL.out.1; rw [HML3.out] at this; omega)) ?_; intro w5 m5 hm5 hz5 ho5 hg5; have HM5 := Lib.hid hm5; have HH5 := Lib.hid (And.intro hz5 ho5); have HG5 := Lib.hid hg5; have hs5 := hg5.size; clear hm5 hz5 ho5 hg5))
        go_wp2
        have hxl := HVL.out.1
        refine bodyPost_ret (v := .int .i64 (xp : Int)) (by simp [results, Tryz.results65, go_sem]) rfl ⟨xp, v3, M1 ++ (M2 ++ M3), rfl, ?_, ?_, HK3.out.row HG5.out (by omega) ?_, ?_, ?_, fun ρ => ?_⟩
        · rw [← List.append_assoc, ← List.append_assoc]
          exact HB3.out.row HG5.out hdm HO3.out
        · rw [← List.append_assoc, ← List.append_assoc]
          refine ⟨n3 + 1, m5, HM5.out, by omega, fun q z hz => ?_⟩
          by_cases e : q = p
          · subst e
            rw [HH5.out.1] at hz
            injection hz with hz
            refine ⟨by rw [HML3.out]; omega, xp, hz.symm, hxl, fun ρ => ?_⟩
            rw [HVL.out.2, List.append_assoc, List.append_assoc, put3_app b hp]
          · rw [HH5.out.2 _ (fun h => e (by injection h with h1 h2; omega))] at hz
            exact HMS3.out q z hz
        · have := HB3.out.dist; omega
        · rw [List.length_append, List.length_append]; omega
        · rw [← List.append_assoc, ← List.append_assoc]; exact hxl
        · rw [← List.append_assoc, ← List.append_assoc]; exact HVL.out.2 ρ
    · exact restrict_quick h hd p c hx hp (by omega) hge
end Go.Proofs.YtkdmhjlcgpnjpaaGreatDoor
