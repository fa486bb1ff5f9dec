/- The builder's result: the diagram of a place. -/
import Derived.Maps.OwnSet
import Derived.Test.YtkdmhjlcgpnjpaaGreatDoorX10
namespace Go.Proofs.YtkdmhjlcgpnjpaaGreatDoor
set_option linter.unusedVariables false
set_option linter.unusedSimpArgs false
open Go.RowKit Go.Maps
attribute [local go_sem low] Bel.cell Bel.frozen alloc_cell alloc_frozen
attribute [local go_sem] calmOp chainOp yieldsC grows
variable {rk : Nat → Nat}

/-- A diagram, and no error. -/
def RetDg (M : List (Nat × Nat × Nat)) (r : Nat) (w : World) (e : Ending) (w' : World) : Prop :=
  ∃ ad c, e = .returned (.tuple #[.agg #[.slice ad M.length c, .int .i64 (r : Int)], .int .i64 0]) ∧ InD w'.heap.size w' ad (M.map z3) ∧ (∀ g off k, ad = some ⟨g, off, k⟩ → w.heap.size ≤ g) ∧ Below w.heap.size w w'
theorem ownD_fresh {w : World} {base : Nat} {e : TypeId} {a : Option Addr} {n c : Nat} {N : List (Nat × Nat × Nat)} (h : OwnD w base e (.slice a n c) N) : ∀ g off k, a = some ⟨g, off, k⟩ → base ≤ g := fun g off k ha => by
  subst ha
  rcases h with ⟨hxl, ⟨e1, e2⟩ | ⟨g', cap, cur, e1, hg, hh, hn, hc, hcs, hcur⟩⟩
  · cases e1
  · injection e1 with e1 _ _
    injection e1 with e1
    injection e1 with e1 _ _
    omega
theorem OwnN.bel {w w' : World} {b : Nat} {v : Value} {l : List Nat} (h : OwnN w b v l) (hb : Below w.heap.size w w') : OwnN w' b v l := ownN_row h fun c o ho _ => obj_in hb ho
theorem relab3_at {N : List (Nat × Nat × Nat)} {l : List Nat} {k q : Nat} (h : l[k]? = some q) : (relab3 N l)[k]? = some ((node3 N q).1, at3 l (node3 N q).2.1, at3 l (node3 N q).2.2) := by
  unfold relab3
  rw [List.getElem?_map, h]
  rfl
theorem relab3_len (N : List (Nat × Nat × Nat)) (l : List Nat) : (relab3 N l).length = l.length := List.length_map ..
theorem ownN_sl {w : World} {b : Nat} {v : Value} {l : List Nat} (h : OwnN w b v l) : ∃ a c, v = .slice a l.length c ∧ ∀ (j p : Nat), l[j]? = some p → ∃ g, a = some ⟨g, 0, none⟩ ∧ b ≤ g ∧ g < w.heap.size ∧ w.cell? ⟨g, j, none⟩ = some (.int .i64 (p : Int)) := by
  rcases Nat.lt_or_ge 0 l.length with h0 | h0
  · obtain ⟨g, c, e, hg, hs, hc⟩ := ownN_val h h0
    exact ⟨_, c, e, fun j p hj => ⟨g, rfl, hg, hs, hc j p hj⟩⟩
  · have hnil : l = [] := List.length_eq_zero_iff.1 (by omega)
    subst hnil
    rcases h with ⟨hxl, ⟨e1, e2⟩ | ⟨g, cap, cur, e1, hg, hh, hn, hc, hcs, hcur⟩⟩
    · exact ⟨_, _, e1, fun j p hj => by simp at hj⟩
    · exact ⟨_, _, e1, fun j p hj => by simp at hj⟩
section
variable {P : Program} (w : World) {ops : Array Oper} {rest : List Oper} {o : Oper} {a : Act} {Q : Exit → Act → World → Prop}
theorem wpList_insert_funM (hg : o.guard = none) (mo x v : Operand) (t : TypeId) (hop : o.op = Op.insert t mo x v) (k e : TypeId) (K : Keyed P k) (ht : P.underlying t = some (.map k e)) (he : P.underlying e = some (.int .i64))
    (b n : Nat) (m : Value → Option Int) (hm : a.eval mo = .map (some b)) (hown : FunM P k e w b n m) (hn : n < maxLen) (key : Value) (kl : Lit) (hx : a.eval x = key) (hkey : keyOf P k key = some kl) (z : Int) (hv : a.eval v = .int .i64 z) (hwz : (Lit.int .i64 z).wf = true)
    (hK : ∀ w' m', FunM P k e w' b (n + 1) m' → m' key = some z → (∀ j, j ≠ key → m' j = m j) → w.grownBy w' (some b) → wpList P ops Q rest (a.put o.dst undef) w') : wpList P ops Q (o :: rest) a w := by
  obtain ⟨D, hD, hat⟩ := hown
  refine wpList_plain hg fun K' hK' => ?_
  obtain ⟨w', hrun, h1, h2⟩ := hD.update K ht hn hkey (plainElem_int (H := Unit) he hwz)
  unfold Oper.wp
  simp [execOp, hop, hm, hx, hv, hrun, Result.andThen]
  refine hK' _ _ ?_
  classical
  refine hK w' (fun j => if j = key then some z else m j) ⟨_, h1, fun j jl hj => ?_⟩ (if_pos rfl) (fun j hj => if_neg hj) h2
  by_cases h : j = key
  · subst h
    rw [hkey] at hj
    cases hj
    rw [atKey_put_same hD.isMap (K.key hkey), has_put_same hD.isMap (K.key hkey)]
    dsimp only
    rw [if_pos rfl]
    exact ⟨rfl, rfl⟩
  · have hne : jl ≠ kl := fun e => h (K.inj (e ▸ hj) hkey)
    rw [atKey_put_other hne, has_put_other hne]
    dsimp only
    rw [if_neg h]
    exact hat j jl hj
end
/-- The numbers of the first places. -/
def MapOk (m : Value → Option Int) (l : List Nat) (k : Nat) : Prop := m (.int .i64 0) = some 0 ∧ m (.int .i64 1) = some 1 ∧ ∀ (j q : Nat), j < k → l[j]? = some q → m (.int .i64 (q : Int)) = some ((j + 2 : Nat) : Int)
theorem mapOk_get {m : Value → Option Int} {l : List Nat} {k c : Nat} (h : MapOk m l k) (hn : l.Nodup) (hl : ∀ q ∈ l, 2 ≤ q) (hc : c < 2 ∨ ∃ j, j < k ∧ l[j]? = some c) : (m (.int .i64 (c : Int))).getD 0 = (at3 l c : Nat) := by
  rcases hc with hc | ⟨j, hj, he⟩
  · have e : at3 l c = c := by unfold at3; rw [if_pos hc]
    rw [e]
    have : c = 0 ∨ c = 1 := by omega
    rcases this with rfl | rfl
    · rw [show ((0 : Nat) : Int) = 0 from rfl, h.1]; rfl
    · rw [show ((1 : Nat) : Int) = 1 from rfl, h.2.1]; rfl
  · rw [h.2.2 j c hj he, at3_some hn he (hl c (List.mem_of_getElem? he))]
    rfl
theorem ownD_row {w w' : World} {base : Nat} {e : TypeId} {v : Value} {N : List (Nat × Nat × Nat)} (h : OwnD w base e v N) (hk : ∀ (c : Nat) (o : Obj), w.heap[c]? = some o → v.ownBlock = some c → w'.heap[c]? = some o) : OwnD w' base e v N := by
  rcases h with ⟨hxl, ⟨e1, e2⟩ | ⟨g, cap, cur, e1, hg, hh, hn, hc, hcs, hcur⟩⟩
  · exact ⟨hxl, .inl ⟨e1, e2⟩⟩
  · exact ⟨hxl, .inr ⟨g, cap, cur, e1, hg, hk g _ hh (by rw [e1]; rfl), hn, hc, hcs, hcur⟩⟩
theorem mapOk_next {m m' : Value → Option Int} {l : List Nat} {k q : Nat} (h : MapOk m l k) (hn : l.Nodup) (hq : l[k]? = some q) (h2 : 2 ≤ q) (h1 : m' (.int .i64 (q : Int)) = some ((k : Int) + 2)) (ho : ∀ j, j ≠ .int .i64 (q : Int) → m' j = m j) : MapOk m' l (k + 1) := by
  have hne : ∀ z : Int, z ≠ (q : Int) → m' (.int .i64 z) = m (.int .i64 z) := fun z hz => ho _ fun e => hz (by injection e)
  refine ⟨by rw [hne 0 (by omega)]; exact h.1, by rw [hne 1 (by omega)]; exact h.2.1, fun j q' hj hq' => ?_⟩
  by_cases e : j = k
  · subst e
    rw [hq] at hq'
    injection hq' with hq'
    subst hq'
    rw [h1]
    rfl
  · have hqq : q' ≠ q := fun e2 => by
      subst e2
      exact e ((List.getElem?_inj (List.getElem?_eq_some_iff.1 hq').1 hn).1 (hq'.trans hq.symm))
    rw [hne _ (by omega)]
    exact h.2.2 j q' (by omega) hq'
set_option maxRecDepth 100000 in
set_option maxHeartbeats 6400000 in
theorem result_any {w : World} {b0 B mp md base : Nat} {v : Value} {N : List (Nat × Nat × Nat)} {D : Nat} (h : Bld rk w b0 B mp md base v N D) (p : Nat) (hp : p < N.length + 2) (hl : N.length ≤ 1000000) (hlen : (dfs3 N (p + 1) p []).length ≤ 50000) :
    Calls Tryz.prog 46 #[.pointer (some ⟨B, 0, none⟩), .int .i64 (p : Int)] w (RetDg (relab3 N (dfs3 N (p + 1) p [])) (at3 (dfs3 N (p + 1) p []) p) w) := by
  obtain ⟨i0, hi0, hz0, hz1, hz2⟩ := info_parts Tryz.infoD
  have hg := h.good
  have hO := dfs3_ordr hg (p + 1) p [] (Nat.lt_succ_self p) hp (ordr3_nil N)
  have hPM := (dfs3_closed hg (p + 1) p [] (Nat.lt_succ_self p) hp (closed3_nil N)).2
  have HW := Lib.hid (fun ad cap w' hi => walk_any hg (by omega) p hp ad cap w' hi)
  obtain ⟨ls, hls⟩ : ∃ ls, dfs3 N (p + 1) p [] = ls := ⟨_, rfl⟩
  rw [hls] at hO hPM HW hlen ⊢
  have hd := h.dist
  obtain ⟨b1, b2, b3, b4, b5⟩ := bld_cells h
  obtain ⟨va, vc, rfl, hin⟩ := ownD_in h.own
  have HB := Lib.hid h
  have HO := Lib.hid hO
  have HPM := Lib.hid hPM
  have HIN := Lib.hid hin
  have hmm := @run_makeMap Tryz.prog
  clear h hin hO hls hPM
  go_enter Tryz.func46, Tryz.ntmps46
  go_wp2_with fail
  refine (HW.out va vc _ (show InD _ _ va (N.map z3) from (HIN.out.of (by (repeat' (first | (with_reducible exact Below.refl _ _) | (with_reducible exact Nat.le_refl _) | (with_reducible refine Below.bel ?_ ?_) | (with_reducible refine Below.alloc ?_ ?_ _) | (with_reducible refine Below.drew ?_) | (with_reducible refine Below.drawsN ?_ _) | (with_reducible refine Below.setCell ?_ ?_ _) | (with_reducible refine le_bel ?_) | (with_reducible refine le_alloc ?_) | (with_reducible refine le_setCell ?_) | (with_reducible refine le_drew ?_) | (with_reducible refine le_drawsN ?_) | (dsimp only; with_reducible refine le_bel ?_) | (dsimp only; with_reducible refine Nat.le_refl _) | (dsimp only; with_reducible refine le_bel_add ?_) | (with_reducible assumption) | omega | (dsimp only; omega))))).up (by simp))).mono ?_
  rintro _ W1 ⟨lv, rfl, how, hb1⟩
  obtain ⟨la, lc, rfl, hlc⟩ := ownN_sl how
  have HLC := Lib.hid hlc
  have hBR := obj_in hb1 (World.alloc_heap_new w (.cells #[.slice none 0 0, .int .i64 0] 30 (0, 0)))
  have HBR := Lib.hid hBR
  have hbw : Below w.heap.size w W1 := ((Below.refl _ w).alloc (Nat.le_refl _) _).trans (hb1.mono (by simp))
  have HBW := Lib.hid hbw
  have HB1 := Lib.hid (HB.out.bel hbw)
  have hsw : w.heap.size + 1 ≤ W1.heap.size := by have := hb1.size; simpa using this
  have f1 : decide ((50000 : Int) < (ls.length : Int)) = false := decide_eq_false (by omega)
  clear how hlc hb1 hBR hbw b1 b2 b3 b4 b5 HW HIN
  dsimp only
  go_wp2_with (first | (refine wpList_insert_funM _ rfl _ _ _ _ rfl 3 3 keyedI Tryz.underlying105 Tryz.underlying3 W1.heap.size 0 (fun _ => none) rfl (funM_made W1 _ _ _) (by unfold maxLen; omega) (.int .i64 0) _ rfl (key_i (by decide)) 0 rfl (by decide) ?_; intro w2 m2 hm2 hz2' ho2 hg2; have HM2 := Lib.hid hm2; have HH2 := Lib.hid (And.intro hz2' ho2); have HG2 := Lib.hid hg2; have hs2 := hg2.size; rw [World.size_alloc] at hs2; clear hm2 hz2' ho2 hg2) | (refine wpList_insert_funM _ rfl _ _ _ _ rfl 3 3 keyedI Tryz.underlying105 Tryz.underlying3 W1.heap.size 1 m2 rfl HM2.out (by unfold maxLen; omega) (.int .i64 1) _ rfl (key_i (by decide)) 1 rfl (by decide) ?_; intro w3 m3 hm3 hz3' ho3 hg3; have HM3 := Lib.hid hm3; have HH3 := Lib.hid (And.intro hz3' ho3); have HG3 := Lib.hid hg3; have hs3 := hg3.size; clear hm3 hz3' ho3 hg3))
  have HB3 := Lib.hid (show Below W1.heap.size W1 w3 from ((((Below.refl _ W1).alloc (Nat.le_refl _) _).grown HG2.out (by simp) (fun k hk => by injection hk with hk; omega)).grown HG3.out (by omega) (fun k hk => by injection hk with hk; omega)))
  obtain ⟨BO, hBO⟩ : ∃ BO, w3.heap.size = BO := ⟨_, rfl⟩
  have HBO := Lib.hid hBO
  rw [hBO] at hs3 ⊢
  clear hBO
  go_loopw [31] (fun i wr => ∃ (k n : Nat) (m : Value → Option Int) (ov : Value), i = .int .i64 (k : Int) ∧ k ≤ ls.length ∧ FunM Tryz.prog 3 3 wr W1.heap.size n m ∧ n ≤ k + 2 ∧ MapOk m ls k ∧ wr.heap[BO]? = some (.cells #[ov, .int .i64 0] 30 (0, 0)) ∧ OwnD wr (BO + 1) 55 ov ((relab3 N ls).take k) ∧ Below W1.heap.size W1 wr ∧ BO + 1 ≤ wr.heap.size) (fun i _ => ls.length - (intOf i).toNat)
  case atStart =>
    have a0 := World.alloc_heap_new w3 (.cells #[.slice none 0 0, .int .i64 0] 30 (0, 0))
    rw [HBO.out] at a0
    refine ⟨0, 2, m3, .slice none 0 0, rfl, by omega, HM3.out.heap fun o ho => obj_alloc _ ho, Nat.le_refl _, ⟨?_, HH3.out.1, fun j q hj => by omega⟩, a0, ownD_nil _ _ _, HB3.out.alloc (by have := HBO.out; omega) _, by rw [World.size_alloc, HBO.out]; omega⟩
    rw [HH3.out.2 _ (by intro e; injection e with _ e; omega)]
    exact HH2.out.1
  case round =>
    obtain ⟨k, n, m, ov, rfl, hk, hm, hn, hmo, hbox, how, hbe, hsz⟩ := hrel
    have HM := Lib.hid hm
    have HMO := Lib.hid hmo
    have HBX := Lib.hid hbox
    have HOW := Lib.hid how
    have HBE := Lib.hid hbe
    have HBR1 := Lib.hid (HB1.out.bel hbe)
    obtain ⟨c8, c9⟩ : wr.cell? ⟨BO, 0, none⟩ = some ov ∧ wr.frozen? ⟨BO, 0, none⟩ = false := by
      refine ⟨?_, ?_⟩ <;> simp [World.cell?, World.frozen?, hbox]
    have hl2 : ∀ q ∈ ls, 2 ≤ q := fun q hq => by
      obtain ⟨j, hj⟩ := List.mem_iff_getElem?.1 hq
      exact (ordr3_kids hg HO.out hj).1
    have HL2 := Lib.hid hl2
    clear hbe hbox hmo hl2
    rcases Nat.lt_or_ge k ls.length with hkl | hkl
    · obtain ⟨q, hq⟩ : ∃ q, ls[k]? = some q := ⟨_, List.getElem?_eq_getElem hkl⟩
      obtain ⟨q2, qn, kno, kye⟩ := ordr3_kids hg HO.out hq
      have hrn := mapOk_get HMO.out HO.out.2 HL2.out kno
      have hry := mapOk_get HMO.out HO.out.2 HL2.out kye
      have HRK := Lib.hid (relab3_at (N := N) hq)
      obtain ⟨na, hna⟩ : ∃ x, (node3 N q).1 = x := ⟨_, rfl⟩
      obtain ⟨nn, hnn⟩ : ∃ x, (node3 N q).2.1 = x := ⟨_, rfl⟩
      obtain ⟨ny, hny⟩ : ∃ x, (node3 N q).2.2 = x := ⟨_, rfl⟩
      obtain ⟨gl, hla, hgl, hgls, hcl⟩ := HLC.out k q hq
      subst hla
      have hcl' := cell_in HBE.out hcl
      obtain ⟨b1, -⟩ := bld_cells HBR1.out
      obtain ⟨gb, cb, eb, x0, x1, x2⟩ := bld_node HBR1.out qn q2
      injection eb with eb1 eb2 eb3
      subst eb1
      have hkd := node3_ok hg qn q2
      rw [hna, hnn, hny] at hkd
      rw [hnn] at hrn x1
      rw [hny] at hry x2
      rw [hna] at x0
      rw [hna, hnn, hny] at HRK
      obtain ⟨rn, hrn'⟩ : ∃ x, at3 ls nn = x := ⟨_, rfl⟩
      obtain ⟨ry, hry'⟩ : ∃ x, at3 ls ny = x := ⟨_, rfl⟩
      rw [hrn'] at hrn HRK
      rw [hry'] at hry HRK
      obtain ⟨qq, hqq⟩ : ∃ qq, q - 2 = qq := ⟨_, rfl⟩
      rw [hqq] at x0 x1 x2
      have hqi : ((q : Int) - 2) = (qq : Int) := by omega
      have hib : (0 ≤ (qq : Int) ∧ (qq : Int) < (N.length : Int)) := ⟨by omega, by omega⟩
      have hik : (0 ≤ (k : Int) ∧ (k : Int) < (ls.length : Int)) := ⟨by omega, by omega⟩
      have f0 : decide ((k : Int) < (ls.length : Int)) = true := decide_eq_true (by omega)
      have hwn : (Lit.int .i64 (nn : Int)).wf = true := wf_nat (by omega)
      have hwy : (Lit.int .i64 (ny : Int)).wf = true := wf_nat (by omega)
      have hwq : (Lit.int .i64 (q : Int)).wf = true := wf_nat (by omega)
      have hrun1 : ∀ o, (Instr.lookup 105 (.map (some W1.heap.size)) (.int .i64 (nn : Int)) false).run Tryz.prog (wr.alloc o) = .ok (.int .i64 (rn : Int)) (wr.alloc o) := fun o => by
        have := funM_run (t := 105) (w := wr.alloc o) keyedI Tryz.underlying105 Tryz.underlying3 (by rfl) (HM.out.heap fun ob ho => obj_alloc o ho) (key_i hwn)
        rw [hrn] at this
        exact this
      have hrun2 : ∀ o, (Instr.lookup 105 (.map (some W1.heap.size)) (.int .i64 (ny : Int)) false).run Tryz.prog (wr.alloc o) = .ok (.int .i64 (ry : Int)) (wr.alloc o) := fun o => by
        have := funM_run (t := 105) (w := wr.alloc o) keyedI Tryz.underlying105 Tryz.underlying3 (by rfl) (HM.out.heap fun ob ho => obj_alloc o ho) (key_i hwy)
        rw [hry] at this
        exact this
      have HQ := Lib.hid hq
      clear hq kno kye hrn hry hna hnn hny hrn' hry' hcl hwn hwy hkd
      have hsrc : ∀ o1 o2, ((wr.alloc o1).alloc o2).heap[wr.heap.size + 1]? = some o2 := fun o1 o2 => by
        have := World.alloc_heap_new (wr.alloc o1) o2
        rwa [World.size_alloc] at this
      have HAL := Lib.hid (show ∀ o1 o2, Below wr.heap.size wr ((wr.alloc o1).alloc o2) from fun o1 o2 => ((Below.refl _ wr).alloc (Nat.le_refl _) _).alloc (by simp) _)
      have HSRC := Lib.hid hsrc
      have hneB : some BO ≠ ov.ownBlock := fun e => by have := ownD_lt HOW.out e.symm; omega
      have hneM : some W1.heap.size ≠ ov.ownBlock := fun e => by have := ownD_lt HOW.out e.symm; omega
      have hmlt := HM.out.lt
      have htk : ((relab3 N ls).take k).length = k := by rw [List.length_take, relab3_len]; omega
      clear hsrc how hm
      go_wp2_with (first | (at_builtin; refine wpList_appD rfl _ _ 28 55 rfl i0 Tryz.underlying28 hi0 hz0 hz1 hz2 _ (BO + 1) ov ((relab3 N ls).take k) na rn ry (wr.heap.size + 1) rfl (World.ownsRow.alloc (World.ownsRow.alloc (HOW.out) _) _) rfl (HSRC.out _ _) (by omega) (by simp; omega) ?_; intro g1 cp1 w4 hrow4 hg4 hgv4; rw [htk] at hrow4; have HRW := Lib.hid hrow4; have HG4 := Lib.hid hg4; have c8' := hg4.cell (cell_in (HAL.out _ _) c8) hneB; have c9' : w4.frozen? ⟨BO, 0, none⟩ = false := ((hg4.frozen_far _ (World.block_lt_of_cell? _ _ (cell_in (HAL.out _ _) c8)) hneB).trans (frozen_in (HAL.out _ _) c8)).trans c9; have HM4 := Lib.hid (show ∀ u, FunM Tryz.prog 3 3 (w4.setCell ⟨BO, 0, none⟩ u) W1.heap.size n m from fun u => HM.out.heap fun ob ho => obj_neD _ (by omega) ((hg4.block _ (by simp; omega) hneM).trans (obj_in (HAL.out _ _) ho))); have hs4 := hg4.size; simp only [World.size_alloc] at hs4; clear hrow4 hg4 hgv4) | (at_mapUpdate; refine wpList_update_funM _ rfl _ _ _ _ rfl 3 3 keyedI Tryz.underlying105 Tryz.underlying3 W1.heap.size n m rfl (HM4.out _) (by unfold maxLen; omega) (.int .i64 (q : Int)) _ rfl (key_i hwq) ((k : Int) + 2) rfl (wf_i64D ⟨by omega, by omega⟩) ?_; intro w5 m5 hm5 hz5 ho5 hg5; have HM5 := Lib.hid hm5; have HH5 := Lib.hid (And.intro hz5 ho5); have HG5 := Lib.hid hg5; have hs5 := hg5.size; clear hm5 hz5 ho5 hg5))
      have hb4 := (HG4.out.block BO (by simp; omega) hneB).trans (obj_in (HAL.out _ _) HBX.out)
      have HB4 := Lib.hid ((HG5.out.block BO (by simp; omega) (fun e => by injection e; omega)).trans (obj_setD (i := 0) (.slice (some ⟨g1, 0, none⟩) (k + 1) cp1) hb4))
      have HOW5 := Lib.hid (show OwnD w5 (BO + 1) 55 (.slice (some ⟨g1, 0, none⟩) (k + 1) cp1) ((relab3 N ls).take (k + 1)) from by
        have e : (relab3 N ls).take (k + 1) = (relab3 N ls).take k ++ [(na, rn, ry)] := by rw [List.take_add_one, HRK.out]; rfl
        rw [e]
        refine ownD_row (show OwnD w4 _ _ _ _ from HRW.out) fun c o hc hv => ?_
        have := (World.ownsRow.lt HRW.out c hv).1
        have h1 := obj_neD (i := 0) (.slice (some ⟨g1, 0, none⟩) (k + 1) cp1) (show c ≠ BO by omega) hc
        exact (HG5.out.block c (Array.getElem?_eq_some_iff.1 h1).1 (fun e => by injection e; omega)).trans h1)
      have HBE5 := Lib.hid (show Below W1.heap.size W1 w5 from by
        have e1 := HBE.out.trans ((HAL.out (.cells #[.int .i64 (na : Int), .int .i64 (nn : Int), .int .i64 (ny : Int)] 55 (0, 0)) (.cells #[.int .i64 (na : Int), .int .i64 (rn : Int), .int .i64 (ry : Int)] 55 (0, 0))).mono (show W1.heap.size ≤ wr.heap.size by omega))
        have e2 := e1.grown HG4.out (by simp; omega) (fun k hk => by have := ownD_lt HOW.out hk; omega)
        have e3 := e2.setCell (p := ⟨BO, 0, none⟩) (show W1.heap.size ≤ BO by omega) (.slice (some ⟨g1, 0, none⟩) (k + 1) cp1)
        exact e3.grown HG5.out (by simp; omega) (fun k hk => by injection hk with hk; omega))
      have hsz5 : BO + 1 ≤ w5.heap.size := by simp at hs5; omega
      go_roundw
      case rel =>
        refine ⟨_, _, _, _, ⟨k + 1, ?_, by omega, n + 1, m5, HM5.out, by omega, mapOk_next HMO.out HO.out.2 HQ.out q2 HH5.out.1 HH5.out.2, _, HB4.out, HOW5.out, HBE5.out, hsz5⟩, rfl, rfl, rfl, rfl⟩
        congr 1
      case measure => simp [intOf]; omega
    · have hke : k = ls.length := by omega
      subst hke
      have f0 : decide ((ls.length : Int) < (ls.length : Int)) = false := decide_eq_false (by omega)
      have hwp : (Lit.int .i64 (p : Int)).wf = true := wf_nat (by omega)
      have hrp := mapOk_get (c := p) HMO.out HO.out.2 HL2.out (HPM.out.imp_right fun hm => by
        obtain ⟨j, hj⟩ := List.mem_iff_getElem?.1 hm
        exact ⟨j, (List.getElem?_eq_some_iff.1 hj).1, hj⟩)
      obtain ⟨rp, hrp'⟩ : ∃ x, at3 ls p = x := ⟨_, rfl⟩
      rw [hrp'] at hrp
      have HRP := Lib.hid hrp'
      have hrun : (Instr.lookup 105 (.map (some W1.heap.size)) (.int .i64 (p : Int)) false).run Tryz.prog wr = .ok (.int .i64 (rp : Int)) wr := by
        have := funM_run (t := 105) (w := wr) keyedI Tryz.underlying105 Tryz.underlying3 (by rfl) HM.out (key_i hwp)
        rw [hrp] at this
        exact this
      rw [show (relab3 N ls).take ls.length = relab3 N ls from List.take_of_length_le (by rw [relab3_len]; omega)] at how HOW
      obtain ⟨oa, oc, rfl, hio⟩ := ownD_in how
      have hbr := obj_in HBE.out HBR.out
      have hbx := HBX.out
      obtain ⟨c10, c11⟩ : wr.cell? ⟨BO, 1, none⟩ = some (.int .i64 0) ∧ wr.frozen? ⟨BO, 1, none⟩ = false := by
        refine ⟨?_, ?_⟩ <;> simp [World.cell?, World.frozen?, hbx]
      obtain ⟨d0, d1, d2, d3⟩ : wr.cell? ⟨w.heap.size, 0, none⟩ = some (.slice none 0 0) ∧ wr.cell? ⟨w.heap.size, 1, none⟩ = some (.int .i64 0) ∧ wr.frozen? ⟨w.heap.size, 0, none⟩ = false ∧ wr.frozen? ⟨w.heap.size, 1, none⟩ = false := by
        refine ⟨?_, ?_, ?_, ?_⟩ <;> simp [World.cell?, World.frozen?, hbr]
      have hne1 : w.heap.size ≠ BO := by omega
      have hne2 : BO ≠ w.heap.size := by omega
      clear how hm hrp hrp' hio hbr hbx
      go_wp2
      refine bodyPost_ret (v := .tuple #[.agg #[.slice oa (relab3 N ls).length oc, .int .i64 (rp : Int)], .int .i64 0]) (by simp [results, Tryz.results46, go_sem, d0, d1]) rfl ?_
      have hF : OwnD (((wr.setCell ⟨BO, 1, none⟩ (.int .i64 (rp : Int))).setCell ⟨w.heap.size, 0, none⟩ (.slice oa (relab3 N ls).length oc)).setCell ⟨w.heap.size, 1, none⟩ (.int .i64 (rp : Int))) (BO + 1) 55 (.slice oa (relab3 N ls).length oc) (relab3 N ls) := ownD_row HOW.out fun c o hc hv => by
        have := (ownD_lt HOW.out hv).1
        exact obj_neD _ (by omega) (obj_neD _ (by omega) (obj_neD _ (by omega) hc))
      obtain ⟨a', c', e', hi'⟩ := ownD_in hF
      injection e' with e1 _ e3
      subst e1
      refine ⟨_, _, by rw [HRP.out], hi', fun g off k hg => Nat.le_trans (by omega) (ownD_fresh hF g off k hg), ?_⟩
      have e1 := HBW.out.trans (HBE.out.mono (by omega))
      exact ((e1.setCell (p := ⟨BO, 1, none⟩) (by simp; omega) _).setCell (p := ⟨w.heap.size, 0, none⟩) (Nat.le_refl _) _).setCell (p := ⟨w.heap.size, 1, none⟩) (Nat.le_refl _) _
end Go.Proofs.YtkdmhjlcgpnjpaaGreatDoor
