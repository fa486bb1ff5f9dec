/- minimize.outputs. minimize.Clean and Support. minimize.Support. minimize.Diagrams. -/
import Derived.Test.YtlnedapimmabdaaGreatDoorVg
namespace Go.Proofs.YtlnedapimmabdaaGreatDoor
set_option linter.unusedVariables false
set_option linter.unusedSimpArgs false
open Go.RowKit Go.Maps
attribute [local go_sem low] Bel.cell Bel.frozen alloc_cell alloc_frozen

def DsO (W : World) (base : Nat) (v : Value) (l : List DN) : Prop := W.ownsRow base 63 2 v l.length (cellsDg l) ∧ ∀ x ∈ l, InD W.heap.size W x.1 (x.2.2.1.map z3) ∧ (0 < x.2.2.1.length → ∀ g off k, x.1 = some ⟨g, off, k⟩ → v.ownBlock ≠ some g)
theorem dsO_nil (W : World) (base : Nat) : DsO W base (.slice none 0 0) [] := ⟨World.ownsRow_nil _ _ _ _, fun x h => by cases h⟩
theorem DsO.of {W W' : World} {base : Nat} {v : Value} {l : List DN} (h : DsO W base v l) (hb : Below W.heap.size W W') : DsO W' base v l :=
  ⟨ownsRow_heap h.1 fun g hg => hb.block g (World.ownsRow.lt h.1 g hg).2, fun x hx => ⟨((h.2 x hx).1.of hb).up hb.size, (h.2 x hx).2⟩⟩
theorem DsO.val {W : World} {base : Nat} {v : Value} {l : List DN} (h : DsO W base v l) : ∃ a c, v = .slice a l.length c := by
  rcases h.1.2 with ⟨rfl, h0⟩ | ⟨g, cap, cur, rfl, _⟩
  · exact ⟨none, 0, by rw [h0]⟩
  · exact ⟨_, _, rfl⟩
theorem DsO.at {W : World} {base : Nat} {v : Value} {l : List DN} (h : DsO W base v l) {j : Nat} {x : DN} (hj : l[j]? = some x) : ∃ g c, v = .slice (some ⟨g, 0, none⟩) l.length c ∧ g < W.heap.size ∧ W.cell? ⟨g, j * 2, none⟩ = some (.slice x.1 x.2.2.1.length x.2.1) ∧ W.cell? ⟨g, j * 2 + 1, none⟩ = some (.int .i64 (x.2.2.2 : Int)) := by
  obtain ⟨h1, h2⟩ := cellsDg_at l j x hj
  have hjl := (List.getElem?_eq_some_iff.1 hj).1
  rcases h.1 with ⟨hxl, ⟨e1, e2⟩ | ⟨g', cap', cur, e1, hg, hh, hn, hc, hcs, hcur⟩⟩
  · omega
  · rw [← hcur, List.getElem?_take_of_lt (by omega)] at h1 h2
    refine ⟨g', cap', e1, (Array.getElem?_eq_some_iff.1 hh).1, ?_, ?_⟩
    · simp [World.cell?, hh]
      simpa using h1
    · simp [World.cell?, hh]
      simpa using h2
theorem wpList_appDg {P : Program} {ops : Array Oper} {rest : List Oper} {o : Oper} {a : Act} {Q : Exit → Act → World → Prop} (hgd : o.guard = none) (s x : Operand) (T : TypeId)
    (ho : o.op = .call { callee := .builtin .append, args := #[s, x], argTypes := #[T, T] }) (i : TypeInfo) (ht : P.underlying T = some (.slice 63)) (hi : P.info? 63 = some i)
    (hz : i.zero = some (.agg #[.slice none 0 0, .int .i64 0])) (hsize : i.size = 2) (hby : i.bytes = 32) (W : World) (base : Nat) (v : Value) (l : List DN) (u : DN) (g0 : Nat)
    (hs : a.eval s = v) (hown : DsO W base v l) (hu : InD W.heap.size W u.1 (u.2.2.1.map z3)) (hun : 0 < u.2.2.1.length → ∀ g off k, u.1 = some ⟨g, off, k⟩ → v.ownBlock ≠ some g) (hx : a.eval x = .slice (some ⟨g0, 0, none⟩) 1 1) (hsrc : W.heap[g0]? = some (.cells #[.slice u.1 u.2.2.1.length u.2.1, .int .i64 (u.2.2.2 : Int)] 63 (0, 0))) (hn : l.length ≤ 100000000) (hbase : base ≤ W.heap.size)
    (h : ∀ g c w1, DsO w1 base (.slice (some ⟨g, 0, none⟩) (l.length + 1) c) (l ++ [u]) → Below base W w1 → W.heap.size ≤ w1.heap.size → wpList P ops Q rest (a.put o.dst (.slice (some ⟨g, 0, none⟩) (l.length + 1) c)) w1) :
    wpList P ops Q (o :: rest) a W := by
  refine wpList_append_own_at _ hgd s x T ho base 63 i _ 2 32 ht hi hz hsize hby rfl (by decide) v l.length (cellsDg l) hs hown.1 ⟨g0, 0, none⟩ 1 1 [.slice u.1 u.2.2.1.length u.2.1, .int .i64 (u.2.2.2 : Int)] hx rfl ?_ ?_ (by unfold maxLen; omega) (by omega) hbase ?_
  · intro j z hj
    match j, hj with
    | 0, hj => simp at hj; subst hj; simp [Addr.add, World.cell?, hsrc]
    | 1, hj => simp at hj; subst hj; simp [Addr.add, World.cell?, hsrc]
  · intro z hz
    simp at hz
    rcases hz with rfl | rfl <;> rfl
  · intro v' w1 hrow hg hnil h5
    obtain ⟨g, c, rfl⟩ : ∃ g c, v' = .slice (some ⟨g, 0, none⟩) (l.length + 1) c := by
      rcases hrow.2 with ⟨_, h0⟩ | ⟨g, cp, cur, hv, _⟩
      · omega
      · exact ⟨g, cp, hv⟩
    refine h g c w1 ⟨?_, fun y hy => ?_⟩ ((Below.refl _ W).grown hg hbase (fun k hk => (World.ownsRow.lt hown.1 k hk).1)) hg.size
    · rw [cellsDg_app, List.length_append]
      exact hrow
    · have key : ∀ y : DN, InD W.heap.size W y.1 (y.2.2.1.map z3) → (0 < y.2.2.1.length → ∀ g off k, y.1 = some ⟨g, off, k⟩ → v.ownBlock ≠ some g) → InD w1.heap.size w1 y.1 (y.2.2.1.map z3) ∧ (0 < y.2.2.1.length → ∀ gg off k, y.1 = some ⟨gg, off, k⟩ → (Value.slice (some ⟨g, 0, none⟩) (l.length + 1) c).ownBlock ≠ some gg) := fun y h1 h2 => by
        refine ⟨fun h0 => ?_, fun h0 gg off k e e2 => ?_⟩
        · obtain ⟨g', off, e, hg', hcs⟩ := h1 h0
          rw [List.length_map] at h0
          refine ⟨g', off, e, by have := hg.size; omega, fun j x hj => ?_⟩
          have hb : w1.heap[g']? = W.heap[g']? := hg.block g' hg' (fun e2 => h2 h0 g' off none e e2.symm)
          obtain ⟨k1, k2, k3⟩ := hcs j x hj
          exact ⟨(World.cell?_of_block (a := ⟨g', _, none⟩) hb).trans k1, (World.cell?_of_block (a := ⟨g', _, none⟩) hb).trans k2, (World.cell?_of_block (a := ⟨g', _, none⟩) hb).trans k3⟩
        · have k1 := h2 h0 gg off k e
          obtain ⟨g', off', e', hg', _⟩ := h1 (by rw [List.length_map]; exact h0)
          rw [e] at e'
          injection e' with e'
          injection e' with e3 _ _
          rcases h5 with h5 | h5
          · exact k1 (h5.symm.trans e2)
          · rw [h5] at e2
            injection e2 with e2
            omega
      rcases List.mem_append.1 hy with hy | hy
      · exact key y (hown.2 y hy).1 (hown.2 y hy).2
      · rw [List.mem_singleton.1 hy]
        exact key u hu hun
def RetO (R : Fn3 → Dg3 → Prop) (fs : List Fn3) (w : World) (e : Ending) (w' : World) : Prop := ∃ (v : Value) (l : List DN), e = .returned (.tuple #[v, .int .i64 0]) ∧ DsO w' w.heap.size v l ∧ l.length = fs.length ∧ (∀ (j : Nat) (x : DN) (f : Fn3), l[j]? = some x → fs[j]? = some f → R f x.2.2) ∧ Below w.heap.size w w'
def outF (G : List Gt) (O : List Nat) : List Fn3 := O.map fun o => fun ρ => vl ρ G o
set_option maxRecDepth 100000 in
set_option maxHeartbeats 12800000 in
theorem outputs_any (R : Fn3 → Dg3 → Prop) (G : List Gt) (O : List Nat) (v : Nat) (P Q : Nat → Prop) (ga oa : Option Addr) (gc oc : Nat) (w : World) (hD : DgNet R G (reachG G O)) (hok : okL v G) (hg : InGt P w ga (G.map gz)) (ho : InS Q w oa (intsN O)) (hO : ∀ o ∈ O, o < G.length) (hl : G.length ≤ 1000000) (hol : O.length ≤ 1000000) (hil : ∀ g ∈ G, g.2.2.length ≤ 17592186044416) :
    Calls Tryz.prog 47 #[nV ga G.length gc oa O.length oc] w (RetO R (outF G O) w) := by
  obtain ⟨i0, hi0, hz0, hz1, hz2⟩ := info_parts Tryz.infoDg
  have HDG := Lib.hid (fun w' (hb : Below w.heap.size w w') => diagrams_any R G O v P Q ga oa gc oc w' hD hok (hg.of hb) (ho.of hb) hO hl (by omega) hil)
  have HOI := Lib.hid ho
  have HO := Lib.hid hO
  have HON := Lib.hid (show ∀ o ∈ O, reachG G O o = true from fun o ho => reachG_outs G O ho)
  obtain ⟨n, hn⟩ : ∃ n, G.length = n := ⟨_, rfl⟩
  have HN := Lib.hid hn
  unfold RetDs at HDG
  rw [hn] at hl HDG ⊢
  unfold nV at HDG
  clear hok hg ho hO hil hn hD
  unfold nV
  go_enter Tryz.func47, Tryz.ntmps47
  go_wp2_with fail
  refine (HDG.out _ (by (repeat' (first | (with_reducible first | apply Zl1 | apply Zl2 | apply Zl3 | apply Zl4 | apply Zl5 | apply Zl6 | apply Zl7 | apply Zl8 | apply Zl9 | apply Zla | apply Zlb | apply Zlc) | (dsimp only; with_reducible first | apply Zl8 | apply Zl2 | apply Zld) | with_reducible assumption | omega | (dsimp only; omega))))).mono ?_
  rintro _ W1 ⟨ds, T, rfl, hds, hRd, hb1⟩
  have hnet := obj_in hb1 (World.alloc_heap_new w (.cells #[.slice ga n gc, .slice oa O.length oc] 25 (0, 0)))
  obtain ⟨n1, n2, -⟩ := box2 hnet
  have hb1w : Below w.heap.size w W1 := (show Below w.heap.size w _ by (repeat' (first | (with_reducible first | apply Zl1 | apply Zl2 | apply Zl3 | apply Zl4 | apply Zl5 | apply Zl6 | apply Zl7 | apply Zl8 | apply Zl9 | apply Zla | apply Zlb | apply Zlc) | (dsimp only; with_reducible first | apply Zl8 | apply Zl2 | apply Zld) | with_reducible assumption | omega | (dsimp only; omega)))).trans (hb1.mono (by simp))
  have HDS := Lib.hid hds
  have HRD := Lib.hid hRd
  have HB1 := Lib.hid hb1w
  have hs1 : w.heap.size < W1.heap.size := by have := hb1.size; simp at this; omega
  clear hds hRd hb1 hnet hb1w
  dsimp only
  go_wp2_with fail
  clear n1 n2
  go_loopw [6, 20] (fun ov iv wr => ∃ (i : Nat) (l : List DN), iv = .int .i64 (i : Int) ∧ i ≤ O.length ∧ DsO wr W1.heap.size ov l ∧ l.length = i ∧ (∀ (j : Nat) (x : DN) (o : Nat), l[j]? = some x → O[j]? = some o → R (fun ρ => vl ρ G o) x.2.2) ∧ Below W1.heap.size W1 wr) (fun _ iv _ => O.length - (intOf iv).toNat)
  case atStart => exact ⟨0, [], rfl, Nat.zero_le _, dsO_nil _ _, rfl, fun j x o h => by simp at h, Below.refl _ _⟩
  case round =>
    rename World => wo
    obtain ⟨i, l, rfl, hi, hdo, hli, hRl, hbo⟩ := hrel
    obtain ⟨va, vc, hvv⟩ := hdo.val
    rw [hli] at hvv
    subst hvv
    have HDO := Lib.hid hdo
    have HLI := Lib.hid hli
    have HRL := Lib.hid hRl
    have HBO := Lib.hid hbo
    have hbs := hbo.size
    clear hdo hli hRl
    rcases Nat.lt_or_ge i O.length with hil | hil
    · obtain ⟨y, hy⟩ := some_at hil
      have hyn := HO.out y (List.mem_of_getElem? hy)
      rw [HN.out] at hyn
      obtain ⟨b3, o3, hadd, hb3, z0⟩ := ((HOI.out.of HB1.out).of hbo).at (show (intsN O)[i]? = some (y : Int) by unfold intsN; rw [List.getElem?_map, hy]; rfl)
      subst hadd
      obtain ⟨x0, hx0⟩ : ∃ x0, ds[y]? = some x0 := ⟨_, List.getElem?_eq_getElem (by rw [HDS.out.len]; exact hyn)⟩
      have hdso := HDS.out.of hbo
      obtain ⟨t0, t1, -, -⟩ := hdso.at hx0
      have hIx := (HDS.out.ind _ (List.mem_of_getElem? hx0)).1
      have hRx := HRD.out y x0 hx0 (HON.out y (List.mem_of_getElem? hy))
      obtain ⟨xa, xc, xM, xr⟩ := x0
      dsimp only at t0 t1 hIx hRx
      have hsrc := World.alloc_heap_new wo (.cells #[.slice xa xM.length xc, .int .i64 (xr : Int)] 63 (0, 0))
      have hal : Below wo.heap.size wo (wo.alloc (.cells #[.slice xa xM.length xc, .int .i64 (xr : Int)] 63)) := (Below.refl _ _).alloc (Nat.le_refl _) _
      have HY := Lib.hid hy
      have HRX := Lib.hid hRx
      have HDO2 := Lib.hid (HDO.out.of hal)
      have HIX := Lib.hid ((((hIx.of hbo).up hbo.size).of hal).up hal.size)
      have HSRC := Lib.hid hsrc
      have HUN := Lib.hid (show 0 < xM.length → ∀ g off k, xa = some ⟨g, off, k⟩ → (Value.slice va i vc).ownBlock ≠ some g from fun h0 g off k e e2 => by
        obtain ⟨g', off', e', hg', _⟩ := hIx (by rw [List.length_map]; exact h0)
        rw [e] at e'
        injection e' with e'
        injection e' with e3 _ _
        have := (World.ownsRow.lt HDO.out.1 g e2).1
        omega)
      have f2 : decide ((i : Int) < (O.length : Int)) = true := decide_eq_true (by omega)
      have hib2 : (0 ≤ (i : Int) ∧ (i : Int) < (O.length : Int)) := ⟨by omega, by omega⟩
      have hib3 : (0 ≤ (y : Int) ∧ (y : Int) < (n : Int)) := ⟨by omega, by omega⟩
      clear hy hx0 hdso hIx hRx hsrc hal hbo
      go_wp2_with (at_builtin; refine wpList_appDg rfl _ _ 46 rfl i0 Tryz.underlying46 hi0 hz0 hz1 hz2 _ W1.heap.size (.slice va i vc) l (xa, xc, xM, xr) wo.heap.size rfl HDO2.out HIX.out HUN.out rfl HSRC.out (by rw [HLI.out]; omega) (by simp; omega) ?_; intro g1 c1 w1 ho1 hb1 hs2; rw [HLI.out] at ho1 ⊢; have HO1 := Lib.hid ho1; have HB2 := Lib.hid hb1; clear ho1 hb1)
      go_roundw
      case rel =>
        refine ⟨i + 1, l ++ [(xa, xc, xM, xr)], by go_num, by omega, HO1.out, by rw [List.length_append, HLI.out]; rfl, fun j x o hj hjo => ?_, HBO.out.trans (((Below.refl _ wo).alloc hbs _).trans HB2.out)⟩
        rcases Nat.lt_or_ge j l.length with h | h
        · rw [List.getElem?_append_left h] at hj
          exact HRL.out j x o hj hjo
        · rw [List.getElem?_append_right h] at hj
          have hj0 : j = i := by
            have := (List.getElem?_eq_some_iff.1 hj).1
            have h2 := HLI.out
            simp at this
            omega
          subst hj0
          rw [HLI.out, Nat.sub_self] at hj
          injection hj with hj
          subst hj
          rw [HY.out] at hjo
          injection hjo with hjo
          subst hjo
          exact HRX.out
      case measure => simp [intOf]; omega
    · have hke : i = O.length := by omega
      subst hke
      have f2 : decide ((O.length : Int) < (O.length : Int)) = false := decide_eq_false (by omega)
      go_wp2
      refine bodyPost_ret (v := .tuple #[.slice va O.length vc, .int .i64 0]) (by simp [results, Tryz.results47, go_sem]) rfl ⟨_, l, rfl, ?_, by rw [HLI.out, outF, List.length_map], fun j x f hj hf => ?_, HB1.out.trans (HBO.out.mono HB1.out.size)⟩
      · obtain ⟨h1, h2⟩ := HDO.out
        refine ⟨?_, h2⟩
        obtain ⟨hxl, ⟨e1, e2⟩ | ⟨g', cap', cur, e1, hg, hh⟩⟩ := h1
        · exact ⟨hxl, .inl ⟨e1, e2⟩⟩
        · exact ⟨hxl, .inr ⟨g', cap', cur, e1, by omega, hh⟩⟩
      · rw [outF, List.getElem?_map] at hf
        obtain ⟨o, ho, rfl⟩ := Option.map_eq_some_iff.1 hf
        exact HRL.out j x o hj ho
end Go.Proofs.YtlnedapimmabdaaGreatDoor

namespace Go.Proofs.YtlnedapimmabdaaGreatDoor
set_option linter.unusedVariables false
set_option linter.unusedSimpArgs false
open Go.RowKit Go.Maps
attribute [local go_sem low] Bel.cell Bel.frozen alloc_cell alloc_frozen

def RetNe (N : Nt) (w : World) (e : Ending) (w' : World) : Prop := ∃ us ga gc ov, us.map (·.1) = N.1.map gz ∧ e = .returned (.tuple #[.agg #[.slice ga us.length gc, ov], .int .i64 0]) ∧ OwnK w' w.heap.size (.slice ga us.length gc) us ∧ OwnV w' w.heap.size 3 ov (intsV (intsN N.2)) ∧ (∀ b, ov.ownBlock = some b → ∀ u ∈ us, (inV u).ownBlock ≠ some b) ∧ (∀ b, ov.ownBlock = some b → (Value.slice ga us.length gc).ownBlock ≠ some b) ∧ Below w.heap.size w w'
def nil2 : Value := .agg #[.slice none 0 0, .slice none 0 0]
theorem Clean_err (L : List GZ) (O : List Int) (v : Int) (P : Nat → Prop) (ga oa : Option Addr) (gc oc : Nat) (w : World) (hg : InGt P w ga L) (ho : InS P w oa O) (hl : L.length ≤ 1000000000) (hcl : ∀ x ∈ L, x.2.2.length ≤ 9223372036854775807) (hol : O.length ≤ 9223372036854775807) (he : nErr L O v ≠ 0) :
    Calls Tryz.prog 13 #[nV ga L.length gc oa O.length oc, .int .i64 v] w (Ret (.tuple #[nil2, .int .i64 (nErr L O v : Int)]) w) := by
  have CK := fun w' (hb : Below w.heap.size w w') => check_any L O v P ga oa gc oc w' (hg.of hb) (ho.of hb) hl hcl hol
  obtain ⟨r, hr⟩ : ∃ r, nErr L O v = r := ⟨_, rfl⟩
  rw [hr] at CK he ⊢
  obtain ⟨n, hn⟩ : ∃ n, L.length = n := ⟨_, rfl⟩
  obtain ⟨m, hm⟩ : ∃ m, O.length = m := ⟨_, rfl⟩
  rw [hn] at hl
  simp only [hn, hm] at CK
  unfold nV
  rw [hn, hm]
  have hb0 : Below w.heap.size w ((w.alloc (.cells #[.slice ga n gc, .slice oa m oc] 25)).alloc (.cells #[.slice none 0 0, .slice none 0 0] 25)) := ((Below.refl _ w).alloc (Nat.le_refl _) _).alloc (by simp) _
  have HCK := Lib.hid (CK _ hb0)
  have fr : decide ((r : Int) = 0) = false := decide_eq_false (by omega)
  clear CK hb0 hr hg ho hcl hn hm hol hl
  unfold nil2
  go_enter Tryz.func13, Tryz.ntmps13
  go_wp2_with fail
  refine HCK.out.mono ?_
  rintro _ _ ⟨rfl, x, rfl⟩
  dsimp only
  go_wp2_with fail
  refine bodyPost_ret (v := .tuple #[.agg #[.slice none 0 0, .slice none 0 0], .int .i64 (r : Int)]) ?_ rfl (Ret.mk rfl (by (repeat' (first | (with_reducible first | apply Zl1 | apply Zl2 | apply Zl3 | apply Zl4 | apply Zl5 | apply Zl6 | apply Zl7 | apply Zl8 | apply Zl9 | apply Zla | apply Zlb | apply Zlc) | (dsimp only; with_reducible first | apply Zl8 | apply Zl2 | apply Zld) | with_reducible assumption | omega | (dsimp only; omega)))))
  simp [results, Tryz.results13, go_sem]
theorem gz_ins {G : List Gt} (h : ∀ g ∈ G, g.2.2.length ≤ 17592186044416) : ∀ x ∈ G.map gz, x.2.2.length ≤ 9223372036854775807 := fun x hx => by
  obtain ⟨g, hg, rfl⟩ := List.mem_map.1 hx
  have h1 := h g hg
  have h2 : (gz g).2.2.length = g.2.2.length := by simp [gz]
  omega
theorem ownV_is {w : World} {base : Nat} {e : TypeId} {v : Value} {l : List Value} (h : OwnV w base e v l) : ∃ a n c, v = .slice a n c := by
  rcases h.2 with ⟨rfl, _⟩ | ⟨g, cap, cur, rfl, _⟩
  · exact ⟨_, _, _, rfl⟩
  · exact ⟨_, _, _, rfl⟩
theorem Clean_ok (G : List Gt) (O : List Nat) (v : Nat) (P : Nat → Prop) (ga oa : Option Addr) (gc oc : Nat) (w : World) (hok : okL v G) (hg : InGt P w ga (G.map gz)) (ho : InS P w oa (intsN O)) (hO : ∀ o ∈ O, o < G.length) (hl : G.length ≤ 50000) (hol : O.length ≤ 1000000) (hil : ∀ g ∈ G, g.2.2.length ≤ 17592186044416) (hv : v ≤ 100000000) (hT : Tab w) :
    Calls Tryz.prog 13 #[nV ga G.length gc oa O.length oc, .int .i64 (v : Int)] w (RetNe (cleanG (G, O)) w) := by
  have hz : nErr (G.map gz) (intsN O) (v : Int) = 0 := nErr_of (n := (G, O)) ⟨hok, hO⟩ hl
  have CK := fun w' (hb : Below w.heap.size w w') => check_any (G.map gz) (intsN O) v P ga oa gc oc w' (hg.of hb) (ho.of hb) (by rw [List.length_map]; omega) (gz_ins hil) (by rw [show (intsN O).length = O.length by simp [intsN]]; omega)
  have CL := fun w' (hb : Below w.heap.size w w') => clean_any G O v P P ga oa gc oc w' hok (hg.of hb) (ho.of hb) hO hl hol hil hv (hT.of hb)
  rw [hz, List.length_map] at CK
  rw [show (intsN O).length = O.length by simp [intsN]] at CK
  obtain ⟨n, hn⟩ : ∃ n, G.length = n := ⟨_, rfl⟩
  obtain ⟨m, hm⟩ : ∃ m, O.length = m := ⟨_, rfl⟩
  rw [hn] at hl
  simp only [hn, hm] at CK CL
  unfold nV
  unfold nV at CL
  rw [hn, hm]
  have hb0 : Below w.heap.size w ((w.alloc (.cells #[.slice ga n gc, .slice oa m oc] 25)).alloc (.cells #[.slice none 0 0, .slice none 0 0] 25)) := ((Below.refl _ w).alloc (Nat.le_refl _) _).alloc (by simp) _
  have HCK := Lib.hid (CK _ hb0)
  have HCL := Lib.hid CL
  have HB0 := Lib.hid hb0
  clear CK CL hb0 hz hok hg ho hO hil hn hm hol hl hv hT
  unfold RetNe
  go_enter Tryz.func13, Tryz.ntmps13
  go_wp2_with fail
  refine HCK.out.mono ?_
  rintro _ _ ⟨rfl, x, rfl⟩
  dsimp only
  go_wp2_with fail
  have hbx := HB0.out.trans (x.below.mono HB0.out.size)
  have hxs := x.below.size
  have hob := obj_in x.below (World.alloc_heap_new (w.alloc (.cells #[.slice ga n gc, .slice oa m oc] 25)) (.cells #[.slice none 0 0, .slice none 0 0] 25 (0, 0)))
  have HBX := Lib.hid hbx
  have HXS := Lib.hid hxs
  have HOB := Lib.hid hob
  clear hbx hxs hob
  refine (HCL.out _ HBX.out).mono ?_
  rintro _ W2 ⟨us, g2, c2, _, hus, rfl, hk, hv, hd1, hd2, hb2⟩
  obtain ⟨oa2, ol2, oc2, rfl⟩ := ownV_is hv
  obtain ⟨rb, hrb⟩ : ∃ rb, w.heap.size + 1 = rb := ⟨_, rfl⟩
  have hob2 := obj_in hb2 HOB.out
  simp only [World.size_alloc] at hob2
  rw [hrb] at hob2 ⊢
  have hrx : rb < x.w.heap.size := by have := HXS.out; simp at this; omega
  obtain ⟨q0, q1, q2, q3⟩ := box2 hob2
  have ho3 : (W2.setCell ⟨rb, 0, none⟩ (.slice g2 us.length c2)).heap[rb]? = some (.cells #[.slice g2 us.length c2, .slice none 0 0] 25 (0, 0)) := obj_set _ hob2
  have ho4 : ((W2.setCell ⟨rb, 0, none⟩ (.slice g2 us.length c2)).setCell ⟨rb, 1, none⟩ (.slice oa2 ol2 oc2)).heap[rb]? = some (.cells #[.slice g2 us.length c2, .slice oa2 ol2 oc2] 25 (0, 0)) := obj_set _ ho3
  obtain ⟨-, p1, -, p3⟩ := box2 ho3
  obtain ⟨r0, r1, -, -⟩ := box2 ho4
  have HK := Lib.hid hk
  have HV := Lib.hid hv
  have HD1 := Lib.hid hd1
  have HD2 := Lib.hid hd2
  have HB2 := Lib.hid hb2
  have HRB := Lib.hid hrb
  have HO2 := Lib.hid hob2
  clear hk hv hd1 hd2 hb2 hrb hob2 ho3 ho4
  dsimp only
  go_wp2_with fail
  refine bodyPost_ret (v := .tuple #[.agg #[.slice g2 us.length c2, .slice oa2 ol2 oc2], .int .i64 0]) ?_ (by rfl) ?_
  · simp [results, Tryz.results13, go_sem, r0, r1]
  · have hr := HRB.out
    have hkk : ∀ b, x.w.heap.size ≤ b → ((W2.setCell ⟨rb, 0, none⟩ (.slice g2 us.length c2)).setCell ⟨rb, 1, none⟩ (.slice oa2 ol2 oc2)).heap[b]? = W2.heap[b]? := fun b hb => (set_heap_ne _ (by omega)).trans (set_heap_ne _ (by omega))
    have hsx := HBX.out.size
    exact ⟨us, g2, c2, _, hus, rfl, ownK_lo (ownK_heap HK.out fun b hb _ => hkk b hb) hsx, ownV_mono (ownV_heap HV.out fun g hg => hkk g (ownV_lt HV.out hg).1) hsx, HD1.out, HD2.out, ((HBX.out.trans (HB2.out.mono hsx)).setCell (p := ⟨rb, 0, none⟩) (by dsimp only; omega) _).setCell (p := ⟨rb, 1, none⟩) (by dsimp only; omega) _⟩
end Go.Proofs.YtlnedapimmabdaaGreatDoor

namespace Go.Proofs.YtlnedapimmabdaaGreatDoor
set_option linter.unusedVariables false
set_option linter.unusedSimpArgs false
open Go.RowKit Go.Maps
attribute [local go_sem low] Bel.cell Bel.frozen alloc_cell alloc_frozen

theorem Support_err (L : List GZ) (O : List Int) (v i : Int) (P : Nat → Prop) (ga oa : Option Addr) (gc oc : Nat) (w : World) (hg : InGt P w ga L) (ho : InS P w oa O) (hl : L.length ≤ 1000000000) (hcl : ∀ x ∈ L, x.2.2.length ≤ 9223372036854775807) (hol : O.length ≤ 9223372036854775807) (he : nErr L O v ≠ 0) :
    Calls Tryz.prog 23 #[nV ga L.length gc oa O.length oc, .int .i64 v, .int .i64 i] w (Ret (.tuple #[.slice none 0 0, .int .i64 (nErr L O v : Int)]) w) := by
  have CK := fun w' (hb : Below w.heap.size w w') => check_any L O v P ga oa gc oc w' (hg.of hb) (ho.of hb) hl hcl hol
  obtain ⟨r, hr⟩ : ∃ r, nErr L O v = r := ⟨_, rfl⟩
  rw [hr] at CK he ⊢
  obtain ⟨n, hn⟩ : ∃ n, L.length = n := ⟨_, rfl⟩
  obtain ⟨m, hm⟩ : ∃ m, O.length = m := ⟨_, rfl⟩
  rw [hn] at hl
  simp only [hn, hm] at CK
  unfold nV
  rw [hn, hm]
  have hb0 : Below w.heap.size w (w.alloc (.cells #[.slice ga n gc, .slice oa m oc] 25)) := (Below.refl _ w).alloc (Nat.le_refl _) _
  have HCK := Lib.hid (CK _ hb0)
  have fr : decide ((r : Int) = 0) = false := decide_eq_false (by omega)
  clear CK hb0 hr hg ho hcl hn hm hol hl
  go_enter Tryz.func23, Tryz.ntmps23
  go_wp2_with fail
  refine HCK.out.mono ?_
  rintro _ _ ⟨rfl, x, rfl⟩
  dsimp only
  go_wp2
  refine bodyPost_ret (v := .tuple #[.slice none 0 0, .int .i64 (r : Int)]) (by simp [results, Tryz.results23, go_sem]) rfl (Ret.mk rfl (by (repeat' (first | (with_reducible first | apply Zl1 | apply Zl2 | apply Zl3 | apply Zl4 | apply Zl5 | apply Zl6 | apply Zl7 | apply Zl8 | apply Zl9 | apply Zla | apply Zlb | apply Zlc) | (dsimp only; with_reducible first | apply Zl8 | apply Zl2 | apply Zld) | with_reducible assumption | omega | (dsimp only; omega)))))
theorem Support_range (L : List GZ) (O : List Int) (v i : Int) (P : Nat → Prop) (ga oa : Option Addr) (gc oc : Nat) (w : World) (hg : InGt P w ga L) (ho : InS P w oa O) (hl : L.length ≤ 1000000000) (hcl : ∀ x ∈ L, x.2.2.length ≤ 9223372036854775807) (hol : O.length ≤ 9223372036854775807) (he : nErr L O v = 0) (hi : i < 0 ∨ (O.length : Int) ≤ i) :
    Calls Tryz.prog 23 #[nV ga L.length gc oa O.length oc, .int .i64 v, .int .i64 i] w (Ret (.tuple #[.slice none 0 0, .int .i64 3]) w) := by
  have CK := fun w' (hb : Below w.heap.size w w') => check_any L O v P ga oa gc oc w' (hg.of hb) (ho.of hb) hl hcl hol
  rw [he] at CK
  obtain ⟨n, hn⟩ : ∃ n, L.length = n := ⟨_, rfl⟩
  obtain ⟨m, hm⟩ : ∃ m, O.length = m := ⟨_, rfl⟩
  rw [hn] at hl
  rw [hm] at hi
  simp only [hn, hm] at CK
  unfold nV
  rw [hn, hm]
  have hb0 : Below w.heap.size w (w.alloc (.cells #[.slice ga n gc, .slice oa m oc] 25)) := (Below.refl _ w).alloc (Nat.le_refl _) _
  have hnet := World.alloc_heap_new w (.cells #[.slice ga n gc, .slice oa m oc] 25 (0, 0))
  have HNE := Lib.hid hnet
  have HCK := Lib.hid (CK _ hb0)
  clear CK hb0 hg ho hcl hn hm hol hl hnet he
  rcases Int.lt_or_le i 0 with h0 | h0
  · have fr : decide (i < 0) = true := decide_eq_true h0
    clear hi
    go_enter Tryz.func23, Tryz.ntmps23
    go_wp2_with fail
    refine HCK.out.mono ?_
    rintro _ _ ⟨rfl, x, rfl⟩
    dsimp only
    obtain ⟨n1, n2, -⟩ := box2 (obj_in x.below HNE.out)
    go_wp2
    refine bodyPost_ret (v := .tuple #[.slice none 0 0, .int .i64 3]) (by simp [results, Tryz.results23, go_sem]) rfl (Ret.mk rfl (by (repeat' (first | (with_reducible first | apply Zl1 | apply Zl2 | apply Zl3 | apply Zl4 | apply Zl5 | apply Zl6 | apply Zl7 | apply Zl8 | apply Zl9 | apply Zla | apply Zlb | apply Zlc) | (dsimp only; with_reducible first | apply Zl8 | apply Zl2 | apply Zld) | with_reducible assumption | omega | (dsimp only; omega)))))
  · have fr : decide (i < 0) = false := decide_eq_false (by omega)
    have fr2 : decide ((m : Int) ≤ i) = true := decide_eq_true (by omega)
    clear hi
    go_enter Tryz.func23, Tryz.ntmps23
    go_wp2_with fail
    refine HCK.out.mono ?_
    rintro _ _ ⟨rfl, x, rfl⟩
    dsimp only
    obtain ⟨n1, n2, -⟩ := box2 (obj_in x.below HNE.out)
    go_wp2
    refine bodyPost_ret (v := .tuple #[.slice none 0 0, .int .i64 3]) (by simp [results, Tryz.results23, go_sem]) rfl (Ret.mk rfl (by (repeat' (first | (with_reducible first | apply Zl1 | apply Zl2 | apply Zl3 | apply Zl4 | apply Zl5 | apply Zl6 | apply Zl7 | apply Zl8 | apply Zl9 | apply Zla | apply Zlb | apply Zlc) | (dsimp only; with_reducible first | apply Zl8 | apply Zl2 | apply Zld) | with_reducible assumption | omega | (dsimp only; omega)))))
end Go.Proofs.YtlnedapimmabdaaGreatDoor

namespace Go.Proofs.YtlnedapimmabdaaGreatDoor
set_option linter.unusedVariables false
set_option linter.unusedSimpArgs false
open Go.RowKit Go.Maps
attribute [local go_sem low] Bel.cell Bel.frozen alloc_cell alloc_frozen

theorem Diagrams_err (L : List GZ) (O : List Int) (v : Int) (P : Nat → Prop) (ga oa : Option Addr) (gc oc : Nat) (w : World) (hg : InGt P w ga L) (ho : InS P w oa O) (hl : L.length ≤ 1000000000) (hcl : ∀ x ∈ L, x.2.2.length ≤ 9223372036854775807) (hol : O.length ≤ 9223372036854775807) (he : nErr L O v ≠ 0) :
    Calls Tryz.prog 22 #[nV ga L.length gc oa O.length oc, .int .i64 v] w (Ret (.tuple #[.slice none 0 0, .int .i64 (nErr L O v : Int)]) w) := by
  have CK := fun w' (hb : Below w.heap.size w w') => check_any L O v P ga oa gc oc w' (hg.of hb) (ho.of hb) hl hcl hol
  obtain ⟨r, hr⟩ : ∃ r, nErr L O v = r := ⟨_, rfl⟩
  rw [hr] at CK he ⊢
  obtain ⟨n, hn⟩ : ∃ n, L.length = n := ⟨_, rfl⟩
  obtain ⟨m, hm⟩ : ∃ m, O.length = m := ⟨_, rfl⟩
  rw [hn] at hl
  simp only [hn, hm] at CK
  unfold nV
  rw [hn, hm]
  have hb0 : Below w.heap.size w (w.alloc (.cells #[.slice ga n gc, .slice oa m oc] 25)) := (Below.refl _ w).alloc (Nat.le_refl _) _
  have HCK := Lib.hid (CK _ hb0)
  have fr : decide ((r : Int) = 0) = false := decide_eq_false (by omega)
  clear CK hb0 hr hg ho hcl hn hm hol hl
  go_enter Tryz.func22, Tryz.ntmps22
  go_wp2_with fail
  refine HCK.out.mono ?_
  rintro _ _ ⟨rfl, x, rfl⟩
  dsimp only
  go_wp2_with fail
  refine bodyPost_ret (v := .tuple #[.slice none 0 0, .int .i64 (r : Int)]) (by simp [results, Tryz.results22, go_sem]) rfl (Ret.mk rfl (by (repeat' (first | (with_reducible first | apply Zl1 | apply Zl2 | apply Zl3 | apply Zl4 | apply Zl5 | apply Zl6 | apply Zl7 | apply Zl8 | apply Zl9 | apply Zla | apply Zlb | apply Zlc) | (dsimp only; with_reducible first | apply Zl8 | apply Zl2 | apply Zld) | with_reducible assumption | omega | (dsimp only; omega)))))
theorem nwok_arg {G : List Gt} {O : List Nat} {v : Nat} {ga oa : Option Addr} {gc oc : Nat} {w : World} (hok : okL v G) (hO : ∀ o ∈ O, o < G.length) (hg : InGt (fun b => b < w.heap.size) w ga (G.map gz)) (ho : InS (fun b => b < w.heap.size) w oa (intsN O)) (hl : G.length ≤ 50000) (hol : O.length ≤ 1000000) (hoc : O.length ≤ oc) (hoc2 : oc ≤ 9223372036854775807) (hil : ∀ g ∈ G, g.2.2.length ≤ 17592186044416) : NWok v w ((G, O), ga, gc, oa, oc) :=
  ⟨⟨hok, hO⟩, hg, ho, by show G.length ≤ _; omega, by show O.length ≤ _; omega, hoc, hoc2, fun g h => by have := hil g h; omega⟩
theorem inNs_one {W : World} {T : Nat} {G : List Gt} {O : List Nat} {ga oa : Option Addr} {gc oc : Nat} {e : TypeId} (h : W.heap[T]? = some (.cells #[.slice ga G.length gc, .slice oa O.length oc] e (0, 0))) : InNs W (some ⟨T, 0, none⟩) [((G, O), ga, gc, oa, oc)] := fun _ => ⟨T, 0, rfl, fun j x hj => by
  obtain ⟨n1, n2, -⟩ := box2 h
  match j, hj with
  | 0, hj =>
    simp at hj
    subst hj
    exact ⟨n1, n2⟩
  | j + 1, hj => simp at hj⟩
theorem dsO_lo {W : World} {base base' : Nat} {v : Value} {l : List DN} (h : DsO W base v l) (hb : base' ≤ base) : DsO W base' v l := by
  obtain ⟨⟨hxl, h1⟩, h2⟩ := h
  refine ⟨⟨hxl, ?_⟩, h2⟩
  rcases h1 with ⟨e, h0⟩ | ⟨g, cap, cur, e, hg, hh⟩
  · exact Or.inl ⟨e, h0⟩
  · exact Or.inr ⟨g, cap, cur, e, by omega, hh⟩
set_option maxHeartbeats 1600000 in
theorem Diagrams_ok (R : Fn3 → Dg3 → Prop) (G : List Gt) (O : List Nat) (v : Nat) (ga oa : Option Addr) (gc oc : Nat) (w : World) (hD : DgNet R G (reachG G O)) (hok : okL v G) (hg : InGt (fun b => b < w.heap.size) w ga (G.map gz)) (ho : InS (fun b => b < w.heap.size) w oa (intsN O)) (hO : ∀ o ∈ O, o < G.length) (hl : G.length ≤ 50000) (hol : O.length ≤ 1000000) (hoc : O.length ≤ oc) (hoc2 : oc ≤ 9223372036854775807) (hil : ∀ g ∈ G, g.2.2.length ≤ 17592186044416) (hbe : bErr v [((G, O), ga, gc, oa, oc)] = 0) :
    Calls Tryz.prog 22 #[nV ga G.length gc oa O.length oc, .int .i64 (v : Int)] w (RetO R (outF G O) w) := by
  have hz : nErr (G.map gz) (intsN O) (v : Int) = 0 := nErr_of (n := (G, O)) ⟨hok, hO⟩ hl
  have CK := fun w' (hb : Below w.heap.size w w') => check_any (G.map gz) (intsN O) v _ ga oa gc oc w' (hg.of hb) (ho.of hb) (by rw [List.length_map]; omega) (gz_ins hil) (by rw [show (intsN O).length = O.length by simp [intsN]]; omega)
  have HB := fun w' (hb : Below w.heap.size w w') (T : Nat) (hr : w'.heap[T]? = some (.cells #[.slice ga G.length gc, .slice oa O.length oc] 25 (0, 0))) => bounded_any v [((G, O), ga, gc, oa, oc)] (some ⟨T, 0, none⟩) 1 v w' (fun x hx => by rw [List.mem_singleton.1 hx]; exact (nwok_arg hok hO hg ho hl hol hoc hoc2 hil).of hb) (inNs_one hr) (by simp)
  rw [hz, List.length_map] at CK
  rw [show (intsN O).length = O.length by simp [intsN]] at CK
  have OU := fun w' (hb : Below w.heap.size w w') => outputs_any R G O v _ _ ga oa gc oc w' hD hok (hg.of hb) (ho.of hb) hO (by omega) hol (fun g h => by have := hil g h; omega)
  rw [hbe] at HB
  obtain ⟨fs, hfs⟩ : ∃ fs, outF G O = fs := ⟨_, rfl⟩
  rw [hfs] at OU ⊢
  obtain ⟨n, hn⟩ : ∃ n, G.length = n := ⟨_, rfl⟩
  obtain ⟨m, hm⟩ : ∃ m, O.length = m := ⟨_, rfl⟩
  simp only [hn, hm] at CK HB OU
  unfold nV at OU
  unfold nV
  rw [hn, hm]
  have hb0 : Below w.heap.size w (w.alloc (.cells #[.slice ga n gc, .slice oa m oc] 25)) := (Below.refl _ w).alloc (Nat.le_refl _) _
  have hnet := World.alloc_heap_new w (.cells #[.slice ga n gc, .slice oa m oc] 25 (0, 0))
  have HNE := Lib.hid hnet
  have HCK := Lib.hid (CK _ hb0)
  have HBO := Lib.hid HB
  have HB0 := Lib.hid hb0
  have HOU := Lib.hid OU
  clear CK HB OU hbe hfs hD hb0 hg ho hn hm hol hl hz hok hO hil hoc hoc2 hnet
  unfold RetO
  go_enter Tryz.func22, Tryz.ntmps22
  go_wp2_with fail
  refine HCK.out.mono ?_
  rintro _ _ ⟨rfl, x, rfl⟩
  dsimp only
  obtain ⟨n1, n2, -⟩ := box2 (obj_in x.below HNE.out)
  go_wp2_with fail
  have hbx := HB0.out.trans (x.below.mono HB0.out.size)
  have hal : Below x.w.heap.size x.w (x.w.alloc (.cells #[.slice ga n gc, .slice oa m oc] 25)) := (Below.refl _ _).alloc (Nat.le_refl _) _
  have hnx := World.alloc_heap_new x.w (.cells #[.slice ga n gc, .slice oa m oc] 25 (0, 0))
  have hbx2 := hbx.trans (hal.mono hbx.size)
  have hne2 := obj_in hal (obj_in x.below HNE.out)
  have HC2 := Lib.hid (HBO.out _ hbx2 _ hnx)
  have HBX2 := Lib.hid hbx2
  have HNE2 := Lib.hid hne2
  clear hbx hal hnx hbx2 hne2
  refine HC2.out.mono ?_
  rintro _ _ ⟨rfl, y, rfl⟩
  dsimp only
  obtain ⟨m1, m2, -⟩ := box2 (obj_in y.below HNE2.out)
  go_wp2_with fail
  have hby := HBX2.out.trans (y.below.mono HBX2.out.size)
  refine (HOU.out _ hby).mono ?_
  rintro _ W2 ⟨u, l, rfl, h1, h2, h3, h4⟩
  dsimp only
  go_wp2_with fail
  refine bodyPost_ret (v := .tuple #[u, .int .i64 0]) (by simp [results, Tryz.results22, go_sem]) rfl ?_
  exact ⟨_, l, rfl, dsO_lo h1 hby.size, h2, h3, hby.trans (h4.mono hby.size)⟩
end Go.Proofs.YtlnedapimmabdaaGreatDoor
