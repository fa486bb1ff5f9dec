/- Combining diagrams: checks, newBuilder, combine. The functions that combine places. -/
import Derived.Test.YtlnedapimmabdaaGreatDoorXD
import Derived.Test.YtlnedapimmabdaaGreatDoorX8
namespace Go.Proofs.YtlnedapimmabdaaGreatDoor
set_option linter.unusedVariables false
set_option linter.unusedSimpArgs false
open Go.RowKit Go.Maps
attribute [local go_sem low] Bel.cell Bel.frozen alloc_cell alloc_frozen
attribute [local go_sem] calmOp chainOp yieldsC grows
theorem drop_at {α : Type} {l : List α} {k : Nat} {x : α} (h : l[k]? = some x) : l.drop k = x :: l.drop (k + 1) := by
  obtain ⟨hk, hx⟩ := List.getElem?_eq_some_iff.1 h
  rw [List.drop_eq_getElem_cons hk, hx]
variable {rk : Nat → Nat}

abbrev DI := Option Addr × Nat × List (Int × Int × Int) × Int
def DIok (w : World) (x : DI) : Prop := InD w.heap.size w x.1 x.2.2.1 ∧ InI x.2.2.1 ∧ x.2.2.1.length ≤ 50000 ∧ inI x.2.2.2
def DIs (w : World) (g off : Nat) (ds : List DI) : Prop := ∀ (j : Nat) (x : DI), ds[j]? = some x → w.cell? ⟨g, off + j * 2, none⟩ = some (.slice x.1 x.2.2.1.length x.2.1) ∧ w.cell? ⟨g, off + j * 2 + 1, none⟩ = some (.int .i64 x.2.2.2)
def firstD : List DI → Nat
  | [] => 0
  | x :: r => if chkD x.2.2.1 x.2.2.2 = 0 then firstD r else chkD x.2.2.1 x.2.2.2
theorem firstD_at : ∀ (ds : List DI) (k : Nat), (∀ (j : Nat) (x : DI), j < k → ds[j]? = some x → chkD x.2.2.1 x.2.2.2 = 0) → firstD ds = firstD (ds.drop k)
  | ds, 0, _ => rfl
  | [], k + 1, _ => rfl
  | x :: r, k + 1, h => by
    rw [firstD, if_pos (h 0 x (by omega) rfl), firstD_at r k fun j y hj hy => h (j + 1) y (by omega) (by simpa using hy)]
    rfl
theorem DIok.of {w w' : World} {x : DI} (h : DIok w x) (hb : Below w.heap.size w w') : DIok w' x := ⟨(h.1.of hb).up hb.size, h.2⟩
theorem DIs.of {w w' : World} {g off : Nat} {ds : List DI} (h : DIs w g off ds) (hb : Below w.heap.size w w') : DIs w' g off ds := fun j x hx => ⟨cell_in hb (h j x hx).1, cell_in hb (h j x hx).2⟩
set_option maxRecDepth 100000 in
set_option maxHeartbeats 6400000 in
theorem checks_any (ds : List DI) (g off c : Nat) (w : World) (hok : ∀ x ∈ ds, DIok w x) (hds : DIs w g off ds) (hl : ds.length ≤ 1000000) :
    Calls Tryz.prog 88 #[.slice (some ⟨g, off, none⟩) ds.length c] w (Ret (.int .i64 (firstD ds : Nat)) w) := by
  have HOK := Lib.hid hok
  have HDS := Lib.hid hds
  obtain ⟨q, hq⟩ : ∃ q, firstD ds = q := ⟨_, rfl⟩
  rw [hq]
  have HQ := Lib.hid hq
  clear hok hds hq
  go_enter Tryz.func88, Tryz.ntmps88
  go_wp2
  go_loopw [8] (fun iv wr => ∃ k : Nat, iv = .int .i64 (k : Int) ∧ k ≤ ds.length ∧ (∀ (j : Nat) (x : DI), j < k → ds[j]? = some x → chkD x.2.2.1 x.2.2.2 = 0) ∧ Below w.heap.size w wr) (fun iv _ => ds.length - (intOf iv).toNat)
  case atStart => exact ⟨0, rfl, by omega, fun j x hj => by omega, Below.refl _ _⟩
  case round =>
    obtain ⟨k, rfl, hk, hz, hbe⟩ := hrel
    have HZ := Lib.hid hz
    have hfd := firstD_at ds k hz
    rw [HQ.out] at hfd
    have HFD := Lib.hid hfd
    clear hz hfd
    have hsz := hbe.size
    rcases Nat.lt_or_ge k ds.length with hkl | hkl
    · obtain ⟨x, hx⟩ : ∃ x, ds[k]? = some x := ⟨_, List.getElem?_eq_getElem hkl⟩
      obtain ⟨c0, c1⟩ := HDS.out.of hbe k x hx
      obtain ⟨o1, o2, o3, o4⟩ := (HOK.out x (List.mem_of_getElem? hx)).of hbe
      have HX := Lib.hid hx
      obtain ⟨ad, cap, L, r⟩ := x
      dsimp only at c0 c1 o1 o2 o3 o4
      have HC := Lib.hid (fun w' (hb : Below wr.heap.size wr w') => dCheck_any L o2 o3 ad cap r o4 w' ((o1.of hb).up hb.size))
      have f0 : decide ((k : Int) < (ds.length : Int)) = true := decide_eq_true (by omega)
      have hib : (0 ≤ (k : Int) ∧ (k : Int) < (ds.length : Int)) := ⟨by omega, by omega⟩
      have hdr := drop_at hx
      obtain ⟨p, hp⟩ : ∃ p, chkD L r = p := ⟨_, rfl⟩
      rw [hp] at HC
      have HP := Lib.hid hp
      have HDR := Lib.hid hdr
      clear hx o1 o2 o3 o4 hp hdr
      by_cases h0 : p = 0
      · subst h0
        go_wp2_with fail
        refine (HC.out _ (by (repeat' (first | (with_reducible first | apply Zl1 | apply Zl2 | apply Zl3 | apply Zl4 | apply Zl5 | apply Zl6 | apply Zl7 | apply Zl8 | apply Zl9 | apply Zla | apply Zlb | apply Zlc) | (dsimp only; with_reducible first | apply Zl8 | apply Zl2 | apply Zld) | with_reducible assumption | omega | (dsimp only; omega))))).mono ?_
        rintro _ _ ⟨rfl, y1, rfl⟩
        dsimp only
        go_wp2
        go_roundw
        case rel =>
          refine ⟨k + 1, by go_num, by omega, fun j y hj hy => ?_, by (repeat' (first | (with_reducible first | apply Zl1 | apply Zl2 | apply Zl3 | apply Zl4 | apply Zl5 | apply Zl6 | apply Zl7 | apply Zl8 | apply Zl9 | apply Zla | apply Zlb | apply Zlc) | (dsimp only; with_reducible first | apply Zl8 | apply Zl2 | apply Zld) | with_reducible assumption | omega | (dsimp only; omega)))⟩
          by_cases e : j = k
          · subst e
            rw [HX.out] at hy
            injection hy with hy
            subst hy
            exact HP.out
          · exact HZ.out j y (by omega) hy
        case measure => simp [intOf]; omega
      · have hqp : q = p := by
          have := HFD.out
          rw [HDR.out, firstD, if_neg (by dsimp only; rw [HP.out]; exact h0)] at this
          dsimp only at this
          rw [HP.out] at this
          exact this
        subst hqp
        have f2 : ((q : Int) != 0) = true := by simp; omega
        go_wp2_with fail
        refine (HC.out _ (by (repeat' (first | (with_reducible first | apply Zl1 | apply Zl2 | apply Zl3 | apply Zl4 | apply Zl5 | apply Zl6 | apply Zl7 | apply Zl8 | apply Zl9 | apply Zla | apply Zlb | apply Zlc) | (dsimp only; with_reducible first | apply Zl8 | apply Zl2 | apply Zld) | with_reducible assumption | omega | (dsimp only; omega))))).mono ?_
        rintro _ _ ⟨rfl, y1, rfl⟩
        dsimp only
        go_wp2
        go_ret
        exact Ret.mk (by rfl) (by (repeat' (first | (with_reducible first | apply Zl1 | apply Zl2 | apply Zl3 | apply Zl4 | apply Zl5 | apply Zl6 | apply Zl7 | apply Zl8 | apply Zl9 | apply Zla | apply Zlb | apply Zlc) | (dsimp only; with_reducible first | apply Zl8 | apply Zl2 | apply Zld) | with_reducible assumption | omega | (dsimp only; omega))))
    · have hke : k = ds.length := by omega
      subst hke
      have hq0 : q = 0 := by
        have := HFD.out
        rw [List.drop_length] at this
        exact this
      subst hq0
      have f0 : decide ((ds.length : Int) < (ds.length : Int)) = false := decide_eq_false (by omega)
      go_wp2
      go_ret
      exact Ret.mk (by rfl) (by (repeat' (first | (with_reducible first | apply Zl1 | apply Zl2 | apply Zl3 | apply Zl4 | apply Zl5 | apply Zl6 | apply Zl7 | apply Zl8 | apply Zl9 | apply Zla | apply Zlb | apply Zlc) | (dsimp only; with_reducible first | apply Zl8 | apply Zl2 | apply Zld) | with_reducible assumption | omega | (dsimp only; omega))))
theorem dist_new (n : Nat) : n + 2 ≠ n ∧ n + 2 ≠ n + 1 ∧ n ≠ n + 1 ∧ n ≤ n + 2 ∧ n ≤ n ∧ n ≤ n + 1 ∧ n + 2 < n + 3 ∧ n < n + 3 ∧ n + 1 < n + 3 ∧ n + 3 ≤ n + 3 := by omega
set_option maxRecDepth 100000 in
theorem newBuilder_any (rk : Nat → Nat) (w : World) : Calls Tryz.prog 89 #[] w (fun e w' => e = .returned (.pointer (some ⟨w.heap.size + 2, 0, none⟩)) ∧ Bld rk w' w.heap.size (w.heap.size + 2) w.heap.size (w.heap.size + 1) (w.heap.size + 3) (.slice none 0 0) [] 0 ∧ Below w.heap.size w w') := by
  have hmm := @run_makeMap Tryz.prog
  go_enter Tryz.func89, Tryz.ntmps89
  go_wp2
  have a0 := funM_made w Tryz.prog 96 3
  obtain ⟨w1, e1⟩ : ∃ w1, w.alloc (.map #[] 0) = w1 := ⟨_, rfl⟩
  have s1 : w1.heap.size = w.heap.size + 1 := by rw [← e1, World.size_alloc]
  rw [e1] at a0 ⊢
  have b0 := a0.heap (w' := w1.alloc (.map #[] 0)) fun o ho => obj_alloc _ ho
  have b1 := funM_made w1 Tryz.prog 140 3
  obtain ⟨w2, e2⟩ : ∃ w2, w1.alloc (.map #[] 0) = w2 := ⟨_, rfl⟩
  have s2 : w2.heap.size = w.heap.size + 1 + 1 := by rw [← e2, World.size_alloc, s1]
  rw [s1] at b1
  rw [e2] at b0 b1 ⊢
  have c2 := World.alloc_heap_new w2 (.cells #[.slice none 0 0, .map (some w.heap.size), .map (some (w.heap.size + 1)), .bool false] 144 (0, 0))
  rw [s2] at c2
  refine bodyPost_ret (v := .pointer (some ⟨w.heap.size + 1 + 1, 0, none⟩)) (by simp [results, Tryz.results89, go_sem]) rfl ⟨rfl, ⟨c2, ownD_nil _ _ _, ⟨0, fun _ => none, b0.heap fun o ho => obj_alloc _ ho, Nat.le_refl _, fun i x hx => by simp at hx, fun x z hz => by cases hz⟩, ⟨0, fun _ => none, b1.heap fun o ho => obj_alloc _ ho, Nat.le_refl _, fun x z hz => by cases hz⟩, good_nil, fun x hx => (by cases hx), ?_⟩, ?_⟩
  · have h := dist_new w.heap.size
    rw [World.size_alloc, s2]
    omega
  · have h1 : Below w.heap.size w w1 := by rw [← e1]; exact (Below.refl _ w).alloc (Nat.le_refl _) _
    have h2 : Below w.heap.size w w2 := by rw [← e2]; exact h1.alloc (by omega) _
    exact h2.alloc (by omega) _
abbrev DN := Option Addr × Nat × List (Nat × Nat × Nat) × Nat
def toI (x : DN) : DI := (x.1, x.2.1, x.2.2.1.map z3, (x.2.2.2 : Int))
structure DNok (rk : Nat → Nat) (w : World) (x : DN) : Prop where
  ind : InD w.heap.size w x.1 (x.2.2.1.map z3)
  good : Good x.2.2.1
  vars : ∀ y ∈ x.2.2.1, VarOk rk y.1
  len : x.2.2.1.length ≤ 50000
  root : x.2.2.2 < x.2.2.1.length + 2
  chk : chkD (x.2.2.1.map z3) (x.2.2.2 : Int) = 0
theorem inI_nat {n : Nat} (h : n ≤ 1000000) : inI (n : Int) := ⟨by omega, by omega⟩
theorem DNok.di {w : World} {x : DN} (h : DNok rk w x) : DIok w (toI x) := by
  refine ⟨h.ind, fun y hy => ?_, by show (x.2.2.1.map z3).length ≤ 50000; rw [List.length_map]; exact h.len, inI_nat (by have := h.root; have := h.len; omega)⟩
  obtain ⟨z, hz, rfl⟩ := List.mem_map.1 hy
  obtain ⟨i, hi⟩ := List.mem_iff_getElem?.1 hz
  obtain ⟨a1, a2, a3, _⟩ := h.good i z hi
  have hil := (List.getElem?_eq_some_iff.1 hi).1
  have := h.len
  exact ⟨inI_nat (by omega), inI_nat (by omega), inI_nat (by omega)⟩
theorem DNok.of {w w' : World} {x : DN} (h : DNok rk w x) (hb : Below w.heap.size w w') : DNok rk w' x := ⟨(h.ind.of hb).up hb.size, h.good, h.vars, h.len, h.root, h.chk⟩
theorem firstD_ok : ∀ {ns : List DN}, (∀ x ∈ ns, chkD (x.2.2.1.map z3) (x.2.2.2 : Int) = 0) → firstD (ns.map toI) = 0
  | [], _ => rfl
  | x :: r, h => by
    rw [List.map_cons, firstD, if_pos (show chkD (toI x).2.2.1 (toI x).2.2.2 = 0 from h x (List.mem_cons_self ..))]
    exact firstD_ok fun y hy => h y (List.mem_cons_of_mem _ hy)
def RetW (rk : Nat → Nat) (b0 B mp md base : Nat) (N : List (Nat × Nat × Nat)) (w : World) (c : Nat) (S : (Nat → Bool) → Bool) (e : Ending) (w' : World) : Prop :=
  ∃ (p : Nat) (v' : Value) (M : List (Nat × Nat × Nat)) (D' : Nat), e = .returned (.int .i64 (p : Int)) ∧ Bld rk w' b0 B mp md base v' (N ++ M) D' ∧ Below b0 w w' ∧ M.length ≤ c ∧ p < (N ++ M).length + 2 ∧ ∀ ρ, val3 ρ (N ++ M) p = S ρ
theorem RetB.w {b0 B mp md base : Nat} {v : Value} {N : List (Nat × Nat × Nat)} {D a c : Nat} {w w' : World} {S : (Nat → Bool) → Bool} {e : Ending} (h : RetB rk b0 B mp md base v N D w a c S e w') : RetW rk b0 B mp md base N w a S e w' := by
  obtain ⟨p, v', M, h1, h2, h3, h4, h5, h6⟩ := h
  exact ⟨p, v', M, _, h1, h2, h3.below, h4, h5, h6⟩
def MkC (rk : Nat → Nat) (f : Nat) (caps : Array Value) (W0 : World) (ns : List DN) (c : Nat) (S : (Nat → Bool) → Bool) : Prop :=
  ∀ (w : World) (b0 B mp md base : Nat) (v pv : Value) (N : List (Nat × Nat × Nat)) (D : Nat) (ps : List Nat), Below W0.heap.size W0 w → W0.heap.size ≤ b0 → Bld rk w b0 B mp md base v N D → OwnN w base pv ps → ps.length = ns.length → (∀ (j p : Nat) (x : DN), ps[j]? = some p → ns[j]? = some x → Same3 N x.2.2.1 p x.2.2.2) → N.length + c ≤ 1000000 → D + c ≤ 1000000 →
    Calls Tryz.prog f (#[.pointer (some ⟨B, 0, none⟩), pv] ++ caps) w (RetW rk b0 B mp md base N w c S)
def sumN : List DN → Nat
  | [] => 0
  | x :: r => x.2.2.1.length + sumN r
theorem sumN_take : ∀ (ns : List DN) (k : Nat) (x : DN), ns[k]? = some x → sumN (ns.take (k + 1)) = sumN (ns.take k) + x.2.2.1.length
  | [], k, x, h => by simp at h
  | y :: r, 0, x, h => by
    simp at h
    subst h
    simp [sumN]
  | y :: r, k + 1, x, h => by
    rw [List.take_succ_cons, List.take_succ_cons, sumN, sumN, sumN_take r k x (by simpa using h)]
    omega
theorem sumN_le : ∀ (ns : List DN) (k : Nat), sumN (ns.take k) ≤ sumN ns
  | [], k => by simp [sumN]
  | y :: r, 0 => by simp [sumN]
  | y :: r, k + 1 => by
    rw [List.take_succ_cons, sumN, sumN]
    have := sumN_le r k
    omega
theorem InD.set {n0 : Nat} {w : World} {ad : Option Addr} {L : List (Int × Int × Int)} {b i n : Nat} {x : Value} (h : InD n0 w ad L) (hf : ∀ g off k, ad = some ⟨g, off, k⟩ → n ≤ g) (hb : b < n) : InD n0 (w.setCell ⟨b, i, none⟩ x) ad L := fun hl => by
  obtain ⟨g, off, he, hg, hc⟩ := h hl
  have hgn := hf g off none he
  refine ⟨g, off, he, hg, fun j y hj => ?_⟩
  have e : ∀ o : Nat, (w.setCell ⟨b, i, none⟩ x).cell? ⟨g, o, none⟩ = w.cell? ⟨g, o, none⟩ := fun o => World.cell?_of_block (Below.heap_setCell _ _ _ _ (fun e => by first | omega | (dsimp only at e; omega)))
  rw [e, e, e]
  exact hc j y hj
theorem Bld.grow {w w' : World} {b0 B mp md base : Nat} {v : Value} {N : List (Nat × Nat × Nat)} {D : Nat} (h : Bld rk w b0 B mp md base v N D) {row : Option Nat} (hg : w.grownBy w' row) (hb : ∀ g, row = some g → base ≤ g) (hv : ∀ g, row = some g → v.ownBlock ≠ some g) : Bld rk w' b0 B mp md base v N D := by
  cases row with
  | none => exact h.bel ((Below.refl _ w).grown hg (Nat.le_refl _) (fun k hk => by cases hk))
  | some g => exact h.row hg (hb g rfl) (hv g rfl)
theorem same3_snoc {ns : List DN} {R R1 : List (Nat × Nat × Nat)} {ps : List Nat} {p : Nat} {x : DN} (h : ∀ (j p : Nat) (x : DN), ps[j]? = some p → ns[j]? = some x → Same3 R x.2.2.1 p x.2.2.2) (hx : ns[ps.length]? = some x) (hp : Same3 (R ++ R1) x.2.2.1 p x.2.2.2) : ∀ (j q : Nat) (y : DN), (ps ++ [p])[j]? = some q → ns[j]? = some y → Same3 (R ++ R1) y.2.2.1 q y.2.2.2 := fun j q y hq hy => by
  rcases Nat.lt_or_ge j ps.length with hj | hj
  · rw [List.getElem?_append_left hj] at hq
    exact (h j q y hq hy).grow R1
  · have hl := (List.getElem?_eq_some_iff.1 hq).1
    rw [List.length_append, List.length_singleton] at hl
    have e : j = ps.length := by omega
    subst e
    rw [List.getElem?_append_right (Nat.le_refl _), Nat.sub_self] at hq
    rw [hx] at hy
    injection hy with hy
    have : p = q := by simpa using hq
    subst this hy
    exact hp
def RetC (rk : Nat → Nat) (n : Nat) (S : (Nat → Bool) → Bool) (w : World) (e : Ending) (w' : World) : Prop :=
  ∃ (N : List (Nat × Nat × Nat)) (p : Nat), Good N ∧ N.length ≤ n ∧ (∀ x ∈ N, VarOk rk x.1) ∧ p < N.length + 2 ∧ (∀ ρ, val3 ρ N p = S ρ) ∧ RetDg (canonD N p).1 (canonD N p).2 w e w'
set_option maxRecDepth 100000 in
set_option maxHeartbeats 6400000 in
theorem combine_any (rk : Nat → Nat) (f : Nat) (caps : Array Value) (eg : ∀ args w, (callFunc f args).run Tryz.prog w = .ok (.enter f args) w) (ns : List DN) (g off cc c : Nat) (S : (Nat → Bool) → Bool) (w : World) (hok : ∀ x ∈ ns, DNok rk w x) (hds : DIs w g off (ns.map toI)) (hm : MkC rk f caps w ns c S) (hsum : sumN ns + c ≤ 50000) (hl : ns.length ≤ 1000) :
    Calls Tryz.prog 67 #[.slice (some ⟨g, off, none⟩) ns.length cc, .func (.func f) #[] caps] w (RetC rk (sumN ns + c) S w) := by
  obtain ⟨i0, hi0, hz0, hz1, hz2⟩ := info_parts Tryz.infoI
  have hlm : (ns.map toI).length = ns.length := List.length_map ..
  have HC := Lib.hid (fun w' (hb : Below w.heap.size w w') => (show Calls Tryz.prog 88 #[.slice (some ⟨g, off, none⟩) ns.length cc] w' (Ret (.int .i64 0) w') from by
    have := checks_any (ns.map toI) g off cc w' (fun x hx => by obtain ⟨y, hy, rfl⟩ := List.mem_map.1 hx; exact (hok y hy).di.of hb) (hds.of hb) (by rw [hlm]; omega)
    rw [firstD_ok fun x hx => (hok x hx).chk, hlm] at this
    exact this))
  have HM := Lib.hid hm
  have HOK := Lib.hid hok
  have HDS := Lib.hid hds
  clear hok hds hm hlm
  go_enter Tryz.func67, Tryz.ntmps67
  go_wp2_with fail
  refine (HC.out _ (by (repeat' (first | (with_reducible first | apply Zl1 | apply Zl2 | apply Zl3 | apply Zl4 | apply Zl5 | apply Zl6 | apply Zl7 | apply Zl8 | apply Zl9 | apply Zla | apply Zlb | apply Zlc) | (dsimp only; with_reducible first | apply Zl8 | apply Zl2 | apply Zld) | with_reducible assumption | omega | (dsimp only; omega))))).mono ?_
  rintro _ _ ⟨rfl, y1, rfl⟩
  have hBR := obj_in (show Below _ _ y1.w from y1.below) (World.alloc_heap_new w (.cells #[.slice none 0 0, .int .i64 0] 63 (0, 0)))
  have hb1 : Below w.heap.size w y1.w := by (repeat' (first | (with_reducible first | apply Zl1 | apply Zl2 | apply Zl3 | apply Zl4 | apply Zl5 | apply Zl6 | apply Zl7 | apply Zl8 | apply Zl9 | apply Zla | apply Zlb | apply Zlc) | (dsimp only; with_reducible first | apply Zl8 | apply Zl2 | apply Zld) | with_reducible assumption | omega | (dsimp only; omega)))
  have HBR := Lib.hid hBR
  have hs1 : w.heap.size < y1.w.heap.size := (Array.getElem?_eq_some_iff.1 hBR).1
  clear hBR
  obtain ⟨Z, hZ⟩ : ∃ Z, y1.w = Z := ⟨_, rfl⟩
  rw [hZ] at HBR hb1 hs1 ⊢
  have HB1 := Lib.hid hb1
  clear hb1 hZ y1
  dsimp only
  go_wp2_with fail
  refine (newBuilder_any rk Z).mono ?_
  rintro _ W1 ⟨rfl, hbl1, hb2⟩
  have HBL1 := Lib.hid hbl1
  have HB2 := Lib.hid hb2
  have hd1 := hbl1.dist
  have hs2 := hb2.size
  clear hbl1 hb2
  dsimp only
  go_wp2_with fail
  go_loopw [8, 20] (fun pv iv wr => ∃ (k : Nat) (ps : List Nat) (v' : Value) (R : List (Nat × Nat × Nat)), iv = .int .i64 (k : Int) ∧ k ≤ ns.length ∧ ps.length = k ∧ (∀ (j p : Nat) (x : DN), ps[j]? = some p → ns[j]? = some x → Same3 R x.2.2.1 p x.2.2.2) ∧ OwnN wr (Z.heap.size + 3) pv ps ∧ Bld rk wr Z.heap.size (Z.heap.size + 2) Z.heap.size (Z.heap.size + 1) (Z.heap.size + 3) v' R 0 ∧ Below Z.heap.size Z wr ∧ R.length ≤ sumN (ns.take k) ∧ (∀ g, pv.ownBlock = some g → v'.ownBlock ≠ some g)) (fun _ iv _ => ns.length - (intOf iv).toNat)
  case atStart => exact ⟨0, [], .slice none 0 0, [], rfl, by omega, rfl, fun j p x h => by simp at h, ⟨rfl, .inl ⟨rfl, rfl⟩⟩, HBL1.out, HB2.out, by simp, fun g hg => (by cases hg)⟩
  case round =>
    obtain ⟨k, ps, v', R, rfl, hk, hps, hsm, how, hbl, hbe, hrl, hne⟩ := hrel
    have HSM := Lib.hid hsm
    have HOW := Lib.hid how
    have HBL := Lib.hid hbl
    have HBE := Lib.hid hbe
    have HNE := Lib.hid hne
    have hws := hbe.size
    have hbd := hbl.dist
    have HWR := Lib.hid (HB1.out.trans (hbe.mono (show w.heap.size ≤ Z.heap.size by omega)))
    have hsl := sumN_le ns k
    clear hsm hbl hbe hne
    rcases Nat.lt_or_ge k ns.length with hkl | hkl
    · obtain ⟨x, hx⟩ : ∃ x, ns[k]? = some x := ⟨_, List.getElem?_eq_getElem hkl⟩
      obtain ⟨c0, c1⟩ := HDS.out.of HWR.out k (toI x) (by rw [List.getElem?_map, hx]; rfl)
      have hxk := HOK.out x (List.mem_of_getElem? hx)
      have hst := sumN_take ns k x hx
      have hsl1 := sumN_le ns (k + 1)
      have HX := Lib.hid hx
      obtain ⟨ad, cap, M, r⟩ := x
      dsimp only [toI] at c0 c1 hst
      rw [List.length_map] at c0
      have HA := Lib.hid (fun w' (hb : Below wr.heap.size wr w') => add_any (HBL.out.bel hb) hxk.good hxk.vars hxk.root ad cap (((hxk.ind.of HWR.out).of (hb.mono (show w.heap.size ≤ wr.heap.size by omega))).up (show w.heap.size ≤ Z.heap.size by omega)) (by dsimp only; omega))
      have HRT := Lib.hid hxk.root
      dsimp only at HA HRT
      have f0 : decide ((k : Int) < (ns.length : Int)) = true := decide_eq_true (by omega)
      have hib : (0 ≤ (k : Int) ∧ (k : Int) < (ns.length : Int)) := ⟨by omega, by omega⟩
      clear hxk hx how
      go_wp2_with fail
      refine (HA.out _ (by (repeat' (first | (with_reducible first | apply Zl1 | apply Zl2 | apply Zl3 | apply Zl4 | apply Zl5 | apply Zl6 | apply Zl7 | apply Zl8 | apply Zl9 | apply Zla | apply Zlb | apply Zlc) | (dsimp only; with_reducible first | apply Zl8 | apply Zl2 | apply Zld) | with_reducible assumption | omega | (dsimp only; omega))))).mono ?_
      rintro _ W2 ⟨p, v1, R1, rfl, hB1, hK1, hR1, hp1, hv1⟩
      have hbA : Below wr.heap.size wr (wr.alloc (.cells #[.slice ad M.length cap, .int .i64 (r : Int)] 63 (0, 0))) := by (repeat' (first | (with_reducible first | apply Zl1 | apply Zl2 | apply Zl3 | apply Zl4 | apply Zl5 | apply Zl6 | apply Zl7 | apply Zl8 | apply Zl9 | apply Zla | apply Zlb | apply Zlc) | (dsimp only; with_reducible first | apply Zl8 | apply Zl2 | apply Zld) | with_reducible assumption | omega | (dsimp only; omega)))
      have hWs := hK1.below.size
      rw [World.size_alloc] at hWs
      have HO1 := Lib.hid (show W2.ownsRow (Z.heap.size + 3) 3 1 u8 ps.length (natsV ps) from ownN_row (HOW.out.bel hbA) fun c o ho hc => hK1.keep c o ho (by have := (World.ownsRow.lt HOW.out c hc).1; omega) (by have := (World.ownsRow.lt HOW.out c hc).1; omega) (by have := (World.ownsRow.lt HOW.out c hc).1; omega) (HNE.out c hc))
      have HBF := Lib.hid hB1
      have HS3 := Lib.hid (show Same3 (R ++ R1) M p r from ⟨hp1, HRT.out, hv1⟩)
      have HB5 := Lib.hid (show Below Z.heap.size Z W2 from (HBE.out.trans (hbA.mono hws)).trans hK1.below)
      have HV1 := Lib.hid (show ∀ g, u8.ownBlock = some g → v1.ownBlock ≠ some g from fun g hg e => by
        rcases hK1.own g e with h | h
        · exact HNE.out g hg h
        · have := (World.ownsRow.lt HOW.out g hg).2
          rw [World.size_alloc] at h
          omega)
      clear hB1 hK1 hp1 hv1 hbA
      dsimp only
      go_wp2_with (at_builtin; refine wpList_append_own_at _ rfl _ _ 23 rfl (Z.heap.size + 3) 3 i0 (.int .i64 0) 1 8 Tryz.underlying23 hi0 hz0 hz1 hz2 rfl (by decide) _ ps.length (natsV ps) rfl (World.ownsRow.alloc (HO1.out) _) ⟨W2.heap.size, 0, none⟩ 1 1 [.int .i64 (p : Int)] rfl rfl (cell_one_new _ _ _) (by simp [Value.oneCell']) (by unfold maxLen; omega) (by omega) (by simp; omega) ?_; intro vv w1 hown1 hgrow1 hnil1 hgv1; clear hnil1; have HOW1 := Lib.hid hown1; have HGR1 := Lib.hid hgrow1; have HGV1 := Lib.hid hgv1; clear hown1 hgrow1 hgv1)
      have hgz : ∃ Y0 : Bel W2, Y0.w.grownBy w1 u8.ownBlock ∧ (u8.ownBlock = vv.ownBlock ∨ vv.ownBlock = some Y0.w.heap.size) := ⟨⟨_, by first | exact (Below.refl _ _).alloc (Nat.le_refl _) _ | exact ((Below.refl _ _).alloc (Nat.le_refl _) _).drew⟩, HGR1.out, by
        rcases HGV1.out with h | h
        · exact .inl h.symm
        · exact .inr h⟩
      obtain ⟨Y0, hg0, hgv0⟩ := hgz
      have hrow : ∀ g, u8.ownBlock = some g → Z.heap.size + 3 ≤ g := fun g hg => (World.ownsRow.lt HOW.out g hg).1
      have hB1 := (HBF.out.bel Y0.below).grow hg0 hrow HV1.out
      have hbF : Below Z.heap.size Z w1 := (HB5.out.trans (Y0.below.mono HB5.out.size)).grown hg0 (by have := HB5.out.size; have := Y0.below.size; omega) (fun k hk => by have := hrow k hk; omega)
      have hY := Y0.below.size
      have hown : OwnN w1 (Z.heap.size + 3) vv (ps ++ [p]) := by
        show w1.ownsRow (Z.heap.size + 3) 3 1 _ (ps ++ [p]).length (natsV (ps ++ [p]))
        rw [natsV_app, List.length_append]
        exact HOW1.out
      have hv2 : ∀ g, vv.ownBlock = some g → v1.ownBlock ≠ some g := fun g hg e => by
        rcases hgv0 with h | h
        · exact HV1.out g (h.trans hg) e
        · have := ownD_lt HBF.out.own e
          rw [hg] at h
          injection h with h
          omega
      go_roundw
      case rel =>
        exact ⟨k + 1, ps ++ [p], v1, R ++ R1, by go_num, by omega, by rw [List.length_append, hps]; rfl, same3_snoc HSM.out (by rw [hps]; exact HX.out) HS3.out, hown, hB1, hbF, by rw [List.length_append]; omega, hv2⟩
      case measure => simp [intOf]; omega
    · have hke : k = ns.length := by omega
      subst hke
      have f0 : decide ((ns.length : Int) < (ns.length : Int)) = false := decide_eq_false (by omega)
      have hmk := HM.out wr Z.heap.size (Z.heap.size + 2) Z.heap.size (Z.heap.size + 1) (Z.heap.size + 3) v' u8 R 0 ps HWR.out (by omega) HBL.out HOW.out hps HSM.out (by omega) (by omega)
      clear how
      go_wp2_with (go_at_fn f; refine hmk.mono ?_; rintro _ W3 ⟨p, v3, M3, D3, rfl, hB3, hb3, hM3, hp3, hS3⟩)
      have hML : (R ++ M3).length = R.length + M3.length := List.length_append
      rw [List.take_of_length_le (Nat.le_refl _)] at hrl
      have hO := ordr3_len (dfs3_ordr hB3.good (p + 1) p [] (Nat.lt_succ_self p) hp3 (ordr3_nil _))
      have hfuel := dfs3_fuel hB3.good (p + 1) ((R ++ M3).length + 2) p [] (Nat.lt_succ_self p) hp3 hp3
      have hcan : canonD (R ++ M3) p = (relab3 (R ++ M3) (dfs3 (R ++ M3) (p + 1) p []), at3 (dfs3 (R ++ M3) (p + 1) p []) p) := by unfold canonD; rw [hfuel]
      have hres := result_any hB3 p hp3 (by omega) (by omega)
      have e1 : relab3 (R ++ M3) (dfs3 (R ++ M3) (p + 1) p []) = (canonD (R ++ M3) p).1 := by rw [hcan]
      have e2 : at3 (dfs3 (R ++ M3) (p + 1) p []) p = (canonD (R ++ M3) p).2 := by rw [hcan]
      rw [e1, e2] at hres
      have HRES := Lib.hid hres
      have HB3 := Lib.hid (And.intro hB3.good (And.intro hB3.vars (And.intro hp3 hS3)))
      have hb3Z : Below Z.heap.size Z W3 := HBE.out.trans hb3
      have hs3 := hb3Z.size
      obtain ⟨CM, hCM⟩ : ∃ x, (canonD (R ++ M3) p).1 = x := ⟨_, rfl⟩
      obtain ⟨cr, hcr⟩ : ∃ x, (canonD (R ++ M3) p).2 = x := ⟨_, rfl⟩
      rw [hCM, hcr] at HRES
      have HCM := Lib.hid (And.intro hCM hcr)
      clear hB3 hres hO hfuel hcan hmk e1 e2 hCM hcr hp3 hS3
      refine HRES.out.mono ?_
      rintro _ W4 ⟨ad, c4, rfl, hi4, hf4, hb4⟩
      have hb4Z : Below Z.heap.size Z W4 := hb3Z.trans (hb4.mono hs3)
      have hbr := obj_in hb4Z HBR.out
      obtain ⟨d0, d1, d2, d3⟩ : W4.cell? ⟨w.heap.size, 0, none⟩ = some (.slice none 0 0) ∧ W4.cell? ⟨w.heap.size, 1, none⟩ = some (.int .i64 0) ∧ W4.frozen? ⟨w.heap.size, 0, none⟩ = false ∧ W4.frozen? ⟨w.heap.size, 1, none⟩ = false := by
        refine ⟨?_, ?_, ?_, ?_⟩ <;> simp [World.cell?, World.frozen?, hbr]
      have HI4 := Lib.hid hi4
      have hbw : Below w.heap.size w W4 := HB1.out.trans (hb4Z.mono (by omega))
      clear hi4 hbr hb4
      dsimp only
      go_wp2
      refine bodyPost_ret (v := .tuple #[.agg #[.slice ad CM.length c4, .int .i64 (cr : Int)], .int .i64 0]) (by simp [results, Tryz.results67, go_sem, d0, d1]) rfl ⟨R ++ M3, p, HB3.out.1, by omega, HB3.out.2.1, HB3.out.2.2.1, HB3.out.2.2.2, ?_⟩
      rw [HCM.out.1, HCM.out.2]
      have hfr : ∀ g off k, ad = some ⟨g, off, k⟩ → w.heap.size + 1 ≤ g := fun g off k h => by have := hf4 g off k h; omega
      exact ⟨ad, c4, rfl, by have := (HI4.out.set hfr (b := w.heap.size) (i := 0) (x := .slice ad CM.length c4) (by omega)).set hfr (b := w.heap.size) (i := 1) (x := .int .i64 (cr : Int)) (by omega); simpa using this, fun g off k h => by have := hf4 g off k h; omega, (hbw.setCell (p := ⟨w.heap.size, 0, none⟩) (Nat.le_refl _) _).setCell (p := ⟨w.heap.size, 1, none⟩) (Nat.le_refl _) _⟩
end Go.Proofs.YtlnedapimmabdaaGreatDoor

namespace Go.Proofs.YtlnedapimmabdaaGreatDoor
set_option linter.unusedVariables false
set_option linter.unusedSimpArgs false
open Go.RowKit Go.Maps
attribute [local go_sem low] Bel.cell Bel.frozen alloc_cell alloc_frozen
attribute [local go_sem] calmOp chainOp yieldsC grows
variable {rk : Nat → Nat}

theorem two_of {α : Type} {l : List α} (h : l.length = 2) : ∃ a b, l = [a, b] := by
  match l, h with
  | [a, b], _ => exact ⟨a, b, rfl⟩
theorem three_of {α : Type} {l : List α} (h : l.length = 3) : ∃ a b c, l = [a, b, c] := by
  match l, h with
  | [a, b, c], _ => exact ⟨a, b, c, rfl⟩
theorem chooseK {K c : Nat} (hc : c + 1 = 2 ^ K) (hrk : ∀ v, rk v ≤ K) {b0 B mp md base : Nat} {v : Value} {N : List (Nat × Nat × Nat)} {D : Nat} {w : World} (h : Bld rk w b0 B mp md base v N D) (p q r : Nat) (hp : p < N.length + 2) (hq : q < N.length + 2) (hr : r < N.length + 2) (hnl : N.length + c ≤ 1000000) (hdl : D + c ≤ 1000000) :
    Calls Tryz.prog 69 #[.pointer (some ⟨B, 0, none⟩), .int .i64 (p : Int), .int .i64 (q : Int), .int .i64 (r : Int)] w (RetB rk b0 B mp md base v N D w c c (ite3 N p q r)) :=
  choose_any b0 B mp md base K c hc v N D p q r w h hp hq hr (hrk _) (hrk _) (hrk _) hnl (by omega)
set_option maxRecDepth 100000 in
theorem mkNot {K c : Nat} (hc : c + 1 = 2 ^ K) (hrk : ∀ v, rk v ≤ K) (W0 : World) (x : DN) : MkC rk 68 #[] W0 [x] c (fun ρ => !val3 ρ x.2.2.1 x.2.2.2) := by
  intro w b0 B mp md base v pv N D ps hbW hb0 hbl how hps hsm hnl hdl
  obtain ⟨pa, pc, rfl, hcell⟩ := ownN_sl how
  have hdb : b0 ≤ w.heap.size := by have := hbl.dist; omega
  have HBL := Lib.hid hbl
  obtain ⟨p, rfl⟩ : ∃ p, ps = [p] := List.length_eq_one_iff.1 hps
  obtain ⟨g, hpa, _, _, hc0⟩ := hcell 0 p rfl
  subst hpa
  have hs0 := hsm 0 p x rfl rfl
  have HCH := Lib.hid (fun w' (hb : Below w.heap.size w w') => chooseK hc hrk (hbl.bel hb) p 0 1 hs0.1 (by omega) (by omega) hnl hdl)
  have HS0 := Lib.hid hs0
  clear hbl how hps hsm hcell hs0
  show Calls _ _ #[.pointer (some ⟨B, 0, none⟩), .slice (some ⟨g, 0, none⟩) 1 pc] _ _
  go_enter Tryz.func68, Tryz.ntmps68
  go_wp2_with fail
  refine (HCH.out _ (by (repeat' (first | (with_reducible first | apply Zl1 | apply Zl2 | apply Zl3 | apply Zl4 | apply Zl5 | apply Zl6 | apply Zl7 | apply Zl8 | apply Zl9 | apply Zla | apply Zlb | apply Zlc) | (dsimp only; with_reducible first | apply Zl8 | apply Zl2 | apply Zld) | with_reducible assumption | omega | (dsimp only; omega))))).mono ?_
  rintro _ W1 hR
  obtain ⟨p1, v1, M1, rfl, hB1, hK1, hM1, hp1, hv1⟩ := RetB.ahead (w := w) (by (repeat' (first | (with_reducible first | apply Zl1 | apply Zl2 | apply Zl3 | apply Zl4 | apply Zl5 | apply Zl6 | apply Zl7 | apply Zl8 | apply Zl9 | apply Zla | apply Zlb | apply Zlc) | (dsimp only; with_reducible first | apply Zl8 | apply Zl2 | apply Zld) | with_reducible assumption | omega | (dsimp only; omega)))) hdb hR
  have HB1 := Lib.hid hB1
  have HK1 := Lib.hid hK1.below
  have HV1 := Lib.hid (And.intro hM1 (And.intro hp1 hv1))
  clear hR hB1 hK1 hM1 hp1 hv1
  dsimp only
  go_wp2
  refine bodyPost_ret (v := .int .i64 (p1 : Int)) (by simp [results, Tryz.results68, go_sem]) rfl ⟨p1, v1, M1, _, rfl, HB1.out, HK1.out, HV1.out.1, HV1.out.2.1, fun ρ => ?_⟩
  rw [HV1.out.2.2 ρ]
  unfold ite3
  rw [HS0.out.2.2 ρ, val3_0, val3_1]
  dsimp only
  cases val3 ρ x.2.2.1 x.2.2.2 <;> rfl
set_option maxRecDepth 100000 in
theorem mkAnd {K c : Nat} (hc : c + 1 = 2 ^ K) (hrk : ∀ v, rk v ≤ K) (W0 : World) (x y : DN) : MkC rk 85 #[] W0 [x, y] c (fun ρ => (val3 ρ x.2.2.1 x.2.2.2 && val3 ρ y.2.2.1 y.2.2.2)) := by
  intro w b0 B mp md base v pv N D ps hbW hb0 hbl how hps hsm hnl hdl
  obtain ⟨pa, pc, rfl, hcell⟩ := ownN_sl how
  have hdb : b0 ≤ w.heap.size := by have := hbl.dist; omega
  have HBL := Lib.hid hbl
  obtain ⟨p, q, rfl⟩ : ∃ p q, ps = [p, q] := two_of hps
  obtain ⟨g, hpa, _, _, hc0⟩ := hcell 0 p rfl
  subst hpa
  obtain ⟨g', hpa, _, _, hc1⟩ := hcell 1 q rfl
  cases hpa
  have hs0 := hsm 0 p x rfl rfl
  have hs1 := hsm 1 q y rfl rfl
  have HCH := Lib.hid (fun w' (hb : Below w.heap.size w w') => chooseK hc hrk (hbl.bel hb) p q 0 hs0.1 hs1.1 (by omega) hnl hdl)
  have HS0 := Lib.hid (And.intro hs0 hs1)
  clear hbl how hps hsm hcell hs0 hs1
  show Calls _ _ #[.pointer (some ⟨B, 0, none⟩), .slice (some ⟨g, 0, none⟩) 2 pc] _ _
  go_enter Tryz.func85, Tryz.ntmps85
  go_wp2_with fail
  refine wp_region_belT 7 (by kernel_rfl) (by kernel_rfl) ?_
  simp only [List.take_succ_cons, List.take_zero, List.drop_succ_cons, List.drop_zero]
  repeat (go_big_quiet_step (fail))
  refine wpQuiet_nil ?_
  rintro _ ⟨z, rfl⟩
  go_wp2_with fail
  refine (HCH.out _ (by (repeat' (first | (with_reducible first | apply Zl1 | apply Zl2 | apply Zl3 | apply Zl4 | apply Zl5 | apply Zl6 | apply Zl7 | apply Zl8 | apply Zl9 | apply Zla | apply Zlb | apply Zlc) | (dsimp only; with_reducible first | apply Zl8 | apply Zl2 | apply Zld) | with_reducible assumption | omega | (dsimp only; omega))))).mono ?_
  rintro _ W1 hR
  obtain ⟨p1, v1, M1, rfl, hB1, hK1, hM1, hp1, hv1⟩ := RetB.ahead (w := w) (by (repeat' (first | (with_reducible first | apply Zl1 | apply Zl2 | apply Zl3 | apply Zl4 | apply Zl5 | apply Zl6 | apply Zl7 | apply Zl8 | apply Zl9 | apply Zla | apply Zlb | apply Zlc) | (dsimp only; with_reducible first | apply Zl8 | apply Zl2 | apply Zld) | with_reducible assumption | omega | (dsimp only; omega)))) hdb hR
  have HB1 := Lib.hid hB1
  have HK1 := Lib.hid hK1.below
  have HV1 := Lib.hid (And.intro hM1 (And.intro hp1 hv1))
  clear hR hB1 hK1 hM1 hp1 hv1
  dsimp only
  go_wp2
  refine bodyPost_ret (v := .int .i64 (p1 : Int)) (by simp [results, Tryz.results85, go_sem]) rfl ⟨p1, v1, M1, _, rfl, HB1.out, HK1.out, HV1.out.1, HV1.out.2.1, fun ρ => ?_⟩
  rw [HV1.out.2.2 ρ]
  unfold ite3
  rw [HS0.out.1.2.2 ρ, HS0.out.2.2.2 ρ]
  try rw [val3_0]
  try rw [val3_1]
  dsimp only
  cases val3 ρ x.2.2.1 x.2.2.2 <;> cases val3 ρ y.2.2.1 y.2.2.2 <;> rfl
set_option maxRecDepth 100000 in
theorem mkOr {K c : Nat} (hc : c + 1 = 2 ^ K) (hrk : ∀ v, rk v ≤ K) (W0 : World) (x y : DN) : MkC rk 86 #[] W0 [x, y] c (fun ρ => (val3 ρ x.2.2.1 x.2.2.2 || val3 ρ y.2.2.1 y.2.2.2)) := by
  intro w b0 B mp md base v pv N D ps hbW hb0 hbl how hps hsm hnl hdl
  obtain ⟨pa, pc, rfl, hcell⟩ := ownN_sl how
  have hdb : b0 ≤ w.heap.size := by have := hbl.dist; omega
  have HBL := Lib.hid hbl
  obtain ⟨p, q, rfl⟩ : ∃ p q, ps = [p, q] := two_of hps
  obtain ⟨g, hpa, _, _, hc0⟩ := hcell 0 p rfl
  subst hpa
  obtain ⟨g', hpa, _, _, hc1⟩ := hcell 1 q rfl
  cases hpa
  have hs0 := hsm 0 p x rfl rfl
  have hs1 := hsm 1 q y rfl rfl
  have HCH := Lib.hid (fun w' (hb : Below w.heap.size w w') => chooseK hc hrk (hbl.bel hb) p 1 q hs0.1 (by omega) hs1.1 hnl hdl)
  have HS0 := Lib.hid (And.intro hs0 hs1)
  clear hbl how hps hsm hcell hs0 hs1
  show Calls _ _ #[.pointer (some ⟨B, 0, none⟩), .slice (some ⟨g, 0, none⟩) 2 pc] _ _
  go_enter Tryz.func86, Tryz.ntmps86
  go_wp2_with fail
  refine wp_region_belT 7 (by kernel_rfl) (by kernel_rfl) ?_
  simp only [List.take_succ_cons, List.take_zero, List.drop_succ_cons, List.drop_zero]
  repeat (go_big_quiet_step (fail))
  refine wpQuiet_nil ?_
  rintro _ ⟨z, rfl⟩
  go_wp2_with fail
  refine (HCH.out _ (by (repeat' (first | (with_reducible first | apply Zl1 | apply Zl2 | apply Zl3 | apply Zl4 | apply Zl5 | apply Zl6 | apply Zl7 | apply Zl8 | apply Zl9 | apply Zla | apply Zlb | apply Zlc) | (dsimp only; with_reducible first | apply Zl8 | apply Zl2 | apply Zld) | with_reducible assumption | omega | (dsimp only; omega))))).mono ?_
  rintro _ W1 hR
  obtain ⟨p1, v1, M1, rfl, hB1, hK1, hM1, hp1, hv1⟩ := RetB.ahead (w := w) (by (repeat' (first | (with_reducible first | apply Zl1 | apply Zl2 | apply Zl3 | apply Zl4 | apply Zl5 | apply Zl6 | apply Zl7 | apply Zl8 | apply Zl9 | apply Zla | apply Zlb | apply Zlc) | (dsimp only; with_reducible first | apply Zl8 | apply Zl2 | apply Zld) | with_reducible assumption | omega | (dsimp only; omega)))) hdb hR
  have HB1 := Lib.hid hB1
  have HK1 := Lib.hid hK1.below
  have HV1 := Lib.hid (And.intro hM1 (And.intro hp1 hv1))
  clear hR hB1 hK1 hM1 hp1 hv1
  dsimp only
  go_wp2
  refine bodyPost_ret (v := .int .i64 (p1 : Int)) (by simp [results, Tryz.results86, go_sem]) rfl ⟨p1, v1, M1, _, rfl, HB1.out, HK1.out, HV1.out.1, HV1.out.2.1, fun ρ => ?_⟩
  rw [HV1.out.2.2 ρ]
  unfold ite3
  rw [HS0.out.1.2.2 ρ, HS0.out.2.2.2 ρ]
  try rw [val3_0]
  try rw [val3_1]
  dsimp only
  cases val3 ρ x.2.2.1 x.2.2.2 <;> cases val3 ρ y.2.2.1 y.2.2.2 <;> rfl
set_option maxRecDepth 100000 in
theorem mkChoose {K c : Nat} (hc : c + 1 = 2 ^ K) (hrk : ∀ v, rk v ≤ K) (W0 : World) (x y u : DN) : MkC rk 70 #[] W0 [x, y, u] c (fun ρ => if val3 ρ x.2.2.1 x.2.2.2 then val3 ρ y.2.2.1 y.2.2.2 else val3 ρ u.2.2.1 u.2.2.2) := by
  intro w b0 B mp md base v pv N D ps hbW hb0 hbl how hps hsm hnl hdl
  obtain ⟨pa, pc, rfl, hcell⟩ := ownN_sl how
  have hdb : b0 ≤ w.heap.size := by have := hbl.dist; omega
  have HBL := Lib.hid hbl
  obtain ⟨p, q, r, rfl⟩ : ∃ p q r, ps = [p, q, r] := three_of hps
  obtain ⟨g, hpa, _, _, hc0⟩ := hcell 0 p rfl
  subst hpa
  obtain ⟨g', hpa, _, _, hc1⟩ := hcell 1 q rfl
  cases hpa
  obtain ⟨g', hpa, _, _, hc2⟩ := hcell 2 r rfl
  cases hpa
  have hs0 := hsm 0 p x rfl rfl
  have hs1 := hsm 1 q y rfl rfl
  have hs2 := hsm 2 r u rfl rfl
  have HCH := Lib.hid (fun w' (hb : Below w.heap.size w w') => chooseK hc hrk (hbl.bel hb) p q r hs0.1 hs1.1 hs2.1 hnl hdl)
  have HS0 := Lib.hid (And.intro hs0 (And.intro hs1 hs2))
  clear hbl how hps hsm hcell hs0 hs1 hs2
  show Calls _ _ #[.pointer (some ⟨B, 0, none⟩), .slice (some ⟨g, 0, none⟩) 3 pc] _ _
  go_enter Tryz.func70, Tryz.ntmps70
  go_wp2_with fail
  refine wp_region_belT 10 (by kernel_rfl) (by kernel_rfl) ?_
  simp only [List.take_succ_cons, List.take_zero, List.drop_succ_cons, List.drop_zero]
  repeat (go_big_quiet_step (fail))
  refine wpQuiet_nil ?_
  rintro _ ⟨z, rfl⟩
  go_wp2_with fail
  refine (HCH.out _ (by (repeat' (first | (with_reducible first | apply Zl1 | apply Zl2 | apply Zl3 | apply Zl4 | apply Zl5 | apply Zl6 | apply Zl7 | apply Zl8 | apply Zl9 | apply Zla | apply Zlb | apply Zlc) | (dsimp only; with_reducible first | apply Zl8 | apply Zl2 | apply Zld) | with_reducible assumption | omega | (dsimp only; omega))))).mono ?_
  rintro _ W1 hR
  obtain ⟨p1, v1, M1, rfl, hB1, hK1, hM1, hp1, hv1⟩ := RetB.ahead (w := w) (by (repeat' (first | (with_reducible first | apply Zl1 | apply Zl2 | apply Zl3 | apply Zl4 | apply Zl5 | apply Zl6 | apply Zl7 | apply Zl8 | apply Zl9 | apply Zla | apply Zlb | apply Zlc) | (dsimp only; with_reducible first | apply Zl8 | apply Zl2 | apply Zld) | with_reducible assumption | omega | (dsimp only; omega)))) hdb hR
  have HB1 := Lib.hid hB1
  have HK1 := Lib.hid hK1.below
  have HV1 := Lib.hid (And.intro hM1 (And.intro hp1 hv1))
  clear hR hB1 hK1 hM1 hp1 hv1
  dsimp only
  go_wp2
  refine bodyPost_ret (v := .int .i64 (p1 : Int)) (by simp [results, Tryz.results70, go_sem]) rfl ⟨p1, v1, M1, _, rfl, HB1.out, HK1.out, HV1.out.1, HV1.out.2.1, fun ρ => ?_⟩
  rw [HV1.out.2.2 ρ]
  unfold ite3
  rw [HS0.out.1.2.2 ρ, HS0.out.2.1.2.2 ρ, HS0.out.2.2.2.2 ρ]
end Go.Proofs.YtlnedapimmabdaaGreatDoor
