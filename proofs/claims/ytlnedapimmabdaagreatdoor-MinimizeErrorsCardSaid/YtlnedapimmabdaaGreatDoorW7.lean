/- The cleaner's ask. The cleaner's not. -/
import Derived.Test.YtlnedapimmabdaaGreatDoorWx
import Derived.Test.YtlnedapimmabdaaGreatDoorShelf
import Derived.Deep.RegionLaw
import Derived.Deep.AppendLies
namespace Go.Proofs.YtlnedapimmabdaaGreatDoor
set_option linter.unusedVariables false
set_option linter.unusedSimpArgs false
open Go.RowKit Go.Maps
attribute [local go_sem low] Bel.cell Bel.frozen alloc_cell alloc_frozen
attribute [local go_sem] calmOp chainOp yieldsC grows

theorem clone_own (l : List Int) (P : Nat → Prop) (ad : Option Addr) (cap : Nat) (w : World) (hi : InS P w ad l) (hl : l.length ≤ 1000000) : Calls Tryz.prog 83 #[.slice ad l.length cap] w (fun e w' => ∃ v', e = .returned v' ∧ OwnV w' w.heap.size 3 v' (intsV l) ∧ Below w.heap.size w w') := by
  rcases Nat.eq_zero_or_pos l.length with h0 | h0
  · have hn := List.length_eq_zero_iff.1 h0
    subst hn
    cases ad with
    | none =>
      refine (Tryz.slices_Clone_int_nil 0 cap w).mono ?_
      rintro _ _ ⟨rfl, rfl⟩
      exact ⟨_, rfl, ownV_nil _ _ _, Below.refl _ _⟩
    | some a =>
      refine (Tryz.slices_Clone_int_zero a cap w).mono ?_
      rintro _ _ ⟨v', rfl, h1, _, h2⟩
      exact ⟨_, rfl, h1, h2⟩
  · obtain ⟨b, off, e, _, hcs⟩ := hi h0
    subst e
    refine (Tryz.slices_Clone_int b off l.length cap l w (Nat.le_refl _) (by omega) (fun j hj => hcs j _ (by rw [List.getD_eq_getElem?_getD, List.getElem?_eq_getElem hj]; rfl))).mono ?_
    rintro _ _ ⟨v', rfl, h1, _, h2⟩
    refine ⟨_, rfl, ?_, h2⟩
    rw [List.take_length] at h1
    unfold OwnV intsV
    rw [List.length_map]
    exact h1
def gB (g : Gt) : ByteArray := ⟨(gateT g).toArray⟩
theorem gB_inj {g h : Gt} (e : Value.string (gB g) = .string (gB h)) : g = h := by
  injection e with e
  apply gateT_inj
  have := congrArg (fun b : ByteArray => b.data.toList) e
  simpa [gB] using this
structure Cl (b0 C mb base : Nat) (gv : Value) (us : List UG) (L : List Gt) (W : World) : Prop where
  obj : W.heap[C]? = some (.cells #[gv, .map (some mb)] 105 (0, 0))
  gts : OwnK W base gv us
  eq : us.map (·.1) = L.map gz
  map : ∃ c m, FunM Tryz.prog 9 3 W mb c m ∧ c ≤ L.length ∧ (∀ (i : Nat) (g : Gt), L[i]? = some g → m (.string (gB g)) = some (i : Int)) ∧ ∀ (g : Gt) (z : Int), m (.string (gB g)) = some z → ∃ i : Nat, L[i]? = some g ∧ z = (i : Int)
  dist : C ≠ mb ∧ b0 ≤ C ∧ b0 ≤ mb ∧ C < base ∧ mb < base ∧ base ≤ W.heap.size
structure Kc (b0 C mb : Nat) (gv : Value) (W : World) (gv' : Value) (W' : World) : Prop where
  below : Below b0 W W'
  size : W.heap.size ≤ W'.heap.size
  keep : ∀ b, b < W.heap.size → b ≠ C → b ≠ mb → gv.ownBlock ≠ some b → W'.heap[b]? = W.heap[b]?
  own : ∀ g, gv'.ownBlock = some g → gv.ownBlock = some g ∨ W.heap.size ≤ g
variable {b0 C mb base : Nat} {gv gv1 gv2 : Value} {us : List UG} {L : List Gt} {W W1 W2 : World}
theorem Kc.refl (b0 C mb : Nat) (gv : Value) (W : World) : Kc b0 C mb gv W gv W := ⟨Below.refl _ _, Nat.le_refl _, fun _ _ _ _ _ => rfl, fun _ h => .inl h⟩
theorem Kc.ahead {W0 : World} (hb : Below W0.heap.size W0 W) (h0 : b0 ≤ W0.heap.size) (h : Kc b0 C mb gv W gv1 W1) : Kc b0 C mb gv W0 gv1 W1 := by
  have hs := hb.size
  have hs1 := h.size
  exact ⟨(hb.mono h0).trans h.below, by omega, fun b h1 h2 h3 h4 => (h.keep b (by omega) h2 h3 h4).trans (hb.block b h1), fun g hg => (h.own g hg).imp id (fun h => by omega)⟩
theorem Cl.of (h : Cl b0 C mb base gv us L W) (hb : Below W.heap.size W W1) : Cl b0 C mb base gv us L W1 := by
  obtain ⟨d1, d2, d3, d4, d5, d6⟩ := h.dist
  obtain ⟨c, m, p1, p2⟩ := h.map
  exact ⟨obj_in hb h.obj, ownK_bel h.gts hb, h.eq, ⟨c, m, p1.heap fun o ho => obj_in hb ho, p2⟩, d1, d2, d3, d4, d5, Nat.le_trans d6 hb.size⟩
theorem Cl.val (h : Cl b0 C mb base gv us L W) : ∃ a c, gv = .slice a L.length c ∧ InGt (fun b => base ≤ b) W a (L.map gz) := by
  obtain ⟨a, c, h1, h2⟩ := ownK_in h.gts
  rw [h.eq] at h2
  have : us.length = L.length := by have := congrArg List.length h.eq; simpa using this
  rw [this] at h1
  exact ⟨a, c, h1, h2⟩
theorem Cl.own (h : Cl b0 C mb base gv us L W) {g : Nat} (hg : gv.ownBlock = some g) : base ≤ g ∧ g < W.heap.size := World.ownsRow.lt h.gts.1 g hg
theorem Cl.push (h : Cl b0 C mb base gv us L W) {Z w1 W9 w3 : World} {u : UG} {g : Gt} {gg cc : Nat} (hz : Below W.heap.size W Z) (hug : u.1 = gz g) (hng : g ∉ L) (hk : OwnK w1 base (.slice (some ⟨gg, 0, none⟩) (L.length + 1) cc) (us ++ [u])) (hg : Z.grownBy w1 gv.ownBlock) (h5 : gv.ownBlock = some gg ∨ gg = Z.heap.size) (hb9 : Below (w1.setCell ⟨C, 0, none⟩ (.slice (some ⟨gg, 0, none⟩) (L.length + 1) cc)).heap.size (w1.setCell ⟨C, 0, none⟩ (.slice (some ⟨gg, 0, none⟩) (L.length + 1) cc)) W9)
    (hg3 : W9.grownBy w3 (some mb)) (hm : ∃ c m m', FunM Tryz.prog 9 3 W mb c m ∧ FunM Tryz.prog 9 3 w3 mb (c + 1) m' ∧ c ≤ L.length ∧ (∀ (i : Nat) (g : Gt), L[i]? = some g → m (.string (gB g)) = some (i : Int)) ∧ (∀ (g : Gt) (z : Int), m (.string (gB g)) = some z → ∃ i : Nat, L[i]? = some g ∧ z = (i : Int)) ∧ m' (.string (gB g)) = some (L.length : Int) ∧ ∀ j, j ≠ .string (gB g) → m' j = m j) :
    Cl b0 C mb base (.slice (some ⟨gg, 0, none⟩) (L.length + 1) cc) (us ++ [u]) (L ++ [g]) w3 ∧ Kc b0 C mb gv W (.slice (some ⟨gg, 0, none⟩) (L.length + 1) cc) w3 := by
  obtain ⟨d1, d2, d3, d4, d5, d6⟩ := h.dist
  obtain ⟨c, m, m', p1, p2, p3, p4, p5, p6, p7⟩ := hm
  have hzs := hz.size
  have hgs := hg.size
  have h9s := hb9.size
  have h3s := hg3.size
  rw [World.size_setCell] at h9s
  have hvb : ∀ b, b < base → some b ≠ gv.ownBlock := fun b hb e => by have := (h.own e.symm).1; omega
  have hkeep : ∀ b, b < W.heap.size → b ≠ C → b ≠ mb → gv.ownBlock ≠ some b → w3.heap[b]? = W.heap[b]? := fun b h1 h2 h3 h4 => by
    rw [hg3.block b (by omega) (fun e => h3 (by injection e)), hb9.block b (by rw [World.size_setCell]; omega), set_heap_ne _ h2, hg.block b (by omega) (fun e => h4 e.symm), hz.block b h1]
  have hC : w3.heap[C]? = some (.cells #[.slice (some ⟨gg, 0, none⟩) (L.length + 1) cc, .map (some mb)] 105 (0, 0)) := by
    have o1 : w1.heap[C]? = some (.cells #[gv, .map (some mb)] 105 (0, 0)) := (hg.block C (by omega) (hvb C d4)).trans ((hz.block C (by omega)).trans h.obj)
    have o2 := obj_setD (i := 0) (.slice (some ⟨gg, 0, none⟩) (L.length + 1) cc) o1
    rw [hg3.block C (by omega) (fun e => d1 (by injection e)), hb9.block C (by rw [World.size_setCell]; omega), o2]
    simp
  have hbel : Below b0 W w3 := by
    have e1 : Below b0 W w1 := (hz.mono (by omega)).grown hg (by omega) (fun k hk => by have := (h.own hk).1; omega)
    have e2 := e1.setCell (p := ⟨C, 0, none⟩) (by simp; omega) (.slice (some ⟨gg, 0, none⟩) (L.length + 1) cc)
    exact (e2.trans (hb9.mono (by rw [World.size_setCell]; omega))).grown hg3 (by omega) (fun k hk => by injection hk with hk; omega)
  refine ⟨⟨hC, ?_, by rw [List.map_append, List.map_append, h.eq, List.map_singleton, List.map_singleton, hug], ⟨c + 1, m', p2, by rw [List.length_append, List.length_singleton]; omega, fun i x hx => ?_, fun x z hx => ?_⟩, d1, d2, d3, d4, d5, by omega⟩, hbel, by omega, hkeep, fun x hx => ?_⟩
  · refine ownK_heap (w := w1) hk fun b hb hl => ?_
    rw [hg3.block b (by omega) (fun e => by injection e with e; omega), hb9.block b (by rw [World.size_setCell]; exact hl), set_heap_ne _ (by omega)]
  · rcases Nat.lt_or_ge i L.length with hi | hi
    · rw [List.getElem?_append_left hi] at hx
      have hne : Value.string (gB x) ≠ .string (gB g) := fun e => by
        have e2 := gB_inj e
        subst e2
        exact hng (List.mem_of_getElem? hx)
      rw [p7 _ hne]
      exact p4 i x hx
    · rw [List.getElem?_append_right hi] at hx
      have hi0 : i - L.length = 0 := by
        rcases Nat.eq_zero_or_pos (i - L.length) with h | h
        · exact h
        · rw [List.getElem?_eq_none (by simp; omega)] at hx; cases hx
      rw [hi0] at hx
      injection hx with hx
      subst hx
      rw [p6, show i = L.length by omega]
  · by_cases e : x = g
    · subst e
      rw [p6] at hx
      injection hx with hx
      exact ⟨L.length, by rw [List.getElem?_append_right (Nat.le_refl _), Nat.sub_self]; rfl, hx.symm⟩
    · rw [p7 _ (fun h => e (gB_inj h))] at hx
      obtain ⟨i, hi, hz⟩ := p5 x z hx
      exact ⟨i, by rw [List.getElem?_append_left (List.getElem?_eq_some_iff.1 hi).1, hi], hz⟩
  · have e : gg = x := by simpa [Value.ownBlock] using hx
    subst e
    rcases h5 with h5 | h5
    · exact .inl h5
    · right; omega
def AskR (b0 C mb base : Nat) (gv : Value) (W : World) (r : List Gt × Nat) (e : Ending) (W' : World) : Prop := e = .returned (.int .i64 (r.2 : Int)) ∧ ∃ gv' us', Cl b0 C mb base gv' us' r.1 W' ∧ Kc b0 C mb gv W gv' W'
theorem AskR.ahead {W0 : World} {r : List Gt × Nat} {e : Ending} (hb : Below W0.heap.size W0 W) (h0 : b0 ≤ W0.heap.size) (h : AskR b0 C mb base gv W r e W1) : AskR b0 C mb base gv W0 r e W1 := by
  obtain ⟨h1, gv', us', h2, h3⟩ := h
  exact ⟨h1, gv', us', h2, h3.ahead hb h0⟩
set_option maxRecDepth 100000 in
set_option maxHeartbeats 12800000 in
theorem ask_any (h : Cl b0 C mb base gv us L W) (k a : Nat) (ins : List Nat) (P : Nat → Prop) (ad : Option Addr) (cap : Nat) (hi : InS P W ad (intsN ins)) (hk : k < 1000000000000000) (ha : a < 1000000000000000) (hin : ∀ x ∈ ins, x < 1000000000000000) (hl : L.length ≤ 1000000) (hil : ins.length ≤ 100000) (hT : Tab W) :
    Calls Tryz.prog 58 #[.pointer (some ⟨C, 0, none⟩), .int .i64 (k : Int), .int .i64 (a : Int), .slice ad ins.length cap] W (AskR b0 C mb base gv W (findG L (k, a, ins))) := by
  obtain ⟨j0, hj0, hy0, hy1, hy2⟩ := info_parts Tryz.infoG
  have HJ := Lib.hid (And.intro hj0 (And.intro hy0 (And.intro hy1 hy2)))
  clear hj0 hy0 hy1 hy2
  have HC := Lib.hid h
  have HIN := Lib.hid hin
  have HI := Lib.hid hi
  have HIT := Lib.hid (fun (k : Nat) (hk : k < 1000000000000000) (w' : World) (hb : Below W.heap.size W w') => itoaN_any k w' hk (hT.of hb))
  clear h hin hi hT
  go_enter Tryz.func58, Tryz.ntmps58
  go_wp2_with fail
  refine (HIT.out k hk _ (Below.refl _ _)).mono ?_
  rintro _ _ ⟨rfl, y, rfl⟩
  have hszk := dgB_size hk
  dsimp only
  go_wp2_with fail
  refine (HIT.out a ha _ y.below).mono ?_
  rintro _ _ ⟨rfl, y2, rfl⟩
  have hsza := dgB_size ha
  have hby : Below W.heap.size W y2.w := y.below.trans (y2.below.mono y.size_le)
  have HBY := Lib.hid hby
  clear hby
  dsimp only
  have hsz0 : (dgB k ++ ⟨#[44]⟩ ++ dgB a).size ≤ 41 := by
    have hb1 : (⟨#[44]⟩ : ByteArray).size = 1 := rfl
    simp only [ByteArray.size_append, hb1]
    omega
  have hs0 : dgB k ++ ⟨#[44]⟩ ++ dgB a = ⟨(keyT 44 k (a :: ins.take 0)).toArray⟩ := by
    rw [List.take_zero, show [a] = [] ++ [a] from rfl, keyB_snoc]
    simp [ByteArray.append_assoc, keyT, sepT, dgB]
  have HS0 := Lib.hid hs0
  clear hs0
  go_wp2_with fail
  go_loopw [9, 22] (fun sv iv wr => ∃ (j : Nat) (s : ByteArray), iv = .int .i64 (j : Int) ∧ j ≤ ins.length ∧ sv = .string s ∧ s = ⟨(keyT 44 k (a :: ins.take j)).toArray⟩ ∧ s.size ≤ 41 + 21 * j ∧ Below W.heap.size W wr) (fun _ iv _ => ins.length - (intOf iv).toNat)
  case atStart => exact ⟨0, _, rfl, Nat.zero_le _, rfl, HS0.out, hsz0, HBY.out⟩
  case round =>
    rename World => wo
    obtain ⟨j, s, rfl, hj, rfl, hs, hsz, hbe⟩ := hrel
    have HS := Lib.hid hs
    have HBE := Lib.hid hbe
    have hwo := hbe.size
    clear hs
    rcases Nat.lt_or_ge j ins.length with hjl | hjl
    · obtain ⟨x, hx⟩ := some_at hjl
      obtain ⟨b3, o3, hadd, hb3, z0⟩ := (HI.out.of hbe).at (show (intsN ins)[j]? = some (x : Int) by unfold intsN; rw [List.getElem?_map, hx]; rfl)
      subst hadd
      have hx15 := HIN.out x (List.mem_of_getElem? hx)
      have hszx := dgB_size hx15
      have HX := Lib.hid hx
      have f2 : decide ((j : Int) < (ins.length : Int)) = true := decide_eq_true (by omega)
      have hib2 : (0 ≤ (j : Int) ∧ (j : Int) < (ins.length : Int)) := ⟨by omega, by omega⟩
      clear hx hbe
      go_wp2_with fail
      refine (HIT.out x hx15 _ HBE.out).mono ?_
      rintro _ _ ⟨rfl, y5, rfl⟩
      dsimp only
      go_wp2
      go_roundw
      case rel =>
        refine ⟨j + 1, _, by go_num, by omega, rfl, ?_, ?_, HBE.out.trans (y5.below.mono hwo)⟩
        · rw [HS.out, take_snoc HX.out, ← List.cons_append, keyB_snoc]
        · have hb1 : (⟨#[44]⟩ : ByteArray).size = 1 := rfl
          simp only [ByteArray.size_append, hb1]
          omega
      case measure => simp [intOf]; omega
    · have hke : j = ins.length := by omega
      subst hke
      have f2 : decide ((ins.length : Int) < (ins.length : Int)) = false := decide_eq_false (by omega)
      have hsB : s = gB (k, a, ins) := by rw [HS.out, List.take_length]; rfl
      have hlen : (gateT (k, a, ins)).length ≤ maxLen := by
        have : s.size = (gateT (k, a, ins)).length := by rw [hsB]; simp [gB, ByteArray.size]
        unfold maxLen
        omega
      have hCo := HC.out.of hbe
      obtain ⟨c0, c1, c2, c3⟩ := box2 hCo.obj
      obtain ⟨cn, m, hm, hcn, hm1, hm2⟩ := hCo.map
      have hkey := key_str (P := Tryz.prog) Tryz.underlying9 hlen
      have hrun := funM_run_ok (t := 78) (w := wo) (string_keyed Tryz.underlying9) Tryz.underlying78 Tryz.underlying3 (by rfl) hm hkey
      have HKEY := Lib.hid hkey
      have HM := Lib.hid hm
      have HM1 := Lib.hid (And.intro hm1 hm2)
      have HCO := Lib.hid hCo
      subst hsB
      rw [show Value.string ⟨(gateT (k, a, ins)).toArray⟩ = .string (gB (k, a, ins)) from rfl] at hrun
      by_cases hmem : (k, a, ins) ∈ L
      · have hidx : L[L.idxOf (k, a, ins)]? = some (k, a, ins) := by
          have hlt := List.idxOf_lt_length_of_mem hmem
          rw [List.getElem?_eq_getElem hlt, List.getElem_idxOf hlt]
        have hmi := hm1 _ _ hidx
        rw [hmi] at hrun
        simp only [Option.getD_some, Option.isSome_some] at hrun
        have HF := Lib.hid (show findG L (k, a, ins) = (L, L.idxOf (k, a, ins)) from by rw [findG, if_pos hmem])
        obtain ⟨ix, hix⟩ : ∃ ix, L.idxOf (k, a, ins) = ix := ⟨_, rfl⟩
        rw [hix] at hrun HF
        clear hlen hkey hm hm1 hm2 hmem hidx hmi hCo hbe hix
        go_wp2
        refine bodyPost_ret (v := .int .i64 (ix : Int)) (by simp [results, Tryz.results58, go_sem]) rfl ?_
        rw [HF.out]
        exact ⟨rfl, _, _, HCO.out, (Kc.refl _ _ _ _ _).ahead HBE.out (by have := HC.out.dist; omega)⟩
      · have hmn : m (.string (gB (k, a, ins))) = none := by
          cases hq : m (.string (gB (k, a, ins))) with
          | none => rfl
          | some z =>
            obtain ⟨i, h1, _⟩ := hm2 _ z hq
            exact absurd (List.mem_of_getElem? h1) hmem
        rw [hmn] at hrun
        simp only [Option.getD_none, Option.isSome_none] at hrun
        have hcn2 := hcn
        have HF := Lib.hid (show findG L (k, a, ins) = (L ++ [(k, a, ins)], L.length) from by rw [findG, if_neg hmem])
        have HNM := Lib.hid hmem
        clear hlen hkey hm hm1 hm2 hmem hmn hCo hbe
        have hdd := HCO.out.dist
        have hd0 := HC.out.dist
        obtain ⟨gva, gvc, hgv, -⟩ := HCO.out.val
        subst hgv
        have hul : us.length = L.length := by have := congrArg List.length HCO.out.eq; simpa using this
        have HUL := Lib.hid hul
        clear hul
        have HCLN := Lib.hid (fun w' (hb : Below wo.heap.size wo w') => (show Calls Tryz.prog 83 #[.slice ad ins.length cap] w' (fun e W5 => ∃ va vc, e = .returned (.slice va ins.length vc) ∧ OwnV W5 wo.heap.size 3 (.slice va ins.length vc) (intsV (intsN ins)) ∧ Below wo.heap.size wo W5) from by
          have hcl := clone_own (intsN ins) _ ad cap w' ((HI.out.of HBE.out).of hb) (by unfold intsN; rw [List.length_map]; omega)
          rw [show (intsN ins).length = ins.length by unfold intsN; rw [List.length_map]] at hcl
          refine hcl.mono ?_
          rintro _ W5 ⟨v5, rfl, hov5, hb5⟩
          obtain ⟨va, vc, hv5⟩ := ownV_shape hov5
          rw [show (intsV (intsN ins)).length = ins.length by unfold intsV intsN; rw [List.length_map, List.length_map]] at hv5
          subst hv5
          exact ⟨va, vc, rfl, ownV_mono hov5 hb.size, hb.trans (hb5.mono hb.size)⟩))
        have hROW := HCO.out.gts.1
        rw [HUL.out] at hROW
        have HROW := Lib.hid (fun W5 (hb : Below wo.heap.size wo W5) => (show W5.ownsRow base 45 3 (.slice gva L.length gvc) L.length (cellsZ us) from ownsRow_heap hROW fun g hg => hb.block g (World.ownsRow.lt hROW g hg).2))
        have HCB := Lib.hid (show ∀ W5 V V1 : World, Below wo.heap.size wo W5 → Below W5.heap.size W5 V → V.grownBy V1 (Value.slice gva L.length gvc).ownBlock → V1.heap[C]? = some (.cells #[.slice gva L.length gvc, .map (some mb)] 105 (0, 0)) from fun W5 V V1 h1 h2 h3 => by
          have hs1 := h1.size
          have hs2 := h2.size
          rw [h3.block C (by omega) (fun e => by have := (HCO.out.own e.symm).1; omega), h2.block C (by omega), h1.block C (by omega)]
          exact HCO.out.obj)
        have hRf : Below wo.heap.size wo wo := Below.refl _ _
        obtain ⟨i0, hi0, hz0, hz1, hz2⟩ : ∃ i0, Tryz.prog.info? 45 = some i0 ∧ i0.zero = some (.agg #[.int .i64 0, .int .i64 0, .slice none 0 0]) ∧ i0.size = 3 ∧ i0.bytes = 40 := ⟨j0, HJ.out⟩
        clear hROW HJ
        go_wp2_with fail
        clear hrun
        go_region_law (first | (go_simp; refine (HCLN.out _ (by (repeat' (first | (with_reducible first | apply Zl1 | apply Zl2 | apply Zl3 | apply Zl4 | apply Zl5 | apply Zl6 | apply Zl7 | apply Zl8 | apply Zl9 | apply Zla | apply Zlb | apply Zlc) | (dsimp only; with_reducible first | apply Zl8 | apply Zl2 | apply Zld) | with_reducible assumption | omega | (dsimp only; omega))))).mono ?_; rintro _ W5 ⟨va, vc, rfl, hov5, hb5⟩; have HOV5 := Lib.hid hov5; have HB5 := Lib.hid hb5; have hs5 := hb5.size; have HR5 := Lib.hid (HROW.out W5 hb5); have hC5 := obj_in hb5 HCO.out.obj; obtain ⟨t0, t1, t2, t3⟩ := box2 hC5; clear hov5 hb5 hC5; dsimp only) | (refine step_append_lies _ (by rfl) _ _ _ (by rfl) base 45 i0 _ 3 40 Tryz.underlying22 hi0 hz0 hz1 hz2 (by decide) (by decide) _ L.length (cellsZ us) (by rfl) (World.ownsRow.alloc (HR5.out) _) ⟨W5.heap.size, 0, none⟩ 1 1 [.int .i64 (k : Int), .int .i64 (a : Int), .slice va ins.length vc] (by rfl) rfl (World.news_of_block (World.alloc_heap_new _ _)) (by simp [Value.oneCell']) (by decide) (by unfold maxLen; omega) (by omega) (by simp; omega) _ rfl ?_; intro g1 cap1 w1 hown1 hgrow1 hgv1 hgl1; have hC1 := HCB.out W5 _ w1 HB5.out (by (repeat' (first | (with_reducible first | apply Zl1 | apply Zl2 | apply Zl3 | apply Zl4 | apply Zl5 | apply Zl6 | apply Zl7 | apply Zl8 | apply Zl9 | apply Zla | apply Zlb | apply Zlc) | (dsimp only; with_reducible first | apply Zl8 | apply Zl2 | apply Zld) | with_reducible assumption | omega | (dsimp only; omega)))) hgrow1; obtain ⟨s0, s1, s2, s3⟩ := box2 hC1))
        all_goals
          have hgz : ∃ Y0 : Bel W5, Y0.w.grownBy w1 (Value.slice gva L.length gvc).ownBlock ∧ ((Value.slice gva L.length gvc).ownBlock = some g1 ∨ g1 = Y0.w.heap.size) := ⟨⟨_, by first | exact (Below.refl _ _).alloc (Nat.le_refl _) _ | exact ((Below.refl _ _).alloc (Nat.le_refl _) _).drew⟩, hgrow1, by first | exact hgv1 | (rcases hgv1 with h | h; exact .inl h; exact .inr (by rw [h]; simp))⟩
          obtain ⟨Y0, hg0, hgv0⟩ := hgz
          obtain ⟨Z, hZ⟩ : ∃ Z, Y0.w = Z := ⟨_, rfl⟩
          have hbz5 : Below W5.heap.size W5 Z := by rw [← hZ]; exact Y0.below
          rw [hZ] at hg0 hgv0
          have hbz : Below wo.heap.size wo Z := HB5.out.trans (hbz5.mono hs5)
          have hzs := hbz5.size
          have hgs := hg0.size
          obtain ⟨u, hu⟩ : ∃ u : UG, u = (gz (k, a, ins), va, vc) := ⟨_, rfl⟩
          have hiv : inV u = .slice va ins.length vc := by rw [hu, inV]; unfold gz; dsimp only; rw [List.length_map]
          have huV : OwnV Z wo.heap.size 3 (inV u) (intsV u.1.2.2) := by
            rw [hiv, hu]
            exact ownV_heap HOV5.out fun g hg => hbz5.block g (ownV_lt HOV5.out hg).2
          have hCz := HCO.out.of hbz
          have hrow : w1.ownsRow base 45 3 (.slice (some ⟨g1, 0, none⟩) (L.length + 1) cap1) (us.length + 1) (cellsZ us ++ [.int .i64 u.1.1, .int .i64 u.1.2.1, inV u]) := by
            rw [HUL.out, hiv, hu]
            exact hown1
          have hk := ownK_app hCz.gts (ownV_mono huV (by omega)) (fun b hb e => by have := (ownV_lt huV hb).1; have := (HCO.out.own e).2; omega) (fun y hy b hb e => by have := (ownV_lt huV e).1; have := (ownV_lt (HCO.out.gts.2.1 y hy).1 hb).2; omega) hrow hg0 (hgv0.imp (fun e => by rw [e]; rfl) (fun e => by rw [e]; rfl))
          have hC2 := obj_setD (i := 0) (.slice (some ⟨g1, 0, none⟩) (L.length + 1) cap1) hC1
          have hm2 : FunM Tryz.prog 9 3 (w1.setCell ⟨C, 0, none⟩ (.slice (some ⟨g1, 0, none⟩) (L.length + 1) cap1)) mb cn m := HM.out.heap fun o ho => obj_neD _ (fun e => hdd.1 e.symm) ((hg0.block mb (by omega) (fun e => by have := (HCO.out.own e.symm).1; omega)).trans (obj_in hbz ho))
          have HK := Lib.hid hk
          have HU := Lib.hid hu
          have HG0 := Lib.hid hg0
          have HGV := Lib.hid hgv0
          have HBZ := Lib.hid hbz
          obtain ⟨V2, hV2⟩ : ∃ V2, w1.setCell ⟨C, 0, none⟩ (.slice (some ⟨g1, 0, none⟩) (L.length + 1) cap1) = V2 := ⟨_, rfl⟩
          have HV2 := Lib.hid hV2
          have hV2s : w1.heap.size = V2.heap.size := by rw [← hV2, World.size_setCell]
          rw [hV2] at hC2 hm2 ⊢
          have HC2 := Lib.hid hC2
          have HM2 := Lib.hid hm2
          obtain ⟨r0, r1, r2, r3⟩ := box2 (show V2.heap[C]? = some (.cells #[.slice (some ⟨g1, 0, none⟩) (L.length + 1) cap1, .map (some mb)] 105 (0, 0)) by simpa using hC2)
          clear hg0 hgv0 hbz5 hbz huV hCz hrow hk hC1 hC2 hm2 hV2 hZ hown1 hgrow1 hgv1 hgl1 s0 s1 s2 s3 t0 t1 t2 t3 hu hiv
          have hwr0 : IntKind.i64.wrap (L.length : Int) = (L.length : Int) := IntWalk.i64_in _ (by omega)
          go_wp2_with fail
          refine wp_region_plan 11 (.calm 0 (.calm 1 (.calm 2 (.calm 3 (.calm 4 (.calm 5 (.calm 6 (.calm 7 (.calm 8 (.calm 9 (.calm 10 .tail))))))))))) (by kernel_rfl) (by kernel_rfl) ?_
          simp only [Plan.walk, operAt, List.getElem?_cons_succ, List.getElem?_cons_zero, Option.getD_some, List.drop_succ_cons, List.drop_zero]
          repeat (refine wpX_calm (fun K hK => ?_); go_simp; first | (refine hK _ _ ?_; clear hK K) | (apply Exists.intro; refine ⟨fun _ => ?_, hK _ _ ?_⟩; (fail); clear hK K))
          refine wpX_tail ?_
          intro z9
          have HM9 := Lib.hid (HM2.out.heap fun o ho => obj_in z9.below ho)
          have HB9 := Lib.hid (obj_in z9.below (show V2.heap[C]? = some (.cells #[.slice (some ⟨g1, 0, none⟩) (L.length + 1) cap1, .map (some mb)] 105 (0, 0)) by simpa using HC2.out))
          have hz9 := z9.size_le
          have hmn := HM2.out.lt
          go_wp2_with (at_mapUpdate; (refine wpList_update_funM _ rfl _ _ _ _ rfl 9 3 (string_keyed Tryz.underlying9) Tryz.underlying78 Tryz.underlying3 mb cn m rfl HM9.out (by unfold maxLen; omega) (.string (gB (k, a, ins))) _ rfl HKEY.out (L.length : Int) rfl (wf_i64D ⟨by omega, by omega⟩) ?_; intro w3 m3 hm3 hz3 ho3 hg3; have HM3 := Lib.hid hm3; have HH3 := Lib.hid (And.intro hz3 ho3); have HG3 := Lib.hid hg3; have hs3 := hg3.size; have hB3 := (hg3.block C (Array.getElem?_eq_some_iff.1 HB9.out).1 (fun e => hdd.1 (by injection e))).trans HB9.out; obtain ⟨u0, u1, u2, u3⟩ := box2 hB3; clear hm3 hz3 ho3 hg3 hB3))
          go_wp2
          have hY9 : Below (w1.setCell ⟨C, 0, none⟩ (.slice (some ⟨g1, 0, none⟩) (L.length + 1) cap1)).heap.size (w1.setCell ⟨C, 0, none⟩ (.slice (some ⟨g1, 0, none⟩) (L.length + 1) cap1)) z9.w := by rw [HV2.out]; exact z9.below
          have hpush := HCO.out.push HBZ.out (show u.1 = gz (k, a, ins) by rw [HU.out]) HNM.out HK.out HG0.out HGV.out hY9 HG3.out ⟨cn, m, m3, HM.out, HM3.out, by omega, HM1.out.1, HM1.out.2, HH3.out.1, HH3.out.2⟩
          refine bodyPost_ret (v := .int .i64 (L.length : Int)) (by simp [results, Tryz.results58, go_sem]) rfl ?_
          rw [HF.out]
          exact ⟨rfl, _, _, hpush.1, hpush.2.ahead HBE.out (by omega)⟩
end Go.Proofs.YtlnedapimmabdaaGreatDoor

namespace Go.Proofs.YtlnedapimmabdaaGreatDoor
set_option linter.unusedVariables false
set_option linter.unusedSimpArgs false
open Go.RowKit Go.Maps
attribute [local go_sem low] Bel.cell Bel.frozen alloc_cell alloc_frozen
variable {b0 C mb base : Nat} {gv gv1 gv2 : Value} {us : List UG} {L : List Gt} {W W1 W2 : World}

def notG (L : List Gt) (i : Nat) : List Gt × Nat := if kd L i = 5 ∨ kd L i = 6 then findG L (11 - kd L i, 0, []) else if kd L i = 2 then (L, hd1 L i) else findG L (2, 0, [i])
set_option maxRecDepth 100000 in
set_option maxHeartbeats 12800000 in
theorem not_any (vv : Nat) (h : Cl b0 C mb base gv us L W) (hok : okL vv L) (i : Nat) (hi : i < L.length) (hl : L.length ≤ 1000000) (hT : Tab W) :
    Calls Tryz.prog 56 #[.pointer (some ⟨C, 0, none⟩), .int .i64 (i : Int)] W (AskR b0 C mb base gv W (notG L i)) := by
  have HC := Lib.hid h
  have hd0 := h.dist
  obtain ⟨gva, gvc, hgv, hing⟩ := h.val
  obtain ⟨gg, hgg⟩ : ∃ gg, L[i]? = some gg := ⟨_, List.getElem?_eq_getElem hi⟩
  obtain ⟨b6, o6, hadd6, hb6, ax, cx, y0, y1, y2, hi6⟩ := hing.at (show (L.map gz)[i]? = some (gz gg) by rw [List.getElem?_map, hgg]; rfl)
  subst hgv
  subst hadd6
  dsimp only [gz] at y0 y1 y2 hi6
  rw [List.length_map] at y2
  have HOG := Lib.hid (hok i gg hgg)
  have hkd : kd L i = gg.1 := by rw [kd, gtAt_some hgg]
  have hh1 : hd1 L i = gg.2.2.headD 0 := by rw [hd1, gtAt_some hgg]
  have HNG := Lib.hid (show notG L i = (if gg.1 = 5 ∨ gg.1 = 6 then findG L (11 - gg.1, 0, []) else if gg.1 = 2 then (L, gg.2.2.headD 0) else findG L (2, 0, [i])) from by rw [notG, hkd, hh1])
  have HA := Lib.hid (fun w' (hb : Below W.heap.size W w') => (h.of hb))
  have HT := Lib.hid hT
  have HI6 := Lib.hid hi6
  obtain ⟨c0, c1, c2, c3⟩ := box2 h.obj
  have hib : (0 ≤ (i : Int) ∧ (i : Int) < (L.length : Int)) := ⟨by omega, by omega⟩
  have hal : ∀ o, Below W.heap.size W (W.alloc o) := fun o => (Below.refl _ _).alloc (Nat.le_refl _) o
  have HAL := Lib.hid hal
  have HASK0 := Lib.hid (fun (kk : Nat) (hkk : kk ≤ 100) (o : Obj) => (show Calls Tryz.prog 58 #[.pointer (some ⟨C, 0, none⟩), .int .i64 (kk : Int), .int .i64 0, .slice none 0 0] (W.alloc o) (AskR b0 C mb base (.slice (some ⟨b6, o6, none⟩) L.length gvc) W (findG L (kk, 0, []))) from
    (ask_any (h.of (hal o)) kk 0 [] (fun _ => True) none 0 (inS_nil _ _ _) (by omega) (by omega) (fun x hx => by cases hx) hl (by simp) (hT.of (hal o))).mono fun e w' hr => hr.ahead (hal o) (by omega)))
  clear h hok hgg hing hi6 hkd hh1 hT hal
  by_cases h5 : gg.1 = 5
  · rw [h5] at y0
    have y0' : W.cell? ⟨b6, o6 + i * 3, none⟩ = some (.int .i64 5) := y0
    have hng := HNG.out
    rw [if_pos (.inl h5), h5] at hng
    have HNG2 := Lib.hid hng
    have HJR := Lib.hid (HASK0.out 6 (by omega))
    clear y0 h5 hng
    go_enter Tryz.func56, Tryz.ntmps56
    go_wp2_with fail
    refine (HJR.out _).mono ?_
    rintro e W9 ⟨rfl, hr⟩
    have HR := Lib.hid hr
    clear hr
    dsimp only
    go_wp2
    refine bodyPost_ret (v := .int .i64 ((findG L (6, 0, [])).2 : Int)) (by simp [results, Tryz.results56, go_sem]) rfl ?_
    rw [HNG2.out]
    exact ⟨rfl, HR.out⟩
  by_cases h6 : gg.1 = 6
  · rw [h6] at y0
    have y0' : W.cell? ⟨b6, o6 + i * 3, none⟩ = some (.int .i64 6) := y0
    have hng := HNG.out
    rw [if_pos (.inr h6), h6] at hng
    have HNG2 := Lib.hid hng
    have HJR := Lib.hid (HASK0.out 5 (by omega))
    clear y0 h5 h6 hng
    go_enter Tryz.func56, Tryz.ntmps56
    go_wp2_with fail
    refine (HJR.out _).mono ?_
    rintro e W9 ⟨rfl, hr⟩
    have HR := Lib.hid hr
    clear hr
    dsimp only
    go_wp2
    refine bodyPost_ret (v := .int .i64 ((findG L (5, 0, [])).2 : Int)) (by simp [results, Tryz.results56, go_sem]) rfl ?_
    rw [HNG2.out]
    exact ⟨rfl, HR.out⟩
  have f5 : ((gg.1 : Int) == 5) = false := by simp; omega
  have f6 : ((gg.1 : Int) == 6) = false := by simp; omega
  have hng := HNG.out
  rw [if_neg (fun h => h.elim h5 h6)] at hng
  by_cases h2 : gg.1 = 2
  · have f2 : ((gg.1 : Int) == 2) = true := by simp [h2]
    obtain ⟨m, hm, hma⟩ : ∃ m, gg.2.2 = [m] ∧ m < i := by
      rcases HOG.out with ⟨h, _⟩ | ⟨_, _, k0, h, h'⟩ | ⟨h, _⟩ | ⟨h, _⟩
      · omega
      · exact ⟨k0, h, h'⟩
      · omega
      · omega
    have hi6 := HI6.out
    rw [hm] at y2 hi6
    obtain ⟨b7, o7, hadd7, hb7, z7⟩ := hi6.at (j := 0) (x := (m : Int)) rfl
    subst hadd7
    rw [Nat.add_zero] at z7
    dsimp only [List.length_cons, List.length_nil, Nat.zero_add] at y2
    rw [if_pos h2, hm, List.headD_cons] at hng
    have HNG2 := Lib.hid hng
    clear h2 h5 h6 hng hm hi6
    go_enter Tryz.func56, Tryz.ntmps56
    go_wp2
    refine bodyPost_ret (v := .int .i64 (m : Int)) (by simp [results, Tryz.results56, go_sem]) rfl ?_
    rw [HNG2.out]
    exact ⟨rfl, _, _, HC.out.of (HAL.out _), (Kc.refl _ _ _ _ _).ahead (HAL.out _) (by omega)⟩
  · have f2 : ((gg.1 : Int) == 2) = false := by simp; omega
    rw [if_neg h2] at hng
    have HNG2 := Lib.hid hng
    have HASK1 := Lib.hid (fun (o : Obj) => by
      have hal := HAL.out o
      have hal2 : Below (W.alloc o).heap.size (W.alloc o) ((W.alloc o).alloc (.cells #[.int .i64 (i : Int)] 3)) := (Below.refl _ _).alloc (Nat.le_refl _) _
      have hb2 := hal.trans (hal2.mono hal.size)
      have hsrc := World.alloc_heap_new (W.alloc o) (.cells #[.int .i64 (i : Int)] 3 (0, 0))
      have hI : InS (fun _ => True) ((W.alloc o).alloc (.cells #[.int .i64 (i : Int)] 3)) (some ⟨(W.alloc o).heap.size, 0, none⟩) (intsN [i]) := fun _ => ⟨_, 0, rfl, trivial, fun j x hj => by
        match j, hj with
        | 0, hj => simp [intsN] at hj; subst hj; exact box1 hsrc
        | j + 1, hj => simp [intsN] at hj⟩
      exact (show Calls Tryz.prog 58 #[.pointer (some ⟨C, 0, none⟩), .int .i64 2, .int .i64 0, .slice (some ⟨(W.alloc o).heap.size, 0, none⟩) 1 1] ((W.alloc o).alloc (.cells #[.int .i64 (i : Int)] 3)) (AskR b0 C mb base (.slice (some ⟨b6, o6, none⟩) L.length gvc) W (findG L (2, 0, [i]))) from
        (ask_any (HC.out.of hb2) 2 0 [i] (fun _ => True) _ 1 hI (by omega) (by omega) (fun x hx => by rw [List.mem_singleton.1 hx]; omega) hl (by simp) (HT.out.of hb2)).mono fun e w' hr => hr.ahead hb2 (by omega)))
    clear h2 h5 h6 hng
    go_enter Tryz.func56, Tryz.ntmps56
    go_wp2_with fail
    have hx := HASK1.out (.cells #[.int .i64 (gg.1 : Int), .int .i64 (gg.2.1 : Int), .slice ax gg.2.2.length cx] 45)
    rw [World.size_alloc] at hx
    refine hx.mono ?_
    rintro e W9 ⟨rfl, hr⟩
    have HR := Lib.hid hr
    clear hr hx
    dsimp only
    go_wp2
    refine bodyPost_ret (v := .int .i64 ((findG L (2, 0, [i])).2 : Int)) (by simp [results, Tryz.results56, go_sem]) rfl ?_
    rw [HNG2.out]
    exact ⟨rfl, HR.out⟩
end Go.Proofs.YtlnedapimmabdaaGreatDoor
