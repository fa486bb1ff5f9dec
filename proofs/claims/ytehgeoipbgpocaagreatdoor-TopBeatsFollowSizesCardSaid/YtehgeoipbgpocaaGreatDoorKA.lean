/- Beats: the law's tunings; equality of bounds. The worked example of beats: the fifth on 69 in the equal temperament, by its numbers. The worked examples: of intervals and of temperaments. -/
import Derived.Test.YtehgeoipbgpocaaGreatDoorTU
import Derived.Test.YtehgeoipbgpocaaGreatDoorTo
import Derived.Test.YtehgeoipbgpocaaGreatDoorBA
import Derived.Test.YtehgeoipbgpocaaGreatDoorTl
import Derived.Test.YtehgeoipbgpocaaGreatDoorIn
namespace Go.Proofs.YtehgeoipbgpocaaGreatDoor
set_option linter.unusedVariables false
set_option linter.unusedSimpArgs false
open Go.RowKit
attribute [local go_sem low] Bel.cell Bel.frozen alloc_cell alloc_frozen
attribute [local go_sem] calmOp chainOp yieldsC grows

theorem bnd_stood : Tryz.prog.stoodInHeld 53 = false := by kernel_rfl
theorem bnd_under : Tryz.prog.underlying 53 = some (.struct (Tryz.prog.fieldsOf 53)) := by kernel_rfl
theorem eqIn_bnd (d : Nat) (a b c e : Int) (w : World) : (Op.equalIn (d + 2) 53 (.agg #[.int .i64 a, .int .i64 b]) (.agg #[.int .i64 c, .int .i64 e])).run Tryz.prog w = .ok ((a == c) && (b == e)) w := by
  have h : ∀ (a b : Int) (w : World), (Op.equalIn (d + 1) 3 (.int .i64 a) (.int .i64 b)).run Tryz.prog w = .ok (a == b) w := fun a b w => run_equalIn_int w d 3 .i64 .i64 a b Tryz.underlying3
  rw [run_equalIn_agg w (d + 1) 53 _ _ bnd_under bnd_stood]
  simp [Program.fieldsOf, Tryz.underlying53, Op.eqFields, part, h]
  cases h1 : (a == c) <;> cases h2 : (b == e) <;> simp_all
theorem run_eq_bnd (a b c e : Int) (w : World) : (binOp .eql 53 (.agg #[.int .i64 a, .int .i64 b]) (.agg #[.int .i64 c, .int .i64 e])).run Tryz.prog w = .ok (.bool ((a == c) && (b == e))) w := by
  rw [run_eql_struct, eqIn_bnd 9998 a b c e w]
  rfl
theorem guard_bnd (x y : Operand) (xs ys : Array Value) (w : World) : (eqGuard .eql 53 x y (.agg xs) (.agg ys)).run Tryz.prog w = .ok () w := run_eqGuard_agg w _ _ _ _ _ _ (by kernel_rfl)

/-! ### Tunings that are made -/
theorem built_tun (c : Cir) (p : Int) : Tryz.prog.built 38 [(0, .agg (cirA c)), (1, .int .i64 p)] = some (tunA c p) := by kernel_rfl
theorem wpList_bdU {ops : Array Oper} {rest : List Oper} {o : Oper} {a : Act} {w : World} {Q : Exit → Act → World → Prop} (hg : o.guard = none) (x y : Operand) (ho : o.op = .build 38 #[(0, x), (1, y)])
    (c : Cir) (p : Int) (hx : a.eval x = .agg (cirA c)) (hy : a.eval y = .int .i64 p) (h : wpList Tryz.prog ops Q rest (a.put o.dst (.agg (tunA c p))) w) : wpList Tryz.prog ops Q (o :: rest) a w := by
  have e : Tryz.prog.built 38 ((#[(0, x), (1, y)].map fun (i, x) => (i, a.eval x)).toList) = some (tunA c p) := by
    simp only [List.map_toArray, List.map_cons, List.map_nil, hx, hy]
    exact built_tun c p
  refine wpList_build hg 38 #[(0, x), (1, y)] ho (by rw [e]; rfl) ?_
  rw [e]
  exact h
theorem tunA_one (c : Cir) (p : Int) : (tunA c p).all (·.oneCell') = true := by
  have h := cirA_one c
  rw [Array.all_eq_true_iff_forall_mem] at h ⊢
  intro v hv
  rcases Array.mem_push.1 hv with hv | rfl
  · exact h v hv
  · rfl
theorem wpList_stU {ops : Array Oper} {rest : List Oper} {o : Oper} {a : Act} {w : World} {Q : Exit → Act → World → Prop} (hgd : o.guard = none) (x y : Operand) (ho : o.op = .store 38 x y)
    (B : Nat) (c : Cir) (p : Int) (hx : a.eval x = .pointer (some ⟨B, 0, none⟩)) (hy : a.eval y = .agg (tunA c p)) (old : Array Value) (T : TypeId) (hob : w.heap[B]? = some (.cells old T)) (h2 : old.size = 49)
    (h : ∀ W', Chg B (.cells (tunA c p) T) w W' → wpList Tryz.prog ops Q rest (a.put o.dst undef) W') : wpList Tryz.prog ops Q (o :: rest) a w :=
  wpList_store_row hgd 38 x y ho B (tunA c p) hx hy T old hob (by rw [tun_info, tunA_size]) (by rw [tunA_size, h2]) (tunA_one c p) (h _ (chg_row hob))
theorem tun_load {W : World} {B : Nat} {c : Cir} {p : Int} {T : TypeId} (h : W.heap[B]? = some (.cells (tunA c p) T)) : (loadVar 38 ⟨B, 0, none⟩).run Tryz.prog W = .ok (.agg (tunA c p)) W := by
  obtain ⟨d, hu, hd⟩ := tun_under
  exact run_loadVar_row W B T 38 (tunA c p) (0, 0) d h hu (by cases d <;> first | rfl | exact hd) (by rw [tun_info, tunA_size])
theorem tunZ_lit : tunA zC 0 = #[.int .i64 0, .int .i64 0, .int .i64 0, .int .i64 0, .int .i64 0, .int .i64 0, .int .i64 0, .int .i64 0, .int .i64 0, .int .i64 0, .int .i64 0, .int .i64 0, .int .i64 0, .int .i64 0, .int .i64 0, .int .i64 0, .int .i64 0, .int .i64 0, .int .i64 0, .int .i64 0, .int .i64 0, .int .i64 0, .int .i64 0, .int .i64 0, .int .i64 0, .int .i64 0, .int .i64 0, .int .i64 0, .int .i64 0, .int .i64 0, .int .i64 0, .int .i64 0, .int .i64 0, .int .i64 0, .int .i64 0, .int .i64 0, .int .i64 0, .int .i64 0, .int .i64 0, .int .i64 0, .int .i64 0, .int .i64 0, .int .i64 0, .int .i64 0, .int .i64 0, .int .i64 0, .int .i64 0, .int .i64 0, .int .i64 0] := by rfl
theorem plan_under : ∃ d, Tryz.prog.underlying 26 = some d ∧ d.isRow = true := by
  have h : (match Tryz.prog.underlying 26 with | some d => d.isRow | none => false) = true := by kernel_rfl
  cases hd : Tryz.prog.underlying 26 with
  | none => rw [hd] at h; exact absurd h (by decide)
  | some d => rw [hd] at h; exact ⟨d, rfl, h⟩
theorem plan_info : (Tryz.prog.info? 26).map (·.size) = some 26 := by kernel_rfl
theorem wpList_ldP {ops : Array Oper} {rest : List Oper} {o : Oper} {a : Act} {w : World} {Q : Exit → Act → World → Prop} (hg : o.guard = none) (x : Operand) (ho : o.op = .load 26 x)
    (B : Nat) (hx : a.eval x = .pointer (some ⟨B, 0, none⟩)) (A : Array Value) (hA : A.size = 26) (hob : w.heap[B]? = some (.cells A 26))
    (h : wpList Tryz.prog ops Q rest (a.put o.dst (.agg A)) w) : wpList Tryz.prog ops Q (o :: rest) a w := by
  obtain ⟨d, hu, hd⟩ := plan_under
  exact wpList_load_mid hg 26 x ho B 0 hx A.toList d (fun j v hv => by rw [Nat.zero_add, cell_of_row _ _ j A _ _ hob]; simpa using hv) hu hd (by rw [plan_info, Array.length_toList, hA]) (by rw [Array.toArray_toList]; exact h)
/-- The plan's ranges. -/
def PlanOk (a : Int) (p : Nat → Int × Int) (d : Int) : Prop := 0 ≤ a ∧ a < 256 ∧ 0 ≤ d ∧ d < 256 ∧ ∀ k, k < 12 → -128 ≤ (p k).1 ∧ (p k).1 ≤ 127 ∧ -128 ≤ (p k).2 ∧ (p k).2 ≤ 127
set_option maxRecDepth 100000 in
set_option maxHeartbeats 6400000 in
theorem make42_any (a : Int) (p : Nat → Int × Int) (d q : Int) (w : World) (hp : PlanOk a p d) (hq0 : 0 ≤ q) (hq : q < 65536) :
    Calls Tryz.prog 7 #[.agg (planA a p d), .int .u16 q] w fun e w' => ∃ (c : Cir) (n : Nat), 1 ≤ n ∧ n ≤ 1000 ∧ e = .returned (.agg (tunA c (n : Int))) ∧ ∃ y : Bel w, w' = y.w := by
  have HM := Lib.hid (fun w' => lmake_any a p d w' hp.1 hp.2.1 hp.2.2.1 hp.2.2.2.1 hp.2.2.2.2)
  have HS := Lib.hid (planA_size a p d)
  clear hp
  generalize planA a p d = A at *
  obtain ⟨n, hn⟩ : ∃ n : Nat, 1 + q % 1000 = n := ⟨(1 + q % 1000).toNat, by omega⟩
  obtain ⟨r, hr⟩ : ∃ r, q % 1000 = r := ⟨_, rfl⟩
  have hr0 : 0 ≤ r := by omega
  have hr1 : r < 1000 := by omega
  have ht : Int.tmod q 1000 = r := by rw [Int.tmod_eq_emod_of_nonneg hq0, hr]
  rw [hr] at hn
  have hn1 : 1 ≤ n := by omega
  have hn2 : n ≤ 1000 := by omega
  go_enter Tryz.func7, Tryz.ntmps7
  go_wp2_with (refine wpList_ldP rfl _ rfl _ rfl A HS.out (obj_alloc _ (obj_new _ _)) ?_)
  have hcz := tunZ_lit
  rw [← hcz]
  clear hcz
  have hz1 := obj_new1 w (.cells A 26) (.cells (tunA zC 0) 38)
  have hzb : Below w.heap.size w ((w.alloc (.cells A 26)).alloc (.cells (tunA zC 0) 38)) := by (repeat' (first | (with_reducible first | apply Zl1 | apply Zl2 | apply Zl3 | apply Zl4 | apply Zl5 | apply Zl6 | apply Zl7 | apply Zl8 | apply Zl9 | apply Zla | apply Zlb | apply Zlc) | (dsimp only; with_reducible first | apply Zl8 | apply Zl2 | apply Zld) | with_reducible assumption | omega | (dsimp only; omega)))
  have hl := obj_lt hz1
  generalize (w.alloc (.cells A 26)).alloc (.cells (tunA zC 0) 38) = Y at *
  have HZ1 := Lib.hid hz1
  clear hz1
  (with_reducible refine (HM.out _).mono ?_)
  rintro _ _ ⟨c, rfl, y, rfl⟩
  have HY1 := Lib.hid (obj_bel y HZ1.out)
  have hyb : Below w.heap.size w y.w := by (repeat' (first | (with_reducible first | apply Zl1 | apply Zl2 | apply Zl3 | apply Zl4 | apply Zl5 | apply Zl6 | apply Zl7 | apply Zl8 | apply Zl9 | apply Zla | apply Zlb | apply Zlc) | (dsimp only; with_reducible first | apply Zl8 | apply Zl2 | apply Zld) | with_reducible assumption | omega | (dsimp only; omega)))
  dsimp only
  go_wp2_with (first | refine wpList_bdU rfl _ _ rfl c (n : Int) rfl rfl ?_ | refine wpList_stU rfl _ _ rfl (w.heap.size + 1) c (n : Int) rfl rfl (tunA zC 0) _ HY1.out (tunA_size _ _) (fun W' hW' => Hid.out ?_))
  refine Lib.hid ?_
  have hbb := hW'.below hyb (by omega)
  have hcr := hW'.b
  clear hW'
  go_wp2_with fail
  refine ret_obj (b := w.heap.size + 1) hcr (fun W2 h2 => by
    have hl := tun_load h2
    simp [results, Tryz.results7, Act.put, Sem.run_bind, asAddr, hl]) rfl ⟨c, n, hn1, hn2, rfl, ⟨_, hbb⟩, rfl⟩
end Go.Proofs.YtehgeoipbgpocaaGreatDoor

namespace Go.Proofs.YtehgeoipbgpocaaGreatDoor
set_option linter.unusedVariables false
set_option linter.unusedSimpArgs false
open Go.RowKit

theorem Bnd.same {s : Sz} {lo hi : Nat} (h : Bnd s lo hi) {m : Nat} (h1 : m ^ s.den.toNat * nL s = 1000000 ^ s.den.toNat * nR s) (hD : s.den.toNat ≠ 0) : lo = m ∧ hi = m := by
  have hp : ∀ {a b : Nat}, a ^ s.den.toNat * nL s < b ^ s.den.toNat * nL s → a < b := fun {a b} h => lt_of_pow (Nat.lt_of_mul_lt_mul_right h)
  have hm : ∀ {a b : Nat}, a < b → a ^ s.den.toNat * nL s < b ^ s.den.toNat * nL s := fun {a b} h => Nat.mul_lt_mul_of_pos_right (Nat.pow_lt_pow_left h hD) (nL_pos s)
  rcases h.2 with ⟨e, h3⟩ | ⟨e, h3, h4⟩
  · rw [← h1] at h3
    rcases Nat.lt_trichotomy lo m with h5 | h5 | h5
    · have := hm h5; omega
    · exact ⟨h5, by omega⟩
    · have := hm h5; omega
  · rw [← h1] at h3 h4
    have := hp h3
    have := hp h4
    omega
def s0K : Sz := ⟨⟨0, 1⟩, ⟨0, 1⟩, ⟨0, 1⟩⟩
def s7K : Sz := ⟨⟨7, 12⟩, ⟨0, 1⟩, ⟨0, 1⟩⟩
theorem eq_69 : btM eqC 69 69 = some s0K := by decide +kernel
theorem eq_76 : btM eqC 69 76 = some s7K := by decide +kernel
theorem s7K_bnd {a b : Nat} (h : Bnd s7K a b) : a = 1498307 ∧ b = 1498308 := h.only (m := 1498307) (by decide +kernel) (by decide +kernel)
theorem s0K_bnd {a b : Nat} (h : Bnd s0K a b) : a = 1000000 ∧ b = 1000000 := h.same (m := 1000000) (by decide +kernel) (by decide +kernel)
theorem s7K_cm : cmS s7K (puS 7) = -1 := by decide +kernel
theorem beats_eq {x y : Int} (h : BtN eqC 69 7 440 x y) : x = 1488960 ∧ y = 1489840 := by
  obtain ⟨s, u, v, a, b, e, f, h1, h2, h3, h4, h5, rfl, rfl⟩ := h
  obtain rfl : s7K = s := by rw [show 69 + 7 = 76 from rfl, eq_76] at h1; injection h1
  obtain rfl : s7K = u := by rw [show 69 + 7 = 76 from rfl, eq_76] at h2; injection h2
  obtain rfl : s0K = v := by rw [eq_69] at h3; injection h3
  obtain ⟨rfl, rfl⟩ := s7K_bnd h4
  obtain ⟨rfl, rfl⟩ := s0K_bnd h5
  rw [s7K_cm]
  exact ⟨by decide +kernel, by decide +kernel⟩
end Go.Proofs.YtehgeoipbgpocaaGreatDoor

namespace Go.Proofs.YtehgeoipbgpocaaGreatDoor
set_option linter.unusedVariables false
set_option linter.unusedSimpArgs false
open Go.RowKit
attribute [local go_sem low] Bel.cell Bel.frozen alloc_cell alloc_frozen
attribute [local go_sem] calmOp chainOp yieldsC grows

def kA : Sz := ⟨⟨-4, 1⟩, ⟨4, 1⟩, ⟨-1, 1⟩⟩
def kF : Sz := ⟨⟨-1, 1⟩, ⟨1, 1⟩, ⟨0, 1⟩⟩
def kT : Sz := ⟨⟨-2, 1⟩, ⟨0, 1⟩, ⟨1, 1⟩⟩
set_option maxRecDepth 100000 in
set_option maxHeartbeats 6400000 in
theorem known05_any (w : World) (hT : I.Tab w) : Calls Tryz.prog 138 #[] w (Ret (.bool true) w) := by
  have HT := Lib.hid hT
  have HR := Lib.hid (fun w' => ratio_any 81 80 w' (by decide) (by decide) (by decide) (by decide))
  rw [show ratS 81 80 = kA by decide +kernel, show ratE 81 80 = 0 by decide +kernel] at HR
  have HO := Lib.hid (fun w' => iof_any (-4) 4 (-1) w')
  rw [show resS (iS (-4) 4 (-1)) = kA by decide +kernel, show resE (iS (-4) 4 (-1)) = 0 by decide +kernel] at HO
  have HN := Lib.hid (fun w' => named_of [102, 105, 102, 116, 104] 3 2 w' (by decide) (by decide) (by decide) (by decide) (by decide) rfl)
  rw [show ratS 3 2 = kF by decide +kernel, show ratE 3 2 = 0 by decide +kernel] at HN
  have HC := Lib.hid (fun w' hT => cents_ok kF w' (by decide +kernel) hT)
  rw [show cenV kF = 70196 by decide +kernel] at HC
  have HM := Lib.hid (fun w' hT => cmp_oct (s := kF) (t := kA) (by decide +kernel) (by decide +kernel) w' hT)
  rw [show cmS kF kA = 1 by decide +kernel] at HM
  have heq := run_eq_size kA kA
  have hg := guard_size
  rw [show decide (kA = kA) = true from decide_eq_true rfl] at heq
  unfold kA kF at *
  simp only [szV] at HR HO HN HC HM heq
  clear hT
  go_enter Tryz.func138, Tryz.ntmps138
  go_wp2_with fail
  (with_reducible refine (HR.out _).mono ?_)
  rintro _ _ ⟨rfl, x1, rfl⟩
  have h1 := x1.size_le
  dsimp only
  go_wp2_with fail
  (with_reducible refine (HO.out _).mono ?_)
  rintro _ _ ⟨rfl, x2, rfl⟩
  have h2 := x2.size_le
  dsimp only
  go_wp2_with fail
  (with_reducible refine (HN.out _).mono ?_)
  rintro _ _ ⟨rfl, x3, rfl⟩
  have h3 := x3.size_le
  dsimp only
  go_wp2_with fail
  (with_reducible refine (HC.out _ (HT.out.of (by (repeat' (first | (with_reducible first | apply Zl1 | apply Zl2 | apply Zl3 | apply Zl4 | apply Zl5 | apply Zl6 | apply Zl7 | apply Zl8 | apply Zl9 | apply Zla | apply Zlb | apply Zlc) | (dsimp only; with_reducible first | apply Zl8 | apply Zl2 | apply Zld) | with_reducible assumption | omega | (dsimp only; omega)))))).mono ?_)
  rintro _ _ ⟨rfl, x4, rfl⟩
  have h4 := x4.size_le
  dsimp only
  go_wp2_with fail
  (with_reducible refine (HM.out _ (HT.out.of (by (repeat' (first | (with_reducible first | apply Zl1 | apply Zl2 | apply Zl3 | apply Zl4 | apply Zl5 | apply Zl6 | apply Zl7 | apply Zl8 | apply Zl9 | apply Zla | apply Zlb | apply Zlc) | (dsimp only; with_reducible first | apply Zl8 | apply Zl2 | apply Zld) | with_reducible assumption | omega | (dsimp only; omega)))))).mono ?_)
  rintro _ _ ⟨rfl, x5, rfl⟩
  have h5 := x5.size_le
  dsimp only
  go_wp2
  go_ret
  exact Ret.mk (by rfl) (by (repeat' (first | (with_reducible first | apply Zl1 | apply Zl2 | apply Zl3 | apply Zl4 | apply Zl5 | apply Zl6 | apply Zl7 | apply Zl8 | apply Zl9 | apply Zla | apply Zlb | apply Zlc) | (dsimp only; with_reducible first | apply Zl8 | apply Zl2 | apply Zld) | with_reducible assumption | omega | (dsimp only; omega))))
theorem Known05_any (w : World) (hT : I.Tab w) : Calls Tryz.prog 77 #[] w (Ret (.bool true) w) := by
  have HK := Lib.hid (fun w' hT => known05_any w' hT)
  have HT := Lib.hid hT
  clear hT
  go_enter Tryz.func77, Tryz.ntmps77
  go_wp2_with fail
  (with_reducible refine (HK.out _ (HT.out.of (by (repeat' (first | (with_reducible first | apply Zl1 | apply Zl2 | apply Zl3 | apply Zl4 | apply Zl5 | apply Zl6 | apply Zl7 | apply Zl8 | apply Zl9 | apply Zla | apply Zlb | apply Zlc) | (dsimp only; with_reducible first | apply Zl8 | apply Zl2 | apply Zld) | with_reducible assumption | omega | (dsimp only; omega)))))).mono ?_)
  rintro _ _ ⟨rfl, x, rfl⟩
  go_wp2
  go_ret
  exact Ret.mk (by rfl) (by (repeat' (first | (with_reducible first | apply Zl1 | apply Zl2 | apply Zl3 | apply Zl4 | apply Zl5 | apply Zl6 | apply Zl7 | apply Zl8 | apply Zl9 | apply Zla | apply Zlb | apply Zlc) | (dsimp only; with_reducible first | apply Zl8 | apply Zl2 | apply Zld) | with_reducible assumption | omega | (dsimp only; omega))))

/-! ### Temperaments -/
def mtX (n : Nat) : Sz := oS (btM mtC n (n + 4))
theorem mtX_all : ∀ n : Fin 12, btM mtC n.val (n.val + 4) = some (mtX n.val) := by decide +kernel
theorem mtX_at (n : Nat) (hn : n < 12) : btM mtC n (n + 4) = some (mtX n) := mtX_all ⟨n, hn⟩
theorem mt_note : noM mtC 4 = some kT := by decide +kernel
theorem mt_pure : puL mtX kT 12 = [0, 2, 3, 4, 5, 7, 9, 10] := by decide +kernel
theorem mt_rest : reM mtC = some uniS := by decide +kernel
theorem kT_is : ratS 5 4 = kT ∧ ratE 5 4 = 0 := ⟨by decide +kernel, by decide +kernel⟩
theorem kT_chk : kT.chk = 0 := by decide +kernel
set_option maxRecDepth 100000 in
set_option maxHeartbeats 6400000 in
theorem known41_any (w : World) (hT : I.Tab w) : Calls Tryz.prog 76 #[] w (Ret (.bool true) w) := by
  have HT := Lib.hid hT
  have HNM := Lib.hid (fun w' => named_mt w')
  have HNO := Lib.hid (fun w' hT => tNote_any mtC 4 w' mtC_chk (by decide) hT)
  rw [mt_note, oV_some] at HNO
  have HTH := Lib.hid (fun w' => named_of [116, 104, 105, 114, 100] 5 4 w' (by decide) (by decide) (by decide) (by decide) (by decide) rfl)
  rw [kT_is.1, kT_is.2, szV] at HTH
  have HPU := Lib.hid (fun w' hT => pure_any mtC 4 kT mtX w' mtC_chk (by decide) kT_chk mtX_at hT)
  rw [mt_pure, szV] at HPU
  have HCL := Lib.hid (fun w' => closes_any mtC w' mtC_chk)
  rw [show closesC mtC = true from by unfold closesC; rw [mt_rest]; exact decide_eq_true rfl, mt_rest, show oE (some uniS) = 0 from rfl] at HCL
  rw [show cirV mtC = .agg (cirA mtC) from rfl, show ((4 : Nat) : Int) = 4 from rfl] at HNO HPU
  rw [show cirV mtC = .agg (cirA mtC) from rfl] at HCL
  have heq := run_eq_size kT kT
  have hg := guard_size
  rw [show decide (kT = kT) = true from decide_eq_true rfl, szV] at heq
  generalize mtC = R at *
  generalize kT = z at *
  clear hT
  go_enter Tryz.func76, Tryz.ntmps76
  go_wp2_with fail
  (with_reducible refine (HNM.out _).mono ?_)
  rintro _ _ ⟨rfl, x1, rfl⟩
  have h1 := x1.size_le
  have hxb : Below w.heap.size w x1.w := by (repeat' (first | (with_reducible first | apply Zl1 | apply Zl2 | apply Zl3 | apply Zl4 | apply Zl5 | apply Zl6 | apply Zl7 | apply Zl8 | apply Zl9 | apply Zla | apply Zlb | apply Zlc) | (dsimp only; with_reducible first | apply Zl8 | apply Zl2 | apply Zld) | with_reducible assumption | omega | (dsimp only; omega)))
  dsimp only
  go_wp2_with (refine wpList_stC rfl _ _ rfl x1.w.heap.size (cirA R) rfl rfl _ _ (obj_new _ _) (cirA_size _) rfl (cirA_one _) (fun W' hW' => Hid.out ?_))
  refine Lib.hid ?_
  have hbb : Below w.heap.size w W' := hW'.below (by (repeat' (first | (with_reducible first | apply Zl1 | apply Zl2 | apply Zl3 | apply Zl4 | apply Zl5 | apply Zl6 | apply Zl7 | apply Zl8 | apply Zl9 | apply Zla | apply Zlb | apply Zlc) | (dsimp only; with_reducible first | apply Zl8 | apply Zl2 | apply Zld) | with_reducible assumption | omega | (dsimp only; omega)))) (by omega)
  have HB := Lib.hid hW'.b
  have hbl := obj_lt hW'.b
  have hs1 := hbb.size
  generalize x1.w.heap.size = B at *
  clear hW' hxb h1
  clear x1
  go_wp2_with (refine wpList_ldC rfl _ rfl _ rfl (cirA R) HB.out (cirA_size _) ?_)
  (with_reducible refine (HNO.out _ (HT.out.of (by (repeat' (first | (with_reducible first | apply Zl1 | apply Zl2 | apply Zl3 | apply Zl4 | apply Zl5 | apply Zl6 | apply Zl7 | apply Zl8 | apply Zl9 | apply Zla | apply Zlb | apply Zlc) | (dsimp only; with_reducible first | apply Zl8 | apply Zl2 | apply Zld) | with_reducible assumption | omega | (dsimp only; omega)))))).mono ?_)
  rintro _ _ ⟨rfl, x2, rfl⟩
  have h2 := x2.size_le
  dsimp only
  go_wp2_with fail
  (with_reducible refine (HTH.out _).mono ?_)
  rintro _ _ ⟨rfl, x3, rfl⟩
  have h3 := x3.size_le
  have HB3 := Lib.hid (show x3.w.heap[B]? = some (.cells (cirA R) 36) by
    repeat' (with_reducible first | exact HB.out | apply obj_bel | apply obj_alloc))
  dsimp only
  go_wp2_with (refine wpList_ldC rfl _ rfl _ rfl (cirA R) (obj_alloc _ HB3.out) (cirA_size _) ?_)
  (with_reducible refine (HPU.out _ (HT.out.of (by (repeat' (first | (with_reducible first | apply Zl1 | apply Zl2 | apply Zl3 | apply Zl4 | apply Zl5 | apply Zl6 | apply Zl7 | apply Zl8 | apply Zl9 | apply Zla | apply Zlb | apply Zlc) | (dsimp only; with_reducible first | apply Zl8 | apply Zl2 | apply Zld) | with_reducible assumption | omega | (dsimp only; omega)))))).mono ?_)
  rintro _ _ ⟨pv, rfl, x4, rfl, hown⟩
  have h4 := x4.size_le
  have HB4 := Lib.hid (obj_bel x4 (obj_alloc (.cells #[.int .i64 z.a.n, .int .i64 z.a.d, .int .i64 z.b.n, .int .i64 z.b.d, .int .i64 z.c.n, .int .i64 z.c.d] 45) HB3.out))
  have HSH := Lib.hid (ownV_shows hown)
  clear hown
  dsimp only
  go_wp2_with (refine wpList_ldC rfl _ rfl _ rfl (cirA R) HB4.out (cirA_size _) ?_)
  (with_reducible refine (HCL.out _).mono ?_)
  rintro _ _ ⟨rfl, x5, rfl⟩
  have h5 := x5.size_le
  have HS5 := Lib.hid (showsV_of HSH.out x5.below)
  dsimp only
  go_wp2_with (go_at_call 137; refine (equalI_any _ _ [0, 2, 3, 4, 5, 7, 9, 10] [0, 2, 3, 4, 5, 7, 9, 10] _ (showsV_of HS5.out ((Below.refl _ _).alloc (Nat.le_refl _) _)) (shows_new _ [0, 2, 3, 4, 5, 7, 9, 10] _ _) (by decide) (by decide)).mono ?_; rintro _ _ ⟨rfl, x6, rfl⟩)
  have h6 := x6.size_le
  go_ret
  exact Ret.mk (by rfl) (by (repeat' (first | (with_reducible first | apply Zl1 | apply Zl2 | apply Zl3 | apply Zl4 | apply Zl5 | apply Zl6 | apply Zl7 | apply Zl8 | apply Zl9 | apply Zla | apply Zlb | apply Zlc) | (dsimp only; with_reducible first | apply Zl8 | apply Zl2 | apply Zld) | with_reducible assumption | omega | (dsimp only; omega))))
theorem Known41_any (w : World) (hT : I.Tab w) : Calls Tryz.prog 32 #[] w (Ret (.bool true) w) := by
  have HK := Lib.hid (fun w' hT => known41_any w' hT)
  have HL := Lib.hid (fun w' hT => Known05_any w' hT)
  have HT := Lib.hid hT
  clear hT
  go_enter Tryz.func32, Tryz.ntmps32
  go_wp2_with fail
  (with_reducible refine (HK.out _ (HT.out.of (by (repeat' (first | (with_reducible first | apply Zl1 | apply Zl2 | apply Zl3 | apply Zl4 | apply Zl5 | apply Zl6 | apply Zl7 | apply Zl8 | apply Zl9 | apply Zla | apply Zlb | apply Zlc) | (dsimp only; with_reducible first | apply Zl8 | apply Zl2 | apply Zld) | with_reducible assumption | omega | (dsimp only; omega)))))).mono ?_)
  rintro _ _ ⟨rfl, x, rfl⟩
  have hxs := x.size_le
  go_wp2_with fail
  (with_reducible refine (HL.out _ (HT.out.of (by (repeat' (first | (with_reducible first | apply Zl1 | apply Zl2 | apply Zl3 | apply Zl4 | apply Zl5 | apply Zl6 | apply Zl7 | apply Zl8 | apply Zl9 | apply Zla | apply Zlb | apply Zlc) | (dsimp only; with_reducible first | apply Zl8 | apply Zl2 | apply Zld) | with_reducible assumption | omega | (dsimp only; omega)))))).mono ?_)
  rintro _ _ ⟨rfl, y, rfl⟩
  go_wp2
  go_ret
  exact Ret.mk (by rfl) (by (repeat' (first | (with_reducible first | apply Zl1 | apply Zl2 | apply Zl3 | apply Zl4 | apply Zl5 | apply Zl6 | apply Zl7 | apply Zl8 | apply Zl9 | apply Zla | apply Zlb | apply Zlc) | (dsimp only; with_reducible first | apply Zl8 | apply Zl2 | apply Zld) | with_reducible assumption | omega | (dsimp only; omega))))

/-! ### Beats -/
theorem far7 : ¬ far s7K := fun h => h.elim (fun h => absurd h (by decide +kernel)) (fun h => absurd h (by decide +kernel))
theorem far0 : ¬ far s0K := fun h => h.elim (fun h => absurd h (by decide +kernel)) (fun h => absurd h (by decide +kernel))
theorem freq_eq (w : World) (hT : I.Tab w) : Calls Tryz.prog 15 #[.agg (tunA eqC 440), .int .i64 76] w (Ret (.tuple #[.agg #[.int .i64 659255080, .int .i64 659255520], .int .i64 0]) w) := by
  refine (aFrequency_any eqC 440 76 w eqC_chk (by decide) (by decide) (by decide) hT).mono ?_
  rintro e w' ⟨⟨x, rfl⟩, h⟩
  rcases h with ⟨er, _, hf, rfl⟩ | ⟨s, lo, hi, hs, hb, rfl⟩
  · exact absurd (hf s7K eq_76) far7
  · obtain rfl : s7K = s := by rw [eq_76] at hs; injection hs
    obtain ⟨rfl, rfl⟩ := s7K_bnd hb
    exact ⟨rfl, x, rfl⟩
theorem beats_eqC (w : World) (hT : I.Tab w) : Calls Tryz.prog 14 #[.agg (tunA eqC 440), .agg #[.int .i64 69, .int .i64 7]] w (Ret (.tuple #[.agg #[.int .i64 1488960, .int .i64 1489840], .int .i64 0]) w) := by
  refine (aBeats_any eqC 440 69 7 w eqC_chk (by decide) (by decide) (by unfold isP; decide) (by decide) hT).mono ?_
  rintro e w' ⟨⟨x, rfl⟩, h⟩
  rcases h with ⟨er, _, hf, rfl⟩ | ⟨a, b, hb, rfl⟩
  · exfalso
    rcases hf with h | h | h
    · rw [show 69 + 7 = 76 from rfl, eq_76] at h
      cases h
    · exact far0 (h s0K eq_69)
    · exact far7 (h s7K eq_76)
  · obtain ⟨rfl, rfl⟩ := beats_eq hb
    exact ⟨rfl, x, rfl⟩
theorem dir_eqC (w : World) (hT : I.Tab w) : Calls Tryz.prog 13 #[.agg (tunA eqC 440), .agg #[.int .i64 69, .int .i64 7]] w (Ret (.tuple #[.int .i64 (-1), .int .i64 0]) w) := by
  have h := aDirection_any eqC 440 69 7 w eqC_chk (by decide) (by decide) (by unfold isP; decide) (by decide) hT
  rw [show btM eqC 69 (69 + 7) = some s7K from eq_76, show dirD 7 (some s7K) = -1 from s7K_cm] at h
  exact h
set_option maxRecDepth 100000 in
set_option maxHeartbeats 6400000 in
theorem known42_any (w : World) (hT : I.Tab w) : Calls Tryz.prog 31 #[] w (Ret (.bool true) w) := by
  have HT := Lib.hid hT
  have HNM := Lib.hid (fun w' => named_eq w')
  have HF := Lib.hid (fun w' hT => freq_eq w' hT)
  have HB := Lib.hid (fun w' hT => beats_eqC w' hT)
  have HD := Lib.hid (fun w' hT => dir_eqC w' hT)
  have heq := run_eq_bnd
  have hg := guard_bnd
  generalize eqC = R at *
  clear hT
  go_enter Tryz.func31, Tryz.ntmps31
  go_wp2_with fail
  (with_reducible refine (HNM.out _).mono ?_)
  rintro _ _ ⟨rfl, x1, rfl⟩
  have h1 := x1.size_le
  have hxb : Below w.heap.size w x1.w := by (repeat' (first | (with_reducible first | apply Zl1 | apply Zl2 | apply Zl3 | apply Zl4 | apply Zl5 | apply Zl6 | apply Zl7 | apply Zl8 | apply Zl9 | apply Zla | apply Zlb | apply Zlc) | (dsimp only; with_reducible first | apply Zl8 | apply Zl2 | apply Zld) | with_reducible assumption | omega | (dsimp only; omega)))
  dsimp only
  go_wp2_with (refine wpList_stC rfl _ _ rfl x1.w.heap.size (cirA R) rfl rfl _ _ (obj_new _ _) (cirA_size _) rfl (cirA_one _) (fun W' hW' => Hid.out ?_))
  refine Lib.hid ?_
  have hbb : Below w.heap.size w W' := hW'.below (by (repeat' (first | (with_reducible first | apply Zl1 | apply Zl2 | apply Zl3 | apply Zl4 | apply Zl5 | apply Zl6 | apply Zl7 | apply Zl8 | apply Zl9 | apply Zla | apply Zlb | apply Zlc) | (dsimp only; with_reducible first | apply Zl8 | apply Zl2 | apply Zld) | with_reducible assumption | omega | (dsimp only; omega)))) (by omega)
  have HB0 := Lib.hid hW'.b
  have hbl := obj_lt hW'.b
  have hs1 := hbb.size
  generalize x1.w.heap.size = B at *
  clear hW' hxb h1
  clear x1
  go_wp2_with (first | refine wpList_ldC rfl _ rfl _ rfl (cirA R) HB0.out (cirA_size _) ?_ | refine wpList_bdU rfl _ _ rfl R 440 rfl rfl ?_ | refine wpList_stU rfl _ _ rfl W'.heap.size R 440 rfl rfl _ _ (obj_new _ _) rfl (fun W2 hW2 => Hid.out ?_))
  refine Lib.hid ?_
  have hb2 : Below w.heap.size w W2 := hW2.below (by (repeat' (first | (with_reducible first | apply Zl1 | apply Zl2 | apply Zl3 | apply Zl4 | apply Zl5 | apply Zl6 | apply Zl7 | apply Zl8 | apply Zl9 | apply Zla | apply Zlb | apply Zlc) | (dsimp only; with_reducible first | apply Zl8 | apply Zl2 | apply Zld) | with_reducible assumption | omega | (dsimp only; omega)))) (by omega)
  have HB2 := Lib.hid hW2.b
  have hl2 := obj_lt hW2.b
  have hs2 := hb2.size
  generalize W'.heap.size = B2 at *
  clear hW2 hbb HB0
  go_wp2_with (refine wpList_ldU rfl _ rfl _ rfl R 440 HB2.out ?_)
  (with_reducible refine (HF.out _ (HT.out.of (by (repeat' (first | (with_reducible first | apply Zl1 | apply Zl2 | apply Zl3 | apply Zl4 | apply Zl5 | apply Zl6 | apply Zl7 | apply Zl8 | apply Zl9 | apply Zla | apply Zlb | apply Zlc) | (dsimp only; with_reducible first | apply Zl8 | apply Zl2 | apply Zld) | with_reducible assumption | omega | (dsimp only; omega)))))).mono ?_)
  rintro _ _ ⟨rfl, x2, rfl⟩
  have h2 := x2.size_le
  have HB3 := Lib.hid (obj_bel x2 HB2.out)
  dsimp only
  go_wp2_with (refine wpList_ldU rfl _ rfl _ rfl R 440 (obj_alloc _ HB3.out) ?_)
  (with_reducible refine (HB.out _ (HT.out.of (by (repeat' (first | (with_reducible first | apply Zl1 | apply Zl2 | apply Zl3 | apply Zl4 | apply Zl5 | apply Zl6 | apply Zl7 | apply Zl8 | apply Zl9 | apply Zla | apply Zlb | apply Zlc) | (dsimp only; with_reducible first | apply Zl8 | apply Zl2 | apply Zld) | with_reducible assumption | omega | (dsimp only; omega)))))).mono ?_)
  rintro _ _ ⟨rfl, x3, rfl⟩
  have h3 := x3.size_le
  have HB4 := Lib.hid (obj_bel x3 (obj_alloc (.cells #[.int .i64 659255080, .int .i64 659255520] 53) HB3.out))
  dsimp only
  go_wp2_with (refine wpList_ldU rfl _ rfl _ rfl R 440 (obj_alloc _ HB4.out) ?_)
  (with_reducible refine (HD.out _ (HT.out.of (by (repeat' (first | (with_reducible first | apply Zl1 | apply Zl2 | apply Zl3 | apply Zl4 | apply Zl5 | apply Zl6 | apply Zl7 | apply Zl8 | apply Zl9 | apply Zla | apply Zlb | apply Zlc) | (dsimp only; with_reducible first | apply Zl8 | apply Zl2 | apply Zld) | with_reducible assumption | omega | (dsimp only; omega)))))).mono ?_)
  rintro _ _ ⟨rfl, x4, rfl⟩
  have h4 := x4.size_le
  dsimp only
  go_wp2
  go_ret
  exact Ret.mk (by rfl) (by (repeat' (first | (with_reducible first | apply Zl1 | apply Zl2 | apply Zl3 | apply Zl4 | apply Zl5 | apply Zl6 | apply Zl7 | apply Zl8 | apply Zl9 | apply Zla | apply Zlb | apply Zlc) | (dsimp only; with_reducible first | apply Zl8 | apply Zl2 | apply Zld) | with_reducible assumption | omega | (dsimp only; omega))))
theorem Known42_any (w : World) (hT : I.Tab w) : Calls Tryz.prog 6 #[] w (Ret (.bool true) w) := by
  have HK := Lib.hid (fun w' hT => known42_any w' hT)
  have HL := Lib.hid (fun w' hT => Known41_any w' hT)
  have HT := Lib.hid hT
  clear hT
  go_enter Tryz.func6, Tryz.ntmps6
  go_wp2_with fail
  (with_reducible refine (HK.out _ (HT.out.of (by (repeat' (first | (with_reducible first | apply Zl1 | apply Zl2 | apply Zl3 | apply Zl4 | apply Zl5 | apply Zl6 | apply Zl7 | apply Zl8 | apply Zl9 | apply Zla | apply Zlb | apply Zlc) | (dsimp only; with_reducible first | apply Zl8 | apply Zl2 | apply Zld) | with_reducible assumption | omega | (dsimp only; omega)))))).mono ?_)
  rintro _ _ ⟨rfl, x, rfl⟩
  have hxs := x.size_le
  go_wp2_with fail
  (with_reducible refine (HL.out _ (HT.out.of (by (repeat' (first | (with_reducible first | apply Zl1 | apply Zl2 | apply Zl3 | apply Zl4 | apply Zl5 | apply Zl6 | apply Zl7 | apply Zl8 | apply Zl9 | apply Zla | apply Zlb | apply Zlc) | (dsimp only; with_reducible first | apply Zl8 | apply Zl2 | apply Zld) | with_reducible assumption | omega | (dsimp only; omega)))))).mono ?_)
  rintro _ _ ⟨rfl, y, rfl⟩
  go_wp2
  go_ret
  exact Ret.mk (by rfl) (by (repeat' (first | (with_reducible first | apply Zl1 | apply Zl2 | apply Zl3 | apply Zl4 | apply Zl5 | apply Zl6 | apply Zl7 | apply Zl8 | apply Zl9 | apply Zla | apply Zlb | apply Zlc) | (dsimp only; with_reducible first | apply Zl8 | apply Zl2 | apply Zld) | with_reducible assumption | omega | (dsimp only; omega))))
end Go.Proofs.YtehgeoipbgpocaaGreatDoor
