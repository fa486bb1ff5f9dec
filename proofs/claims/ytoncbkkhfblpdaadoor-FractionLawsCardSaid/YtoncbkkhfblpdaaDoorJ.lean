/- Values of continued fractions. -/
import Derived.Test.YtoncbkkhfblpdaaDoorH
import Derived.OwnWalk
namespace Go.Proofs.YtoncbkkhfblpdaaDoor
open Go.RowKit
attribute [local go_sem low] Bel.cell Bel.frozen alloc_cell alloc_frozen

/-- The steps from the end of a list: none if one is too great. -/
def valS (n d : Int) : List Int → Option (Int × Int)
  | [] => some (n, d)
  | a :: r => if a > 2000000 ∨ a < -2000000 ∨ n > 1000000 then none else valS (a * n + d) n r
def lowTail (zs : List Int) : Bool := zs.tail.any fun a => decide (a < 1)
def valueT (zs : List Int) : Int × Int × Int :=
  match valS 1 0 zs.reverse with
  | none => (0, 0, 4)
  | some (n, d) => (mk1 n d, mk2 n d, mk3 n d)
/-- The slice at block b holds these ints. -/
def Ints (w : World) (b off : Nat) (zs : List Int) : Prop := ∀ (i : Nat) (z : Int), zs[i]? = some z → w.cell? ⟨b, off + i, none⟩ = some (.int .i64 z)
theorem i64_cast {a b : Int} (h : a = b) : Value.int .i64 a = .int .i64 b := by rw [h]
theorem take_rev {zs : List Int} {j : Nat} {z : Int} (h : zs[j]? = some z) : (zs.take (j + 1)).reverse = z :: (zs.take j).reverse := by
  rw [List.take_add_one, h, List.reverse_append]; rfl
theorem cell_keep {w wr : World} {p : Addr} {v : Value} (hb : Below w.heap.size w wr) (h : w.cell? p = some v) : wr.cell? p = some v := by
  rw [hb.cell (World.block_lt_of_cell? w p h), h]

/-- The state ahead of a step. -/
def ValInv (zs : List Int) (k : Nat) (n d : Int) : Prop := valS n d (zs.take k).reverse = valS 1 0 zs.reverse ∧ (1 ≤ k → 1 ≤ n) ∧ 0 ≤ d ∧ d ≤ 1000000 ∧ -2000001000000 ≤ n ∧ n ≤ 2000001000000
theorem valInv_start (zs : List Int) : ValInv zs zs.length 1 0 := ⟨by rw [List.take_length], fun _ => by omega, by omega, by omega, by omega, by omega⟩
theorem valInv_limit {zs : List Int} {j : Nat} {n d z : Int} (hz : zs[j]? = some z) (h : ValInv zs (j + 1) n d) (hl : z > 2000000 ∨ z < -2000000 ∨ n > 1000000) : (0, 0, 4) = valueT zs := by
  obtain ⟨h1, _⟩ := h
  rw [take_rev hz, valS, if_pos hl] at h1
  unfold valueT
  rw [← h1]
theorem valInv_step {zs : List Int} {j : Nat} {n d z : Int} (hg : lowTail zs = false) (hz : zs[j]? = some z) (h : ValInv zs (j + 1) n d) (hl : ¬ (z > 2000000 ∨ z < -2000000 ∨ n > 1000000)) :
    ValInv zs j (z * n + d) n ∧ -2000000000000 ≤ z * n ∧ z * n ≤ 2000000000000 := by
  obtain ⟨h1, h2, h3, h4, h5, h6⟩ := h
  have hn := h2 (by omega)
  rw [take_rev hz, valS, if_neg hl] at h1
  have hb : -2000000000000 ≤ z * n ∧ z * n ≤ 2000000000000 := by
    have e := Int.natAbs_mul z n
    have h : z.natAbs * n.natAbs ≤ 2000000 * 1000000 := Nat.mul_le_mul (by omega) (by omega)
    omega
  refine ⟨⟨h1, fun hj => ?_, by omega, by omega, by omega, by omega⟩, hb⟩
  have hz1 : 1 ≤ z := by
    unfold lowTail at hg
    rw [List.any_eq_false] at hg
    have hm : z ∈ zs.tail := by
      rw [List.mem_iff_getElem?]
      exact ⟨j - 1, by rw [List.getElem?_tail, show j - 1 + 1 = j by omega]; exact hz⟩
    have := hg z hm
    simp at this
    omega
  have := Int.mul_le_mul_of_nonneg_right hz1 (show 0 ≤ n by omega)
  omega
theorem valInv_end {zs : List Int} {n d : Int} (h : ValInv zs 0 n d) : (mk1 n d, mk2 n d, mk3 n d) = valueT zs := by
  have h1 := h.1
  simp only [List.take_zero, List.reverse_nil, valS] at h1
  unfold valueT
  rw [← h1]
theorem low_at {zs : List Int} {k : Nat} {z : Int} (h : zs[k + 1]? = some z) (hz : z < 1) : lowTail zs = true := by
  unfold lowTail
  rw [List.any_eq_true]
  exact ⟨z, by rw [List.mem_iff_getElem?]; exact ⟨k, by rw [List.getElem?_tail]; exact h⟩, by simpa using hz⟩
theorem low_none {zs : List Int} (h : ∀ k z, zs[k + 1]? = some z → 1 ≤ z) : lowTail zs = false := by
  unfold lowTail
  rw [List.any_eq_false]
  intro z hz
  rw [List.mem_iff_getElem?] at hz
  obtain ⟨k, hk⟩ := hz
  rw [List.getElem?_tail] at hk
  have := h k z hk
  simpa using this
theorem tripleV {p q : Int × Int × Int} (h : p = q) : Value.tuple #[.agg #[.int .i64 p.1, .int .i64 p.2.1], .int .i64 p.2.2] = .tuple #[.agg #[.int .i64 q.1, .int .i64 q.2.1], .int .i64 q.2.2] := by rw [h]

theorem value_empty (w : World) (v : Value) (hv : v = .slice none 0 0 ∨ ∃ a c, v = .slice (some a) 0 c) : Calls Tryd.prog 20 #[v] w (Ret (.tuple #[.agg #[.int .i64 0, .int .i64 0], .int .i64 13]) w) ∧
    Calls Tryd.prog 21 #[v] w (Ret (.tuple #[.agg #[.int .i64 0, .int .i64 0], .int .i64 13]) w) := by
  rcases hv with rfl | ⟨a, c, rfl⟩
  · constructor
    · go_enter Tryd.func20, Tryd.ntmps20
      go_wp2
      refine bodyPost_ret (v := .tuple #[.agg #[.int .i64 0, .int .i64 0], .int .i64 13]) (by simp [results, Tryd.results20, go_sem]) rfl (Ret.mk (by rfl) (by (repeat' (first | (with_reducible exact Below.refl _ _) | (with_reducible exact Nat.le_refl _) | (with_reducible refine Below.bel ?_ ?_) | (with_reducible refine Below.alloc ?_ ?_ _) | (with_reducible refine Below.drew ?_) | (with_reducible refine Below.drawsN ?_ _) | (with_reducible refine Below.setCell ?_ ?_ _) | (with_reducible refine le_bel ?_) | (with_reducible refine le_alloc ?_) | (with_reducible refine le_setCell ?_) | (with_reducible refine le_drew ?_) | (with_reducible refine le_drawsN ?_) | (dsimp only; with_reducible refine le_bel ?_) | (dsimp only; with_reducible refine Nat.le_refl _) | (dsimp only; with_reducible refine le_bel_add ?_) | (with_reducible assumption) | omega | (dsimp only; omega)))))
    · go_enter Tryd.func21, Tryd.ntmps21
      go_wp2
      refine bodyPost_ret (v := .tuple #[.agg #[.int .i64 0, .int .i64 0], .int .i64 13]) (by simp [results, Tryd.results21, go_sem]) rfl (Ret.mk (by rfl) (by (repeat' (first | (with_reducible exact Below.refl _ _) | (with_reducible exact Nat.le_refl _) | (with_reducible refine Below.bel ?_ ?_) | (with_reducible refine Below.alloc ?_ ?_ _) | (with_reducible refine Below.drew ?_) | (with_reducible refine Below.drawsN ?_ _) | (with_reducible refine Below.setCell ?_ ?_ _) | (with_reducible refine le_bel ?_) | (with_reducible refine le_alloc ?_) | (with_reducible refine le_setCell ?_) | (with_reducible refine le_drew ?_) | (with_reducible refine le_drawsN ?_) | (dsimp only; with_reducible refine le_bel ?_) | (dsimp only; with_reducible refine Nat.le_refl _) | (dsimp only; with_reducible refine le_bel_add ?_) | (with_reducible assumption) | omega | (dsimp only; omega)))))
  · constructor
    · go_enter Tryd.func20, Tryd.ntmps20
      go_wp2
      refine bodyPost_ret (v := .tuple #[.agg #[.int .i64 0, .int .i64 0], .int .i64 13]) (by simp [results, Tryd.results20, go_sem]) rfl (Ret.mk (by rfl) (by (repeat' (first | (with_reducible exact Below.refl _ _) | (with_reducible exact Nat.le_refl _) | (with_reducible refine Below.bel ?_ ?_) | (with_reducible refine Below.alloc ?_ ?_ _) | (with_reducible refine Below.drew ?_) | (with_reducible refine Below.drawsN ?_ _) | (with_reducible refine Below.setCell ?_ ?_ _) | (with_reducible refine le_bel ?_) | (with_reducible refine le_alloc ?_) | (with_reducible refine le_setCell ?_) | (with_reducible refine le_drew ?_) | (with_reducible refine le_drawsN ?_) | (dsimp only; with_reducible refine le_bel ?_) | (dsimp only; with_reducible refine Nat.le_refl _) | (dsimp only; with_reducible refine le_bel_add ?_) | (with_reducible assumption) | omega | (dsimp only; omega)))))
    · go_enter Tryd.func21, Tryd.ntmps21
      go_wp2
      refine bodyPost_ret (v := .tuple #[.agg #[.int .i64 0, .int .i64 0], .int .i64 13]) (by simp [results, Tryd.results21, go_sem]) rfl (Ret.mk (by rfl) (by (repeat' (first | (with_reducible exact Below.refl _ _) | (with_reducible exact Nat.le_refl _) | (with_reducible refine Below.bel ?_ ?_) | (with_reducible refine Below.alloc ?_ ?_ _) | (with_reducible refine Below.drew ?_) | (with_reducible refine Below.drawsN ?_ _) | (with_reducible refine Below.setCell ?_ ?_ _) | (with_reducible refine le_bel ?_) | (with_reducible refine le_alloc ?_) | (with_reducible refine le_setCell ?_) | (with_reducible refine le_drew ?_) | (with_reducible refine le_drawsN ?_) | (dsimp only; with_reducible refine le_bel ?_) | (dsimp only; with_reducible refine Nat.le_refl _) | (dsimp only; with_reducible refine le_bel_add ?_) | (with_reducible assumption) | omega | (dsimp only; omega)))))
theorem value_long (w : World) (a : Addr) (len c : Nat) (h : 40 < len) (h2 : len ≤ 1000) : Calls Tryd.prog 20 #[.slice (some a) len c] w (Ret (.tuple #[.agg #[.int .i64 0, .int .i64 0], .int .i64 4]) w) ∧
    Calls Tryd.prog 21 #[.slice (some a) len c] w (Ret (.tuple #[.agg #[.int .i64 0, .int .i64 0], .int .i64 4]) w) := by
  have e : ((len : Int) == 0) = false := by rw [beq_eq_false_iff_ne]; omega
  constructor
  · go_enter Tryd.func20, Tryd.ntmps20
    go_wp2
    refine bodyPost_ret (v := .tuple #[.agg #[.int .i64 0, .int .i64 0], .int .i64 4]) (by simp [results, Tryd.results20, go_sem]) rfl (Ret.mk (by rfl) (by (repeat' (first | (with_reducible exact Below.refl _ _) | (with_reducible exact Nat.le_refl _) | (with_reducible refine Below.bel ?_ ?_) | (with_reducible refine Below.alloc ?_ ?_ _) | (with_reducible refine Below.drew ?_) | (with_reducible refine Below.drawsN ?_ _) | (with_reducible refine Below.setCell ?_ ?_ _) | (with_reducible refine le_bel ?_) | (with_reducible refine le_alloc ?_) | (with_reducible refine le_setCell ?_) | (with_reducible refine le_drew ?_) | (with_reducible refine le_drawsN ?_) | (dsimp only; with_reducible refine le_bel ?_) | (dsimp only; with_reducible refine Nat.le_refl _) | (dsimp only; with_reducible refine le_bel_add ?_) | (with_reducible assumption) | omega | (dsimp only; omega)))))
  · go_enter Tryd.func21, Tryd.ntmps21
    go_wp2
    refine bodyPost_ret (v := .tuple #[.agg #[.int .i64 0, .int .i64 0], .int .i64 4]) (by simp [results, Tryd.results21, go_sem]) rfl (Ret.mk (by rfl) (by (repeat' (first | (with_reducible exact Below.refl _ _) | (with_reducible exact Nat.le_refl _) | (with_reducible refine Below.bel ?_ ?_) | (with_reducible refine Below.alloc ?_ ?_ _) | (with_reducible refine Below.drew ?_) | (with_reducible refine Below.drawsN ?_ _) | (with_reducible refine Below.setCell ?_ ?_ _) | (with_reducible refine le_bel ?_) | (with_reducible refine le_alloc ?_) | (with_reducible refine le_setCell ?_) | (with_reducible refine le_drew ?_) | (with_reducible refine le_drawsN ?_) | (dsimp only; with_reducible refine le_bel ?_) | (dsimp only; with_reducible refine Nat.le_refl _) | (dsimp only; with_reducible refine le_bel_add ?_) | (with_reducible assumption) | omega | (dsimp only; omega)))))

def valueU (zs : List Int) : Int × Int × Int := if lowTail zs = true then (0, 0, 7) else valueT zs
theorem valueU_low {zs : List Int} (h : lowTail zs = true) : (0, 0, 7) = valueU zs := (if_pos h).symm
theorem valueU_ok {zs : List Int} (h : lowTail zs = false) : valueT zs = valueU zs := (if_neg (by rw [h]; exact Bool.false_ne_true)).symm

set_option maxHeartbeats 6400000 in
theorem value_any (w : World) (b off cap : Nat) (zs : List Int) (hx' : Ints w b off zs) (h0 : 0 < zs.length) (h1 : zs.length ≤ 40) (hc : zs.length ≤ cap) :
    Calls Tryd.prog 20 #[.slice (some ⟨b, off, none⟩) zs.length cap] w (Ret (.tuple #[.agg #[.int .i64 (valueU zs).1, .int .i64 (valueU zs).2.1], .int .i64 (valueU zs).2.2]) w) := by
  have e0 : ((zs.length : Int) == 0) = false := by rw [beq_eq_false_iff_ne]; omega
  have hx := Lib.hid hx'
  clear hx'
  by_cases hcap : cap = 1
  · subst hcap
    go_enter Tryd.func20, Tryd.ntmps20
    go_wp2
    go_loopw [22] (fun i wr => ∃ k : Nat, k ≤ zs.length - 1 ∧ i = .int .i64 (k : Int) ∧ (∀ j z, j < k → zs[j + 1]? = some z → 1 ≤ z) ∧ wr = w.alloc (.cells #[.int .i64 0, .int .i64 0] 24)) (fun i _ => zs.length - (intOf i).toNat)
    case atStart => exact ⟨0, by omega, rfl, fun j z hj => by omega, rfl⟩
    case round =>
      obtain ⟨k, hk, rfl, hgood, rfl⟩ := hrel
      by_cases hlt : k < zs.length - 1
      · exact absurd hlt (by omega)
      · have hlow := low_none (zs := zs) (fun j z hj => hgood j z (by have := (List.getElem?_eq_some_iff.1 hj).1; omega) hj)
        have HLOW := Lib.hid hlow
        clear hgood hlow
        go_wp2
        go_loopw [6, 7, 8] (fun x y i wr => ∃ (k : Nat) (n d : Int), k ≤ zs.length ∧ x = .int .i64 n ∧ y = .int .i64 d ∧ ((k = 0 ∧ i = .int .i64 (-1)) ∨ ∃ j : Nat, k = j + 1 ∧ i = .int .i64 (j : Int)) ∧ ValInv zs k n d ∧ wr = w.alloc (.cells #[.int .i64 0, .int .i64 0] 24)) (fun _ _ i _ => (intOf i + 1).toNat)
        case atStart => exact ⟨zs.length, 1, 0, by omega, rfl, rfl, .inr ⟨zs.length - 1, by omega, i64_cast (by omega)⟩, valInv_start zs, rfl⟩
        case round =>
          obtain ⟨k, n, d, hk, rfl, rfl, hi, hinv, rfl⟩ := hrel
          rcases hi with ⟨rfl, rfl⟩ | ⟨j, rfl, rfl⟩
          · have HI := Lib.hid ((valInv_end hinv).trans (valueU_ok HLOW.out))
            obtain ⟨_, _, b1, b2, b3, b4⟩ := hinv
            go_wp2_with fail
            (with_reducible refine (make_val _ _ _ (by omega) (by omega) (by omega) (by omega)).mono ?_)
            rintro _ _ ⟨rfl, y, rfl⟩
            generalize h1 : mk1 n d = a1 at *
            generalize h2 : mk2 n d = a2 at *
            generalize h3 : mk3 n d = a3 at *
            clear h1 h2 h3
            go_wp2
            refine bodyPost_ret (v := .tuple #[.agg #[.int .i64 a1, .int .i64 a2], .int .i64 a3]) (by simp [results, Tryd.results20, go_sem]) rfl (Ret.mk (by exact tripleV HI.out) (by (repeat' (first | (with_reducible exact Below.refl _ _) | (with_reducible exact Nat.le_refl _) | (with_reducible refine Below.bel ?_ ?_) | (with_reducible refine Below.alloc ?_ ?_ _) | (with_reducible refine Below.drew ?_) | (with_reducible refine Below.drawsN ?_ _) | (with_reducible refine Below.setCell ?_ ?_ _) | (with_reducible refine le_bel ?_) | (with_reducible refine le_alloc ?_) | (with_reducible refine le_setCell ?_) | (with_reducible refine le_drew ?_) | (with_reducible refine le_drawsN ?_) | (dsimp only; with_reducible refine le_bel ?_) | (dsimp only; with_reducible refine Nat.le_refl _) | (dsimp only; with_reducible refine le_bel_add ?_) | (with_reducible assumption) | omega | (dsimp only; omega)))))
          · obtain ⟨z, hz⟩ : ∃ z, zs[j]? = some z := ⟨_, List.getElem?_eq_getElem (by omega)⟩
            have hcz := hx.out j z hz
            by_cases hl : z > 2000000 ∨ z < -2000000 ∨ n > 1000000
            · have HL := Lib.hid ((valInv_limit hz hinv hl).trans (valueU_ok HLOW.out))
              clear hz hinv
              by_cases c1 : 2000000 < z
              · have d1 : decide (2000000 < z) = true := by simpa using c1
                clear hl
                go_wp2
                refine bodyPost_ret (v := .tuple #[.agg #[.int .i64 0, .int .i64 0], .int .i64 4]) (by simp [results, Tryd.results20, go_sem]) rfl (Ret.mk (by exact tripleV HL.out) (by (repeat' (first | (with_reducible exact Below.refl _ _) | (with_reducible exact Nat.le_refl _) | (with_reducible refine Below.bel ?_ ?_) | (with_reducible refine Below.alloc ?_ ?_ _) | (with_reducible refine Below.drew ?_) | (with_reducible refine Below.drawsN ?_ _) | (with_reducible refine Below.setCell ?_ ?_ _) | (with_reducible refine le_bel ?_) | (with_reducible refine le_alloc ?_) | (with_reducible refine le_setCell ?_) | (with_reducible refine le_drew ?_) | (with_reducible refine le_drawsN ?_) | (dsimp only; with_reducible refine le_bel ?_) | (dsimp only; with_reducible refine Nat.le_refl _) | (dsimp only; with_reducible refine le_bel_add ?_) | (with_reducible assumption) | omega | (dsimp only; omega)))))
              have d1 : decide (2000000 < z) = false := by simpa using c1
              by_cases c2 : z < -2000000
              · have d2 : decide (z < -2000000) = true := by simpa using c2
                clear hl
                go_wp2
                refine bodyPost_ret (v := .tuple #[.agg #[.int .i64 0, .int .i64 0], .int .i64 4]) (by simp [results, Tryd.results20, go_sem]) rfl (Ret.mk (by exact tripleV HL.out) (by (repeat' (first | (with_reducible exact Below.refl _ _) | (with_reducible exact Nat.le_refl _) | (with_reducible refine Below.bel ?_ ?_) | (with_reducible refine Below.alloc ?_ ?_ _) | (with_reducible refine Below.drew ?_) | (with_reducible refine Below.drawsN ?_ _) | (with_reducible refine Below.setCell ?_ ?_ _) | (with_reducible refine le_bel ?_) | (with_reducible refine le_alloc ?_) | (with_reducible refine le_setCell ?_) | (with_reducible refine le_drew ?_) | (with_reducible refine le_drawsN ?_) | (dsimp only; with_reducible refine le_bel ?_) | (dsimp only; with_reducible refine Nat.le_refl _) | (dsimp only; with_reducible refine le_bel_add ?_) | (with_reducible assumption) | omega | (dsimp only; omega)))))
              have d2 : decide (z < -2000000) = false := by simpa using c2
              have c3 : 1000000 < n := by omega
              have d3 : decide (1000000 < n) = true := by simpa using c3
              clear hl
              go_wp2
              refine bodyPost_ret (v := .tuple #[.agg #[.int .i64 0, .int .i64 0], .int .i64 4]) (by simp [results, Tryd.results20, go_sem]) rfl (Ret.mk (by exact tripleV HL.out) (by (repeat' (first | (with_reducible exact Below.refl _ _) | (with_reducible exact Nat.le_refl _) | (with_reducible refine Below.bel ?_ ?_) | (with_reducible refine Below.alloc ?_ ?_ _) | (with_reducible refine Below.drew ?_) | (with_reducible refine Below.drawsN ?_ _) | (with_reducible refine Below.setCell ?_ ?_ _) | (with_reducible refine le_bel ?_) | (with_reducible refine le_alloc ?_) | (with_reducible refine le_setCell ?_) | (with_reducible refine le_drew ?_) | (with_reducible refine le_drawsN ?_) | (dsimp only; with_reducible refine le_bel ?_) | (dsimp only; with_reducible refine Nat.le_refl _) | (dsimp only; with_reducible refine le_bel_add ?_) | (with_reducible assumption) | omega | (dsimp only; omega)))))
            · obtain ⟨hs, m1, m2⟩ := valInv_step HLOW.out hz hinv hl
              obtain ⟨_, _, b1, b2, b3, b4⟩ := hinv
              have HS := Lib.hid hs
              have d1 : decide (2000000 < z) = false := by simp; omega
              have d2 : decide (z < -2000000) = false := by simp; omega
              have d3 : decide (1000000 < n) = false := by simp; omega
              clear hz hs hl
              go_wp2
              go_roundw
              case rel =>
                refine ⟨j, z * n + d, n, by omega, rfl, rfl, ?_, HS.out, by first | rfl | trivial⟩
                rcases j with _ | j
                · exact .inl ⟨rfl, by first | rfl | exact i64_cast (by omega)⟩
                · exact .inr ⟨j, rfl, i64_cast (by omega)⟩
              case measure => first | (simp [intOf]; done) | (simp [intOf]; omega)
  · go_enter Tryd.func20, Tryd.ntmps20
    go_wp2
    go_loopw [22] (fun i wr => ∃ k : Nat, k ≤ zs.length - 1 ∧ i = .int .i64 (k : Int) ∧ (∀ j z, j < k → zs[j + 1]? = some z → 1 ≤ z) ∧ wr = w.alloc (.cells #[.int .i64 0, .int .i64 0] 24)) (fun i _ => zs.length - (intOf i).toNat)
    case atStart => exact ⟨0, by omega, rfl, fun j z hj => by omega, rfl⟩
    case round =>
      obtain ⟨k, hk, rfl, hgood, rfl⟩ := hrel
      by_cases hlt : k < zs.length - 1
      · obtain ⟨z, hz⟩ : ∃ z, zs[k + 1]? = some z := ⟨_, List.getElem?_eq_getElem (by omega)⟩
        have hcz := hx.out (k + 1) z hz
        rw [show off + (k + 1) = off + 1 + k by omega] at hcz
        have HZ := Lib.hid hz
        have HG := Lib.hid hgood
        clear hz hgood
        by_cases hz1 : z < 1
        · have e1 : decide (z < 1) = true := by simpa using hz1
          have HL := Lib.hid (valueU_low (low_at HZ.out hz1))
          go_wp2
          refine bodyPost_ret (v := .tuple #[.agg #[.int .i64 0, .int .i64 0], .int .i64 7]) (by simp [results, Tryd.results20, go_sem]) rfl (Ret.mk (by exact tripleV HL.out) (by (repeat' (first | (with_reducible exact Below.refl _ _) | (with_reducible exact Nat.le_refl _) | (with_reducible refine Below.bel ?_ ?_) | (with_reducible refine Below.alloc ?_ ?_ _) | (with_reducible refine Below.drew ?_) | (with_reducible refine Below.drawsN ?_ _) | (with_reducible refine Below.setCell ?_ ?_ _) | (with_reducible refine le_bel ?_) | (with_reducible refine le_alloc ?_) | (with_reducible refine le_setCell ?_) | (with_reducible refine le_drew ?_) | (with_reducible refine le_drawsN ?_) | (dsimp only; with_reducible refine le_bel ?_) | (dsimp only; with_reducible refine Nat.le_refl _) | (dsimp only; with_reducible refine le_bel_add ?_) | (with_reducible assumption) | omega | (dsimp only; omega)))))
        · have e1 : decide (z < 1) = false := by simpa using hz1
          go_wp2
          go_roundw
          case rel =>
            refine ⟨k + 1, by omega, by go_num, fun j y hj hy => ?_, by first | rfl | trivial⟩
            by_cases hjk : j = k
            · subst hjk
              have := HZ.out
              rw [hy] at this
              cases this
              omega
            · exact HG.out j y (by omega) hy
          case measure => first | (simp [intOf]; done) | (simp [intOf]; omega)
      · have hlow := low_none (zs := zs) (fun j z hj => hgood j z (by have := (List.getElem?_eq_some_iff.1 hj).1; omega) hj)
        have HLOW := Lib.hid hlow
        clear hgood hlow
        go_wp2
        go_loopw [6, 7, 8] (fun x y i wr => ∃ (k : Nat) (n d : Int), k ≤ zs.length ∧ x = .int .i64 n ∧ y = .int .i64 d ∧ ((k = 0 ∧ i = .int .i64 (-1)) ∨ ∃ j : Nat, k = j + 1 ∧ i = .int .i64 (j : Int)) ∧ ValInv zs k n d ∧ wr = w.alloc (.cells #[.int .i64 0, .int .i64 0] 24)) (fun _ _ i _ => (intOf i + 1).toNat)
        case atStart => exact ⟨zs.length, 1, 0, by omega, rfl, rfl, .inr ⟨zs.length - 1, by omega, i64_cast (by omega)⟩, valInv_start zs, rfl⟩
        case round =>
          obtain ⟨k, n, d, hk, rfl, rfl, hi, hinv, rfl⟩ := hrel
          rcases hi with ⟨rfl, rfl⟩ | ⟨j, rfl, rfl⟩
          · have HI := Lib.hid ((valInv_end hinv).trans (valueU_ok HLOW.out))
            obtain ⟨_, _, b1, b2, b3, b4⟩ := hinv
            go_wp2_with fail
            (with_reducible refine (make_val _ _ _ (by omega) (by omega) (by omega) (by omega)).mono ?_)
            rintro _ _ ⟨rfl, y, rfl⟩
            generalize h1 : mk1 n d = a1 at *
            generalize h2 : mk2 n d = a2 at *
            generalize h3 : mk3 n d = a3 at *
            clear h1 h2 h3
            go_wp2
            refine bodyPost_ret (v := .tuple #[.agg #[.int .i64 a1, .int .i64 a2], .int .i64 a3]) (by simp [results, Tryd.results20, go_sem]) rfl (Ret.mk (by exact tripleV HI.out) (by (repeat' (first | (with_reducible exact Below.refl _ _) | (with_reducible exact Nat.le_refl _) | (with_reducible refine Below.bel ?_ ?_) | (with_reducible refine Below.alloc ?_ ?_ _) | (with_reducible refine Below.drew ?_) | (with_reducible refine Below.drawsN ?_ _) | (with_reducible refine Below.setCell ?_ ?_ _) | (with_reducible refine le_bel ?_) | (with_reducible refine le_alloc ?_) | (with_reducible refine le_setCell ?_) | (with_reducible refine le_drew ?_) | (with_reducible refine le_drawsN ?_) | (dsimp only; with_reducible refine le_bel ?_) | (dsimp only; with_reducible refine Nat.le_refl _) | (dsimp only; with_reducible refine le_bel_add ?_) | (with_reducible assumption) | omega | (dsimp only; omega)))))
          · obtain ⟨z, hz⟩ : ∃ z, zs[j]? = some z := ⟨_, List.getElem?_eq_getElem (by omega)⟩
            have hcz := hx.out j z hz
            by_cases hl : z > 2000000 ∨ z < -2000000 ∨ n > 1000000
            · have HL := Lib.hid ((valInv_limit hz hinv hl).trans (valueU_ok HLOW.out))
              clear hz hinv
              by_cases c1 : 2000000 < z
              · have d1 : decide (2000000 < z) = true := by simpa using c1
                clear hl
                go_wp2
                refine bodyPost_ret (v := .tuple #[.agg #[.int .i64 0, .int .i64 0], .int .i64 4]) (by simp [results, Tryd.results20, go_sem]) rfl (Ret.mk (by exact tripleV HL.out) (by (repeat' (first | (with_reducible exact Below.refl _ _) | (with_reducible exact Nat.le_refl _) | (with_reducible refine Below.bel ?_ ?_) | (with_reducible refine Below.alloc ?_ ?_ _) | (with_reducible refine Below.drew ?_) | (with_reducible refine Below.drawsN ?_ _) | (with_reducible refine Below.setCell ?_ ?_ _) | (with_reducible refine le_bel ?_) | (with_reducible refine le_alloc ?_) | (with_reducible refine le_setCell ?_) | (with_reducible refine le_drew ?_) | (with_reducible refine le_drawsN ?_) | (dsimp only; with_reducible refine le_bel ?_) | (dsimp only; with_reducible refine Nat.le_refl _) | (dsimp only; with_reducible refine le_bel_add ?_) | (with_reducible assumption) | omega | (dsimp only; omega)))))
              have d1 : decide (2000000 < z) = false := by simpa using c1
              by_cases c2 : z < -2000000
              · have d2 : decide (z < -2000000) = true := by simpa using c2
                clear hl
                go_wp2
                refine bodyPost_ret (v := .tuple #[.agg #[.int .i64 0, .int .i64 0], .int .i64 4]) (by simp [results, Tryd.results20, go_sem]) rfl (Ret.mk (by exact tripleV HL.out) (by (repeat' (first | (with_reducible exact Below.refl _ _) | (with_reducible exact Nat.le_refl _) | (with_reducible refine Below.bel ?_ ?_) | (with_reducible refine Below.alloc ?_ ?_ _) | (with_reducible refine Below.drew ?_) | (with_reducible refine Below.drawsN ?_ _) | (with_reducible refine Below.setCell ?_ ?_ _) | (with_reducible refine le_bel ?_) | (with_reducible refine le_alloc ?_) | (with_reducible refine le_setCell ?_) | (with_reducible refine le_drew ?_) | (with_reducible refine le_drawsN ?_) | (dsimp only; with_reducible refine le_bel ?_) | (dsimp only; with_reducible refine Nat.le_refl _) | (dsimp only; with_reducible refine le_bel_add ?_) | (with_reducible assumption) | omega | (dsimp only; omega)))))
              have d2 : decide (z < -2000000) = false := by simpa using c2
              have c3 : 1000000 < n := by omega
              have d3 : decide (1000000 < n) = true := by simpa using c3
              clear hl
              go_wp2
              refine bodyPost_ret (v := .tuple #[.agg #[.int .i64 0, .int .i64 0], .int .i64 4]) (by simp [results, Tryd.results20, go_sem]) rfl (Ret.mk (by exact tripleV HL.out) (by (repeat' (first | (with_reducible exact Below.refl _ _) | (with_reducible exact Nat.le_refl _) | (with_reducible refine Below.bel ?_ ?_) | (with_reducible refine Below.alloc ?_ ?_ _) | (with_reducible refine Below.drew ?_) | (with_reducible refine Below.drawsN ?_ _) | (with_reducible refine Below.setCell ?_ ?_ _) | (with_reducible refine le_bel ?_) | (with_reducible refine le_alloc ?_) | (with_reducible refine le_setCell ?_) | (with_reducible refine le_drew ?_) | (with_reducible refine le_drawsN ?_) | (dsimp only; with_reducible refine le_bel ?_) | (dsimp only; with_reducible refine Nat.le_refl _) | (dsimp only; with_reducible refine le_bel_add ?_) | (with_reducible assumption) | omega | (dsimp only; omega)))))
            · obtain ⟨hs, m1, m2⟩ := valInv_step HLOW.out hz hinv hl
              obtain ⟨_, _, b1, b2, b3, b4⟩ := hinv
              have HS := Lib.hid hs
              have d1 : decide (2000000 < z) = false := by simp; omega
              have d2 : decide (z < -2000000) = false := by simp; omega
              have d3 : decide (1000000 < n) = false := by simp; omega
              clear hz hs hl
              go_wp2
              go_roundw
              case rel =>
                refine ⟨j, z * n + d, n, by omega, rfl, rfl, ?_, HS.out, by first | rfl | trivial⟩
                rcases j with _ | j
                · exact .inl ⟨rfl, by first | rfl | exact i64_cast (by omega)⟩
                · exact .inr ⟨j, rfl, i64_cast (by omega)⟩
              case measure => first | (simp [intOf]; done) | (simp [intOf]; omega)
set_option maxHeartbeats 6400000 in
theorem refvalue_any (w : World) (b off cap : Nat) (zs : List Int) (hx' : Ints w b off zs) (h0 : 0 < zs.length) (h1 : zs.length ≤ 40) :
    Calls Tryd.prog 21 #[.slice (some ⟨b, off, none⟩) zs.length cap] w (Ret (.tuple #[.agg #[.int .i64 (valueU zs).1, .int .i64 (valueU zs).2.1], .int .i64 (valueU zs).2.2]) w) := by
  have e0 : ((zs.length : Int) == 0) = false := by rw [beq_eq_false_iff_ne]; omega
  have hx := Lib.hid hx'
  clear hx'
  go_enter Tryd.func21, Tryd.ntmps21
  go_wp2
  go_loopw [4] (fun i wr => ∃ k : Nat, k ≤ zs.length - 1 ∧ i = .int .i64 ((k + 1 : Nat) : Int) ∧ (∀ j z, j < k → zs[j + 1]? = some z → 1 ≤ z) ∧ wr = w.alloc (.cells #[.int .i64 0, .int .i64 0] 24)) (fun i _ => zs.length - (intOf i).toNat)
  case atStart => exact ⟨0, by omega, rfl, fun j z hj => by omega, rfl⟩
  case round =>
    obtain ⟨k, hk, rfl, hgood, rfl⟩ := hrel
    by_cases hlt : k < zs.length - 1
    · obtain ⟨z, hz⟩ : ∃ z, zs[k + 1]? = some z := ⟨_, List.getElem?_eq_getElem (by omega)⟩
      have hcz := hx.out (k + 1) z hz
      have HZ := Lib.hid hz
      have HG := Lib.hid hgood
      clear hz hgood
      by_cases hz1 : z < 1
      · have e1 : decide (z < 1) = true := by simpa using hz1
        have HL := Lib.hid (valueU_low (low_at HZ.out hz1))
        go_wp2
        refine bodyPost_ret (v := .tuple #[.agg #[.int .i64 0, .int .i64 0], .int .i64 7]) (by simp [results, Tryd.results21, go_sem]) rfl (Ret.mk (by exact tripleV HL.out) (by (repeat' (first | (with_reducible exact Below.refl _ _) | (with_reducible exact Nat.le_refl _) | (with_reducible refine Below.bel ?_ ?_) | (with_reducible refine Below.alloc ?_ ?_ _) | (with_reducible refine Below.drew ?_) | (with_reducible refine Below.drawsN ?_ _) | (with_reducible refine Below.setCell ?_ ?_ _) | (with_reducible refine le_bel ?_) | (with_reducible refine le_alloc ?_) | (with_reducible refine le_setCell ?_) | (with_reducible refine le_drew ?_) | (with_reducible refine le_drawsN ?_) | (dsimp only; with_reducible refine le_bel ?_) | (dsimp only; with_reducible refine Nat.le_refl _) | (dsimp only; with_reducible refine le_bel_add ?_) | (with_reducible assumption) | omega | (dsimp only; omega)))))
      · have e1 : decide (z < 1) = false := by simpa using hz1
        go_wp2
        go_roundw
        case rel =>
          refine ⟨k + 1, by omega, by go_num, fun j y hj hy => ?_, by first | rfl | trivial⟩
          by_cases hjk : j = k
          · subst hjk
            have := HZ.out
            rw [hy] at this
            cases this
            omega
          · exact HG.out j y (by omega) hy
        case measure => first | (simp [intOf]; done) | (simp [intOf]; omega)
    · have hlow := low_none (zs := zs) (fun j z hj => hgood j z (by have := (List.getElem?_eq_some_iff.1 hj).1; omega) hj)
      have HLOW := Lib.hid hlow
      clear hgood hlow
      go_wp2
      go_loopw [5, 6, 7] (fun x y i wr => ∃ (k : Nat) (n d : Int), k ≤ zs.length ∧ x = .int .i64 n ∧ y = .int .i64 d ∧ ((k = 0 ∧ i = .int .i64 (-1)) ∨ ∃ j : Nat, k = j + 1 ∧ i = .int .i64 (j : Int)) ∧ ValInv zs k n d ∧ wr = w.alloc (.cells #[.int .i64 0, .int .i64 0] 24)) (fun _ _ i _ => (intOf i + 1).toNat)
      case atStart => exact ⟨zs.length, 1, 0, by omega, rfl, rfl, .inr ⟨zs.length - 1, by omega, i64_cast (by omega)⟩, valInv_start zs, rfl⟩
      case round =>
        obtain ⟨k, n, d, hk, rfl, rfl, hi, hinv, rfl⟩ := hrel
        rcases hi with ⟨rfl, rfl⟩ | ⟨j, rfl, rfl⟩
        · have HI := Lib.hid ((valInv_end hinv).trans (valueU_ok HLOW.out))
          obtain ⟨_, _, b1, b2, b3, b4⟩ := hinv
          go_wp2_with fail
          (with_reducible refine (refmake_any _ _ _ (by omega) (by omega) (by omega) (by omega)).mono ?_)
          rintro _ _ ⟨rfl, y, rfl⟩
          generalize h1 : mk1 n d = a1 at *
          generalize h2 : mk2 n d = a2 at *
          generalize h3 : mk3 n d = a3 at *
          clear h1 h2 h3
          go_wp2
          refine bodyPost_ret (v := .tuple #[.agg #[.int .i64 a1, .int .i64 a2], .int .i64 a3]) (by simp [results, Tryd.results21, go_sem]) rfl (Ret.mk (by exact tripleV HI.out) (by (repeat' (first | (with_reducible exact Below.refl _ _) | (with_reducible exact Nat.le_refl _) | (with_reducible refine Below.bel ?_ ?_) | (with_reducible refine Below.alloc ?_ ?_ _) | (with_reducible refine Below.drew ?_) | (with_reducible refine Below.drawsN ?_ _) | (with_reducible refine Below.setCell ?_ ?_ _) | (with_reducible refine le_bel ?_) | (with_reducible refine le_alloc ?_) | (with_reducible refine le_setCell ?_) | (with_reducible refine le_drew ?_) | (with_reducible refine le_drawsN ?_) | (dsimp only; with_reducible refine le_bel ?_) | (dsimp only; with_reducible refine Nat.le_refl _) | (dsimp only; with_reducible refine le_bel_add ?_) | (with_reducible assumption) | omega | (dsimp only; omega)))))
        · obtain ⟨z, hz⟩ : ∃ z, zs[j]? = some z := ⟨_, List.getElem?_eq_getElem (by omega)⟩
          have hcz := hx.out j z hz
          by_cases hl : z > 2000000 ∨ z < -2000000 ∨ n > 1000000
          · have HL := Lib.hid ((valInv_limit hz hinv hl).trans (valueU_ok HLOW.out))
            clear hz hinv
            by_cases c1 : 2000000 < z
            · have d1 : decide (2000000 < z) = true := by simpa using c1
              clear hl
              go_wp2
              refine bodyPost_ret (v := .tuple #[.agg #[.int .i64 0, .int .i64 0], .int .i64 4]) (by simp [results, Tryd.results21, go_sem]) rfl (Ret.mk (by exact tripleV HL.out) (by (repeat' (first | (with_reducible exact Below.refl _ _) | (with_reducible exact Nat.le_refl _) | (with_reducible refine Below.bel ?_ ?_) | (with_reducible refine Below.alloc ?_ ?_ _) | (with_reducible refine Below.drew ?_) | (with_reducible refine Below.drawsN ?_ _) | (with_reducible refine Below.setCell ?_ ?_ _) | (with_reducible refine le_bel ?_) | (with_reducible refine le_alloc ?_) | (with_reducible refine le_setCell ?_) | (with_reducible refine le_drew ?_) | (with_reducible refine le_drawsN ?_) | (dsimp only; with_reducible refine le_bel ?_) | (dsimp only; with_reducible refine Nat.le_refl _) | (dsimp only; with_reducible refine le_bel_add ?_) | (with_reducible assumption) | omega | (dsimp only; omega)))))
            have d1 : decide (2000000 < z) = false := by simpa using c1
            by_cases c2 : z < -2000000
            · have d2 : decide (z < -2000000) = true := by simpa using c2
              clear hl
              go_wp2
              refine bodyPost_ret (v := .tuple #[.agg #[.int .i64 0, .int .i64 0], .int .i64 4]) (by simp [results, Tryd.results21, go_sem]) rfl (Ret.mk (by exact tripleV HL.out) (by (repeat' (first | (with_reducible exact Below.refl _ _) | (with_reducible exact Nat.le_refl _) | (with_reducible refine Below.bel ?_ ?_) | (with_reducible refine Below.alloc ?_ ?_ _) | (with_reducible refine Below.drew ?_) | (with_reducible refine Below.drawsN ?_ _) | (with_reducible refine Below.setCell ?_ ?_ _) | (with_reducible refine le_bel ?_) | (with_reducible refine le_alloc ?_) | (with_reducible refine le_setCell ?_) | (with_reducible refine le_drew ?_) | (with_reducible refine le_drawsN ?_) | (dsimp only; with_reducible refine le_bel ?_) | (dsimp only; with_reducible refine Nat.le_refl _) | (dsimp only; with_reducible refine le_bel_add ?_) | (with_reducible assumption) | omega | (dsimp only; omega)))))
            have d2 : decide (z < -2000000) = false := by simpa using c2
            have c3 : 1000000 < n := by omega
            have d3 : decide (1000000 < n) = true := by simpa using c3
            clear hl
            go_wp2
            refine bodyPost_ret (v := .tuple #[.agg #[.int .i64 0, .int .i64 0], .int .i64 4]) (by simp [results, Tryd.results21, go_sem]) rfl (Ret.mk (by exact tripleV HL.out) (by (repeat' (first | (with_reducible exact Below.refl _ _) | (with_reducible exact Nat.le_refl _) | (with_reducible refine Below.bel ?_ ?_) | (with_reducible refine Below.alloc ?_ ?_ _) | (with_reducible refine Below.drew ?_) | (with_reducible refine Below.drawsN ?_ _) | (with_reducible refine Below.setCell ?_ ?_ _) | (with_reducible refine le_bel ?_) | (with_reducible refine le_alloc ?_) | (with_reducible refine le_setCell ?_) | (with_reducible refine le_drew ?_) | (with_reducible refine le_drawsN ?_) | (dsimp only; with_reducible refine le_bel ?_) | (dsimp only; with_reducible refine Nat.le_refl _) | (dsimp only; with_reducible refine le_bel_add ?_) | (with_reducible assumption) | omega | (dsimp only; omega)))))
          · obtain ⟨hs, m1, m2⟩ := valInv_step HLOW.out hz hinv hl
            obtain ⟨_, _, b1, b2, b3, b4⟩ := hinv
            have HS := Lib.hid hs
            have d1 : decide (2000000 < z) = false := by simp; omega
            have d2 : decide (z < -2000000) = false := by simp; omega
            have d3 : decide (1000000 < n) = false := by simp; omega
            clear hz hs hl
            go_wp2
            go_roundw
            case rel =>
              refine ⟨j, z * n + d, n, by omega, rfl, rfl, ?_, HS.out, by first | rfl | trivial⟩
              rcases j with _ | j
              · exact .inl ⟨rfl, by first | rfl | exact i64_cast (by omega)⟩
              · exact .inr ⟨j, rfl, i64_cast (by omega)⟩
            case measure => first | (simp [intOf]; done) | (simp [intOf]; omega)


set_option maxHeartbeats 1600000 in
/-- The law, where the two functions agree. -/
theorem fractionValues_eq (v : Value) (len : Nat) (a b e : Int) (w : World) (hT : Tab w) (hl : len ≤ 42) (hv : v = .slice none 0 0 ∧ len = 0 ∨ ∃ p c, v = .slice (some p) len c)
    (h1 : ∀ x : Bel w, Calls Tryd.prog 20 #[v] x.w (Ret (.tuple #[.agg #[.int .i64 a, .int .i64 b], .int .i64 e]) x.w)) (h2 : ∀ x : Bel w, Calls Tryd.prog 21 #[v] x.w (Ret (.tuple #[.agg #[.int .i64 a, .int .i64 b], .int .i64 e]) x.w)) :
    Calls Tryd.prog 5 #[v] w (Ret (.bool true) w) := by
  have HT := Lib.hid hT
  have H1 := Lib.hid h1
  have H2 := Lib.hid h2
  clear hT h1 h2
  rcases hv with ⟨rfl, rfl⟩ | ⟨p, c, rfl⟩
  · go_enter Tryd.func5, Tryd.ntmps5
    go_wp2_with fail
    (with_reducible refine (known_any _ (HT.out.of (by (repeat' (first | (with_reducible exact Below.refl _ _) | (with_reducible exact Nat.le_refl _) | (with_reducible refine Below.bel ?_ ?_) | (with_reducible refine Below.alloc ?_ ?_ _) | (with_reducible refine Below.drew ?_) | (with_reducible refine Below.drawsN ?_ _) | (with_reducible refine Below.setCell ?_ ?_ _) | (with_reducible refine le_bel ?_) | (with_reducible refine le_alloc ?_) | (with_reducible refine le_setCell ?_) | (with_reducible refine le_drew ?_) | (with_reducible refine le_drawsN ?_) | (dsimp only; with_reducible refine le_bel ?_) | (dsimp only; with_reducible refine Nat.le_refl _) | (dsimp only; with_reducible refine le_bel_add ?_) | (with_reducible assumption) | omega | (dsimp only; omega)))))).mono ?_)
    rintro _ _ ⟨rfl, x1, rfl⟩
    go_wp2_with fail
    have g1 := H1.out ⟨x1.w, by (repeat' (first | (with_reducible exact Below.refl _ _) | (with_reducible exact Nat.le_refl _) | (with_reducible refine Below.bel ?_ ?_) | (with_reducible refine Below.alloc ?_ ?_ _) | (with_reducible refine Below.drew ?_) | (with_reducible refine Below.drawsN ?_ _) | (with_reducible refine Below.setCell ?_ ?_ _) | (with_reducible refine le_bel ?_) | (with_reducible refine le_alloc ?_) | (with_reducible refine le_setCell ?_) | (with_reducible refine le_drew ?_) | (with_reducible refine le_drawsN ?_) | (dsimp only; with_reducible refine le_bel ?_) | (dsimp only; with_reducible refine Nat.le_refl _) | (dsimp only; with_reducible refine le_bel_add ?_) | (with_reducible assumption) | omega | (dsimp only; omega)))⟩
    dsimp only at g1
    (with_reducible refine g1.mono ?_)
    clear g1
    rintro _ _ ⟨rfl, x2, rfl⟩
    go_wp2_with fail
    have g2 := fun y hy => H2.out ⟨y, hy⟩
    dsimp only at g2
    (with_reducible refine (g2 _ (by (repeat' (first | (with_reducible exact Below.refl _ _) | (with_reducible exact Nat.le_refl _) | (with_reducible refine Below.bel ?_ ?_) | (with_reducible refine Below.alloc ?_ ?_ _) | (with_reducible refine Below.drew ?_) | (with_reducible refine Below.drawsN ?_ _) | (with_reducible refine Below.setCell ?_ ?_ _) | (with_reducible refine le_bel ?_) | (with_reducible refine le_alloc ?_) | (with_reducible refine le_setCell ?_) | (with_reducible refine le_drew ?_) | (with_reducible refine le_drawsN ?_) | (dsimp only; with_reducible refine le_bel ?_) | (dsimp only; with_reducible refine Nat.le_refl _) | (dsimp only; with_reducible refine le_bel_add ?_) | (with_reducible assumption) | omega | (dsimp only; omega))))).mono ?_)
    clear g2
    rintro _ _ ⟨rfl, x3, rfl⟩
    go_wp2
    go_ret
    exact Ret.mk (by simp) (by (repeat' (first | (with_reducible exact Below.refl _ _) | (with_reducible exact Nat.le_refl _) | (with_reducible refine Below.bel ?_ ?_) | (with_reducible refine Below.alloc ?_ ?_ _) | (with_reducible refine Below.drew ?_) | (with_reducible refine Below.drawsN ?_ _) | (with_reducible refine Below.setCell ?_ ?_ _) | (with_reducible refine le_bel ?_) | (with_reducible refine le_alloc ?_) | (with_reducible refine le_setCell ?_) | (with_reducible refine le_drew ?_) | (with_reducible refine le_drawsN ?_) | (dsimp only; with_reducible refine le_bel ?_) | (dsimp only; with_reducible refine Nat.le_refl _) | (dsimp only; with_reducible refine le_bel_add ?_) | (with_reducible assumption) | omega | (dsimp only; omega))))
  · go_enter Tryd.func5, Tryd.ntmps5
    go_wp2_with fail
    (with_reducible refine (known_any _ (HT.out.of (by (repeat' (first | (with_reducible exact Below.refl _ _) | (with_reducible exact Nat.le_refl _) | (with_reducible refine Below.bel ?_ ?_) | (with_reducible refine Below.alloc ?_ ?_ _) | (with_reducible refine Below.drew ?_) | (with_reducible refine Below.drawsN ?_ _) | (with_reducible refine Below.setCell ?_ ?_ _) | (with_reducible refine le_bel ?_) | (with_reducible refine le_alloc ?_) | (with_reducible refine le_setCell ?_) | (with_reducible refine le_drew ?_) | (with_reducible refine le_drawsN ?_) | (dsimp only; with_reducible refine le_bel ?_) | (dsimp only; with_reducible refine Nat.le_refl _) | (dsimp only; with_reducible refine le_bel_add ?_) | (with_reducible assumption) | omega | (dsimp only; omega)))))).mono ?_)
    rintro _ _ ⟨rfl, x1, rfl⟩
    go_wp2_with fail
    have g1 := H1.out ⟨x1.w, by (repeat' (first | (with_reducible exact Below.refl _ _) | (with_reducible exact Nat.le_refl _) | (with_reducible refine Below.bel ?_ ?_) | (with_reducible refine Below.alloc ?_ ?_ _) | (with_reducible refine Below.drew ?_) | (with_reducible refine Below.drawsN ?_ _) | (with_reducible refine Below.setCell ?_ ?_ _) | (with_reducible refine le_bel ?_) | (with_reducible refine le_alloc ?_) | (with_reducible refine le_setCell ?_) | (with_reducible refine le_drew ?_) | (with_reducible refine le_drawsN ?_) | (dsimp only; with_reducible refine le_bel ?_) | (dsimp only; with_reducible refine Nat.le_refl _) | (dsimp only; with_reducible refine le_bel_add ?_) | (with_reducible assumption) | omega | (dsimp only; omega)))⟩
    dsimp only at g1
    (with_reducible refine g1.mono ?_)
    clear g1
    rintro _ _ ⟨rfl, x2, rfl⟩
    go_wp2_with fail
    have g2 := fun y hy => H2.out ⟨y, hy⟩
    dsimp only at g2
    (with_reducible refine (g2 _ (by (repeat' (first | (with_reducible exact Below.refl _ _) | (with_reducible exact Nat.le_refl _) | (with_reducible refine Below.bel ?_ ?_) | (with_reducible refine Below.alloc ?_ ?_ _) | (with_reducible refine Below.drew ?_) | (with_reducible refine Below.drawsN ?_ _) | (with_reducible refine Below.setCell ?_ ?_ _) | (with_reducible refine le_bel ?_) | (with_reducible refine le_alloc ?_) | (with_reducible refine le_setCell ?_) | (with_reducible refine le_drew ?_) | (with_reducible refine le_drawsN ?_) | (dsimp only; with_reducible refine le_bel ?_) | (dsimp only; with_reducible refine Nat.le_refl _) | (dsimp only; with_reducible refine le_bel_add ?_) | (with_reducible assumption) | omega | (dsimp only; omega))))).mono ?_)
    clear g2
    rintro _ _ ⟨rfl, x3, rfl⟩
    go_wp2
    go_ret
    exact Ret.mk (by simp) (by (repeat' (first | (with_reducible exact Below.refl _ _) | (with_reducible exact Nat.le_refl _) | (with_reducible refine Below.bel ?_ ?_) | (with_reducible refine Below.alloc ?_ ?_ _) | (with_reducible refine Below.drew ?_) | (with_reducible refine Below.drawsN ?_ _) | (with_reducible refine Below.setCell ?_ ?_ _) | (with_reducible refine le_bel ?_) | (with_reducible refine le_alloc ?_) | (with_reducible refine le_setCell ?_) | (with_reducible refine le_drew ?_) | (with_reducible refine le_drawsN ?_) | (dsimp only; with_reducible refine le_bel ?_) | (dsimp only; with_reducible refine Nat.le_refl _) | (dsimp only; with_reducible refine le_bel_add ?_) | (with_reducible assumption) | omega | (dsimp only; omega))))

set_option maxHeartbeats 1600000 in
theorem fractionValues_long (p : Addr) (len c : Nat) (w : World) (hT : Tab w) (hl : 42 < len) : Calls Tryd.prog 5 #[.slice (some p) len c] w (Ret (.bool true) w) := by
  have HT := Lib.hid hT
  clear hT
  go_enter Tryd.func5, Tryd.ntmps5
  go_wp2_with fail
  (with_reducible refine (known_any _ (HT.out.of (by (repeat' (first | (with_reducible exact Below.refl _ _) | (with_reducible exact Nat.le_refl _) | (with_reducible refine Below.bel ?_ ?_) | (with_reducible refine Below.alloc ?_ ?_ _) | (with_reducible refine Below.drew ?_) | (with_reducible refine Below.drawsN ?_ _) | (with_reducible refine Below.setCell ?_ ?_ _) | (with_reducible refine le_bel ?_) | (with_reducible refine le_alloc ?_) | (with_reducible refine le_setCell ?_) | (with_reducible refine le_drew ?_) | (with_reducible refine le_drawsN ?_) | (dsimp only; with_reducible refine le_bel ?_) | (dsimp only; with_reducible refine Nat.le_refl _) | (dsimp only; with_reducible refine le_bel_add ?_) | (with_reducible assumption) | omega | (dsimp only; omega)))))).mono ?_)
  rintro _ _ ⟨rfl, x1, rfl⟩
  go_wp2_with fail
  (with_reducible refine (known_any _ (HT.out.of (by (repeat' (first | (with_reducible exact Below.refl _ _) | (with_reducible exact Nat.le_refl _) | (with_reducible refine Below.bel ?_ ?_) | (with_reducible refine Below.alloc ?_ ?_ _) | (with_reducible refine Below.drew ?_) | (with_reducible refine Below.drawsN ?_ _) | (with_reducible refine Below.setCell ?_ ?_ _) | (with_reducible refine le_bel ?_) | (with_reducible refine le_alloc ?_) | (with_reducible refine le_setCell ?_) | (with_reducible refine le_drew ?_) | (with_reducible refine le_drawsN ?_) | (dsimp only; with_reducible refine le_bel ?_) | (dsimp only; with_reducible refine Nat.le_refl _) | (dsimp only; with_reducible refine le_bel_add ?_) | (with_reducible assumption) | omega | (dsimp only; omega)))))).mono ?_)
  rintro _ _ ⟨rfl, x2, rfl⟩
  go_wp2
  go_ret
  exact Ret.mk (by rfl) (by (repeat' (first | (with_reducible exact Below.refl _ _) | (with_reducible exact Nat.le_refl _) | (with_reducible refine Below.bel ?_ ?_) | (with_reducible refine Below.alloc ?_ ?_ _) | (with_reducible refine Below.drew ?_) | (with_reducible refine Below.drawsN ?_ _) | (with_reducible refine Below.setCell ?_ ?_ _) | (with_reducible refine le_bel ?_) | (with_reducible refine le_alloc ?_) | (with_reducible refine le_setCell ?_) | (with_reducible refine le_drew ?_) | (with_reducible refine le_drawsN ?_) | (dsimp only; with_reducible refine le_bel ?_) | (dsimp only; with_reducible refine Nat.le_refl _) | (dsimp only; with_reducible refine le_bel_add ?_) | (with_reducible assumption) | omega | (dsimp only; omega))))
/-- The law, for any list of at most 42 ints. -/
theorem fractionValues_any (w : World) (b off cap : Nat) (zs : List Int) (hT : Tab w) (hx : Ints w b off zs) (h1 : zs.length ≤ 42) (hc : zs.length ≤ cap) : Calls Tryd.prog 5 #[.slice (some ⟨b, off, none⟩) zs.length cap] w (Ret (.bool true) w) := by
  have hxx : ∀ x : Bel w, Ints x.w b off zs := fun x i z hi => cell_keep x.below (hx i z hi)
  by_cases h0 : zs.length = 0
  · rw [h0]
    exact fractionValues_eq _ 0 0 0 13 w hT (by omega) (.inr ⟨_, _, rfl⟩) (fun x => (value_empty x.w _ (.inr ⟨_, _, rfl⟩)).1) (fun x => (value_empty x.w _ (.inr ⟨_, _, rfl⟩)).2)
  · by_cases h4 : 40 < zs.length
    · exact fractionValues_eq _ zs.length 0 0 4 w hT h1 (.inr ⟨_, _, rfl⟩) (fun x => (value_long x.w _ _ _ h4 (by omega)).1) (fun x => (value_long x.w _ _ _ h4 (by omega)).2)
    · exact fractionValues_eq _ zs.length _ _ _ w hT h1 (.inr ⟨_, _, rfl⟩) (fun x => value_any x.w b off cap zs (hxx x) (by omega) (by omega) hc) (fun x => refvalue_any x.w b off cap zs (hxx x) (by omega) (by omega))
end Go.Proofs.YtoncbkkhfblpdaaDoor
