/- The known power and comparison. -/
import Derived.Test.YteglfhmmkoahfaaGreatDoorM20
import Derived.Test.YteglfhmmkoahfaaGreatDoorM15
namespace Go.Proofs.YteglfhmmkoahfaaGreatDoor
open Go.RowKit Go.Shelf

theorem nat_text (n : Nat) : iT (n : Int) = Lib.decDigits n := by rw [iT_pos (by omega), Int.natAbs_natCast]
theorem iT_531441 : iT 531441 = [53, 51, 49, 52, 52, 49] := by
  rw [show (531441 : Int) = ((531441 : Nat) : Int) from rfl, nat_text, dec_big (by decide), dec_big (by decide), dec_big (by decide), dec_big (by decide), dec_big (by decide), dec_small (by decide)]
  rfl
theorem iT_524288 : iT 524288 = [53, 50, 52, 50, 56, 56] := by
  rw [show (524288 : Int) = ((524288 : Nat) : Int) from rfl, nat_text, dec_big (by decide), dec_big (by decide), dec_big (by decide), dec_big (by decide), dec_big (by decide), dec_small (by decide)]
  rfl
theorem nd_3 : nd 3 = 1 := by unfold nd; rw [show Int.natAbs 3 = 3 from rfl, dec_small (by decide)]; rfl
theorem nd_len (z : Int) (h : 0 ≤ z) : nd z = (iT z).length := by unfold nd; rw [iT_pos (by omega)]
theorem known_pow (w : World) (hT : Tab w) : Calls Tryz.prog 20 #[.string ⟨#[51]⟩, .int .i64 12] w (Ret (.tuple #[.string ⟨#[53, 51, 49, 52, 52, 49]⟩, .int .i64 0]) w) := by
  have h := power_any 3 12 w (by rw [nd_3]; decide) (by decide) (by rw [nd_3]; decide) hT
  rw [show (3 : Int) ^ 12 = 531441 by decide, iT_3, iT_531441] at h
  exact h
theorem known_cmp (w : World) : Calls Tryz.prog 13 #[.string ⟨#[53, 51, 49, 52, 52, 49]⟩, .string ⟨#[53, 50, 52, 50, 56, 56]⟩] w (Ret (.int .i64 1) w) := by
  have h := compareI_any 531441 524288 w (by rw [nd_len _ (by decide), iT_531441]; decide) (by rw [nd_len _ (by decide), iT_524288]; decide)
  rw [show cmpI 531441 524288 = 1 by decide, iT_531441, iT_524288] at h
  exact h
end Go.Proofs.YteglfhmmkoahfaaGreatDoor
