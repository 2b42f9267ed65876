/- LevelUnlike: levels that are not of one config and number are not put together, and have no product; they stay as they were. No condition: every input. -/
import Derived.Test.YtpnbgoahjoabkaaALevelUnlike1
import Derived.Test.YtpnbgoahjoabkaaL11

/- LevelUnlike: levels that are not of one config and number are not put together, and have no product; they stay as they were. No condition: every input. -/
namespace Go.Proofs.Ytpnbgoahjoabkaa
open Go.ChangeShapes Go.WideShapes Go.ChangeAt Go.RowKit
set_option maxRecDepth 100000
theorem levelUnlike_f1 : (Rows.levelUnlikeRow.inPlace == Try.prog.inPlace 22) = true := by kernel_rfl
theorem levelUnlike_f2 : (Rows.levelUnlikeRow.unfollowed == Try.prog.unfollowed 22) = true := by kernel_rfl
theorem levelUnlike_f3 : (Rows.levelUnlikeRow.recurses == Try.prog.recurses 22) = true := by kernel_rfl
theorem levelUnlike_f4 : (Rows.levelUnlikeRow.named == Try.prog.varsNamed 22) = true := by kernel_rfl
theorem levelUnlike_closed : joinedFacts Try.prog 22 Try.f22 Rows.levelUnlikeSpec Rows.levelUnlikeRow = true := by
  unfold joinedFacts
  rw [levelUnlike_f1, levelUnlike_f2, levelUnlike_f3, levelUnlike_f4, seat_final, seat_enter, seat_make]
  kernel_rfl
/-- The statement. -/
theorem levelUnlike_holds : Rows.LevelUnlikeSaid :=
  OpenClaim.holds_of_wide 22 Try.f22 rfl rfl rfl rfl rfl rfl rfl ⟨rfl, rfl, rfl, rfl, rfl⟩ rfl rfl rfl rfl rfl (by kernel_rfl) Try.func22 levelUnlike_closed
    (of_decide_eq_true (by kernel_rfl)) (by unfold Func.isWrapper; first | (rw [if_pos (by decide +kernel)]; kernel_rfl) | (rw [if_neg (by decide +kernel)]; exact ⟨rfl, rfl⟩))
    (fun os started H enc _ => levelUnlike_lifted os started H enc)
#print axioms levelUnlike_holds
end Go.Proofs.Ytpnbgoahjoabkaa
