/- LevelJoins: merged, two levels are one that was fed all, but in the mode Conservative; subtracted again, the first one. No condition: every input. -/
import Derived.Test.YtpnbgoahjoabkaaALevelJoins1
import Derived.Test.YtpnbgoahjoabkaaL11

/- LevelJoins: merged, two levels are one that was fed all, but in the mode Conservative; subtracted again, the first one. No condition: every input. -/
namespace Go.Proofs.Ytpnbgoahjoabkaa
open Go.ChangeShapes Go.WideShapes Go.ChangeAt Go.RowKit
set_option maxRecDepth 100000
theorem levelJoins_f1 : (Rows.levelJoinsRow.inPlace == Try.prog.inPlace 23) = true := by kernel_rfl
theorem levelJoins_f2 : (Rows.levelJoinsRow.unfollowed == Try.prog.unfollowed 23) = true := by kernel_rfl
theorem levelJoins_f3 : (Rows.levelJoinsRow.recurses == Try.prog.recurses 23) = true := by kernel_rfl
theorem levelJoins_f4 : (Rows.levelJoinsRow.named == Try.prog.varsNamed 23) = true := by kernel_rfl
theorem levelJoins_closed : joinedFacts Try.prog 23 Try.f23 Rows.levelJoinsSpec Rows.levelJoinsRow = true := by
  unfold joinedFacts
  rw [levelJoins_f1, levelJoins_f2, levelJoins_f3, levelJoins_f4, seat_final, seat_enter, seat_make]
  kernel_rfl
/-- The statement. -/
theorem levelJoins_holds : Rows.LevelJoinsSaid :=
  OpenClaim.holds_of_wide 23 Try.f23 rfl rfl rfl rfl rfl rfl rfl ⟨rfl, rfl, rfl, rfl, rfl⟩ rfl rfl rfl rfl rfl (by kernel_rfl) Try.func23 levelJoins_closed
    (of_decide_eq_true (by kernel_rfl)) (by unfold Func.isWrapper; first | (rw [if_pos (by decide +kernel)]; kernel_rfl) | (rw [if_neg (by decide +kernel)]; exact ⟨rfl, rfl⟩))
    (fun os started H enc _ => levelJoins_lifted os started H enc)
#print axioms levelJoins_holds
end Go.Proofs.Ytpnbgoahjoabkaa
