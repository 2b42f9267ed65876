/- WindowLast: the sum is the stack that was fed just the updates since as many ticks as there are buckets. No condition: every input. -/
import Derived.Test.YteoblkcbemeamaaGreatAWindowLast1
import Derived.Test.YteoblkcbemeamaaGreatL11

/- WindowLast: the sum is the stack that was fed just the updates since as many ticks as there are buckets. No condition: every input. -/
namespace Go.Proofs.YteoblkcbemeamaaGreat
open Go.ChangeShapes Go.WideShapes Go.ChangeAt Go.RowKit
set_option maxRecDepth 100000
theorem windowLast_f1 : (Rows.windowLastRow.inPlace == Tryz.prog.inPlace 9) = true := by kernel_rfl
theorem windowLast_f2 : (Rows.windowLastRow.unfollowed == Tryz.prog.unfollowed 9) = true := by kernel_rfl
theorem windowLast_f3 : (Rows.windowLastRow.recurses == Tryz.prog.recurses 9) = true := by kernel_rfl
theorem windowLast_f4 : (Rows.windowLastRow.named == Tryz.prog.varsNamed 9) = true := by kernel_rfl
theorem windowLast_closed : joinedFacts Tryz.prog 9 Tryz.f9 Rows.windowLastSpec Rows.windowLastRow = true := by
  unfold joinedFacts
  rw [windowLast_f1, windowLast_f2, windowLast_f3, windowLast_f4, seat_final, seat_enter, seat_make]
  kernel_rfl
/-- The statement. -/
theorem windowLast_holds : Rows.WindowLastSaid :=
  OpenClaim.holds_of_wide 9 Tryz.f9 rfl rfl rfl rfl rfl rfl rfl ⟨rfl, rfl, rfl, rfl, rfl⟩ rfl rfl rfl rfl rfl (by kernel_rfl) Tryz.func9 windowLast_closed
    (of_decide_eq_true (by kernel_rfl)) (by unfold Func.isWrapper; first | (rw [if_pos (by decide +kernel)]; kernel_rfl) | (rw [if_neg (by decide +kernel)]; exact ⟨rfl, rfl⟩))
    (fun os started H enc _ => windowLast_lifted os started H enc)
#print axioms windowLast_holds
end Go.Proofs.YteoblkcbemeamaaGreat
