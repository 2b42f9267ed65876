/- StackTotal: Total is the sum of all that was added, in every mode; exact levels tell what their keys have. No condition: every input. -/
import Derived.Test.YtpnbgoahjoabkaaAStackTotal8

/- StackTotal: Total is the sum of all that was added, in every mode; exact levels tell what their keys have. No condition: every input. -/
namespace Go.Proofs.Ytpnbgoahjoabkaa
open Go.ChangeShapes Go.WideShapes Go.ChangeAt Go.RowKit
set_option maxRecDepth 100000
theorem stackTotal_f1 : (Rows.stackTotalRow.inPlace == Try.prog.inPlace 6) = true := by kernel_rfl
theorem stackTotal_f2 : (Rows.stackTotalRow.unfollowed == Try.prog.unfollowed 6) = true := by kernel_rfl
theorem stackTotal_f3 : (Rows.stackTotalRow.recurses == Try.prog.recurses 6) = true := by kernel_rfl
theorem stackTotal_f4 : (Rows.stackTotalRow.named == Try.prog.varsNamed 6) = true := by kernel_rfl
theorem stackTotal_closed : joinedFacts Try.prog 6 Try.f6 Rows.stackTotalSpec Rows.stackTotalRow = true := by
  unfold joinedFacts
  rw [stackTotal_f1, stackTotal_f2, stackTotal_f3, stackTotal_f4, seat_final, seat_enter, seat_make]
  kernel_rfl
/-- The statement. -/
theorem stackTotal_holds : Rows.StackTotalSaid :=
  OpenClaim.holds_of_wide 6 Try.f6 rfl rfl rfl rfl rfl rfl rfl ⟨rfl, rfl, rfl, rfl, rfl⟩ rfl rfl rfl rfl rfl (by kernel_rfl) Try.func6 stackTotal_closed
    (of_decide_eq_true (by kernel_rfl)) (by unfold Func.isWrapper; first | (rw [if_pos (by decide +kernel)]; kernel_rfl) | (rw [if_neg (by decide +kernel)]; exact ⟨rfl, rfl⟩))
    (fun os started H enc _ => stackTotal_lifted os started H enc)
#print axioms stackTotal_holds
end Go.Proofs.Ytpnbgoahjoabkaa
