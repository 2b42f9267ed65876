/- StackSums: in the modes Linear and Median each cell of each level is the sum of what all keys have whose column it is there; of an exact level the sum of what its keys have. No condition: every input. -/
import Derived.Test.YtpnbgoahjoabkaaAStackSums10

/- StackSums: in the modes Linear and Median each cell of each level is the sum of what all keys have whose column it is there; of an exact level the sum of what its keys have. No condition: every input. -/
namespace Go.Proofs.Ytpnbgoahjoabkaa
open Go.ChangeShapes Go.WideShapes Go.ChangeAt Go.RowKit
set_option maxRecDepth 100000
theorem stackSums_f1 : (Rows.stackSumsRow.inPlace == Try.prog.inPlace 5) = true := by kernel_rfl
theorem stackSums_f2 : (Rows.stackSumsRow.unfollowed == Try.prog.unfollowed 5) = true := by kernel_rfl
theorem stackSums_f3 : (Rows.stackSumsRow.recurses == Try.prog.recurses 5) = true := by kernel_rfl
theorem stackSums_f4 : (Rows.stackSumsRow.named == Try.prog.varsNamed 5) = true := by kernel_rfl
theorem stackSums_closed : joinedFacts Try.prog 5 Try.f5 Rows.stackSumsSpec Rows.stackSumsRow = true := by
  unfold joinedFacts
  rw [stackSums_f1, stackSums_f2, stackSums_f3, stackSums_f4, seat_final, seat_enter, seat_make]
  kernel_rfl
/-- The statement. -/
theorem stackSums_holds : Rows.StackSumsSaid :=
  OpenClaim.holds_of_wide 5 Try.f5 rfl rfl rfl rfl rfl rfl rfl ⟨rfl, rfl, rfl, rfl, rfl⟩ rfl rfl rfl rfl rfl (by kernel_rfl) Try.func5 stackSums_closed
    (of_decide_eq_true (by kernel_rfl)) (by unfold Func.isWrapper; first | (rw [if_pos (by decide +kernel)]; kernel_rfl) | (rw [if_neg (by decide +kernel)]; exact ⟨rfl, rfl⟩))
    (fun os started H enc _ => stackSums_lifted os started H enc)
#print axioms stackSums_holds
end Go.Proofs.Ytpnbgoahjoabkaa
