/- StackOrder: in the modes Linear and Median it does not matter in which order updates are made. No condition: every input. -/
import Derived.Test.YtpnbgoahjoabkaaAStackOrder10

/- StackOrder: in the modes Linear and Median it does not matter in which order updates are made. No condition: every input. -/
namespace Go.Proofs.Ytpnbgoahjoabkaa
open Go.ChangeShapes Go.WideShapes Go.ChangeAt Go.RowKit
set_option maxRecDepth 100000
theorem stackOrder_f1 : (Rows.stackOrderRow.inPlace == Try.prog.inPlace 8) = true := by kernel_rfl
theorem stackOrder_f2 : (Rows.stackOrderRow.unfollowed == Try.prog.unfollowed 8) = true := by kernel_rfl
theorem stackOrder_f3 : (Rows.stackOrderRow.recurses == Try.prog.recurses 8) = true := by kernel_rfl
theorem stackOrder_f4 : (Rows.stackOrderRow.named == Try.prog.varsNamed 8) = true := by kernel_rfl
theorem stackOrder_closed : joinedFacts Try.prog 8 Try.f8 Rows.stackOrderSpec Rows.stackOrderRow = true := by
  unfold joinedFacts
  rw [stackOrder_f1, stackOrder_f2, stackOrder_f3, stackOrder_f4, seat_final, seat_enter, seat_make]
  kernel_rfl
/-- The statement. -/
theorem stackOrder_holds : Rows.StackOrderSaid :=
  OpenClaim.holds_of_wide 8 Try.f8 rfl rfl rfl rfl rfl rfl rfl ⟨rfl, rfl, rfl, rfl, rfl⟩ rfl rfl rfl rfl rfl (by kernel_rfl) Try.func8 stackOrder_closed
    (of_decide_eq_true (by kernel_rfl)) (by unfold Func.isWrapper; first | (rw [if_pos (by decide +kernel)]; kernel_rfl) | (rw [if_neg (by decide +kernel)]; exact ⟨rfl, rfl⟩))
    (fun os started H enc _ => stackOrder_lifted os started H enc)
#print axioms stackOrder_holds
end Go.Proofs.Ytpnbgoahjoabkaa
