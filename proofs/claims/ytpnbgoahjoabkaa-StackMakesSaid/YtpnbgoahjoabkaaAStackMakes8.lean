/- StackMakes: there is a stack just of a right config; it has the levels from 0 to Bits. No condition: every input. -/
import Derived.Test.YtpnbgoahjoabkaaAStackMakes7

/- StackMakes: there is a stack just of a right config; it has the levels from 0 to Bits. No condition: every input. -/
namespace Go.Proofs.Ytpnbgoahjoabkaa
open Go.ChangeShapes Go.WideShapes Go.ChangeAt Go.RowKit
set_option maxRecDepth 100000
theorem stackMakes_f1 : (Rows.stackMakesRow.inPlace == Try.prog.inPlace 9) = true := by kernel_rfl
theorem stackMakes_f2 : (Rows.stackMakesRow.unfollowed == Try.prog.unfollowed 9) = true := by kernel_rfl
theorem stackMakes_f3 : (Rows.stackMakesRow.recurses == Try.prog.recurses 9) = true := by kernel_rfl
theorem stackMakes_f4 : (Rows.stackMakesRow.named == Try.prog.varsNamed 9) = true := by kernel_rfl
theorem stackMakes_closed : joinedFacts Try.prog 9 Try.f9 Rows.stackMakesSpec Rows.stackMakesRow = true := by
  unfold joinedFacts
  rw [stackMakes_f1, stackMakes_f2, stackMakes_f3, stackMakes_f4, seat_final, seat_enter, seat_make]
  kernel_rfl
/-- The statement. -/
theorem stackMakes_holds : Rows.StackMakesSaid :=
  OpenClaim.holds_of_wide 9 Try.f9 rfl rfl rfl rfl rfl rfl rfl ⟨rfl, rfl, rfl, rfl, rfl⟩ rfl rfl rfl rfl rfl (by kernel_rfl) Try.func9 stackMakes_closed
    (of_decide_eq_true (by kernel_rfl)) (by unfold Func.isWrapper; first | (rw [if_pos (by decide +kernel)]; kernel_rfl) | (rw [if_neg (by decide +kernel)]; exact ⟨rfl, rfl⟩))
    (fun os started H enc _ => stackMakes_lifted os started H enc)
#print axioms stackMakes_holds
end Go.Proofs.Ytpnbgoahjoabkaa
