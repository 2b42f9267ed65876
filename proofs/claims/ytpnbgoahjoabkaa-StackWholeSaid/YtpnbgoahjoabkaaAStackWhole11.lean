/- StackWhole: an update that is refused changes nothing at any level; a copy is a stack of its own, and so is a level that is told. No condition: every input. -/
import Derived.Test.YtpnbgoahjoabkaaAStackWhole10

/- StackWhole: an update that is refused changes nothing at any level; a copy is a stack of its own, and so is a level that is told. No condition: every input. -/
namespace Go.Proofs.Ytpnbgoahjoabkaa
open Go.ChangeShapes Go.WideShapes Go.ChangeAt Go.RowKit
set_option maxRecDepth 100000
theorem stackWhole_f1 : (Rows.stackWholeRow.inPlace == Try.prog.inPlace 10) = true := by kernel_rfl
theorem stackWhole_f2 : (Rows.stackWholeRow.unfollowed == Try.prog.unfollowed 10) = true := by kernel_rfl
theorem stackWhole_f3 : (Rows.stackWholeRow.recurses == Try.prog.recurses 10) = true := by kernel_rfl
theorem stackWhole_f4 : (Rows.stackWholeRow.named == Try.prog.varsNamed 10) = true := by kernel_rfl
theorem stackWhole_closed : joinedFacts Try.prog 10 Try.f10 Rows.stackWholeSpec Rows.stackWholeRow = true := by
  unfold joinedFacts
  rw [stackWhole_f1, stackWhole_f2, stackWhole_f3, stackWhole_f4, seat_final, seat_enter, seat_make]
  kernel_rfl
/-- The statement. -/
theorem stackWhole_holds : Rows.StackWholeSaid :=
  OpenClaim.holds_of_wide 10 Try.f10 rfl rfl rfl rfl rfl rfl rfl ⟨rfl, rfl, rfl, rfl, rfl⟩ rfl rfl rfl rfl rfl (by kernel_rfl) Try.func10 stackWhole_closed
    (of_decide_eq_true (by kernel_rfl)) (by unfold Func.isWrapper; first | (rw [if_pos (by decide +kernel)]; kernel_rfl) | (rw [if_neg (by decide +kernel)]; exact ⟨rfl, rfl⟩))
    (fun os started H enc _ => stackWhole_lifted os started H enc)
#print axioms stackWhole_holds
end Go.Proofs.Ytpnbgoahjoabkaa
