/- StackOver: where no key has less than 0, no prefix is told less than it has, in the modes Linear and Conservative. No condition: every input. -/
import Derived.Test.YtpnbgoahjoabkaaAStackOver8

/- StackOver: where no key has less than 0, no prefix is told less than it has, in the modes Linear and Conservative. No condition: every input. -/
namespace Go.Proofs.Ytpnbgoahjoabkaa
open Go.ChangeShapes Go.WideShapes Go.ChangeAt Go.RowKit
set_option maxRecDepth 100000
theorem stackOver_f1 : (Rows.stackOverRow.inPlace == Try.prog.inPlace 7) = true := by kernel_rfl
theorem stackOver_f2 : (Rows.stackOverRow.unfollowed == Try.prog.unfollowed 7) = true := by kernel_rfl
theorem stackOver_f3 : (Rows.stackOverRow.recurses == Try.prog.recurses 7) = true := by kernel_rfl
theorem stackOver_f4 : (Rows.stackOverRow.named == Try.prog.varsNamed 7) = true := by kernel_rfl
theorem stackOver_closed : joinedFacts Try.prog 7 Try.f7 Rows.stackOverSpec Rows.stackOverRow = true := by
  unfold joinedFacts
  rw [stackOver_f1, stackOver_f2, stackOver_f3, stackOver_f4, seat_final, seat_enter, seat_make]
  kernel_rfl
/-- The statement. -/
theorem stackOver_holds : Rows.StackOverSaid :=
  OpenClaim.holds_of_wide 7 Try.f7 rfl rfl rfl rfl rfl rfl rfl ⟨rfl, rfl, rfl, rfl, rfl⟩ rfl rfl rfl rfl rfl (by kernel_rfl) Try.func7 stackOver_closed
    (of_decide_eq_true (by kernel_rfl)) (by unfold Func.isWrapper; first | (rw [if_pos (by decide +kernel)]; kernel_rfl) | (rw [if_neg (by decide +kernel)]; exact ⟨rfl, rfl⟩))
    (fun os started H enc _ => stackOver_lifted os started H enc)
#print axioms stackOver_holds
end Go.Proofs.Ytpnbgoahjoabkaa
