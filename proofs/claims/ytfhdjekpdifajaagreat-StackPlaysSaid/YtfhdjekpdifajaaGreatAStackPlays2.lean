/- StackPlays: a stack is changed, and asked, as the document says. No condition: every input. -/
import Derived.Test.YtfhdjekpdifajaaGreatAStackPlays1
import Derived.Test.YtfhdjekpdifajaaGreatL14

/- StackPlays: a stack is changed, and asked, as the document says. No condition: every input. -/
namespace Go.Proofs.YtfhdjekpdifajaaGreat
open Go.ChangeShapes Go.WideShapes Go.ChangeAt Go.RowKit
set_option maxRecDepth 100000
theorem stackPlays_f1 : (Rows.stackPlaysRow.inPlace == Tryz.prog.inPlace 3) = true := by kernel_rfl
theorem stackPlays_f2 : (Rows.stackPlaysRow.unfollowed == Tryz.prog.unfollowed 3) = true := by kernel_rfl
theorem stackPlays_f3 : (Rows.stackPlaysRow.recurses == Tryz.prog.recurses 3) = true := by kernel_rfl
theorem stackPlays_f4 : (Rows.stackPlaysRow.named == Tryz.prog.varsNamed 3) = true := by kernel_rfl
theorem stackPlays_closed : joinedFacts Tryz.prog 3 Tryz.f3 Rows.stackPlaysSpec Rows.stackPlaysRow = true := by
  unfold joinedFacts
  rw [stackPlays_f1, stackPlays_f2, stackPlays_f3, stackPlays_f4, seat_final, seat_enter, seat_make]
  kernel_rfl
/-- The statement. -/
theorem stackPlays_holds : Rows.StackPlaysSaid :=
  OpenClaim.holds_of_wide 3 Tryz.f3 rfl rfl rfl rfl rfl rfl rfl ⟨rfl, rfl, rfl, rfl, rfl⟩ rfl rfl rfl rfl rfl (by kernel_rfl) Tryz.func3 stackPlays_closed
    (of_decide_eq_true (by kernel_rfl)) (by unfold Func.isWrapper; first | (rw [if_pos (by decide +kernel)]; kernel_rfl) | (rw [if_neg (by decide +kernel)]; exact ⟨rfl, rfl⟩))
    (fun os started H enc _ => stackPlays_lifted os started H enc)
#print axioms stackPlays_holds
end Go.Proofs.YtfhdjekpdifajaaGreat
