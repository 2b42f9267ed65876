/- SummaryEach: many answers are those of each, one by one. No condition: every input. -/
import Derived.Test.YtfhdjekpdifajaaGreatDSummaryEach9
import Derived.Test.YtfhdjekpdifajaaGreatDSummaryEach10
namespace Go.Proofs.YtfhdjekpdifajaaGreat
open Go.ChangeShapes Go.WideShapes Go.ChangeAt Go.RowKit
set_option maxRecDepth 100000
theorem summaryEach_f1 : (Rows.summaryEachRow.inPlace == Tryz.prog.inPlace 11) = true := by kernel_rfl
theorem summaryEach_f2 : (Rows.summaryEachRow.unfollowed == Tryz.prog.unfollowed 11) = true := by kernel_rfl
theorem summaryEach_f3 : (Rows.summaryEachRow.recurses == Tryz.prog.recurses 11) = true := by kernel_rfl
theorem summaryEach_f4 : (Rows.summaryEachRow.named == Tryz.prog.varsNamed 11) = true := by kernel_rfl
theorem summaryEach_closed : joinedFacts Tryz.prog 11 Tryz.f11 Rows.summaryEachSpec Rows.summaryEachRow = true := by
  unfold joinedFacts
  rw [summaryEach_f1, summaryEach_f2, summaryEach_f3, summaryEach_f4, seat_final, seat_enter, seat_make]
  kernel_rfl
/-- The statement. -/
theorem summaryEach_holds : Rows.SummaryEachSaid :=
  OpenClaim.holds_of_wide 11 Tryz.f11 rfl rfl rfl rfl rfl rfl rfl ⟨rfl, rfl, rfl, rfl, rfl⟩ rfl rfl rfl rfl rfl (by kernel_rfl) Tryz.func11 summaryEach_closed
    (of_decide_eq_true (by kernel_rfl)) (by unfold Func.isWrapper; first | (rw [if_pos (by decide +kernel)]; kernel_rfl) | (rw [if_neg (by decide +kernel)]; exact ⟨rfl, rfl⟩))
    (fun os started H enc _ => summaryEach_lifted os started H enc)
#print axioms summaryEach_holds
end Go.Proofs.YtfhdjekpdifajaaGreat
