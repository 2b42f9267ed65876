/- SummaryExact: where all levels are exact the spans between cuts have, taken together, Total, and each just what its keys have. No condition: every input. -/
import Derived.Test.YtfhdjekpdifajaaGreatDSummaryExact9
import Derived.Test.YtfhdjekpdifajaaGreatDSummaryExact10
namespace Go.Proofs.YtfhdjekpdifajaaGreat
open Go.ChangeShapes Go.WideShapes Go.ChangeAt Go.RowKit
set_option maxRecDepth 100000
theorem summaryExact_f1 : (Rows.summaryExactRow.inPlace == Tryz.prog.inPlace 12) = true := by kernel_rfl
theorem summaryExact_f2 : (Rows.summaryExactRow.unfollowed == Tryz.prog.unfollowed 12) = true := by kernel_rfl
theorem summaryExact_f3 : (Rows.summaryExactRow.recurses == Tryz.prog.recurses 12) = true := by kernel_rfl
theorem summaryExact_f4 : (Rows.summaryExactRow.named == Tryz.prog.varsNamed 12) = true := by kernel_rfl
theorem summaryExact_closed : joinedFacts Tryz.prog 12 Tryz.f12 Rows.summaryExactSpec Rows.summaryExactRow = true := by
  unfold joinedFacts
  rw [summaryExact_f1, summaryExact_f2, summaryExact_f3, summaryExact_f4, seat_final, seat_enter, seat_make]
  kernel_rfl
/-- The statement. -/
theorem summaryExact_holds : Rows.SummaryExactSaid :=
  OpenClaim.holds_of_wide 12 Tryz.f12 rfl rfl rfl rfl rfl rfl rfl ⟨rfl, rfl, rfl, rfl, rfl⟩ rfl rfl rfl rfl rfl (by kernel_rfl) Tryz.func12 summaryExact_closed
    (of_decide_eq_true (by kernel_rfl)) (by unfold Func.isWrapper; first | (rw [if_pos (by decide +kernel)]; kernel_rfl) | (rw [if_neg (by decide +kernel)]; exact ⟨rfl, rfl⟩))
    (fun os started H enc _ => summaryExact_lifted os started H enc)
#print axioms summaryExact_holds
end Go.Proofs.YtfhdjekpdifajaaGreat
