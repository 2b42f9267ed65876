/- SummaryHistogram: what the spans between cuts have is what the document says, of raw updates. No condition: every input. -/
import Derived.Test.YtfhdjekpdifajaaGreatDSummaryHistogram13
import Derived.Test.YtfhdjekpdifajaaGreatDSummaryHistogram14
namespace Go.Proofs.YtfhdjekpdifajaaGreat
open Go.ChangeShapes Go.WideShapes Go.ChangeAt Go.RowKit
set_option maxRecDepth 100000
theorem summaryHistogram_f1 : (Rows.summaryHistogramRow.inPlace == Tryz.prog.inPlace 9) = true := by kernel_rfl
theorem summaryHistogram_f2 : (Rows.summaryHistogramRow.unfollowed == Tryz.prog.unfollowed 9) = true := by kernel_rfl
theorem summaryHistogram_f3 : (Rows.summaryHistogramRow.recurses == Tryz.prog.recurses 9) = true := by kernel_rfl
theorem summaryHistogram_f4 : (Rows.summaryHistogramRow.named == Tryz.prog.varsNamed 9) = true := by kernel_rfl
theorem summaryHistogram_closed : joinedFacts Tryz.prog 9 Tryz.f9 Rows.summaryHistogramSpec Rows.summaryHistogramRow = true := by
  unfold joinedFacts
  rw [summaryHistogram_f1, summaryHistogram_f2, summaryHistogram_f3, summaryHistogram_f4, seat_final, seat_enter, seat_make]
  kernel_rfl
/-- The statement. -/
theorem summaryHistogram_holds : Rows.SummaryHistogramSaid :=
  OpenClaim.holds_of_wide 9 Tryz.f9 rfl rfl rfl rfl rfl rfl rfl ⟨rfl, rfl, rfl, rfl, rfl⟩ rfl rfl rfl rfl rfl (by kernel_rfl) Tryz.func9 summaryHistogram_closed
    (of_decide_eq_true (by kernel_rfl)) (by unfold Func.isWrapper; first | (rw [if_pos (by decide +kernel)]; kernel_rfl) | (rw [if_neg (by decide +kernel)]; exact ⟨rfl, rfl⟩))
    (fun os started H enc _ => summaryHistogram_lifted os started H enc)
#print axioms summaryHistogram_holds
end Go.Proofs.YtfhdjekpdifajaaGreat
