/- SummaryTop: the keys that have most are what the document says, of raw updates. No condition: every input. -/
import Derived.Test.YtfhdjekpdifajaaGreatDSummaryTop13
import Derived.Test.YtfhdjekpdifajaaGreatDSummaryTop14
namespace Go.Proofs.YtfhdjekpdifajaaGreat
open Go.ChangeShapes Go.WideShapes Go.ChangeAt Go.RowKit
set_option maxRecDepth 100000
theorem summaryTop_f1 : (Rows.summaryTopRow.inPlace == Tryz.prog.inPlace 10) = true := by kernel_rfl
theorem summaryTop_f2 : (Rows.summaryTopRow.unfollowed == Tryz.prog.unfollowed 10) = true := by kernel_rfl
theorem summaryTop_f3 : (Rows.summaryTopRow.recurses == Tryz.prog.recurses 10) = true := by kernel_rfl
theorem summaryTop_f4 : (Rows.summaryTopRow.named == Tryz.prog.varsNamed 10) = true := by kernel_rfl
theorem summaryTop_closed : joinedFacts Tryz.prog 10 Tryz.f10 Rows.summaryTopSpec Rows.summaryTopRow = true := by
  unfold joinedFacts
  rw [summaryTop_f1, summaryTop_f2, summaryTop_f3, summaryTop_f4, seat_final, seat_enter, seat_make]
  kernel_rfl
/-- The statement. -/
theorem summaryTop_holds : Rows.SummaryTopSaid :=
  OpenClaim.holds_of_wide 10 Tryz.f10 rfl rfl rfl rfl rfl rfl rfl ⟨rfl, rfl, rfl, rfl, rfl⟩ rfl rfl rfl rfl rfl (by kernel_rfl) Tryz.func10 summaryTop_closed
    (of_decide_eq_true (by kernel_rfl)) (by unfold Func.isWrapper; first | (rw [if_pos (by decide +kernel)]; kernel_rfl) | (rw [if_neg (by decide +kernel)]; exact ⟨rfl, rfl⟩))
    (fun os started H enc _ => summaryTop_lifted os started H enc)
#print axioms summaryTop_holds
end Go.Proofs.YtfhdjekpdifajaaGreat
