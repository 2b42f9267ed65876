/- SummaryRanks: many ranks' keys are what the document says, of raw updates. No condition: every input. -/
import Derived.Test.YtfhdjekpdifajaaGreatDSummaryRanks12
import Derived.Test.YtfhdjekpdifajaaGreatDSummaryRanks13
namespace Go.Proofs.YtfhdjekpdifajaaGreat
open Go.ChangeShapes Go.WideShapes Go.ChangeAt Go.RowKit
set_option maxRecDepth 100000
theorem summaryRanks_f1 : (Rows.summaryRanksRow.inPlace == Tryz.prog.inPlace 8) = true := by kernel_rfl
theorem summaryRanks_f2 : (Rows.summaryRanksRow.unfollowed == Tryz.prog.unfollowed 8) = true := by kernel_rfl
theorem summaryRanks_f3 : (Rows.summaryRanksRow.recurses == Tryz.prog.recurses 8) = true := by kernel_rfl
theorem summaryRanks_f4 : (Rows.summaryRanksRow.named == Tryz.prog.varsNamed 8) = true := by kernel_rfl
theorem summaryRanks_closed : joinedFacts Tryz.prog 8 Tryz.f8 Rows.summaryRanksSpec Rows.summaryRanksRow = true := by
  unfold joinedFacts
  rw [summaryRanks_f1, summaryRanks_f2, summaryRanks_f3, summaryRanks_f4, seat_final, seat_enter, seat_make]
  kernel_rfl
/-- The statement. -/
theorem summaryRanks_holds : Rows.SummaryRanksSaid :=
  OpenClaim.holds_of_wide 8 Tryz.f8 rfl rfl rfl rfl rfl rfl rfl ⟨rfl, rfl, rfl, rfl, rfl⟩ rfl rfl rfl rfl rfl (by kernel_rfl) Tryz.func8 summaryRanks_closed
    (of_decide_eq_true (by kernel_rfl)) (by unfold Func.isWrapper; first | (rw [if_pos (by decide +kernel)]; kernel_rfl) | (rw [if_neg (by decide +kernel)]; exact ⟨rfl, rfl⟩))
    (fun os started H enc _ => summaryRanks_lifted os started H enc)
#print axioms summaryRanks_holds
end Go.Proofs.YtfhdjekpdifajaaGreat
