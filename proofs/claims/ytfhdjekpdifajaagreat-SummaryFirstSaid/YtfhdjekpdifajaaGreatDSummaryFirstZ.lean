/- SummaryFirst: the first ones of more are the same as of fewer; they fall; all are keys that Heavy tells. No condition: every input. -/
import Derived.Test.YtfhdjekpdifajaaGreatDSummaryFirst10
import Derived.Test.YtfhdjekpdifajaaGreatDSummaryFirst11
namespace Go.Proofs.YtfhdjekpdifajaaGreat
open Go.ChangeShapes Go.WideShapes Go.ChangeAt Go.RowKit
set_option maxRecDepth 100000
theorem summaryFirst_f1 : (Rows.summaryFirstRow.inPlace == Tryz.prog.inPlace 13) = true := by kernel_rfl
theorem summaryFirst_f2 : (Rows.summaryFirstRow.unfollowed == Tryz.prog.unfollowed 13) = true := by kernel_rfl
theorem summaryFirst_f3 : (Rows.summaryFirstRow.recurses == Tryz.prog.recurses 13) = true := by kernel_rfl
theorem summaryFirst_f4 : (Rows.summaryFirstRow.named == Tryz.prog.varsNamed 13) = true := by kernel_rfl
theorem summaryFirst_closed : joinedFacts Tryz.prog 13 Tryz.f13 Rows.summaryFirstSpec Rows.summaryFirstRow = true := by
  unfold joinedFacts
  rw [summaryFirst_f1, summaryFirst_f2, summaryFirst_f3, summaryFirst_f4, seat_final, seat_enter, seat_make]
  kernel_rfl
/-- The statement. -/
theorem summaryFirst_holds : Rows.SummaryFirstSaid :=
  OpenClaim.holds_of_wide 13 Tryz.f13 rfl rfl rfl rfl rfl rfl rfl ⟨rfl, rfl, rfl, rfl, rfl⟩ rfl rfl rfl rfl rfl (by kernel_rfl) Tryz.func13 summaryFirst_closed
    (of_decide_eq_true (by kernel_rfl)) (by unfold Func.isWrapper; first | (rw [if_pos (by decide +kernel)]; kernel_rfl) | (rw [if_neg (by decide +kernel)]; exact ⟨rfl, rfl⟩))
    (fun os started H enc _ => summaryFirst_lifted os started H enc)
#print axioms summaryFirst_holds
end Go.Proofs.YtfhdjekpdifajaaGreat
