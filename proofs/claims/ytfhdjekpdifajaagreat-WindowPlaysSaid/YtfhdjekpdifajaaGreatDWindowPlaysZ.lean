/- WindowPlays: a window is changed, and ticks, as the document says. No condition: every input. -/
import Derived.Test.YtfhdjekpdifajaaGreatDWindowPlays11
import Derived.Test.YtfhdjekpdifajaaGreatDWindowPlays12
namespace Go.Proofs.YtfhdjekpdifajaaGreat
open Go.ChangeShapes Go.WideShapes Go.ChangeAt Go.RowKit
set_option maxRecDepth 100000
theorem windowPlays_f1 : (Rows.windowPlaysRow.inPlace == Tryz.prog.inPlace 6) = true := by kernel_rfl
theorem windowPlays_f2 : (Rows.windowPlaysRow.unfollowed == Tryz.prog.unfollowed 6) = true := by kernel_rfl
theorem windowPlays_f3 : (Rows.windowPlaysRow.recurses == Tryz.prog.recurses 6) = true := by kernel_rfl
theorem windowPlays_f4 : (Rows.windowPlaysRow.named == Tryz.prog.varsNamed 6) = true := by kernel_rfl
theorem windowPlays_closed : joinedFacts Tryz.prog 6 Tryz.f6 Rows.windowPlaysSpec Rows.windowPlaysRow = true := by
  unfold joinedFacts
  rw [windowPlays_f1, windowPlays_f2, windowPlays_f3, windowPlays_f4, seat_final, seat_enter, seat_make]
  kernel_rfl
/-- The statement. -/
theorem windowPlays_holds : Rows.WindowPlaysSaid :=
  OpenClaim.holds_of_wide 6 Tryz.f6 rfl rfl rfl rfl rfl rfl rfl ⟨rfl, rfl, rfl, rfl, rfl⟩ rfl rfl rfl rfl rfl (by kernel_rfl) Tryz.func6 windowPlays_closed
    (of_decide_eq_true (by kernel_rfl)) (by unfold Func.isWrapper; first | (rw [if_pos (by decide +kernel)]; kernel_rfl) | (rw [if_neg (by decide +kernel)]; exact ⟨rfl, rfl⟩))
    (fun os started H enc _ => windowPlays_lifted os started H enc)
#print axioms windowPlays_holds
end Go.Proofs.YtfhdjekpdifajaaGreat
