/- LevelPlays: two levels of a config are changed, merged, loaded, multiplied and asked as the document says. No condition: every input. -/
import Derived.Test.YtfhdjekpdifajaaGreatDLevelPlays12
import Derived.Test.YtfhdjekpdifajaaGreatDLevelPlays13
namespace Go.Proofs.YtfhdjekpdifajaaGreat
open Go.ChangeShapes Go.WideShapes Go.ChangeAt Go.RowKit
set_option maxRecDepth 100000
theorem levelPlays_f1 : (Rows.levelPlaysRow.inPlace == Tryz.prog.inPlace 5) = true := by kernel_rfl
theorem levelPlays_f2 : (Rows.levelPlaysRow.unfollowed == Tryz.prog.unfollowed 5) = true := by kernel_rfl
theorem levelPlays_f3 : (Rows.levelPlaysRow.recurses == Tryz.prog.recurses 5) = true := by kernel_rfl
theorem levelPlays_f4 : (Rows.levelPlaysRow.named == Tryz.prog.varsNamed 5) = true := by kernel_rfl
theorem levelPlays_closed : joinedFacts Tryz.prog 5 Tryz.f5 Rows.levelPlaysSpec Rows.levelPlaysRow = true := by
  unfold joinedFacts
  rw [levelPlays_f1, levelPlays_f2, levelPlays_f3, levelPlays_f4, seat_final, seat_enter, seat_make]
  kernel_rfl
/-- The statement. -/
theorem levelPlays_holds : Rows.LevelPlaysSaid :=
  OpenClaim.holds_of_wide 5 Tryz.f5 rfl rfl rfl rfl rfl rfl rfl ⟨rfl, rfl, rfl, rfl, rfl⟩ rfl rfl rfl rfl rfl (by kernel_rfl) Tryz.func5 levelPlays_closed
    (of_decide_eq_true (by kernel_rfl)) (by unfold Func.isWrapper; first | (rw [if_pos (by decide +kernel)]; kernel_rfl) | (rw [if_neg (by decide +kernel)]; exact ⟨rfl, rfl⟩))
    (fun os started H enc _ => levelPlays_lifted os started H enc)
#print axioms levelPlays_holds
end Go.Proofs.YtfhdjekpdifajaaGreat
