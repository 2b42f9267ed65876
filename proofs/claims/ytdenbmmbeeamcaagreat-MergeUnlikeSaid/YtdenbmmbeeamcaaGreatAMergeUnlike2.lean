/- MergeUnlike: stacks of unlike configs are not put together and have no product, and stay as they were; neither are they with none. No condition: every input. -/
import Derived.Test.YtdenbmmbeeamcaaGreatAMergeUnlike1
import Derived.Test.YtdenbmmbeeamcaaGreatL10

/- MergeUnlike: stacks of unlike configs are not put together and have no product, and stay as they were; neither are they with none. No condition: every input. -/
namespace Go.Proofs.YtdenbmmbeeamcaaGreat
open Go.ChangeShapes Go.WideShapes Go.ChangeAt Go.RowKit
set_option maxRecDepth 100000
theorem mergeUnlike_f1 : (Rows.mergeUnlikeRow.inPlace == Tryz.prog.inPlace 17) = true := by kernel_rfl
theorem mergeUnlike_f2 : (Rows.mergeUnlikeRow.unfollowed == Tryz.prog.unfollowed 17) = true := by kernel_rfl
theorem mergeUnlike_f3 : (Rows.mergeUnlikeRow.recurses == Tryz.prog.recurses 17) = true := by kernel_rfl
theorem mergeUnlike_f4 : (Rows.mergeUnlikeRow.named == Tryz.prog.varsNamed 17) = true := by kernel_rfl
theorem mergeUnlike_closed : joinedFacts Tryz.prog 17 Tryz.f17 Rows.mergeUnlikeSpec Rows.mergeUnlikeRow = true := by
  unfold joinedFacts
  rw [mergeUnlike_f1, mergeUnlike_f2, mergeUnlike_f3, mergeUnlike_f4, seat_final, seat_enter, seat_make]
  kernel_rfl
/-- The statement. -/
theorem mergeUnlike_holds : Rows.MergeUnlikeSaid :=
  OpenClaim.holds_of_wide 17 Tryz.f17 rfl rfl rfl rfl rfl rfl rfl ⟨rfl, rfl, rfl, rfl, rfl⟩ rfl rfl rfl rfl rfl (by kernel_rfl) Tryz.func17 mergeUnlike_closed
    (of_decide_eq_true (by kernel_rfl)) (by unfold Func.isWrapper; first | (rw [if_pos (by decide +kernel)]; kernel_rfl) | (rw [if_neg (by decide +kernel)]; exact ⟨rfl, rfl⟩))
    (fun os started H enc _ => mergeUnlike_lifted os started H enc)
#print axioms mergeUnlike_holds
end Go.Proofs.YtdenbmmbeeamcaaGreat
