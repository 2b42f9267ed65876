/- MergeGroups: in the modes Linear and Median the merging of three parts is the same however the parts are grouped; and what is taken away again leaves what was there before. No condition: every input. -/
import Derived.Test.YtdenbmmbeeamcaaGreatAMergeGroups1
import Derived.Test.YtdenbmmbeeamcaaGreatL10

/- MergeGroups: in the modes Linear and Median the merging of three parts is the same however the parts are grouped; and what is taken away again leaves what was there before. No condition: every input. -/
namespace Go.Proofs.YtdenbmmbeeamcaaGreat
open Go.ChangeShapes Go.WideShapes Go.ChangeAt Go.RowKit
set_option maxRecDepth 100000
theorem mergeGroups_f1 : (Rows.mergeGroupsRow.inPlace == Tryz.prog.inPlace 16) = true := by kernel_rfl
theorem mergeGroups_f2 : (Rows.mergeGroupsRow.unfollowed == Tryz.prog.unfollowed 16) = true := by kernel_rfl
theorem mergeGroups_f3 : (Rows.mergeGroupsRow.recurses == Tryz.prog.recurses 16) = true := by kernel_rfl
theorem mergeGroups_f4 : (Rows.mergeGroupsRow.named == Tryz.prog.varsNamed 16) = true := by kernel_rfl
theorem mergeGroups_closed : joinedFacts Tryz.prog 16 Tryz.f16 Rows.mergeGroupsSpec Rows.mergeGroupsRow = true := by
  unfold joinedFacts
  rw [mergeGroups_f1, mergeGroups_f2, mergeGroups_f3, mergeGroups_f4, seat_final, seat_enter, seat_make]
  kernel_rfl
/-- The statement. -/
theorem mergeGroups_holds : Rows.MergeGroupsSaid :=
  OpenClaim.holds_of_wide 16 Tryz.f16 rfl rfl rfl rfl rfl rfl rfl ⟨rfl, rfl, rfl, rfl, rfl⟩ rfl rfl rfl rfl rfl (by kernel_rfl) Tryz.func16 mergeGroups_closed
    (of_decide_eq_true (by kernel_rfl)) (by unfold Func.isWrapper; first | (rw [if_pos (by decide +kernel)]; kernel_rfl) | (rw [if_neg (by decide +kernel)]; exact ⟨rfl, rfl⟩))
    (fun os started H enc _ => mergeGroups_lifted os started H enc)
#print axioms mergeGroups_holds
end Go.Proofs.YtdenbmmbeeamcaaGreat
