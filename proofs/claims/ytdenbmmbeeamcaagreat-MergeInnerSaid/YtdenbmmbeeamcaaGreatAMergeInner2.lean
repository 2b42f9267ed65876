/- MergeInner: where no key has less than 0, the product of two stacks is not less than the sum of the products of what all keys have; where level 0 is exact it is just that. No condition: every input. -/
import Derived.Test.YtdenbmmbeeamcaaGreatAMergeInner1
import Derived.Test.YtdenbmmbeeamcaaGreatL10

/- MergeInner: where no key has less than 0, the product of two stacks is not less than the sum of the products of what all keys have; where level 0 is exact it is just that. No condition: every input. -/
namespace Go.Proofs.YtdenbmmbeeamcaaGreat
open Go.ChangeShapes Go.WideShapes Go.ChangeAt Go.RowKit
set_option maxRecDepth 100000
theorem mergeInner_f1 : (Rows.mergeInnerRow.inPlace == Tryz.prog.inPlace 14) = true := by kernel_rfl
theorem mergeInner_f2 : (Rows.mergeInnerRow.unfollowed == Tryz.prog.unfollowed 14) = true := by kernel_rfl
theorem mergeInner_f3 : (Rows.mergeInnerRow.recurses == Tryz.prog.recurses 14) = true := by kernel_rfl
theorem mergeInner_f4 : (Rows.mergeInnerRow.named == Tryz.prog.varsNamed 14) = true := by kernel_rfl
theorem mergeInner_closed : joinedFacts Tryz.prog 14 Tryz.f14 Rows.mergeInnerSpec Rows.mergeInnerRow = true := by
  unfold joinedFacts
  rw [mergeInner_f1, mergeInner_f2, mergeInner_f3, mergeInner_f4, seat_final, seat_enter, seat_make]
  kernel_rfl
/-- The statement. -/
theorem mergeInner_holds : Rows.MergeInnerSaid :=
  OpenClaim.holds_of_wide 14 Tryz.f14 rfl rfl rfl rfl rfl rfl rfl ⟨rfl, rfl, rfl, rfl, rfl⟩ rfl rfl rfl rfl rfl (by kernel_rfl) Tryz.func14 mergeInner_closed
    (of_decide_eq_true (by kernel_rfl)) (by unfold Func.isWrapper; first | (rw [if_pos (by decide +kernel)]; kernel_rfl) | (rw [if_neg (by decide +kernel)]; exact ⟨rfl, rfl⟩))
    (fun os started H enc _ => mergeInner_lifted os started H enc)
#print axioms mergeInner_holds
end Go.Proofs.YtdenbmmbeeamcaaGreat
