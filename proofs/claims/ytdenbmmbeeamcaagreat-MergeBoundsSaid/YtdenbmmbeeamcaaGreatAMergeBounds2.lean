/- MergeBounds: in the mode Conservative, behind any updates and a merge, no prefix is told less than it has, nor more than in the mode Linear behind the same. No condition: every input. -/
import Derived.Test.YtdenbmmbeeamcaaGreatAMergeBounds1
import Derived.Test.YtdenbmmbeeamcaaGreatL10

/- MergeBounds: in the mode Conservative, behind any updates and a merge, no prefix is told less than it has, nor more than in the mode Linear behind the same. No condition: every input. -/
namespace Go.Proofs.YtdenbmmbeeamcaaGreat
open Go.ChangeShapes Go.WideShapes Go.ChangeAt Go.RowKit
set_option maxRecDepth 100000
theorem mergeBounds_f1 : (Rows.mergeBoundsRow.inPlace == Tryz.prog.inPlace 18) = true := by kernel_rfl
theorem mergeBounds_f2 : (Rows.mergeBoundsRow.unfollowed == Tryz.prog.unfollowed 18) = true := by kernel_rfl
theorem mergeBounds_f3 : (Rows.mergeBoundsRow.recurses == Tryz.prog.recurses 18) = true := by kernel_rfl
theorem mergeBounds_f4 : (Rows.mergeBoundsRow.named == Tryz.prog.varsNamed 18) = true := by kernel_rfl
theorem mergeBounds_closed : joinedFacts Tryz.prog 18 Tryz.f18 Rows.mergeBoundsSpec Rows.mergeBoundsRow = true := by
  unfold joinedFacts
  rw [mergeBounds_f1, mergeBounds_f2, mergeBounds_f3, mergeBounds_f4, seat_final, seat_enter, seat_make]
  kernel_rfl
/-- The statement. -/
theorem mergeBounds_holds : Rows.MergeBoundsSaid :=
  OpenClaim.holds_of_wide 18 Tryz.f18 rfl rfl rfl rfl rfl rfl rfl ⟨rfl, rfl, rfl, rfl, rfl⟩ rfl rfl rfl rfl rfl (by kernel_rfl) Tryz.func18 mergeBounds_closed
    (of_decide_eq_true (by kernel_rfl)) (by unfold Func.isWrapper; first | (rw [if_pos (by decide +kernel)]; kernel_rfl) | (rw [if_neg (by decide +kernel)]; exact ⟨rfl, rfl⟩))
    (fun os started H enc _ => mergeBounds_lifted os started H enc)
#print axioms mergeBounds_holds
end Go.Proofs.YtdenbmmbeeamcaaGreat
