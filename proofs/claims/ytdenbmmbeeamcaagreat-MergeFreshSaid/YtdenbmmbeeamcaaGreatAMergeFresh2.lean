/- MergeFresh: in the modes Linear and Median a merged stack is the one that was fed all, whichever is merged into which; a subtracted one is fed the other's turned round. No condition: every input. -/
import Derived.Test.YtdenbmmbeeamcaaGreatAMergeFresh1
import Derived.Test.YtdenbmmbeeamcaaGreatL10

/- MergeFresh: in the modes Linear and Median a merged stack is the one that was fed all, whichever is merged into which; a subtracted one is fed the other's turned round. No condition: every input. -/
namespace Go.Proofs.YtdenbmmbeeamcaaGreat
open Go.ChangeShapes Go.WideShapes Go.ChangeAt Go.RowKit
set_option maxRecDepth 100000
theorem mergeFresh_f1 : (Rows.mergeFreshRow.inPlace == Tryz.prog.inPlace 15) = true := by kernel_rfl
theorem mergeFresh_f2 : (Rows.mergeFreshRow.unfollowed == Tryz.prog.unfollowed 15) = true := by kernel_rfl
theorem mergeFresh_f3 : (Rows.mergeFreshRow.recurses == Tryz.prog.recurses 15) = true := by kernel_rfl
theorem mergeFresh_f4 : (Rows.mergeFreshRow.named == Tryz.prog.varsNamed 15) = true := by kernel_rfl
theorem mergeFresh_closed : joinedFacts Tryz.prog 15 Tryz.f15 Rows.mergeFreshSpec Rows.mergeFreshRow = true := by
  unfold joinedFacts
  rw [mergeFresh_f1, mergeFresh_f2, mergeFresh_f3, mergeFresh_f4, seat_final, seat_enter, seat_make]
  kernel_rfl
/-- The statement. -/
theorem mergeFresh_holds : Rows.MergeFreshSaid :=
  OpenClaim.holds_of_wide 15 Tryz.f15 rfl rfl rfl rfl rfl rfl rfl ⟨rfl, rfl, rfl, rfl, rfl⟩ rfl rfl rfl rfl rfl (by kernel_rfl) Tryz.func15 mergeFresh_closed
    (of_decide_eq_true (by kernel_rfl)) (by unfold Func.isWrapper; first | (rw [if_pos (by decide +kernel)]; kernel_rfl) | (rw [if_neg (by decide +kernel)]; exact ⟨rfl, rfl⟩))
    (fun os started H enc _ => mergeFresh_lifted os started H enc)
#print axioms mergeFresh_holds
end Go.Proofs.YtdenbmmbeeamcaaGreat
