/- WindowEmpty: behind as many ticks as there are buckets, without updates between, nothing is left. No condition: every input. -/
import Derived.Test.YteoblkcbemeamaaGreatAWindowEmpty1
import Derived.Test.YteoblkcbemeamaaGreatL11

/- WindowEmpty: behind as many ticks as there are buckets, without updates between, nothing is left. No condition: every input. -/
namespace Go.Proofs.YteoblkcbemeamaaGreat
open Go.ChangeShapes Go.WideShapes Go.ChangeAt Go.RowKit
set_option maxRecDepth 100000
theorem windowEmpty_f1 : (Rows.windowEmptyRow.inPlace == Tryz.prog.inPlace 10) = true := by kernel_rfl
theorem windowEmpty_f2 : (Rows.windowEmptyRow.unfollowed == Tryz.prog.unfollowed 10) = true := by kernel_rfl
theorem windowEmpty_f3 : (Rows.windowEmptyRow.recurses == Tryz.prog.recurses 10) = true := by kernel_rfl
theorem windowEmpty_f4 : (Rows.windowEmptyRow.named == Tryz.prog.varsNamed 10) = true := by kernel_rfl
theorem windowEmpty_closed : joinedFacts Tryz.prog 10 Tryz.f10 Rows.windowEmptySpec Rows.windowEmptyRow = true := by
  unfold joinedFacts
  rw [windowEmpty_f1, windowEmpty_f2, windowEmpty_f3, windowEmpty_f4, seat_final, seat_enter, seat_make]
  kernel_rfl
/-- The statement. -/
theorem windowEmpty_holds : Rows.WindowEmptySaid :=
  OpenClaim.holds_of_wide 10 Tryz.f10 rfl rfl rfl rfl rfl rfl rfl ⟨rfl, rfl, rfl, rfl, rfl⟩ rfl rfl rfl rfl rfl (by kernel_rfl) Tryz.func10 windowEmpty_closed
    (of_decide_eq_true (by kernel_rfl)) (by unfold Func.isWrapper; first | (rw [if_pos (by decide +kernel)]; kernel_rfl) | (rw [if_neg (by decide +kernel)]; exact ⟨rfl, rfl⟩))
    (fun os started H enc _ => windowEmpty_lifted os started H enc)
#print axioms windowEmpty_holds
end Go.Proofs.YteoblkcbemeamaaGreat
