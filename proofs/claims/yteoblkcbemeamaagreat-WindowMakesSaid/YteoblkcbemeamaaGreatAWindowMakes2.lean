/- WindowMakes: there is a window just of a right config, Linear, and from one to sixteen buckets. No condition: every input. -/
import Derived.Test.YteoblkcbemeamaaGreatAWindowMakes1
import Derived.Test.YteoblkcbemeamaaGreatL11

/- WindowMakes: there is a window just of a right config, Linear, and from one to sixteen buckets. No condition: every input. -/
namespace Go.Proofs.YteoblkcbemeamaaGreat
open Go.ChangeShapes Go.WideShapes Go.ChangeAt Go.RowKit
set_option maxRecDepth 100000
theorem windowMakes_f1 : (Rows.windowMakesRow.inPlace == Tryz.prog.inPlace 8) = true := by kernel_rfl
theorem windowMakes_f2 : (Rows.windowMakesRow.unfollowed == Tryz.prog.unfollowed 8) = true := by kernel_rfl
theorem windowMakes_f3 : (Rows.windowMakesRow.recurses == Tryz.prog.recurses 8) = true := by kernel_rfl
theorem windowMakes_f4 : (Rows.windowMakesRow.named == Tryz.prog.varsNamed 8) = true := by kernel_rfl
theorem windowMakes_closed : joinedFacts Tryz.prog 8 Tryz.f8 Rows.windowMakesSpec Rows.windowMakesRow = true := by
  unfold joinedFacts
  rw [windowMakes_f1, windowMakes_f2, windowMakes_f3, windowMakes_f4, seat_final, seat_enter, seat_make]
  kernel_rfl
/-- The statement. -/
theorem windowMakes_holds : Rows.WindowMakesSaid :=
  OpenClaim.holds_of_wide 8 Tryz.f8 rfl rfl rfl rfl rfl rfl rfl ⟨rfl, rfl, rfl, rfl, rfl⟩ rfl rfl rfl rfl rfl (by kernel_rfl) Tryz.func8 windowMakes_closed
    (of_decide_eq_true (by kernel_rfl)) (by unfold Func.isWrapper; first | (rw [if_pos (by decide +kernel)]; kernel_rfl) | (rw [if_neg (by decide +kernel)]; exact ⟨rfl, rfl⟩))
    (fun os started H enc _ => windowMakes_lifted os started H enc)
#print axioms windowMakes_holds
end Go.Proofs.YteoblkcbemeamaaGreat
