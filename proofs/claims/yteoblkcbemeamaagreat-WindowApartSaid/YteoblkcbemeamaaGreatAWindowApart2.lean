/- WindowApart: what Sum tells is a stack of its own; a copy is a window of its own; an update that is refused changes neither the sum, nor what a tick leaves. No condition: every input. -/
import Derived.Test.YteoblkcbemeamaaGreatAWindowApart1
import Derived.Test.YteoblkcbemeamaaGreatL11

/- WindowApart: what Sum tells is a stack of its own; a copy is a window of its own; an update that is refused changes neither the sum, nor what a tick leaves. No condition: every input. -/
namespace Go.Proofs.YteoblkcbemeamaaGreat
open Go.ChangeShapes Go.WideShapes Go.ChangeAt Go.RowKit
set_option maxRecDepth 100000
theorem windowApart_f1 : (Rows.windowApartRow.inPlace == Tryz.prog.inPlace 12) = true := by kernel_rfl
theorem windowApart_f2 : (Rows.windowApartRow.unfollowed == Tryz.prog.unfollowed 12) = true := by kernel_rfl
theorem windowApart_f3 : (Rows.windowApartRow.recurses == Tryz.prog.recurses 12) = true := by kernel_rfl
theorem windowApart_f4 : (Rows.windowApartRow.named == Tryz.prog.varsNamed 12) = true := by kernel_rfl
theorem windowApart_closed : joinedFacts Tryz.prog 12 Tryz.f12 Rows.windowApartSpec Rows.windowApartRow = true := by
  unfold joinedFacts
  rw [windowApart_f1, windowApart_f2, windowApart_f3, windowApart_f4, seat_final, seat_enter, seat_make]
  kernel_rfl
/-- The statement. -/
theorem windowApart_holds : Rows.WindowApartSaid :=
  OpenClaim.holds_of_wide 12 Tryz.f12 rfl rfl rfl rfl rfl rfl rfl ⟨rfl, rfl, rfl, rfl, rfl⟩ rfl rfl rfl rfl rfl (by kernel_rfl) Tryz.func12 windowApart_closed
    (of_decide_eq_true (by kernel_rfl)) (by unfold Func.isWrapper; first | (rw [if_pos (by decide +kernel)]; kernel_rfl) | (rw [if_neg (by decide +kernel)]; exact ⟨rfl, rfl⟩))
    (fun os started H enc _ => windowApart_lifted os started H enc)
#print axioms windowApart_holds
end Go.Proofs.YteoblkcbemeamaaGreat
