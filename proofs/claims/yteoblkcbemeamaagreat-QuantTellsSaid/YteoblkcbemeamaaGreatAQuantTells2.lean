/- QuantTells: the key of a rank, and the way to it, are what the document says, of raw updates. No condition: every input. -/
import Derived.Test.YteoblkcbemeamaaGreatAQuantTells1
import Derived.Test.YteoblkcbemeamaaGreatL11

/- QuantTells: the key of a rank, and the way to it, are what the document says, of raw updates. No condition: every input. -/
namespace Go.Proofs.YteoblkcbemeamaaGreat
open Go.ChangeShapes Go.WideShapes Go.ChangeAt Go.RowKit
set_option maxRecDepth 100000
theorem quantTells_f1 : (Rows.quantTellsRow.inPlace == Tryz.prog.inPlace 5) = true := by kernel_rfl
theorem quantTells_f2 : (Rows.quantTellsRow.unfollowed == Tryz.prog.unfollowed 5) = true := by kernel_rfl
theorem quantTells_f3 : (Rows.quantTellsRow.recurses == Tryz.prog.recurses 5) = true := by kernel_rfl
theorem quantTells_f4 : (Rows.quantTellsRow.named == Tryz.prog.varsNamed 5) = true := by kernel_rfl
theorem quantTells_closed : joinedFacts Tryz.prog 5 Tryz.f5 Rows.quantTellsSpec Rows.quantTellsRow = true := by
  unfold joinedFacts
  rw [quantTells_f1, quantTells_f2, quantTells_f3, quantTells_f4, seat_final, seat_enter, seat_make]
  kernel_rfl
/-- The statement. -/
theorem quantTells_holds : Rows.QuantTellsSaid :=
  OpenClaim.holds_of_wide 5 Tryz.f5 rfl rfl rfl rfl rfl rfl rfl ⟨rfl, rfl, rfl, rfl, rfl⟩ rfl rfl rfl rfl rfl (by kernel_rfl) Tryz.func5 quantTells_closed
    (of_decide_eq_true (by kernel_rfl)) (by unfold Func.isWrapper; first | (rw [if_pos (by decide +kernel)]; kernel_rfl) | (rw [if_neg (by decide +kernel)]; exact ⟨rfl, rfl⟩))
    (fun os started H enc _ => quantTells_lifted os started H enc)
#print axioms quantTells_holds
end Go.Proofs.YteoblkcbemeamaaGreat
