/- SpanTells: what a span, its parts and a rank are told is what the document says, of raw updates. No condition: every input. -/
import Derived.Test.YteoblkcbemeamaaGreatASpanTells1
import Derived.Test.YteoblkcbemeamaaGreatL11

/- SpanTells: what a span, its parts and a rank are told is what the document says, of raw updates. No condition: every input. -/
namespace Go.Proofs.YteoblkcbemeamaaGreat
open Go.ChangeShapes Go.WideShapes Go.ChangeAt Go.RowKit
set_option maxRecDepth 100000
theorem spanTells_f1 : (Rows.spanTellsRow.inPlace == Tryz.prog.inPlace 4) = true := by kernel_rfl
theorem spanTells_f2 : (Rows.spanTellsRow.unfollowed == Tryz.prog.unfollowed 4) = true := by kernel_rfl
theorem spanTells_f3 : (Rows.spanTellsRow.recurses == Tryz.prog.recurses 4) = true := by kernel_rfl
theorem spanTells_f4 : (Rows.spanTellsRow.named == Tryz.prog.varsNamed 4) = true := by kernel_rfl
theorem spanTells_closed : joinedFacts Tryz.prog 4 Tryz.f4 Rows.spanTellsSpec Rows.spanTellsRow = true := by
  unfold joinedFacts
  rw [spanTells_f1, spanTells_f2, spanTells_f3, spanTells_f4, seat_final, seat_enter, seat_make]
  kernel_rfl
/-- The statement. -/
theorem spanTells_holds : Rows.SpanTellsSaid :=
  OpenClaim.holds_of_wide 4 Tryz.f4 rfl rfl rfl rfl rfl rfl rfl ⟨rfl, rfl, rfl, rfl, rfl⟩ rfl rfl rfl rfl rfl (by kernel_rfl) Tryz.func4 spanTells_closed
    (of_decide_eq_true (by kernel_rfl)) (by unfold Func.isWrapper; first | (rw [if_pos (by decide +kernel)]; kernel_rfl) | (rw [if_neg (by decide +kernel)]; exact ⟨rfl, rfl⟩))
    (fun os started H enc _ => spanTells_lifted os started H enc)
#print axioms spanTells_holds
end Go.Proofs.YteoblkcbemeamaaGreat
