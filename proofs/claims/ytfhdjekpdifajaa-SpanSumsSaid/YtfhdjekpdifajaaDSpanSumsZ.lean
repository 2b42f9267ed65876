/- SpanSums: in the mode Linear a span has, over its pieces, what their keys have, and the least sums of what others have in their columns. No condition: every input. -/
import Derived.Test.YtfhdjekpdifajaaDSpanSums6
import Derived.Test.YtfhdjekpdifajaaDSpanSums7
namespace Go.Proofs.Ytfhdjekpdifajaa
open Go.ChangeShapes Go.WideShapes Go.ChangeAt Go.RowKit
set_option maxRecDepth 100000
theorem spanSums_f1 : (Rows.spanSumsRow.inPlace == Try.prog.inPlace 3) = true := by kernel_rfl
theorem spanSums_f2 : (Rows.spanSumsRow.unfollowed == Try.prog.unfollowed 3) = true := by kernel_rfl
theorem spanSums_f3 : (Rows.spanSumsRow.recurses == Try.prog.recurses 3) = true := by kernel_rfl
theorem spanSums_f4 : (Rows.spanSumsRow.named == Try.prog.varsNamed 3) = true := by kernel_rfl
theorem spanSums_closed : joinedFacts Try.prog 3 Try.f3 Rows.spanSumsSpec Rows.spanSumsRow = true := by
  unfold joinedFacts
  rw [spanSums_f1, spanSums_f2, spanSums_f3, spanSums_f4, seat_final, seat_enter, seat_make]
  kernel_rfl
/-- The statement. -/
theorem spanSums_holds : Rows.SpanSumsSaid :=
  OpenClaim.holds_of_wide 3 Try.f3 rfl rfl rfl rfl rfl rfl rfl ⟨rfl, rfl, rfl, rfl, rfl⟩ rfl rfl rfl rfl rfl (by kernel_rfl) Try.func3 spanSums_closed
    (of_decide_eq_true (by kernel_rfl)) (by unfold Func.isWrapper; first | (rw [if_pos (by decide +kernel)]; kernel_rfl) | (rw [if_neg (by decide +kernel)]; exact ⟨rfl, rfl⟩))
    (fun os started H enc _ => spanSums_lifted os started H enc)
#print axioms spanSums_holds
end Go.Proofs.Ytfhdjekpdifajaa
