/- SpanWhole: in every mode all keys have Total, and one key what Point tells. No condition: every input. -/
import Derived.Test.YtpnbgoahjoabkaaASpanWhole1
import Derived.Test.YtpnbgoahjoabkaaL11

/- SpanWhole: in every mode all keys have Total, and one key what Point tells. No condition: every input. -/
namespace Go.Proofs.Ytpnbgoahjoabkaa
open Go.ChangeShapes Go.WideShapes Go.ChangeAt Go.RowKit
set_option maxRecDepth 100000
theorem spanWhole_f1 : (Rows.spanWholeRow.inPlace == Try.prog.inPlace 20) = true := by kernel_rfl
theorem spanWhole_f2 : (Rows.spanWholeRow.unfollowed == Try.prog.unfollowed 20) = true := by kernel_rfl
theorem spanWhole_f3 : (Rows.spanWholeRow.recurses == Try.prog.recurses 20) = true := by kernel_rfl
theorem spanWhole_f4 : (Rows.spanWholeRow.named == Try.prog.varsNamed 20) = true := by kernel_rfl
theorem spanWhole_closed : joinedFacts Try.prog 20 Try.f20 Rows.spanWholeSpec Rows.spanWholeRow = true := by
  unfold joinedFacts
  rw [spanWhole_f1, spanWhole_f2, spanWhole_f3, spanWhole_f4, seat_final, seat_enter, seat_make]
  kernel_rfl
/-- The statement. -/
theorem spanWhole_holds : Rows.SpanWholeSaid :=
  OpenClaim.holds_of_wide 20 Try.f20 rfl rfl rfl rfl rfl rfl rfl ⟨rfl, rfl, rfl, rfl, rfl⟩ rfl rfl rfl rfl rfl (by kernel_rfl) Try.func20 spanWhole_closed
    (of_decide_eq_true (by kernel_rfl)) (by unfold Func.isWrapper; first | (rw [if_pos (by decide +kernel)]; kernel_rfl) | (rw [if_neg (by decide +kernel)]; exact ⟨rfl, rfl⟩))
    (fun os started H enc _ => spanWhole_lifted os started H enc)
#print axioms spanWhole_holds
end Go.Proofs.Ytpnbgoahjoabkaa
