/- SpanFar: a span whose parts have too much has no answer, and one whose parts make up for each other has. No condition: every input. -/
import Derived.Test.YtpnbgoahjoabkaaASpanFar1
import Derived.Test.YtpnbgoahjoabkaaL11

/- SpanFar: a span whose parts have too much has no answer, and one whose parts make up for each other has. No condition: every input. -/
namespace Go.Proofs.Ytpnbgoahjoabkaa
open Go.ChangeShapes Go.WideShapes Go.ChangeAt Go.RowKit
set_option maxRecDepth 100000
theorem spanFar_f1 : (Rows.spanFarRow.inPlace == Try.prog.inPlace 21) = true := by kernel_rfl
theorem spanFar_f2 : (Rows.spanFarRow.unfollowed == Try.prog.unfollowed 21) = true := by kernel_rfl
theorem spanFar_f3 : (Rows.spanFarRow.recurses == Try.prog.recurses 21) = true := by kernel_rfl
theorem spanFar_f4 : (Rows.spanFarRow.named == Try.prog.varsNamed 21) = true := by kernel_rfl
theorem spanFar_closed : joinedFacts Try.prog 21 Try.f21 Rows.spanFarSpec Rows.spanFarRow = true := by
  unfold joinedFacts
  rw [spanFar_f1, spanFar_f2, spanFar_f3, spanFar_f4, seat_final, seat_enter, seat_make]
  kernel_rfl
/-- The statement. -/
theorem spanFar_holds : Rows.SpanFarSaid :=
  OpenClaim.holds_of_wide 21 Try.f21 rfl rfl rfl rfl rfl rfl rfl ⟨rfl, rfl, rfl, rfl, rfl⟩ rfl rfl rfl rfl rfl (by kernel_rfl) Try.func21 spanFar_closed
    (of_decide_eq_true (by kernel_rfl)) (by unfold Func.isWrapper; first | (rw [if_pos (by decide +kernel)]; kernel_rfl) | (rw [if_neg (by decide +kernel)]; exact ⟨rfl, rfl⟩))
    (fun os started H enc _ => spanFar_lifted os started H enc)
#print axioms spanFar_holds
end Go.Proofs.Ytpnbgoahjoabkaa
