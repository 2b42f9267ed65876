/- SpanExact: where all levels are exact a span is told just what it has, in every mode; all keys have Total. No condition: every input. -/
import Derived.Test.YtpnbgoahjoabkaaASpanExact1
import Derived.Test.YtpnbgoahjoabkaaL11

/- SpanExact: where all levels are exact a span is told just what it has, in every mode; all keys have Total. No condition: every input. -/
namespace Go.Proofs.Ytpnbgoahjoabkaa
open Go.ChangeShapes Go.WideShapes Go.ChangeAt Go.RowKit
set_option maxRecDepth 100000
theorem spanExact_f1 : (Rows.spanExactRow.inPlace == Try.prog.inPlace 19) = true := by kernel_rfl
theorem spanExact_f2 : (Rows.spanExactRow.unfollowed == Try.prog.unfollowed 19) = true := by kernel_rfl
theorem spanExact_f3 : (Rows.spanExactRow.recurses == Try.prog.recurses 19) = true := by kernel_rfl
theorem spanExact_f4 : (Rows.spanExactRow.named == Try.prog.varsNamed 19) = true := by kernel_rfl
theorem spanExact_closed : joinedFacts Try.prog 19 Try.f19 Rows.spanExactSpec Rows.spanExactRow = true := by
  unfold joinedFacts
  rw [spanExact_f1, spanExact_f2, spanExact_f3, spanExact_f4, seat_final, seat_enter, seat_make]
  kernel_rfl
/-- The statement. -/
theorem spanExact_holds : Rows.SpanExactSaid :=
  OpenClaim.holds_of_wide 19 Try.f19 rfl rfl rfl rfl rfl rfl rfl ⟨rfl, rfl, rfl, rfl, rfl⟩ rfl rfl rfl rfl rfl (by kernel_rfl) Try.func19 spanExact_closed
    (of_decide_eq_true (by kernel_rfl)) (by unfold Func.isWrapper; first | (rw [if_pos (by decide +kernel)]; kernel_rfl) | (rw [if_neg (by decide +kernel)]; exact ⟨rfl, rfl⟩))
    (fun os started H enc _ => spanExact_lifted os started H enc)
#print axioms spanExact_holds
end Go.Proofs.Ytpnbgoahjoabkaa
