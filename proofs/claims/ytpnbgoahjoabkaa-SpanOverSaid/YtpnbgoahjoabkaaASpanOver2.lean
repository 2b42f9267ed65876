/- SpanOver: where no key has less than 0, no span is told less than it has, in the modes Linear and Conservative. No condition: every input. -/
import Derived.Test.YtpnbgoahjoabkaaASpanOver1
import Derived.Test.YtpnbgoahjoabkaaL11

/- SpanOver: where no key has less than 0, no span is told less than it has, in the modes Linear and Conservative. No condition: every input. -/
namespace Go.Proofs.Ytpnbgoahjoabkaa
open Go.ChangeShapes Go.WideShapes Go.ChangeAt Go.RowKit
set_option maxRecDepth 100000
theorem spanOver_f1 : (Rows.spanOverRow.inPlace == Try.prog.inPlace 13) = true := by kernel_rfl
theorem spanOver_f2 : (Rows.spanOverRow.unfollowed == Try.prog.unfollowed 13) = true := by kernel_rfl
theorem spanOver_f3 : (Rows.spanOverRow.recurses == Try.prog.recurses 13) = true := by kernel_rfl
theorem spanOver_f4 : (Rows.spanOverRow.named == Try.prog.varsNamed 13) = true := by kernel_rfl
theorem spanOver_closed : joinedFacts Try.prog 13 Try.f13 Rows.spanOverSpec Rows.spanOverRow = true := by
  unfold joinedFacts
  rw [spanOver_f1, spanOver_f2, spanOver_f3, spanOver_f4, seat_final, seat_enter, seat_make]
  kernel_rfl
/-- The statement. -/
theorem spanOver_holds : Rows.SpanOverSaid :=
  OpenClaim.holds_of_wide 13 Try.f13 rfl rfl rfl rfl rfl rfl rfl ⟨rfl, rfl, rfl, rfl, rfl⟩ rfl rfl rfl rfl rfl (by kernel_rfl) Try.func13 spanOver_closed
    (of_decide_eq_true (by kernel_rfl)) (by unfold Func.isWrapper; first | (rw [if_pos (by decide +kernel)]; kernel_rfl) | (rw [if_neg (by decide +kernel)]; exact ⟨rfl, rfl⟩))
    (fun os started H enc _ => spanOver_lifted os started H enc)
#print axioms spanOver_holds
end Go.Proofs.Ytpnbgoahjoabkaa
