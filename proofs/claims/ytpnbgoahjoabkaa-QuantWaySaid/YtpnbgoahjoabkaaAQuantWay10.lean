/- QuantWay: the way goes from all keys to the answer, each time to one of the halves. No condition: every input. -/
import Derived.Test.YtpnbgoahjoabkaaAQuantWay9

/- QuantWay: the way goes from all keys to the answer, each time to one of the halves. No condition: every input. -/
namespace Go.Proofs.Ytpnbgoahjoabkaa
open Go.ChangeShapes Go.WideShapes Go.ChangeAt Go.RowKit
set_option maxRecDepth 100000
theorem quantWay_f1 : (Rows.quantWayRow.inPlace == Try.prog.inPlace 17) = true := by kernel_rfl
theorem quantWay_f2 : (Rows.quantWayRow.unfollowed == Try.prog.unfollowed 17) = true := by kernel_rfl
theorem quantWay_f3 : (Rows.quantWayRow.recurses == Try.prog.recurses 17) = true := by kernel_rfl
theorem quantWay_f4 : (Rows.quantWayRow.named == Try.prog.varsNamed 17) = true := by kernel_rfl
theorem quantWay_closed : joinedFacts Try.prog 17 Try.f17 Rows.quantWaySpec Rows.quantWayRow = true := by
  unfold joinedFacts
  rw [quantWay_f1, quantWay_f2, quantWay_f3, quantWay_f4, seat_final, seat_enter, seat_make]
  kernel_rfl
/-- The statement. -/
theorem quantWay_holds : Rows.QuantWaySaid :=
  OpenClaim.holds_of_wide 17 Try.f17 rfl rfl rfl rfl rfl rfl rfl ⟨rfl, rfl, rfl, rfl, rfl⟩ rfl rfl rfl rfl rfl (by kernel_rfl) Try.func17 quantWay_closed
    (of_decide_eq_true (by kernel_rfl)) (by unfold Func.isWrapper; first | (rw [if_pos (by decide +kernel)]; kernel_rfl) | (rw [if_neg (by decide +kernel)]; exact ⟨rfl, rfl⟩))
    (fun os started H enc _ => quantWay_lifted os started H enc)
#print axioms quantWay_holds
end Go.Proofs.Ytpnbgoahjoabkaa
