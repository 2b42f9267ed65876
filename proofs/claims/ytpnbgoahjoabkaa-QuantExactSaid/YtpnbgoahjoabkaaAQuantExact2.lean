/- QuantExact: where all levels are exact, and no key has less than 0, the answer is the first key up to which all have the rank. No condition: every input. -/
import Derived.Test.YtpnbgoahjoabkaaAQuantExact1
import Derived.Test.YtpnbgoahjoabkaaL11

/- QuantExact: where all levels are exact, and no key has less than 0, the answer is the first key up to which all have the rank. No condition: every input. -/
namespace Go.Proofs.Ytpnbgoahjoabkaa
open Go.ChangeShapes Go.WideShapes Go.ChangeAt Go.RowKit
set_option maxRecDepth 100000
theorem quantExact_f1 : (Rows.quantExactRow.inPlace == Try.prog.inPlace 15) = true := by kernel_rfl
theorem quantExact_f2 : (Rows.quantExactRow.unfollowed == Try.prog.unfollowed 15) = true := by kernel_rfl
theorem quantExact_f3 : (Rows.quantExactRow.recurses == Try.prog.recurses 15) = true := by kernel_rfl
theorem quantExact_f4 : (Rows.quantExactRow.named == Try.prog.varsNamed 15) = true := by kernel_rfl
theorem quantExact_closed : joinedFacts Try.prog 15 Try.f15 Rows.quantExactSpec Rows.quantExactRow = true := by
  unfold joinedFacts
  rw [quantExact_f1, quantExact_f2, quantExact_f3, quantExact_f4, seat_final, seat_enter, seat_make]
  kernel_rfl
/-- The statement. -/
theorem quantExact_holds : Rows.QuantExactSaid :=
  OpenClaim.holds_of_wide 15 Try.f15 rfl rfl rfl rfl rfl rfl rfl ⟨rfl, rfl, rfl, rfl, rfl⟩ rfl rfl rfl rfl rfl (by kernel_rfl) Try.func15 quantExact_closed
    (of_decide_eq_true (by kernel_rfl)) (by unfold Func.isWrapper; first | (rw [if_pos (by decide +kernel)]; kernel_rfl) | (rw [if_neg (by decide +kernel)]; exact ⟨rfl, rfl⟩))
    (fun os started H enc _ => quantExact_lifted os started H enc)
#print axioms quantExact_holds
end Go.Proofs.Ytpnbgoahjoabkaa
