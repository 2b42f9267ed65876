/- QuantBounds: where no key has less than 0, all keys below the answer have less than the rank, and the rank is not more than what all up to it have, and how much too much was told of the first halves on the way. No condition: every input. -/
import Derived.Test.YtpnbgoahjoabkaaAQuantBounds10

/- QuantBounds: where no key has less than 0, all keys below the answer have less than the rank, and the rank is not more than what all up to it have, and how much too much was told of the first halves on the way. No condition: every input. -/
namespace Go.Proofs.Ytpnbgoahjoabkaa
open Go.ChangeShapes Go.WideShapes Go.ChangeAt Go.RowKit
set_option maxRecDepth 100000
theorem quantBounds_f1 : (Rows.quantBoundsRow.inPlace == Try.prog.inPlace 14) = true := by kernel_rfl
theorem quantBounds_f2 : (Rows.quantBoundsRow.unfollowed == Try.prog.unfollowed 14) = true := by kernel_rfl
theorem quantBounds_f3 : (Rows.quantBoundsRow.recurses == Try.prog.recurses 14) = true := by kernel_rfl
theorem quantBounds_f4 : (Rows.quantBoundsRow.named == Try.prog.varsNamed 14) = true := by kernel_rfl
theorem quantBounds_closed : joinedFacts Try.prog 14 Try.f14 Rows.quantBoundsSpec Rows.quantBoundsRow = true := by
  unfold joinedFacts
  rw [quantBounds_f1, quantBounds_f2, quantBounds_f3, quantBounds_f4, seat_final, seat_enter, seat_make]
  kernel_rfl
/-- The statement. -/
theorem quantBounds_holds : Rows.QuantBoundsSaid :=
  OpenClaim.holds_of_wide 14 Try.f14 rfl rfl rfl rfl rfl rfl rfl ⟨rfl, rfl, rfl, rfl, rfl⟩ rfl rfl rfl rfl rfl (by kernel_rfl) Try.func14 quantBounds_closed
    (of_decide_eq_true (by kernel_rfl)) (by unfold Func.isWrapper; first | (rw [if_pos (by decide +kernel)]; kernel_rfl) | (rw [if_neg (by decide +kernel)]; exact ⟨rfl, rfl⟩))
    (fun os started H enc _ => quantBounds_lifted os started H enc)
#print axioms quantBounds_holds
end Go.Proofs.Ytpnbgoahjoabkaa
