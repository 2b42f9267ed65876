/- QuantRises: a greater rank never leads to a lesser key, whatever was done; ranks that are not there lead to none. No condition: every input. -/
import Derived.Test.YtpnbgoahjoabkaaAQuantRises9

/- QuantRises: a greater rank never leads to a lesser key, whatever was done; ranks that are not there lead to none. No condition: every input. -/
namespace Go.Proofs.Ytpnbgoahjoabkaa
open Go.ChangeShapes Go.WideShapes Go.ChangeAt Go.RowKit
set_option maxRecDepth 100000
theorem quantRises_f1 : (Rows.quantRisesRow.inPlace == Try.prog.inPlace 16) = true := by kernel_rfl
theorem quantRises_f2 : (Rows.quantRisesRow.unfollowed == Try.prog.unfollowed 16) = true := by kernel_rfl
theorem quantRises_f3 : (Rows.quantRisesRow.recurses == Try.prog.recurses 16) = true := by kernel_rfl
theorem quantRises_f4 : (Rows.quantRisesRow.named == Try.prog.varsNamed 16) = true := by kernel_rfl
theorem quantRises_closed : joinedFacts Try.prog 16 Try.f16 Rows.quantRisesSpec Rows.quantRisesRow = true := by
  unfold joinedFacts
  rw [quantRises_f1, quantRises_f2, quantRises_f3, quantRises_f4, seat_final, seat_enter, seat_make]
  kernel_rfl
/-- The statement. -/
theorem quantRises_holds : Rows.QuantRisesSaid :=
  OpenClaim.holds_of_wide 16 Try.f16 rfl rfl rfl rfl rfl rfl rfl ⟨rfl, rfl, rfl, rfl, rfl⟩ rfl rfl rfl rfl rfl (by kernel_rfl) Try.func16 quantRises_closed
    (of_decide_eq_true (by kernel_rfl)) (by unfold Func.isWrapper; first | (rw [if_pos (by decide +kernel)]; kernel_rfl) | (rw [if_neg (by decide +kernel)]; exact ⟨rfl, rfl⟩))
    (fun os started H enc _ => quantRises_lifted os started H enc)
#print axioms quantRises_holds
end Go.Proofs.Ytpnbgoahjoabkaa
