/- LevelApart: a copy is a level of its own: what is done to the one leaves the other. No condition: every input. -/
import Derived.Test.YtpnbgoahjoabkaaALevelApart1
import Derived.Test.YtpnbgoahjoabkaaL11

/- LevelApart: a copy is a level of its own: what is done to the one leaves the other. No condition: every input. -/
namespace Go.Proofs.Ytpnbgoahjoabkaa
open Go.ChangeShapes Go.WideShapes Go.ChangeAt Go.RowKit
set_option maxRecDepth 100000
theorem levelApart_f1 : (Rows.levelApartRow.inPlace == Try.prog.inPlace 18) = true := by kernel_rfl
theorem levelApart_f2 : (Rows.levelApartRow.unfollowed == Try.prog.unfollowed 18) = true := by kernel_rfl
theorem levelApart_f3 : (Rows.levelApartRow.recurses == Try.prog.recurses 18) = true := by kernel_rfl
theorem levelApart_f4 : (Rows.levelApartRow.named == Try.prog.varsNamed 18) = true := by kernel_rfl
theorem levelApart_closed : joinedFacts Try.prog 18 Try.f18 Rows.levelApartSpec Rows.levelApartRow = true := by
  unfold joinedFacts
  rw [levelApart_f1, levelApart_f2, levelApart_f3, levelApart_f4, seat_final, seat_enter, seat_make]
  kernel_rfl
/-- The statement. -/
theorem levelApart_holds : Rows.LevelApartSaid :=
  OpenClaim.holds_of_wide 18 Try.f18 rfl rfl rfl rfl rfl rfl rfl ⟨rfl, rfl, rfl, rfl, rfl⟩ rfl rfl rfl rfl rfl (by kernel_rfl) Try.func18 levelApart_closed
    (of_decide_eq_true (by kernel_rfl)) (by unfold Func.isWrapper; first | (rw [if_pos (by decide +kernel)]; kernel_rfl) | (rw [if_neg (by decide +kernel)]; exact ⟨rfl, rfl⟩))
    (fun os started H enc _ => levelApart_lifted os started H enc)
#print axioms levelApart_holds
end Go.Proofs.Ytpnbgoahjoabkaa
