/- LevelMakes: an exact level is an array, with a cell for each key; another one is a sketch, with rows and columns; there is none of what is no level. No condition: every input. -/
import Derived.Test.YtpnbgoahjoabkaaALevelMakes1
import Derived.Test.YtpnbgoahjoabkaaL11

/- LevelMakes: an exact level is an array, with a cell for each key; another one is a sketch, with rows and columns; there is none of what is no level. No condition: every input. -/
namespace Go.Proofs.Ytpnbgoahjoabkaa
open Go.ChangeShapes Go.WideShapes Go.ChangeAt Go.RowKit
set_option maxRecDepth 100000
theorem levelMakes_f1 : (Rows.levelMakesRow.inPlace == Try.prog.inPlace 11) = true := by kernel_rfl
theorem levelMakes_f2 : (Rows.levelMakesRow.unfollowed == Try.prog.unfollowed 11) = true := by kernel_rfl
theorem levelMakes_f3 : (Rows.levelMakesRow.recurses == Try.prog.recurses 11) = true := by kernel_rfl
theorem levelMakes_f4 : (Rows.levelMakesRow.named == Try.prog.varsNamed 11) = true := by kernel_rfl
theorem levelMakes_closed : joinedFacts Try.prog 11 Try.f11 Rows.levelMakesSpec Rows.levelMakesRow = true := by
  unfold joinedFacts
  rw [levelMakes_f1, levelMakes_f2, levelMakes_f3, levelMakes_f4, seat_final, seat_enter, seat_make]
  kernel_rfl
/-- The statement. -/
theorem levelMakes_holds : Rows.LevelMakesSaid :=
  OpenClaim.holds_of_wide 11 Try.f11 rfl rfl rfl rfl rfl rfl rfl ⟨rfl, rfl, rfl, rfl, rfl⟩ rfl rfl rfl rfl rfl (by kernel_rfl) Try.func11 levelMakes_closed
    (of_decide_eq_true (by kernel_rfl)) (by unfold Func.isWrapper; first | (rw [if_pos (by decide +kernel)]; kernel_rfl) | (rw [if_neg (by decide +kernel)]; exact ⟨rfl, rfl⟩))
    (fun os started H enc _ => levelMakes_lifted os started H enc)
#print axioms levelMakes_holds
end Go.Proofs.Ytpnbgoahjoabkaa
