/- MergePlays: two stacks of a config are changed, put together and multiplied as the document says. No condition: every input. -/
import Derived.Test.YtfhdjekpdifajaaGreatDMergePlays12
import Derived.Test.YtfhdjekpdifajaaGreatDMergePlays13
namespace Go.Proofs.YtfhdjekpdifajaaGreat
open Go.ChangeShapes Go.WideShapes Go.ChangeAt Go.RowKit
set_option maxRecDepth 100000
theorem mergePlays_f1 : (Rows.mergePlaysRow.inPlace == Tryz.prog.inPlace 7) = true := by kernel_rfl
theorem mergePlays_f2 : (Rows.mergePlaysRow.unfollowed == Tryz.prog.unfollowed 7) = true := by kernel_rfl
theorem mergePlays_f3 : (Rows.mergePlaysRow.recurses == Tryz.prog.recurses 7) = true := by kernel_rfl
theorem mergePlays_f4 : (Rows.mergePlaysRow.named == Tryz.prog.varsNamed 7) = true := by kernel_rfl
theorem mergePlays_closed : joinedFacts Tryz.prog 7 Tryz.f7 Rows.mergePlaysSpec Rows.mergePlaysRow = true := by
  unfold joinedFacts
  rw [mergePlays_f1, mergePlays_f2, mergePlays_f3, mergePlays_f4, seat_final, seat_enter, seat_make]
  kernel_rfl
/-- The statement. -/
theorem mergePlays_holds : Rows.MergePlaysSaid :=
  OpenClaim.holds_of_wide 7 Tryz.f7 rfl rfl rfl rfl rfl rfl rfl ⟨rfl, rfl, rfl, rfl, rfl⟩ rfl rfl rfl rfl rfl (by kernel_rfl) Tryz.func7 mergePlays_closed
    (of_decide_eq_true (by kernel_rfl)) (by unfold Func.isWrapper; first | (rw [if_pos (by decide +kernel)]; kernel_rfl) | (rw [if_neg (by decide +kernel)]; exact ⟨rfl, rfl⟩))
    (fun os started H enc _ => mergePlays_lifted os started H enc)
#print axioms mergePlays_holds
end Go.Proofs.YtfhdjekpdifajaaGreat
