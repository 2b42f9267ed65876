/- QuantLoaded: the key of a rank is what the document says, of any cells that are set. No condition: every input. -/
import Derived.Test.YtfhdjekpdifajaaGreatAQuantLoaded1
import Derived.Test.YtfhdjekpdifajaaGreatL14

/- QuantLoaded: the key of a rank is what the document says, of any cells that are set. No condition: every input. -/
namespace Go.Proofs.YtfhdjekpdifajaaGreat
open Go.ChangeShapes Go.WideShapes Go.ChangeAt Go.RowKit
set_option maxRecDepth 100000
theorem quantLoaded_f1 : (Rows.quantLoadedRow.inPlace == Tryz.prog.inPlace 4) = true := by kernel_rfl
theorem quantLoaded_f2 : (Rows.quantLoadedRow.unfollowed == Tryz.prog.unfollowed 4) = true := by kernel_rfl
theorem quantLoaded_f3 : (Rows.quantLoadedRow.recurses == Tryz.prog.recurses 4) = true := by kernel_rfl
theorem quantLoaded_f4 : (Rows.quantLoadedRow.named == Tryz.prog.varsNamed 4) = true := by kernel_rfl
theorem quantLoaded_closed : joinedFacts Tryz.prog 4 Tryz.f4 Rows.quantLoadedSpec Rows.quantLoadedRow = true := by
  unfold joinedFacts
  rw [quantLoaded_f1, quantLoaded_f2, quantLoaded_f3, quantLoaded_f4, seat_final, seat_enter, seat_make]
  kernel_rfl
/-- The statement. -/
theorem quantLoaded_holds : Rows.QuantLoadedSaid :=
  OpenClaim.holds_of_wide 4 Tryz.f4 rfl rfl rfl rfl rfl rfl rfl ⟨rfl, rfl, rfl, rfl, rfl⟩ rfl rfl rfl rfl rfl (by kernel_rfl) Tryz.func4 quantLoaded_closed
    (of_decide_eq_true (by kernel_rfl)) (by unfold Func.isWrapper; first | (rw [if_pos (by decide +kernel)]; kernel_rfl) | (rw [if_neg (by decide +kernel)]; exact ⟨rfl, rfl⟩))
    (fun os started H enc _ => quantLoaded_lifted os started H enc)
#print axioms quantLoaded_holds
end Go.Proofs.YtfhdjekpdifajaaGreat
