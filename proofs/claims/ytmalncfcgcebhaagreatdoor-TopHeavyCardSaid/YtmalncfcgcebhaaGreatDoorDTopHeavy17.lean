/- Part. No condition. -/
import Derived.Test.YtmalncfcgcebhaaGreatDoorDTopHeavy1
import Derived.ProofKit
import Derived.OpenShut
namespace Go.Proofs.YtmalncfcgcebhaaGreatDoor
set_option linter.unusedVariables false
open Go.RowKit
set_option maxRecDepth 100000
theorem seat_all:(Tryz.prog.liftsFinal == false && (Tryz.prog.mayEnter && (Tryz.prog.make == some .cut)))=true:=by kernel_rfl
theorem seat_final:Tryz.prog.liftsFinal=false:=by
 have:=seat_all
 simp only [Bool.and_eq_true,beq_iff_eq] at this
 exact this.1
theorem seat_enter:Tryz.prog.mayEnter=true:=by
 have:=seat_all
 simp only [Bool.and_eq_true] at this
 exact this.2.1
theorem seat_make:Tryz.prog.make=some .cut:=by
 have:=seat_all
 simp only [Bool.and_eq_true] at this
 exact eq_of_beq this.2.2
end Go.Proofs.YtmalncfcgcebhaaGreatDoor
