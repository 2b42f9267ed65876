/- TopAnswers: in the mode Linear a prefix is told what it has, and the least sum of what others have in its columns; a span the sum of that over its pieces; where no key has less than 0, neither is less than what it has. No condition: every input. -/
import Derived.Test.YtmalncfcgcebhaaGreatDoorDTopAnswers16
import Derived.Test.YtmalncfcgcebhaaGreatDoorDTopAnswers17
import Derived.Test.YtmalncfcgcebhaaGreatDoorTie
import Derived.Test.YtmalncfcgcebhaaGreatDoorCards
namespace Go.Proofs.YtmalncfcgcebhaaGreatDoor
open Go.ChangeShapes Go.WideShapes Go.ChangeAt Go.RowKit
set_option maxRecDepth 100000
theorem topAnswers_f1:(Rows.topAnswersRow.inPlace == Tryz.prog.inPlace 4)=true:=by kernel_rfl
theorem topAnswers_f2:(Rows.topAnswersRow.unfollowed == Tryz.prog.unfollowed 4)=true:=by kernel_rfl
theorem topAnswers_f3:(Rows.topAnswersRow.recurses == Tryz.prog.recurses 4)=true:=by kernel_rfl
theorem topAnswers_f4:(Rows.topAnswersRow.named == Tryz.prog.varsNamed 4)=true:=by kernel_rfl
theorem topAnswers_closed:joinedFacts Tryz.prog 4 Tryz.f4 Rows.topAnswersSpec Rows.topAnswersRow=true:=by
 unfold joinedFacts
 rw [topAnswers_f1,topAnswers_f2,topAnswers_f3,topAnswers_f4,seat_final,seat_enter,seat_make]
 kernel_rfl
theorem topAnswers_holds:Rows.TopAnswersSaid :=
 OpenClaim.holds_of_wide 4 Tryz.f4 rfl rfl rfl rfl rfl rfl rfl ⟨rfl,rfl,rfl,rfl,rfl⟩ rfl rfl rfl rfl rfl (by kernel_rfl) Tryz.func4 topAnswers_closed
  (of_decide_eq_true (by kernel_rfl)) (by unfold Func.isWrapper; first | (rw [if_pos (by decide +kernel)]; kernel_rfl) | (rw [if_neg (by decide +kernel)]; exact ⟨rfl,rfl⟩))
  (fun os started H enc _=>topAnswers_lifted os started H enc)
theorem topAnswers_card:Rows.TopAnswersCardSaid :=
 Claim7.holds_tied_plain_at .later [] [.data,.data,.data,.data,.sentinel,.sentinel,.pinned] true _ true
  topAnswers_holds (fun _ h=>by cases h) (by kernel_rfl) (fun _ h=>by cases h) topAnswers_row_tie rfl ⟨rfl,rfl⟩ (by kernel_rfl) rfl
  (fun f fn hf hfn=>by
   obtain rfl : f = 4 := Option.some.inj ((show Tryz.prog.funcNamed "gauger/gaugertop.TopAnswers" = some 4 by kernel_rfl).symm.trans hf) |>.symm
   obtain rfl:fn=Tryz.f4:=(Option.some.inj (Tryz.func4.symm.trans hfn)).symm
   exact ⟨by kernel_rfl,fun j t ht=>by
    rw [Tryz.params4] at ht
    have hm:t ∈ [24,25,58]:=by simpa using Array.mem_of_getElem? ht
    have hall:([24,25,58].all fun u=>!Tryz.prog.wantsStandIn u)=true:=by kernel_rfl
    exact (show Tryz.prog.wantsStandIn t=false by simpa using List.all_eq_true.1 hall t hm)⟩)
  (by kernel_rfl)
#print axioms topAnswers_card
end Go.Proofs.YtmalncfcgcebhaaGreatDoor
