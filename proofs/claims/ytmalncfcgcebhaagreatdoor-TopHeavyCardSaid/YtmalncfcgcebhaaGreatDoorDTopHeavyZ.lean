/- TopHeavy: where no key has less than 0, each prefix that has not less than least is told, at every level; each that is told is told not less than least, and so are all in which it lies; or there is an error, and no list. No condition: every input. -/
import Derived.Test.YtmalncfcgcebhaaGreatDoorDTopHeavy16
import Derived.Test.YtmalncfcgcebhaaGreatDoorDTopHeavy17
import Derived.Test.YtmalncfcgcebhaaGreatDoorTie
import Derived.Test.YtmalncfcgcebhaaGreatDoorCards
namespace Go.Proofs.YtmalncfcgcebhaaGreatDoor
open Go.ChangeShapes Go.WideShapes Go.ChangeAt Go.RowKit
set_option maxRecDepth 100000
theorem topHeavy_f1:(Rows.topHeavyRow.inPlace == Tryz.prog.inPlace 5)=true:=by kernel_rfl
theorem topHeavy_f2:(Rows.topHeavyRow.unfollowed == Tryz.prog.unfollowed 5)=true:=by kernel_rfl
theorem topHeavy_f3:(Rows.topHeavyRow.recurses == Tryz.prog.recurses 5)=true:=by kernel_rfl
theorem topHeavy_f4:(Rows.topHeavyRow.named == Tryz.prog.varsNamed 5)=true:=by kernel_rfl
theorem topHeavy_closed:joinedFacts Tryz.prog 5 Tryz.f5 Rows.topHeavySpec Rows.topHeavyRow=true:=by
 unfold joinedFacts
 rw [topHeavy_f1,topHeavy_f2,topHeavy_f3,topHeavy_f4,seat_final,seat_enter,seat_make]
 kernel_rfl
theorem topHeavy_holds:Rows.TopHeavySaid :=
 OpenClaim.holds_of_wide 5 Tryz.f5 rfl rfl rfl rfl rfl rfl rfl ⟨rfl,rfl,rfl,rfl,rfl⟩ rfl rfl rfl rfl rfl (by kernel_rfl) Tryz.func5 topHeavy_closed
  (of_decide_eq_true (by kernel_rfl)) (by unfold Func.isWrapper; first | (rw [if_pos (by decide +kernel)]; kernel_rfl) | (rw [if_neg (by decide +kernel)]; exact ⟨rfl,rfl⟩))
  (fun os started H enc _=>topHeavy_lifted os started H enc)
theorem topHeavy_card:Rows.TopHeavyCardSaid :=
 Claim7.holds_tied_plain_at .later [] [.data,.data,.data,.data,.sentinel,.sentinel,.pinned] true _ true
  topHeavy_holds (fun _ h=>by cases h) (by kernel_rfl) (fun _ h=>by cases h) topHeavy_row_tie rfl ⟨rfl,rfl⟩ (by kernel_rfl) rfl
  (fun f fn hf hfn=>by
   obtain rfl : f = 5 := Option.some.inj ((show Tryz.prog.funcNamed "gauger/gaugertop.TopHeavy" = some 5 by kernel_rfl).symm.trans hf) |>.symm
   obtain rfl:fn=Tryz.f5:=(Option.some.inj (Tryz.func5.symm.trans hfn)).symm
   exact ⟨by kernel_rfl,fun j t ht=>by
    rw [Tryz.params5] at ht
    have hm:t∈[24,25,67]:=by simpa using Array.mem_of_getElem? ht
    have hall:([24,25,67].all fun u=>!Tryz.prog.wantsStandIn u)=true:=by kernel_rfl
    exact (show Tryz.prog.wantsStandIn t=false by simpa using List.all_eq_true.1 hall t hm)⟩)
  (by kernel_rfl)
#print axioms topHeavy_card
end Go.Proofs.YtmalncfcgcebhaaGreatDoor
