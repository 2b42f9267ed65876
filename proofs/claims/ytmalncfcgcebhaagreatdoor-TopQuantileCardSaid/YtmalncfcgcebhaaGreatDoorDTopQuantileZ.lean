/- TopQuantile: where no key has less than 0, all keys below a rank's key have less than the rank, and the rank is not more than what all up to it have, and how much too much is told of the first halves on the way; other ranks are refused. No condition: every input. -/
import Derived.Test.YtmalncfcgcebhaaGreatDoorDTopQuantile16
import Derived.Test.YtmalncfcgcebhaaGreatDoorDTopQuantile17
import Derived.Test.YtmalncfcgcebhaaGreatDoorTie
import Derived.Test.YtmalncfcgcebhaaGreatDoorCards
namespace Go.Proofs.YtmalncfcgcebhaaGreatDoor
open Go.ChangeShapes Go.WideShapes Go.ChangeAt Go.RowKit
set_option maxRecDepth 100000
theorem topQuantile_f1:(Rows.topQuantileRow.inPlace == Tryz.prog.inPlace 11) = true:=by kernel_rfl
theorem topQuantile_f2:(Rows.topQuantileRow.unfollowed == Tryz.prog.unfollowed 11) = true:=by kernel_rfl
theorem topQuantile_f3:(Rows.topQuantileRow.recurses == Tryz.prog.recurses 11) = true:=by kernel_rfl
theorem topQuantile_f4:(Rows.topQuantileRow.named == Tryz.prog.varsNamed 11) = true:=by kernel_rfl
theorem topQuantile_closed:joinedFacts Tryz.prog 11 Tryz.f11 Rows.topQuantileSpec Rows.topQuantileRow = true:=by
 unfold joinedFacts
 rw [topQuantile_f1,topQuantile_f2,topQuantile_f3,topQuantile_f4,seat_final,seat_enter,seat_make]
 kernel_rfl
theorem topQuantile_holds:Rows.TopQuantileSaid :=
 OpenClaim.holds_of_wide 11 Tryz.f11 rfl rfl rfl rfl rfl rfl rfl ⟨rfl,rfl,rfl,rfl,rfl⟩ rfl rfl rfl rfl rfl (by kernel_rfl) Tryz.func11 topQuantile_closed
  (of_decide_eq_true (by kernel_rfl)) (by unfold Func.isWrapper; first | (rw [if_pos (by decide +kernel)]; kernel_rfl) | (rw [if_neg (by decide +kernel)]; exact ⟨rfl,rfl⟩))
  (fun os started H enc _=>topQuantile_lifted os started H enc)
theorem topQuantile_card:Rows.TopQuantileCardSaid :=
 Claim7.holds_tied_plain_at .later [] [.data,.data,.data,.data,.sentinel,.sentinel,.pinned] true _ true
  topQuantile_holds (fun _ h=>by cases h) (by kernel_rfl) (fun _ h=>by cases h) topQuantile_row_tie rfl ⟨rfl,rfl⟩ (by kernel_rfl) rfl
  (fun f fn hf hfn=>by
   obtain rfl : f = 11 := Option.some.inj ((show Tryz.prog.funcNamed "gauger/gaugertop.TopQuantile" = some 11 by kernel_rfl).symm.trans hf) |>.symm
   obtain rfl:fn = Tryz.f11:=(Option.some.inj (Tryz.func11.symm.trans hfn)).symm
   exact ⟨by kernel_rfl,fun j t ht=>by
    rw [Tryz.params11] at ht
    have hm:t ∈ [24,25,97]:=by simpa using Array.mem_of_getElem? ht
    have hall:([24,25,97].all fun u=>!Tryz.prog.wantsStandIn u) = true:=by kernel_rfl
    exact (show Tryz.prog.wantsStandIn t = false by simpa using List.all_eq_true.1 hall t hm)⟩)
  (by kernel_rfl)
#print axioms topQuantile_card
end Go.Proofs.YtmalncfcgcebhaaGreatDoor
