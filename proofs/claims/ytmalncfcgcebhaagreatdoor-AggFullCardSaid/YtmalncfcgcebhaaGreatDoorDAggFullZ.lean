/- AggFull: there are at most thirty-two handles at a time; each number is given once. No condition: every input. -/
import Derived.Test.YtmalncfcgcebhaaGreatDoorDAggFull8
import Derived.Test.YtmalncfcgcebhaaGreatDoorDAggFull9
import Derived.Test.YtmalncfcgcebhaaGreatDoorTie
import Derived.Test.YtmalncfcgcebhaaGreatDoorCards
namespace Go.Proofs.YtmalncfcgcebhaaGreatDoor
open Go.ChangeShapes Go.WideShapes Go.ChangeAt Go.RowKit
set_option maxRecDepth 100000
theorem aggFull_f1 : (Rows.aggFullRow.inPlace == Tryz.prog.inPlace 9) = true := by kernel_rfl
theorem aggFull_f2 : (Rows.aggFullRow.unfollowed == Tryz.prog.unfollowed 9) = true := by kernel_rfl
theorem aggFull_f3 : (Rows.aggFullRow.recurses == Tryz.prog.recurses 9) = true := by kernel_rfl
theorem aggFull_f4 : (Rows.aggFullRow.named == Tryz.prog.varsNamed 9) = true := by kernel_rfl
theorem aggFull_closed : joinedFacts Tryz.prog 9 Tryz.f9 Rows.aggFullSpec Rows.aggFullRow = true := by
  unfold joinedFacts
  rw [aggFull_f1, aggFull_f2, aggFull_f3, aggFull_f4, seat_final, seat_enter, seat_make]
  kernel_rfl
theorem aggFull_holds : Rows.AggFullSaid :=
  OpenClaim.holds_of_wide 9 Tryz.f9 rfl rfl rfl rfl rfl rfl rfl ⟨rfl, rfl, rfl, rfl, rfl⟩ rfl rfl rfl rfl rfl (by kernel_rfl) Tryz.func9 aggFull_closed
    (of_decide_eq_true (by kernel_rfl)) (by unfold Func.isWrapper; first | (rw [if_pos (by decide +kernel)]; kernel_rfl) | (rw [if_neg (by decide +kernel)]; exact ⟨rfl, rfl⟩))
    (fun os started H enc _ => aggFull_lifted os started H enc)
/-- The statement. -/
theorem aggFull_card : Rows.AggFullCardSaid :=
  Claim7.holds_tied_plain_at .later [] [.data, .data, .data, .data, .sentinel, .sentinel, .pinned] true _ true
    aggFull_holds (fun _ h => by cases h) (by kernel_rfl) (fun _ h => by cases h) aggFull_row_tie rfl ⟨rfl, rfl⟩ (by kernel_rfl) rfl
    (fun f fn hf hfn => by
      obtain rfl : f = 9 := Option.some.inj ((show Tryz.prog.funcNamed "gauger/gaugerlaw26.AggFull" = some 9 by kernel_rfl).symm.trans hf) |>.symm
      obtain rfl : fn = Tryz.f9 := (Option.some.inj (Tryz.func9.symm.trans hfn)).symm
      exact ⟨by kernel_rfl, fun j t ht => by
        rw [Tryz.params9] at ht
        have hm : t ∈ [3, 54] := by simpa using Array.mem_of_getElem? ht
        have hall : ([3, 54].all fun u => !Tryz.prog.wantsStandIn u) = true := by kernel_rfl
        exact (show Tryz.prog.wantsStandIn t = false by simpa using List.all_eq_true.1 hall t hm)⟩)
    (by kernel_rfl)
#print axioms aggFull_card
end Go.Proofs.YtmalncfcgcebhaaGreatDoor
