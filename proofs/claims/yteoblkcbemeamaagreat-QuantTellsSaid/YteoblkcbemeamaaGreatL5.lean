/- Part. No condition. -/
import Derived.Test.YteoblkcbemeamaaGreatL4
import Derived.Test.YteoblkcbemeamaaGreatL1
import Derived.Test.YteoblkcbemeamaaGreatL2
import Derived.RangeFuncNested
import Derived.RangeFuncBound
import Derived.RangeFuncCalls
import Derived.RangeFuncLeaves
import Derived.Shelf.Abstract
import Derived.Shelf.RegionOpen
import Derived.WalkKit
import Derived.OwnWalkIn
import Derived.TacticsInMore
import Derived.LoopNIn
import Derived.LoopIn
import Derived.RangeFuncFrom

/- sketch.Merge, sketch.Subtract of two sketches of one config and level; of unlike ones; of none. -/
namespace Go.Proofs.YteoblkcbemeamaaGreat
set_option linter.unusedVariables false
open Go.RowKit

set_option maxRecDepth 20000 in
theorem GPlus_c (b c b2 c2 R W : Nat) (l l2 : List Int) (w : World) (h : GAt w b c R W l) (h2 : GAt w b2 c2 R W l2) (hI : allI l) (hI2 : allI l2) :
    Calls Tryz.prog 155 #[.pointer (some ⟨b, 0, none⟩), .pointer (some ⟨b2, 0, none⟩)] w (JoinPost w b c R W (plusL l l2)) := by
  go_enter Tryz.func155, Tryz.ntmps155
  go_wp2_with fail
  refine Calls.mono (allPlus_c b c b2 c2 R W l l2 w h h2 hI hI2) ?_
  rintro e w' h
  rcases h with ⟨ha, rfl, hg, hm⟩ | ⟨ha, rfl, hx⟩
  · go_wp2
    go_ret
    exact .inl ⟨ha, rfl, hg, hm⟩
  · go_wp2
    go_ret
    exact .inr ⟨ha, rfl, hx⟩
set_option maxRecDepth 20000 in
theorem GMinus_c (b c b2 c2 R W : Nat) (l l2 : List Int) (w : World) (h : GAt w b c R W l) (h2 : GAt w b2 c2 R W l2) (hI : allI l) (hI2 : allI l2) :
    Calls Tryz.prog 158 #[.pointer (some ⟨b, 0, none⟩), .pointer (some ⟨b2, 0, none⟩)] w (JoinPost w b c R W (minusL l l2)) := by
  go_enter Tryz.func158, Tryz.ntmps158
  go_wp2_with fail
  refine Calls.mono (allMinus_c b c b2 c2 R W l l2 w h h2 hI hI2) ?_
  rintro e w' h
  rcases h with ⟨ha, rfl, hg, hm⟩ | ⟨ha, rfl, hx⟩
  · go_wp2
    go_ret
    exact .inl ⟨ha, rfl, hg, hm⟩
  · go_wp2
    go_ret
    exact .inr ⟨ha, rfl, hx⟩
def alikeB (C : Cfg) (lv : Int) (C2 : Cfg) (lv2 : Int) : Prop := C2.bits = C.bits ∧ C2.rows = C.rows ∧ C2.width = C.width ∧ C2.mode = C.mode ∧ C2.seed = C.seed ∧ lv2 = lv
set_option maxRecDepth 20000 in
set_option maxHeartbeats 2000000 in
theorem alike_yes (s b c s2 b2 c2 : Nat) (C : Cfg) (lv : Int) (R W : Nat) (l l2 : List Int) (w : World) (h : SAt w s b c C lv R W l) (h2 : SAt w s2 b2 c2 C lv R W l2) :
    Calls Tryz.prog 154 #[.pointer (some ⟨s, 0, none⟩), .pointer (some ⟨s2, 0, none⟩)] w fun e w' => e = .returned (.bool true) ∧ Ext w w' := by
  have c1 := (cell_of h.ex 1).trans rfl
  have c2 := (cell_of h.ex 2).trans rfl
  have c3 := (cell_of h.ex 3).trans rfl
  have c4 := (cell_of h.ex 4).trans rfl
  have c5 := (cell_of h.ex 5).trans rfl
  have c6 := (cell_of h.ex 6).trans rfl
  have d1 := (cell_of h2.ex 1).trans rfl
  have d2 := (cell_of h2.ex 2).trans rfl
  have d3 := (cell_of h2.ex 3).trans rfl
  have d4 := (cell_of h2.ex 4).trans rfl
  have d5 := (cell_of h2.ex 5).trans rfl
  have d6 := (cell_of h2.ex 6).trans rfl
  have l1 := h.lts
  have l2 := h2.lts
  clear h h2
  go_enter Tryz.func154, Tryz.ntmps154
  go_wp2_with fail
  refine wp_region_after (by kernel_rfl) (by kernel_rfl) ?_
  repeat (go_big_quiet_step (fail))
  refine wpQuiet_nil ?_
  rintro _ ⟨xx, rfl⟩
  obtain ⟨w1, hb1⟩ := xx
  try dsimp only
  go_wp2
  go_ret
  exact ⟨rfl, hb1⟩
theorem alike_nil (s : Nat) (w : World) :
    Calls Tryz.prog 154 #[.pointer (some ⟨s, 0, none⟩), .pointer none] w fun e w' => e = .returned (.bool false) ∧ Ext w w' := by
  go_enter Tryz.func154, Tryz.ntmps154
  go_wp2_with fail
  refine wp_region_after (by kernel_rfl) (by kernel_rfl) ?_
  repeat (go_big_quiet_step (fail))
  refine wpQuiet_nil ?_
  rintro _ ⟨xx, rfl⟩
  obtain ⟨w1, hb1⟩ := xx
  try dsimp only
  go_wp2
  go_ret
  exact ⟨rfl, hb1⟩
/-- Where two configs, or levels, part first. -/
inductive PartsAt (C2 : Cfg) (lv2 : Int) (C : Cfg) (lv : Int) : Prop
  | p0 (h : (C2.bits == C.bits) = false)
  | p1 (h0 : (C2.bits == C.bits) = true) (h : (C2.rows == C.rows) = false)
  | p2 (h0 : (C2.bits == C.bits) = true) (h1 : (C2.rows == C.rows) = true) (h : (C2.width == C.width) = false)
  | p3 (h0 : (C2.bits == C.bits) = true) (h1 : (C2.rows == C.rows) = true) (h2 : (C2.width == C.width) = true) (h : (C2.mode == C.mode) = false)
  | p4 (h0 : (C2.bits == C.bits) = true) (h1 : (C2.rows == C.rows) = true) (h2 : (C2.width == C.width) = true) (h3 : (C2.mode == C.mode) = true) (h : (C2.seed == C.seed) = false)
  | p5 (h0 : (C2.bits == C.bits) = true) (h1 : (C2.rows == C.rows) = true) (h2 : (C2.width == C.width) = true) (h3 : (C2.mode == C.mode) = true) (h4 : (C2.seed == C.seed) = true) (h : (lv2 == lv) = false)
theorem parts_or (C2 : Cfg) (lv2 : Int) (C : Cfg) (lv : Int) : (C2 = C ∧ lv2 = lv) ∨ PartsAt C2 lv2 C lv := by
  cases h0 : C2.bits == C.bits with
  | false => exact .inr (.p0 h0)
  | true =>
    cases h1 : C2.rows == C.rows with
    | false => exact .inr (.p1 h0 h1)
    | true =>
      cases h2 : C2.width == C.width with
      | false => exact .inr (.p2 h0 h1 h2)
      | true =>
        cases h3 : C2.mode == C.mode with
        | false => exact .inr (.p3 h0 h1 h2 h3)
        | true =>
          cases h4 : C2.seed == C.seed with
          | false => exact .inr (.p4 h0 h1 h2 h3 h4)
          | true =>
            cases h5 : lv2 == lv with
            | false => exact .inr (.p5 h0 h1 h2 h3 h4 h5)
            | true =>
              refine .inl ⟨?_, by simpa using h5⟩
              cases C2; cases C
              simp only [beq_iff_eq] at h0 h1 h2 h3 h4
              simp [h0, h1, h2, h3, h4]
set_option maxRecDepth 20000 in
set_option maxHeartbeats 4000000 in
theorem alike_no (s b c s2 b2 c2 : Nat) (C C2 : Cfg) (lv lv2 : Int) (R W R2 W2 : Nat) (l l2 : List Int) (w : World) (h : SAt w s b c C lv R W l) (h2 : SAt w s2 b2 c2 C2 lv2 R2 W2 l2) (hp : PartsAt C2 lv2 C lv) :
    Calls Tryz.prog 154 #[.pointer (some ⟨s, 0, none⟩), .pointer (some ⟨s2, 0, none⟩)] w fun e w' => e = .returned (.bool false) ∧ Ext w w' := by
  have c1 := (cell_of h.ex 1).trans rfl
  have c2 := (cell_of h.ex 2).trans rfl
  have c3 := (cell_of h.ex 3).trans rfl
  have c4 := (cell_of h.ex 4).trans rfl
  have c5 := (cell_of h.ex 5).trans rfl
  have c6 := (cell_of h.ex 6).trans rfl
  have d1 := (cell_of h2.ex 1).trans rfl
  have d2 := (cell_of h2.ex 2).trans rfl
  have d3 := (cell_of h2.ex 3).trans rfl
  have d4 := (cell_of h2.ex 4).trans rfl
  have d5 := (cell_of h2.ex 5).trans rfl
  have d6 := (cell_of h2.ex 6).trans rfl
  have l1 := h.lts
  have l2 := h2.lts
  clear h h2
  rcases hp with h | ⟨h0, h⟩ | ⟨h0, h1, h⟩ | ⟨h0, h1, h2, h⟩ | ⟨h0, h1, h2, h3, h⟩ | ⟨h0, h1, h2, h3, h4, h⟩
  all_goals
    go_enter Tryz.func154, Tryz.ntmps154
    go_wp2_with fail
    refine wp_region_after (by kernel_rfl) (by kernel_rfl) ?_
    repeat (go_big_quiet_step (fail))
    refine wpQuiet_nil ?_
    rintro _ ⟨xx, rfl⟩
    obtain ⟨w1, hb1⟩ := xx
    try dsimp only
    go_wp2
    go_ret
    exact ⟨rfl, hb1⟩
def MergePost (w : World) (s b c : Nat) (C : Cfg) (lv : Int) (R W : Nat) (m : List Int) (e : Ending) (w' : World) : Prop :=
  (allI m ∧ e = .returned (.int .i64 0) ∧ SAt w' s b c C lv R W m ∧ Mod (fun k => k = c) w w') ∨ (¬ allI m ∧ e = .returned (.int .i64 4) ∧ Ext w w')
theorem SAt.putg {w w' : World} {s b c : Nat} {C : Cfg} {lv : Int} {R W : Nat} {l m : List Int} (h : SAt w s b c C lv R W l) (hg : GAt w' b c R W m) (hm : Mod (fun k => k = c) w w') (hi : allI m) : SAt w' s b c C lv R W m :=
  ⟨by rw [hm.block s h.lts h.nes]; exact h.ex, hg, h.ok, h.lo, h.hi, h.hr, h.hw, hi⟩
theorem join_ret {w w' : World} {b c R W : Nat} {m : List Int} {e : Ending} (h : JoinPost w b c R W m e w') : ∃ z, e = .returned (.int .i64 z) ∧ ((z = 0 ∧ allI m ∧ GAt w' b c R W m ∧ Mod (fun k => k = c) w w') ∨ (z = 4 ∧ ¬ allI m ∧ Ext w w')) := by
  rcases h with ⟨ha, rfl, hg, hm⟩ | ⟨ha, rfl, hx⟩
  · exact ⟨_, rfl, .inl ⟨rfl, ha, hg, hm⟩⟩
  · exact ⟨_, rfl, .inr ⟨rfl, ha, hx⟩⟩
set_option maxRecDepth 20000 in
set_option maxHeartbeats 4000000 in
theorem SMerge_c (s b c s2 b2 c2 : Nat) (C : Cfg) (lv : Int) (R W : Nat) (l l2 : List Int) (w : World) (h : SAt w s b c C lv R W l) (h2 : SAt w s2 b2 c2 C lv R W l2) :
    Calls Tryz.prog 117 #[.pointer (some ⟨s, 0, none⟩), .pointer (some ⟨s2, 0, none⟩)] w (MergePost w s b c C lv R W (plusL l l2)) := by
  have HH := Lib.hid h
  go_enter Tryz.func117, Tryz.ntmps117
  go_wp2_with fail
  refine Calls.mono (alike_yes s b c s2 b2 c2 C lv R W l l2 w h h2) ?_
  rintro e w1 ⟨rfl, hx1⟩
  have h' := h.ext hx1
  have h2' := h2.ext hx1
  have c0 := (cell_of h'.ex 0).trans rfl
  have d0 := (cell_of h2'.ex 0).trans rfl
  have l1 := h'.lts
  have l2' := h2'.lts
  clear h h2
  go_wp2_with fail
  have hC0 := af_drew w1
  have hG1 := h'.g.ext (Below.drew (Ext.refl w1))
  have hG2 := h2'.g.ext (Below.drew (Ext.refl w1))
  refine pi_start (fun w' => ∃ x : After w1, w' = x.w) [10] (by kernel_rfl) ?_
  refine pi_t 0 rfl (by kernel_rfl) (by kernel_rfl) (fun _ _ _ _ h => h) (fun K hK => ?_)
  go_big_quiet_op
  refine hK _ ?_
  clear hK K
  refine pi_t 1 rfl (by kernel_rfl) (by kernel_rfl) (fun _ _ _ _ h => h) (fun K hK => ?_)
  go_big_quiet_op
  refine hK _ ?_
  clear hK K
  refine pi_t 2 rfl (by kernel_rfl) (by kernel_rfl) (fun _ _ _ _ h => h) (fun K hK => ?_)
  go_big_quiet_op
  refine hK _ ?_
  clear hK K
  refine pi_t 3 rfl (by kernel_rfl) (by kernel_rfl) (fun _ _ _ _ h => h) (fun K hK => ?_)
  go_big_quiet_op
  refine hK _ ?_
  clear hK K
  refine pi_c 4 (by assumption) rfl (by kernel_rfl) (by kernel_rfl) (fun _ _ _ _ h => h) (fun K hK => ?_)
  go_big_quiet_op
  refine hK _ ?_
  clear hK K
  refine pi_t 5 rfl (by kernel_rfl) (by kernel_rfl) (fun _ _ _ _ h => h) (fun K hK => ?_)
  go_big_quiet_op
  refine hK _ ?_
  clear hK K
  refine pi_t 6 rfl (by kernel_rfl) (by kernel_rfl) (fun _ _ _ _ h => h) (fun K hK => ?_)
  go_big_quiet_op
  refine hK _ ?_
  clear hK K
  refine pi_t 7 rfl (by kernel_rfl) (by kernel_rfl) (fun _ _ _ _ h => h) (fun K hK => ?_)
  go_big_quiet_op
  refine hK _ ?_
  clear hK K
  refine pi_t 8 rfl (by kernel_rfl) (by kernel_rfl) (fun _ _ _ _ h => h) (fun K hK => ?_)
  go_big_quiet_op
  refine hK _ ?_
  clear hK K
  refine pi_c 9 (by assumption) rfl (by kernel_rfl) (by kernel_rfl) (fun _ _ _ _ h => h) (fun K hK => ?_)
  go_big_quiet_op
  refine hK _ ?_
  clear hK K
  refine pi_l 10 rfl (by kernel_rfl) (fun K hK => ?_)
  go_wp2_with (go_at_call 155; refine Calls.mono (GPlus_c b c b2 c2 R W l l2 _ hG1 hG2 h'.fit h2'.fit) ?_; intro e w2 hr0; obtain ⟨z, rfl, hr⟩ := join_ret hr0)
  refine hK _ _ (by simp) ?_
  clear hK K
  refine pi_t 11 rfl (by kernel_rfl) (by kernel_rfl) (fun _ _ _ _ h => h) (fun K hK => ?_)
  go_big_quiet_op
  refine hK _ ?_
  clear hK K
  refine pi_end (by kernel_rfl) ?_
  go_wp2
  go_ret
  have hx2 : Ext w w1.drew := Below.drew hx1
  rcases hr with ⟨rfl, ha, hg, hm⟩ | ⟨rfl, ha, hx⟩
  · have hm' : Mod (fun k => k = c) w w2 := (hx2.mod _).trans hm
    exact .inl ⟨ha, rfl, HH.out.putg hg hm' ha, hm'⟩
  · exact .inr ⟨ha, rfl, hx2.trans' hx⟩
set_option maxRecDepth 20000 in
set_option maxHeartbeats 4000000 in
theorem SSubtract_c (s b c s2 b2 c2 : Nat) (C : Cfg) (lv : Int) (R W : Nat) (l l2 : List Int) (w : World) (h : SAt w s b c C lv R W l) (h2 : SAt w s2 b2 c2 C lv R W l2) (hm : C.mode ≠ 2) :
    Calls Tryz.prog 122 #[.pointer (some ⟨s, 0, none⟩), .pointer (some ⟨s2, 0, none⟩)] w (MergePost w s b c C lv R W (minusL l l2)) := by
  have HH := Lib.hid h
  have hmb : (C.mode == 2) = false := by simpa using hm
  clear hm
  go_enter Tryz.func122, Tryz.ntmps122
  go_wp2_with fail
  refine Calls.mono (alike_yes s b c s2 b2 c2 C lv R W l l2 w h h2) ?_
  rintro e w1 ⟨rfl, hx1⟩
  have h' := h.ext hx1
  have h2' := h2.ext hx1
  have c0 := (cell_of h'.ex 0).trans rfl
  have c4 := (cell_of h'.ex 4).trans rfl
  have d0 := (cell_of h2'.ex 0).trans rfl
  have l1 := h'.lts
  have l2' := h2'.lts
  clear h h2
  go_wp2_with fail
  have hC0 := af_drew w1
  have hG1 := h'.g.ext (Below.drew (Ext.refl w1))
  have hG2 := h2'.g.ext (Below.drew (Ext.refl w1))
  refine pi_start (fun w' => ∃ x : After w1, w' = x.w) [10] (by kernel_rfl) ?_
  refine pi_t 0 rfl (by kernel_rfl) (by kernel_rfl) (fun _ _ _ _ h => h) (fun K hK => ?_)
  go_big_quiet_op
  refine hK _ ?_
  clear hK K
  refine pi_t 1 rfl (by kernel_rfl) (by kernel_rfl) (fun _ _ _ _ h => h) (fun K hK => ?_)
  go_big_quiet_op
  refine hK _ ?_
  clear hK K
  refine pi_t 2 rfl (by kernel_rfl) (by kernel_rfl) (fun _ _ _ _ h => h) (fun K hK => ?_)
  go_big_quiet_op
  refine hK _ ?_
  clear hK K
  refine pi_t 3 rfl (by kernel_rfl) (by kernel_rfl) (fun _ _ _ _ h => h) (fun K hK => ?_)
  go_big_quiet_op
  refine hK _ ?_
  clear hK K
  refine pi_c 4 (by assumption) rfl (by kernel_rfl) (by kernel_rfl) (fun _ _ _ _ h => h) (fun K hK => ?_)
  go_big_quiet_op
  refine hK _ ?_
  clear hK K
  refine pi_t 5 rfl (by kernel_rfl) (by kernel_rfl) (fun _ _ _ _ h => h) (fun K hK => ?_)
  go_big_quiet_op
  refine hK _ ?_
  clear hK K
  refine pi_t 6 rfl (by kernel_rfl) (by kernel_rfl) (fun _ _ _ _ h => h) (fun K hK => ?_)
  go_big_quiet_op
  refine hK _ ?_
  clear hK K
  refine pi_t 7 rfl (by kernel_rfl) (by kernel_rfl) (fun _ _ _ _ h => h) (fun K hK => ?_)
  go_big_quiet_op
  refine hK _ ?_
  clear hK K
  refine pi_t 8 rfl (by kernel_rfl) (by kernel_rfl) (fun _ _ _ _ h => h) (fun K hK => ?_)
  go_big_quiet_op
  refine hK _ ?_
  clear hK K
  refine pi_c 9 (by assumption) rfl (by kernel_rfl) (by kernel_rfl) (fun _ _ _ _ h => h) (fun K hK => ?_)
  go_big_quiet_op
  refine hK _ ?_
  clear hK K
  refine pi_l 10 rfl (by kernel_rfl) (fun K hK => ?_)
  go_wp2_with (go_at_call 158; refine Calls.mono (GMinus_c b c b2 c2 R W l l2 _ hG1 hG2 h'.fit h2'.fit) ?_; intro e w2 hr0; obtain ⟨z, rfl, hr⟩ := join_ret hr0)
  refine hK _ _ (by simp) ?_
  clear hK K
  refine pi_t 11 rfl (by kernel_rfl) (by kernel_rfl) (fun _ _ _ _ h => h) (fun K hK => ?_)
  go_big_quiet_op
  refine hK _ ?_
  clear hK K
  refine pi_end (by kernel_rfl) ?_
  go_wp2
  go_ret
  have hx2 : Ext w w1.drew := Below.drew hx1
  rcases hr with ⟨rfl, ha, hg, hm⟩ | ⟨rfl, ha, hx⟩
  · have hm' : Mod (fun k => k = c) w w2 := (hx2.mod _).trans hm
    exact .inl ⟨ha, rfl, HH.out.putg hg hm' ha, hm'⟩
  · exact .inr ⟨ha, rfl, hx2.trans' hx⟩
/-- Unlike ones, or none: both are refused. -/
theorem SMerge_nil (s : Nat) (w : World) :
    Calls Tryz.prog 117 #[.pointer (some ⟨s, 0, none⟩), .pointer none] w fun e w' => e = .returned (.int .i64 5) ∧ Ext w w' := by
  go_enter Tryz.func117, Tryz.ntmps117
  go_wp2_with fail
  refine Calls.mono (alike_nil s w) ?_
  rintro e w1 ⟨rfl, hx1⟩
  go_wp2
  go_ret
  exact ⟨rfl, hx1⟩
theorem SSubtract_nil (s : Nat) (w : World) :
    Calls Tryz.prog 122 #[.pointer (some ⟨s, 0, none⟩), .pointer none] w fun e w' => e = .returned (.int .i64 5) ∧ Ext w w' := by
  go_enter Tryz.func122, Tryz.ntmps122
  go_wp2_with fail
  refine Calls.mono (alike_nil s w) ?_
  rintro e w1 ⟨rfl, hx1⟩
  go_wp2
  go_ret
  exact ⟨rfl, hx1⟩
theorem SMerge_no (s b c s2 b2 c2 : Nat) (C C2 : Cfg) (lv lv2 : Int) (R W R2 W2 : Nat) (l l2 : List Int) (w : World) (h : SAt w s b c C lv R W l) (h2 : SAt w s2 b2 c2 C2 lv2 R2 W2 l2) (hp : PartsAt C2 lv2 C lv) :
    Calls Tryz.prog 117 #[.pointer (some ⟨s, 0, none⟩), .pointer (some ⟨s2, 0, none⟩)] w fun e w' => e = .returned (.int .i64 5) ∧ Ext w w' := by
  go_enter Tryz.func117, Tryz.ntmps117
  go_wp2_with fail
  refine Calls.mono (alike_no s b c s2 b2 c2 C C2 lv lv2 R W R2 W2 l l2 w h h2 hp) ?_
  rintro e w1 ⟨rfl, hx1⟩
  go_wp2
  go_ret
  exact ⟨rfl, hx1⟩
theorem SSubtract_no (s b c s2 b2 c2 : Nat) (C C2 : Cfg) (lv lv2 : Int) (R W R2 W2 : Nat) (l l2 : List Int) (w : World) (h : SAt w s b c C lv R W l) (h2 : SAt w s2 b2 c2 C2 lv2 R2 W2 l2) (hp : PartsAt C2 lv2 C lv) :
    Calls Tryz.prog 122 #[.pointer (some ⟨s, 0, none⟩), .pointer (some ⟨s2, 0, none⟩)] w fun e w' => e = .returned (.int .i64 5) ∧ Ext w w' := by
  go_enter Tryz.func122, Tryz.ntmps122
  go_wp2_with fail
  refine Calls.mono (alike_no s b c s2 b2 c2 C C2 lv lv2 R W R2 W2 l l2 w h h2 hp) ?_
  rintro e w1 ⟨rfl, hx1⟩
  go_wp2
  go_ret
  exact ⟨rfl, hx1⟩
end Go.Proofs.YteoblkcbemeamaaGreat

/- exact.Merge, exact.Subtract; level.Merge, level.Subtract. -/
namespace Go.Proofs.YteoblkcbemeamaaGreat
set_option linter.unusedVariables false
open Go.RowKit
def EMergePost (w : World) (s b c : Nat) (C : Cfg) (lv : Int) (N : Nat) (m : List Int) (e : Ending) (w' : World) : Prop :=
  (allI m ∧ e = .returned (.int .i64 0) ∧ EAt w' s b c C lv N m ∧ Mod (fun k => k = c) w w') ∨ (¬ allI m ∧ e = .returned (.int .i64 4) ∧ Ext w w')
theorem EAt.putg {w w' : World} {s b c : Nat} {C : Cfg} {lv : Int} {N : Nat} {l m : List Int} (h : EAt w s b c C lv N l) (hg : GAt w' b c 1 N m) (hm : Mod (fun k => k = c) w w') (hi : allI m) : EAt w' s b c C lv N m :=
  ⟨by rw [hm.block s h.lts h.nes]; exact h.ex, hg, h.ok, h.lo, h.hi, h.hk, hi⟩
set_option maxRecDepth 20000 in
set_option maxHeartbeats 4000000 in
theorem EJoinPlus_c (s b c s2 b2 c2 : Nat) (C : Cfg) (lv : Int) (N : Nat) (l l2 : List Int) (w : World) (h : EAt w s b c C lv N l) (h2 : EAt w s2 b2 c2 C lv N l2) :
    Calls Tryz.prog 156 #[.pointer (some ⟨s, 0, none⟩), .pointer (some ⟨s2, 0, none⟩), .func (.func 155) #[] #[], .bool true] w (EMergePost w s b c C lv N (plusL l l2)) := by
  have HH := Lib.hid h
  have H2 := Lib.hid h2
  have c0 := (cell_of h.ex 0).trans rfl
  have c1 := (cell_of h.ex 1).trans rfl
  have c2' := (cell_of h.ex 2).trans rfl
  have c3 := (cell_of h.ex 3).trans rfl
  have c4 := (cell_of h.ex 4).trans rfl
  have c5 := (cell_of h.ex 5).trans rfl
  have d0 := (cell_of h2.ex 0).trans rfl
  have d1 := (cell_of h2.ex 1).trans rfl
  have d2 := (cell_of h2.ex 2).trans rfl
  have d3 := (cell_of h2.ex 3).trans rfl
  have d4 := (cell_of h2.ex 4).trans rfl
  have d5 := (cell_of h2.ex 5).trans rfl
  have l1 := h.lts
  have l2' := h2.lts
  clear h h2
  go_enter Tryz.func156, Tryz.ntmps156
  go_wp2_with fail
  refine wp_region_after (by kernel_rfl) (by kernel_rfl) ?_
  repeat (go_big_quiet_step (fail))
  refine wpQuiet_nil ?_
  rintro _ ⟨xx, rfl⟩
  obtain ⟨w1, hb1⟩ := xx
  try dsimp only
  clear c0 c1 c2' c3 c4 c5 d0 d1 d2 d3 d4 d5 l1 l2'
  have h' := HH.out.ext hb1
  have h2' := H2.out.ext hb1
  have c6 := (cell_of h'.ex 6).trans rfl
  have d6 := (cell_of h2'.ex 6).trans rfl
  have l1 := h'.lts
  have l2' := h2'.lts
  have hG1 := h'.g.ext (Below.drew (Ext.refl w1))
  have hG2 := h2'.g.ext (Below.drew (Ext.refl w1))
  have hf1 := h'.fit
  have hf2 := h2'.fit
  clear h' h2'
  go_wp2_with fail
  have hC0 := af_drew w1
  refine pi_start (fun w' => ∃ x : After w1, w' = x.w) [9] (by kernel_rfl) ?_
  refine pi_t 0 rfl (by kernel_rfl) (by kernel_rfl) (fun _ _ _ _ h => h) (fun K hK => ?_)
  go_big_quiet_op
  refine hK _ ?_
  clear hK K
  refine pi_t 1 rfl (by kernel_rfl) (by kernel_rfl) (fun _ _ _ _ h => h) (fun K hK => ?_)
  go_big_quiet_op
  refine hK _ ?_
  clear hK K
  refine pi_t 2 rfl (by kernel_rfl) (by kernel_rfl) (fun _ _ _ _ h => h) (fun K hK => ?_)
  go_big_quiet_op
  refine hK _ ?_
  clear hK K
  refine pi_t 3 rfl (by kernel_rfl) (by kernel_rfl) (fun _ _ _ _ h => h) (fun K hK => ?_)
  go_big_quiet_op
  refine hK _ ?_
  clear hK K
  refine pi_t 5 rfl (by kernel_rfl) (by kernel_rfl) (fun _ _ _ _ h => h) (fun K hK => ?_)
  go_big_quiet_op
  refine hK _ ?_
  clear hK K
  refine pi_t 6 rfl (by kernel_rfl) (by kernel_rfl) (fun _ _ _ _ h => h) (fun K hK => ?_)
  go_big_quiet_op
  refine hK _ ?_
  clear hK K
  refine pi_t 7 rfl (by kernel_rfl) (by kernel_rfl) (fun _ _ _ _ h => h) (fun K hK => ?_)
  go_big_quiet_op
  refine hK _ ?_
  clear hK K
  refine pi_c 4 (by assumption) rfl (by kernel_rfl) (by kernel_rfl) (fun _ _ _ _ h => h) (fun K hK => ?_)
  go_big_quiet_op
  refine hK _ ?_
  clear hK K
  refine pi_c 8 (by assumption) rfl (by kernel_rfl) (by kernel_rfl) (fun _ _ _ _ h => h) (fun K hK => ?_)
  go_big_quiet_op
  refine hK _ ?_
  clear hK K
  refine pi_l 9 rfl (by kernel_rfl) (fun K hK => ?_)
  go_wp2_with fail
  refine Calls.mono (GPlus_c b c b2 c2 1 N l l2 _ hG1 hG2 hf1 hf2) ?_
  intro e w2 hr0
  obtain ⟨z, rfl, hr⟩ := join_ret hr0
  clear hr0
  go_wp2
  refine hK _ _ (by simp) ?_
  clear hK K
  refine pi_t 10 rfl (by kernel_rfl) (by kernel_rfl) (fun _ _ _ _ h => h) (fun K hK => ?_)
  go_big_quiet_op
  refine hK _ ?_
  clear hK K
  refine pi_end (by kernel_rfl) ?_
  go_wp2
  go_ret
  have hx2 : Ext w w1.drew := Below.drew hb1
  rcases hr with ⟨rfl, ha, hg, hm⟩ | ⟨rfl, ha, hx⟩
  · have hm' : Mod (fun k => k = c) w w2 := (hx2.mod _).trans hm
    exact .inl ⟨ha, rfl, HH.out.putg hg hm' ha, hm'⟩
  · exact .inr ⟨ha, rfl, hx2.trans' hx⟩
set_option maxRecDepth 20000 in
set_option maxHeartbeats 4000000 in
theorem EJoinMinus_c (s b c s2 b2 c2 : Nat) (C : Cfg) (lv : Int) (N : Nat) (l l2 : List Int) (w : World) (h : EAt w s b c C lv N l) (h2 : EAt w s2 b2 c2 C lv N l2) :
    Calls Tryz.prog 156 #[.pointer (some ⟨s, 0, none⟩), .pointer (some ⟨s2, 0, none⟩), .func (.func 158) #[] #[], .bool true] w (EMergePost w s b c C lv N (minusL l l2)) := by
  have HH := Lib.hid h
  have H2 := Lib.hid h2
  have c0 := (cell_of h.ex 0).trans rfl
  have c1 := (cell_of h.ex 1).trans rfl
  have c2' := (cell_of h.ex 2).trans rfl
  have c3 := (cell_of h.ex 3).trans rfl
  have c4 := (cell_of h.ex 4).trans rfl
  have c5 := (cell_of h.ex 5).trans rfl
  have d0 := (cell_of h2.ex 0).trans rfl
  have d1 := (cell_of h2.ex 1).trans rfl
  have d2 := (cell_of h2.ex 2).trans rfl
  have d3 := (cell_of h2.ex 3).trans rfl
  have d4 := (cell_of h2.ex 4).trans rfl
  have d5 := (cell_of h2.ex 5).trans rfl
  have l1 := h.lts
  have l2' := h2.lts
  clear h h2
  go_enter Tryz.func156, Tryz.ntmps156
  go_wp2_with fail
  refine wp_region_after (by kernel_rfl) (by kernel_rfl) ?_
  repeat (go_big_quiet_step (fail))
  refine wpQuiet_nil ?_
  rintro _ ⟨xx, rfl⟩
  obtain ⟨w1, hb1⟩ := xx
  try dsimp only
  clear c0 c1 c2' c3 c4 c5 d0 d1 d2 d3 d4 d5 l1 l2'
  have h' := HH.out.ext hb1
  have h2' := H2.out.ext hb1
  have c6 := (cell_of h'.ex 6).trans rfl
  have d6 := (cell_of h2'.ex 6).trans rfl
  have l1 := h'.lts
  have l2' := h2'.lts
  have hG1 := h'.g.ext (Below.drew (Ext.refl w1))
  have hG2 := h2'.g.ext (Below.drew (Ext.refl w1))
  have hf1 := h'.fit
  have hf2 := h2'.fit
  clear h' h2'
  go_wp2_with fail
  have hC0 := af_drew w1
  refine pi_start (fun w' => ∃ x : After w1, w' = x.w) [9] (by kernel_rfl) ?_
  refine pi_t 0 rfl (by kernel_rfl) (by kernel_rfl) (fun _ _ _ _ h => h) (fun K hK => ?_)
  go_big_quiet_op
  refine hK _ ?_
  clear hK K
  refine pi_t 1 rfl (by kernel_rfl) (by kernel_rfl) (fun _ _ _ _ h => h) (fun K hK => ?_)
  go_big_quiet_op
  refine hK _ ?_
  clear hK K
  refine pi_t 2 rfl (by kernel_rfl) (by kernel_rfl) (fun _ _ _ _ h => h) (fun K hK => ?_)
  go_big_quiet_op
  refine hK _ ?_
  clear hK K
  refine pi_t 3 rfl (by kernel_rfl) (by kernel_rfl) (fun _ _ _ _ h => h) (fun K hK => ?_)
  go_big_quiet_op
  refine hK _ ?_
  clear hK K
  refine pi_t 5 rfl (by kernel_rfl) (by kernel_rfl) (fun _ _ _ _ h => h) (fun K hK => ?_)
  go_big_quiet_op
  refine hK _ ?_
  clear hK K
  refine pi_t 6 rfl (by kernel_rfl) (by kernel_rfl) (fun _ _ _ _ h => h) (fun K hK => ?_)
  go_big_quiet_op
  refine hK _ ?_
  clear hK K
  refine pi_t 7 rfl (by kernel_rfl) (by kernel_rfl) (fun _ _ _ _ h => h) (fun K hK => ?_)
  go_big_quiet_op
  refine hK _ ?_
  clear hK K
  refine pi_c 4 (by assumption) rfl (by kernel_rfl) (by kernel_rfl) (fun _ _ _ _ h => h) (fun K hK => ?_)
  go_big_quiet_op
  refine hK _ ?_
  clear hK K
  refine pi_c 8 (by assumption) rfl (by kernel_rfl) (by kernel_rfl) (fun _ _ _ _ h => h) (fun K hK => ?_)
  go_big_quiet_op
  refine hK _ ?_
  clear hK K
  refine pi_l 9 rfl (by kernel_rfl) (fun K hK => ?_)
  go_wp2_with fail
  refine Calls.mono (GMinus_c b c b2 c2 1 N l l2 _ hG1 hG2 hf1 hf2) ?_
  intro e w2 hr0
  obtain ⟨z, rfl, hr⟩ := join_ret hr0
  clear hr0
  go_wp2
  refine hK _ _ (by simp) ?_
  clear hK K
  refine pi_t 10 rfl (by kernel_rfl) (by kernel_rfl) (fun _ _ _ _ h => h) (fun K hK => ?_)
  go_big_quiet_op
  refine hK _ ?_
  clear hK K
  refine pi_end (by kernel_rfl) ?_
  go_wp2
  go_ret
  have hx2 : Ext w w1.drew := Below.drew hb1
  rcases hr with ⟨rfl, ha, hg, hm⟩ | ⟨rfl, ha, hx⟩
  · have hm' : Mod (fun k => k = c) w w2 := (hx2.mod _).trans hm
    exact .inl ⟨ha, rfl, HH.out.putg hg hm' ha, hm'⟩
  · exact .inr ⟨ha, rfl, hx2.trans' hx⟩
set_option maxRecDepth 20000 in
set_option maxHeartbeats 4000000 in
theorem EMerge_c (s b c s2 b2 c2 : Nat) (C : Cfg) (lv : Int) (N : Nat) (l l2 : List Int) (w : World) (h : EAt w s b c C lv N l) (h2 : EAt w s2 b2 c2 C lv N l2) :
    Calls Tryz.prog 119 #[.pointer (some ⟨s, 0, none⟩), .pointer (some ⟨s2, 0, none⟩)] w (EMergePost w s b c C lv N (plusL l l2)) := by
  go_enter Tryz.func119, Tryz.ntmps119
  go_wp2_with fail
  refine Calls.mono (EJoinPlus_c s b c s2 b2 c2 C lv N l l2 w h h2) ?_
  rintro e w' (⟨ha, rfl, hg, hm⟩ | ⟨ha, rfl, hx⟩)
  · go_wp2
    go_ret
    exact .inl ⟨ha, rfl, hg, hm⟩
  · go_wp2
    go_ret
    exact .inr ⟨ha, rfl, hx⟩
set_option maxRecDepth 20000 in
set_option maxHeartbeats 4000000 in
theorem ESubtract_c (s b c s2 b2 c2 : Nat) (C : Cfg) (lv : Int) (N : Nat) (l l2 : List Int) (w : World) (h : EAt w s b c C lv N l) (h2 : EAt w s2 b2 c2 C lv N l2) (hm : C.mode ≠ 2) :
    Calls Tryz.prog 123 #[.pointer (some ⟨s, 0, none⟩), .pointer (some ⟨s2, 0, none⟩)] w (EMergePost w s b c C lv N (minusL l l2)) := by
  have hmb : (C.mode == 2) = false := by simpa using hm
  have hmb2 : (C.mode != 2) = true := by simpa using hm
  have c3 := (cell_of h.ex 3).trans rfl
  have l1 := h.lts
  have HJ := Lib.hid (EJoinMinus_c s b c s2 b2 c2 C lv N l l2 w h h2)
  clear hm h h2
  go_enter Tryz.func123, Tryz.ntmps123
  go_wp2_with fail
  refine Calls.mono HJ.out ?_
  rintro e w' (⟨ha, rfl, hg, hm⟩ | ⟨ha, rfl, hx⟩)
  · go_wp2
    go_ret
    exact .inl ⟨ha, rfl, hg, hm⟩
  · go_wp2
    go_ret
    exact .inr ⟨ha, rfl, hx⟩
set_option maxRecDepth 20000 in
set_option maxHeartbeats 4000000 in
/-- In the mode Conservative nothing is taken away. -/
theorem ESubtract_mode (s b c s2 b2 c2 : Nat) (C : Cfg) (lv : Int) (N : Nat) (l l2 : List Int) (w : World) (h : EAt w s b c C lv N l) (h2 : EAt w s2 b2 c2 C lv N l2) (hm : C.mode = 2) :
    Calls Tryz.prog 123 #[.pointer (some ⟨s, 0, none⟩), .pointer (some ⟨s2, 0, none⟩)] w fun e w' => e = .returned (.int .i64 3) ∧ Ext w w' := by
  have hj : Calls Tryz.prog 156 #[.pointer (some ⟨s, 0, none⟩), .pointer (some ⟨s2, 0, none⟩), .func (.func 158) #[] #[], .bool false] w fun e w' => e = .returned (.int .i64 3) ∧ Ext w w' := by
    have c0 := (cell_of h.ex 0).trans rfl
    have c1 := (cell_of h.ex 1).trans rfl
    have c2' := (cell_of h.ex 2).trans rfl
    have c3 := (cell_of h.ex 3).trans rfl
    have c4 := (cell_of h.ex 4).trans rfl
    have c5 := (cell_of h.ex 5).trans rfl
    have d0 := (cell_of h2.ex 0).trans rfl
    have d1 := (cell_of h2.ex 1).trans rfl
    have d2 := (cell_of h2.ex 2).trans rfl
    have d3 := (cell_of h2.ex 3).trans rfl
    have d4 := (cell_of h2.ex 4).trans rfl
    have d5 := (cell_of h2.ex 5).trans rfl
    have l1 := h.lts
    have l2' := h2.lts
    clear h h2 hm
    go_enter Tryz.func156, Tryz.ntmps156
    go_wp2_with fail
    refine wp_region_after (by kernel_rfl) (by kernel_rfl) ?_
    repeat (go_big_quiet_step (fail))
    refine wpQuiet_nil ?_
    rintro _ ⟨xx, rfl⟩
    obtain ⟨w1, hb1⟩ := xx
    try dsimp only
    go_wp2
    go_ret
    exact ⟨rfl, hb1⟩
  have c3 := (cell_of h.ex 3).trans (show _ = some (Value.int .i64 2) by rw [← hm]; rfl)
  have l1 := h.lts
  clear hm
  go_enter Tryz.func123, Tryz.ntmps123
  go_wp2_with fail
  refine Calls.mono hj ?_
  rintro e w' ⟨rfl, hx⟩
  go_wp2
  go_ret
  exact ⟨rfl, hx⟩
set_option maxRecDepth 20000 in
set_option maxHeartbeats 8000000 in
/-- Unlike arrays are not put together. -/
theorem EJoin_no (P : Nat) (may : Bool) (s b c s2 b2 c2 : Nat) (C C2 : Cfg) (lv lv2 : Int) (N N2 : Nat) (l l2 : List Int) (w : World) (h : EAt w s b c C lv N l) (h2 : EAt w s2 b2 c2 C2 lv2 N2 l2) (hp : PartsAt C2 lv2 C lv) :
    Calls Tryz.prog 156 #[.pointer (some ⟨s, 0, none⟩), .pointer (some ⟨s2, 0, none⟩), .func (.func P) #[] #[], .bool may] w fun e w' => e = .returned (.int .i64 5) ∧ Ext w w' := by
  have c0 := (cell_of h.ex 0).trans rfl
  have c1 := (cell_of h.ex 1).trans rfl
  have c2' := (cell_of h.ex 2).trans rfl
  have c3 := (cell_of h.ex 3).trans rfl
  have c4 := (cell_of h.ex 4).trans rfl
  have c5 := (cell_of h.ex 5).trans rfl
  have d0 := (cell_of h2.ex 0).trans rfl
  have d1 := (cell_of h2.ex 1).trans rfl
  have d2 := (cell_of h2.ex 2).trans rfl
  have d3 := (cell_of h2.ex 3).trans rfl
  have d4 := (cell_of h2.ex 4).trans rfl
  have d5 := (cell_of h2.ex 5).trans rfl
  have l1 := h.lts
  have l2' := h2.lts
  clear h h2
  rcases hp with h | ⟨h0, h⟩ | ⟨h0, h1, h⟩ | ⟨h0, h1, h2, h⟩ | ⟨h0, h1, h2, h3, h⟩ | ⟨h0, h1, h2, h3, h4, h⟩
  all_goals
    go_enter Tryz.func156, Tryz.ntmps156
    go_wp2_with fail
    refine wp_region_after (by kernel_rfl) (by kernel_rfl) ?_
    repeat (go_big_quiet_step (fail))
    refine wpQuiet_nil ?_
    rintro _ ⟨xx, rfl⟩
    obtain ⟨w1, hb1⟩ := xx
    try dsimp only
    go_wp2
    go_ret
    exact ⟨rfl, hb1⟩
set_option maxRecDepth 20000 in
set_option maxHeartbeats 4000000 in
theorem EMerge_no (s b c s2 b2 c2 : Nat) (C C2 : Cfg) (lv lv2 : Int) (N N2 : Nat) (l l2 : List Int) (w : World) (h : EAt w s b c C lv N l) (h2 : EAt w s2 b2 c2 C2 lv2 N2 l2) (hp : PartsAt C2 lv2 C lv) :
    Calls Tryz.prog 119 #[.pointer (some ⟨s, 0, none⟩), .pointer (some ⟨s2, 0, none⟩)] w fun e w' => e = .returned (.int .i64 5) ∧ Ext w w' := by
  have hj := EJoin_no 155 true s b c s2 b2 c2 C C2 lv lv2 N N2 l l2 w h h2 hp
  have HJ := Lib.hid hj
  clear hj h h2 hp
  go_enter Tryz.func119, Tryz.ntmps119
  go_wp2_with fail
  refine Calls.mono HJ.out ?_
  rintro e w' ⟨rfl, hx⟩
  go_wp2
  go_ret
  exact ⟨rfl, hx⟩
set_option maxRecDepth 20000 in
set_option maxHeartbeats 4000000 in
theorem ESubtract_no (s b c s2 b2 c2 : Nat) (C C2 : Cfg) (lv lv2 : Int) (N N2 : Nat) (l l2 : List Int) (w : World) (h : EAt w s b c C lv N l) (h2 : EAt w s2 b2 c2 C2 lv2 N2 l2) (hp : PartsAt C2 lv2 C lv) :
    Calls Tryz.prog 123 #[.pointer (some ⟨s, 0, none⟩), .pointer (some ⟨s2, 0, none⟩)] w fun e w' => e = .returned (.int .i64 5) ∧ Ext w w' := by
  have hj := fun may => EJoin_no 158 may s b c s2 b2 c2 C C2 lv lv2 N N2 l l2 w h h2 hp
  have c3 := (cell_of h.ex 3).trans rfl
  have l1 := h.lts
  have HJ := Lib.hid hj
  clear hj h h2 hp
  by_cases hm : C.mode = 2
  · replace c3 : w.cell? ⟨s, 3, none⟩ = some (Value.int .i64 2) := by rw [← hm]; exact c3
    go_enter Tryz.func123, Tryz.ntmps123
    go_wp2_with fail
    refine Calls.mono (HJ.out _) ?_
    rintro e w' ⟨rfl, hx⟩
    go_wp2
    go_ret
    exact ⟨rfl, hx⟩
  · have hmb : (C.mode == 2) = false := by simpa using hm
    have hmb2 : (C.mode != 2) = true := by simpa using hm
    clear hm
    go_enter Tryz.func123, Tryz.ntmps123
    go_wp2_with fail
    refine Calls.mono (HJ.out _) ?_
    rintro e w' ⟨rfl, hx⟩
    go_wp2
    go_ret
    exact ⟨rfl, hx⟩
end Go.Proofs.YteoblkcbemeamaaGreat

/- level.Merge, level.Subtract. -/
namespace Go.Proofs.YteoblkcbemeamaaGreat
set_option linter.unusedVariables false
open Go.RowKit
set_option maxRecDepth 20000 in
theorem sk_ss (s s2 : Nat) (w : World) :
    Calls Tryz.prog 116 #[.iface 169 (.pointer (some ⟨s, 0, none⟩)), .iface 169 (.pointer (some ⟨s2, 0, none⟩))] w fun e w' => e = .returned (.tuple #[.pointer (some ⟨s, 0, none⟩), .pointer (some ⟨s2, 0, none⟩), .bool true]) ∧ w = w' := by
  go_enter Tryz.func116, Tryz.ntmps116
  go_wp2_with fail
  refine (AsSketch_s s2 w).mono ?_
  rintro e w1 ⟨rfl, rfl⟩
  go_wp2_with fail
  refine (AsSketch_s s w).mono ?_
  rintro e w1 ⟨rfl, rfl⟩
  go_wp2_with fail
  refine (MustSketch_s s2 w).mono ?_
  rintro e w1 ⟨rfl, rfl⟩
  go_wp2
  go_ret3
  exact ⟨rfl, rfl⟩
set_option maxRecDepth 20000 in
theorem sk_xs (s s2 : Nat) (w : World) :
    Calls Tryz.prog 116 #[.iface 174 (.pointer (some ⟨s, 0, none⟩)), .iface 169 (.pointer (some ⟨s2, 0, none⟩))] w fun e w' => e = .returned (.tuple #[.pointer none, .pointer (some ⟨s2, 0, none⟩), .bool false]) ∧ w = w' := by
  go_enter Tryz.func116, Tryz.ntmps116
  go_wp2_with fail
  refine (AsSketch_s s2 w).mono ?_
  rintro e w1 ⟨rfl, rfl⟩
  go_wp2_with fail
  refine (AsSketch_x s w).mono ?_
  rintro e w1 ⟨rfl, rfl⟩
  go_wp2_with fail
  refine (MustSketch_s s2 w).mono ?_
  rintro e w1 ⟨rfl, rfl⟩
  go_wp2
  go_ret3
  exact ⟨rfl, rfl⟩
set_option maxRecDepth 20000 in
theorem sk_ix (t : TypeId) (s s2 : Nat) (w : World) :
    Calls Tryz.prog 116 #[.iface t (.pointer (some ⟨s, 0, none⟩)), .iface 174 (.pointer (some ⟨s2, 0, none⟩))] w fun e w' => e = .returned (.tuple #[.pointer none, .pointer none, .bool false]) ∧ w = w' := by
  go_enter Tryz.func116, Tryz.ntmps116
  go_wp2_with fail
  refine (AsSketch_x s2 w).mono ?_
  rintro e w1 ⟨rfl, rfl⟩
  go_wp2
  go_ret3
  exact ⟨rfl, rfl⟩
set_option maxRecDepth 20000 in
theorem arr_xx (s s2 : Nat) (w : World) :
    Calls Tryz.prog 118 #[.iface 174 (.pointer (some ⟨s, 0, none⟩)), .iface 174 (.pointer (some ⟨s2, 0, none⟩))] w fun e w' => e = .returned (.tuple #[.pointer (some ⟨s, 0, none⟩), .pointer (some ⟨s2, 0, none⟩), .bool true]) ∧ w = w' := by
  go_enter Tryz.func118, Tryz.ntmps118
  go_wp2
  go_ret3
  exact ⟨rfl, rfl⟩
set_option maxRecDepth 20000 in
theorem arr_sx (s s2 : Nat) (w : World) :
    Calls Tryz.prog 118 #[.iface 169 (.pointer (some ⟨s, 0, none⟩)), .iface 174 (.pointer (some ⟨s2, 0, none⟩))] w fun e w' => e = .returned (.tuple #[.pointer none, .pointer none, .bool false]) ∧ w = w' := by
  go_enter Tryz.func118, Tryz.ntmps118
  go_wp2
  go_ret3
  exact ⟨rfl, rfl⟩
set_option maxRecDepth 20000 in
theorem arr_xs (s s2 : Nat) (w : World) :
    Calls Tryz.prog 118 #[.iface 174 (.pointer (some ⟨s, 0, none⟩)), .iface 169 (.pointer (some ⟨s2, 0, none⟩))] w fun e w' => e = .returned (.tuple #[.pointer none, .pointer none, .bool false]) ∧ w = w' := by
  go_enter Tryz.func118, Tryz.ntmps118
  go_wp2
  go_ret3
  exact ⟨rfl, rfl⟩
set_option maxRecDepth 20000 in
set_option maxHeartbeats 4000000 in
theorem SSubtract_mode (s b c s2 b2 c2 : Nat) (C : Cfg) (lv : Int) (R W : Nat) (l l2 : List Int) (w : World) (h : SAt w s b c C lv R W l) (h2 : SAt w s2 b2 c2 C lv R W l2) (hm : C.mode = 2) :
    Calls Tryz.prog 122 #[.pointer (some ⟨s, 0, none⟩), .pointer (some ⟨s2, 0, none⟩)] w fun e w' => e = .returned (.int .i64 3) ∧ Ext w w' := by
  have HJ := Lib.hid (alike_yes s b c s2 b2 c2 C lv R W l l2 w h h2)
  have HH := Lib.hid h
  have HM := Lib.hid hm
  clear h h2 hm
  go_enter Tryz.func122, Tryz.ntmps122
  go_wp2_with fail
  refine Calls.mono HJ.out ?_
  rintro e w1 ⟨rfl, hx1⟩
  have h' := HH.out.ext hx1
  have c4 := (cell_of h'.ex 4).trans (show _ = some (Value.int .i64 2) by rw [← HM.out]; rfl)
  have l1 := h'.lts
  clear h'
  go_wp2
  go_ret
  exact ⟨rfl, hx1⟩
def LMergePost (w : World) (L : Lev) (C : Cfg) (lv : Int) (m : List Int) (e : Ending) (w' : World) : Prop :=
  (allI m ∧ e = .returned (.int .i64 0) ∧ LvAt w' L C lv m ∧ Mod (fun k => k = L.c) w w') ∨ (¬ allI m ∧ e = .returned (.int .i64 4) ∧ Ext w w')
set_option maxRecDepth 20000 in
set_option maxHeartbeats 4000000 in
theorem LMerge_c (C : Cfg) (lv : Int) (L L2 : Lev) (l l2 : List Int) (w : World) (h : LvAt w L C lv l) (h2 : LvAt w L2 C lv l2) :
    Calls Tryz.prog 51 #[lvV C lv L, lvV C lv L2] w (LMergePost w L C lv (plusL l l2)) := by
  cases hx : isX C lv with
  | true =>
    have HJ := Lib.hid (EMerge_c _ _ _ _ _ _ C lv _ l l2 w (h.x hx) (h2.x hx))
    have HX := Lib.hid hx
    rw [lvV_x hx, lvV_x hx]
    clear hx h h2
    go_enter Tryz.func51, Tryz.ntmps51
    go_wp2_with fail
    refine (sk_ix _ _ _ _).mono ?_
    rintro e w1 ⟨rfl, rfl⟩
    go_wp2_with fail
    refine (arr_xx _ _ _).mono ?_
    rintro e w1 ⟨rfl, rfl⟩
    go_wp2_with fail
    refine Calls.mono HJ.out ?_
    rintro e w' (⟨ha, rfl, hg, hm⟩ | ⟨ha, rfl, hx⟩)
    · go_wp2
      go_ret
      exact .inl ⟨ha, rfl, .inl ⟨HX.out, hg⟩, hm⟩
    · go_wp2
      go_ret
      exact .inr ⟨ha, rfl, hx⟩
  | false =>
    have HJ := Lib.hid (SMerge_c _ _ _ _ _ _ C lv _ _ l l2 w (h.sk hx) (h2.sk hx))
    have HX := Lib.hid hx
    rw [lvV_s hx, lvV_s hx]
    clear hx h h2
    go_enter Tryz.func51, Tryz.ntmps51
    go_wp2_with fail
    refine (sk_ss _ _ _).mono ?_
    rintro e w1 ⟨rfl, rfl⟩
    go_wp2_with fail
    refine Calls.mono HJ.out ?_
    rintro e w' (⟨ha, rfl, hg, hm⟩ | ⟨ha, rfl, hx⟩)
    · go_wp2
      go_ret
      exact .inl ⟨ha, rfl, .inr ⟨HX.out, hg⟩, hm⟩
    · go_wp2
      go_ret
      exact .inr ⟨ha, rfl, hx⟩
set_option maxRecDepth 20000 in
set_option maxHeartbeats 4000000 in
theorem LSubtract_c (C : Cfg) (lv : Int) (L L2 : Lev) (l l2 : List Int) (w : World) (h : LvAt w L C lv l) (h2 : LvAt w L2 C lv l2) (hm : C.mode ≠ 2) :
    Calls Tryz.prog 53 #[lvV C lv L, lvV C lv L2] w (LMergePost w L C lv (minusL l l2)) := by
  cases hx : isX C lv with
  | true =>
    have HJ := Lib.hid (ESubtract_c _ _ _ _ _ _ C lv _ l l2 w (h.x hx) (h2.x hx) hm)
    have HX := Lib.hid hx
    rw [lvV_x hx, lvV_x hx]
    clear hx h h2 hm
    go_enter Tryz.func53, Tryz.ntmps53
    go_wp2_with fail
    refine (sk_ix _ _ _ _).mono ?_
    rintro e w1 ⟨rfl, rfl⟩
    go_wp2_with fail
    refine (arr_xx _ _ _).mono ?_
    rintro e w1 ⟨rfl, rfl⟩
    go_wp2_with fail
    refine Calls.mono HJ.out ?_
    rintro e w' (⟨ha, rfl, hg, hm⟩ | ⟨ha, rfl, hx⟩)
    · go_wp2
      go_ret
      exact .inl ⟨ha, rfl, .inl ⟨HX.out, hg⟩, hm⟩
    · go_wp2
      go_ret
      exact .inr ⟨ha, rfl, hx⟩
  | false =>
    have HJ := Lib.hid (SSubtract_c _ _ _ _ _ _ C lv _ _ l l2 w (h.sk hx) (h2.sk hx) hm)
    have HX := Lib.hid hx
    rw [lvV_s hx, lvV_s hx]
    clear hx h h2 hm
    go_enter Tryz.func53, Tryz.ntmps53
    go_wp2_with fail
    refine (sk_ss _ _ _).mono ?_
    rintro e w1 ⟨rfl, rfl⟩
    go_wp2_with fail
    refine Calls.mono HJ.out ?_
    rintro e w' (⟨ha, rfl, hg, hm⟩ | ⟨ha, rfl, hx⟩)
    · go_wp2
      go_ret
      exact .inl ⟨ha, rfl, .inr ⟨HX.out, hg⟩, hm⟩
    · go_wp2
      go_ret
      exact .inr ⟨ha, rfl, hx⟩
set_option maxRecDepth 20000 in
set_option maxHeartbeats 4000000 in
theorem LSubtract_mode (C : Cfg) (lv : Int) (L L2 : Lev) (l l2 : List Int) (w : World) (h : LvAt w L C lv l) (h2 : LvAt w L2 C lv l2) (hm : C.mode = 2) :
    Calls Tryz.prog 53 #[lvV C lv L, lvV C lv L2] w fun e w' => e = .returned (.int .i64 3) ∧ Ext w w' := by
  cases hx : isX C lv with
  | true =>
    have HJ := Lib.hid (ESubtract_mode _ _ _ _ _ _ C lv _ l l2 w (h.x hx) (h2.x hx) hm)
    rw [lvV_x hx, lvV_x hx]
    clear hx h h2 hm
    go_enter Tryz.func53, Tryz.ntmps53
    go_wp2_with fail
    refine (sk_ix _ _ _ _).mono ?_
    rintro e w1 ⟨rfl, rfl⟩
    go_wp2_with fail
    refine (arr_xx _ _ _).mono ?_
    rintro e w1 ⟨rfl, rfl⟩
    go_wp2_with fail
    refine Calls.mono HJ.out ?_
    rintro e w' ⟨rfl, hx⟩
    go_wp2
    go_ret
    exact ⟨rfl, hx⟩
  | false =>
    have HJ := Lib.hid (SSubtract_mode _ _ _ _ _ _ C lv _ _ l l2 w (h.sk hx) (h2.sk hx) hm)
    rw [lvV_s hx, lvV_s hx]
    clear hx h h2 hm
    go_enter Tryz.func53, Tryz.ntmps53
    go_wp2_with fail
    refine (sk_ss _ _ _).mono ?_
    rintro e w1 ⟨rfl, rfl⟩
    go_wp2_with fail
    refine Calls.mono HJ.out ?_
    rintro e w' ⟨rfl, hx⟩
    go_wp2
    go_ret
    exact ⟨rfl, hx⟩
set_option maxRecDepth 20000 in
set_option maxHeartbeats 4000000 in
theorem LMerge_no (C C2 : Cfg) (lv lv2 : Int) (L L2 : Lev) (l l2 : List Int) (w : World) (h : LvAt w L C lv l) (h2 : LvAt w L2 C2 lv2 l2) (hp : PartsAt C2 lv2 C lv) :
    Calls Tryz.prog 51 #[lvV C lv L, lvV C2 lv2 L2] w fun e w' => e = .returned (.int .i64 5) ∧ Ext w w' := by
  cases hx : isX C lv with
  | true =>
    cases hy : isX C2 lv2 with
    | true =>
      have HJ := Lib.hid (EMerge_no _ _ _ _ _ _ C C2 lv lv2 _ _ l l2 w (h.x hx) (h2.x hy) hp)
      rw [lvV_x hx, lvV_x hy]
      clear hx hy h h2 hp
      go_enter Tryz.func51, Tryz.ntmps51
      go_wp2_with fail
      refine (sk_ix _ _ _ _).mono ?_
      rintro e w1 ⟨rfl, rfl⟩
      go_wp2_with fail
      refine (arr_xx _ _ _).mono ?_
      rintro e w1 ⟨rfl, rfl⟩
      go_wp2_with fail
      refine Calls.mono HJ.out ?_
      rintro e w' ⟨rfl, hx⟩
      go_wp2
      go_ret
      exact ⟨rfl, hx⟩
    | false =>
      rw [lvV_x hx, lvV_s hy]
      clear hx hy h h2 hp
      go_enter Tryz.func51, Tryz.ntmps51
      go_wp2_with fail
      refine (sk_xs _ _ _).mono ?_
      rintro e w1 ⟨rfl, rfl⟩
      go_wp2_with fail
      refine (arr_xs _ _ _).mono ?_
      rintro e w1 ⟨rfl, rfl⟩
      go_wp2
      go_ret
      exact ⟨rfl, Ext.refl _⟩
  | false =>
    cases hy : isX C2 lv2 with
    | true =>
      rw [lvV_s hx, lvV_x hy]
      clear hx hy h h2 hp
      go_enter Tryz.func51, Tryz.ntmps51
      go_wp2_with fail
      refine (sk_ix _ _ _ _).mono ?_
      rintro e w1 ⟨rfl, rfl⟩
      go_wp2_with fail
      refine (arr_sx _ _ _).mono ?_
      rintro e w1 ⟨rfl, rfl⟩
      go_wp2
      go_ret
      exact ⟨rfl, Ext.refl _⟩
    | false =>
      have HJ := Lib.hid (SMerge_no _ _ _ _ _ _ C C2 lv lv2 _ _ _ _ l l2 w (h.sk hx) (h2.sk hy) hp)
      rw [lvV_s hx, lvV_s hy]
      clear hx hy h h2 hp
      go_enter Tryz.func51, Tryz.ntmps51
      go_wp2_with fail
      refine (sk_ss _ _ _).mono ?_
      rintro e w1 ⟨rfl, rfl⟩
      go_wp2_with fail
      refine Calls.mono HJ.out ?_
      rintro e w' ⟨rfl, hx⟩
      go_wp2
      go_ret
      exact ⟨rfl, hx⟩
set_option maxRecDepth 20000 in
set_option maxHeartbeats 4000000 in
theorem LSubtract_no (C C2 : Cfg) (lv lv2 : Int) (L L2 : Lev) (l l2 : List Int) (w : World) (h : LvAt w L C lv l) (h2 : LvAt w L2 C2 lv2 l2) (hp : PartsAt C2 lv2 C lv) :
    Calls Tryz.prog 53 #[lvV C lv L, lvV C2 lv2 L2] w fun e w' => e = .returned (.int .i64 5) ∧ Ext w w' := by
  cases hx : isX C lv with
  | true =>
    cases hy : isX C2 lv2 with
    | true =>
      have HJ := Lib.hid (ESubtract_no _ _ _ _ _ _ C C2 lv lv2 _ _ l l2 w (h.x hx) (h2.x hy) hp)
      rw [lvV_x hx, lvV_x hy]
      clear hx hy h h2 hp
      go_enter Tryz.func53, Tryz.ntmps53
      go_wp2_with fail
      refine (sk_ix _ _ _ _).mono ?_
      rintro e w1 ⟨rfl, rfl⟩
      go_wp2_with fail
      refine (arr_xx _ _ _).mono ?_
      rintro e w1 ⟨rfl, rfl⟩
      go_wp2_with fail
      refine Calls.mono HJ.out ?_
      rintro e w' ⟨rfl, hx⟩
      go_wp2
      go_ret
      exact ⟨rfl, hx⟩
    | false =>
      rw [lvV_x hx, lvV_s hy]
      clear hx hy h h2 hp
      go_enter Tryz.func53, Tryz.ntmps53
      go_wp2_with fail
      refine (sk_xs _ _ _).mono ?_
      rintro e w1 ⟨rfl, rfl⟩
      go_wp2_with fail
      refine (arr_xs _ _ _).mono ?_
      rintro e w1 ⟨rfl, rfl⟩
      go_wp2
      go_ret
      exact ⟨rfl, Ext.refl _⟩
  | false =>
    cases hy : isX C2 lv2 with
    | true =>
      rw [lvV_s hx, lvV_x hy]
      clear hx hy h h2 hp
      go_enter Tryz.func53, Tryz.ntmps53
      go_wp2_with fail
      refine (sk_ix _ _ _ _).mono ?_
      rintro e w1 ⟨rfl, rfl⟩
      go_wp2_with fail
      refine (arr_sx _ _ _).mono ?_
      rintro e w1 ⟨rfl, rfl⟩
      go_wp2
      go_ret
      exact ⟨rfl, Ext.refl _⟩
    | false =>
      have HJ := Lib.hid (SSubtract_no _ _ _ _ _ _ C C2 lv lv2 _ _ _ _ l l2 w (h.sk hx) (h2.sk hy) hp)
      rw [lvV_s hx, lvV_s hy]
      clear hx hy h h2 hp
      go_enter Tryz.func53, Tryz.ntmps53
      go_wp2_with fail
      refine (sk_ss _ _ _).mono ?_
      rintro e w1 ⟨rfl, rfl⟩
      go_wp2_with fail
      refine Calls.mono HJ.out ?_
      rintro e w' ⟨rfl, hx⟩
      go_wp2
      go_ret
      exact ⟨rfl, hx⟩
end Go.Proofs.YteoblkcbemeamaaGreat

/- Package stack: a stack that lies in memory; what its calls tell. -/
namespace Go.Proofs.YteoblkcbemeamaaGreat
set_option linter.unusedVariables false
open Go.RowKit

/-- A stack at s: its levels lie at L, and have the cells ls. -/
structure KAt (w : World) (s g : Nat) (C : Cfg) (B : Nat) (L : Nat → Lev) (ls : Nat → List Int) : Prop where
  ex : ∃ cap, w.heap[s]? = some (.cells #[.int .i64 C.bits, .int .i64 C.rows, .int .i64 C.width, .int .i64 C.mode, .int .u64 C.seed, .slice (some ⟨g, 0, none⟩) (B + 1) cap] 132 (0, 0)) ∧ B + 1 ≤ cap
  row : ∃ cur, w.heap[g]? = some (.cells cur 82 (0, 0)) ∧ ∀ n, n ≤ B → cur[n]? = some (lvV C n (L n))
  lev : ∀ n, n ≤ B → LvAt w (L n) C n (ls n)
  sep : ∀ m n, m ≤ B → n ≤ B → m ≠ n → (L m).c ≠ (L n).c
  ok : C.Ok
  hB : C.bits = B
/-- The blocks of its cells. -/
def cellsOf (B : Nat) (L : Nat → Lev) (k : Nat) : Prop := ∃ n, n ≤ B ∧ k = (L n).c
theorem KAt.lts {w : World} {s g : Nat} {C : Cfg} {B : Nat} {L : Nat → Lev} {ls : Nat → List Int} (h : KAt w s g C B L ls) : s < w.heap.size := by
  obtain ⟨cap, h1, _⟩ := h.ex; exact lt_of h1
theorem KAt.ltg {w : World} {s g : Nat} {C : Cfg} {B : Nat} {L : Nat → Lev} {ls : Nat → List Int} (h : KAt w s g C B L ls) : g < w.heap.size := by
  obtain ⟨cur, h1, _⟩ := h.row; exact lt_of h1
theorem KAt.cell {w : World} {s g : Nat} {C : Cfg} {B : Nat} {L : Nat → Lev} {ls : Nat → List Int} (h : KAt w s g C B L ls) {n : Nat} (hn : n ≤ B) : w.cell? ⟨g, n, none⟩ = some (lvV C n (L n)) := by
  obtain ⟨cur, h1, h2⟩ := h.row; rw [cell_of h1]; exact h2 n hn
theorem KAt.isc {w : World} {s g : Nat} {C : Cfg} {B : Nat} {L : Nat → Lev} {ls : Nat → List Int} (h : KAt w s g C B L ls) {k : Nat} (hk : cellsOf B L k) : ∃ cur, w.heap[k]? = some (.cells cur 2 (0, 0)) := by
  obtain ⟨n, hn, rfl⟩ := hk; exact (h.lev n hn).isc
theorem KAt.ltc {w : World} {s g : Nat} {C : Cfg} {B : Nat} {L : Nat → Lev} {ls : Nat → List Int} (h : KAt w s g C B L ls) {k : Nat} (hk : cellsOf B L k) : k < w.heap.size := by
  obtain ⟨n, hn, rfl⟩ := hk; exact (h.lev n hn).ltc
theorem KAt.nots {w : World} {s g : Nat} {C : Cfg} {B : Nat} {L : Nat → Lev} {ls : Nat → List Int} (h : KAt w s g C B L ls) : ¬ cellsOf B L s := by
  intro hk
  obtain ⟨cur, h1⟩ := h.isc hk
  obtain ⟨cap, h2, _⟩ := h.ex
  exact blk_ne h1 h2 (by decide) rfl
theorem KAt.notg {w : World} {s g : Nat} {C : Cfg} {B : Nat} {L : Nat → Lev} {ls : Nat → List Int} (h : KAt w s g C B L ls) : ¬ cellsOf B L g := by
  intro hk
  obtain ⟨cur, h1⟩ := h.isc hk
  obtain ⟨cur', h2, _⟩ := h.row
  exact blk_ne h1 h2 (by decide) rfl
theorem KAt.ext {w w' : World} {s g : Nat} {C : Cfg} {B : Nat} {L : Nat → Lev} {ls : Nat → List Int} (h : KAt w s g C B L ls) (he : Ext w w') : KAt w' s g C B L ls :=
  ⟨by rw [he.block s h.lts]; exact h.ex, by rw [he.block g h.ltg]; exact h.row, fun n hn => (h.lev n hn).ext he, h.sep, h.ok, h.hB⟩
/-- What other cells are changed to does not touch a stack. -/
theorem KAt.mod {S : Nat → Prop} {w w' : World} {s g : Nat} {C : Cfg} {B : Nat} {L : Nat → Lev} {ls : Nat → List Int} (h : KAt w s g C B L ls) (he : Mod S w w') (hS : ∀ k, S k → k < w.heap.size → ∃ cur, w.heap[k]? = some (.cells cur 2 (0, 0))) (hc : ∀ n, n ≤ B → ¬ S (L n).c) : KAt w' s g C B L ls := by
  refine ⟨?_, ?_, fun n hn => (h.lev n hn).mod he hS (hc n hn), h.sep, h.ok, h.hB⟩
  · rw [he.block s h.lts fun hs => ?_]
    · exact h.ex
    · obtain ⟨cur, h1⟩ := hS _ hs h.lts
      obtain ⟨cap, h2, _⟩ := h.ex
      exact blk_ne h1 h2 (by decide) rfl
  · rw [he.block g h.ltg fun hs => ?_]
    · exact h.row
    · obtain ⟨cur, h1⟩ := hS _ hs h.ltg
      obtain ⟨cur', h2, _⟩ := h.row
      exact blk_ne h1 h2 (by decide) rfl
theorem SKConfig_c (s g : Nat) (C : Cfg) (B : Nat) (L : Nat → Lev) (ls : Nat → List Int) (w : World) (h : KAt w s g C B L ls) :
    Calls Tryz.prog 31 #[.pointer (some ⟨s, 0, none⟩)] w fun e w' => e = .returned (.agg #[.int .i64 C.bits, .int .i64 C.rows, .int .i64 C.width, .int .i64 C.mode, .int .u64 C.seed]) ∧ Ext w w' := by
  have hlt := h.lts
  obtain ⟨cap, hex, _⟩ := h.ex
  have c0 := (cell_of hex 0).trans rfl
  have c1 := (cell_of hex 1).trans rfl
  have c2 := (cell_of hex 2).trans rfl
  have c3 := (cell_of hex 3).trans rfl
  have c4 := (cell_of hex 4).trans rfl
  clear h hex
  go_enter Tryz.func31, Tryz.ntmps31
  go_wp2
  exact bodyPost_ret (v := .agg #[.int .i64 C.bits, .int .i64 C.rows, .int .i64 C.width, .int .i64 C.mode, .int .u64 C.seed]) (by simp [results, Tryz.results31, go_sem]) rfl ⟨rfl, by (repeat' (first | exact Ext.refl _ | assumption | apply Ext.allocR | apply Ext.drewR | apply Ext.drewNR | (refine Ext.trans' ?_ (by assumption))))⟩
set_option maxRecDepth 20000 in
theorem level_yes (s g : Nat) (C : Cfg) (B : Nat) (L : Nat → Lev) (ls : Nat → List Int) (w : World) (h : KAt w s g C B L ls) (n : Nat) (hn : n ≤ B) :
    Calls Tryz.prog 82 #[.pointer (some ⟨s, 0, none⟩), .int .i64 n] w fun e w' => e = .returned (.tuple #[lvV C n (L n), .bool true]) ∧ w = w' := by
  have hlt := h.lts
  have hlg := h.ltg
  obtain ⟨cap, hex, hcap⟩ := h.ex
  have c5 := (cell_of hex 5).trans rfl
  have cn := h.cell hn
  have hbt := h.ok.b2
  have hB := h.hB
  generalize lvV C n (L n) = v at *
  clear h hex
  go_enter Tryz.func82, Tryz.ntmps82
  go_wp2
  go_ret2
  exact ⟨rfl, rfl⟩
set_option maxRecDepth 20000 in
theorem level_no (s g : Nat) (C : Cfg) (B : Nat) (L : Nat → Lev) (ls : Nat → List Int) (w : World) (h : KAt w s g C B L ls) (n : Int) (hn : n < 0 ∨ (B : Int) < n) :
    Calls Tryz.prog 82 #[.pointer (some ⟨s, 0, none⟩), .int .i64 n] w fun e w' => e = .returned (.tuple #[.nilIface, .bool false]) ∧ w = w' := by
  have hlt := h.lts
  have hlg := h.ltg
  obtain ⟨cap, hex, hcap⟩ := h.ex
  have c5 := (cell_of hex 5).trans rfl
  have hbt := h.ok.b2
  have hB := h.hB
  clear h hex
  rcases hn with hn | hn
  · go_enter Tryz.func82, Tryz.ntmps82
    go_wp2
    go_ret2
    exact ⟨rfl, rfl⟩
  · by_cases h0 : n < 0
    · go_enter Tryz.func82, Tryz.ntmps82
      go_wp2
      go_ret2
      exact ⟨rfl, rfl⟩
    · have hge : decide ((B : Int) + 1 ≤ n) = true := by simp; omega
      go_enter Tryz.func82, Tryz.ntmps82
      go_wp2
      go_ret2
      exact ⟨rfl, rfl⟩
set_option maxRecDepth 20000 in
theorem KCells_c (s g : Nat) (C : Cfg) (B : Nat) (L : Nat → Lev) (ls : Nat → List Int) (w : World) (h : KAt w s g C B L ls) (n : Nat) (hn : n ≤ B) :
    Calls Tryz.prog 23 #[.pointer (some ⟨s, 0, none⟩), .int .i64 n] w fun e w' => ∃ v, e = .returned v ∧ w'.ownsRow w.heap.size 2 1 v (ls n).length (ints (ls n)) ∧ (v = .slice none 0 0 → False) ∧ Ext w w' := by
  cases hx : isX C n with
  | true =>
    have hA := (h.lev n hn).x hx
    have HX := Lib.hid hx
    clear hx
    go_enter Tryz.func23, Tryz.ntmps23
    go_wp2_with fail
    refine (level_yes s g C B L ls w h n hn).mono ?_
    rintro e w1 ⟨rfl, rfl⟩
    rw [lvV_x HX.out]
    go_wp2_with fail
    refine (ECells_c _ _ _ C _ _ _ _ hA).mono ?_
    rintro e w1 ⟨v, rfl, h1, h2, h3⟩
    go_wp2
    go_ret
    exact ⟨v, rfl, h1, h2, h3⟩
  | false =>
    have hA := (h.lev n hn).sk hx
    have HX := Lib.hid hx
    clear hx
    go_enter Tryz.func23, Tryz.ntmps23
    go_wp2_with fail
    refine (level_yes s g C B L ls w h n hn).mono ?_
    rintro e w1 ⟨rfl, rfl⟩
    rw [lvV_s HX.out]
    go_wp2_with fail
    refine (SCells_c _ _ _ C _ _ _ _ _ hA).mono ?_
    rintro e w1 ⟨v, rfl, h1, h2, h3⟩
    go_wp2
    go_ret
    exact ⟨v, rfl, h1, h2, h3⟩
set_option maxRecDepth 20000 in
theorem KCells_no (s g : Nat) (C : Cfg) (B : Nat) (L : Nat → Lev) (ls : Nat → List Int) (w : World) (h : KAt w s g C B L ls) (n : Int) (hn : n < 0 ∨ (B : Int) < n) :
    Calls Tryz.prog 23 #[.pointer (some ⟨s, 0, none⟩), .int .i64 n] w fun e w' => e = .returned (.slice none 0 0) ∧ w = w' := by
  go_enter Tryz.func23, Tryz.ntmps23
  go_wp2_with fail
  refine (level_no s g C B L ls w h n hn).mono ?_
  rintro e w1 ⟨rfl, rfl⟩
  go_wp2
  go_ret
  exact ⟨rfl, rfl⟩
/-- What Point tells of a level. -/
def lvPt (C : Cfg) (lv : Int) (l : List Int) (key x : Int) : Prop :=
  (isX C lv = true ∧ x = l.getD key.toNat 0) ∨ (isX C lv = false ∧ IsKth (readL (wN C) l (cols C lv key)) (if C.mode = 3 then (rN C - 1) / 2 else 0) x)
theorem lvPt_unique {C : Cfg} {lv : Int} {l : List Int} {key x y : Int} (h : lvPt C lv l key x) (h' : lvPt C lv l key y) : x = y := by
  rcases h with ⟨h1, h2⟩ | ⟨h1, h2⟩ <;> rcases h' with ⟨h3, h4⟩ | ⟨h3, h4⟩
  · rw [h2, h4]
  · rw [h1] at h3; cases h3
  · rw [h1] at h3; cases h3
  · exact kth_unique h2 h4
def KPointPost (w : World) (C : Cfg) (ls : Nat → List Int) (n : Nat) (key : Int) (e : Ending) (w' : World) : Prop :=
  ∃ x, e = .returned (.tuple #[.int .i64 x, .int .i64 0]) ∧ lvPt C n (ls n) key x ∧ Ext w w'
set_option maxRecDepth 20000 in
theorem KPoint_c (s g : Nat) (C : Cfg) (B : Nat) (L : Nat → Lev) (ls : Nat → List Int) (w : World) (h : KAt w s g C B L ls) (n : Nat) (hn : n ≤ B) (key : Int) (hk0 : 0 ≤ key) (hk1 : key < keys C n) :
    Calls Tryz.prog 18 #[.pointer (some ⟨s, 0, none⟩), .agg #[.int .i64 n, .int .u64 key]] w (KPointPost w C ls n key) := by
  cases hx : isX C n with
  | true =>
    have HX := Lib.hid hx
    clear hx
    go_enter Tryz.func18, Tryz.ntmps18
    go_wp2_with fail
    refine (level_yes s g C B L ls _ (h.ext (Ext.alloc' _ _)) n hn).mono ?_
    rintro e w1 ⟨rfl, rfl⟩
    have hA := ((h.ext (Ext.alloc' _ (.cells #[.int .i64 n, .int .u64 key] 39))).lev n hn).x HX.out
    rw [lvV_x HX.out]
    go_wp2_with fail
    refine (EPoint_c _ _ _ C _ _ _ key _ hA hk0 hk1).mono ?_
    rintro e w1 ⟨rfl, rfl⟩
    go_wp2
    go_ret2
    exact ⟨_, rfl, .inl ⟨HX.out, rfl⟩, Ext.alloc' _ _⟩
  | false =>
    have HX := Lib.hid hx
    clear hx
    go_enter Tryz.func18, Tryz.ntmps18
    go_wp2_with fail
    refine (level_yes s g C B L ls _ (h.ext (Ext.alloc' _ _)) n hn).mono ?_
    rintro e w1 ⟨rfl, rfl⟩
    have hA := ((h.ext (Ext.alloc' _ (.cells #[.int .i64 n, .int .u64 key] 39))).lev n hn).sk HX.out
    rw [lvV_s HX.out]
    go_wp2_with fail
    refine (Point_c _ _ _ C _ _ _ _ key _ hA hk0 hk1).mono ?_
    rintro e w1 ⟨x, rfl, hk, hx1⟩
    go_wp2
    go_ret2
    exact ⟨x, rfl, .inr ⟨HX.out, hk⟩, (Ext.alloc' _ _).trans' hx1⟩
set_option maxRecDepth 20000 in
theorem KPoint_lv (s g : Nat) (C : Cfg) (B : Nat) (L : Nat → Lev) (ls : Nat → List Int) (w : World) (h : KAt w s g C B L ls) (n : Int) (hn : n < 0 ∨ (B : Int) < n) (key : Int) :
    Calls Tryz.prog 18 #[.pointer (some ⟨s, 0, none⟩), .agg #[.int .i64 n, .int .u64 key]] w fun e w' => e = .returned (.tuple #[.int .i64 0, .int .i64 2]) ∧ Ext w w' := by
  go_enter Tryz.func18, Tryz.ntmps18
  go_wp2_with fail
  refine (level_no s g C B L ls _ (h.ext (Ext.alloc' _ _)) n hn).mono ?_
  rintro e w1 ⟨rfl, rfl⟩
  go_wp2
  go_ret2
  exact ⟨rfl, Ext.alloc' _ _⟩
def KTotalPost (w : World) (C : Cfg) (B : Nat) (ls : Nat → List Int) (e : Ending) (w' : World) : Prop :=
  ∃ x, e = .returned (.int .i64 x) ∧ lvPt C B (ls B) 0 x ∧ Ext w w'
theorem keys_top {C : Cfg} {B : Nat} (hB : C.bits = B) : keys C B = 1 := by unfold keys; rw [hB]; simp
theorem isX_top {C : Cfg} (h : C.Ok) {B : Nat} (hB : C.bits = B) : isX C B = true := by
  unfold isX; rw [keys_top hB]; have := h.w1; simpa using this
set_option maxRecDepth 20000 in
theorem KTotal_c (s g : Nat) (C : Cfg) (B : Nat) (L : Nat → Lev) (ls : Nat → List Int) (w : World) (h : KAt w s g C B L ls) :
    Calls Tryz.prog 28 #[.pointer (some ⟨s, 0, none⟩)] w fun e w' => e = .returned (.int .i64 ((ls B).getD 0 0)) ∧ Ext w w' := by
  have hlt := h.lts
  have hlg := h.ltg
  obtain ⟨cap, hex, hcap⟩ := h.ex
  have c0 := (cell_of hex 0).trans (show _ = some (Value.int .i64 (B : Int)) by rw [← h.hB]; rfl)
  have c5 := (cell_of hex 5).trans rfl
  have cn := (h.cell (Nat.le_refl B)).trans (by rw [lvV_x (isX_top h.ok h.hB)])
  have hb2 : B ≤ 59 := by have := h.ok.b2; have := h.hB; omega
  have hA := ((h.lev B (Nat.le_refl B)).x (isX_top h.ok h.hB)).ext (Below.drew (Ext.refl w))
  have hk := keys_top h.hB
  clear h hex
  go_enter Tryz.func28, Tryz.ntmps28
  go_wp2
  have hC0 := af_drew w
  refine pi_start (fun w' => ∃ x : After w, w' = x.w) [] (by kernel_rfl) ?_
  refine pi_t 0 rfl (by kernel_rfl) (by kernel_rfl) (fun _ _ _ _ h => h) (fun K hK => ?_)
  go_big_quiet_op
  refine hK _ ?_
  clear hK K
  refine pi_t 1 rfl (by kernel_rfl) (by kernel_rfl) (fun _ _ _ _ h => h) (fun K hK => ?_)
  go_big_quiet_op
  refine hK _ ?_
  clear hK K
  refine pi_t 2 rfl (by kernel_rfl) (by kernel_rfl) (fun _ _ _ _ h => h) (fun K hK => ?_)
  go_big_quiet_op
  refine hK _ ?_
  clear hK K
  refine pi_t 4 rfl (by kernel_rfl) (by kernel_rfl) (fun _ _ _ _ h => h) (fun K hK => ?_)
  go_big_quiet_op
  refine hK _ ?_
  clear hK K
  refine pi_t 5 rfl (by kernel_rfl) (by kernel_rfl) (fun _ _ _ _ h => h) (fun K hK => ?_)
  go_big_quiet_op
  refine hK _ ?_
  clear hK K
  refine pi_t 6 rfl (by kernel_rfl) (by kernel_rfl) (fun _ _ _ _ h => h) (fun K hK => ?_)
  go_big_quiet_op
  refine hK _ ?_
  clear hK K
  refine pi_t 7 rfl (by kernel_rfl) (by kernel_rfl) (fun _ _ _ _ h => h) (fun K hK => ?_)
  go_big_quiet_op
  refine hK _ ?_
  clear hK K
  refine pi_c 3 (by assumption) rfl (by kernel_rfl) (by kernel_rfl) (fun _ _ _ _ h => h) (fun K hK => ?_)
  go_big_quiet_op
  refine hK _ ?_
  clear hK K
  refine pi_c 8 (by assumption) rfl (by kernel_rfl) (by kernel_rfl) (fun _ _ _ _ h => h) (fun K hK => ?_)
  go_big_quiet_op
  refine hK _ ?_
  clear hK K
  refine pi_t 9 rfl (by kernel_rfl) (by kernel_rfl) (fun _ _ _ _ h => h) (fun K hK => ?_)
  go_big_quiet_op
  refine hK _ ?_
  clear hK K
  refine pi_c 10 (by assumption) rfl (by kernel_rfl) (by kernel_rfl) (fun _ _ _ _ h => h) (fun K hK => ?_)
  go_big_quiet_op
  refine hK _ ?_
  clear hK K
  refine pi_l 11 rfl (by kernel_rfl) (fun K hK => ?_)
  go_wp2_with fail
  refine (EPoint_c _ _ _ C _ _ _ 0 _ hA (by decide) (by rw [hk]; decide)).mono ?_
  rintro e w1 ⟨rfl, rfl⟩
  go_wp2
  refine hK _ _ (fun _ h => h) ?_
  clear hK K
  refine pi_t 12 rfl (by kernel_rfl) (by kernel_rfl) (fun _ _ _ _ h => h) (fun K hK => ?_)
  go_big_quiet_op
  refine hK _ ?_
  clear hK K
  refine pi_t 13 rfl (by kernel_rfl) (by kernel_rfl) (fun _ _ _ _ h => h) (fun K hK => ?_)
  go_big_quiet_op
  refine hK _ ?_
  clear hK K
  refine pi_t 14 rfl (by kernel_rfl) (by kernel_rfl) (fun _ _ _ _ h => h) (fun K hK => ?_)
  go_big_quiet_op
  refine hK _ ?_
  clear hK K
  refine pi_t 15 rfl (by kernel_rfl) (by kernel_rfl) (fun _ _ _ _ h => h) (fun K hK => ?_)
  go_big_quiet_op
  refine hK _ ?_
  clear hK K
  refine pi_t 16 rfl (by kernel_rfl) (by kernel_rfl) (fun _ _ _ _ h => h) (fun K hK => ?_)
  go_big_quiet_op
  refine hK _ ?_
  clear hK K
  refine pi_end (by kernel_rfl) ?_
  go_wp2
  go_ret
  exact ⟨rfl, Below.drew (Ext.refl w)⟩
end Go.Proofs.YteoblkcbemeamaaGreat

/- A region whose order is open, in the round of a range over a function: walked as elsewhere. -/
namespace Go.Proofs.YteoblkcbemeamaaGreat
set_option linter.unusedVariables false
open Go.RowKit
section
variable {P : Program} {ops : Array Oper} {md : Region.Mode} {Q : Exit → Act → World → Prop} {l n : Nat}
theorem rowsR {row : String} {args : Array Value} {w : World} {R : Value → World → Prop} (h : Rows P row args w R) : RowsIn (Fence.wide.inRound l) n P row args w R :=
  fun c cs _ => let ⟨v, w', r, s⟩ := h c cs; ⟨v, w', r, by rw [fenced_inRound]; exact stepsIn_wide.2 s⟩
theorem callsR {f : FuncId} {args : Array Value} {w : World} {R : Ending → World → Prop} (h : Calls P f args w R) : CallsIn (Fence.wide.inRound l) n P f args w R :=
  CallsIn.inRound l (callsIn_wide.2 h)
theorem operR {o : Oper} {a : Act} {w : World} {K : Act → World → Prop} (hd : ∀ c, o.op ≠ .defer c) (h : o.wp P a w K Q) : o.wpIn (Fence.wide.inRound l) n P a w K Q := by
  unfold Oper.wpIn
  refine ⟨fun _ _ => trivial, ?_⟩
  rw [show (Fence.wide.inRound l).round = some l from rfl, Oper.semAt_some l a.eval o hd]
  unfold Oper.wp at h
  generalize (execOp a.eval o).run P w = r at *
  cases r with
  | ok x w' =>
    cases x <;> simp only [Oper.upon, Oper.uponIn] at h ⊢ <;> first
      | exact h
      | exact ⟨fun hh => (by cases hh), callsR h⟩
      | exact ⟨fun hh => (by cases hh), rowsR h⟩
      | exact h.elim
  | halt x w' => cases x <;> simp only [Oper.upon, Oper.uponIn] at h ⊢ <;> exact h
def noDefer (l : List Oper) : Bool := l.all fun o => match o.op with | .defer _ => false | _ => true
theorem noDefer_spec {l : List Oper} (h : noDefer l = true) {i : Nat} {o : Oper} (ho : l.toArray[i]? = some o) : ∀ c, o.op ≠ .defer c := by
  intro c hc
  unfold noDefer at h
  rw [List.all_eq_true] at h
  have := h o (List.mem_of_getElem? (by simpa using ho))
  rw [hc] at this
  cases this
theorem listR (hq : ¬ LetsOut Q) : ∀ (ls : List Oper) (hd : noDefer ls = true) (a : Act) (w : World), wpList P ops Q ls a w → wpListIn (Fence.wide.inRound l) n P ops Q ls a w := by
  intro ls
  induction ls with
  | nil => intro _ _ _ h; exact h
  | cons o rest ih =>
    intro hd a w h
    have hd2 : noDefer rest = true := by
      unfold noDefer at hd ⊢
      rw [List.all_cons, Bool.and_eq_true] at hd
      exact hd.2
    have ho : ∀ c, o.op ≠ .defer c := noDefer_spec (l := o :: rest) hd (i := 0) (by simp)
    unfold wpList at h
    unfold wpListIn
    split
    · rename_i hw
      simp only [hw, if_true] at h
      exact operR ho (Oper.wp_mono (fun a w h => ih hd2 _ _ h) (h.resolve_right fun hh => hq hh.2))
    · rename_i hw
      simp only [hw] at h
      exact ⟨fun _ _ => trivial, ih hd2 _ _ h⟩
theorem region_plainR {id : Nat} {ls : List Oper} {a : Act} {w : World} (hq : ¬ LetsOut Q) (hd : noDefer ls = true) (h : wpList P ls.toArray Q ls a w) : (Code.region id ls.toArray false).wpIn (Fence.wide.inRound l) n P Q a w :=
  wpIn_region_lit (listR hq ls hd a w h)
theorem anyR {ls : List Oper} (hq : ¬ LetsOut Q) (hd : noDefer ls = true) : ∀ (f : Nat) (listed : Array Bool) (a : Act) (w : World), wpAny P md ls.toArray Q f listed a w → wpAnyIn (Fence.wide.inRound l) n P md ls.toArray Q f listed a w := by
  intro f
  induction f with
  | zero => intro _ _ _ h; exact h
  | succ f ih =>
    intro listed a w h
    refine ⟨h.1, fun i hi => ?_⟩
    have h2 := h.2 i hi
    unfold wpOp at h2
    unfold wpOpIn
    cases ho : ls.toArray[i]? with
    | none => simp only [ho] at h2; exact ih _ _ _ h2
    | some o =>
      simp only [ho] at h2 ⊢
      split
      · rename_i hw
        simp only [hw, if_true] at h2
        refine operR (noDefer_spec hd ho) ?_
        exact Oper.wp_mono (fun a w h => ih _ _ _ h) (h2.resolve_right fun hh => hq hh.2)
      · rename_i hw
        simp only [hw] at h2
        exact ⟨fun _ _ => trivial, ih _ _ _ h2⟩
theorem pi_startR {id : Nat} {ls : List Oper} {a : Act} {w : World} (C : World → Prop) (ex : List Nat) (hm : P.follows .mixedOrders = true) (hq : ¬ LetsOut Q) (hd : noDefer ls = true)
    (h : anyC P .any ls.toArray Q C ex ls.length (Array.replicate ls.length false) a w.drew) : (Code.region id ls.toArray true).wpIn (Fence.wide.inRound l) n P Q a w := by
  refine wpIn_region_any hm ?_
  have := anyR (l := l) (n := n) hq hd _ _ _ _ (any_of_anyC _ _ _ _ h)
  simpa using this
end
end Go.Proofs.YteoblkcbemeamaaGreat

/- Package stack: the iterator over the levels (a range over a function): its contract. -/
namespace Go.Proofs.YteoblkcbemeamaaGreat
set_option linter.unusedVariables false
open Go.RowKit
attribute [local go_sem] Oper.semAt_some

theorem Kat_c (s : Nat) (key : Int) (w : World) :
    Calls Tryz.prog 85 #[.pointer (some ⟨s, 0, none⟩), .int .u64 key] w fun e w' => e = .returned (.func (.func 137) #[] #[.pointer (some ⟨w.heap.size, 0, none⟩), .pointer (some ⟨w.heap.size + 1, 0, none⟩)]) ∧
      w' = (w.alloc (.cells #[.pointer (some ⟨s, 0, none⟩)] 28)).alloc (.cells #[.int .u64 key] 22) := by
  have hmf : ∀ (fn : Fn) (first cap : Array Value) (w : World), (Instr.makeFunc fn first cap).run Tryz.prog w = .ok (.func fn first cap) w := fun _ _ _ _ => rfl
  go_enter Tryz.func85, Tryz.ntmps85
  go_wp2
  go_ret
  exact ⟨rfl, rfl⟩
/-- What a round that goes on keeps: whatever lay below n₀, but for the blocks of S. -/
def KpS (n₀ : Nat) (S : Nat → Prop) (W W' : World) : Prop := ∀ b, b < n₀ → ¬ S b → W'.heap[b]? = W.heap[b]?
theorem KpS.t {n₀ : Nat} {S : Nat → Prop} {A B C : World} (h : KpS n₀ S A B) (k : KpS n₀ S B C) : KpS n₀ S A C := fun b hb hs => (k b hb hs).trans (h b hb hs)
theorem KpS.b {n₀ : Nat} {S : Nat → Prop} {w : World} (hn : n₀ ≤ w.heap.size) (W : World) (l : Nat) (o o' : Obj) (hl : w.heap.size ≤ l) (h : W.heap[l]? = some o) (_ : o.isCells = false) (_ : o.isWalk = false) : KpS n₀ S W (W.putObj l o') := by
  intro b hb _
  exact World.putObj_heap_other (by omega)
theorem KpS.cell {n₀ : Nat} {S : Nat → Prop} {W W' : World} (h : KpS n₀ S W W') {b o : Nat} (hb : b < n₀) (hs : ¬ S b) : W'.cell? ⟨b, o, none⟩ = W.cell? ⟨b, o, none⟩ := by
  unfold World.cell?; rw [show (⟨b, o, none⟩ : Addr).block = b from rfl, h b hb hs]
def lvEnc (C : Cfg) (L : Nat → Lev) (B : Nat) (key : Int) (x : {n : Nat // n ≤ B}) : Array Value := #[lvV C x.1 (L x.1), .int .u64 (sh x.1 key)]
set_option maxRecDepth 100000 in
set_option maxHeartbeats 2000000 in
theorem kat1_in (n l Bs Bk n₀ s g cap : Nat) (S : Nat → Prop) (C : Cfg) (L : Nat → Lev) (B : Nat) (key : Int) (hkey : U64 key) (hB : B ≤ 59) (J Jx : List {n : Nat // n ≤ B} → World → Prop)
    (hbs : Bs < n₀) (hbk : Bk < n₀) (hs : s < n₀) (hg : g < n₀) (nbs : ¬ S Bs) (nbk : ¬ S Bk) (ns : ¬ S s) (ng : ¬ S g)
    (hY : ∀ pre x W, J pre W → pre.length < B + 1 → YieldAt Fence.wide (n - 1) Tryz.prog l (lvEnc C L B key x) W fun e W' =>
      (e = .returned (.bool true) ∧ J (pre ++ [x]) W' ∧ KpS n₀ S W W') ∨ (e = .returned (.bool false) ∧ Jx (pre ++ [x]) W'))
    (W : World) (hBs : W.cell? ⟨Bs, 0, none⟩ = some (.pointer (some ⟨s, 0, none⟩))) (hBk : W.cell? ⟨Bk, 0, none⟩ = some (.int .u64 key))
    (h5 : W.cell? ⟨s, 5, none⟩ = some (.slice (some ⟨g, 0, none⟩) (B + 1) cap)) (hc : ∀ n, n ≤ B → W.cell? ⟨g, n, none⟩ = some (lvV C n (L n))) (h0 : J [] W) :
    CallsIn Fence.wide n Tryz.prog 137 #[.func (.yield l) #[] #[], .pointer (some ⟨Bs, 0, none⟩), .pointer (some ⟨Bk, 0, none⟩)] W fun e W' => (∃ v, e = .returned v) ∧
      ((∃ ys, ys.map (fun x : {n : Nat // n ≤ B} => x.1) = List.range (B + 1) ∧ J ys W') ∨ (∃ pre, True ∧ Jx pre W')) := by
  refine callsIn_of_wp Tryz.func137 rfl trivial ?_ rfl
  simp only [Tryz.ntmps137, List.size_toArray, List.length_cons, List.length_nil, Nat.reduceAdd, Nat.reduceSub, Array.replicate_succ, Array.replicate_zero, List.push_toArray, List.append_toArray, List.nil_append, List.cons_append]
  gi_wp2
  gi_loopw [11] (fun i wr => ∃ (k : Nat) (pre : List {n : Nat // n ≤ B}), k ≤ B + 1 ∧ i = .int .i64 k ∧ pre.map (fun x : {n : Nat // n ≤ B} => x.1) = List.range k ∧ J pre wr ∧ KpS n₀ S W wr)
    (fun i _ => B + 1 - (intOf i).toNat)
  case atStart => exact ⟨0, [], Nat.zero_le _, rfl, rfl, h0, fun _ _ _ => rfl⟩
  case round =>
    obtain ⟨k, pre, hk, rfl, hpre, hJs, hnx⟩ := hrel
    have hlen : pre.length = k := by have := congrArg List.length hpre; simpa using this
    by_cases hlt : k < B + 1
    · have hcx := (hnx.cell (o := k) hg ng).trans (hc k (by omega))
      have hkx := (hnx.cell (o := 0) hbk nbk).trans hBk
      obtain ⟨fn, tmps, assign, body, hy, hR⟩ := hY pre ⟨k, by omega⟩ wr hJs (by omega)
      dsimp only [lvEnc, sh] at hy
      gi_wp2
      refine ⟨fun h => (by cases h), hR.mono ?_⟩
      rintro e W3 (⟨rfl, hJ3, hk3⟩ | ⟨rfl, hJx3⟩)
      · gi_wp2
        go_roundw
        case rel => exact ⟨k + 1, pre ++ [⟨k, by omega⟩], by omega, by simp, by rw [List.map_append, hpre, List.range_succ]; rfl, hJ3, hnx.t hk3⟩
        case measure => simp [intOf]; omega
      · gi_wp2
        refine bodyPost_ret (results_none rfl _ _ _) rfl ?_
        exact ⟨⟨_, rfl⟩, .inr ⟨_, trivial, hJx3⟩⟩
    · obtain rfl : k = B + 1 := by omega
      gi_wp2
      go_end0
      exact ⟨⟨_, rfl⟩, .inl ⟨pre, hpre, hJs⟩⟩
theorem kat1_stops (n Bs Bk n₀ s g cap : Nat) (S : Nat → Prop) (C : Cfg) (L : Nat → Lev) (B : Nat) (key : Int) (hkey : U64 key) (hB : B ≤ 59)
    (hbs : Bs < n₀) (hbk : Bk < n₀) (hs : s < n₀) (hg : g < n₀) (nbs : ¬ S Bs) (nbk : ¬ S Bk) (ns : ¬ S s) (ng : ¬ S g) (w : World) (hn : n₀ ≤ w.heap.size)
    (hBs : w.cell? ⟨Bs, 0, none⟩ = some (.pointer (some ⟨s, 0, none⟩))) (hBk : w.cell? ⟨Bk, 0, none⟩ = some (.int .u64 key))
    (h5 : w.cell? ⟨s, 5, none⟩ = some (.slice (some ⟨g, 0, none⟩) (B + 1) cap)) (hc : ∀ n, n ≤ B → w.cell? ⟨g, n, none⟩ = some (lvV C n (L n))) :
    SeqStopsK Fence.wide n Tryz.prog 137 #[.pointer (some ⟨Bs, 0, none⟩), .pointer (some ⟨Bk, 0, none⟩)] (lvEnc C L B key) (KpS n₀ S) (fun ys => ys.map (fun x : {n : Nat // n ≤ B} => x.1) = List.range (B + 1)) (fun _ => True) (B + 1) w := by
  intro l J Jx W hW hJ hJx hY h0
  refine kat1_in n l Bs Bk n₀ s g cap S C L B key hkey hB J Jx hbs hbk hs hg nbs nbk ns ng hY W ?_ ?_ ?_ (fun n hn' => ?_) h0
  · exact (hW.cell (p := ⟨Bs, 0, none⟩) (Nat.lt_of_lt_of_le hbs hn)).trans hBs
  · exact (hW.cell (p := ⟨Bk, 0, none⟩) (Nat.lt_of_lt_of_le hbk hn)).trans hBk
  · exact (hW.cell (p := ⟨s, 5, none⟩) (Nat.lt_of_lt_of_le hs hn)).trans h5
  · exact (hW.cell (p := ⟨g, n, none⟩) (Nat.lt_of_lt_of_le hg hn)).trans (hc n hn')
set_option maxRecDepth 20000 in
theorem first_c (g cap : Nat) (a b : Int) (w : World) (h0 : w.cell? ⟨g, 0, none⟩ = some (.int .i64 a)) (h1 : w.cell? ⟨g, 1, none⟩ = some (.int .i64 b)) :
    Calls Tryz.prog 86 #[.slice (some ⟨g, 0, none⟩) 2 cap] w fun e w' => e = .returned (.int .i64 (fst_ a b)) ∧ w = w' := by
  by_cases ha : a = 0
  · have e0 : fst_ a b = b := by unfold fst_; rw [decide_eq_true ha]; rfl
    rw [e0]
    subst ha
    by_cases hb : b = 0
    · subst hb
      go_enter Tryz.func86, Tryz.ntmps86
      go_wp2
      refine wp_loop_rounds 3 ?_
      iterate 3 (rw [rounds_succ]; go_wp2)
      go_ret
      exact ⟨rfl, rfl⟩
    · go_enter Tryz.func86, Tryz.ntmps86
      go_wp2
      refine wp_loop_rounds 2 ?_
      iterate 2 (rw [rounds_succ]; go_wp2)
      go_ret
      exact ⟨rfl, rfl⟩
  · have e0 : fst_ a b = a := by unfold fst_; rw [decide_eq_false ha]; rfl
    rw [e0]
    go_enter Tryz.func86, Tryz.ntmps86
    go_wp2
    refine wp_loop_rounds 1 ?_
    iterate 1 (rw [rounds_succ]; go_wp2)
    go_ret
    exact ⟨rfl, rfl⟩
end Go.Proofs.YteoblkcbemeamaaGreat

/- What carries a stack through a range over a function. -/
namespace Go.Proofs.YteoblkcbemeamaaGreat
set_option linter.unusedVariables false
open Go.RowKit

theorem keepsO_ext {w w' : World} (h : Ext w w') : KeepsOthers w w' :=
  ⟨h.size, fun k o hk _ => (h.block k (Array.getElem?_eq_some_iff.1 hk).1).trans hk⟩
theorem keepsO_mod {S : Nat → Prop} {w w' : World} (h : Mod S w w') (hS : ∀ k, S k → k < w.heap.size → ∃ cur t f, w.heap[k]? = some (.cells cur t f)) : KeepsOthers w w' :=
  ⟨h.size, fun k o hk ho => by
    have hlt := (Array.getElem?_eq_some_iff.1 hk).1
    refine (h.block k hlt fun hs => ?_).trans hk
    obtain ⟨cur, t, f, hc⟩ := hS k hs hlt
    rw [hk] at hc
    injection hc with hc
    subst hc
    cases ho⟩
theorem kps_mod {n₀ : Nat} {S : Nat → Prop} {w w' : World} (h : Mod S w w') (hn : n₀ ≤ w.heap.size) : KpS n₀ S w w' := fun b hb hs => h.block b (by omega) hs
theorem kps_ext {n₀ : Nat} {S : Nat → Prop} {w w' : World} (h : Ext w w') (hn : n₀ ≤ w.heap.size) : KpS n₀ S w w' := fun b hb _ => h.block b (by omega)
/-- What lies below a bound is carried by whatever grows from there. -/
theorem grown_low {W W' : World} {row : Option Nat} {B k : Nat} (hg : W.grownBy W' row) (hr : ∀ r, row = some r → B ≤ r) (hk : k < W.heap.size) (hB : k < B) : W'.heap[k]? = W.heap[k]? :=
  hg.block k hk (fun e => by have := hr k e.symm; omega)
theorem ownFrom_mod {β : Type} {S : Nat → Prop} {B : Nat} {w₀ : World} (hB : w₀.heap.size ≤ B) : OwnFrom B (fun (_ : β) W => Mod S w₀ W) :=
  fun _ _ _ _ hs hg hr => ⟨hg.os.trans hs.os, hg.tape.trans hs.tape, hg.output.trans hs.output, Nat.le_trans hs.size hg.size, fun k hk hn => (grown_low hg (fun r e => (hr r e).1) (Nat.lt_of_lt_of_le hk hs.size) (by omega)).trans (hs.block k hk hn)⟩
theorem ownFrom_box {β : Type} {B b : Nat} (hb : b < B) (f : β → Obj) : OwnFrom B (fun (s : β) W => W.heap[b]? = some (f s)) :=
  fun s W W' row hs hg hr => (grown_low hg (fun r e => (hr r e).1) (lt_of hs) hb).trans hs
/-- A stack's blocks lie below a bound. -/
structure KLow (N s g B : Nat) (L : Nat → Lev) : Prop where
  s : s < N
  g : g < N
  ls : ∀ n, n ≤ B → (L n).s < N
  lb : ∀ n, n ≤ B → (L n).b < N
  lc : ∀ n, n ≤ B → (L n).c < N
theorem KAt.low {w : World} {s g : Nat} {C : Cfg} {B : Nat} {L : Nat → Lev} {ls : Nat → List Int} (h : KAt w s g C B L ls) : KLow w.heap.size s g B L :=
  ⟨h.lts, h.ltg, fun n hn => (h.lev n hn).lts, fun n hn => (h.lev n hn).ltb, fun n hn => (h.lev n hn).ltc⟩
theorem KLow.mono {N M s g B : Nat} {L : Nat → Lev} (h : KLow N s g B L) (hM : N ≤ M) : KLow M s g B L :=
  ⟨Nat.lt_of_lt_of_le h.s hM, Nat.lt_of_lt_of_le h.g hM, fun n hn => Nat.lt_of_lt_of_le (h.ls n hn) hM, fun n hn => Nat.lt_of_lt_of_le (h.lb n hn) hM, fun n hn => Nat.lt_of_lt_of_le (h.lc n hn) hM⟩
theorem KAt.keepN {w w' : World} {N s g : Nat} {C : Cfg} {B : Nat} {L : Nat → Lev} {ls : Nat → List Int} (h : KAt w s g C B L ls) (hl : KLow N s g B L) (hk : ∀ k, k < w.heap.size → k < N → w'.heap[k]? = w.heap[k]?) : KAt w' s g C B L ls :=
  ⟨by rw [hk s h.lts hl.s]; exact h.ex, by rw [hk g h.ltg hl.g]; exact h.row, fun n hn => (h.lev n hn).keep (hk _ (h.lev n hn).lts (hl.ls n hn)) (hk _ (h.lev n hn).ltb (hl.lb n hn)) (hk _ (h.lev n hn).ltc (hl.lc n hn)), h.sep, h.ok, h.hB⟩
/-- One level is changed. -/
theorem KAt.put {w w' : World} {s g : Nat} {C : Cfg} {B : Nat} {L : Nat → Lev} {ls : Nat → List Int} (h : KAt w s g C B L ls) {n : Nat} (hn : n ≤ B) (hm : Mod (fun k => k = (L n).c) w w') {l : List Int} (hl : LvAt w' (L n) C n l) :
    KAt w' s g C B L (fun m => if m = n then l else ls m) := by
  have hcs : ∀ k, k = (L n).c → k < w.heap.size → ∃ cur, w.heap[k]? = some (.cells cur 2 (0, 0)) := by
    rintro k rfl _; exact (h.lev n hn).isc
  refine ⟨?_, ?_, fun m hm' => ?_, h.sep, h.ok, h.hB⟩
  · rw [hm.block s h.lts fun e => h.nots ⟨n, hn, e⟩]; exact h.ex
  · rw [hm.block g h.ltg fun e => h.notg ⟨n, hn, e⟩]; exact h.row
  · by_cases e : m = n
    · subst e; rw [if_pos rfl]; exact hl
    · rw [if_neg e]; exact (h.lev m hm').mod hm hcs (h.sep m n hm' hn e)
theorem KAt.mod1 {w w' : World} {s g : Nat} {C : Cfg} {B : Nat} {L : Nat → Lev} {ls : Nat → List Int} (h : KAt w s g C B L ls) {n : Nat} (hn : n ≤ B) (hm : Mod (fun k => k = (L n).c) w w') : Mod (cellsOf B L) w w' :=
  hm.mono fun k hk _ => ⟨n, hn, hk⟩
theorem KAt.cellsT {w : World} {s g : Nat} {C : Cfg} {B : Nat} {L : Nat → Lev} {ls : Nat → List Int} (h : KAt w s g C B L ls) (k : Nat) (hk : cellsOf B L k) (_ : k < w.heap.size) : ∃ cur t f, w.heap[k]? = some (.cells cur t f) := by
  obtain ⟨cur, hc⟩ := h.isc hk; exact ⟨_, _, _, hc⟩
theorem mod_new {w W0 W : World} {b : Nat} (he : Ext w W0) (hm : Mod (fun k => k = b) W0 W) (hb : w.heap.size ≤ b) : Mod (fun _ => False) w W :=
  ⟨hm.os.trans he.os, hm.tape.trans he.tape, hm.output.trans he.output, Nat.le_trans he.size hm.size, fun k hk _ => (hm.block k (Nat.lt_of_lt_of_le hk he.size) (by omega)).trans (he.block k hk)⟩
theorem mod_putD {S : Nat → Prop} {w W : World} {D : Nat} {o : Obj} (h : Mod S w W) (hD : w.heap.size ≤ D) : Mod S w (W.putObj D o) :=
  ⟨h.os, h.tape, h.output, Nat.le_trans h.size (by simp [World.putObj]), fun k hk hn => (World.putObj_heap_other (by omega)).trans (h.block k hk hn)⟩
/-- A round that has written one box. -/
theorem chk_round {W0 W w3 : World} {b : Nat} {t : TypeId} {u v : Value} {o : Obj} (hb : W.heap[b]? = some (.cells #[u] t (0, 0))) (hx : Ext W w3) (hM : Mod (fun k => k = b) W0 W) :
    KeepsOthers W ((w3.setCell ⟨b, 0, none⟩ v).alloc o) ∧ KpS W0.heap.size (fun k => k = b) W ((w3.setCell ⟨b, 0, none⟩ v).alloc o) ∧ ((w3.setCell ⟨b, 0, none⟩ v).alloc o).heap[b]? = some (.cells #[v] t (0, 0)) ∧ Mod (fun k => k = b) W0 ((w3.setCell ⟨b, 0, none⟩ v).alloc o) := by
  have h3 := hx.keep hb
  have hl := lt_of h3
  have hm : Mod (fun k => k = b) W ((w3.setCell ⟨b, 0, none⟩ v).alloc o) := ((hx.mod _).trans (mod_set _ _ _ _)).trans ((Ext.alloc' _ _).mod _)
  refine ⟨keepsO_mod hm ?_, kps_mod hm hM.size, ?_, hM.trans hm⟩
  · rintro k rfl _; exact ⟨_, _, _, hb⟩
  · rw [heap_old _ _ (by rw [size_setCell]; exact hl), setCell_same h3]; rfl
/-- The numbers of some levels. -/
def vals {B : Nat} (pre : List {n : Nat // n ≤ B}) : List Nat := pre.map fun x => x.1
theorem vals_snoc {B : Nat} (pre : List {n : Nat // n ≤ B}) (x : {n : Nat // n ≤ B}) : vals (pre ++ [x]) = vals pre ++ [x.1] := by unfold vals; rw [List.map_append]; rfl
/-- What the levels say that have been asked. -/
def errF (C : Cfg) (ls : Nat → List Int) (key d : Int) (pre : List Nat) : Int := pre.foldl (fun (b : Int) (n : Nat) => fst_ b (lvE C n (ls n) (sh n key) d)) 0
theorem errF_snoc (C : Cfg) (ls : Nat → List Int) (key d : Int) (pre : List Nat) (n : Nat) : errF C ls key d (pre ++ [n]) = fst_ (errF C ls key d pre) (lvE C n (ls n) (sh n key) d) := by
  unfold errF; rw [List.foldl_append]; rfl
theorem errF_range (C : Cfg) (ls : Nat → List Int) (key d : Int) (m : Nat) : errF C ls key d (List.range m) = errs C ls key d m := by
  induction m with
  | zero => rfl
  | succ m ih => rw [List.range_succ, errF_snoc, ih]; rfl
/-- The levels, when some have been told of an update. -/
def partK (C : Cfg) (ls : Nat → List Int) (key d : Int) (pre : List Nat) (n : Nat) : List Int := if n ∈ pre then updK C ls key d n else ls n
/-- A round that has told a level of an update. -/
theorem upd_round {W2 W w3 : World} {s g : Nat} {C : Cfg} {B : Nat} {L : Nat → Lev} {ls ls' : Nat → List Int} {key d : Int} {pre : List {n : Nat // n ≤ B}} {x : {n : Nat // n ≤ B}} {D : Nat}
    (h : KAt W s g C B L ls') (hp : (vals pre).Nodup → ∀ n, ls' n = partK C ls key d (vals pre) n) (hM : Mod (cellsOf B L) W2 W) (hD : W.heap[D]? = some (.deferred (some [])))
    (hall : ∀ n, n ≤ B → lvE C n (ls n) (sh n key) d = 0)
    (hres : (lvE C x.1 (ls' x.1) (sh x.1 key) d = 0 ∧ LvAt w3 (L x.1) C x.1 (lvU C x.1 (ls' x.1) (sh x.1 key) d) ∧ Mod (fun k => k = (L x.1).c) W w3) ∨ (lvE C x.1 (ls' x.1) (sh x.1 key) d ≠ 0 ∧ Ext W w3)) :
    KeepsOthers W w3 ∧ KpS W2.heap.size (cellsOf B L) W w3 ∧ w3.heap[D]? = some (.deferred (some [])) ∧ (∃ ls'', KAt w3 s g C B L ls'' ∧ ((vals (pre ++ [x])).Nodup → ∀ n, ls'' n = partK C ls key d (vals (pre ++ [x])) n)) ∧ Mod (cellsOf B L) W2 w3 := by
  have old : (vals (pre ++ [x])).Nodup → (vals pre).Nodup ∧ x.1 ∉ vals pre := by
    intro hn
    rw [vals_snoc, List.nodup_append] at hn
    exact ⟨hn.1, fun hx => hn.2.2 _ hx x.1 (by simp) rfl⟩
  rcases hres with ⟨he, hl, hm⟩ | ⟨he, hx⟩
  · have hmm := h.mod1 x.2 hm
    have hko := keepsO_mod hmm (fun k hk hlt => h.cellsT k hk hlt)
    refine ⟨hko, kps_mod hmm hM.size, hko.same _ _ hD rfl, ⟨_, h.put x.2 hm hl, fun hn n => ?_⟩, hM.trans hmm⟩
    obtain ⟨h1, h2⟩ := old hn
    by_cases e : n = x.1
    · subst e
      rw [if_pos rfl, hp h1]
      unfold partK
      rw [if_neg h2, if_pos (by rw [vals_snoc]; simp)]
      rfl
    · rw [if_neg e, hp h1]
      unfold partK
      rw [vals_snoc]
      simp only [List.mem_append, List.mem_singleton, e, or_false]
  · have hko := keepsO_ext hx
    refine ⟨hko, kps_ext hx hM.size, hko.same _ _ hD rfl, ⟨ls', h.ext hx, fun hn n => ?_⟩, hM.trans (hx.mod _)⟩
    obtain ⟨h1, h2⟩ := old hn
    exfalso
    apply he
    rw [hp h1]
    unfold partK
    rw [if_neg h2]
    exact hall _ x.2
theorem part_end {C : Cfg} {B : Nat} {ls ls' : Nat → List Int} {key d : Int} {xs : List {n : Nat // n ≤ B}} (hxs : xs.map (fun x => x.1) = List.range (B + 1)) (hp : (vals xs).Nodup → ∀ n, ls' n = partK C ls key d (vals xs) n) :
    ∀ n, n ≤ B → ls' n = updK C ls key d n := by
  have e : vals xs = List.range (B + 1) := hxs
  intro n hn
  rw [hp (by rw [e]; exact List.nodup_range), e]
  unfold partK
  rw [if_pos (by rw [List.mem_range]; omega)]
theorem KAt.cong {w : World} {s g : Nat} {C : Cfg} {B : Nat} {L : Nat → Lev} {ls ls' : Nat → List Int} (h : KAt w s g C B L ls) (he : ∀ n, n ≤ B → ls n = ls' n) : KAt w s g C B L ls' :=
  ⟨h.ex, h.row, fun n hn => he n hn ▸ h.lev n hn, h.sep, h.ok, h.hB⟩
end Go.Proofs.YteoblkcbemeamaaGreat

/- append of a whole row of numbers to a row of the call's own. -/
namespace Go.Proofs.YteoblkcbemeamaaGreat
set_option linter.unusedVariables false
open Go.RowKit
section
variable {P : Program}
theorem ints_app (a b : List Int) : ints (a ++ b) = ints a ++ ints b := by simp [ints]
theorem wpList_appl (W : World) {ops : Array Oper} {rest : List Oper} {o : Oper} {a : Act} {Q : Exit → Act → World → Prop} (l xs : List Int) (v : Value) (base : Nat) (e : TypeId) (hown : W.ownsRow base e 1 v xs.length (ints xs)) (t : TypeId)
    (hgd : o.guard = none) (s y : Operand) (ho : o.op = .call { callee := .builtin .append, args := #[s, y], argTypes := #[t, t] })
    (hinfo : (P.info? e).map (fun i => (i.zero, i.size, i.bytes)) = some (some (.int .i64 0), 1, 8)) (ht : P.underlying t = some (.slice e))
    (hs : a.eval s = v) (g off m c : Nat) (hx : a.eval y = .slice (some ⟨g, off, none⟩) m c) (hm : m = l.length) (hc : ∀ k, k < m → W.cell? ⟨g, off + k, none⟩ = some (.int .i64 (l.getD k 0)))
    (hl : xs.length + m ≤ 1000000000000) (hbase : base ≤ W.heap.size)
    (h : ∀ v' w', w'.ownsRow base e 1 v' (xs ++ l).length (ints (xs ++ l)) → W.grownBy w' v.ownBlock → (v'.ownBlock = v.ownBlock ∨ v'.ownBlock = some W.heap.size) → wpList P ops Q rest (a.put o.dst v') w') :
    wpList P ops Q (o :: rest) a W := by
  obtain ⟨i0, hi, hz0, hz1, hz2⟩ := info_parts hinfo
  subst hm
  refine wpList_append_sep _ hgd s y t ho base e i0 (.int .i64 0) 1 8 ht hi hz0 hz1 hz2 rfl (by decide) v xs.length (ints xs) hs hown ⟨g, off, none⟩ l.length c (ints l) hx (by rw [ints_len]; omega) ?_ ?_ (by unfold maxLen; omega) (by omega) hbase ?_
  · intro j u hu
    have hj : j < l.length := by
      have := (List.getElem?_eq_some_iff.1 hu).1
      rwa [ints_len] at this
    rw [show (⟨g, off, none⟩ : Addr).add j = ⟨g, off + j, none⟩ by simp [Addr.add], hc j hj, ← hu]
    simp [ints, hj]
  · intro u hu
    simp only [ints, List.mem_map] at hu
    obtain ⟨x, _, rfl⟩ := hu
    rfl
  · intro v' w' h1 h2 h3
    refine h v' w' ?_ h2 h3
    rw [List.length_append, ints_app]
    exact h1
end
theorem own_blk {w : World} {base n size : Nat} {e : TypeId} {v : Value} {xs : List Value} (h : w.ownsRow base e size v n xs) {k : Nat} (hk : v.ownBlock = some k) : base ≤ k := by
  rcases h.2 with ⟨rfl, _⟩ | ⟨g, cap, cur, rfl, hg, _⟩
  · cases hk
  · cases hk; exact hg
theorem ext_grown0 {w wr w1 : World} {row : Option Nat} (he : Ext w wr) (h : wr.grownBy w1 row) (hr : ∀ k, row = some k → w.heap.size ≤ k) : Ext w w1 := he.grown h he.size hr
/-- A slice of numbers that came in. -/
def SlArg (w : World) (p : Option Addr) (n cap : Nat) (l : List Int) : Prop :=
  n = l.length ∧ n ≤ cap ∧ ((n = 0 ∧ (p = none → cap = 0)) ∨ ∃ g off, p = some ⟨g, off, none⟩ ∧ g < w.heap.size ∧ ∀ k, k < n → w.cell? ⟨g, off + k, none⟩ = some (.int .i64 (l.getD k 0)))
end Go.Proofs.YteoblkcbemeamaaGreat

/- Rows of the call's own; worlds in which some blocks may have turned. -/
namespace Go.Proofs.YteoblkcbemeamaaGreat
set_option linter.unusedVariables false
open Go.RowKit

theorem own_setc {w : World} {base n size : Nat} {e : TypeId} {v : Value} {xs : List Value} (h : w.ownsRow base e size v n xs) {b : Nat} (hb : b < base) (o : Nat) (u : Value) : (w.setCell ⟨b, o, none⟩ u).ownsRow base e size v n xs := by
  refine ⟨h.1, ?_⟩
  rcases h.2 with h' | ⟨g, cap, cur, hv, hg, hh, hr⟩
  · exact .inl h'
  · exact .inr ⟨g, cap, cur, hv, hg, (setCell_other _ _ (by omega)).trans hh, hr⟩
theorem own_sl {w : World} {base n size : Nat} {e : TypeId} {v : Value} {xs : List Value} (h : w.ownsRow base e size v n xs) : ∃ p c, v = .slice p n c := by
  rcases h.2 with ⟨rfl, rfl⟩ | ⟨g, cap, cur, rfl, _⟩
  · exact ⟨none, 0, rfl⟩
  · exact ⟨_, _, rfl⟩
theorem own_ext {w w' : World} {base n size : Nat} {e : TypeId} {v : Value} {xs : List Value} (h : w.ownsRow base e size v n xs) (hE : Ext w w') : w'.ownsRow base e size v n xs := by
  refine ⟨h.1, ?_⟩
  rcases h.2 with h' | ⟨g, cap, cur, hv, hg, hh, hr⟩
  · exact .inl h'
  · exact .inr ⟨g, cap, cur, hv, hg, hE.keep hh, hr⟩
/-- A world in which what W has is as it was, but for the blocks in S. -/
structure AftS (S : Nat → Prop) (W : World) where
  w : World
  h : Mod S W w
instance (S : Nat → Prop) (W : World) : Nonempty (AftS S W) := ⟨⟨W, Mod.refl _ W⟩⟩
@[go_sem] theorem AftS.cell {S : Nat → Prop} {W : World} (x : AftS S W) {b o : Nat} (h : b < W.heap.size) (hn : ¬ S b) : x.w.cell? ⟨b, o, none⟩ = W.cell? ⟨b, o, none⟩ := mcell x.h h hn o
theorem afs_drew (S : Nat → Prop) (W : World) : ∃ x : AftS S W, W.drew = x.w := ⟨⟨_, Ext.mod _ (Below.drew (Ext.refl W))⟩, rfl⟩
theorem afs_step {S : Nat → Prop} {W w w' : World} (h : ∃ x : AftS S W, w = x.w) (he : Ext w w') : ∃ x : AftS S W, w' = x.w := by
  obtain ⟨x, rfl⟩ := h
  exact ⟨⟨w', x.h.trans (he.mod _)⟩, rfl⟩
theorem mod_grown {S : Nat → Prop} {W w w' : World} {o : Obj} {row : Option Nat} (h : Mod S W w) (hg : (w.alloc o).grownBy w' row) (hr : ∀ i, row = some i → S i) : Mod S W w' := by
  refine ⟨hg.os.trans h.os, hg.tape.trans h.tape, hg.output.trans h.output, Nat.le_trans h.size (Nat.le_trans (by rw [size_alloc]; exact Nat.le_succ _) hg.size), fun k hk hn => ?_⟩
  exact (grown_old hg (Nat.lt_of_lt_of_le hk h.size) (fun e => hn (hr k e.symm))).trans (h.block k hk hn)
theorem afs_grown {S : Nat → Prop} {W w w' : World} {o : Obj} {row : Option Nat} (h : ∃ x : AftS S W, w = x.w) (hg : (w.alloc o).grownBy w' row) (hr : ∀ i, row = some i → S i) : ∃ x : AftS S W, w' = x.w := by
  obtain ⟨x, rfl⟩ := h
  exact ⟨⟨w', mod_grown x.h hg hr⟩, rfl⟩
theorem info_upd : ∃ i z, Tryz.prog.info? 60 = some i ∧ i.zero = some z ∧ i.size = 2 ∧ i.bytes = 16 ∧ z.cells.size = 2 := by
  have h : (Tryz.prog.info? 60).map (fun i => (i.zero, i.size, i.bytes)) = some (some (.agg #[.int .u64 0, .int .i64 0]), 2, 16) := by kernel_rfl
  match hi : Tryz.prog.info? 60, h with
  | some i, h =>
    simp only [Option.map_some, Option.some.injEq, Prod.mk.injEq] at h
    exact ⟨i, _, rfl, h.1, h.2.1, h.2.2, rfl⟩
end Go.Proofs.YteoblkcbemeamaaGreat
