/- Part. No condition. -/
import Derived.Test.YtpnbgoahjoabkaaL4
import Derived.Test.YtpnbgoahjoabkaaL5
import Derived.Test.YtpnbgoahjoabkaaL13
import Derived.Test.YtpnbgoahjoabkaaL3
import Derived.Test.YtpnbgoahjoabkaaL10

/- exact.Merge, exact.Subtract; level.Merge, level.Subtract. -/
namespace Go.Proofs.Ytpnbgoahjoabkaa
set_option linter.unusedVariables false
open Go.RowKit
def EMergePost (w : World) (s b c : Nat) (C : Cfg) (lv : Int) (N : Nat) (m : List Int) (e : Ending) (w' : World) : Prop :=
  (allI m ∧ e = .returned (.int .i64 0) ∧ EAt w' s b c C lv N m ∧ Mod (fun k => k = c) w w') ∨ (¬ allI m ∧ e = .returned (.int .i64 4) ∧ Ext w w')
theorem EAt.putg {w w' : World} {s b c : Nat} {C : Cfg} {lv : Int} {N : Nat} {l m : List Int} (h : EAt w s b c C lv N l) (hg : GAt w' b c 1 N m) (hm : Mod (fun k => k = c) w w') (hi : allI m) : EAt w' s b c C lv N m :=
  ⟨by rw [hm.block s h.lts h.nes]; exact h.ex, hg, h.ok, h.lo, h.hi, h.hk, hi⟩
set_option maxRecDepth 20000 in
set_option maxHeartbeats 4000000 in
theorem EJoinPlus_c (s b c s2 b2 c2 : Nat) (C : Cfg) (lv : Int) (N : Nat) (l l2 : List Int) (w : World) (h : EAt w s b c C lv N l) (h2 : EAt w s2 b2 c2 C lv N l2) :
    Calls Try.prog 173 #[.pointer (some ⟨s, 0, none⟩), .pointer (some ⟨s2, 0, none⟩), .func (.func 111) #[] #[], .bool true] w (EMergePost w s b c C lv N (plusL l l2)) := by
  have HH := Lib.hid h
  have H2 := Lib.hid h2
  have c0 := (cell_of h.ex 0).trans rfl
  have c1 := (cell_of h.ex 1).trans rfl
  have c2' := (cell_of h.ex 2).trans rfl
  have c3 := (cell_of h.ex 3).trans rfl
  have c4 := (cell_of h.ex 4).trans rfl
  have c5 := (cell_of h.ex 5).trans rfl
  have d0 := (cell_of h2.ex 0).trans rfl
  have d1 := (cell_of h2.ex 1).trans rfl
  have d2 := (cell_of h2.ex 2).trans rfl
  have d3 := (cell_of h2.ex 3).trans rfl
  have d4 := (cell_of h2.ex 4).trans rfl
  have d5 := (cell_of h2.ex 5).trans rfl
  have l1 := h.lts
  have l2' := h2.lts
  clear h h2
  go_enter Try.func173, Try.ntmps173
  go_wp2_with fail
  refine wp_region_after (by kernel_rfl) (by kernel_rfl) ?_
  repeat (go_big_quiet_step (fail))
  refine wpQuiet_nil ?_
  rintro _ ⟨xx, rfl⟩
  obtain ⟨w1, hb1⟩ := xx
  try dsimp only
  clear c0 c1 c2' c3 c4 c5 d0 d1 d2 d3 d4 d5 l1 l2'
  have h' := HH.out.ext hb1
  have h2' := H2.out.ext hb1
  have c6 := (cell_of h'.ex 6).trans rfl
  have d6 := (cell_of h2'.ex 6).trans rfl
  have l1 := h'.lts
  have l2' := h2'.lts
  have hG1 := h'.g.ext (Below.drew (Ext.refl w1))
  have hG2 := h2'.g.ext (Below.drew (Ext.refl w1))
  have hf1 := h'.fit
  have hf2 := h2'.fit
  clear h' h2'
  go_wp2_with fail
  have hC0 := af_drew w1
  refine pi_start (fun w' => ∃ x : After w1, w' = x.w) [9] (by kernel_rfl) ?_
  refine pi_t 0 rfl (by kernel_rfl) (by kernel_rfl) (fun _ _ _ _ h => h) (fun K hK => ?_)
  go_big_quiet_op
  refine hK _ ?_
  clear hK K
  refine pi_t 1 rfl (by kernel_rfl) (by kernel_rfl) (fun _ _ _ _ h => h) (fun K hK => ?_)
  go_big_quiet_op
  refine hK _ ?_
  clear hK K
  refine pi_t 2 rfl (by kernel_rfl) (by kernel_rfl) (fun _ _ _ _ h => h) (fun K hK => ?_)
  go_big_quiet_op
  refine hK _ ?_
  clear hK K
  refine pi_t 3 rfl (by kernel_rfl) (by kernel_rfl) (fun _ _ _ _ h => h) (fun K hK => ?_)
  go_big_quiet_op
  refine hK _ ?_
  clear hK K
  refine pi_t 5 rfl (by kernel_rfl) (by kernel_rfl) (fun _ _ _ _ h => h) (fun K hK => ?_)
  go_big_quiet_op
  refine hK _ ?_
  clear hK K
  refine pi_t 6 rfl (by kernel_rfl) (by kernel_rfl) (fun _ _ _ _ h => h) (fun K hK => ?_)
  go_big_quiet_op
  refine hK _ ?_
  clear hK K
  refine pi_t 7 rfl (by kernel_rfl) (by kernel_rfl) (fun _ _ _ _ h => h) (fun K hK => ?_)
  go_big_quiet_op
  refine hK _ ?_
  clear hK K
  refine pi_c 4 (by assumption) rfl (by kernel_rfl) (by kernel_rfl) (fun _ _ _ _ h => h) (fun K hK => ?_)
  go_big_quiet_op
  refine hK _ ?_
  clear hK K
  refine pi_c 8 (by assumption) rfl (by kernel_rfl) (by kernel_rfl) (fun _ _ _ _ h => h) (fun K hK => ?_)
  go_big_quiet_op
  refine hK _ ?_
  clear hK K
  refine pi_l 9 rfl (by kernel_rfl) (fun K hK => ?_)
  go_wp2_with fail
  refine Calls.mono (GPlus_c b c b2 c2 1 N l l2 _ hG1 hG2 hf1 hf2) ?_
  intro e w2 hr0
  obtain ⟨z, rfl, hr⟩ := join_ret hr0
  clear hr0
  go_wp2
  refine hK _ _ (by simp) ?_
  clear hK K
  refine pi_t 10 rfl (by kernel_rfl) (by kernel_rfl) (fun _ _ _ _ h => h) (fun K hK => ?_)
  go_big_quiet_op
  refine hK _ ?_
  clear hK K
  refine pi_end (by kernel_rfl) ?_
  go_wp2
  go_ret
  have hx2 : Ext w w1.drew := Below.drew hb1
  rcases hr with ⟨rfl, ha, hg, hm⟩ | ⟨rfl, ha, hx⟩
  · have hm' : Mod (fun k => k = c) w w2 := (hx2.mod _).trans hm
    exact .inl ⟨ha, rfl, HH.out.putg hg hm' ha, hm'⟩
  · exact .inr ⟨ha, rfl, hx2.trans' hx⟩
set_option maxRecDepth 20000 in
set_option maxHeartbeats 4000000 in
theorem EJoinMinus_c (s b c s2 b2 c2 : Nat) (C : Cfg) (lv : Int) (N : Nat) (l l2 : List Int) (w : World) (h : EAt w s b c C lv N l) (h2 : EAt w s2 b2 c2 C lv N l2) :
    Calls Try.prog 173 #[.pointer (some ⟨s, 0, none⟩), .pointer (some ⟨s2, 0, none⟩), .func (.func 113) #[] #[], .bool true] w (EMergePost w s b c C lv N (minusL l l2)) := by
  have HH := Lib.hid h
  have H2 := Lib.hid h2
  have c0 := (cell_of h.ex 0).trans rfl
  have c1 := (cell_of h.ex 1).trans rfl
  have c2' := (cell_of h.ex 2).trans rfl
  have c3 := (cell_of h.ex 3).trans rfl
  have c4 := (cell_of h.ex 4).trans rfl
  have c5 := (cell_of h.ex 5).trans rfl
  have d0 := (cell_of h2.ex 0).trans rfl
  have d1 := (cell_of h2.ex 1).trans rfl
  have d2 := (cell_of h2.ex 2).trans rfl
  have d3 := (cell_of h2.ex 3).trans rfl
  have d4 := (cell_of h2.ex 4).trans rfl
  have d5 := (cell_of h2.ex 5).trans rfl
  have l1 := h.lts
  have l2' := h2.lts
  clear h h2
  go_enter Try.func173, Try.ntmps173
  go_wp2_with fail
  refine wp_region_after (by kernel_rfl) (by kernel_rfl) ?_
  repeat (go_big_quiet_step (fail))
  refine wpQuiet_nil ?_
  rintro _ ⟨xx, rfl⟩
  obtain ⟨w1, hb1⟩ := xx
  try dsimp only
  clear c0 c1 c2' c3 c4 c5 d0 d1 d2 d3 d4 d5 l1 l2'
  have h' := HH.out.ext hb1
  have h2' := H2.out.ext hb1
  have c6 := (cell_of h'.ex 6).trans rfl
  have d6 := (cell_of h2'.ex 6).trans rfl
  have l1 := h'.lts
  have l2' := h2'.lts
  have hG1 := h'.g.ext (Below.drew (Ext.refl w1))
  have hG2 := h2'.g.ext (Below.drew (Ext.refl w1))
  have hf1 := h'.fit
  have hf2 := h2'.fit
  clear h' h2'
  go_wp2_with fail
  have hC0 := af_drew w1
  refine pi_start (fun w' => ∃ x : After w1, w' = x.w) [9] (by kernel_rfl) ?_
  refine pi_t 0 rfl (by kernel_rfl) (by kernel_rfl) (fun _ _ _ _ h => h) (fun K hK => ?_)
  go_big_quiet_op
  refine hK _ ?_
  clear hK K
  refine pi_t 1 rfl (by kernel_rfl) (by kernel_rfl) (fun _ _ _ _ h => h) (fun K hK => ?_)
  go_big_quiet_op
  refine hK _ ?_
  clear hK K
  refine pi_t 2 rfl (by kernel_rfl) (by kernel_rfl) (fun _ _ _ _ h => h) (fun K hK => ?_)
  go_big_quiet_op
  refine hK _ ?_
  clear hK K
  refine pi_t 3 rfl (by kernel_rfl) (by kernel_rfl) (fun _ _ _ _ h => h) (fun K hK => ?_)
  go_big_quiet_op
  refine hK _ ?_
  clear hK K
  refine pi_t 5 rfl (by kernel_rfl) (by kernel_rfl) (fun _ _ _ _ h => h) (fun K hK => ?_)
  go_big_quiet_op
  refine hK _ ?_
  clear hK K
  refine pi_t 6 rfl (by kernel_rfl) (by kernel_rfl) (fun _ _ _ _ h => h) (fun K hK => ?_)
  go_big_quiet_op
  refine hK _ ?_
  clear hK K
  refine pi_t 7 rfl (by kernel_rfl) (by kernel_rfl) (fun _ _ _ _ h => h) (fun K hK => ?_)
  go_big_quiet_op
  refine hK _ ?_
  clear hK K
  refine pi_c 4 (by assumption) rfl (by kernel_rfl) (by kernel_rfl) (fun _ _ _ _ h => h) (fun K hK => ?_)
  go_big_quiet_op
  refine hK _ ?_
  clear hK K
  refine pi_c 8 (by assumption) rfl (by kernel_rfl) (by kernel_rfl) (fun _ _ _ _ h => h) (fun K hK => ?_)
  go_big_quiet_op
  refine hK _ ?_
  clear hK K
  refine pi_l 9 rfl (by kernel_rfl) (fun K hK => ?_)
  go_wp2_with fail
  refine Calls.mono (GMinus_c b c b2 c2 1 N l l2 _ hG1 hG2 hf1 hf2) ?_
  intro e w2 hr0
  obtain ⟨z, rfl, hr⟩ := join_ret hr0
  clear hr0
  go_wp2
  refine hK _ _ (by simp) ?_
  clear hK K
  refine pi_t 10 rfl (by kernel_rfl) (by kernel_rfl) (fun _ _ _ _ h => h) (fun K hK => ?_)
  go_big_quiet_op
  refine hK _ ?_
  clear hK K
  refine pi_end (by kernel_rfl) ?_
  go_wp2
  go_ret
  have hx2 : Ext w w1.drew := Below.drew hb1
  rcases hr with ⟨rfl, ha, hg, hm⟩ | ⟨rfl, ha, hx⟩
  · have hm' : Mod (fun k => k = c) w w2 := (hx2.mod _).trans hm
    exact .inl ⟨ha, rfl, HH.out.putg hg hm' ha, hm'⟩
  · exact .inr ⟨ha, rfl, hx2.trans' hx⟩
set_option maxRecDepth 20000 in
set_option maxHeartbeats 4000000 in
theorem EMerge_c (s b c s2 b2 c2 : Nat) (C : Cfg) (lv : Int) (N : Nat) (l l2 : List Int) (w : World) (h : EAt w s b c C lv N l) (h2 : EAt w s2 b2 c2 C lv N l2) :
    Calls Try.prog 136 #[.pointer (some ⟨s, 0, none⟩), .pointer (some ⟨s2, 0, none⟩)] w (EMergePost w s b c C lv N (plusL l l2)) := by
  go_enter Try.func136, Try.ntmps136
  go_wp2_with fail
  refine Calls.mono (EJoinPlus_c s b c s2 b2 c2 C lv N l l2 w h h2) ?_
  rintro e w' (⟨ha, rfl, hg, hm⟩ | ⟨ha, rfl, hx⟩)
  · go_wp2
    go_ret
    exact .inl ⟨ha, rfl, hg, hm⟩
  · go_wp2
    go_ret
    exact .inr ⟨ha, rfl, hx⟩
set_option maxRecDepth 20000 in
set_option maxHeartbeats 4000000 in
theorem ESubtract_c (s b c s2 b2 c2 : Nat) (C : Cfg) (lv : Int) (N : Nat) (l l2 : List Int) (w : World) (h : EAt w s b c C lv N l) (h2 : EAt w s2 b2 c2 C lv N l2) (hm : C.mode ≠ 2) :
    Calls Try.prog 140 #[.pointer (some ⟨s, 0, none⟩), .pointer (some ⟨s2, 0, none⟩)] w (EMergePost w s b c C lv N (minusL l l2)) := by
  have hmb : (C.mode == 2) = false := by simpa using hm
  have hmb2 : (C.mode != 2) = true := by simpa using hm
  have c3 := (cell_of h.ex 3).trans rfl
  have l1 := h.lts
  have HJ := Lib.hid (EJoinMinus_c s b c s2 b2 c2 C lv N l l2 w h h2)
  clear hm h h2
  go_enter Try.func140, Try.ntmps140
  go_wp2_with fail
  refine Calls.mono HJ.out ?_
  rintro e w' (⟨ha, rfl, hg, hm⟩ | ⟨ha, rfl, hx⟩)
  · go_wp2
    go_ret
    exact .inl ⟨ha, rfl, hg, hm⟩
  · go_wp2
    go_ret
    exact .inr ⟨ha, rfl, hx⟩
set_option maxRecDepth 20000 in
set_option maxHeartbeats 4000000 in
/-- In the mode Conservative nothing is taken away. -/
theorem ESubtract_mode (s b c s2 b2 c2 : Nat) (C : Cfg) (lv : Int) (N : Nat) (l l2 : List Int) (w : World) (h : EAt w s b c C lv N l) (h2 : EAt w s2 b2 c2 C lv N l2) (hm : C.mode = 2) :
    Calls Try.prog 140 #[.pointer (some ⟨s, 0, none⟩), .pointer (some ⟨s2, 0, none⟩)] w fun e w' => e = .returned (.int .i64 3) ∧ Ext w w' := by
  have hj : Calls Try.prog 173 #[.pointer (some ⟨s, 0, none⟩), .pointer (some ⟨s2, 0, none⟩), .func (.func 113) #[] #[], .bool false] w fun e w' => e = .returned (.int .i64 3) ∧ Ext w w' := by
    have c0 := (cell_of h.ex 0).trans rfl
    have c1 := (cell_of h.ex 1).trans rfl
    have c2' := (cell_of h.ex 2).trans rfl
    have c3 := (cell_of h.ex 3).trans rfl
    have c4 := (cell_of h.ex 4).trans rfl
    have c5 := (cell_of h.ex 5).trans rfl
    have d0 := (cell_of h2.ex 0).trans rfl
    have d1 := (cell_of h2.ex 1).trans rfl
    have d2 := (cell_of h2.ex 2).trans rfl
    have d3 := (cell_of h2.ex 3).trans rfl
    have d4 := (cell_of h2.ex 4).trans rfl
    have d5 := (cell_of h2.ex 5).trans rfl
    have l1 := h.lts
    have l2' := h2.lts
    clear h h2 hm
    go_enter Try.func173, Try.ntmps173
    go_wp2_with fail
    refine wp_region_after (by kernel_rfl) (by kernel_rfl) ?_
    repeat (go_big_quiet_step (fail))
    refine wpQuiet_nil ?_
    rintro _ ⟨xx, rfl⟩
    obtain ⟨w1, hb1⟩ := xx
    try dsimp only
    go_wp2
    go_ret
    exact ⟨rfl, hb1⟩
  have c3 := (cell_of h.ex 3).trans (show _ = some (Value.int .i64 2) by rw [← hm]; rfl)
  have l1 := h.lts
  clear hm
  go_enter Try.func140, Try.ntmps140
  go_wp2_with fail
  refine Calls.mono hj ?_
  rintro e w' ⟨rfl, hx⟩
  go_wp2
  go_ret
  exact ⟨rfl, hx⟩
set_option maxRecDepth 20000 in
set_option maxHeartbeats 8000000 in
/-- Unlike arrays are not put together. -/
theorem EJoin_no (P : Nat) (may : Bool) (s b c s2 b2 c2 : Nat) (C C2 : Cfg) (lv lv2 : Int) (N N2 : Nat) (l l2 : List Int) (w : World) (h : EAt w s b c C lv N l) (h2 : EAt w s2 b2 c2 C2 lv2 N2 l2) (hp : PartsAt C2 lv2 C lv) :
    Calls Try.prog 173 #[.pointer (some ⟨s, 0, none⟩), .pointer (some ⟨s2, 0, none⟩), .func (.func P) #[] #[], .bool may] w fun e w' => e = .returned (.int .i64 5) ∧ Ext w w' := by
  have c0 := (cell_of h.ex 0).trans rfl
  have c1 := (cell_of h.ex 1).trans rfl
  have c2' := (cell_of h.ex 2).trans rfl
  have c3 := (cell_of h.ex 3).trans rfl
  have c4 := (cell_of h.ex 4).trans rfl
  have c5 := (cell_of h.ex 5).trans rfl
  have d0 := (cell_of h2.ex 0).trans rfl
  have d1 := (cell_of h2.ex 1).trans rfl
  have d2 := (cell_of h2.ex 2).trans rfl
  have d3 := (cell_of h2.ex 3).trans rfl
  have d4 := (cell_of h2.ex 4).trans rfl
  have d5 := (cell_of h2.ex 5).trans rfl
  have l1 := h.lts
  have l2' := h2.lts
  clear h h2
  rcases hp with h | ⟨h0, h⟩ | ⟨h0, h1, h⟩ | ⟨h0, h1, h2, h⟩ | ⟨h0, h1, h2, h3, h⟩ | ⟨h0, h1, h2, h3, h4, h⟩
  all_goals
    go_enter Try.func173, Try.ntmps173
    go_wp2_with fail
    refine wp_region_after (by kernel_rfl) (by kernel_rfl) ?_
    repeat (go_big_quiet_step (fail))
    refine wpQuiet_nil ?_
    rintro _ ⟨xx, rfl⟩
    obtain ⟨w1, hb1⟩ := xx
    try dsimp only
    go_wp2
    go_ret
    exact ⟨rfl, hb1⟩
set_option maxRecDepth 20000 in
set_option maxHeartbeats 4000000 in
theorem EMerge_no (s b c s2 b2 c2 : Nat) (C C2 : Cfg) (lv lv2 : Int) (N N2 : Nat) (l l2 : List Int) (w : World) (h : EAt w s b c C lv N l) (h2 : EAt w s2 b2 c2 C2 lv2 N2 l2) (hp : PartsAt C2 lv2 C lv) :
    Calls Try.prog 136 #[.pointer (some ⟨s, 0, none⟩), .pointer (some ⟨s2, 0, none⟩)] w fun e w' => e = .returned (.int .i64 5) ∧ Ext w w' := by
  have hj := EJoin_no 111 true s b c s2 b2 c2 C C2 lv lv2 N N2 l l2 w h h2 hp
  have HJ := Lib.hid hj
  clear hj h h2 hp
  go_enter Try.func136, Try.ntmps136
  go_wp2_with fail
  refine Calls.mono HJ.out ?_
  rintro e w' ⟨rfl, hx⟩
  go_wp2
  go_ret
  exact ⟨rfl, hx⟩
set_option maxRecDepth 20000 in
set_option maxHeartbeats 4000000 in
theorem ESubtract_no (s b c s2 b2 c2 : Nat) (C C2 : Cfg) (lv lv2 : Int) (N N2 : Nat) (l l2 : List Int) (w : World) (h : EAt w s b c C lv N l) (h2 : EAt w s2 b2 c2 C2 lv2 N2 l2) (hp : PartsAt C2 lv2 C lv) :
    Calls Try.prog 140 #[.pointer (some ⟨s, 0, none⟩), .pointer (some ⟨s2, 0, none⟩)] w fun e w' => e = .returned (.int .i64 5) ∧ Ext w w' := by
  have hj := fun may => EJoin_no 113 may s b c s2 b2 c2 C C2 lv lv2 N N2 l l2 w h h2 hp
  have c3 := (cell_of h.ex 3).trans rfl
  have l1 := h.lts
  have HJ := Lib.hid hj
  clear hj h h2 hp
  by_cases hm : C.mode = 2
  · replace c3 : w.cell? ⟨s, 3, none⟩ = some (Value.int .i64 2) := by rw [← hm]; exact c3
    go_enter Try.func140, Try.ntmps140
    go_wp2_with fail
    refine Calls.mono (HJ.out _) ?_
    rintro e w' ⟨rfl, hx⟩
    go_wp2
    go_ret
    exact ⟨rfl, hx⟩
  · have hmb : (C.mode == 2) = false := by simpa using hm
    have hmb2 : (C.mode != 2) = true := by simpa using hm
    clear hm
    go_enter Try.func140, Try.ntmps140
    go_wp2_with fail
    refine Calls.mono (HJ.out _) ?_
    rintro e w' ⟨rfl, hx⟩
    go_wp2
    go_ret
    exact ⟨rfl, hx⟩
end Go.Proofs.Ytpnbgoahjoabkaa

/- level.Merge, level.Subtract. -/
namespace Go.Proofs.Ytpnbgoahjoabkaa
set_option linter.unusedVariables false
open Go.RowKit
set_option maxRecDepth 20000 in
theorem sk_ss (s s2 : Nat) (w : World) :
    Calls Try.prog 134 #[.iface 30 (.pointer (some ⟨s, 0, none⟩)), .iface 30 (.pointer (some ⟨s2, 0, none⟩))] w fun e w' => e = .returned (.tuple #[.pointer (some ⟨s, 0, none⟩), .pointer (some ⟨s2, 0, none⟩), .bool true]) ∧ w = w' := by
  go_enter Try.func134, Try.ntmps134
  go_wp2_with fail
  refine (AsSketch_s s2 w).mono ?_
  rintro e w1 ⟨rfl, rfl⟩
  go_wp2_with fail
  refine (AsSketch_s s w).mono ?_
  rintro e w1 ⟨rfl, rfl⟩
  go_wp2_with fail
  refine (MustSketch_s s2 w).mono ?_
  rintro e w1 ⟨rfl, rfl⟩
  go_wp2
  go_ret3
  exact ⟨rfl, rfl⟩
set_option maxRecDepth 20000 in
theorem sk_xs (s s2 : Nat) (w : World) :
    Calls Try.prog 134 #[.iface 174 (.pointer (some ⟨s, 0, none⟩)), .iface 30 (.pointer (some ⟨s2, 0, none⟩))] w fun e w' => e = .returned (.tuple #[.pointer none, .pointer (some ⟨s2, 0, none⟩), .bool false]) ∧ w = w' := by
  go_enter Try.func134, Try.ntmps134
  go_wp2_with fail
  refine (AsSketch_s s2 w).mono ?_
  rintro e w1 ⟨rfl, rfl⟩
  go_wp2_with fail
  refine (AsSketch_x s w).mono ?_
  rintro e w1 ⟨rfl, rfl⟩
  go_wp2_with fail
  refine (MustSketch_s s2 w).mono ?_
  rintro e w1 ⟨rfl, rfl⟩
  go_wp2
  go_ret3
  exact ⟨rfl, rfl⟩
set_option maxRecDepth 20000 in
theorem sk_ix (t : TypeId) (s s2 : Nat) (w : World) :
    Calls Try.prog 134 #[.iface t (.pointer (some ⟨s, 0, none⟩)), .iface 174 (.pointer (some ⟨s2, 0, none⟩))] w fun e w' => e = .returned (.tuple #[.pointer none, .pointer none, .bool false]) ∧ w = w' := by
  go_enter Try.func134, Try.ntmps134
  go_wp2_with fail
  refine (AsSketch_x s2 w).mono ?_
  rintro e w1 ⟨rfl, rfl⟩
  go_wp2
  go_ret3
  exact ⟨rfl, rfl⟩
set_option maxRecDepth 20000 in
theorem arr_xx (s s2 : Nat) (w : World) :
    Calls Try.prog 135 #[.iface 174 (.pointer (some ⟨s, 0, none⟩)), .iface 174 (.pointer (some ⟨s2, 0, none⟩))] w fun e w' => e = .returned (.tuple #[.pointer (some ⟨s, 0, none⟩), .pointer (some ⟨s2, 0, none⟩), .bool true]) ∧ w = w' := by
  go_enter Try.func135, Try.ntmps135
  go_wp2
  go_ret3
  exact ⟨rfl, rfl⟩
set_option maxRecDepth 20000 in
theorem arr_sx (s s2 : Nat) (w : World) :
    Calls Try.prog 135 #[.iface 30 (.pointer (some ⟨s, 0, none⟩)), .iface 174 (.pointer (some ⟨s2, 0, none⟩))] w fun e w' => e = .returned (.tuple #[.pointer none, .pointer none, .bool false]) ∧ w = w' := by
  go_enter Try.func135, Try.ntmps135
  go_wp2
  go_ret3
  exact ⟨rfl, rfl⟩
set_option maxRecDepth 20000 in
theorem arr_xs (s s2 : Nat) (w : World) :
    Calls Try.prog 135 #[.iface 174 (.pointer (some ⟨s, 0, none⟩)), .iface 30 (.pointer (some ⟨s2, 0, none⟩))] w fun e w' => e = .returned (.tuple #[.pointer none, .pointer none, .bool false]) ∧ w = w' := by
  go_enter Try.func135, Try.ntmps135
  go_wp2
  go_ret3
  exact ⟨rfl, rfl⟩
set_option maxRecDepth 20000 in
set_option maxHeartbeats 4000000 in
theorem SSubtract_mode (s b c s2 b2 c2 : Nat) (C : Cfg) (lv : Int) (R W : Nat) (l l2 : List Int) (w : World) (h : SAt w s b c C lv R W l) (h2 : SAt w s2 b2 c2 C lv R W l2) (hm : C.mode = 2) :
    Calls Try.prog 39 #[.pointer (some ⟨s, 0, none⟩), .pointer (some ⟨s2, 0, none⟩)] w fun e w' => e = .returned (.int .i64 3) ∧ Ext w w' := by
  have HJ := Lib.hid (alike_yes s b c s2 b2 c2 C lv R W l l2 w h h2)
  have HH := Lib.hid h
  have HM := Lib.hid hm
  clear h h2 hm
  go_enter Try.func39, Try.ntmps39
  go_wp2_with fail
  refine Calls.mono HJ.out ?_
  rintro e w1 ⟨rfl, hx1⟩
  have h' := HH.out.ext hx1
  have c4 := (cell_of h'.ex 4).trans (show _ = some (Value.int .i64 2) by rw [← HM.out]; rfl)
  have l1 := h'.lts
  clear h'
  go_wp2
  go_ret
  exact ⟨rfl, hx1⟩
def LMergePost (w : World) (L : Lev) (C : Cfg) (lv : Int) (m : List Int) (e : Ending) (w' : World) : Prop :=
  (allI m ∧ e = .returned (.int .i64 0) ∧ LvAt w' L C lv m ∧ Mod (fun k => k = L.c) w w') ∨ (¬ allI m ∧ e = .returned (.int .i64 4) ∧ Ext w w')
set_option maxRecDepth 20000 in
set_option maxHeartbeats 4000000 in
theorem LMerge_c (C : Cfg) (lv : Int) (L L2 : Lev) (l l2 : List Int) (w : World) (h : LvAt w L C lv l) (h2 : LvAt w L2 C lv l2) :
    Calls Try.prog 85 #[lvV C lv L, lvV C lv L2] w (LMergePost w L C lv (plusL l l2)) := by
  cases hx : isX C lv with
  | true =>
    have HJ := Lib.hid (EMerge_c _ _ _ _ _ _ C lv _ l l2 w (h.x hx) (h2.x hx))
    have HX := Lib.hid hx
    rw [lvV_x hx, lvV_x hx]
    clear hx h h2
    go_enter Try.func85, Try.ntmps85
    go_wp2_with fail
    refine (sk_ix _ _ _ _).mono ?_
    rintro e w1 ⟨rfl, rfl⟩
    go_wp2_with fail
    refine (arr_xx _ _ _).mono ?_
    rintro e w1 ⟨rfl, rfl⟩
    go_wp2_with fail
    refine Calls.mono HJ.out ?_
    rintro e w' (⟨ha, rfl, hg, hm⟩ | ⟨ha, rfl, hx⟩)
    · go_wp2
      go_ret
      exact .inl ⟨ha, rfl, .inl ⟨HX.out, hg⟩, hm⟩
    · go_wp2
      go_ret
      exact .inr ⟨ha, rfl, hx⟩
  | false =>
    have HJ := Lib.hid (SMerge_c _ _ _ _ _ _ C lv _ _ l l2 w (h.sk hx) (h2.sk hx))
    have HX := Lib.hid hx
    rw [lvV_s hx, lvV_s hx]
    clear hx h h2
    go_enter Try.func85, Try.ntmps85
    go_wp2_with fail
    refine (sk_ss _ _ _).mono ?_
    rintro e w1 ⟨rfl, rfl⟩
    go_wp2_with fail
    refine Calls.mono HJ.out ?_
    rintro e w' (⟨ha, rfl, hg, hm⟩ | ⟨ha, rfl, hx⟩)
    · go_wp2
      go_ret
      exact .inl ⟨ha, rfl, .inr ⟨HX.out, hg⟩, hm⟩
    · go_wp2
      go_ret
      exact .inr ⟨ha, rfl, hx⟩
set_option maxRecDepth 20000 in
set_option maxHeartbeats 4000000 in
theorem LSubtract_c (C : Cfg) (lv : Int) (L L2 : Lev) (l l2 : List Int) (w : World) (h : LvAt w L C lv l) (h2 : LvAt w L2 C lv l2) (hm : C.mode ≠ 2) :
    Calls Try.prog 87 #[lvV C lv L, lvV C lv L2] w (LMergePost w L C lv (minusL l l2)) := by
  cases hx : isX C lv with
  | true =>
    have HJ := Lib.hid (ESubtract_c _ _ _ _ _ _ C lv _ l l2 w (h.x hx) (h2.x hx) hm)
    have HX := Lib.hid hx
    rw [lvV_x hx, lvV_x hx]
    clear hx h h2 hm
    go_enter Try.func87, Try.ntmps87
    go_wp2_with fail
    refine (sk_ix _ _ _ _).mono ?_
    rintro e w1 ⟨rfl, rfl⟩
    go_wp2_with fail
    refine (arr_xx _ _ _).mono ?_
    rintro e w1 ⟨rfl, rfl⟩
    go_wp2_with fail
    refine Calls.mono HJ.out ?_
    rintro e w' (⟨ha, rfl, hg, hm⟩ | ⟨ha, rfl, hx⟩)
    · go_wp2
      go_ret
      exact .inl ⟨ha, rfl, .inl ⟨HX.out, hg⟩, hm⟩
    · go_wp2
      go_ret
      exact .inr ⟨ha, rfl, hx⟩
  | false =>
    have HJ := Lib.hid (SSubtract_c _ _ _ _ _ _ C lv _ _ l l2 w (h.sk hx) (h2.sk hx) hm)
    have HX := Lib.hid hx
    rw [lvV_s hx, lvV_s hx]
    clear hx h h2 hm
    go_enter Try.func87, Try.ntmps87
    go_wp2_with fail
    refine (sk_ss _ _ _).mono ?_
    rintro e w1 ⟨rfl, rfl⟩
    go_wp2_with fail
    refine Calls.mono HJ.out ?_
    rintro e w' (⟨ha, rfl, hg, hm⟩ | ⟨ha, rfl, hx⟩)
    · go_wp2
      go_ret
      exact .inl ⟨ha, rfl, .inr ⟨HX.out, hg⟩, hm⟩
    · go_wp2
      go_ret
      exact .inr ⟨ha, rfl, hx⟩
set_option maxRecDepth 20000 in
set_option maxHeartbeats 4000000 in
theorem LSubtract_mode (C : Cfg) (lv : Int) (L L2 : Lev) (l l2 : List Int) (w : World) (h : LvAt w L C lv l) (h2 : LvAt w L2 C lv l2) (hm : C.mode = 2) :
    Calls Try.prog 87 #[lvV C lv L, lvV C lv L2] w fun e w' => e = .returned (.int .i64 3) ∧ Ext w w' := by
  cases hx : isX C lv with
  | true =>
    have HJ := Lib.hid (ESubtract_mode _ _ _ _ _ _ C lv _ l l2 w (h.x hx) (h2.x hx) hm)
    rw [lvV_x hx, lvV_x hx]
    clear hx h h2 hm
    go_enter Try.func87, Try.ntmps87
    go_wp2_with fail
    refine (sk_ix _ _ _ _).mono ?_
    rintro e w1 ⟨rfl, rfl⟩
    go_wp2_with fail
    refine (arr_xx _ _ _).mono ?_
    rintro e w1 ⟨rfl, rfl⟩
    go_wp2_with fail
    refine Calls.mono HJ.out ?_
    rintro e w' ⟨rfl, hx⟩
    go_wp2
    go_ret
    exact ⟨rfl, hx⟩
  | false =>
    have HJ := Lib.hid (SSubtract_mode _ _ _ _ _ _ C lv _ _ l l2 w (h.sk hx) (h2.sk hx) hm)
    rw [lvV_s hx, lvV_s hx]
    clear hx h h2 hm
    go_enter Try.func87, Try.ntmps87
    go_wp2_with fail
    refine (sk_ss _ _ _).mono ?_
    rintro e w1 ⟨rfl, rfl⟩
    go_wp2_with fail
    refine Calls.mono HJ.out ?_
    rintro e w' ⟨rfl, hx⟩
    go_wp2
    go_ret
    exact ⟨rfl, hx⟩
set_option maxRecDepth 20000 in
set_option maxHeartbeats 4000000 in
theorem LMerge_no (C C2 : Cfg) (lv lv2 : Int) (L L2 : Lev) (l l2 : List Int) (w : World) (h : LvAt w L C lv l) (h2 : LvAt w L2 C2 lv2 l2) (hp : PartsAt C2 lv2 C lv) :
    Calls Try.prog 85 #[lvV C lv L, lvV C2 lv2 L2] w fun e w' => e = .returned (.int .i64 5) ∧ Ext w w' := by
  cases hx : isX C lv with
  | true =>
    cases hy : isX C2 lv2 with
    | true =>
      have HJ := Lib.hid (EMerge_no _ _ _ _ _ _ C C2 lv lv2 _ _ l l2 w (h.x hx) (h2.x hy) hp)
      rw [lvV_x hx, lvV_x hy]
      clear hx hy h h2 hp
      go_enter Try.func85, Try.ntmps85
      go_wp2_with fail
      refine (sk_ix _ _ _ _).mono ?_
      rintro e w1 ⟨rfl, rfl⟩
      go_wp2_with fail
      refine (arr_xx _ _ _).mono ?_
      rintro e w1 ⟨rfl, rfl⟩
      go_wp2_with fail
      refine Calls.mono HJ.out ?_
      rintro e w' ⟨rfl, hx⟩
      go_wp2
      go_ret
      exact ⟨rfl, hx⟩
    | false =>
      rw [lvV_x hx, lvV_s hy]
      clear hx hy h h2 hp
      go_enter Try.func85, Try.ntmps85
      go_wp2_with fail
      refine (sk_xs _ _ _).mono ?_
      rintro e w1 ⟨rfl, rfl⟩
      go_wp2_with fail
      refine (arr_xs _ _ _).mono ?_
      rintro e w1 ⟨rfl, rfl⟩
      go_wp2
      go_ret
      exact ⟨rfl, Ext.refl _⟩
  | false =>
    cases hy : isX C2 lv2 with
    | true =>
      rw [lvV_s hx, lvV_x hy]
      clear hx hy h h2 hp
      go_enter Try.func85, Try.ntmps85
      go_wp2_with fail
      refine (sk_ix _ _ _ _).mono ?_
      rintro e w1 ⟨rfl, rfl⟩
      go_wp2_with fail
      refine (arr_sx _ _ _).mono ?_
      rintro e w1 ⟨rfl, rfl⟩
      go_wp2
      go_ret
      exact ⟨rfl, Ext.refl _⟩
    | false =>
      have HJ := Lib.hid (SMerge_no _ _ _ _ _ _ C C2 lv lv2 _ _ _ _ l l2 w (h.sk hx) (h2.sk hy) hp)
      rw [lvV_s hx, lvV_s hy]
      clear hx hy h h2 hp
      go_enter Try.func85, Try.ntmps85
      go_wp2_with fail
      refine (sk_ss _ _ _).mono ?_
      rintro e w1 ⟨rfl, rfl⟩
      go_wp2_with fail
      refine Calls.mono HJ.out ?_
      rintro e w' ⟨rfl, hx⟩
      go_wp2
      go_ret
      exact ⟨rfl, hx⟩
set_option maxRecDepth 20000 in
set_option maxHeartbeats 4000000 in
theorem LSubtract_no (C C2 : Cfg) (lv lv2 : Int) (L L2 : Lev) (l l2 : List Int) (w : World) (h : LvAt w L C lv l) (h2 : LvAt w L2 C2 lv2 l2) (hp : PartsAt C2 lv2 C lv) :
    Calls Try.prog 87 #[lvV C lv L, lvV C2 lv2 L2] w fun e w' => e = .returned (.int .i64 5) ∧ Ext w w' := by
  cases hx : isX C lv with
  | true =>
    cases hy : isX C2 lv2 with
    | true =>
      have HJ := Lib.hid (ESubtract_no _ _ _ _ _ _ C C2 lv lv2 _ _ l l2 w (h.x hx) (h2.x hy) hp)
      rw [lvV_x hx, lvV_x hy]
      clear hx hy h h2 hp
      go_enter Try.func87, Try.ntmps87
      go_wp2_with fail
      refine (sk_ix _ _ _ _).mono ?_
      rintro e w1 ⟨rfl, rfl⟩
      go_wp2_with fail
      refine (arr_xx _ _ _).mono ?_
      rintro e w1 ⟨rfl, rfl⟩
      go_wp2_with fail
      refine Calls.mono HJ.out ?_
      rintro e w' ⟨rfl, hx⟩
      go_wp2
      go_ret
      exact ⟨rfl, hx⟩
    | false =>
      rw [lvV_x hx, lvV_s hy]
      clear hx hy h h2 hp
      go_enter Try.func87, Try.ntmps87
      go_wp2_with fail
      refine (sk_xs _ _ _).mono ?_
      rintro e w1 ⟨rfl, rfl⟩
      go_wp2_with fail
      refine (arr_xs _ _ _).mono ?_
      rintro e w1 ⟨rfl, rfl⟩
      go_wp2
      go_ret
      exact ⟨rfl, Ext.refl _⟩
  | false =>
    cases hy : isX C2 lv2 with
    | true =>
      rw [lvV_s hx, lvV_x hy]
      clear hx hy h h2 hp
      go_enter Try.func87, Try.ntmps87
      go_wp2_with fail
      refine (sk_ix _ _ _ _).mono ?_
      rintro e w1 ⟨rfl, rfl⟩
      go_wp2_with fail
      refine (arr_sx _ _ _).mono ?_
      rintro e w1 ⟨rfl, rfl⟩
      go_wp2
      go_ret
      exact ⟨rfl, Ext.refl _⟩
    | false =>
      have HJ := Lib.hid (SSubtract_no _ _ _ _ _ _ C C2 lv lv2 _ _ _ _ l l2 w (h.sk hx) (h2.sk hy) hp)
      rw [lvV_s hx, lvV_s hy]
      clear hx hy h h2 hp
      go_enter Try.func87, Try.ntmps87
      go_wp2_with fail
      refine (sk_ss _ _ _).mono ?_
      rintro e w1 ⟨rfl, rfl⟩
      go_wp2_with fail
      refine Calls.mono HJ.out ?_
      rintro e w' ⟨rfl, hx⟩
      go_wp2
      go_ret
      exact ⟨rfl, hx⟩
end Go.Proofs.Ytpnbgoahjoabkaa

/- level.Inner. -/
namespace Go.Proofs.Ytpnbgoahjoabkaa
set_option linter.unusedVariables false
open Go.RowKit
/-- What the product of two levels is. -/
def lvInn (C : Cfg) (lv : Int) (l m : List Int) : Option Int := bif isX C lv then dotF l m (kN C lv) else innF l m (wN C) (rN C)
@[go_sem] theorem fld_mode (b r c m s : Int) (w : World) : (Instr.field 24 (.agg #[.int .i64 b, .int .i64 r, .int .i64 c, .int .i64 m, .int .u64 s]) 3).run Try.prog w = .ok (.int .i64 m) w := by kernel_rfl
set_option maxRecDepth 20000 in
set_option maxHeartbeats 8000000 in
theorem LInnerX_c (s b c s2 b2 c2 : Nat) (C : Cfg) (lv : Int) (N : Nat) (l m : List Int) (w : World) (h : EAt w s b c C lv N l) (h2 : EAt w s2 b2 c2 C lv N m) (hm : C.mode = 1) :
    Calls Try.prog 86 #[.iface 174 (.pointer (some ⟨s, 0, none⟩)), .iface 174 (.pointer (some ⟨s2, 0, none⟩))] w fun e w' => e = .returned (innV (dotF l m N)) ∧ Ext w w' := by
  have H := Lib.hid h
  have H2 := Lib.hid h2
  have hm' : (C.mode != 1) = false := by simp [hm]
  have hln := h.len
  have hln2 := h2.len
  have hN := h.g.w2
  have HI := Lib.hid h.fit
  have HI2 := Lib.hid h2.fit
  have HL := Lib.hid hln
  have HL2 := Lib.hid hln2
  clear h h2 hm hln hln2
  go_enter Try.func86, Try.ntmps86
  go_wp2_with fail
  refine (sk_ix _ _ _ _).mono ?_
  rintro e w1 ⟨rfl, rfl⟩
  go_wp2_with fail
  refine (arr_xx _ _ _).mono ?_
  rintro e w1 ⟨rfl, rfl⟩
  go_upto_region 5 with (fail)
  have hz0 := heap_at w (.cells #[.int .i64 0, .int .u64 0] 40) rfl
  have hE0 : Ext w (w.alloc (.cells #[.int .i64 0, .int .u64 0] 40)) := Ext.alloc' _ _
  generalize w.alloc (.cells #[.int .i64 0, .int .u64 0] 40) = w0 at *
  have HZ0 := Lib.hid hz0
  clear hz0
  go_cut [34] (fun s34 wx => s34 = .bool false ∧ Ext w0 wx)
  case first =>
    go_wp2_with (first | (go_at_call 137; refine (EConfig_c s b c C lv N l _ (H.out.ext (by (repeat' (first | exact Ext.refl _ | assumption | apply Ext.allocR | apply Ext.drewR | apply Ext.drewNR | (refine Ext.trans' ?_ (by assumption))))))).mono ?_; rintro e w1 ⟨rfl, hb1⟩) | (go_at_call 137; refine (EConfig_c s2 b2 c2 C lv N m _ (H2.out.ext (by (repeat' (first | exact Ext.refl _ | assumption | apply Ext.allocR | apply Ext.drewR | apply Ext.drewNR | (refine Ext.trans' ?_ (by assumption))))))).mono ?_; rintro e w2 ⟨rfl, hb2⟩) | (go_at_call 138; refine (ELevel_c s b c C lv N l _ (H.out.ext (by (repeat' (first | exact Ext.refl _ | assumption | apply Ext.allocR | apply Ext.drewR | apply Ext.drewNR | (refine Ext.trans' ?_ (by assumption))))))).mono ?_; rintro e w3 ⟨rfl, rfl⟩) | (go_at_call 138; refine (ELevel_c s2 b2 c2 C lv N m _ (H2.out.ext (by (repeat' (first | exact Ext.refl _ | assumption | apply Ext.allocR | apply Ext.drewR | apply Ext.drewNR | (refine Ext.trans' ?_ (by assumption))))))).mono ?_; rintro e w4 ⟨rfl, rfl⟩))
    go_meet
    exact ⟨by first | rfl | simp, by (repeat' (first | exact Ext.refl _ | assumption | apply Ext.allocR | apply Ext.drewR | apply Ext.drewNR | (refine Ext.trans' ?_ (by assumption))))⟩
  case rest =>
    obtain ⟨rfl, hEc⟩ := hcut
    go_wp2_with fail
    refine Calls.mono (EConfig_c s b c C lv N l _ (H.out.ext ?hx)) ?_
    case hx => (repeat' (first | exact Ext.refl _ | assumption | apply Ext.allocR | apply Ext.drewR | apply Ext.drewNR | (refine Ext.trans' ?_ (by assumption))))
    rintro e w1 ⟨rfl, hb1⟩
    have hE1 : Ext w0 w1 := by (repeat' (first | exact Ext.refl _ | assumption | apply Ext.allocR | apply Ext.drewR | apply Ext.drewNR | (refine Ext.trans' ?_ (by assumption))))
    clear hb1 hEc
    go_wp2_with fail
    refine Calls.mono (ECells_c s b c C lv N l _ (H.out.ext ?hx)) ?_
    case hx => (repeat' (first | exact Ext.refl _ | assumption | apply Ext.allocR | apply Ext.drewR | apply Ext.drewNR | (refine Ext.trans' ?_ (by assumption))))
    rintro e w2 ⟨v1, rfl, ho1, _, hx2⟩
    have hE2 : Ext w0 w2 := by (repeat' (first | exact Ext.refl _ | assumption | apply Ext.allocR | apply Ext.drewR | apply Ext.drewNR | (refine Ext.trans' ?_ (by assumption))))
    have hi1 := IntsAt.of_row ho1
    obtain ⟨p1, q1, rfl⟩ := own_sl ho1
    clear hx2 hE1 ho1
    go_wp2_with fail
    refine Calls.mono (ECells_c s2 b2 c2 C lv N m _ (H2.out.ext ?hx)) ?_
    case hx => (repeat' (first | exact Ext.refl _ | assumption | apply Ext.allocR | apply Ext.drewR | apply Ext.drewNR | (refine Ext.trans' ?_ (by assumption))))
    rintro e w3 ⟨v2, rfl, ho2, _, hx3⟩
    have hE3 : Ext w0 w3 := by (repeat' (first | exact Ext.refl _ | assumption | apply Ext.allocR | apply Ext.drewR | apply Ext.drewNR | (refine Ext.trans' ?_ (by assumption))))
    have hi2 := IntsAt.of_row ho2
    have hi1' := hi1.ext hx3
    obtain ⟨p2, q2, rfl⟩ := own_sl ho2
    have HI1 := Lib.hid hi1'
    have HI2' := Lib.hid hi2
    clear hx3 hE2 ho2 hi1 hi2 hi1'
    go_wp2_with fail
    refine Calls.mono (Dot_c l m _ _ _ HI.out HI2.out (by rw [HL.out, HL2.out]) (by rw [HL.out]; omega) HI1.out HI2'.out) ?_
    rintro e w4 ⟨rfl, hx4⟩
    have hE4 : Ext w0 w4 := by (repeat' (first | exact Ext.refl _ | assumption | apply Ext.allocR | apply Ext.drewR | apply Ext.drewNR | (refine Ext.trans' ?_ (by assumption))))
    obtain ⟨p0, p1', f0, f1, hl⟩ := zbox HZ0.out hE4
    rw [HL.out]
    clear hx4 hE3
    cases hd : dotF l m N with
    | none =>
      have HD := Lib.hid hd
      clear hd
      rw [show dotV none = .tuple #[.agg #[.int .i64 0, .int .u64 0], .bool false] from rfl]
      go_wp2_with fail
      refine bodyPost_ret (v := .tuple #[.agg #[.int .i64 0, .int .u64 0], .int .i64 4]) (by simp [results, Try.results86, go_sem, *]) rfl ⟨by rw [HD.out]; rfl, ?_⟩
      exact (((hE0.trans' hE4).setR (p := ⟨w.heap.size, 0, none⟩) (Nat.le_refl _) _).setR (p := ⟨w.heap.size, 1, none⟩) (Nat.le_refl _) _).allocR _
    | some z =>
      have HD := Lib.hid hd
      clear hd
      rw [show dotV (some z) = .tuple #[.agg #[.int .i64 (hi z), .int .u64 (lo z)], .bool true] from rfl]
      go_wp2_with fail
      refine bodyPost_ret (v := .tuple #[.agg #[.int .i64 (hi z), .int .u64 (lo z)], .int .i64 0]) (by simp [results, Try.results86, go_sem, *]) rfl ⟨by rw [HD.out]; rfl, ?_⟩
      exact (((hE0.trans' hE4).setR (p := ⟨w.heap.size, 0, none⟩) (Nat.le_refl _) _).setR (p := ⟨w.heap.size, 1, none⟩) (Nat.le_refl _) _).allocR _
set_option maxRecDepth 20000 in
set_option maxHeartbeats 8000000 in
/-- Of another mode than Linear there is none. -/
theorem LInnerX_mode (s b c s2 b2 c2 : Nat) (C : Cfg) (lv : Int) (N : Nat) (l m : List Int) (w : World) (h : EAt w s b c C lv N l) (h2 : EAt w s2 b2 c2 C lv N m) (hm : C.mode ≠ 1) :
    Calls Try.prog 86 #[.iface 174 (.pointer (some ⟨s, 0, none⟩)), .iface 174 (.pointer (some ⟨s2, 0, none⟩))] w fun e w' => e = .returned (.tuple #[.agg #[.int .i64 0, .int .u64 0], .int .i64 3]) ∧ Ext w w' := by
  have H := Lib.hid h
  have H2 := Lib.hid h2
  have hm' : (C.mode != 1) = true := by simpa using hm
  clear h h2 hm
  go_enter Try.func86, Try.ntmps86
  go_wp2_with fail
  refine (sk_ix _ _ _ _).mono ?_
  rintro e w1 ⟨rfl, rfl⟩
  go_wp2_with fail
  refine (arr_xx _ _ _).mono ?_
  rintro e w1 ⟨rfl, rfl⟩
  go_upto_region 5 with (fail)
  have hz0 := heap_at w (.cells #[.int .i64 0, .int .u64 0] 40) rfl
  have hE0 : Ext w (w.alloc (.cells #[.int .i64 0, .int .u64 0] 40)) := Ext.alloc' _ _
  generalize w.alloc (.cells #[.int .i64 0, .int .u64 0] 40) = w0 at *
  have HZ0 := Lib.hid hz0
  clear hz0
  go_cut [34] (fun s34 wx => s34 = .bool false ∧ Ext w0 wx)
  case first =>
    go_wp2_with (first | (go_at_call 137; refine (EConfig_c s b c C lv N l _ (H.out.ext (by (repeat' (first | exact Ext.refl _ | assumption | apply Ext.allocR | apply Ext.drewR | apply Ext.drewNR | (refine Ext.trans' ?_ (by assumption))))))).mono ?_; rintro e w1 ⟨rfl, hb1⟩) | (go_at_call 137; refine (EConfig_c s2 b2 c2 C lv N m _ (H2.out.ext (by (repeat' (first | exact Ext.refl _ | assumption | apply Ext.allocR | apply Ext.drewR | apply Ext.drewNR | (refine Ext.trans' ?_ (by assumption))))))).mono ?_; rintro e w2 ⟨rfl, hb2⟩) | (go_at_call 138; refine (ELevel_c s b c C lv N l _ (H.out.ext (by (repeat' (first | exact Ext.refl _ | assumption | apply Ext.allocR | apply Ext.drewR | apply Ext.drewNR | (refine Ext.trans' ?_ (by assumption))))))).mono ?_; rintro e w3 ⟨rfl, rfl⟩) | (go_at_call 138; refine (ELevel_c s2 b2 c2 C lv N m _ (H2.out.ext (by (repeat' (first | exact Ext.refl _ | assumption | apply Ext.allocR | apply Ext.drewR | apply Ext.drewNR | (refine Ext.trans' ?_ (by assumption))))))).mono ?_; rintro e w4 ⟨rfl, rfl⟩))
    go_meet
    exact ⟨by first | rfl | simp, by (repeat' (first | exact Ext.refl _ | assumption | apply Ext.allocR | apply Ext.drewR | apply Ext.drewNR | (refine Ext.trans' ?_ (by assumption))))⟩
  case rest =>
    obtain ⟨rfl, hEc⟩ := hcut
    go_wp2_with fail
    refine Calls.mono (EConfig_c s b c C lv N l _ (H.out.ext ?hx)) ?_
    case hx => (repeat' (first | exact Ext.refl _ | assumption | apply Ext.allocR | apply Ext.drewR | apply Ext.drewNR | (refine Ext.trans' ?_ (by assumption))))
    rintro e w1 ⟨rfl, hb1⟩
    have hE1 : Ext w0 w1 := by (repeat' (first | exact Ext.refl _ | assumption | apply Ext.allocR | apply Ext.drewR | apply Ext.drewNR | (refine Ext.trans' ?_ (by assumption))))
    obtain ⟨p0, p1, f0, f1, hl⟩ := zbox HZ0.out hE1
    clear hb1 hEc
    go_wp2_with fail
    refine bodyPost_ret (v := .tuple #[.agg #[.int .i64 0, .int .u64 0], .int .i64 3]) (by simp [results, Try.results86, go_sem, *]) rfl ⟨rfl, ?_⟩
    exact ((hE0.trans' hE1).setR (p := ⟨w.heap.size, 0, none⟩) (Nat.le_refl _) _).setR (p := ⟨w.heap.size, 1, none⟩) (Nat.le_refl _) _
set_option maxRecDepth 20000 in
set_option maxHeartbeats 8000000 in
/-- Unlike arrays have none. -/
theorem LInnerX_no (s b c s2 b2 c2 : Nat) (C C2 : Cfg) (lv lv2 : Int) (N N2 : Nat) (l m : List Int) (w : World) (h : EAt w s b c C lv N l) (h2 : EAt w s2 b2 c2 C2 lv2 N2 m) (hp : PartsAt C lv C2 lv2) :
    Calls Try.prog 86 #[.iface 174 (.pointer (some ⟨s, 0, none⟩)), .iface 174 (.pointer (some ⟨s2, 0, none⟩))] w fun e w' => e = .returned (.tuple #[.agg #[.int .i64 0, .int .u64 0], .int .i64 5]) ∧ Ext w w' := by
  have H := Lib.hid h
  have H2 := Lib.hid h2
  clear h h2
  go_enter Try.func86, Try.ntmps86
  go_wp2_with fail
  refine (sk_ix _ _ _ _).mono ?_
  rintro e w1 ⟨rfl, rfl⟩
  go_wp2_with fail
  refine (arr_xx _ _ _).mono ?_
  rintro e w1 ⟨rfl, rfl⟩
  go_upto_region 5 with (fail)
  have hz0 := heap_at w (.cells #[.int .i64 0, .int .u64 0] 40) rfl
  have hE0 : Ext w (w.alloc (.cells #[.int .i64 0, .int .u64 0] 40)) := Ext.alloc' _ _
  generalize w.alloc (.cells #[.int .i64 0, .int .u64 0] 40) = w0 at *
  have HZ0 := Lib.hid hz0
  clear hz0
  go_cut [34] (fun s34 wx => s34 = .bool true ∧ Ext w0 wx)
  case first =>
    cases hp
    all_goals
      go_wp2_with (first | (go_at_call 137; refine (EConfig_c s b c C lv N l _ (H.out.ext (by (repeat' (first | exact Ext.refl _ | assumption | apply Ext.allocR | apply Ext.drewR | apply Ext.drewNR | (refine Ext.trans' ?_ (by assumption))))))).mono ?_; rintro e w1 ⟨rfl, hb1⟩) | (go_at_call 137; refine (EConfig_c s2 b2 c2 C2 lv2 N2 m _ (H2.out.ext (by (repeat' (first | exact Ext.refl _ | assumption | apply Ext.allocR | apply Ext.drewR | apply Ext.drewNR | (refine Ext.trans' ?_ (by assumption))))))).mono ?_; rintro e w2 ⟨rfl, hb2⟩) | (go_at_call 138; refine (ELevel_c s b c C lv N l _ (H.out.ext (by (repeat' (first | exact Ext.refl _ | assumption | apply Ext.allocR | apply Ext.drewR | apply Ext.drewNR | (refine Ext.trans' ?_ (by assumption))))))).mono ?_; rintro e w3 ⟨rfl, rfl⟩) | (go_at_call 138; refine (ELevel_c s2 b2 c2 C2 lv2 N2 m _ (H2.out.ext (by (repeat' (first | exact Ext.refl _ | assumption | apply Ext.allocR | apply Ext.drewR | apply Ext.drewNR | (refine Ext.trans' ?_ (by assumption))))))).mono ?_; rintro e w4 ⟨rfl, rfl⟩))
      go_meet
      exact ⟨by first | rfl | simp [bne, *], by (repeat' (first | exact Ext.refl _ | assumption | apply Ext.allocR | apply Ext.drewR | apply Ext.drewNR | (refine Ext.trans' ?_ (by assumption))))⟩
  case rest =>
    obtain ⟨rfl, hEc⟩ := hcut
    obtain ⟨p0, p1, f0, f1, hl⟩ := zbox HZ0.out hEc
    go_wp2_with fail
    refine bodyPost_ret (v := .tuple #[.agg #[.int .i64 0, .int .u64 0], .int .i64 5]) (by simp [results, Try.results86, go_sem, *]) rfl ⟨rfl, ?_⟩
    exact ((hE0.trans' hEc).setR (p := ⟨w.heap.size, 0, none⟩) (Nat.le_refl _) _).setR (p := ⟨w.heap.size, 1, none⟩) (Nat.le_refl _) _
set_option maxRecDepth 20000 in
set_option maxHeartbeats 8000000 in
/-- Two sketches: inner.Inner's answer. -/
theorem LInnerS_c (s s2 : Nat) (w : World) (h w0 : Int) (k : Int)
    (hI : ∀ W', Ext w W' → Calls Try.prog 30 #[.pointer (some ⟨s, 0, none⟩), .pointer (some ⟨s2, 0, none⟩)] W' fun e w' => e = .returned (.tuple #[.agg #[.int .i64 h, .int .u64 w0], .int .i64 k]) ∧ Ext W' w') :
    Calls Try.prog 86 #[.iface 30 (.pointer (some ⟨s, 0, none⟩)), .iface 30 (.pointer (some ⟨s2, 0, none⟩))] w fun e w' => e = .returned (.tuple #[.agg #[.int .i64 h, .int .u64 w0], .int .i64 k]) ∧ Ext w w' := by
  have HI := Lib.hid hI
  clear hI
  go_enter Try.func86, Try.ntmps86
  go_wp2_with fail
  refine (sk_ss _ _ _).mono ?_
  rintro e w1 ⟨rfl, rfl⟩
  go_wp2_with fail
  have hz0 := heap_at w (.cells #[.int .i64 0, .int .u64 0] 40) rfl
  have hE0 : Ext w (w.alloc (.cells #[.int .i64 0, .int .u64 0] 40)) := Ext.alloc' _ _
  generalize w.alloc (.cells #[.int .i64 0, .int .u64 0] 40) = wz at *
  refine (HI.out _ hE0).mono ?_
  rintro e w2 ⟨rfl, hx2⟩
  obtain ⟨p0, p1, f0, f1, hl⟩ := zbox hz0 hx2
  go_wp2_with fail
  refine bodyPost_ret (v := .tuple #[.agg #[.int .i64 h, .int .u64 w0], .int .i64 k]) (by simp [results, Try.results86, go_sem, *]) rfl ⟨rfl, ?_⟩
  exact ((hE0.trans' hx2).setR (p := ⟨w.heap.size, 0, none⟩) (Nat.le_refl _) _).setR (p := ⟨w.heap.size, 1, none⟩) (Nat.le_refl _) _
set_option maxRecDepth 20000 in
set_option maxHeartbeats 4000000 in
theorem LInner_xs (s s2 : Nat) (w : World) :
    Calls Try.prog 86 #[.iface 174 (.pointer (some ⟨s, 0, none⟩)), .iface 30 (.pointer (some ⟨s2, 0, none⟩))] w fun e w' => e = .returned (.tuple #[.agg #[.int .i64 0, .int .u64 0], .int .i64 5]) ∧ Ext w w' := by
  go_enter Try.func86, Try.ntmps86
  go_wp2_with fail
  refine (sk_xs _ _ _).mono ?_
  rintro e w1 ⟨rfl, rfl⟩
  go_wp2_with fail
  refine (arr_xs _ _ _).mono ?_
  rintro e w1 ⟨rfl, rfl⟩
  have hz0 := heap_at w (.cells #[.int .i64 0, .int .u64 0] 40) rfl
  have hE0 : Ext w (w.alloc (.cells #[.int .i64 0, .int .u64 0] 40)) := Ext.alloc' _ _
  generalize w.alloc (.cells #[.int .i64 0, .int .u64 0] 40) = wz at *
  obtain ⟨p0, p1, f0, f1, hl⟩ := zbox hz0 (Ext.refl wz)
  go_wp2_with fail
  refine bodyPost_ret (v := .tuple #[.agg #[.int .i64 0, .int .u64 0], .int .i64 5]) (by simp [results, Try.results86, go_sem, *]) rfl ⟨rfl, ?_⟩
  exact (hE0.setR (p := ⟨w.heap.size, 0, none⟩) (Nat.le_refl _) _).setR (p := ⟨w.heap.size, 1, none⟩) (Nat.le_refl _) _
set_option maxRecDepth 20000 in
set_option maxHeartbeats 4000000 in
theorem LInner_sx (s s2 : Nat) (w : World) :
    Calls Try.prog 86 #[.iface 30 (.pointer (some ⟨s, 0, none⟩)), .iface 174 (.pointer (some ⟨s2, 0, none⟩))] w fun e w' => e = .returned (.tuple #[.agg #[.int .i64 0, .int .u64 0], .int .i64 5]) ∧ Ext w w' := by
  go_enter Try.func86, Try.ntmps86
  go_wp2_with fail
  refine (sk_ix _ _ _ _).mono ?_
  rintro e w1 ⟨rfl, rfl⟩
  go_wp2_with fail
  refine (arr_sx _ _ _).mono ?_
  rintro e w1 ⟨rfl, rfl⟩
  have hz0 := heap_at w (.cells #[.int .i64 0, .int .u64 0] 40) rfl
  have hE0 : Ext w (w.alloc (.cells #[.int .i64 0, .int .u64 0] 40)) := Ext.alloc' _ _
  generalize w.alloc (.cells #[.int .i64 0, .int .u64 0] 40) = wz at *
  obtain ⟨p0, p1, f0, f1, hl⟩ := zbox hz0 (Ext.refl wz)
  go_wp2_with fail
  refine bodyPost_ret (v := .tuple #[.agg #[.int .i64 0, .int .u64 0], .int .i64 5]) (by simp [results, Try.results86, go_sem, *]) rfl ⟨rfl, ?_⟩
  exact (hE0.setR (p := ⟨w.heap.size, 0, none⟩) (Nat.le_refl _) _).setR (p := ⟨w.heap.size, 1, none⟩) (Nat.le_refl _) _
/-- The product of two levels of one config, Linear. -/
theorem LInner_c (C : Cfg) (lv : Int) (L L2 : Lev) (l m : List Int) (w : World) (h : LvAt w L C lv l) (h2 : LvAt w L2 C lv m) (hm : C.mode = 1) :
    Calls Try.prog 86 #[lvV C lv L, lvV C lv L2] w fun e w' => e = .returned (innV (lvInn C lv l m)) ∧ Ext w w' := by
  unfold lvInn
  cases hx : isX C lv with
  | true =>
    rw [lvV_x hx, lvV_x hx]
    exact LInnerX_c _ _ _ _ _ _ C lv _ l m w (h.x hx) (h2.x hx) hm
  | false =>
    rw [lvV_s hx, lvV_s hx]
    have := fun W' (he : Ext w W') => Inner_c _ _ _ _ _ _ C lv _ _ l m W' ((h.sk hx).ext he) ((h2.sk hx).ext he) hm
    show Calls _ _ _ _ fun e w' => e = .returned (innV (innF l m (wN C) (rN C))) ∧ _
    cases hi : innF l m (wN C) (rN C) with
    | none => rw [hi] at this; exact LInnerS_c _ _ w 0 0 4 this
    | some z => rw [hi] at this; exact LInnerS_c _ _ w _ _ 0 this
theorem LInner_mode (C : Cfg) (lv : Int) (L L2 : Lev) (l m : List Int) (w : World) (h : LvAt w L C lv l) (h2 : LvAt w L2 C lv m) (hm : C.mode ≠ 1) :
    Calls Try.prog 86 #[lvV C lv L, lvV C lv L2] w fun e w' => e = .returned (.tuple #[.agg #[.int .i64 0, .int .u64 0], .int .i64 3]) ∧ Ext w w' := by
  cases hx : isX C lv with
  | true =>
    rw [lvV_x hx, lvV_x hx]
    exact LInnerX_mode _ _ _ _ _ _ C lv _ l m w (h.x hx) (h2.x hx) hm
  | false =>
    rw [lvV_s hx, lvV_s hx]
    exact LInnerS_c _ _ w 0 0 3 fun W' he => Inner_mode _ _ _ _ _ _ C lv _ _ l m W' ((h.sk hx).ext he) ((h2.sk hx).ext he) hm
theorem LInner_no (C C2 : Cfg) (lv lv2 : Int) (L L2 : Lev) (l m : List Int) (w : World) (h : LvAt w L C lv l) (h2 : LvAt w L2 C2 lv2 m) (hp : PartsAt C lv C2 lv2) :
    Calls Try.prog 86 #[lvV C lv L, lvV C2 lv2 L2] w fun e w' => e = .returned (.tuple #[.agg #[.int .i64 0, .int .u64 0], .int .i64 5]) ∧ Ext w w' := by
  cases hx : isX C lv with
  | true =>
    cases hy : isX C2 lv2 with
    | true =>
      rw [lvV_x hx, lvV_x hy]
      exact LInnerX_no _ _ _ _ _ _ C C2 lv lv2 _ _ l m w (h.x hx) (h2.x hy) hp
    | false =>
      rw [lvV_x hx, lvV_s hy]
      exact LInner_xs _ _ w
  | false =>
    cases hy : isX C2 lv2 with
    | true =>
      rw [lvV_s hx, lvV_x hy]
      exact LInner_sx _ _ w
    | false =>
      rw [lvV_s hx, lvV_s hy]
      exact LInnerS_c _ _ w 0 0 5 fun W' he => Inner_unlike _ _ _ _ _ _ C C2 lv lv2 _ _ _ _ l m W' ((h.sk hx).ext he) ((h2.sk hy).ext he) hp
end Go.Proofs.Ytpnbgoahjoabkaa

/- Levels that there are not: Keys, Exact, New; gaugerref07.Keys of any config. -/
namespace Go.Proofs.Ytpnbgoahjoabkaa
set_option linter.unusedVariables false
open Go.RowKit
/-- A level that there is. -/
def lvOk (C : Cfg) (lv : Int) : Bool := okB C && (decide (0 ≤ lv) && decide (lv ≤ C.bits))
inductive LvNo (C : Cfg) (lv : Int) : Prop
  | cfg (h : okB C = false)
  | low (h : okB C = true) (h1 : lv < 0)
  | high (h : okB C = true) (h0 : 0 ≤ lv) (h1 : C.bits < lv)
theorem lvOk_no {C : Cfg} {lv : Int} (h : lvOk C lv = false) : LvNo C lv := by
  unfold lvOk at h
  cases hO : okB C with
  | false => exact .cfg hO
  | true =>
    rw [hO] at h
    by_cases h1 : lv < 0
    · exact .low hO h1
    · by_cases h2 : C.bits < lv
      · exact .high hO (by omega) h2
      · rw [decide_eq_true (show 0 ≤ lv by omega), decide_eq_true (show lv ≤ C.bits by omega)] at h
        exact absurd h (by decide)
theorem lvOk_yes {C : Cfg} {lv : Int} (h : lvOk C lv = true) (hs : U64 C.seed) : C.Ok ∧ 0 ≤ lv ∧ lv ≤ C.bits := by
  unfold lvOk at h
  simp only [Bool.and_eq_true, decide_eq_true_eq] at h
  exact ⟨okB_ok h.1 hs, h.2.1, h.2.2⟩
theorem Right_raw (c : Cfg) (hs : U64 c.seed) (w : World) :
    Calls Try.prog 120 #[.agg #[.int .i64 c.bits, .int .i64 c.rows, .int .i64 c.width, .int .i64 c.mode, .int .u64 c.seed]] w fun e w' => e = .returned (.bool (okB c)) ∧ Ext w w' := by
  cases h : okB c with
  | false => exact Right_no c h w
  | true =>
    refine (Right_c c (okB_ok h hs) w).mono ?_
    rintro e w1 ⟨rfl, hb⟩
    exact ⟨rfl, hb⟩
set_option maxRecDepth 20000 in
set_option maxHeartbeats 1000000 in
theorem KeysP_no (c : Cfg) (hs : U64 c.seed) (l : Int) (h : LvNo c l) (w : World) :
    Calls Try.prog 90 #[.agg #[.int .i64 c.bits, .int .i64 c.rows, .int .i64 c.width, .int .i64 c.mode, .int .u64 c.seed], .int .i64 l] w fun e w' => e = .returned (.int .u64 0) ∧ Ext w w' := by
  cases h with
  | high h h0 h1 => exact Keys_no c (okB_ok h hs) l h0 h1 w
  | cfg h =>
    go_enter Try.func90, Try.ntmps90
    go_wp2_with fail
    refine (Right_no c h _).mono ?_
    rintro e w1 ⟨rfl, hb⟩
    have hc := bcell hb
    go_wp2
    go_ret
    refine ⟨rfl, ?_⟩
    (repeat' (first | exact Ext.refl _ | assumption | apply Ext.allocR | apply Ext.drewR | apply Ext.drewNR | (refine Ext.trans' ?_ (by assumption))))
  | low h h1 =>
    have hO := okB_ok h hs
    have g1 : decide (l < 0) = true := by simp; omega
    have H := Lib.hid hO
    clear h hO
    go_enter Try.func90, Try.ntmps90
    go_wp2_with fail
    refine (Right_c c H.out _).mono ?_
    rintro e w1 ⟨rfl, hb⟩
    have hc := bcell hb
    go_wp2
    go_ret
    refine ⟨rfl, ?_⟩
    (repeat' (first | exact Ext.refl _ | assumption | apply Ext.allocR | apply Ext.drewR | apply Ext.drewNR | (refine Ext.trans' ?_ (by assumption))))
set_option maxRecDepth 20000 in
set_option maxHeartbeats 1000000 in
theorem KeysR_no (c : Cfg) (hs : U64 c.seed) (l : Int) (h : LvNo c l) (w : World) :
    Calls Try.prog 49 #[.agg #[.int .i64 c.bits, .int .i64 c.rows, .int .i64 c.width, .int .i64 c.mode, .int .u64 c.seed], .int .i64 l] w fun e w' => e = .returned (.int .u64 0) ∧ Ext w w' := by
  cases h with
  | high h h0 h1 =>
    have g1 : decide (l < 0) = false := by simp; omega
    have g2 : decide (c.bits < l) = true := by simp; omega
    have H := Lib.hid h
    clear h
    go_enter Try.func49, Try.ntmps49
    go_wp2_with fail
    refine (RightR_raw c _).mono ?_
    rintro e w1 ⟨rfl, hb⟩
    rw [H.out]
    have hc := bcell hb
    go_wp2
    go_ret
    refine ⟨rfl, ?_⟩
    (repeat' (first | exact Ext.refl _ | assumption | apply Ext.allocR | apply Ext.drewR | apply Ext.drewNR | (refine Ext.trans' ?_ (by assumption))))
  | cfg h =>
    have H := Lib.hid h
    clear h
    go_enter Try.func49, Try.ntmps49
    go_wp2_with fail
    refine (RightR_raw c _).mono ?_
    rintro e w1 ⟨rfl, hb⟩
    rw [H.out]
    have hc := bcell hb
    go_wp2
    go_ret
    refine ⟨rfl, ?_⟩
    (repeat' (first | exact Ext.refl _ | assumption | apply Ext.allocR | apply Ext.drewR | apply Ext.drewNR | (refine Ext.trans' ?_ (by assumption))))
  | low h h1 =>
    have g1 : decide (l < 0) = true := by simp; omega
    have H := Lib.hid h
    clear h
    go_enter Try.func49, Try.ntmps49
    go_wp2_with fail
    refine (RightR_raw c _).mono ?_
    rintro e w1 ⟨rfl, hb⟩
    rw [H.out]
    have hc := bcell hb
    go_wp2
    go_ret
    refine ⟨rfl, ?_⟩
    (repeat' (first | exact Ext.refl _ | assumption | apply Ext.allocR | apply Ext.drewR | apply Ext.drewNR | (refine Ext.trans' ?_ (by assumption))))
set_option maxRecDepth 20000 in
set_option maxHeartbeats 1000000 in
theorem Exact_no (C : Cfg) (hs : U64 C.seed) (lv : Int) (h : LvNo C lv) (w : World) :
    Calls Try.prog 48 #[.agg #[.int .i64 C.bits, .int .i64 C.rows, .int .i64 C.width, .int .i64 C.mode, .int .u64 C.seed], .int .i64 lv] w fun e w' => e = .returned (.bool false) ∧ Ext w w' := by
  go_enter Try.func48, Try.ntmps48
  go_wp2_with fail
  refine (KeysP_no C hs lv h _).mono ?_
  rintro e w1 ⟨rfl, hb⟩
  go_wp2
  go_ret
  exact ⟨rfl, by (repeat' (first | exact Ext.refl _ | assumption | apply Ext.allocR | apply Ext.drewR | apply Ext.drewNR | (refine Ext.trans' ?_ (by assumption))))⟩
set_option maxHeartbeats 1000000 in
theorem SNew_nor (C : Cfg) (hs : U64 C.seed) (lv : Int) (h : LvNo C lv) (w : World) :
    Calls Try.prog 26 #[.agg #[.int .i64 C.bits, .int .i64 C.rows, .int .i64 C.width, .int .i64 C.mode, .int .u64 C.seed], .int .i64 lv] w fun e w' => e = .returned (.tuple #[.pointer none, .int .i64 1]) ∧ Ext w w' := by
  go_enter Try.func26, Try.ntmps26
  go_wp2_with fail
  refine (KeysP_no C hs lv h _).mono ?_
  rintro e w1 ⟨rfl, hb⟩
  go_wp2
  go_ret2
  refine ⟨rfl, ?_⟩
  (repeat' (first | exact Ext.refl _ | assumption | apply Ext.allocR | apply Ext.drewR | apply Ext.drewNR | (refine Ext.trans' ?_ (by assumption))))
set_option maxRecDepth 20000 in
set_option maxHeartbeats 2000000 in
theorem LNew_no (C : Cfg) (hs : U64 C.seed) (lv : Int) (h : LvNo C lv) (w : World) :
    Calls Try.prog 65 #[.agg #[.int .i64 C.bits, .int .i64 C.rows, .int .i64 C.width, .int .i64 C.mode, .int .u64 C.seed], .int .i64 lv] w fun e w' => e = .returned (.tuple #[.nilIface, .int .i64 1]) ∧ Ext w w' := by
  go_enter Try.func65, Try.ntmps65
  go_wp2_with fail
  refine (Exact_no C hs lv h _).mono ?_
  rintro e w1 ⟨rfl, hb⟩
  have hE : Ext w w1 := by (repeat' (first | exact Ext.refl _ | assumption | apply Ext.allocR | apply Ext.drewR | apply Ext.drewNR | (refine Ext.trans' ?_ (by assumption))))
  have hC := (CfgAt.box (w := w) C 24 rfl).ext hb
  have d0 := hC.c0
  have d1 := hC.c1
  have d2 := hC.c2
  have d3 := hC.c3
  have d4 := hC.c4
  have cl := hC.lt
  clear hb hC
  go_wp2_with fail
  refine (SNew_nor C hs lv h _).mono ?_
  rintro e w2 ⟨rfl, hx2⟩
  go_wp2
  go_ret2
  exact ⟨rfl, by (repeat' (first | exact Ext.refl _ | assumption | apply Ext.allocR | apply Ext.drewR | apply Ext.drewNR | (refine Ext.trans' ?_ (by assumption))))⟩
set_option maxRecDepth 20000 in
set_option maxHeartbeats 2000000 in
theorem ExactV_c (C : Cfg) (h : C.Ok) (lv : Int) (h0 : 0 ≤ lv) (h1 : lv ≤ C.bits) (w : World) :
    Calls Try.prog 56 #[.agg #[.int .i64 C.bits, .int .i64 C.rows, .int .i64 C.width, .int .i64 C.mode, .int .u64 C.seed], .int .i64 lv] w fun e w' => e = .returned (.bool (isX C lv)) ∧ Ext w w' := by
  have hk := keys_bd C h lv h0
  have w1' := h.w1
  have w2' := h.w2
  have hI : isX C lv = decide (keys C lv ≤ C.width) := rfl
  go_enter Try.func56, Try.ntmps56
  go_wp2_with fail
  refine (KeysR_c C h lv h0 h1 _).mono ?_
  rintro e w1 ⟨rfl, hb⟩
  have hE : Ext w w1 := by (repeat' (first | exact Ext.refl _ | assumption | apply Ext.allocR | apply Ext.drewR | apply Ext.drewNR | (refine Ext.trans' ?_ (by assumption))))
  have hC := (CfgAt.box (w := w) C 24 rfl).ext hb
  have c2 := hC.c2
  have cl := hC.lt
  have HI := Lib.hid hI
  have g0 : decide (C.width < 0) = false := by simp; omega
  have g1 : decide (0 < C.width) = true := by simp; omega
  generalize keys C lv = N at *
  clear hb hI hC
  by_cases hx : N ≤ C.width
  · go_wp2
    go_ret
    exact ⟨by rw [HI.out, decide_eq_true hx]; rfl, hE⟩
  · go_wp2
    go_ret
    exact ⟨by rw [HI.out, decide_eq_false (by omega)]; rfl, hE⟩
end Go.Proofs.Ytpnbgoahjoabkaa

/- gaugerlaw13.shown: what the law shows of two small levels. -/
namespace Go.Proofs.Ytpnbgoahjoabkaa
set_option linter.unusedVariables false
open Go.RowKit
def E0 : Cfg := ⟨2, 2, 2, 1, 0⟩
theorem E0_ok : E0.Ok := by constructor <;> simp [E0, U64]
theorem E0_x0 : isX E0 0 = false := by unfold isX keys E0; decide
theorem E0_x1 : isX E0 1 = true := by unfold isX keys E0; decide
theorem E0_no : LvNo E0 3 := .high (okB_true E0_ok) (by decide) (by decide)
theorem E0_k1 : kN E0 1 = 2 := by unfold kN keys E0; decide
theorem E0_e : errX E0 1 (zs 2) 1 5 = 0 := by unfold errX keys E0; decide
theorem E0_u : updX (zs 2) 1 5 = [0, 5] := by decide
theorem E0_in : lvInn E0 1 [0, 5] [0, 5] = some 25 := by unfold lvInn; rw [E0_x1, E0_k1]; decide
theorem V25 : innV (some 25) = .tuple #[.agg #[.int .i64 0, .int .u64 25], .int .i64 0] := rfl
theorem Of25 (w : World) : Calls Try.prog 89 #[.int .i64 25] w fun e w' => e = .returned (.agg #[.int .i64 0, .int .u64 25]) ∧ Ext w w' := Of_c 25 (by unfold I64; omega) w
theorem E0_parts : PartsAt E0 1 E0 0 := .p5 rfl rfl rfl rfl rfl rfl
theorem aft_mod {c : Nat} {W w w' : World} (h : ∃ x : Aft c W, w = x.w) (hm : Mod (fun i => i = c) w w') : ∃ x : Aft c W, w' = x.w := by
  obtain ⟨x, rfl⟩ := h
  exact ⟨⟨_, x.h.trans hm⟩, rfl⟩
theorem E0_all : allI (plusL [0, 5] [0, 5]) := by
  have h : plusL [0, 5] [0, 5] = [0, 10] := by decide
  rw [h]
  intro x hx
  simp only [List.mem_cons, List.not_mem_nil, or_false] at hx
  unfold I64; omega
set_option maxRecDepth 20000 in
set_option maxHeartbeats 4000000 in
theorem shown13_c (w : World) : Calls Try.prog 64 #[] w fun e w' => e = .returned (.bool true) ∧ Ext w w' := by
  go_enter Try.func64, Try.ntmps64
  go_wp2_with fail
  have hCb : CfgAt (w.alloc (.cells #[.int .i64 2, .int .i64 2, .int .i64 2, .int .i64 1, .int .u64 0] 24)) w.heap.size E0 := CfgAt.box E0 _ rfl
  have hE0 : Ext w (w.alloc (.cells #[.int .i64 2, .int .i64 2, .int .i64 2, .int .i64 1, .int .u64 0] 24)) := Ext.alloc' _ _
  generalize w.alloc (.cells #[.int .i64 2, .int .i64 2, .int .i64 2, .int .i64 1, .int .u64 0] 24) = w0 at *
  refine (LNew_c E0 E0_ok 0 (by decide) (by decide) _).mono ?_
  rintro e w1 ⟨L, rfl, hL, _, _, _, hx1⟩
  rw [lvV_s E0_x0]
  have hE1 : Ext w0 w1 := by (repeat' (first | exact Ext.refl _ | assumption | apply Ext.allocR | apply Ext.drewR | apply Ext.drewNR | (refine Ext.trans' ?_ (by assumption))))
  have hC1 := hCb.ext hE1
  have d0 : w1.cell? ⟨w.heap.size, 0, none⟩ = some (.int .i64 2) := hC1.c0
  have d1 : w1.cell? ⟨w.heap.size, 1, none⟩ = some (.int .i64 2) := hC1.c1
  have d2 : w1.cell? ⟨w.heap.size, 2, none⟩ = some (.int .i64 2) := hC1.c2
  have d3 : w1.cell? ⟨w.heap.size, 3, none⟩ = some (.int .i64 1) := hC1.c3
  have d4 : w1.cell? ⟨w.heap.size, 4, none⟩ = some (.int .u64 0) := hC1.c4
  have dl := hC1.lt
  clear hx1 hC1
  go_wp2_with fail
  refine (LNew_c E0 E0_ok 1 (by decide) (by decide) _).mono ?_
  rintro e w2 ⟨M, rfl, hM, hMs, hMb, hMc, hx2⟩
  rw [lvV_x E0_x1]
  have hE2 : Ext w1 w2 := by (repeat' (first | exact Ext.refl _ | assumption | apply Ext.allocR | apply Ext.drewR | apply Ext.drewNR | (refine Ext.trans' ?_ (by assumption))))
  have hC2 := hCb.ext (hE1.trans' hE2)
  clear d0 d1 d2 d3 d4 dl hx2
  have d0 : w2.cell? ⟨w.heap.size, 0, none⟩ = some (.int .i64 2) := hC2.c0
  have d1 : w2.cell? ⟨w.heap.size, 1, none⟩ = some (.int .i64 2) := hC2.c1
  have d2 : w2.cell? ⟨w.heap.size, 2, none⟩ = some (.int .i64 2) := hC2.c2
  have d3 : w2.cell? ⟨w.heap.size, 3, none⟩ = some (.int .i64 1) := hC2.c3
  have d4 : w2.cell? ⟨w.heap.size, 4, none⟩ = some (.int .u64 0) := hC2.c4
  have dl := hC2.lt
  clear hC2
  have hMc' : w.heap.size ≤ M.c := Nat.le_trans (Nat.le_trans hE0.size hE1.size) hMc
  clear hMs hMb
  have HM := Lib.hid (hM.x E0_x1)
  have HMc := Lib.hid hM.isc
  have HL := Lib.hid (hL.ext hE2)
  have hLlt := (hL.ext hE2).ltc
  have hLc := hL.ltc
  clear hM hL
  rw [E0_k1] at HM
  go_wp2_with fail
  refine (LNew_no E0 E0_ok.s 3 E0_no _).mono ?_
  rintro e w3 ⟨rfl, hx3⟩
  have hE3 : Ext w2 w3 := by (repeat' (first | exact Ext.refl _ | assumption | apply Ext.allocR | apply Ext.drewR | apply Ext.drewNR | (refine Ext.trans' ?_ (by assumption))))
  clear hx3 d0 d1 d2 d3 d4 dl
  go_wp2_with fail
  refine (AsSketch_s _ _).mono ?_
  rintro e w4 ⟨rfl, rfl⟩
  go_wp2_with fail
  refine (AsSketch_x _ _).mono ?_
  rintro e w4 ⟨rfl, rfl⟩
  go_wp2_with fail
  refine (MustSketch_s _ _).mono ?_
  rintro e w4 ⟨rfl, rfl⟩
  go_wp2_with fail
  have hz := HM.out
  have hl0 : lvN E0 1 = 2 := by unfold lvN; rw [E0_x1]; exact E0_k1
  rw [hl0] at hz
  refine Calls.mono (EUpdate_c _ _ _ E0 1 2 (zs 2) 1 5 _ (hz.ext hE3) (by unfold I64; omega) (by unfold U64; omega)) ?_
  rintro e w4 ⟨rfl, hres⟩
  rw [E0_e] at hres ⊢
  obtain ⟨_, hM4, hm4⟩ := hres.resolve_right (fun h => h.1 rfl)
  rw [E0_u] at hM4
  have hL4 : LvAt w4 L E0 0 (zs (lvN E0 0)) := (HL.out.ext hE3).mod hm4 (fun k hk _ => by obtain ⟨cur, hc⟩ := HMc.out; exact ⟨cur, by rw [hk]; exact hE3.keep hc⟩) (by show ¬ L.c = M.c; omega)
  have hE3' : Ext w w3 := hE0.trans' (hE1.trans' (hE2.trans' hE3))
  have hE4 : Ext w w4 := Below.trans hE3' (hm4.below (B := w.heap.size) hE3'.size (fun k hk => by rw [hk]; exact hMc'))
  have hLM : LvAt w4 M E0 1 [0, 5] := .inl ⟨E0_x1, by rw [E0_k1]; exact hM4⟩
  clear hz hm4 hE3 HM HL
  have HLM := Lib.hid hLM
  have HL4 := Lib.hid hL4
  clear hLM hL4 hM4
  go_wp2_with fail
  have hI := LInner_c E0 1 M M [0, 5] [0, 5] w4 HLM.out HLM.out rfl
  rw [E0_in, V25, lvV_x E0_x1] at hI
  refine Calls.mono hI ?_
  rintro e w5 ⟨rfl, hx5⟩
  have hw5 := hE4.trans' hx5
  have hLM5 := Lib.hid (HLM.out.ext hx5)
  have hL5 := Lib.hid (HL4.out.ext hx5)
  clear hI HLM HL4 hx5 hE0 hE1 hE2 hE4 hE3'
  go_upto_region 12 with (fail)
  have hnb := heap_at w5 (.cells #[.int .i64 0, .int .u64 25] 40) rfl
  have hE6 : Ext w5 (w5.alloc (.cells #[.int .i64 0, .int .u64 25] 40)) := Ext.alloc' _ _
  generalize w5.alloc (.cells #[.int .i64 0, .int .u64 25] 40) = w6 at *
  obtain ⟨a0, a1, al⟩ := wbox hnb (Ext.refl w6)
  have hMlt := hLM5.out.ltc
  have hne : w5.heap.size ≠ M.c := by omega
  clear hMlt
  have hC0 := aft_drew M.c w6
  refine pi_start (fun w' => ∃ x : Aft M.c w6, w' = x.w) [] (by kernel_rfl) ?_
  refine pi_t 0 rfl (by kernel_rfl) (by kernel_rfl) (fun _ _ _ _ h => h) (fun K hK => ?_)
  go_big_quiet_op
  refine hK _ ?_
  clear hK K
  refine pi_t 1 rfl (by kernel_rfl) (by kernel_rfl) (fun _ _ _ _ h => h) (fun K hK => ?_)
  go_big_quiet_op
  refine hK _ ?_
  clear hK K
  refine pi_t 2 rfl (by kernel_rfl) (by kernel_rfl) (fun _ _ _ _ h => h) (fun K hK => ?_)
  go_big_quiet_op
  refine hK _ ?_
  clear hK K
  refine pi_t 3 rfl (by kernel_rfl) (by kernel_rfl) (fun _ _ _ _ h => h) (fun K hK => ?_)
  go_big_quiet_op
  refine hK _ ?_
  clear hK K
  refine pi_t 4 rfl (by kernel_rfl) (by kernel_rfl) (fun _ _ _ _ h => h) (fun K hK => ?_)
  go_big_quiet_op
  refine hK _ ?_
  clear hK K
  refine pi_t 5 rfl (by kernel_rfl) (by kernel_rfl) (fun _ _ _ _ h => h) (fun K hK => ?_)
  go_big_quiet_op
  refine hK _ ?_
  clear hK K
  refine pi_t 6 rfl (by kernel_rfl) (by kernel_rfl) (fun _ _ _ _ h => h) (fun K hK => ?_)
  go_big_quiet_op
  refine hK _ ?_
  clear hK K
  refine pi_t 7 rfl (by kernel_rfl) (by kernel_rfl) (fun _ _ _ _ h => h) (fun K hK => ?_)
  go_big_quiet_op
  refine hK _ ?_
  clear hK K
  refine pi_t 8 rfl (by kernel_rfl) (by kernel_rfl) (fun _ _ _ _ h => h) (fun K hK => ?_)
  go_big_quiet_op
  refine hK _ ?_
  clear hK K
  refine pi_t 9 rfl (by kernel_rfl) (by kernel_rfl) (fun _ _ _ _ h => h) (fun K hK => ?_)
  go_big_quiet_op
  refine hK _ ?_
  clear hK K
  refine pi_t 10 rfl (by kernel_rfl) (by kernel_rfl) (fun _ _ _ _ h => h) (fun K hK => ?_)
  go_big_quiet_op
  refine hK _ ?_
  clear hK K
  refine pi_t 11 rfl (by kernel_rfl) (by kernel_rfl) (fun _ _ _ _ h => h) (fun K hK => ?_)
  go_big_quiet_op
  refine hK _ ?_
  clear hK K
  refine pi_t 12 rfl (by kernel_rfl) (by kernel_rfl) (fun _ _ _ _ h => h) (fun K hK => ?_)
  go_big_quiet_op
  refine hK _ ?_
  clear hK K
  refine pi_t 13 rfl (by kernel_rfl) (by kernel_rfl) (fun _ _ _ _ h => h) (fun K hK => ?_)
  go_big_quiet_op
  refine hK _ ?_
  clear hK K
  refine pi_t 14 rfl (by kernel_rfl) (by kernel_rfl) (fun _ _ _ _ h => h) (fun K hK => ?_)
  go_big_quiet_op
  refine hK _ ?_
  clear hK K
  refine pi_t 15 rfl (by kernel_rfl) (by kernel_rfl) (fun _ _ _ _ h => h) (fun K hK => ?_)
  go_big_quiet_op
  refine hK _ ?_
  clear hK K
  refine pi_t 16 rfl (by kernel_rfl) (by kernel_rfl) (fun _ _ _ _ h => h) (fun K hK => ?_)
  go_big_quiet_op
  refine hK _ ?_
  clear hK K
  refine pi_t 17 rfl (by kernel_rfl) (by kernel_rfl) (fun _ _ _ _ h => h) (fun K hK => ?_)
  go_big_quiet_op
  refine hK _ ?_
  clear hK K
  refine pi_t 18 rfl (by kernel_rfl) (by kernel_rfl) (fun _ _ _ _ h => h) (fun K hK => ?_)
  go_big_quiet_op
  refine hK _ ?_
  clear hK K
  refine pi_t 19 rfl (by kernel_rfl) (by kernel_rfl) (fun _ _ _ _ h => h) (fun K hK => ?_)
  go_big_quiet_op
  refine hK _ ?_
  clear hK K
  refine pi_t 20 rfl (by kernel_rfl) (by kernel_rfl) (fun _ _ _ _ h => h) (fun K hK => ?_)
  go_big_quiet_op
  refine hK _ ?_
  clear hK K
  refine pi_t 21 rfl (by kernel_rfl) (by kernel_rfl) (fun _ _ _ _ h => h) (fun K hK => ?_)
  go_big_quiet_op
  refine hK _ ?_
  clear hK K
  refine pi_c 22 (by assumption) rfl (by kernel_rfl) (by kernel_rfl) (fun _ _ _ _ h => h) (fun K hK => ?_)
  go_big_quiet_op
  refine hK _ ?_
  clear hK K
  refine pi_l 23 rfl (by kernel_rfl) (fun K hK => ?_)
  go_wp2_with (go_at_call 89; refine (Of25 _).mono ?_; rintro e w7 ⟨rfl, hx7⟩)
  refine hK _ _ (fun _ h => aft_mod h (hx7.mod _)) ?_
  clear hK K
  refine pi_t 24 rfl (by kernel_rfl) (by kernel_rfl) (fun _ _ _ _ h => h) (fun K hK => ?_)
  go_big_quiet_op
  refine hK _ ?_
  clear hK K
  refine pi_t 25 rfl (by kernel_rfl) (by kernel_rfl) (fun _ _ _ _ h => h) (fun K hK => ?_)
  go_big_quiet_op
  refine hK _ ?_
  clear hK K
  refine pi_t 26 rfl (by kernel_rfl) (by kernel_rfl) (fun _ _ _ _ h => h) (fun K hK => ?_)
  go_big_quiet_op
  refine hK _ ?_
  clear hK K
  refine pi_t 27 rfl (by kernel_rfl) (by kernel_rfl) (fun _ _ _ _ h => h) (fun K hK => ?_)
  go_big_quiet_op
  refine hK _ ?_
  clear hK K
  refine pi_t 28 rfl (by kernel_rfl) (by kernel_rfl) (fun _ _ _ _ h => h) (fun K hK => ?_)
  go_big_quiet_op
  refine hK _ ?_
  clear hK K
  refine pi_l 29 rfl (by kernel_rfl) (fun K hK => ?_)
  have hE7 : Ext w6 w7 := by (repeat' (first | exact Ext.refl _ | assumption | apply Ext.allocR | apply Ext.drewR | apply Ext.drewNR | (refine Ext.trans' ?_ (by assumption))))
  have hno := LMerge_no E0 E0 0 1 L M (zs (lvN E0 0)) [0, 5] w7 ((hL5.out.ext hE6).ext hE7) ((hLM5.out.ext hE6).ext hE7) E0_parts
  rw [lvV_s E0_x0, lvV_x E0_x1] at hno
  go_wp2_with (go_at_call 85; refine hno.mono ?_; rintro e w8 ⟨rfl, hx8⟩)
  refine hK _ _ (fun _ h => aft_mod h (hx8.mod _)) ?_
  clear hK K hno
  refine pi_t 30 rfl (by kernel_rfl) (by kernel_rfl) (fun _ _ _ _ h => h) (fun K hK => ?_)
  go_big_quiet_op
  refine hK _ ?_
  clear hK K
  refine pi_t 31 rfl (by kernel_rfl) (by kernel_rfl) (fun _ _ _ _ h => h) (fun K hK => ?_)
  go_big_quiet_op
  refine hK _ ?_
  clear hK K
  refine pi_t 32 rfl (by kernel_rfl) (by kernel_rfl) (fun _ _ _ _ h => h) (fun K hK => ?_)
  go_big_quiet_op
  refine hK _ ?_
  clear hK K
  refine pi_t 33 rfl (by kernel_rfl) (by kernel_rfl) (fun _ _ _ _ h => h) (fun K hK => ?_)
  go_big_quiet_op
  refine hK _ ?_
  clear hK K
  refine pi_t 34 rfl (by kernel_rfl) (by kernel_rfl) (fun _ _ _ _ h => h) (fun K hK => ?_)
  go_big_quiet_op
  refine hK _ ?_
  clear hK K
  refine pi_l 35 rfl (by kernel_rfl) (fun K hK => ?_)
  have hE8 : Ext w6 w8 := hE7.trans' hx8
  have hyes := LMerge_c E0 1 M M [0, 5] [0, 5] w8 ((hLM5.out.ext hE6).ext hE8) ((hLM5.out.ext hE6).ext hE8)
  rw [lvV_x E0_x1] at hyes
  replace hyes := hyes.mono (R' := fun e w9 => e = .returned (.int .i64 0) ∧ Mod (fun k => k = M.c) w8 w9) (fun e w9 hr9 => by obtain ⟨_, hv9, _, hm9⟩ := hr9.resolve_right (fun h => h.1 E0_all); exact ⟨hv9, hm9⟩)
  go_wp2_with (go_at_call 85; refine hyes.mono ?_; rintro e w9 ⟨rfl, hm9⟩)
  refine hK _ _ (fun _ h => aft_mod h hm9) ?_
  clear hK K hyes
  refine pi_t 36 rfl (by kernel_rfl) (by kernel_rfl) (fun _ _ _ _ h => h) (fun K hK => ?_)
  go_big_quiet_op
  refine hK _ ?_
  clear hK K
  refine pi_t 37 rfl (by kernel_rfl) (by kernel_rfl) (fun _ _ _ _ h => h) (fun K hK => ?_)
  go_big_quiet_op
  refine hK _ ?_
  clear hK K
  refine pi_t 38 rfl (by kernel_rfl) (by kernel_rfl) (fun _ _ _ _ h => h) (fun K hK => ?_)
  go_big_quiet_op
  refine hK _ ?_
  clear hK K
  refine pi_end (by kernel_rfl) ?_
  go_wp2
  go_ret
  have hw8 : Ext w w8 := hw5.trans' (hE6.trans' hE8)
  exact ⟨rfl, Below.trans hw8 (hm9.below (B := w.heap.size) hw8.size (fun k hk => by rw [hk]; exact hMc'))⟩
end Go.Proofs.Ytpnbgoahjoabkaa

/- What arrays a config, a pair of numbers, and two rows of updates read as. No condition. -/
namespace Go.Proofs.Ytpnbgoahjoabkaa
set_option linter.unusedVariables false
open Go.ChangeShapes Go.WideShapes Go.ChangeAt Go.RowKit Go.Deep
section
variable {H : Type} {enc : TypeId × Value → H} {w : World} {held : Bool}
set_option maxRecDepth 100000 in
theorem pairarg_of {r : Reach} {b0 : Nat} {v : Value} {d : DataW H} {p : List MemPlace} (hv : Value.okWide Try.prog w r b0 130 v) (h : DataW.Trod enc Try.prog w 0 (fun _ => true) held 130 v d p) :
    ∃ (a b : Int), I64 a ∧ I64 b ∧ v = .agg #[.int .i64 a, .int .i64 b] := by
  have hv' : ∃ cs, v = .agg cs ∧ cs.size = 2 := by
    simp only [Value.okWide, Try.underlying130] at hv
    obtain ⟨cs, h1, h2, _⟩ := hv
    exact ⟨cs, h1, h2.trans (by kernel_rfl)⟩
  obtain ⟨cs, rfl, hsz⟩ := hv'
  obtain ⟨fuel, hf⟩ := h
  obtain ⟨l⟩ := cs
  obtain ⟨xs, m, _, _, _, hl, hel⟩ := DataW.trod_array Try.underlying130 hf
  match l, hsz with
  | [c0, c1], _ =>
    match xs, hl with
    | [x0, x1], _ =>
      have hC : Try.prog.cellsOf 3 = 1 := by kernel_rfl
      have e0 : DataW.trod enc Try.prog w 0 (fun _ => true) held m 3 [c0] = some x0 := by have := hel 0 (by decide); rw [hC] at this; exact this
      have e1 : DataW.trod enc Try.prog w 0 (fun _ => true) held m 3 [c1] = some x1 := by have := hel 1 (by decide); rw [hC] at this; exact this
      obtain ⟨a0, h0, _, w0⟩ := DataW.trod_int Try.underlying3 e0
      obtain ⟨a1, h1, _, w1⟩ := DataW.trod_int Try.underlying3 e1
      simp only [List.cons.injEq, and_true] at h0 h1
      subst h0 h1
      exact ⟨a0, a1, wf_i64 w0, wf_i64 w1, rfl⟩
set_option maxRecDepth 100000 in
theorem fourarg_of {r : Reach} {b0 : Nat} {v : Value} {d : DataW H} {p : List MemPlace} (hv : Value.okWide Try.prog w r b0 125 v) (h : DataW.Trod enc Try.prog w 0 (fun _ => true) held 125 v d p) :
    ∃ (a b c d : Int), I64 a ∧ I64 b ∧ I64 c ∧ I64 d ∧ v = .agg #[.int .i64 a, .int .i64 b, .int .i64 c, .int .i64 d] := by
  have hv' : ∃ cs, v = .agg cs ∧ cs.size = 4 := by
    simp only [Value.okWide, Try.underlying125] at hv
    obtain ⟨cs, h1, h2, _⟩ := hv
    exact ⟨cs, h1, h2.trans (by kernel_rfl)⟩
  obtain ⟨cs, rfl, hsz⟩ := hv'
  obtain ⟨fuel, hf⟩ := h
  obtain ⟨l⟩ := cs
  obtain ⟨xs, m, _, _, _, hl, hel⟩ := DataW.trod_array Try.underlying125 hf
  match l, hsz with
  | [c0, c1, c2, c3], _ =>
    match xs, hl with
    | [x0, x1, x2, x3], _ =>
      have hC : Try.prog.cellsOf 2 = 1 := by kernel_rfl
      have e0 : DataW.trod enc Try.prog w 0 (fun _ => true) held m 2 [c0] = some x0 := by have := hel 0 (by decide); rw [hC] at this; exact this
      have e1 : DataW.trod enc Try.prog w 0 (fun _ => true) held m 2 [c1] = some x1 := by have := hel 1 (by decide); rw [hC] at this; exact this
      have e2 : DataW.trod enc Try.prog w 0 (fun _ => true) held m 2 [c2] = some x2 := by have := hel 2 (by decide); rw [hC] at this; exact this
      have e3 : DataW.trod enc Try.prog w 0 (fun _ => true) held m 2 [c3] = some x3 := by have := hel 3 (by decide); rw [hC] at this; exact this
      obtain ⟨a0, h0, _, w0⟩ := DataW.trod_int Try.underlying2 e0
      obtain ⟨a1, h1, _, w1⟩ := DataW.trod_int Try.underlying2 e1
      obtain ⟨a2, h2, _, w2⟩ := DataW.trod_int Try.underlying2 e2
      obtain ⟨a3, h3, _, w3⟩ := DataW.trod_int Try.underlying2 e3
      simp only [List.cons.injEq, and_true] at h0 h1 h2 h3
      subst h0 h1 h2 h3
      exact ⟨a0, a1, a2, a3, wf_i64 w0, wf_i64 w1, wf_i64 w2, wf_i64 w3, rfl⟩
end
end Go.Proofs.Ytpnbgoahjoabkaa
