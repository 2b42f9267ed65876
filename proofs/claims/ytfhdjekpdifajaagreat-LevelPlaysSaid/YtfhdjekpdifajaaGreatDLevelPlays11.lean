/- Part. No condition. -/
import Derived.Test.YtfhdjekpdifajaaGreatDLevelPlays9
import Derived.Test.YtfhdjekpdifajaaGreatDLevelPlays10
import Derived.Test.YtfhdjekpdifajaaGreatDLevelPlays3
import Derived.Test.YtfhdjekpdifajaaGreatDLevelPlays8
import Derived.Test.YtfhdjekpdifajaaGreatDLevelPlays4
import Derived.Test.YtfhdjekpdifajaaGreatDLevelPlays1
import Derived.Test.YtfhdjekpdifajaaGreatDLevelPlays2
import Derived.Test.YtfhdjekpdifajaaGreatDLevelPlays6
import Derived.RangeFuncBox
import Derived.RangeFuncNested
import Derived.RangeFuncBound
import Derived.RangeFuncCalls
import Derived.RangeFuncLeaves
import Derived.Shelf.Abstract
import Derived.Shelf.RegionOpen
import Derived.WalkKit
import Derived.OwnWalkIn
import Derived.TacticsInMore
import Derived.LoopNIn
import Derived.LoopIn
import Derived.WalkMore
import Derived.Defers
import Derived.Laws.EntriesVeiled
namespace Go.Proofs.YtfhdjekpdifajaaGreat
set_option linter.unusedVariables false
open Go.RowKit
def RLJoinPost (w : World) (L : RLev) (C : Cfg) (lv : Int) (ms : List Int) (e : Ending) (w' : World) : Prop :=
  (allI ms ∧ e = .returned (.int .i64 0) ∧ ∃ L' : RLev, L'.p = L.p ∧ RLvAt w' L' C lv ms ∧ (∀ k, L'.foot C lv k → L.foot C lv k ∨ w.heap.size ≤ k) ∧ Mod (L.foot C lv) w w') ∨ (¬ allI ms ∧ e = .returned (.int .i64 4) ∧ Ext w w')
theorem rl_npx {w : World} {p a m : Nat} {C : Cfg} {lv : Int} {K : Nat} {l : List Int} {cs : Array Value} (hp : w.heap[p]? = some (.cells cs 153 (0, 0))) (h : RXAt w a m C lv K l) : p ≠ a := by
  obtain ⟨cap, q, _⟩ := h.ex; exact blk_ne hp q (by decide)
theorem rl_nps {w : World} {p a : Nat} {G : Gr} {C : Cfg} {lv : Int} {R W : Nat} {l : List Int} {cs : Array Value} (hp : w.heap[p]? = some (.cells cs 153 (0, 0))) (h : RSAt w a G C lv R W l) : ¬ rsF a G R p := by
  rintro (e | e | e | ⟨r, hr, e⟩)
  · exact blk_ne hp h.ex (by decide) e
  · obtain ⟨cap, q, _⟩ := h.g.ex; exact blk_ne hp q (by decide) e
  · obtain ⟨cap, q, _⟩ := h.g.row; exact blk_ne hp q (by decide) e
  · obtain ⟨cur, q, _⟩ := h.g.cells r hr; exact blk_ne hp q (by decide) e
set_option maxRecDepth 20000 in
set_option maxHeartbeats 4000000 in
theorem RLJoinPlus_c (L L2 : RLev) (C : Cfg) (lv : Int) (l l2 : List Int) (w : World) (h : RLvAt w L C lv l) (h2 : RLvAt w L2 C lv l2) (hmd : "Plus" = "Minus" → C.mode ≠ 2) :
    Calls Tryz.prog 42 #[.pointer (some ⟨L.p, 0, none⟩), .pointer (some ⟨L2.p, 0, none⟩), .int .i64 1] w (RLJoinPost w L C lv (plusL l l2)) := by
  cases hx : isX C lv with
  | true =>
    obtain ⟨hp, hA⟩ := h.x hx
    obtain ⟨hp2, hA2⟩ := h2.x hx
    have HU := Lib.hid (fun W' (hW : Ext w W') => RXJoinPlus_c _ _ _ _ C lv _ l l2 W' (hA.ext hW) (hA2.ext hW) hmd)
    have p0 := (cell_of hp 0).trans rfl
    have pl := lt_of hp
    have q0 := (cell_of hp2 0).trans rfl
    have ql := lt_of hp2
    have HP := Lib.hid hp
    have HA := Lib.hid hA
    have HX := Lib.hid hx
    have HH := Lib.hid h
    clear hx hp hp2 hA hA2 h2 hmd h
    go_enter Tryz.func42, Tryz.ntmps42
    go_wp2_with fail
    have hC0 := af_drew w
    refine pi_start (fun w' => ∃ z : After w, w' = z.w) [9] (by kernel_rfl) ?_
    refine pi_t 0 rfl (by kernel_rfl) (by kernel_rfl) (fun _ _ _ _ h => h) (fun K hK => ?_)
    go_big_quiet_op
    refine hK _ ?_
    clear hK K
    refine pi_t 1 rfl (by kernel_rfl) (by kernel_rfl) (fun _ _ _ _ h => h) (fun K hK => ?_)
    go_big_quiet_op
    refine hK _ ?_
    clear hK K
    refine pi_t 2 rfl (by kernel_rfl) (by kernel_rfl) (fun _ _ _ _ h => h) (fun K hK => ?_)
    go_big_quiet_op
    refine hK _ ?_
    clear hK K
    refine pi_t 4 rfl (by kernel_rfl) (by kernel_rfl) (fun _ _ _ _ h => h) (fun K hK => ?_)
    go_big_quiet_op
    refine hK _ ?_
    clear hK K
    refine pi_t 5 rfl (by kernel_rfl) (by kernel_rfl) (fun _ _ _ _ h => h) (fun K hK => ?_)
    go_big_quiet_op
    refine hK _ ?_
    clear hK K
    refine pi_t 6 rfl (by kernel_rfl) (by kernel_rfl) (fun _ _ _ _ h => h) (fun K hK => ?_)
    go_big_quiet_op
    refine hK _ ?_
    clear hK K
    refine pi_t 8 rfl (by kernel_rfl) (by kernel_rfl) (fun _ _ _ _ h => h) (fun K hK => ?_)
    go_big_quiet_op
    refine hK _ ?_
    clear hK K
    refine pi_c 3 (by assumption) rfl (by kernel_rfl) (by kernel_rfl) (fun _ _ _ _ h => h) (fun K hK => ?_)
    go_big_quiet_op
    refine hK _ ?_
    clear hK K
    refine pi_c 7 (by assumption) rfl (by kernel_rfl) (by kernel_rfl) (fun _ _ _ _ h => h) (fun K hK => ?_)
    go_big_quiet_op
    refine hK _ ?_
    clear hK K
    refine pi_l 9 rfl (by kernel_rfl) (fun K hK => ?_)
    go_wp2_with (go_at_call 113; refine Calls.mono (HU.out _ (Below.drew (Ext.refl w))) ?_; rintro e w1 (⟨ha, rfl, m', hA', hm', hM'⟩ | ⟨ha, rfl, hx'⟩))
    · refine hK _ _ (by simp) ?_
      clear hK K
      have HAI := Lib.hid ha
      have HA' := Lib.hid hA'
      have HM' := Lib.hid ((Ext.mod _ (Below.drew (Ext.refl w))).trans hM' : Mod (fun k => k = L.a) w w1)
      have HMM := Lib.hid (show w.heap.size ≤ m' from hm')
      clear ha hA' hm' hM'
      refine pi_t 10 rfl (by kernel_rfl) (by kernel_rfl) (fun _ _ _ _ h => h) (fun K hK => ?_)
      go_big_quiet_op
      refine hK _ ?_
      clear hK K
      refine pi_end (by kernel_rfl) ?_
      go_wp2
      go_ret
      refine .inl ⟨HAI.out, rfl, ⟨L.p, L.a, ⟨L.G.g, m', L.G.r, L.G.c⟩⟩, rfl, ⟨HH.out.1, HH.out.2.1, HH.out.2.2.1, .inl ⟨HX.out, HM'.out.keep HP.out (rl_npx HP.out HA.out), HA'.out⟩⟩, ?_, HM'.out.wider (fun k hk => .inr (.inl ⟨HX.out, .inl hk⟩))⟩
      rintro k (rfl | ⟨hy, (rfl | rfl)⟩ | ⟨hy, _⟩)
      · exact .inl (.inl rfl)
      · exact .inl (.inr (.inl ⟨hy, .inl rfl⟩))
      · exact .inr HMM.out
      · rw [HX.out] at hy; cases hy
    · refine hK _ _ (by simp) ?_
      clear hK K
      have HNA := Lib.hid ha
      have hEf := Ext.trans' (Below.drew (Ext.refl w)) hx'
      clear ha hx'
      refine pi_t 10 rfl (by kernel_rfl) (by kernel_rfl) (fun _ _ _ _ h => h) (fun K hK => ?_)
      go_big_quiet_op
      refine hK _ ?_
      clear hK K
      refine pi_end (by kernel_rfl) ?_
      go_wp2
      go_ret
      exact .inr ⟨HNA.out, rfl, hEf⟩
  | false =>
    obtain ⟨hp, hA⟩ := h.sk hx
    obtain ⟨hp2, hA2⟩ := h2.sk hx
    have HU := Lib.hid (fun W' (hW : Ext w W') => RSJoinPlus_c _ _ _ _ C lv _ _ l l2 W' (hA.ext hW) (hA2.ext hW) hmd)
    have p0 := (cell_of hp 0).trans rfl
    have p1 := (cell_of hp 1).trans rfl
    have pl := lt_of hp
    have q0 := (cell_of hp2 0).trans rfl
    have q1 := (cell_of hp2 1).trans rfl
    have ql := lt_of hp2
    have HP := Lib.hid hp
    have HA := Lib.hid hA
    have HX := Lib.hid hx
    have HH := Lib.hid h
    clear hx hp hp2 hA hA2 h2 hmd h
    go_enter Tryz.func42, Tryz.ntmps42
    go_wp2_with fail
    have hC0 := af_drew w
    refine pi_start (fun w' => ∃ z : After w, w' = z.w) [9] (by kernel_rfl) ?_
    refine pi_t 0 rfl (by kernel_rfl) (by kernel_rfl) (fun _ _ _ _ h => h) (fun K hK => ?_)
    go_big_quiet_op
    refine hK _ ?_
    clear hK K
    refine pi_t 1 rfl (by kernel_rfl) (by kernel_rfl) (fun _ _ _ _ h => h) (fun K hK => ?_)
    go_big_quiet_op
    refine hK _ ?_
    clear hK K
    refine pi_t 2 rfl (by kernel_rfl) (by kernel_rfl) (fun _ _ _ _ h => h) (fun K hK => ?_)
    go_big_quiet_op
    refine hK _ ?_
    clear hK K
    refine pi_t 4 rfl (by kernel_rfl) (by kernel_rfl) (fun _ _ _ _ h => h) (fun K hK => ?_)
    go_big_quiet_op
    refine hK _ ?_
    clear hK K
    refine pi_t 5 rfl (by kernel_rfl) (by kernel_rfl) (fun _ _ _ _ h => h) (fun K hK => ?_)
    go_big_quiet_op
    refine hK _ ?_
    clear hK K
    refine pi_t 6 rfl (by kernel_rfl) (by kernel_rfl) (fun _ _ _ _ h => h) (fun K hK => ?_)
    go_big_quiet_op
    refine hK _ ?_
    clear hK K
    refine pi_t 8 rfl (by kernel_rfl) (by kernel_rfl) (fun _ _ _ _ h => h) (fun K hK => ?_)
    go_big_quiet_op
    refine hK _ ?_
    clear hK K
    refine pi_c 3 (by assumption) rfl (by kernel_rfl) (by kernel_rfl) (fun _ _ _ _ h => h) (fun K hK => ?_)
    go_big_quiet_op
    refine hK _ ?_
    clear hK K
    refine pi_c 7 (by assumption) rfl (by kernel_rfl) (by kernel_rfl) (fun _ _ _ _ h => h) (fun K hK => ?_)
    go_big_quiet_op
    refine hK _ ?_
    clear hK K
    refine pi_l 9 rfl (by kernel_rfl) (fun K hK => ?_)
    go_wp2_with (go_at_call 114; refine Calls.mono (HU.out _ (Below.drew (Ext.refl w))) ?_; rintro e w1 (⟨ha, rfl, G', hA', hF', hM'⟩ | ⟨ha, rfl, hx'⟩))
    · refine hK _ _ (by simp) ?_
      clear hK K
      have HAI := Lib.hid ha
      have HA' := Lib.hid hA'
      have HM' := Lib.hid ((Ext.mod _ (Below.drew (Ext.refl w))).trans hM' : Mod (rsF L.a L.G (rN C)) w w1)
      have HFF := Lib.hid (show ∀ k, rsF L.a G' (rN C) k → rsF L.a L.G (rN C) k ∨ w.heap.size ≤ k from hF')
      clear ha hA' hF' hM'
      refine pi_t 10 rfl (by kernel_rfl) (by kernel_rfl) (fun _ _ _ _ h => h) (fun K hK => ?_)
      go_big_quiet_op
      refine hK _ ?_
      clear hK K
      refine pi_end (by kernel_rfl) ?_
      go_wp2
      go_ret
      refine .inl ⟨HAI.out, rfl, ⟨L.p, L.a, G'⟩, rfl, ⟨HH.out.1, HH.out.2.1, HH.out.2.2.1, .inr ⟨HX.out, HM'.out.keep HP.out (rl_nps HP.out HA.out), HA'.out⟩⟩, ?_, HM'.out.wider (fun k hk => .inr (.inr ⟨HX.out, hk⟩))⟩
      rintro k (rfl | ⟨hy, _⟩ | ⟨hy, hk⟩)
      · exact .inl (.inl rfl)
      · rw [HX.out] at hy; cases hy
      · exact (HFF.out k hk).imp (fun h => .inr (.inr ⟨hy, h⟩)) id
    · refine hK _ _ (by simp) ?_
      clear hK K
      have HNA := Lib.hid ha
      have hEf := Ext.trans' (Below.drew (Ext.refl w)) hx'
      clear ha hx'
      refine pi_t 10 rfl (by kernel_rfl) (by kernel_rfl) (fun _ _ _ _ h => h) (fun K hK => ?_)
      go_big_quiet_op
      refine hK _ ?_
      clear hK K
      refine pi_end (by kernel_rfl) ?_
      go_wp2
      go_ret
      exact .inr ⟨HNA.out, rfl, hEf⟩
set_option maxRecDepth 20000 in
set_option maxHeartbeats 4000000 in
theorem RLJoinMinus_c (L L2 : RLev) (C : Cfg) (lv : Int) (l l2 : List Int) (w : World) (h : RLvAt w L C lv l) (h2 : RLvAt w L2 C lv l2) (hmd : "Minus" = "Minus" → C.mode ≠ 2) :
    Calls Tryz.prog 42 #[.pointer (some ⟨L.p, 0, none⟩), .pointer (some ⟨L2.p, 0, none⟩), .int .i64 (-1)] w (RLJoinPost w L C lv (minusL l l2)) := by
  cases hx : isX C lv with
  | true =>
    obtain ⟨hp, hA⟩ := h.x hx
    obtain ⟨hp2, hA2⟩ := h2.x hx
    have HU := Lib.hid (fun W' (hW : Ext w W') => RXJoinMinus_c _ _ _ _ C lv _ l l2 W' (hA.ext hW) (hA2.ext hW) hmd)
    have p0 := (cell_of hp 0).trans rfl
    have pl := lt_of hp
    have q0 := (cell_of hp2 0).trans rfl
    have ql := lt_of hp2
    have HP := Lib.hid hp
    have HA := Lib.hid hA
    have HX := Lib.hid hx
    have HH := Lib.hid h
    clear hx hp hp2 hA hA2 h2 hmd h
    go_enter Tryz.func42, Tryz.ntmps42
    go_wp2_with fail
    have hC0 := af_drew w
    refine pi_start (fun w' => ∃ z : After w, w' = z.w) [9] (by kernel_rfl) ?_
    refine pi_t 0 rfl (by kernel_rfl) (by kernel_rfl) (fun _ _ _ _ h => h) (fun K hK => ?_)
    go_big_quiet_op
    refine hK _ ?_
    clear hK K
    refine pi_t 1 rfl (by kernel_rfl) (by kernel_rfl) (fun _ _ _ _ h => h) (fun K hK => ?_)
    go_big_quiet_op
    refine hK _ ?_
    clear hK K
    refine pi_t 2 rfl (by kernel_rfl) (by kernel_rfl) (fun _ _ _ _ h => h) (fun K hK => ?_)
    go_big_quiet_op
    refine hK _ ?_
    clear hK K
    refine pi_t 4 rfl (by kernel_rfl) (by kernel_rfl) (fun _ _ _ _ h => h) (fun K hK => ?_)
    go_big_quiet_op
    refine hK _ ?_
    clear hK K
    refine pi_t 5 rfl (by kernel_rfl) (by kernel_rfl) (fun _ _ _ _ h => h) (fun K hK => ?_)
    go_big_quiet_op
    refine hK _ ?_
    clear hK K
    refine pi_t 6 rfl (by kernel_rfl) (by kernel_rfl) (fun _ _ _ _ h => h) (fun K hK => ?_)
    go_big_quiet_op
    refine hK _ ?_
    clear hK K
    refine pi_t 8 rfl (by kernel_rfl) (by kernel_rfl) (fun _ _ _ _ h => h) (fun K hK => ?_)
    go_big_quiet_op
    refine hK _ ?_
    clear hK K
    refine pi_c 3 (by assumption) rfl (by kernel_rfl) (by kernel_rfl) (fun _ _ _ _ h => h) (fun K hK => ?_)
    go_big_quiet_op
    refine hK _ ?_
    clear hK K
    refine pi_c 7 (by assumption) rfl (by kernel_rfl) (by kernel_rfl) (fun _ _ _ _ h => h) (fun K hK => ?_)
    go_big_quiet_op
    refine hK _ ?_
    clear hK K
    refine pi_l 9 rfl (by kernel_rfl) (fun K hK => ?_)
    go_wp2_with (go_at_call 113; refine Calls.mono (HU.out _ (Below.drew (Ext.refl w))) ?_; rintro e w1 (⟨ha, rfl, m', hA', hm', hM'⟩ | ⟨ha, rfl, hx'⟩))
    · refine hK _ _ (by simp) ?_
      clear hK K
      have HAI := Lib.hid ha
      have HA' := Lib.hid hA'
      have HM' := Lib.hid ((Ext.mod _ (Below.drew (Ext.refl w))).trans hM' : Mod (fun k => k = L.a) w w1)
      have HMM := Lib.hid (show w.heap.size ≤ m' from hm')
      clear ha hA' hm' hM'
      refine pi_t 10 rfl (by kernel_rfl) (by kernel_rfl) (fun _ _ _ _ h => h) (fun K hK => ?_)
      go_big_quiet_op
      refine hK _ ?_
      clear hK K
      refine pi_end (by kernel_rfl) ?_
      go_wp2
      go_ret
      refine .inl ⟨HAI.out, rfl, ⟨L.p, L.a, ⟨L.G.g, m', L.G.r, L.G.c⟩⟩, rfl, ⟨HH.out.1, HH.out.2.1, HH.out.2.2.1, .inl ⟨HX.out, HM'.out.keep HP.out (rl_npx HP.out HA.out), HA'.out⟩⟩, ?_, HM'.out.wider (fun k hk => .inr (.inl ⟨HX.out, .inl hk⟩))⟩
      rintro k (rfl | ⟨hy, (rfl | rfl)⟩ | ⟨hy, _⟩)
      · exact .inl (.inl rfl)
      · exact .inl (.inr (.inl ⟨hy, .inl rfl⟩))
      · exact .inr HMM.out
      · rw [HX.out] at hy; cases hy
    · refine hK _ _ (by simp) ?_
      clear hK K
      have HNA := Lib.hid ha
      have hEf := Ext.trans' (Below.drew (Ext.refl w)) hx'
      clear ha hx'
      refine pi_t 10 rfl (by kernel_rfl) (by kernel_rfl) (fun _ _ _ _ h => h) (fun K hK => ?_)
      go_big_quiet_op
      refine hK _ ?_
      clear hK K
      refine pi_end (by kernel_rfl) ?_
      go_wp2
      go_ret
      exact .inr ⟨HNA.out, rfl, hEf⟩
  | false =>
    obtain ⟨hp, hA⟩ := h.sk hx
    obtain ⟨hp2, hA2⟩ := h2.sk hx
    have HU := Lib.hid (fun W' (hW : Ext w W') => RSJoinMinus_c _ _ _ _ C lv _ _ l l2 W' (hA.ext hW) (hA2.ext hW) hmd)
    have p0 := (cell_of hp 0).trans rfl
    have p1 := (cell_of hp 1).trans rfl
    have pl := lt_of hp
    have q0 := (cell_of hp2 0).trans rfl
    have q1 := (cell_of hp2 1).trans rfl
    have ql := lt_of hp2
    have HP := Lib.hid hp
    have HA := Lib.hid hA
    have HX := Lib.hid hx
    have HH := Lib.hid h
    clear hx hp hp2 hA hA2 h2 hmd h
    go_enter Tryz.func42, Tryz.ntmps42
    go_wp2_with fail
    have hC0 := af_drew w
    refine pi_start (fun w' => ∃ z : After w, w' = z.w) [9] (by kernel_rfl) ?_
    refine pi_t 0 rfl (by kernel_rfl) (by kernel_rfl) (fun _ _ _ _ h => h) (fun K hK => ?_)
    go_big_quiet_op
    refine hK _ ?_
    clear hK K
    refine pi_t 1 rfl (by kernel_rfl) (by kernel_rfl) (fun _ _ _ _ h => h) (fun K hK => ?_)
    go_big_quiet_op
    refine hK _ ?_
    clear hK K
    refine pi_t 2 rfl (by kernel_rfl) (by kernel_rfl) (fun _ _ _ _ h => h) (fun K hK => ?_)
    go_big_quiet_op
    refine hK _ ?_
    clear hK K
    refine pi_t 4 rfl (by kernel_rfl) (by kernel_rfl) (fun _ _ _ _ h => h) (fun K hK => ?_)
    go_big_quiet_op
    refine hK _ ?_
    clear hK K
    refine pi_t 5 rfl (by kernel_rfl) (by kernel_rfl) (fun _ _ _ _ h => h) (fun K hK => ?_)
    go_big_quiet_op
    refine hK _ ?_
    clear hK K
    refine pi_t 6 rfl (by kernel_rfl) (by kernel_rfl) (fun _ _ _ _ h => h) (fun K hK => ?_)
    go_big_quiet_op
    refine hK _ ?_
    clear hK K
    refine pi_t 8 rfl (by kernel_rfl) (by kernel_rfl) (fun _ _ _ _ h => h) (fun K hK => ?_)
    go_big_quiet_op
    refine hK _ ?_
    clear hK K
    refine pi_c 3 (by assumption) rfl (by kernel_rfl) (by kernel_rfl) (fun _ _ _ _ h => h) (fun K hK => ?_)
    go_big_quiet_op
    refine hK _ ?_
    clear hK K
    refine pi_c 7 (by assumption) rfl (by kernel_rfl) (by kernel_rfl) (fun _ _ _ _ h => h) (fun K hK => ?_)
    go_big_quiet_op
    refine hK _ ?_
    clear hK K
    refine pi_l 9 rfl (by kernel_rfl) (fun K hK => ?_)
    go_wp2_with (go_at_call 114; refine Calls.mono (HU.out _ (Below.drew (Ext.refl w))) ?_; rintro e w1 (⟨ha, rfl, G', hA', hF', hM'⟩ | ⟨ha, rfl, hx'⟩))
    · refine hK _ _ (by simp) ?_
      clear hK K
      have HAI := Lib.hid ha
      have HA' := Lib.hid hA'
      have HM' := Lib.hid ((Ext.mod _ (Below.drew (Ext.refl w))).trans hM' : Mod (rsF L.a L.G (rN C)) w w1)
      have HFF := Lib.hid (show ∀ k, rsF L.a G' (rN C) k → rsF L.a L.G (rN C) k ∨ w.heap.size ≤ k from hF')
      clear ha hA' hF' hM'
      refine pi_t 10 rfl (by kernel_rfl) (by kernel_rfl) (fun _ _ _ _ h => h) (fun K hK => ?_)
      go_big_quiet_op
      refine hK _ ?_
      clear hK K
      refine pi_end (by kernel_rfl) ?_
      go_wp2
      go_ret
      refine .inl ⟨HAI.out, rfl, ⟨L.p, L.a, G'⟩, rfl, ⟨HH.out.1, HH.out.2.1, HH.out.2.2.1, .inr ⟨HX.out, HM'.out.keep HP.out (rl_nps HP.out HA.out), HA'.out⟩⟩, ?_, HM'.out.wider (fun k hk => .inr (.inr ⟨HX.out, hk⟩))⟩
      rintro k (rfl | ⟨hy, _⟩ | ⟨hy, hk⟩)
      · exact .inl (.inl rfl)
      · rw [HX.out] at hy; cases hy
      · exact (HFF.out k hk).imp (fun h => .inr (.inr ⟨hy, h⟩)) id
    · refine hK _ _ (by simp) ?_
      clear hK K
      have HNA := Lib.hid ha
      have hEf := Ext.trans' (Below.drew (Ext.refl w)) hx'
      clear ha hx'
      refine pi_t 10 rfl (by kernel_rfl) (by kernel_rfl) (fun _ _ _ _ h => h) (fun K hK => ?_)
      go_big_quiet_op
      refine hK _ ?_
      clear hK K
      refine pi_end (by kernel_rfl) ?_
      go_wp2
      go_ret
      exact .inr ⟨HNA.out, rfl, hEf⟩
set_option maxRecDepth 20000 in
set_option maxHeartbeats 4000000 in
theorem RLJoin_mode (L L2 : RLev) (C : Cfg) (lv : Int) (l l2 : List Int) (w : World) (h : RLvAt w L C lv l) (h2 : RLvAt w L2 C lv l2) (hmd : C.mode = 2) :
    Calls Tryz.prog 42 #[.pointer (some ⟨L.p, 0, none⟩), .pointer (some ⟨L2.p, 0, none⟩), .int .i64 (-1)] w fun e w' => e = .returned (.int .i64 3) ∧ Ext w w' := by
  cases hx : isX C lv with
  | true =>
    obtain ⟨hp, hA⟩ := h.x hx
    obtain ⟨hp2, hA2⟩ := h2.x hx
    have HU := Lib.hid (fun W' (hW : Ext w W') => RXJoin_mode _ _ _ _ C lv _ l l2 W' (hA.ext hW) (hA2.ext hW) hmd)
    have p0 := (cell_of hp 0).trans rfl
    have pl := lt_of hp
    have q0 := (cell_of hp2 0).trans rfl
    have ql := lt_of hp2
    clear hx hp hp2 hA hA2 h2 hmd h
    go_enter Tryz.func42, Tryz.ntmps42
    go_wp2_with fail
    have hC0 := af_drew w
    refine pi_start (fun w' => ∃ z : After w, w' = z.w) [] (by kernel_rfl) ?_
    refine pi_t 0 rfl (by kernel_rfl) (by kernel_rfl) (fun _ _ _ _ h => h) (fun K hK => ?_)
    go_big_quiet_op
    refine hK _ ?_
    clear hK K
    refine pi_t 1 rfl (by kernel_rfl) (by kernel_rfl) (fun _ _ _ _ h => h) (fun K hK => ?_)
    go_big_quiet_op
    refine hK _ ?_
    clear hK K
    refine pi_t 2 rfl (by kernel_rfl) (by kernel_rfl) (fun _ _ _ _ h => h) (fun K hK => ?_)
    go_big_quiet_op
    refine hK _ ?_
    clear hK K
    refine pi_t 4 rfl (by kernel_rfl) (by kernel_rfl) (fun _ _ _ _ h => h) (fun K hK => ?_)
    go_big_quiet_op
    refine hK _ ?_
    clear hK K
    refine pi_t 5 rfl (by kernel_rfl) (by kernel_rfl) (fun _ _ _ _ h => h) (fun K hK => ?_)
    go_big_quiet_op
    refine hK _ ?_
    clear hK K
    refine pi_t 6 rfl (by kernel_rfl) (by kernel_rfl) (fun _ _ _ _ h => h) (fun K hK => ?_)
    go_big_quiet_op
    refine hK _ ?_
    clear hK K
    refine pi_t 8 rfl (by kernel_rfl) (by kernel_rfl) (fun _ _ _ _ h => h) (fun K hK => ?_)
    go_big_quiet_op
    refine hK _ ?_
    clear hK K
    refine pi_c 3 (by assumption) rfl (by kernel_rfl) (by kernel_rfl) (fun _ _ _ _ h => h) (fun K hK => ?_)
    go_big_quiet_op
    refine hK _ ?_
    clear hK K
    refine pi_c 7 (by assumption) rfl (by kernel_rfl) (by kernel_rfl) (fun _ _ _ _ h => h) (fun K hK => ?_)
    go_big_quiet_op
    refine hK _ ?_
    clear hK K
    refine pi_l 9 rfl (by kernel_rfl) (fun K hK => ?_)
    go_wp2_with (go_at_call 113; refine Calls.mono (HU.out _ (Below.drew (Ext.refl w))) ?_; rintro e w1 ⟨rfl, hx'⟩)
    have hEf := Ext.trans' (Below.drew (Ext.refl w)) hx'
    refine hK _ _ (fun _ h => af_step h hx') ?_
    clear hK K hx'
    refine pi_t 10 rfl (by kernel_rfl) (by kernel_rfl) (fun _ _ _ _ h => h) (fun K hK => ?_)
    go_big_quiet_op
    refine hK _ ?_
    clear hK K
    refine pi_end (by kernel_rfl) ?_
    go_wp2
    go_ret
    exact ⟨rfl, hEf⟩
  | false =>
    obtain ⟨hp, hA⟩ := h.sk hx
    obtain ⟨hp2, hA2⟩ := h2.sk hx
    have HU := Lib.hid (fun W' (hW : Ext w W') => RSJoin_mode _ _ _ _ C lv _ _ l l2 W' (hA.ext hW) (hA2.ext hW) hmd)
    have p0 := (cell_of hp 0).trans rfl
    have p1 := (cell_of hp 1).trans rfl
    have pl := lt_of hp
    have q0 := (cell_of hp2 0).trans rfl
    have q1 := (cell_of hp2 1).trans rfl
    have ql := lt_of hp2
    clear hx hp hp2 hA hA2 h2 hmd h
    go_enter Tryz.func42, Tryz.ntmps42
    go_wp2_with fail
    have hC0 := af_drew w
    refine pi_start (fun w' => ∃ z : After w, w' = z.w) [] (by kernel_rfl) ?_
    refine pi_t 0 rfl (by kernel_rfl) (by kernel_rfl) (fun _ _ _ _ h => h) (fun K hK => ?_)
    go_big_quiet_op
    refine hK _ ?_
    clear hK K
    refine pi_t 1 rfl (by kernel_rfl) (by kernel_rfl) (fun _ _ _ _ h => h) (fun K hK => ?_)
    go_big_quiet_op
    refine hK _ ?_
    clear hK K
    refine pi_t 2 rfl (by kernel_rfl) (by kernel_rfl) (fun _ _ _ _ h => h) (fun K hK => ?_)
    go_big_quiet_op
    refine hK _ ?_
    clear hK K
    refine pi_t 4 rfl (by kernel_rfl) (by kernel_rfl) (fun _ _ _ _ h => h) (fun K hK => ?_)
    go_big_quiet_op
    refine hK _ ?_
    clear hK K
    refine pi_t 5 rfl (by kernel_rfl) (by kernel_rfl) (fun _ _ _ _ h => h) (fun K hK => ?_)
    go_big_quiet_op
    refine hK _ ?_
    clear hK K
    refine pi_t 6 rfl (by kernel_rfl) (by kernel_rfl) (fun _ _ _ _ h => h) (fun K hK => ?_)
    go_big_quiet_op
    refine hK _ ?_
    clear hK K
    refine pi_t 8 rfl (by kernel_rfl) (by kernel_rfl) (fun _ _ _ _ h => h) (fun K hK => ?_)
    go_big_quiet_op
    refine hK _ ?_
    clear hK K
    refine pi_c 3 (by assumption) rfl (by kernel_rfl) (by kernel_rfl) (fun _ _ _ _ h => h) (fun K hK => ?_)
    go_big_quiet_op
    refine hK _ ?_
    clear hK K
    refine pi_c 7 (by assumption) rfl (by kernel_rfl) (by kernel_rfl) (fun _ _ _ _ h => h) (fun K hK => ?_)
    go_big_quiet_op
    refine hK _ ?_
    clear hK K
    refine pi_l 9 rfl (by kernel_rfl) (fun K hK => ?_)
    go_wp2_with (go_at_call 114; refine Calls.mono (HU.out _ (Below.drew (Ext.refl w))) ?_; rintro e w1 ⟨rfl, hx'⟩)
    have hEf := Ext.trans' (Below.drew (Ext.refl w)) hx'
    refine hK _ _ (fun _ h => af_step h hx') ?_
    clear hK K hx'
    refine pi_t 10 rfl (by kernel_rfl) (by kernel_rfl) (fun _ _ _ _ h => h) (fun K hK => ?_)
    go_big_quiet_op
    refine hK _ ?_
    clear hK K
    refine pi_end (by kernel_rfl) ?_
    go_wp2
    go_ret
    exact ⟨rfl, hEf⟩
/-- What Inner answers of two levels: of one mode but Linear none. -/
def inV (C : Cfg) (lv : Int) (l m : List Int) : Int × Int × Int :=
  if C.mode = 1 then (match lvInn C lv l m with | some s => (hi s, lo s, 0) | none => (0, 0, 4)) else (0, 0, 3)
theorem innV_eq {C : Cfg} (hm : C.mode = 1) (lv : Int) (l m : List Int) : innV (lvInn C lv l m) = .tuple #[.agg #[.int .i64 (inV C lv l m).1, .int .u64 (inV C lv l m).2.1], .int .i64 (inV C lv l m).2.2] := by
  unfold inV
  rw [if_pos hm]
  cases lvInn C lv l m <;> rfl
theorem inV_mode {C : Cfg} (hm : C.mode ≠ 1) (lv : Int) (l m : List Int) : inV C lv l m = (0, 0, 3) := by unfold inV; rw [if_neg hm]
set_option maxRecDepth 20000 in
set_option maxHeartbeats 8000000 in
theorem RLInner_s (L L2 : RLev) (C : Cfg) (lv : Int) (l m : List Int) (w : World) (h : RLvAt w L C lv l) (h2 : RLvAt w L2 C lv m) (hx : isX C lv = false) (a b c : Int)
    (hI : ∀ W', Ext w W' → Calls Tryz.prog 124 #[.pointer (some ⟨L.a, 0, none⟩), .pointer (some ⟨L2.a, 0, none⟩)] W' fun e w' => e = .returned (.tuple #[.agg #[.int .i64 a, .int .u64 b], .int .i64 c]) ∧ Ext W' w') :
    Calls Tryz.prog 46 #[.pointer (some ⟨L.p, 0, none⟩), .pointer (some ⟨L2.p, 0, none⟩)] w fun e w' => e = .returned (.tuple #[.agg #[.int .i64 a, .int .u64 b], .int .i64 c]) ∧ Ext w w' := by
  obtain ⟨w0, hw0⟩ : ∃ w0, w.alloc (.cells #[.int .i64 0, .int .u64 0] 75) = w0 := ⟨_, rfl⟩
  have hz0 : w0.heap[w.heap.size]? = some (.cells #[.int .i64 0, .int .u64 0] 75 (0, 0)) := by rw [← hw0]; exact heap_at _ _ rfl
  have hE0 : Ext w w0 := by rw [← hw0]; exact Ext.alloc' _ _
  obtain ⟨hp, hA⟩ := (h.ext hE0).sk hx
  obtain ⟨hp2, hA2⟩ := (h2.ext hE0).sk hx
  have p1 := (cell_of hp 1).trans rfl
  have pl := lt_of hp
  have q1 := (cell_of hp2 1).trans rfl
  have ql := lt_of hp2
  have HI := Lib.hid hI
  have HZ0 := Lib.hid hz0
  have HE0 := Lib.hid hE0
  clear hx hp hp2 hA hA2 h2 h hI hz0 hE0
  go_enter Tryz.func46, Tryz.ntmps46
  go_upto_region 1 with (fail)
  try rw [hw0]
  clear hw0
  go_wp2_with fail
  have hC0 := af_drew w0
  refine pi_start (fun w' => ∃ z : After w0, w' = z.w) [11] (by kernel_rfl) ?_
  refine pi_t 0 rfl (by kernel_rfl) (by kernel_rfl) (fun _ _ _ _ h => h) (fun K hK => ?_)
  go_big_quiet_op
  refine hK _ ?_
  clear hK K
  refine pi_t 1 rfl (by kernel_rfl) (by kernel_rfl) (fun _ _ _ _ h => h) (fun K hK => ?_)
  go_big_quiet_op
  refine hK _ ?_
  clear hK K
  refine pi_t 2 rfl (by kernel_rfl) (by kernel_rfl) (fun _ _ _ _ h => h) (fun K hK => ?_)
  go_big_quiet_op
  refine hK _ ?_
  clear hK K
  refine pi_t 4 rfl (by kernel_rfl) (by kernel_rfl) (fun _ _ _ _ h => h) (fun K hK => ?_)
  go_big_quiet_op
  refine hK _ ?_
  clear hK K
  refine pi_t 5 rfl (by kernel_rfl) (by kernel_rfl) (fun _ _ _ _ h => h) (fun K hK => ?_)
  go_big_quiet_op
  refine hK _ ?_
  clear hK K
  refine pi_t 6 rfl (by kernel_rfl) (by kernel_rfl) (fun _ _ _ _ h => h) (fun K hK => ?_)
  go_big_quiet_op
  refine hK _ ?_
  clear hK K
  refine pi_c 3 (by assumption) rfl (by kernel_rfl) (by kernel_rfl) (fun _ _ _ _ h => h) (fun K hK => ?_)
  go_big_quiet_op
  refine hK _ ?_
  clear hK K
  refine pi_c 7 (by assumption) rfl (by kernel_rfl) (by kernel_rfl) (fun _ _ _ _ h => h) (fun K hK => ?_)
  go_big_quiet_op
  refine hK _ ?_
  clear hK K
  refine pi_l 8 rfl (by kernel_rfl) (fun K hK => ?_)
  go_wp2_with (go_at_call 124; refine Calls.mono (HI.out _ (HE0.out.trans' (Below.drew (Ext.refl w0)))) ?_; rintro e w1 ⟨rfl, hx'⟩)
  have hE1 : Ext w0 w1 := Ext.trans' (Below.drew (Ext.refl w0)) hx'
  refine hK _ _ (fun _ h => af_step h hx') ?_
  clear hK K
  have hz1 := hE1.keep HZ0.out
  have z0 := (cell_of hz1 0).trans rfl
  have z1 := (cell_of hz1 1).trans rfl
  have f0 := frozen_of hz1 0
  have f1 := frozen_of hz1 1
  have zl := lt_of hz1
  have HE1 := Lib.hid (HE0.out.trans' hE1)
  clear hz1 hE1 hx'
  refine pi_t 9 rfl (by kernel_rfl) (by kernel_rfl) (fun _ _ _ _ h => h) (fun K hK => ?_)
  go_big_quiet_op
  refine hK _ ?_
  clear hK K
  refine pi_t 10 rfl (by kernel_rfl) (by kernel_rfl) (fun _ _ _ _ h => h) (fun K hK => ?_)
  go_big_quiet_op
  refine hK _ ?_
  clear hK K
  refine pi_l 11 rfl (by kernel_rfl) (fun K hK => ?_)
  go_wp2
  refine hK _ _ (by simp) ?_
  clear hK K
  refine pi_t 12 rfl (by kernel_rfl) (by kernel_rfl) (fun _ _ _ _ h => h) (fun K hK => ?_)
  go_big_quiet_op
  refine hK _ ?_
  clear hK K
  refine pi_end (by kernel_rfl) ?_
  go_wp2
  refine bodyPost_ret (v := .tuple #[.agg #[.int .i64 a, .int .u64 b], .int .i64 c]) (by simp [results, Tryz.results46, go_sem, *]) rfl ⟨rfl, ?_⟩
  first
    | exact ((HE1.out.setR (p := ⟨w.heap.size, 0, none⟩) (Nat.le_refl _) _).setR (p := ⟨w.heap.size, 1, none⟩) (Nat.le_refl _) _).drewR
    | exact ((HE1.out.setR (p := ⟨w.heap.size, 0, none⟩) (Nat.le_refl _) _).setR (p := ⟨w.heap.size, 1, none⟩) (Nat.le_refl _) _)
end Go.Proofs.YtfhdjekpdifajaaGreat
namespace Go.Proofs.YtfhdjekpdifajaaGreat
set_option linter.unusedVariables false
open Go.RowKit
theorem zbox3 {w w0 wd : World} (h : w0.heap[w.heap.size]? = some (.cells #[.int .i64 0, .int .u64 0] 75 (0, 0))) (hE : Ext w0 wd) :
    wd.cell? ⟨w.heap.size, 0, none⟩ = some (.int .i64 0) ∧ wd.cell? ⟨w.heap.size, 1, none⟩ = some (.int .u64 0) ∧ wd.frozen? ⟨w.heap.size, 0, none⟩ = false ∧ wd.frozen? ⟨w.heap.size, 1, none⟩ = false ∧ w.heap.size < wd.heap.size := by
  have h1 := hE.keep h
  exact ⟨(cell_of h1 0).trans rfl, (cell_of h1 1).trans rfl, frozen_of h1 0, frozen_of h1 1, lt_of h1⟩
/-- What is read of a level that is an array. -/
theorem rx_facts {w : World} {L : RLev} {C : Cfg} {lv : Int} {l : List Int} (h : RLvAt w L C lv l) (hx : isX C lv = true) : ∃ cap, w.cell? ⟨L.p, 0, none⟩ = some (.pointer (some ⟨L.a, 0, none⟩)) ∧ w.cell? ⟨L.p, 1, none⟩ = some (.pointer none) ∧ L.p < w.heap.size ∧ L.a < w.heap.size ∧
    w.cell? ⟨L.a, 0, none⟩ = some (.int .i64 C.bits) ∧ w.cell? ⟨L.a, 1, none⟩ = some (.int .i64 C.rows) ∧ w.cell? ⟨L.a, 2, none⟩ = some (.int .i64 C.width) ∧ w.cell? ⟨L.a, 3, none⟩ = some (.int .i64 C.mode) ∧ w.cell? ⟨L.a, 4, none⟩ = some (.int .u64 C.seed) ∧ w.cell? ⟨L.a, 5, none⟩ = some (.int .i64 lv) ∧
    w.cell? ⟨L.a, 6, none⟩ = some (.slice (some ⟨L.G.m, 0, none⟩) (kN C lv) cap) := by
  obtain ⟨hp, hA⟩ := h.x hx
  obtain ⟨cap, hex, _⟩ := hA.ex
  exact ⟨cap, (cell_of hp 0).trans rfl, (cell_of hp 1).trans rfl, lt_of hp, lt_of hex, (cell_of hex 0).trans rfl, (cell_of hex 1).trans rfl, (cell_of hex 2).trans rfl, (cell_of hex 3).trans rfl, (cell_of hex 4).trans rfl, (cell_of hex 5).trans rfl, (cell_of hex 6).trans rfl⟩
set_option maxRecDepth 20000 in
set_option maxHeartbeats 16000000 in
theorem RLInner_xm (L L2 : RLev) (C : Cfg) (lv : Int) (l m : List Int) (w : World) (h : RLvAt w L C lv l) (h2 : RLvAt w L2 C lv m) (hx : isX C lv = true) (hm : C.mode ≠ 1) :
    Calls Tryz.prog 46 #[.pointer (some ⟨L.p, 0, none⟩), .pointer (some ⟨L2.p, 0, none⟩)] w fun e w' => e = .returned (.tuple #[.agg #[.int .i64 0, .int .u64 0], .int .i64 3]) ∧ Ext w w' := by
  have hm' : (C.mode != 1) = true := by simpa using hm
  obtain ⟨w0, hw0⟩ : ∃ w0, w.alloc (.cells #[.int .i64 0, .int .u64 0] 75) = w0 := ⟨_, rfl⟩
  have hz0 : w0.heap[w.heap.size]? = some (.cells #[.int .i64 0, .int .u64 0] 75 (0, 0)) := by rw [← hw0]; exact heap_at _ _ rfl
  have hE0 : Ext w w0 := by rw [← hw0]; exact Ext.alloc' _ _
  obtain ⟨cap, p0, p1, pl, al, a0, a1, a2, a3, a4, a5, a6⟩ := rx_facts (h.ext hE0) hx
  obtain ⟨cap2, q0, q1, ql, bl, b0, b1, b2, b3, b4, b5, b6⟩ := rx_facts (h2.ext hE0) hx
  have z0 := (cell_of hz0 0).trans rfl
  have z1 := (cell_of hz0 1).trans rfl
  have f0 := frozen_of hz0 0
  have f1 := frozen_of hz0 1
  have zl := lt_of hz0
  have HE0 := Lib.hid hE0
  clear hx h2 h hm hz0 hE0
  go_enter Tryz.func46, Tryz.ntmps46
  go_upto_region 1 with (fail)
  try rw [hw0]
  clear hw0
  go_wp2_with fail
  have hC0 := af_drew w0
  refine pi_start (fun w' => ∃ z : After w0, w' = z.w) [] (by kernel_rfl) ?_
  refine pi_t 0 rfl (by kernel_rfl) (by kernel_rfl) (fun _ _ _ _ h => h) (fun K hK => ?_)
  go_big_quiet_op
  refine hK _ ?_
  clear hK K
  refine pi_t 1 rfl (by kernel_rfl) (by kernel_rfl) (fun _ _ _ _ h => h) (fun K hK => ?_)
  go_big_quiet_op
  refine hK _ ?_
  clear hK K
  refine pi_t 2 rfl (by kernel_rfl) (by kernel_rfl) (fun _ _ _ _ h => h) (fun K hK => ?_)
  go_big_quiet_op
  refine hK _ ?_
  clear hK K
  refine pi_c 3 (by assumption) rfl (by kernel_rfl) (by kernel_rfl) (fun _ _ _ _ h => h) (fun K hK => ?_)
  go_big_quiet_op
  refine hK _ ?_
  clear hK K
  refine pi_t 4 rfl (by kernel_rfl) (by kernel_rfl) (fun _ _ _ _ h => h) (fun K hK => ?_)
  go_big_quiet_op
  refine hK _ ?_
  clear hK K
  refine pi_t 5 rfl (by kernel_rfl) (by kernel_rfl) (fun _ _ _ _ h => h) (fun K hK => ?_)
  go_big_quiet_op
  refine hK _ ?_
  clear hK K
  refine pi_t 6 rfl (by kernel_rfl) (by kernel_rfl) (fun _ _ _ _ h => h) (fun K hK => ?_)
  go_big_quiet_op
  refine hK _ ?_
  clear hK K
  refine pi_t 7 rfl (by kernel_rfl) (by kernel_rfl) (fun _ _ _ _ h => h) (fun K hK => ?_)
  go_big_quiet_op
  refine hK _ ?_
  clear hK K
  refine pi_t 8 rfl (by kernel_rfl) (by kernel_rfl) (fun _ _ _ _ h => h) (fun K hK => ?_)
  go_big_quiet_op
  refine hK _ ?_
  clear hK K
  refine pi_c 9 (by assumption) rfl (by kernel_rfl) (by kernel_rfl) (fun _ _ _ _ h => h) (fun K hK => ?_)
  go_big_quiet_op
  refine hK _ ?_
  clear hK K
  refine pi_t 10 rfl (by kernel_rfl) (by kernel_rfl) (fun _ _ _ _ h => h) (fun K hK => ?_)
  go_big_quiet_op
  refine hK _ ?_
  clear hK K
  refine pi_t 11 rfl (by kernel_rfl) (by kernel_rfl) (fun _ _ _ _ h => h) (fun K hK => ?_)
  go_big_quiet_op
  refine hK _ ?_
  clear hK K
  refine pi_t 12 rfl (by kernel_rfl) (by kernel_rfl) (fun _ _ _ _ h => h) (fun K hK => ?_)
  go_big_quiet_op
  refine hK _ ?_
  clear hK K
  refine pi_t 13 rfl (by kernel_rfl) (by kernel_rfl) (fun _ _ _ _ h => h) (fun K hK => ?_)
  go_big_quiet_op
  refine hK _ ?_
  clear hK K
  refine pi_t 14 rfl (by kernel_rfl) (by kernel_rfl) (fun _ _ _ _ h => h) (fun K hK => ?_)
  go_big_quiet_op
  refine hK _ ?_
  clear hK K
  refine pi_t 15 rfl (by kernel_rfl) (by kernel_rfl) (fun _ _ _ _ h => h) (fun K hK => ?_)
  go_big_quiet_op
  refine hK _ ?_
  clear hK K
  refine pi_t 20 rfl (by kernel_rfl) (by kernel_rfl) (fun _ _ _ _ h => h) (fun K hK => ?_)
  go_big_quiet_op
  refine hK _ ?_
  clear hK K
  refine pi_t 21 rfl (by kernel_rfl) (by kernel_rfl) (fun _ _ _ _ h => h) (fun K hK => ?_)
  go_big_quiet_op
  refine hK _ ?_
  clear hK K
  refine pi_t 22 rfl (by kernel_rfl) (by kernel_rfl) (fun _ _ _ _ h => h) (fun K hK => ?_)
  go_big_quiet_op
  refine hK _ ?_
  clear hK K
  refine pi_c 16 (by assumption) rfl (by kernel_rfl) (by kernel_rfl) (fun _ _ _ _ h => h) (fun K hK => ?_)
  go_big_quiet_op
  refine hK _ ?_
  clear hK K
  refine pi_t 17 rfl (by kernel_rfl) (by kernel_rfl) (fun _ _ _ _ h => h) (fun K hK => ?_)
  go_big_quiet_op
  refine hK _ ?_
  clear hK K
  refine pi_t 18 rfl (by kernel_rfl) (by kernel_rfl) (fun _ _ _ _ h => h) (fun K hK => ?_)
  go_big_quiet_op
  refine hK _ ?_
  clear hK K
  refine pi_c 19 (by assumption) rfl (by kernel_rfl) (by kernel_rfl) (fun _ _ _ _ h => h) (fun K hK => ?_)
  go_big_quiet_op
  refine hK _ ?_
  clear hK K
  refine pi_c 23 (by assumption) rfl (by kernel_rfl) (by kernel_rfl) (fun _ _ _ _ h => h) (fun K hK => ?_)
  go_big_quiet_op
  refine hK _ ?_
  clear hK K
  refine pi_t 24 rfl (by kernel_rfl) (by kernel_rfl) (fun _ _ _ _ h => h) (fun K hK => ?_)
  go_big_quiet_op
  refine hK _ ?_
  clear hK K
  refine pi_t 25 rfl (by kernel_rfl) (by kernel_rfl) (fun _ _ _ _ h => h) (fun K hK => ?_)
  go_big_quiet_op
  refine hK _ ?_
  clear hK K
  refine pi_c 26 (by assumption) rfl (by kernel_rfl) (by kernel_rfl) (fun _ _ _ _ h => h) (fun K hK => ?_)
  go_big_quiet_op
  refine hK _ ?_
  clear hK K
  refine pi_t 27 rfl (by kernel_rfl) (by kernel_rfl) (fun _ _ _ _ h => h) (fun K hK => ?_)
  go_big_quiet_op
  refine hK _ ?_
  clear hK K
  refine pi_t 28 rfl (by kernel_rfl) (by kernel_rfl) (fun _ _ _ _ h => h) (fun K hK => ?_)
  go_big_quiet_op
  refine hK _ ?_
  clear hK K
  refine pi_t 29 rfl (by kernel_rfl) (by kernel_rfl) (fun _ _ _ _ h => h) (fun K hK => ?_)
  go_big_quiet_op
  refine hK _ ?_
  clear hK K
  refine pi_t 30 rfl (by kernel_rfl) (by kernel_rfl) (fun _ _ _ _ h => h) (fun K hK => ?_)
  go_big_quiet_op
  refine hK _ ?_
  clear hK K
  refine pi_t 31 rfl (by kernel_rfl) (by kernel_rfl) (fun _ _ _ _ h => h) (fun K hK => ?_)
  go_big_quiet_op
  refine hK _ ?_
  clear hK K
  refine pi_t 32 rfl (by kernel_rfl) (by kernel_rfl) (fun _ _ _ _ h => h) (fun K hK => ?_)
  go_big_quiet_op
  refine hK _ ?_
  clear hK K
  refine pi_t 37 rfl (by kernel_rfl) (by kernel_rfl) (fun _ _ _ _ h => h) (fun K hK => ?_)
  go_big_quiet_op
  refine hK _ ?_
  clear hK K
  refine pi_t 38 rfl (by kernel_rfl) (by kernel_rfl) (fun _ _ _ _ h => h) (fun K hK => ?_)
  go_big_quiet_op
  refine hK _ ?_
  clear hK K
  refine pi_t 39 rfl (by kernel_rfl) (by kernel_rfl) (fun _ _ _ _ h => h) (fun K hK => ?_)
  go_big_quiet_op
  refine hK _ ?_
  clear hK K
  refine pi_c 33 (by assumption) rfl (by kernel_rfl) (by kernel_rfl) (fun _ _ _ _ h => h) (fun K hK => ?_)
  go_big_quiet_op
  refine hK _ ?_
  clear hK K
  refine pi_t 34 rfl (by kernel_rfl) (by kernel_rfl) (fun _ _ _ _ h => h) (fun K hK => ?_)
  go_big_quiet_op
  refine hK _ ?_
  clear hK K
  refine pi_t 35 rfl (by kernel_rfl) (by kernel_rfl) (fun _ _ _ _ h => h) (fun K hK => ?_)
  go_big_quiet_op
  refine hK _ ?_
  clear hK K
  refine pi_c 36 (by assumption) rfl (by kernel_rfl) (by kernel_rfl) (fun _ _ _ _ h => h) (fun K hK => ?_)
  go_big_quiet_op
  refine hK _ ?_
  clear hK K
  refine pi_c 40 (by assumption) rfl (by kernel_rfl) (by kernel_rfl) (fun _ _ _ _ h => h) (fun K hK => ?_)
  go_big_quiet_op
  refine hK _ ?_
  clear hK K
  refine pi_t 41 rfl (by kernel_rfl) (by kernel_rfl) (fun _ _ _ _ h => h) (fun K hK => ?_)
  go_big_quiet_op
  refine hK _ ?_
  clear hK K
  refine pi_t 42 rfl (by kernel_rfl) (by kernel_rfl) (fun _ _ _ _ h => h) (fun K hK => ?_)
  go_big_quiet_op
  refine hK _ ?_
  clear hK K
  refine pi_c 43 (by assumption) rfl (by kernel_rfl) (by kernel_rfl) (fun _ _ _ _ h => h) (fun K hK => ?_)
  go_big_quiet_op
  refine hK _ ?_
  clear hK K
  refine pi_t 44 rfl (by kernel_rfl) (by kernel_rfl) (fun _ _ _ _ h => h) (fun K hK => ?_)
  go_big_quiet_op
  refine hK _ ?_
  clear hK K
  refine pi_t 45 rfl (by kernel_rfl) (by kernel_rfl) (fun _ _ _ _ h => h) (fun K hK => ?_)
  go_big_quiet_op
  refine hK _ ?_
  clear hK K
  refine pi_end (by kernel_rfl) ?_
  go_wp2
  refine bodyPost_ret (v := .tuple #[.agg #[.int .i64 0, .int .u64 0], .int .i64 3]) (by simp [results, Tryz.results46, go_sem, *]) rfl ⟨rfl, ?_⟩
  exact (HE0.out.drewR.setR (p := ⟨w.heap.size, 0, none⟩) (Nat.le_refl _) _).setR (p := ⟨w.heap.size, 1, none⟩) (Nat.le_refl _) _
set_option maxRecDepth 20000 in
set_option maxHeartbeats 16000000 in
theorem RLInner_x1 (L L2 : RLev) (C : Cfg) (lv : Int) (l m : List Int) (w : World) (h : RLvAt w L C lv l) (h2 : RLvAt w L2 C lv m) (hx : isX C lv = true) (hm : C.mode = 1) (rh rl : Int) (ok : Bool) (hok0 : ok = false → rh = 0 ∧ rl = 0)
    (hD : ∀ W', Ext w W' → ∀ v1 v2, IntsAt W' v1 l → IntsAt W' v2 m → Calls Tryz.prog 125 #[v1, v2] W' fun e w' => e = .returned (.tuple #[.agg #[.int .i64 rh, .int .u64 rl], .bool ok]) ∧ Ext W' w') :
    Calls Tryz.prog 46 #[.pointer (some ⟨L.p, 0, none⟩), .pointer (some ⟨L2.p, 0, none⟩)] w fun e w' => e = .returned (.tuple #[.agg #[.int .i64 rh, .int .u64 rl], .int .i64 (bif ok then 0 else 4)]) ∧ Ext w w' := by
  have hm' : (C.mode != 1) = false := by simp [hm]
  obtain ⟨w0, hw0⟩ : ∃ w0, w.alloc (.cells #[.int .i64 0, .int .u64 0] 75) = w0 := ⟨_, rfl⟩
  have hz0 : w0.heap[w.heap.size]? = some (.cells #[.int .i64 0, .int .u64 0] 75 (0, 0)) := by rw [← hw0]; exact heap_at _ _ rfl
  have hE0 : Ext w w0 := by rw [← hw0]; exact Ext.alloc' _ _
  obtain ⟨cap, p0, p1, pl, al, a0, a1, a2, a3, a4, a5, a6⟩ := rx_facts (h.ext hE0) hx
  obtain ⟨cap2, q0, q1, ql, bl, b0, b1, b2, b3, b4, b5, b6⟩ := rx_facts (h2.ext hE0) hx
  have HZ0 := Lib.hid hz0
  have HE0 := Lib.hid hE0
  have HI1 := Lib.hid (fun W' (hE : Ext w0 W') => (((h.ext hE0).ext hE).x hx).2.ints (cap := cap))
  have HI2 := Lib.hid (fun W' (hE : Ext w0 W') => (((h2.ext hE0).ext hE).x hx).2.ints (cap := cap2))
  have HD := Lib.hid hD
  have HOK0 := Lib.hid hok0
  clear hx h2 h hm hz0 hE0 hD hok0
  go_enter Tryz.func46, Tryz.ntmps46
  go_upto_region 1 with (fail)
  try rw [hw0]
  clear hw0
  go_wp2_with fail
  have hC0 := af_drew w0
  refine pi_start (fun w' => ∃ z : After w0, w' = z.w) [] (by kernel_rfl) ?_
  refine pi_t 0 rfl (by kernel_rfl) (by kernel_rfl) (fun _ _ _ _ h => h) (fun K hK => ?_)
  go_big_quiet_op
  refine hK _ ?_
  clear hK K
  refine pi_t 1 rfl (by kernel_rfl) (by kernel_rfl) (fun _ _ _ _ h => h) (fun K hK => ?_)
  go_big_quiet_op
  refine hK _ ?_
  clear hK K
  refine pi_t 2 rfl (by kernel_rfl) (by kernel_rfl) (fun _ _ _ _ h => h) (fun K hK => ?_)
  go_big_quiet_op
  refine hK _ ?_
  clear hK K
  refine pi_c 3 (by assumption) rfl (by kernel_rfl) (by kernel_rfl) (fun _ _ _ _ h => h) (fun K hK => ?_)
  go_big_quiet_op
  refine hK _ ?_
  clear hK K
  refine pi_t 4 rfl (by kernel_rfl) (by kernel_rfl) (fun _ _ _ _ h => h) (fun K hK => ?_)
  go_big_quiet_op
  refine hK _ ?_
  clear hK K
  refine pi_t 5 rfl (by kernel_rfl) (by kernel_rfl) (fun _ _ _ _ h => h) (fun K hK => ?_)
  go_big_quiet_op
  refine hK _ ?_
  clear hK K
  refine pi_t 6 rfl (by kernel_rfl) (by kernel_rfl) (fun _ _ _ _ h => h) (fun K hK => ?_)
  go_big_quiet_op
  refine hK _ ?_
  clear hK K
  refine pi_t 7 rfl (by kernel_rfl) (by kernel_rfl) (fun _ _ _ _ h => h) (fun K hK => ?_)
  go_big_quiet_op
  refine hK _ ?_
  clear hK K
  refine pi_t 8 rfl (by kernel_rfl) (by kernel_rfl) (fun _ _ _ _ h => h) (fun K hK => ?_)
  go_big_quiet_op
  refine hK _ ?_
  clear hK K
  refine pi_c 9 (by assumption) rfl (by kernel_rfl) (by kernel_rfl) (fun _ _ _ _ h => h) (fun K hK => ?_)
  go_big_quiet_op
  refine hK _ ?_
  clear hK K
  refine pi_t 10 rfl (by kernel_rfl) (by kernel_rfl) (fun _ _ _ _ h => h) (fun K hK => ?_)
  go_big_quiet_op
  refine hK _ ?_
  clear hK K
  refine pi_t 11 rfl (by kernel_rfl) (by kernel_rfl) (fun _ _ _ _ h => h) (fun K hK => ?_)
  go_big_quiet_op
  refine hK _ ?_
  clear hK K
  refine pi_t 12 rfl (by kernel_rfl) (by kernel_rfl) (fun _ _ _ _ h => h) (fun K hK => ?_)
  go_big_quiet_op
  refine hK _ ?_
  clear hK K
  refine pi_t 13 rfl (by kernel_rfl) (by kernel_rfl) (fun _ _ _ _ h => h) (fun K hK => ?_)
  go_big_quiet_op
  refine hK _ ?_
  clear hK K
  refine pi_t 14 rfl (by kernel_rfl) (by kernel_rfl) (fun _ _ _ _ h => h) (fun K hK => ?_)
  go_big_quiet_op
  refine hK _ ?_
  clear hK K
  refine pi_t 15 rfl (by kernel_rfl) (by kernel_rfl) (fun _ _ _ _ h => h) (fun K hK => ?_)
  go_big_quiet_op
  refine hK _ ?_
  clear hK K
  refine pi_t 20 rfl (by kernel_rfl) (by kernel_rfl) (fun _ _ _ _ h => h) (fun K hK => ?_)
  go_big_quiet_op
  refine hK _ ?_
  clear hK K
  refine pi_t 21 rfl (by kernel_rfl) (by kernel_rfl) (fun _ _ _ _ h => h) (fun K hK => ?_)
  go_big_quiet_op
  refine hK _ ?_
  clear hK K
  refine pi_t 22 rfl (by kernel_rfl) (by kernel_rfl) (fun _ _ _ _ h => h) (fun K hK => ?_)
  go_big_quiet_op
  refine hK _ ?_
  clear hK K
  refine pi_c 16 (by assumption) rfl (by kernel_rfl) (by kernel_rfl) (fun _ _ _ _ h => h) (fun K hK => ?_)
  go_big_quiet_op
  refine hK _ ?_
  clear hK K
  refine pi_t 17 rfl (by kernel_rfl) (by kernel_rfl) (fun _ _ _ _ h => h) (fun K hK => ?_)
  go_big_quiet_op
  refine hK _ ?_
  clear hK K
  refine pi_t 18 rfl (by kernel_rfl) (by kernel_rfl) (fun _ _ _ _ h => h) (fun K hK => ?_)
  go_big_quiet_op
  refine hK _ ?_
  clear hK K
  refine pi_c 19 (by assumption) rfl (by kernel_rfl) (by kernel_rfl) (fun _ _ _ _ h => h) (fun K hK => ?_)
  go_big_quiet_op
  refine hK _ ?_
  clear hK K
  refine pi_c 23 (by assumption) rfl (by kernel_rfl) (by kernel_rfl) (fun _ _ _ _ h => h) (fun K hK => ?_)
  go_big_quiet_op
  refine hK _ ?_
  clear hK K
  refine pi_t 24 rfl (by kernel_rfl) (by kernel_rfl) (fun _ _ _ _ h => h) (fun K hK => ?_)
  go_big_quiet_op
  refine hK _ ?_
  clear hK K
  refine pi_t 25 rfl (by kernel_rfl) (by kernel_rfl) (fun _ _ _ _ h => h) (fun K hK => ?_)
  go_big_quiet_op
  refine hK _ ?_
  clear hK K
  refine pi_c 26 (by assumption) rfl (by kernel_rfl) (by kernel_rfl) (fun _ _ _ _ h => h) (fun K hK => ?_)
  go_big_quiet_op
  refine hK _ ?_
  clear hK K
  refine pi_t 27 rfl (by kernel_rfl) (by kernel_rfl) (fun _ _ _ _ h => h) (fun K hK => ?_)
  go_big_quiet_op
  refine hK _ ?_
  clear hK K
  refine pi_t 28 rfl (by kernel_rfl) (by kernel_rfl) (fun _ _ _ _ h => h) (fun K hK => ?_)
  go_big_quiet_op
  refine hK _ ?_
  clear hK K
  refine pi_t 29 rfl (by kernel_rfl) (by kernel_rfl) (fun _ _ _ _ h => h) (fun K hK => ?_)
  go_big_quiet_op
  refine hK _ ?_
  clear hK K
  refine pi_t 30 rfl (by kernel_rfl) (by kernel_rfl) (fun _ _ _ _ h => h) (fun K hK => ?_)
  go_big_quiet_op
  refine hK _ ?_
  clear hK K
  refine pi_t 31 rfl (by kernel_rfl) (by kernel_rfl) (fun _ _ _ _ h => h) (fun K hK => ?_)
  go_big_quiet_op
  refine hK _ ?_
  clear hK K
  refine pi_t 32 rfl (by kernel_rfl) (by kernel_rfl) (fun _ _ _ _ h => h) (fun K hK => ?_)
  go_big_quiet_op
  refine hK _ ?_
  clear hK K
  refine pi_t 37 rfl (by kernel_rfl) (by kernel_rfl) (fun _ _ _ _ h => h) (fun K hK => ?_)
  go_big_quiet_op
  refine hK _ ?_
  clear hK K
  refine pi_t 38 rfl (by kernel_rfl) (by kernel_rfl) (fun _ _ _ _ h => h) (fun K hK => ?_)
  go_big_quiet_op
  refine hK _ ?_
  clear hK K
  refine pi_t 39 rfl (by kernel_rfl) (by kernel_rfl) (fun _ _ _ _ h => h) (fun K hK => ?_)
  go_big_quiet_op
  refine hK _ ?_
  clear hK K
  refine pi_c 33 (by assumption) rfl (by kernel_rfl) (by kernel_rfl) (fun _ _ _ _ h => h) (fun K hK => ?_)
  go_big_quiet_op
  refine hK _ ?_
  clear hK K
  refine pi_t 34 rfl (by kernel_rfl) (by kernel_rfl) (fun _ _ _ _ h => h) (fun K hK => ?_)
  go_big_quiet_op
  refine hK _ ?_
  clear hK K
  refine pi_t 35 rfl (by kernel_rfl) (by kernel_rfl) (fun _ _ _ _ h => h) (fun K hK => ?_)
  go_big_quiet_op
  refine hK _ ?_
  clear hK K
  refine pi_c 36 (by assumption) rfl (by kernel_rfl) (by kernel_rfl) (fun _ _ _ _ h => h) (fun K hK => ?_)
  go_big_quiet_op
  refine hK _ ?_
  clear hK K
  refine pi_c 40 (by assumption) rfl (by kernel_rfl) (by kernel_rfl) (fun _ _ _ _ h => h) (fun K hK => ?_)
  go_big_quiet_op
  refine hK _ ?_
  clear hK K
  refine pi_t 41 rfl (by kernel_rfl) (by kernel_rfl) (fun _ _ _ _ h => h) (fun K hK => ?_)
  go_big_quiet_op
  refine hK _ ?_
  clear hK K
  refine pi_t 42 rfl (by kernel_rfl) (by kernel_rfl) (fun _ _ _ _ h => h) (fun K hK => ?_)
  go_big_quiet_op
  refine hK _ ?_
  clear hK K
  refine pi_c 43 (by assumption) rfl (by kernel_rfl) (by kernel_rfl) (fun _ _ _ _ h => h) (fun K hK => ?_)
  go_big_quiet_op
  refine hK _ ?_
  clear hK K
  refine pi_t 44 rfl (by kernel_rfl) (by kernel_rfl) (fun _ _ _ _ h => h) (fun K hK => ?_)
  go_big_quiet_op
  refine hK _ ?_
  clear hK K
  refine pi_t 45 rfl (by kernel_rfl) (by kernel_rfl) (fun _ _ _ _ h => h) (fun K hK => ?_)
  go_big_quiet_op
  refine hK _ ?_
  clear hK K
  refine pi_end (by kernel_rfl) ?_
  go_wp2_with fail
  have hEd : Ext w0 w0.drew := Below.drew (Ext.refl w0)
  have p0' := ((bcell hEd).1 L.p 0 pl).trans p0
  have pl' := Nat.lt_of_lt_of_le pl hEd.size
  have al' := Nat.lt_of_lt_of_le al hEd.size
  have a6' := ((bcell hEd).1 L.a 6 al).trans a6
  have q0' := ((bcell hEd).1 L2.p 0 ql).trans q0
  have ql' := Nat.lt_of_lt_of_le ql hEd.size
  have bl' := Nat.lt_of_lt_of_le bl hEd.size
  have b6' := ((bcell hEd).1 L2.a 6 bl).trans b6
  clear p0 p1 pl al a0 a1 a2 a3 a4 a5 a6 q0 q1 ql bl b0 b1 b2 b3 b4 b5 b6
  generalize w0.drew = wd at *
  have HED := Lib.hid hEd
  have HDD := Lib.hid (fun (W' : World) (hW : Ext wd W') => HD.out W' (HE0.out.trans' (HED.out.trans' hW)) _ _ (HI1.out W' (HED.out.trans' hW)) (HI2.out W' (HED.out.trans' hW)))
  clear hEd
  go_upto_region 7 with (fail)
  go_cut [6, 7] (fun sA sB wx => ∃ z : Nat, sA = .pointer (some ⟨z, 0, none⟩) ∧ sB = .bool ok ∧ wx.heap[z]? = some (.cells #[.int .i64 rh, .int .u64 rl] 75 (0, 0)) ∧ Ext wd wx ∧ wd.heap.size ≤ z)
  case first =>
    have hC0 := af_drew wd
    refine pi_start (fun w' => ∃ x : After wd, w' = x.w) [] (by kernel_rfl) ?_
    refine pi_t 0 rfl (by kernel_rfl) (by kernel_rfl) (fun _ _ _ _ h => h) (fun K hK => ?_)
    go_big_quiet_op
    refine hK _ ?_
    clear hK K
    refine pi_t 1 rfl (by kernel_rfl) (by kernel_rfl) (fun _ _ _ _ h => h) (fun K hK => ?_)
    go_big_quiet_op
    refine hK _ ?_
    clear hK K
    refine pi_t 2 rfl (by kernel_rfl) (by kernel_rfl) (fun _ _ _ _ h => h) (fun K hK => ?_)
    go_big_quiet_op
    refine hK _ ?_
    clear hK K
    refine pi_t 7 rfl (by kernel_rfl) (by kernel_rfl) (fun _ _ _ _ h => h) (fun K hK => ?_)
    go_big_quiet_op
    refine hK _ ?_
    clear hK K
    refine pi_t 8 rfl (by kernel_rfl) (by kernel_rfl) (fun _ _ _ _ h => h) (fun K hK => ?_)
    go_big_quiet_op
    refine hK _ ?_
    clear hK K
    refine pi_t 9 rfl (by kernel_rfl) (by kernel_rfl) (fun _ _ _ _ h => h) (fun K hK => ?_)
    go_big_quiet_op
    refine hK _ ?_
    clear hK K
    refine pi_c 3 (by assumption) rfl (by kernel_rfl) (by kernel_rfl) (fun _ _ _ _ h => h) (fun K hK => ?_)
    go_big_quiet_op
    refine hK _ ?_
    clear hK K
    refine pi_t 4 rfl (by kernel_rfl) (by kernel_rfl) (fun _ _ _ _ h => h) (fun K hK => ?_)
    go_big_quiet_op
    refine hK _ ?_
    clear hK K
    refine pi_t 5 rfl (by kernel_rfl) (by kernel_rfl) (fun _ _ _ _ h => h) (fun K hK => ?_)
    go_big_quiet_op
    refine hK _ ?_
    clear hK K
    refine pi_c 6 (by assumption) rfl (by kernel_rfl) (by kernel_rfl) (fun _ _ _ _ h => h) (fun K hK => ?_)
    go_big_quiet_op
    refine hK _ ?_
    clear hK K
    refine pi_c 10 (by assumption) rfl (by kernel_rfl) (by kernel_rfl) (fun _ _ _ _ h => h) (fun K hK => ?_)
    go_big_quiet_op
    refine hK _ ?_
    clear hK K
    refine pi_t 11 rfl (by kernel_rfl) (by kernel_rfl) (fun _ _ _ _ h => h) (fun K hK => ?_)
    go_big_quiet_op
    refine hK _ ?_
    clear hK K
    refine pi_t 12 rfl (by kernel_rfl) (by kernel_rfl) (fun _ _ _ _ h => h) (fun K hK => ?_)
    go_big_quiet_op
    refine hK _ ?_
    clear hK K
    refine pi_c 13 (by assumption) rfl (by kernel_rfl) (by kernel_rfl) (fun _ _ _ _ h => h) (fun K hK => ?_)
    go_big_quiet_op
    refine hK _ ?_
    clear hK K
    refine pi_b 14 18 rfl rfl (by kernel_rfl) (fun K hK => ?_) (fun K hK => ?_)
    · skip
      go_wp2_with (go_at_call 125; refine (HDD.out _ (by (repeat' (first | exact Ext.refl _ | assumption | apply Ext.allocR | apply Ext.drewR | apply Ext.drewNR | (refine Ext.trans' ?_ (by assumption)))))).mono ?_; rintro e wa ⟨rfl, hxa⟩)
      refine hK _ _ (fun _ h => af_step h hxa) ?_
      clear hK K
      have hEa : Ext wd wa := Ext.trans' (Below.drew (Ext.refl wd)) hxa
      refine pi_t 15 rfl (by kernel_rfl) (by kernel_rfl) (fun _ _ _ _ h => h) (fun K hK => ?_)
      go_big_quiet_op
      refine hK _ ?_
      clear hK K
      refine pi_t 16 rfl (by kernel_rfl) (by kernel_rfl) (fun _ _ _ _ h => h) (fun K hK => ?_)
      go_big_quiet_op
      refine hK _ ?_
      clear hK K
      refine pi_t 17 rfl (by kernel_rfl) (by kernel_rfl) (fun _ _ _ _ h => h) (fun K hK => ?_)
      go_big_quiet_op
      refine hK _ ?_
      clear hK K
      refine pi_l 18 rfl (by kernel_rfl) (fun K hK => ?_)
      go_wp2
      refine hK _ _ (fun _ h => af_step h (Ext.alloc' _ _)) ?_
      clear hK K
      refine pi_l 19 rfl (by kernel_rfl) (fun K hK => ?_)
      go_wp2
      have hsz := hEa.size
      refine hK _ _ (fun _ h => ⟨⟨_, hEa.allocR _⟩, rfl⟩) ?_
      clear hK K
      refine pi_t 20 rfl (by kernel_rfl) (by kernel_rfl) (fun _ _ _ _ h => h) (fun K hK => ?_)
      go_big_quiet_op
      refine hK _ ?_
      clear hK K
      refine pi_end (by kernel_rfl) ?_
      go_wp2_with fail
      go_meet
      exact ⟨_, rfl, rfl, heap_at _ _ rfl, hEa.allocR _, hsz⟩
    · go_wp2
      refine hK _ _ (fun _ h => af_step h (Ext.alloc' _ _)) ?_
      clear hK K
      refine pi_l 14 rfl (by kernel_rfl) (fun K hK => ?_)
      skip
      go_wp2_with (go_at_call 125; refine (HDD.out _ (by (repeat' (first | exact Ext.refl _ | assumption | apply Ext.allocR | apply Ext.drewR | apply Ext.drewNR | (refine Ext.trans' ?_ (by assumption)))))).mono ?_; rintro e wa ⟨rfl, hxa⟩)
      refine hK _ _ (fun _ h => af_step h hxa) ?_
      clear hK K
      have hEa : Ext wd wa := Ext.trans' (Ext.alloc' wd _) (Ext.trans' (Below.drew (Ext.refl _)) hxa)
      have hbx : wa.heap[wd.heap.size]? = some (.cells #[.int .i64 0, .int .u64 0] 75 (0, 0)) := hxa.keep (heap_at (World.drew wd) _ rfl)
      have p0 := (cell_of hbx 0).trans rfl
      have p1 := (cell_of hbx 1).trans rfl
      have f0 := frozen_of hbx 0
      have f1 := frozen_of hbx 1
      have HBX := Lib.hid hbx
      clear hbx
      refine pi_t 15 rfl (by kernel_rfl) (by kernel_rfl) (fun _ _ _ _ h => h) (fun K hK => ?_)
      go_big_quiet_op
      refine hK _ ?_
      clear hK K
      refine pi_t 16 rfl (by kernel_rfl) (by kernel_rfl) (fun _ _ _ _ h => h) (fun K hK => ?_)
      go_big_quiet_op
      refine hK _ ?_
      clear hK K
      refine pi_t 17 rfl (by kernel_rfl) (by kernel_rfl) (fun _ _ _ _ h => h) (fun K hK => ?_)
      go_big_quiet_op
      refine hK _ ?_
      clear hK K
      refine pi_l 19 rfl (by kernel_rfl) (fun K hK => ?_)
      go_wp2
      refine hK _ _ (fun _ h => ⟨⟨_, (hEa.setR (p := ⟨wd.heap.size, 0, none⟩) (Nat.le_refl _) _).setR (p := ⟨wd.heap.size, 1, none⟩) (Nat.le_refl _) _⟩, rfl⟩) ?_
      clear hK K
      refine pi_t 20 rfl (by kernel_rfl) (by kernel_rfl) (fun _ _ _ _ h => h) (fun K hK => ?_)
      go_big_quiet_op
      refine hK _ ?_
      clear hK K
      refine pi_end (by kernel_rfl) ?_
      go_wp2_with fail
      go_meet
      exact ⟨_, rfl, rfl, set2 HBX.out _ _, (hEa.setR (p := ⟨wd.heap.size, 0, none⟩) (Nat.le_refl _) _).setR (p := ⟨wd.heap.size, 1, none⟩) (Nat.le_refl _) _, Nat.le_refl _⟩
  case rest =>
    obtain ⟨z, rfl, rfl, hz, hEc, hzz⟩ := hcut
    rename World => we
    have y0 := (cell_of hz 0).trans rfl
    have y1 := (cell_of hz 1).trans rfl
    have zl := lt_of hz
    obtain ⟨z0, z1, f0, f1, zl0⟩ := zbox3 HZ0.out (HED.out.trans' hEc)
    have hEf := HE0.out.trans' (HED.out.trans' hEc)
    clear p0' pl' al' a6' q0' ql' bl' b6' hz
    cases ok
    · obtain ⟨rfl, rfl⟩ := HOK0.out rfl
      go_wp2
      refine bodyPost_ret (v := .tuple #[.agg #[.int .i64 0, .int .u64 0], .int .i64 4]) (by simp [results, Tryz.results46, go_sem, *]) rfl ⟨rfl, ?_⟩
      exact (hEf.setR (p := ⟨w.heap.size, 0, none⟩) (Nat.le_refl _) _).setR (p := ⟨w.heap.size, 1, none⟩) (Nat.le_refl _) _
    · go_wp2
      refine bodyPost_ret (v := .tuple #[.agg #[.int .i64 rh, .int .u64 rl], .int .i64 0]) (by simp [results, Tryz.results46, go_sem, *]) rfl ⟨rfl, ?_⟩
      exact (hEf.setR (p := ⟨w.heap.size, 0, none⟩) (Nat.le_refl _) _).setR (p := ⟨w.heap.size, 1, none⟩) (Nat.le_refl _) _
theorem RLInner_c (L L2 : RLev) (C : Cfg) (lv : Int) (l m : List Int) (w : World) (h : RLvAt w L C lv l) (h2 : RLvAt w L2 C lv m) :
    Calls Tryz.prog 46 #[.pointer (some ⟨L.p, 0, none⟩), .pointer (some ⟨L2.p, 0, none⟩)] w fun e w' => e = .returned (.tuple #[.agg #[.int .i64 (inV C lv l m).1, .int .u64 (inV C lv l m).2.1], .int .i64 (inV C lv l m).2.2]) ∧ Ext w w' := by
  by_cases hm : C.mode = 1
  · cases hx : isX C lv with
    | false =>
      refine RLInner_s L L2 C lv l m w h h2 hx _ _ _ (fun W' hE => ?_)
      rw [← innV_eq hm]
      have e : lvInn C lv l m = innF l m (wN C) (rN C) := by unfold lvInn; rw [hx]; rfl
      rw [e]
      exact RInner_c _ _ _ _ C lv _ _ l m W' ((h.ext hE).sk hx).2 ((h2.ext hE).sk hx).2 hm
    | true =>
      have e : lvInn C lv l m = dotF l m (kN C lv) := by unfold lvInn; rw [hx]; rfl
      have hA := (h.x hx).2
      have hA2 := (h2.x hx).2
      have hk2 := hA.k2
      have hv : inV C lv l m = (match dotF l m (kN C lv) with | some s => (hi s, lo s, 0) | none => (0, 0, 4)) := by unfold inV; rw [if_pos hm, e] <;> rfl
      have hD : ∀ W', Ext w W' → ∀ v1 v2, IntsAt W' v1 l → IntsAt W' v2 m → Calls Tryz.prog 125 #[v1, v2] W' fun e w' => e = .returned (dotV (dotF l m (kN C lv))) ∧ Ext W' w' := fun W' _ v1 v2 h1 h2 => by
        have := RefDot_c l m v1 v2 W' hA.fit hA2.fit (by rw [hA.len, hA2.len]) (by rw [hA.len]; omega) h1 h2
        rw [hA.len] at this
        exact this
      rw [hv]
      cases hd : dotF l m (kN C lv) with
      | none => rw [hd] at hD; exact RLInner_x1 L L2 C lv l m w h h2 hx hm 0 0 false (fun _ => ⟨rfl, rfl⟩) hD
      | some s => rw [hd] at hD; exact RLInner_x1 L L2 C lv l m w h h2 hx hm (hi s) (lo s) true (fun h => by cases h) hD
  · rw [inV_mode hm]
    cases hx : isX C lv with
    | true => exact RLInner_xm L L2 C lv l m w h h2 hx hm
    | false => exact RLInner_s L L2 C lv l m w h h2 hx 0 0 3 (fun W' hE => RInner_mode _ _ _ _ C lv _ _ l m W' ((h.ext hE).sk hx).2 ((h2.ext hE).sk hx).2 hm)
theorem LInnerAny_c (C : Cfg) (lv : Int) (L L2 : Lev) (l m : List Int) (w : World) (h : LvAt w L C lv l) (h2 : LvAt w L2 C lv m) :
    Calls Tryz.prog 45 #[lvV C lv L, lvV C lv L2] w fun e w' => e = .returned (.tuple #[.agg #[.int .i64 (inV C lv l m).1, .int .u64 (inV C lv l m).2.1], .int .i64 (inV C lv l m).2.2]) ∧ Ext w w' := by
  by_cases hm : C.mode = 1
  · rw [← innV_eq hm]; exact LInner_c C lv L L2 l m w h h2 hm
  · rw [inV_mode hm]; exact LInner_mode C lv L L2 l m w h h2 hm
end Go.Proofs.YtfhdjekpdifajaaGreat
namespace Go.Proofs.YtfhdjekpdifajaaGreat
set_option linter.unusedVariables false
open Go.RowKit
def lF (L : Lev) (k : Nat) : Prop := k = L.s ∨ k = L.b ∨ k = L.c
theorem LvAt.own {w : World} {L : Lev} {C : Cfg} {lv : Int} {l : List Int} (h : LvAt w L C lv l) : Own (lF L) (fun w => LvAt w L C lv l) w :=
  ⟨h, fun w w' h hk => h.keep (hk _ (.inl rfl)) (hk _ (.inr (.inl rfl))) (hk _ (.inr (.inr rfl))), fun k hk => by
    rcases hk with rfl | rfl | rfl
    · exact h.lts
    · exact h.ltb
    · exact h.ltc⟩
/-- What an update leaves of a level. -/
def nextL (C : Cfg) (lv : Int) (l : List Int) (key d : Int) : List Int := if lvE C lv l key d = 0 then lvU C lv l key d else l
noncomputable def subLE (C : Cfg) (l m : List Int) : Int := if C.mode = 2 then 3 else jE (minusL l m)
noncomputable def subLL (C : Cfg) (l m : List Int) : List Int := if C.mode = 2 then l else jL (minusL l m) l
section
variable {N : Nat} {w w' : World} {F1 F2 F3 F4 : Nat → Prop} {P1 P2 P3 P4 : World → Prop} {C : Cfg} {lv : Int} {L L2 : Lev} {M M2 : RLev} {l l' m m' : List Int}
theorem p_upd (h : Own4 N w (lF L) F2 F3 F4 (fun w => LvAt w L C lv l) P2 P3 P4) (key d : Int) (hk : U64 key) (hd : I64 d) :
    Calls Tryz.prog (lvF C lv 285 253) #[.pointer (some ⟨L.s, 0, none⟩), .int .u64 key, .int .i64 d] w fun e w' => e = .returned (.int .i64 (lvE C lv l key d)) ∧ Own4 N w' (lF L) F2 F3 F4 (fun w => LvAt w L C lv (nextL C lv l key d)) P2 P3 P4 ∧ Below N w w' := by
  refine (LUpdate_c C lv L l key d w h.o1.h hd hk).mono ?_
  unfold nextL
  rintro e w' ⟨rfl, (⟨h0, hK, hM⟩ | ⟨h0, hE⟩)⟩
  · rw [if_pos h0]
    have hS : ∀ k, k = L.c → lF L k := fun k hk => .inr (.inr hk)
    exact ⟨rfl, h.step hM hS hK.own (fun k hk => .inl hk), h.low hM hS⟩
  · rw [if_neg h0]
    exact ⟨rfl, h.ext hE, h.low (hE.mod (fun _ => False)) (fun k hk => hk.elim)⟩
theorem p_rupd (h : Own4 N w F1 F2 (M.foot C lv) F4 P1 P2 (fun w => RLvAt w M C lv l') P4) (key d : Int) (hk : U64 key) (hd : I64 d) :
    Calls Tryz.prog 40 #[.pointer (some ⟨M.p, 0, none⟩), .int .u64 key, .int .i64 d] w fun e w' => e = .returned (.int .i64 (lvE C lv l' key d)) ∧ Own4 N w' F1 F2 (M.foot C lv) F4 P1 P2 (fun w => RLvAt w M C lv (nextL C lv l' key d)) P4 ∧ Below N w w' := by
  refine (RLUpdate_c M C lv l' key d w h.o3.h hk hd).mono ?_
  unfold nextL
  rintro e w' ⟨rfl, (⟨h0, hK, hM⟩ | ⟨h0, hE⟩)⟩
  · rw [if_pos h0]
    exact ⟨rfl, (h.rot.step hM (fun k hk => hk) hK.own (fun k hk => .inl hk)).rot, h.rot.low hM (fun k hk => hk)⟩
  · rw [if_neg h0]
    exact ⟨rfl, h.ext hE, h.low (hE.mod (fun _ => False)) (fun k hk => hk.elim)⟩
theorem p_merge (h : Own4 N w (lF L) F2 F3 F4 (fun w => LvAt w L C lv l) P2 P3 P4) (h2 : LvAt w L2 C lv m) :
    Calls Tryz.prog 41 #[lvV C lv L, lvV C lv L2] w fun e w' => e = .returned (.int .i64 (jE (plusL l m))) ∧ Own4 N w' (lF L) F2 F3 F4 (fun w => LvAt w L C lv (jL (plusL l m) l)) P2 P3 P4 ∧ Below N w w' := by
  refine (LMerge_c C lv L L2 l m w h.o1.h h2).mono ?_
  have hS : ∀ k, k = L.c → lF L k := fun k hk => .inr (.inr hk)
  rintro e w' (⟨ha, rfl, hK, hM⟩ | ⟨ha, rfl, hE⟩)
  · rw [jE_yes ha, jL_yes ha]
    exact ⟨rfl, h.step hM hS hK.own (fun k hk => .inl hk), h.low hM hS⟩
  · rw [jE_no ha, jL_no ha]
    exact ⟨rfl, h.ext hE, h.low (hE.mod (fun _ => False)) (fun k hk => hk.elim)⟩
theorem p_sub (h : Own4 N w (lF L) F2 F3 F4 (fun w => LvAt w L C lv l) P2 P3 P4) (h2 : LvAt w L2 C lv m) :
    Calls Tryz.prog 43 #[lvV C lv L, lvV C lv L2] w fun e w' => e = .returned (.int .i64 (subLE C l m)) ∧ Own4 N w' (lF L) F2 F3 F4 (fun w => LvAt w L C lv (subLL C l m)) P2 P3 P4 ∧ Below N w w' := by
  have hS : ∀ k, k = L.c → lF L k := fun k hk => .inr (.inr hk)
  unfold subLE subLL
  by_cases hmd : C.mode = 2
  · rw [if_pos hmd, if_pos hmd]
    refine (LSubtract_mode C lv L L2 l m w h.o1.h h2 hmd).mono ?_
    rintro e w' ⟨rfl, hE⟩
    exact ⟨rfl, h.ext hE, h.low (hE.mod (fun _ => False)) (fun k hk => hk.elim)⟩
  · rw [if_neg hmd, if_neg hmd]
    refine (LSubtract_c C lv L L2 l m w h.o1.h h2 hmd).mono ?_
    rintro e w' (⟨ha, rfl, hK, hM⟩ | ⟨ha, rfl, hE⟩)
    · rw [jE_yes ha, jL_yes ha]
      exact ⟨rfl, h.step hM hS hK.own (fun k hk => .inl hk), h.low hM hS⟩
    · rw [jE_no ha, jL_no ha]
      exact ⟨rfl, h.ext hE, h.low (hE.mod (fun _ => False)) (fun k hk => hk.elim)⟩
theorem p_rjoin (h : Own4 N w F1 F2 (M.foot C lv) F4 P1 P2 (fun w => RLvAt w M C lv l') P4) (h2 : RLvAt w M2 C lv m') :
    Calls Tryz.prog 42 #[.pointer (some ⟨M.p, 0, none⟩), .pointer (some ⟨M2.p, 0, none⟩), .int .i64 1] w fun e w' => ∃ M' : RLev, M'.p = M.p ∧ e = .returned (.int .i64 (jE (plusL l' m'))) ∧ Own4 N w' F1 F2 (M'.foot C lv) F4 P1 P2 (fun w => RLvAt w M' C lv (jL (plusL l' m') l')) P4 ∧ Below N w w' := by
  refine (RLJoinPlus_c M M2 C lv l' m' w h.o3.h h2 (fun h => absurd h (by decide))).mono ?_
  rintro e w' (⟨ha, rfl, K, hp, hK, hF, hM⟩ | ⟨ha, rfl, hE⟩)
  · rw [jE_yes ha, jL_yes ha]
    exact ⟨K, hp, rfl, (h.rot.step hM (fun k hk => hk) hK.own hF).rot, h.rot.low hM (fun k hk => hk)⟩
  · rw [jE_no ha, jL_no ha]
    exact ⟨M, rfl, rfl, h.ext hE, h.low (hE.mod (fun _ => False)) (fun k hk => hk.elim)⟩
theorem p_rsub (h : Own4 N w F1 F2 (M.foot C lv) F4 P1 P2 (fun w => RLvAt w M C lv l') P4) (h2 : RLvAt w M2 C lv m') :
    Calls Tryz.prog 42 #[.pointer (some ⟨M.p, 0, none⟩), .pointer (some ⟨M2.p, 0, none⟩), .int .i64 (-1)] w fun e w' => ∃ M' : RLev, M'.p = M.p ∧ e = .returned (.int .i64 (subLE C l' m')) ∧ Own4 N w' F1 F2 (M'.foot C lv) F4 P1 P2 (fun w => RLvAt w M' C lv (subLL C l' m')) P4 ∧ Below N w w' := by
  unfold subLE subLL
  by_cases hmd : C.mode = 2
  · rw [if_pos hmd, if_pos hmd]
    refine (RLJoin_mode M M2 C lv l' m' w h.o3.h h2 hmd).mono ?_
    rintro e w' ⟨rfl, hE⟩
    exact ⟨M, rfl, rfl, h.ext hE, h.low (hE.mod (fun _ => False)) (fun k hk => hk.elim)⟩
  · rw [if_neg hmd, if_neg hmd]
    refine (RLJoinMinus_c M M2 C lv l' m' w h.o3.h h2 (fun _ => hmd)).mono ?_
    rintro e w' (⟨ha, rfl, K, hp, hK, hF, hM⟩ | ⟨ha, rfl, hE⟩)
    · rw [jE_yes ha, jL_yes ha]
      exact ⟨K, hp, rfl, (h.rot.step hM (fun k hk => hk) hK.own hF).rot, h.rot.low hM (fun k hk => hk)⟩
    · rw [jE_no ha, jL_no ha]
      exact ⟨M, rfl, rfl, h.ext hE, h.low (hE.mod (fun _ => False)) (fun k hk => hk.elim)⟩
theorem p_copy (h : Own4 N w F1 F2 F3 F4 P1 P2 P3 P4) (h2 : LvAt w L2 C lv m) :
    Calls Tryz.prog 44 #[lvV C lv L2] w fun e w' => ∃ L' : Lev, e = .returned (lvV C lv L') ∧ Own4 N w' (lF L') F2 F3 F4 (fun w => LvAt w L' C lv m) P2 P3 P4 ∧ Ext w w' := by
  refine (LCopy_c C lv L2 m w h2).mono ?_
  rintro e w' ⟨L', rfl, hK, h1, h2, h3, hE⟩
  refine ⟨L', rfl, h.step (hE.mod (fun _ => False)) (fun k hk => hk.elim) hK.own (fun k hk => .inr ?_), hE⟩
  rcases hk with rfl | rfl | rfl
  · exact h1
  · exact h2
  · exact h3
theorem p_rcopy (h : Own4 N w F1 F2 F3 F4 P1 P2 P3 P4) (h2 : RLvAt w M2 C lv m') :
    Calls Tryz.prog 39 #[.pointer (some ⟨M2.p, 0, none⟩)] w fun e w' => ∃ M' : RLev, e = .returned (.pointer (some ⟨M'.p, 0, none⟩)) ∧ Own4 N w' F1 F2 (M'.foot C lv) F4 P1 P2 (fun w => RLvAt w M' C lv m') P4 ∧ Ext w w' := by
  refine (RLCopy_c M2 C lv m' w h2).mono ?_
  rintro e w' ⟨M', rfl, hK, hF, hE⟩
  exact ⟨M', rfl, (h.rot.step (hE.mod (fun _ => False)) (fun k hk => hk.elim) hK.own (fun k hk => .inr (hF k hk))).rot, hE⟩
theorem p_load (h : Own4 N w (lF L) F2 F3 F4 (fun w => LvAt w L C lv l) P2 P3 P4) (m : List Int) (v : Value) (hv : IntsAt w v m) (hI : allI m) (hl : m.length = lvN C lv) (hne : ∀ g off n cap, v = .slice (some ⟨g, off, none⟩) n cap → g ≠ L.c) :
    Calls Tryz.prog (lvF C lv 283 251) #[.pointer (some ⟨L.s, 0, none⟩), v] w fun e w' => e = .returned (.bool true) ∧ Own4 N w' (lF L) F2 F3 F4 (fun w => LvAt w L C lv m) P2 P3 P4 ∧ Below N w w' := by
  refine (LLoad_c C lv L l m v w h.o1.h hv hI hl hne).mono ?_
  have hS : ∀ k, k = L.c → lF L k := fun k hk => .inr (.inr hk)
  rintro e w' ⟨rfl, hK, hM⟩
  exact ⟨rfl, h.step hM hS hK.own (fun k hk => .inl hk), h.low hM hS⟩
theorem p_rload (h : Own4 N w F1 F2 (M.foot C lv) F4 P1 P2 (fun w => RLvAt w M C lv l') P4) (m : List Int) (v : Value) (hv : IntsAt w v m) (hI : allI m) (hl : m.length = lvN C lv) (hne : ∀ g off n cap, v = .slice (some ⟨g, off, none⟩) n cap → ¬ M.foot C lv g) :
    Calls Tryz.prog 25 #[.pointer (some ⟨M.p, 0, none⟩), v] w fun e w' => ∃ M' : RLev, M'.p = M.p ∧ e = .returned (.tuple #[]) ∧ Own4 N w' F1 F2 (M'.foot C lv) F4 P1 P2 (fun w => RLvAt w M' C lv m) P4 ∧ Below N w w' := by
  refine (RLLoad_c M C lv l' m v w h.o3.h hv hl hI hne).mono ?_
  rintro e w' ⟨rfl, K, hp, hK, hF, hM⟩
  exact ⟨K, hp, rfl, (h.rot.step hM (fun k hk => hk) hK.own hF).rot, h.rot.low hM (fun k hk => hk)⟩
end
/-- Two and two levels that have the same cells. -/
def S4L (N : Nat) (w : World) (C : Cfg) (lv : Int) (v1 v2 v3 v4 : Value) : Prop :=
  ∃ L L2 M M2 l m, v1 = .iface (lvT C lv) (.pointer (some ⟨L.s, 0, none⟩)) ∧ v2 = .iface (lvT C lv) (.pointer (some ⟨L2.s, 0, none⟩)) ∧ v3 = .pointer (some ⟨RLev.p M, 0, none⟩) ∧ v4 = .pointer (some ⟨RLev.p M2, 0, none⟩) ∧
    Own4 N w (lF L) (lF L2) (M.foot C lv) (M2.foot C lv) (fun w => LvAt w L C lv l) (fun w => LvAt w L2 C lv m) (fun w => RLvAt w M C lv l) (fun w => RLvAt w M2 C lv m)
theorem S4L.mk {N : Nat} {w : World} {C : Cfg} {lv : Int} {L L2 : Lev} {M M2 : RLev} {l m : List Int} (h : Own4 N w (lF L) (lF L2) (M.foot C lv) (M2.foot C lv) (fun w => LvAt w L C lv l) (fun w => LvAt w L2 C lv m) (fun w => RLvAt w M C lv l) (fun w => RLvAt w M2 C lv m)) {p3 p4 : Nat} (h3 : M.p = p3) (h4 : M2.p = p4) :
    S4L N w C lv (.iface (lvT C lv) (.pointer (some ⟨L.s, 0, none⟩))) (.iface (lvT C lv) (.pointer (some ⟨L2.s, 0, none⟩))) (.pointer (some ⟨p3, 0, none⟩)) (.pointer (some ⟨p4, 0, none⟩)) := ⟨L, L2, M, M2, l, m, rfl, rfl, by rw [h3], by rw [h4], h⟩
end Go.Proofs.YtfhdjekpdifajaaGreat
namespace Go.Proofs.YtfhdjekpdifajaaGreat
set_option linter.unusedVariables false
open Go.RowKit
inductive LvNo (C : Cfg) (lv : Int) : Prop
  | cfg (h : okB C = false)
  | low (h : okB C = true) (h1 : lv < 0)
  | high (h : okB C = true) (h0 : 0 ≤ lv) (h1 : C.bits < lv)
set_option maxRecDepth 20000 in
set_option maxHeartbeats 1000000 in
theorem KeysP_no (c : Cfg) (hs : U64 c.seed) (l : Int) (h : LvNo c l) (w : World) :
    Calls Tryz.prog 88 #[.agg #[.int .i64 c.bits, .int .i64 c.rows, .int .i64 c.width, .int .i64 c.mode, .int .u64 c.seed], .int .i64 l] w fun e w' => e = .returned (.int .u64 0) ∧ Ext w w' := by
  cases h with
  | high h h0 h1 => exact Keys_no c (okB_ok h hs) l h0 h1 w
  | cfg h =>
    go_enter Tryz.func88, Tryz.ntmps88
    go_wp2_with fail
    refine (Right_no c h _).mono ?_
    rintro e w1 ⟨rfl, hb⟩
    have hc := bcell hb
    go_wp2
    go_ret
    refine ⟨rfl, ?_⟩
    (repeat' (first | exact Ext.refl _ | assumption | apply Ext.allocR | apply Ext.drewR | apply Ext.drewNR | (refine Ext.trans' ?_ (by assumption))))
  | low h h1 =>
    have hO := okB_ok h hs
    have g1 : decide (l < 0) = true := by simp; omega
    have H := Lib.hid hO
    clear h hO
    go_enter Tryz.func88, Tryz.ntmps88
    go_wp2_with fail
    refine (Right_c c H.out _).mono ?_
    rintro e w1 ⟨rfl, hb⟩
    have hc := bcell hb
    go_wp2
    go_ret
    refine ⟨rfl, ?_⟩
    (repeat' (first | exact Ext.refl _ | assumption | apply Ext.allocR | apply Ext.drewR | apply Ext.drewNR | (refine Ext.trans' ?_ (by assumption))))
set_option maxRecDepth 20000 in
set_option maxHeartbeats 1000000 in
theorem Exact_no (C : Cfg) (hs : U64 C.seed) (lv : Int) (h : LvNo C lv) (w : World) :
    Calls Tryz.prog 97 #[.agg #[.int .i64 C.bits, .int .i64 C.rows, .int .i64 C.width, .int .i64 C.mode, .int .u64 C.seed], .int .i64 lv] w fun e w' => e = .returned (.bool false) ∧ Ext w w' := by
  go_enter Tryz.func97, Tryz.ntmps97
  go_wp2_with fail
  refine (KeysP_no C hs lv h _).mono ?_
  rintro e w1 ⟨rfl, hb⟩
  go_wp2
  go_ret
  exact ⟨rfl, by (repeat' (first | exact Ext.refl _ | assumption | apply Ext.allocR | apply Ext.drewR | apply Ext.drewNR | (refine Ext.trans' ?_ (by assumption))))⟩
set_option maxHeartbeats 1000000 in
theorem SNew_nor (C : Cfg) (hs : U64 C.seed) (lv : Int) (h : LvNo C lv) (w : World) :
    Calls Tryz.prog 99 #[.agg #[.int .i64 C.bits, .int .i64 C.rows, .int .i64 C.width, .int .i64 C.mode, .int .u64 C.seed], .int .i64 lv] w fun e w' => e = .returned (.tuple #[.pointer none, .int .i64 1]) ∧ Ext w w' := by
  go_enter Tryz.func99, Tryz.ntmps99
  go_wp2_with fail
  refine (KeysP_no C hs lv h _).mono ?_
  rintro e w1 ⟨rfl, hb⟩
  go_wp2
  go_ret2
  refine ⟨rfl, ?_⟩
  (repeat' (first | exact Ext.refl _ | assumption | apply Ext.allocR | apply Ext.drewR | apply Ext.drewNR | (refine Ext.trans' ?_ (by assumption))))
set_option maxRecDepth 20000 in
set_option maxHeartbeats 2000000 in
theorem LNew_no (C : Cfg) (hs : U64 C.seed) (lv : Int) (h : LvNo C lv) (w : World) :
    Calls Tryz.prog 36 #[.agg #[.int .i64 C.bits, .int .i64 C.rows, .int .i64 C.width, .int .i64 C.mode, .int .u64 C.seed], .int .i64 lv] w fun e w' => e = .returned (.tuple #[.nilIface, .int .i64 1]) ∧ Ext w w' := by
  go_enter Tryz.func36, Tryz.ntmps36
  go_wp2_with fail
  refine (Exact_no C hs lv h _).mono ?_
  rintro e w1 ⟨rfl, hb⟩
  have hE : Ext w w1 := by (repeat' (first | exact Ext.refl _ | assumption | apply Ext.allocR | apply Ext.drewR | apply Ext.drewNR | (refine Ext.trans' ?_ (by assumption))))
  have hC := (CfgAt.box (w := w) C 24 rfl).ext hb
  have d0 := hC.c0
  have d1 := hC.c1
  have d2 := hC.c2
  have d3 := hC.c3
  have d4 := hC.c4
  have cl := hC.lt
  clear hb hC
  go_wp2_with fail
  refine (SNew_nor C hs lv h _).mono ?_
  rintro e w2 ⟨rfl, hx2⟩
  go_wp2
  go_ret2
  exact ⟨rfl, by (repeat' (first | exact Ext.refl _ | assumption | apply Ext.allocR | apply Ext.drewR | apply Ext.drewNR | (refine Ext.trans' ?_ (by assumption))))⟩
end Go.Proofs.YtfhdjekpdifajaaGreat
namespace Go.Proofs.YtfhdjekpdifajaaGreat
set_option linter.unusedVariables false
open Go.RowKit
theorem wbox {w0 wx : World} {b : Nat} {x y : Value} (h : w0.heap[b]? = some (.cells #[x, y] 75 (0, 0))) (hE : Ext w0 wx) :
    wx.cell? ⟨b, 0, none⟩ = some x ∧ wx.cell? ⟨b, 1, none⟩ = some y ∧ b < wx.heap.size :=
  have h' := hE.keep h
  ⟨(cell_of h' 0).trans rfl, (cell_of h' 1).trans rfl, lt_of h'⟩
end Go.Proofs.YtfhdjekpdifajaaGreat
namespace Go.Proofs.YtfhdjekpdifajaaGreat
set_option linter.unusedVariables false
open Go.RowKit
def E0 : Cfg := ⟨2, 2, 2, 1, 0⟩
theorem E0_ok : E0.Ok := by constructor <;> simp [E0, U64]
theorem E0_x0 : isX E0 0 = false := by unfold isX keys E0; decide
theorem E0_x1 : isX E0 1 = true := by unfold isX keys E0; decide
theorem E0_no : LvNo E0 3 := .high (okB_true E0_ok) (by decide) (by decide)
theorem E0_k1 : kN E0 1 = 2 := by unfold kN keys E0; decide
theorem E0_e : errX E0 1 (zs 2) 1 5 = 0 := by unfold errX keys E0; decide
theorem E0_u : updX (zs 2) 1 5 = [0, 5] := by decide
theorem E0_in : lvInn E0 1 [0, 5] [0, 5] = some 25 := by unfold lvInn; rw [E0_x1, E0_k1]; decide
theorem V25 : innV (some 25) = .tuple #[.agg #[.int .i64 0, .int .u64 25], .int .i64 0] := rfl
theorem Of25 (w : World) : Calls Tryz.prog 96 #[.int .i64 25] w fun e w' => e = .returned (.agg #[.int .i64 0, .int .u64 25]) ∧ Ext w w' := Of_c 25 (by unfold I64; omega) w
theorem E0_parts : PartsAt E0 1 E0 0 := .p5 rfl rfl rfl rfl rfl rfl
theorem aft_mod {c : Nat} {W w w' : World} (h : ∃ x : Aft c W, w = x.w) (hm : Mod (fun i => i = c) w w') : ∃ x : Aft c W, w' = x.w := by
  obtain ⟨x, rfl⟩ := h
  exact ⟨⟨_, x.h.trans hm⟩, rfl⟩
theorem E0_all : allI (plusL [0, 5] [0, 5]) := by
  have h : plusL [0, 5] [0, 5] = [0, 10] := by decide
  rw [h]
  intro x hx
  simp only [List.mem_cons, List.not_mem_nil, or_false] at hx
  unfold I64; omega
set_option maxRecDepth 20000 in
set_option maxHeartbeats 4000000 in
theorem shown13_c (w : World) : Calls Tryz.prog 35 #[] w fun e w' => e = .returned (.bool true) ∧ Ext w w' := by
  go_enter Tryz.func35, Tryz.ntmps35
  go_wp2_with fail
  have hCb : CfgAt (w.alloc (.cells #[.int .i64 2, .int .i64 2, .int .i64 2, .int .i64 1, .int .u64 0] 24)) w.heap.size E0 := CfgAt.box E0 _ rfl
  have hE0 : Ext w (w.alloc (.cells #[.int .i64 2, .int .i64 2, .int .i64 2, .int .i64 1, .int .u64 0] 24)) := Ext.alloc' _ _
  generalize w.alloc (.cells #[.int .i64 2, .int .i64 2, .int .i64 2, .int .i64 1, .int .u64 0] 24) = w0 at *
  refine (LNew_c E0 E0_ok 0 (by decide) (by decide) _).mono ?_
  rintro e w1 ⟨L, rfl, hL, _, _, _, hx1⟩
  rw [lvV_s E0_x0]
  have hE1 : Ext w0 w1 := by (repeat' (first | exact Ext.refl _ | assumption | apply Ext.allocR | apply Ext.drewR | apply Ext.drewNR | (refine Ext.trans' ?_ (by assumption))))
  have hC1 := hCb.ext hE1
  have d0 : w1.cell? ⟨w.heap.size, 0, none⟩ = some (.int .i64 2) := hC1.c0
  have d1 : w1.cell? ⟨w.heap.size, 1, none⟩ = some (.int .i64 2) := hC1.c1
  have d2 : w1.cell? ⟨w.heap.size, 2, none⟩ = some (.int .i64 2) := hC1.c2
  have d3 : w1.cell? ⟨w.heap.size, 3, none⟩ = some (.int .i64 1) := hC1.c3
  have d4 : w1.cell? ⟨w.heap.size, 4, none⟩ = some (.int .u64 0) := hC1.c4
  have dl := hC1.lt
  clear hx1 hC1
  go_wp2_with fail
  refine (LNew_c E0 E0_ok 1 (by decide) (by decide) _).mono ?_
  rintro e w2 ⟨M, rfl, hM, hMs, hMb, hMc, hx2⟩
  rw [lvV_x E0_x1]
  have hE2 : Ext w1 w2 := by (repeat' (first | exact Ext.refl _ | assumption | apply Ext.allocR | apply Ext.drewR | apply Ext.drewNR | (refine Ext.trans' ?_ (by assumption))))
  have hC2 := hCb.ext (hE1.trans' hE2)
  clear d0 d1 d2 d3 d4 dl hx2
  have d0 : w2.cell? ⟨w.heap.size, 0, none⟩ = some (.int .i64 2) := hC2.c0
  have d1 : w2.cell? ⟨w.heap.size, 1, none⟩ = some (.int .i64 2) := hC2.c1
  have d2 : w2.cell? ⟨w.heap.size, 2, none⟩ = some (.int .i64 2) := hC2.c2
  have d3 : w2.cell? ⟨w.heap.size, 3, none⟩ = some (.int .i64 1) := hC2.c3
  have d4 : w2.cell? ⟨w.heap.size, 4, none⟩ = some (.int .u64 0) := hC2.c4
  have dl := hC2.lt
  clear hC2
  have hMc' : w.heap.size ≤ M.c := Nat.le_trans (Nat.le_trans hE0.size hE1.size) hMc
  clear hMs hMb
  have HM := Lib.hid (hM.x E0_x1)
  have HMc := Lib.hid hM.isc
  have HL := Lib.hid (hL.ext hE2)
  have hLlt := (hL.ext hE2).ltc
  have hLc := hL.ltc
  clear hM hL
  rw [E0_k1] at HM
  go_wp2_with fail
  refine (LNew_no E0 E0_ok.s 3 E0_no _).mono ?_
  rintro e w3 ⟨rfl, hx3⟩
  have hE3 : Ext w2 w3 := by (repeat' (first | exact Ext.refl _ | assumption | apply Ext.allocR | apply Ext.drewR | apply Ext.drewNR | (refine Ext.trans' ?_ (by assumption))))
  clear hx3 d0 d1 d2 d3 d4 dl
  go_wp2_with fail
  refine (AsSketch_s _ _).mono ?_
  rintro e w4 ⟨rfl, rfl⟩
  go_wp2_with fail
  refine (AsSketch_x _ _).mono ?_
  rintro e w4 ⟨rfl, rfl⟩
  go_wp2_with fail
  refine (MustSketch_s _ _).mono ?_
  rintro e w4 ⟨rfl, rfl⟩
  go_wp2_with fail
  have hz := HM.out
  have hl0 : lvN E0 1 = 2 := by unfold lvN; rw [E0_x1]; exact E0_k1
  rw [hl0] at hz
  refine Calls.mono (EUpdate_c _ _ _ E0 1 2 (zs 2) 1 5 _ (hz.ext hE3) (by unfold I64; omega) (by unfold U64; omega)) ?_
  rintro e w4 ⟨rfl, hres⟩
  rw [E0_e] at hres ⊢
  obtain ⟨_, hM4, hm4⟩ := hres.resolve_right (fun h => h.1 rfl)
  rw [E0_u] at hM4
  have hL4 : LvAt w4 L E0 0 (zs (lvN E0 0)) := (HL.out.ext hE3).mod hm4 (fun k hk _ => by obtain ⟨cur, hc⟩ := HMc.out; exact ⟨cur, by rw [hk]; exact hE3.keep hc⟩) (by show ¬ L.c = M.c; omega)
  have hE3' : Ext w w3 := hE0.trans' (hE1.trans' (hE2.trans' hE3))
  have hE4 : Ext w w4 := Below.trans hE3' (hm4.below (B := w.heap.size) hE3'.size (fun k hk => by rw [hk]; exact hMc'))
  have hLM : LvAt w4 M E0 1 [0, 5] := .inl ⟨E0_x1, by rw [E0_k1]; exact hM4⟩
  clear hz hm4 hE3 HM HL
  have HLM := Lib.hid hLM
  have HL4 := Lib.hid hL4
  clear hLM hL4 hM4
  go_wp2_with fail
  have hI := LInner_c E0 1 M M [0, 5] [0, 5] w4 HLM.out HLM.out rfl
  rw [E0_in, V25, lvV_x E0_x1] at hI
  refine Calls.mono hI ?_
  rintro e w5 ⟨rfl, hx5⟩
  have hw5 := hE4.trans' hx5
  have hLM5 := Lib.hid (HLM.out.ext hx5)
  have hL5 := Lib.hid (HL4.out.ext hx5)
  clear hI HLM HL4 hx5 hE0 hE1 hE2 hE4 hE3'
  go_upto_region 12 with (fail)
  have hnb := heap_at w5 (.cells #[.int .i64 0, .int .u64 25] 75) rfl
  have hE6 : Ext w5 (w5.alloc (.cells #[.int .i64 0, .int .u64 25] 75)) := Ext.alloc' _ _
  generalize w5.alloc (.cells #[.int .i64 0, .int .u64 25] 75) = w6 at *
  obtain ⟨a0, a1, al⟩ := wbox hnb (Ext.refl w6)
  have hMlt := hLM5.out.ltc
  have hne : w5.heap.size ≠ M.c := by omega
  clear hMlt
  have hC0 := aft_drew M.c w6
  refine pi_start (fun w' => ∃ x : Aft M.c w6, w' = x.w) [] (by kernel_rfl) ?_
  refine pi_t 0 rfl (by kernel_rfl) (by kernel_rfl) (fun _ _ _ _ h => h) (fun K hK => ?_)
  go_big_quiet_op
  refine hK _ ?_
  clear hK K
  refine pi_t 1 rfl (by kernel_rfl) (by kernel_rfl) (fun _ _ _ _ h => h) (fun K hK => ?_)
  go_big_quiet_op
  refine hK _ ?_
  clear hK K
  refine pi_t 2 rfl (by kernel_rfl) (by kernel_rfl) (fun _ _ _ _ h => h) (fun K hK => ?_)
  go_big_quiet_op
  refine hK _ ?_
  clear hK K
  refine pi_t 3 rfl (by kernel_rfl) (by kernel_rfl) (fun _ _ _ _ h => h) (fun K hK => ?_)
  go_big_quiet_op
  refine hK _ ?_
  clear hK K
  refine pi_t 4 rfl (by kernel_rfl) (by kernel_rfl) (fun _ _ _ _ h => h) (fun K hK => ?_)
  go_big_quiet_op
  refine hK _ ?_
  clear hK K
  refine pi_t 5 rfl (by kernel_rfl) (by kernel_rfl) (fun _ _ _ _ h => h) (fun K hK => ?_)
  go_big_quiet_op
  refine hK _ ?_
  clear hK K
  refine pi_t 6 rfl (by kernel_rfl) (by kernel_rfl) (fun _ _ _ _ h => h) (fun K hK => ?_)
  go_big_quiet_op
  refine hK _ ?_
  clear hK K
  refine pi_t 7 rfl (by kernel_rfl) (by kernel_rfl) (fun _ _ _ _ h => h) (fun K hK => ?_)
  go_big_quiet_op
  refine hK _ ?_
  clear hK K
  refine pi_t 8 rfl (by kernel_rfl) (by kernel_rfl) (fun _ _ _ _ h => h) (fun K hK => ?_)
  go_big_quiet_op
  refine hK _ ?_
  clear hK K
  refine pi_t 9 rfl (by kernel_rfl) (by kernel_rfl) (fun _ _ _ _ h => h) (fun K hK => ?_)
  go_big_quiet_op
  refine hK _ ?_
  clear hK K
  refine pi_t 10 rfl (by kernel_rfl) (by kernel_rfl) (fun _ _ _ _ h => h) (fun K hK => ?_)
  go_big_quiet_op
  refine hK _ ?_
  clear hK K
  refine pi_t 11 rfl (by kernel_rfl) (by kernel_rfl) (fun _ _ _ _ h => h) (fun K hK => ?_)
  go_big_quiet_op
  refine hK _ ?_
  clear hK K
  refine pi_t 12 rfl (by kernel_rfl) (by kernel_rfl) (fun _ _ _ _ h => h) (fun K hK => ?_)
  go_big_quiet_op
  refine hK _ ?_
  clear hK K
  refine pi_t 13 rfl (by kernel_rfl) (by kernel_rfl) (fun _ _ _ _ h => h) (fun K hK => ?_)
  go_big_quiet_op
  refine hK _ ?_
  clear hK K
  refine pi_t 14 rfl (by kernel_rfl) (by kernel_rfl) (fun _ _ _ _ h => h) (fun K hK => ?_)
  go_big_quiet_op
  refine hK _ ?_
  clear hK K
  refine pi_t 15 rfl (by kernel_rfl) (by kernel_rfl) (fun _ _ _ _ h => h) (fun K hK => ?_)
  go_big_quiet_op
  refine hK _ ?_
  clear hK K
  refine pi_t 16 rfl (by kernel_rfl) (by kernel_rfl) (fun _ _ _ _ h => h) (fun K hK => ?_)
  go_big_quiet_op
  refine hK _ ?_
  clear hK K
  refine pi_t 17 rfl (by kernel_rfl) (by kernel_rfl) (fun _ _ _ _ h => h) (fun K hK => ?_)
  go_big_quiet_op
  refine hK _ ?_
  clear hK K
  refine pi_t 18 rfl (by kernel_rfl) (by kernel_rfl) (fun _ _ _ _ h => h) (fun K hK => ?_)
  go_big_quiet_op
  refine hK _ ?_
  clear hK K
  refine pi_t 19 rfl (by kernel_rfl) (by kernel_rfl) (fun _ _ _ _ h => h) (fun K hK => ?_)
  go_big_quiet_op
  refine hK _ ?_
  clear hK K
  refine pi_t 20 rfl (by kernel_rfl) (by kernel_rfl) (fun _ _ _ _ h => h) (fun K hK => ?_)
  go_big_quiet_op
  refine hK _ ?_
  clear hK K
  refine pi_t 21 rfl (by kernel_rfl) (by kernel_rfl) (fun _ _ _ _ h => h) (fun K hK => ?_)
  go_big_quiet_op
  refine hK _ ?_
  clear hK K
  refine pi_c 22 (by assumption) rfl (by kernel_rfl) (by kernel_rfl) (fun _ _ _ _ h => h) (fun K hK => ?_)
  go_big_quiet_op
  refine hK _ ?_
  clear hK K
  refine pi_l 23 rfl (by kernel_rfl) (fun K hK => ?_)
  go_wp2_with (go_at_call 96; refine (Of25 _).mono ?_; rintro e w7 ⟨rfl, hx7⟩)
  refine hK _ _ (fun _ h => aft_mod h (hx7.mod _)) ?_
  clear hK K
  refine pi_t 24 rfl (by kernel_rfl) (by kernel_rfl) (fun _ _ _ _ h => h) (fun K hK => ?_)
  go_big_quiet_op
  refine hK _ ?_
  clear hK K
  refine pi_t 25 rfl (by kernel_rfl) (by kernel_rfl) (fun _ _ _ _ h => h) (fun K hK => ?_)
  go_big_quiet_op
  refine hK _ ?_
  clear hK K
  refine pi_t 26 rfl (by kernel_rfl) (by kernel_rfl) (fun _ _ _ _ h => h) (fun K hK => ?_)
  go_big_quiet_op
  refine hK _ ?_
  clear hK K
  refine pi_t 27 rfl (by kernel_rfl) (by kernel_rfl) (fun _ _ _ _ h => h) (fun K hK => ?_)
  go_big_quiet_op
  refine hK _ ?_
  clear hK K
  refine pi_t 28 rfl (by kernel_rfl) (by kernel_rfl) (fun _ _ _ _ h => h) (fun K hK => ?_)
  go_big_quiet_op
  refine hK _ ?_
  clear hK K
  refine pi_l 29 rfl (by kernel_rfl) (fun K hK => ?_)
  have hE7 : Ext w6 w7 := by (repeat' (first | exact Ext.refl _ | assumption | apply Ext.allocR | apply Ext.drewR | apply Ext.drewNR | (refine Ext.trans' ?_ (by assumption))))
  have hno := LMerge_no E0 E0 0 1 L M (zs (lvN E0 0)) [0, 5] w7 ((hL5.out.ext hE6).ext hE7) ((hLM5.out.ext hE6).ext hE7) E0_parts
  rw [lvV_s E0_x0, lvV_x E0_x1] at hno
  go_wp2_with (go_at_call 41; refine hno.mono ?_; rintro e w8 ⟨rfl, hx8⟩)
  refine hK _ _ (fun _ h => aft_mod h (hx8.mod _)) ?_
  clear hK K hno
  refine pi_t 30 rfl (by kernel_rfl) (by kernel_rfl) (fun _ _ _ _ h => h) (fun K hK => ?_)
  go_big_quiet_op
  refine hK _ ?_
  clear hK K
  refine pi_t 31 rfl (by kernel_rfl) (by kernel_rfl) (fun _ _ _ _ h => h) (fun K hK => ?_)
  go_big_quiet_op
  refine hK _ ?_
  clear hK K
  refine pi_t 32 rfl (by kernel_rfl) (by kernel_rfl) (fun _ _ _ _ h => h) (fun K hK => ?_)
  go_big_quiet_op
  refine hK _ ?_
  clear hK K
  refine pi_t 33 rfl (by kernel_rfl) (by kernel_rfl) (fun _ _ _ _ h => h) (fun K hK => ?_)
  go_big_quiet_op
  refine hK _ ?_
  clear hK K
  refine pi_t 34 rfl (by kernel_rfl) (by kernel_rfl) (fun _ _ _ _ h => h) (fun K hK => ?_)
  go_big_quiet_op
  refine hK _ ?_
  clear hK K
  refine pi_l 35 rfl (by kernel_rfl) (fun K hK => ?_)
  have hE8 : Ext w6 w8 := hE7.trans' hx8
  have hyes := LMerge_c E0 1 M M [0, 5] [0, 5] w8 ((hLM5.out.ext hE6).ext hE8) ((hLM5.out.ext hE6).ext hE8)
  rw [lvV_x E0_x1] at hyes
  replace hyes := hyes.mono (R' := fun e w9 => e = .returned (.int .i64 0) ∧ Mod (fun k => k = M.c) w8 w9) (fun e w9 hr9 => by obtain ⟨_, hv9, _, hm9⟩ := hr9.resolve_right (fun h => h.1 E0_all); exact ⟨hv9, hm9⟩)
  go_wp2_with (go_at_call 41; refine hyes.mono ?_; rintro e w9 ⟨rfl, hm9⟩)
  refine hK _ _ (fun _ h => aft_mod h hm9) ?_
  clear hK K hyes
  refine pi_t 36 rfl (by kernel_rfl) (by kernel_rfl) (fun _ _ _ _ h => h) (fun K hK => ?_)
  go_big_quiet_op
  refine hK _ ?_
  clear hK K
  refine pi_t 37 rfl (by kernel_rfl) (by kernel_rfl) (fun _ _ _ _ h => h) (fun K hK => ?_)
  go_big_quiet_op
  refine hK _ ?_
  clear hK K
  refine pi_t 38 rfl (by kernel_rfl) (by kernel_rfl) (fun _ _ _ _ h => h) (fun K hK => ?_)
  go_big_quiet_op
  refine hK _ ?_
  clear hK K
  refine pi_end (by kernel_rfl) ?_
  go_wp2
  go_ret
  have hw8 : Ext w w8 := hw5.trans' (hE6.trans' hE8)
  exact ⟨rfl, Below.trans hw8 (hm9.below (B := w.heap.size) hw8.size (fun k hk => by rw [hk]; exact hMc'))⟩
end Go.Proofs.YtfhdjekpdifajaaGreat
namespace Go.Proofs.YtfhdjekpdifajaaGreat
set_option linter.unusedVariables false
open Go.RowKit
abbrev Opn := Int × Int × Int
def OpsAt (w : World) (v : Value) (os : List Opn) : Prop :=
  ((∃ p, v = .slice p 0 0) ∧ os = []) ∨ ∃ g off cap, v = .slice (some ⟨g, off, none⟩) os.length cap ∧ g < w.heap.size ∧
    ∀ k, k < os.length → w.cell? ⟨g, off + k * 3, none⟩ = some (.int .i64 (os.getD k (0, 0, 0)).1) ∧ w.cell? ⟨g, off + k * 3 + 1, none⟩ = some (.int .u64 (os.getD k (0, 0, 0)).2.1) ∧ w.cell? ⟨g, off + k * 3 + 2, none⟩ = some (.int .i64 (os.getD k (0, 0, 0)).2.2)
def OpsOk (os : List Opn) : Prop := ∀ u ∈ os, I64 u.1 ∧ U64 u.2.1 ∧ I64 u.2.2
theorem OpsAt.ext {w w' : World} {v : Value} {os : List Opn} (h : OpsAt w v os) (he : Ext w w') : OpsAt w' v os := by
  rcases h with h | ⟨g, off, cap, h1, h2, h3⟩
  · exact .inl h
  · exact .inr ⟨g, off, cap, h1, Nat.lt_of_lt_of_le h2 he.size, fun k hk => ⟨((bcell he).1 _ _ h2).trans (h3 k hk).1, ((bcell he).1 _ _ h2).trans (h3 k hk).2.1, ((bcell he).1 _ _ h2).trans (h3 k hk).2.2⟩⟩
theorem OpsAt.sl {w : World} {v : Value} {os : List Opn} (h : OpsAt w v os) : ∃ p c, v = .slice p os.length c := by
  rcases h with ⟨⟨p, rfl⟩, rfl⟩ | ⟨g, off, cap, rfl, _⟩
  · exact ⟨p, 0, rfl⟩
  · exact ⟨_, cap, rfl⟩
theorem OpsAt.one {w : World} {p : Option Addr} {n c : Nat} {os : List Opn} (h : OpsAt w (.slice p n c) os) {k : Nat} (hk : k < os.length) :
    ∃ g off, p = some ⟨g, off, none⟩ ∧ g < w.heap.size ∧ w.cell? ⟨g, off + k * 3, none⟩ = some (.int .i64 os[k].1) ∧ w.cell? ⟨g, off + k * 3 + 1, none⟩ = some (.int .u64 os[k].2.1) ∧ w.cell? ⟨g, off + k * 3 + 2, none⟩ = some (.int .i64 os[k].2.2) := by
  rcases h with ⟨_, rfl⟩ | ⟨g, off, cap, h1, h2, h3⟩
  · exact absurd hk (Nat.not_lt_zero _)
  · have e := Value.slice.inj h1
    have hg : os.getD k (0, 0, 0) = os[k] := by simp [hk]
    have := h3 k hk
    rw [hg] at this
    exact ⟨g, off, e.1, h2, this⟩
end Go.Proofs.YtfhdjekpdifajaaGreat
namespace Go.Proofs.YtfhdjekpdifajaaGreat
set_option linter.unusedVariables false
open Go.RowKit
def rp (L : Nat → RLev) (k : Nat) : List Value := (List.range k).map fun n => Value.pointer (some ⟨(L n).p, 0, none⟩)
theorem rp_len (L : Nat → RLev) (k : Nat) : (rp L k).length = k := by simp [rp]
theorem rp_succ (L : Nat → RLev) (k : Nat) : rp L (k + 1) = rp L k ++ [Value.pointer (some ⟨(L k).p, 0, none⟩)] := by unfold rp; rw [List.range_succ, List.map_append]; rfl
theorem rp_cong {L L' : Nat → RLev} {k : Nat} (h : ∀ n, n < k → L n = L' n) : rp L k = rp L' k := by
  unfold rp
  apply List.map_congr_left
  intro n hn
  rw [List.mem_range] at hn
  rw [h n hn]
theorem rp_get (L : Nat → RLev) {k n : Nat} (h : n < k) : (rp L k)[n]? = some (Value.pointer (some ⟨(L n).p, 0, none⟩)) := by unfold rp; rw [List.getElem?_map, List.getElem?_range h]; rfl
/-- A level's blocks are no row of levels, nor a stack. -/
theorem RLvAt.ty {w : World} {L : RLev} {C : Cfg} {lv : Int} {l : List Int} (h : RLvAt w L C lv l) {k : Nat} (hk : L.foot C lv k) {cur : Array Value} {T : TypeId} {f : Nat × Nat} (hb : w.heap[k]? = some (.cells cur T f)) : T ≠ 45 ∧ T ≠ 48 := by
  have key : ∀ (c2 : Array Value) (T2 : TypeId) (f2 : Nat × Nat), w.heap[k]? = some (.cells c2 T2 f2) → T2 ≠ 45 → T2 ≠ 48 → T ≠ 45 ∧ T ≠ 48 := fun c2 T2 f2 h2 n1 n2 => by
    rw [hb] at h2
    injection h2 with h2
    injection h2 with _ h2 _
    rw [h2]; exact ⟨n1, n2⟩
  rcases hk with rfl | ⟨hx, hk⟩ | ⟨hx, hk⟩
  · obtain ⟨_, _, _, ⟨_, h1, _⟩ | ⟨_, h1, _⟩⟩ := h <;> exact key _ _ _ h1 (by decide) (by decide)
  · obtain ⟨_, h2⟩ := h.x hx
    rcases hk with rfl | rfl
    · obtain ⟨cap, h3, _⟩ := h2.ex; exact key _ _ _ h3 (by decide) (by decide)
    · obtain ⟨cu, h3, _⟩ := h2.cells; exact key _ _ _ h3 (by decide) (by decide)
  · obtain ⟨_, h2⟩ := h.sk hx
    rcases hk with rfl | (rfl | rfl | ⟨r, hr, rfl⟩)
    · exact key _ _ _ h2.ex (by decide) (by decide)
    · obtain ⟨cap, h3, _⟩ := h2.g.ex; exact key _ _ _ h3 (by decide) (by decide)
    · obtain ⟨cap, h3, _⟩ := h2.g.row; exact key _ _ _ h3 (by decide) (by decide)
    · obtain ⟨cap, h3, _⟩ := h2.g.cells r hr; exact key _ _ _ h3 (by decide) (by decide)
/-- Some levels that have been made. -/
structure RMade (w : World) (B0 : Nat) (C : Cfg) (k : Nat) (L : Nat → RLev) (ls : Nat → List Int) (v : Value) : Prop where
  row : w.ownsRow B0 45 1 v (rp L k).length (rp L k)
  lev : ∀ n, n < k → RLvAt w (L n) C n (ls n)
  new : ∀ n, n < k → ∀ j, (L n).foot C n j → B0 ≤ j
  sep : ∀ m n, m < k → n < k → m ≠ n → Dj ((L m).foot C m) ((L n).foot C n)
theorem RMade.zero (w : World) (B0 : Nat) (C : Cfg) (L : Nat → RLev) (ls : Nat → List Int) : RMade w B0 C 0 L ls (.slice none 0 0) :=
  ⟨⟨rfl, .inl ⟨rfl, rfl⟩⟩, by intros; omega, by intros; omega, by intros; omega⟩
theorem RMade.ext {w w' : World} {B0 k : Nat} {C : Cfg} {L : Nat → RLev} {ls : Nat → List Int} {v : Value} (h : RMade w B0 C k L ls v) (he : Ext w w') : RMade w' B0 C k L ls v :=
  ⟨own_ext h.row he, fun n hn => (h.lev n hn).ext he, h.new, h.sep⟩
theorem RMade.setc {w : World} {B0 k : Nat} {C : Cfg} {L : Nat → RLev} {ls : Nat → List Int} {v : Value} (h : RMade w B0 C k L ls v) {b : Nat} (hb : b < B0) (o : Nat) (u : Value) : RMade (w.setCell ⟨b, o, none⟩ u) B0 C k L ls v :=
  ⟨own_setc h.row hb o u, fun n hn => (h.lev n hn).keep (fun j hj => setCell_other _ _ (by have := h.new n hn j hj; omega)), h.new, h.sep⟩
/-- One more. -/
theorem RMade.next {w0 w w' : World} {B0 k : Nat} {C : Cfg} {L : Nat → RLev} {ls : Nat → List Int} {v v' : Value} {M : RLev} {l : List Int} {o : Obj} (h : RMade w0 B0 C k L ls v) (he : Ext w0 w) (hB : B0 ≤ w0.heap.size) (hM : RLvAt w M C k l) (hN : ∀ j, M.foot C k j → w0.heap.size ≤ j) (hl : l = ls k)
    (hown : w'.ownsRow B0 45 1 v' (rp L k ++ [Value.pointer (some ⟨M.p, 0, none⟩)]).length (rp L k ++ [Value.pointer (some ⟨M.p, 0, none⟩)])) (hg : (w.alloc o).grownBy w' v.ownBlock) : RMade w' B0 C (k + 1) (fun n => if n = k then M else L n) ls v' := by
  subst hl
  have hw := h.ext he
  have hkeep : ∀ {n : Nat} {K : RLev} {l : List Int}, RLvAt w K C n l → RLvAt w' K C n l := fun {n K l} hK => hK.keep (fun j hj => grown_old hg (hK.lt hj) (fun e => by
    obtain ⟨cu, hc⟩ := own_type hw.row e.symm
    exact (hK.ty hj hc).1 rfl))
  refine ⟨?_, fun n hn => ?_, fun n hn j hj => ?_, fun m n hm hn hmn => ?_⟩
  · rw [rp_succ, if_pos rfl, rp_cong (L' := L) (fun i hi => if_neg (by omega))]
    exact hown
  · by_cases e : n = k
    · subst e; rw [if_pos rfl]; exact hkeep hM
    · rw [if_neg e]; exact hkeep (hw.lev n (by omega))
  · by_cases e : n = k
    · subst e; rw [if_pos rfl] at hj; exact Nat.le_trans hB (hN j hj)
    · rw [if_neg e] at hj; exact h.new n (by omega) j hj
  · by_cases e : m = k
    · subst e
      rw [if_pos rfl, if_neg (by omega)]
      intro j h1 h2
      have a := hN j h1
      have b := (h.lev n (by omega)).lt h2
      omega
    · rw [if_neg e]
      by_cases e' : n = k
      · subst e'
        rw [if_pos rfl]
        intro j h1 h2
        have a := hN j h2
        have b := (h.lev m (by omega)).lt h1
        omega
      · rw [if_neg e']; exact h.sep m n (by omega) (by omega) hmn
/-- All levels, and the stack's own block: a stack. -/
theorem RMade.stack {w : World} {s B0 B : Nat} {C : Cfg} {L : Nat → RLev} {ls : Nat → List Int} {v : Value} (h : RMade w B0 C (B + 1) L ls v) (hok : C.Ok) (hB : C.bits = B) (hs : w.heap[s]? = some (.cells #[.int .i64 C.bits, .int .i64 C.rows, .int .i64 C.width, .int .i64 C.mode, .int .u64 C.seed, v] 48 (0, 0))) :
    ∃ t, B0 ≤ t ∧ RKAt w s t C B L ls := by
  have hl := rp_len L (B + 1)
  rcases h.row.2 with ⟨_, h0⟩ | ⟨g, cap, cur, rfl, hbg, hg, hnc, hcm, hcs, htake⟩
  · rw [hl] at h0; omega
  · rw [hl] at hs hnc
    refine ⟨g, hbg, ⟨⟨cap, hs, hnc⟩, ⟨cur, hg, fun n hn => ?_⟩, fun n hn => h.lev n (by omega), fun m n hm hn => h.sep m n (by omega) (by omega), hok, hB⟩⟩
    have h1 := h.row.cells (g := g) rfl n _ (rp_get L (show n < B + 1 by omega))
    rw [show ((⟨g, 0, none⟩ : Addr).add n) = ⟨g, n, none⟩ by (simp [Addr.add]; intro e; exact e.symm), cell_of hg] at h1
    exact h1
def RKNewPost (w : World) (C : Cfg) (B : Nat) (ls : Nat → List Int) (e : Ending) (w' : World) : Prop :=
  ∃ (s t : Nat) (L : Nat → RLev), e = .returned (.pointer (some ⟨s, 0, none⟩)) ∧ RKAt w' s t C B L ls ∧ (∀ k, rkF s t C B L k → w.heap.size ≤ k) ∧ Ext w w'
theorem RMade.post {w wr : World} {s B0 B : Nat} {C : Cfg} {L : Nat → RLev} {ls : Nat → List Int} {v : Value} (h : RMade wr B0 C (B + 1) L ls v) (hok : C.Ok) (hB : C.bits = B) (hs : wr.heap[s]? = some (.cells #[.int .i64 C.bits, .int .i64 C.rows, .int .i64 C.width, .int .i64 C.mode, .int .u64 C.seed, v] 48 (0, 0))) (hsw : w.heap.size ≤ s) (hB0 : w.heap.size ≤ B0) (hE : Ext w wr) :
    RKNewPost w C B ls (.returned (.pointer (some ⟨s, 0, none⟩))) wr := by
  obtain ⟨t, ht, hK⟩ := h.stack hok hB hs
  refine ⟨s, t, L, rfl, hK, ?_, hE⟩
  rintro k (rfl | rfl | ⟨n, hn, hk⟩)
  · exact hsw
  · omega
  · exact Nat.le_trans hB0 (h.new n (by omega) k hk)
end Go.Proofs.YtfhdjekpdifajaaGreat
namespace Go.Proofs.YtfhdjekpdifajaaGreat
set_option linter.unusedVariables false
open Go.RowKit
/-- A stack in which some levels have been told of an update. -/
theorem RKAt.put {w w' : World} {s t : Nat} {C : Cfg} {B : Nat} {L : Nat → RLev} {ls : Nat → List Int} (h : RKAt w s t C B L ls) {n : Nat} (hn : n ≤ B) {l : List Int} (hm : Mod ((L n).foot C n) w w') (hl : RLvAt w' (L n) C n l) : RKAt w' s t C B L (fun m => if m = n then l else ls m) := by
  have ty : ∀ {k : Nat} {cur : Array Value} {T : TypeId} {f : Nat × Nat}, w.heap[k]? = some (.cells cur T f) → (T = 45 ∨ T = 48) → ¬ (L n).foot C n k := fun hb hT hf => by
    have := (h.lev n hn).ty hf hb
    rcases hT with rfl | rfl
    · exact this.1 rfl
    · exact this.2 rfl
  obtain ⟨cap, h1, h2⟩ := h.ex
  obtain ⟨cur, h3, h4⟩ := h.row
  refine ⟨⟨cap, hm.keep h1 (ty h1 (.inr rfl)), h2⟩, ⟨cur, hm.keep h3 (ty h3 (.inl rfl)), h4⟩, fun m hm' => ?_, h.sep, h.ok, h.hB⟩
  by_cases e : m = n
  · subst e; rw [if_pos rfl]; exact hl
  · rw [if_neg e]; exact (h.lev m hm').mod hm (fun k hk hf => h.sep m n hm' hn e k hk hf)
theorem RKAt.cong {w : World} {s t : Nat} {C : Cfg} {B : Nat} {L : Nat → RLev} {ls ls' : Nat → List Int} (h : RKAt w s t C B L ls) (he : ∀ n, n ≤ B → ls n = ls' n) : RKAt w s t C B L ls' :=
  ⟨h.ex, h.row, fun n hn => he n hn ▸ h.lev n hn, h.sep, h.ok, h.hB⟩
end Go.Proofs.YtfhdjekpdifajaaGreat
namespace Go.Proofs.YtfhdjekpdifajaaGreat
set_option linter.unusedVariables false
open Go.RowKit
attribute [local go_sem] Oper.semAt_some
/-- A slice of pieces that lies below a block. -/
def PcsAt (n₀ : Nat) (W : World) (v : Value) (ps : List (Nat × Int)) : Prop :=
  (v = .slice none 0 0 ∧ ps = []) ∨ ∃ g cap, v = .slice (some ⟨g, 0, none⟩) ps.length cap ∧ g < n₀ ∧ PCells W g 0 ps
theorem PcsAt.below {n₀ : Nat} {A B : World} {v : Value} {ps : List (Nat × Int)} (h : PcsAt n₀ A v ps) (hb : Below n₀ A B) : PcsAt n₀ B v ps := by
  rcases h with h | ⟨g, cap, h1, h2, h3⟩
  · exact .inl h
  · exact .inr ⟨g, cap, h1, h2, fun k hk => ⟨(hb.cell (p := ⟨g, _, none⟩) h2).trans (h3 k hk).1, (hb.cell (p := ⟨g, _, none⟩) h2).trans (h3 k hk).2⟩⟩
theorem getD_in {ps : List (Nat × Int)} {k : Nat} (h : k < ps.length) : ps.getD k (0, 0) ∈ ps := by simp [h]
end Go.Proofs.YtfhdjekpdifajaaGreat
namespace Go.Proofs.YtfhdjekpdifajaaGreat
set_option linter.unusedVariables false
open Go.RowKit
@[go_sem] theorem fld_bits (b r c m s : Int) (w : World) : (Instr.field 24 (.agg #[.int .i64 b, .int .i64 r, .int .i64 c, .int .i64 m, .int .u64 s]) 0).run Tryz.prog w = .ok (.int .i64 b) w := by kernel_rfl
end Go.Proofs.YtfhdjekpdifajaaGreat
namespace Go.Proofs.YtfhdjekpdifajaaGreat
set_option linter.unusedVariables false
open Go.RowKit
/-- A stack, and one of the references. -/
def KP (N : Nat) (w : World) (C : Cfg) (B s r : Nat) (ls ls' : Nat → List Int) : Prop :=
  ∃ g L t L2 z, KAt w s g C B L ls ∧ KLow z s g B L ∧ KFresh N B L ∧ RKAt w r t C B L2 ls' ∧ (∀ k, rkF r t C B L2 k → z ≤ k) ∧ N ≤ z ∧ z ≤ w.heap.size
section
variable {N : Nat} {w w' : World} {C : Cfg} {B s r : Nat} {ls ls' : Nat → List Int}
theorem KP.ext (h : KP N w C B s r ls ls') (he : Ext w w') : KP N w' C B s r ls ls' := by
  obtain ⟨g, L, t, L2, z, h1, h2, h3, h4, h5, h6, h7⟩ := h
  exact ⟨g, L, t, L2, z, h1.ext he, h2, h3, h4.ext he, h5, h6, Nat.le_trans h7 he.size⟩
end
end Go.Proofs.YtfhdjekpdifajaaGreat
namespace Go.Proofs.YtfhdjekpdifajaaGreat
set_option linter.unusedVariables false
open Go.RowKit
/-- The blocks of a stack. -/
def kF (s g B : Nat) (L : Nat → Lev) (k : Nat) : Prop := k = s ∨ k = g ∨ ∃ n, n ≤ B ∧ (k = (L n).s ∨ k = (L n).b ∨ k = (L n).c)
theorem KAt.keep {w w' : World} {s g : Nat} {C : Cfg} {B : Nat} {L : Nat → Lev} {ls : Nat → List Int} (h : KAt w s g C B L ls) (hk : ∀ k, kF s g B L k → w'.heap[k]? = w.heap[k]?) : KAt w' s g C B L ls :=
  ⟨by rw [hk s (.inl rfl)]; exact h.ex, by rw [hk g (.inr (.inl rfl))]; exact h.row, fun n hn => (h.lev n hn).keep (hk _ (.inr (.inr ⟨n, hn, .inl rfl⟩))) (hk _ (.inr (.inr ⟨n, hn, .inr (.inl rfl)⟩))) (hk _ (.inr (.inr ⟨n, hn, .inr (.inr rfl)⟩))), h.sep, h.ok, h.hB⟩
theorem KAt.own {w : World} {s g : Nat} {C : Cfg} {B : Nat} {L : Nat → Lev} {ls : Nat → List Int} (h : KAt w s g C B L ls) : Own (kF s g B L) (fun w => KAt w s g C B L ls) w :=
  ⟨h, fun w w' h hk => h.keep hk, fun k hk => by
    rcases hk with rfl | rfl | ⟨n, hn, rfl | rfl | rfl⟩
    · exact h.lts
    · exact h.ltg
    · exact (h.lev n hn).lts
    · exact (h.lev n hn).ltb
    · exact (h.lev n hn).ltc⟩
section
variable {N : Nat} {w w' : World} {F1 F2 F3 F4 : Nat → Prop} {P1 P2 P3 P4 : World → Prop} {C : Cfg} {B s r : Nat} {g t : Nat} {L : Nat → Lev} {M : Nat → RLev} {l l' : Nat → List Int}
end
theorem lvN_leU {C : Cfg} (h : C.Ok) (lv : Int) : lvN C lv ≤ 1024 := by
  have h1 := h.w1
  have h2 := h.w2
  have h3 := h.r1
  have h4 := h.r2
  unfold lvN
  cases hx : isX C lv with
  | true =>
    have h3 : keys C lv ≤ C.width := of_decide_eq_true hx
    show kN C lv ≤ 1024
    unfold kN; omega
  | false =>
    show rN C * wN C ≤ 1024
    have e1 : rN C ≤ 8 := by have := rN_eq h; omega
    have e2 : wN C ≤ 128 := by have := wN_eq h; omega
    exact Nat.le_trans (Nat.mul_le_mul e1 e2) (by decide)
end Go.Proofs.YtfhdjekpdifajaaGreat
