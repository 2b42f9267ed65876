/- Part. No condition. -/
import Derived.Test.YtfhdjekpdifajaaGreatDMergePlays8
import Derived.Test.YtfhdjekpdifajaaGreatDMergePlays9
import Derived.Test.YtfhdjekpdifajaaGreatDMergePlays10
import Derived.Test.YtfhdjekpdifajaaGreatDMergePlays3
import Derived.Test.YtfhdjekpdifajaaGreatDMergePlays4
namespace Go.Proofs.YtfhdjekpdifajaaGreat
set_option linter.unusedVariables false
open Go.RowKit
def RLJoinPost (w : World) (L : RLev) (C : Cfg) (lv : Int) (ms : List Int) (e : Ending) (w' : World) : Prop :=
  (allI ms ∧ e = .returned (.int .i64 0) ∧ ∃ L' : RLev, L'.p = L.p ∧ RLvAt w' L' C lv ms ∧ (∀ k, L'.foot C lv k → L.foot C lv k ∨ w.heap.size ≤ k) ∧ Mod (L.foot C lv) w w') ∨ (¬ allI ms ∧ e = .returned (.int .i64 4) ∧ Ext w w')
theorem rl_npx {w : World} {p a m : Nat} {C : Cfg} {lv : Int} {K : Nat} {l : List Int} {cs : Array Value} (hp : w.heap[p]? = some (.cells cs 153 (0, 0))) (h : RXAt w a m C lv K l) : p ≠ a := by
  obtain ⟨cap, q, _⟩ := h.ex; exact blk_ne hp q (by decide)
theorem rl_nps {w : World} {p a : Nat} {G : Gr} {C : Cfg} {lv : Int} {R W : Nat} {l : List Int} {cs : Array Value} (hp : w.heap[p]? = some (.cells cs 153 (0, 0))) (h : RSAt w a G C lv R W l) : ¬ rsF a G R p := by
  rintro (e | e | e | ⟨r, hr, e⟩)
  · exact blk_ne hp h.ex (by decide) e
  · obtain ⟨cap, q, _⟩ := h.g.ex; exact blk_ne hp q (by decide) e
  · obtain ⟨cap, q, _⟩ := h.g.row; exact blk_ne hp q (by decide) e
  · obtain ⟨cur, q, _⟩ := h.g.cells r hr; exact blk_ne hp q (by decide) e
set_option maxRecDepth 20000 in
set_option maxHeartbeats 4000000 in
theorem RLJoinPlus_c (L L2 : RLev) (C : Cfg) (lv : Int) (l l2 : List Int) (w : World) (h : RLvAt w L C lv l) (h2 : RLvAt w L2 C lv l2) (hmd : "Plus" = "Minus" → C.mode ≠ 2) :
    Calls Tryz.prog 42 #[.pointer (some ⟨L.p, 0, none⟩), .pointer (some ⟨L2.p, 0, none⟩), .int .i64 1] w (RLJoinPost w L C lv (plusL l l2)) := by
  cases hx : isX C lv with
  | true =>
    obtain ⟨hp, hA⟩ := h.x hx
    obtain ⟨hp2, hA2⟩ := h2.x hx
    have HU := Lib.hid (fun W' (hW : Ext w W') => RXJoinPlus_c _ _ _ _ C lv _ l l2 W' (hA.ext hW) (hA2.ext hW) hmd)
    have p0 := (cell_of hp 0).trans rfl
    have pl := lt_of hp
    have q0 := (cell_of hp2 0).trans rfl
    have ql := lt_of hp2
    have HP := Lib.hid hp
    have HA := Lib.hid hA
    have HX := Lib.hid hx
    have HH := Lib.hid h
    clear hx hp hp2 hA hA2 h2 hmd h
    go_enter Tryz.func42, Tryz.ntmps42
    go_wp2_with fail
    have hC0 := af_drew w
    refine pi_start (fun w' => ∃ z : After w, w' = z.w) [9] (by kernel_rfl) ?_
    refine pi_t 0 rfl (by kernel_rfl) (by kernel_rfl) (fun _ _ _ _ h => h) (fun K hK => ?_)
    go_big_quiet_op
    refine hK _ ?_
    clear hK K
    refine pi_t 1 rfl (by kernel_rfl) (by kernel_rfl) (fun _ _ _ _ h => h) (fun K hK => ?_)
    go_big_quiet_op
    refine hK _ ?_
    clear hK K
    refine pi_t 2 rfl (by kernel_rfl) (by kernel_rfl) (fun _ _ _ _ h => h) (fun K hK => ?_)
    go_big_quiet_op
    refine hK _ ?_
    clear hK K
    refine pi_t 4 rfl (by kernel_rfl) (by kernel_rfl) (fun _ _ _ _ h => h) (fun K hK => ?_)
    go_big_quiet_op
    refine hK _ ?_
    clear hK K
    refine pi_t 5 rfl (by kernel_rfl) (by kernel_rfl) (fun _ _ _ _ h => h) (fun K hK => ?_)
    go_big_quiet_op
    refine hK _ ?_
    clear hK K
    refine pi_t 6 rfl (by kernel_rfl) (by kernel_rfl) (fun _ _ _ _ h => h) (fun K hK => ?_)
    go_big_quiet_op
    refine hK _ ?_
    clear hK K
    refine pi_t 8 rfl (by kernel_rfl) (by kernel_rfl) (fun _ _ _ _ h => h) (fun K hK => ?_)
    go_big_quiet_op
    refine hK _ ?_
    clear hK K
    refine pi_c 3 (by assumption) rfl (by kernel_rfl) (by kernel_rfl) (fun _ _ _ _ h => h) (fun K hK => ?_)
    go_big_quiet_op
    refine hK _ ?_
    clear hK K
    refine pi_c 7 (by assumption) rfl (by kernel_rfl) (by kernel_rfl) (fun _ _ _ _ h => h) (fun K hK => ?_)
    go_big_quiet_op
    refine hK _ ?_
    clear hK K
    refine pi_l 9 rfl (by kernel_rfl) (fun K hK => ?_)
    go_wp2_with (go_at_call 113; refine Calls.mono (HU.out _ (Below.drew (Ext.refl w))) ?_; rintro e w1 (⟨ha, rfl, m', hA', hm', hM'⟩ | ⟨ha, rfl, hx'⟩))
    · refine hK _ _ (by simp) ?_
      clear hK K
      have HAI := Lib.hid ha
      have HA' := Lib.hid hA'
      have HM' := Lib.hid ((Ext.mod _ (Below.drew (Ext.refl w))).trans hM' : Mod (fun k => k = L.a) w w1)
      have HMM := Lib.hid (show w.heap.size ≤ m' from hm')
      clear ha hA' hm' hM'
      refine pi_t 10 rfl (by kernel_rfl) (by kernel_rfl) (fun _ _ _ _ h => h) (fun K hK => ?_)
      go_big_quiet_op
      refine hK _ ?_
      clear hK K
      refine pi_end (by kernel_rfl) ?_
      go_wp2
      go_ret
      refine .inl ⟨HAI.out, rfl, ⟨L.p, L.a, ⟨L.G.g, m', L.G.r, L.G.c⟩⟩, rfl, ⟨HH.out.1, HH.out.2.1, HH.out.2.2.1, .inl ⟨HX.out, HM'.out.keep HP.out (rl_npx HP.out HA.out), HA'.out⟩⟩, ?_, HM'.out.wider (fun k hk => .inr (.inl ⟨HX.out, .inl hk⟩))⟩
      rintro k (rfl | ⟨hy, (rfl | rfl)⟩ | ⟨hy, _⟩)
      · exact .inl (.inl rfl)
      · exact .inl (.inr (.inl ⟨hy, .inl rfl⟩))
      · exact .inr HMM.out
      · rw [HX.out] at hy; cases hy
    · refine hK _ _ (by simp) ?_
      clear hK K
      have HNA := Lib.hid ha
      have hEf := Ext.trans' (Below.drew (Ext.refl w)) hx'
      clear ha hx'
      refine pi_t 10 rfl (by kernel_rfl) (by kernel_rfl) (fun _ _ _ _ h => h) (fun K hK => ?_)
      go_big_quiet_op
      refine hK _ ?_
      clear hK K
      refine pi_end (by kernel_rfl) ?_
      go_wp2
      go_ret
      exact .inr ⟨HNA.out, rfl, hEf⟩
  | false =>
    obtain ⟨hp, hA⟩ := h.sk hx
    obtain ⟨hp2, hA2⟩ := h2.sk hx
    have HU := Lib.hid (fun W' (hW : Ext w W') => RSJoinPlus_c _ _ _ _ C lv _ _ l l2 W' (hA.ext hW) (hA2.ext hW) hmd)
    have p0 := (cell_of hp 0).trans rfl
    have p1 := (cell_of hp 1).trans rfl
    have pl := lt_of hp
    have q0 := (cell_of hp2 0).trans rfl
    have q1 := (cell_of hp2 1).trans rfl
    have ql := lt_of hp2
    have HP := Lib.hid hp
    have HA := Lib.hid hA
    have HX := Lib.hid hx
    have HH := Lib.hid h
    clear hx hp hp2 hA hA2 h2 hmd h
    go_enter Tryz.func42, Tryz.ntmps42
    go_wp2_with fail
    have hC0 := af_drew w
    refine pi_start (fun w' => ∃ z : After w, w' = z.w) [9] (by kernel_rfl) ?_
    refine pi_t 0 rfl (by kernel_rfl) (by kernel_rfl) (fun _ _ _ _ h => h) (fun K hK => ?_)
    go_big_quiet_op
    refine hK _ ?_
    clear hK K
    refine pi_t 1 rfl (by kernel_rfl) (by kernel_rfl) (fun _ _ _ _ h => h) (fun K hK => ?_)
    go_big_quiet_op
    refine hK _ ?_
    clear hK K
    refine pi_t 2 rfl (by kernel_rfl) (by kernel_rfl) (fun _ _ _ _ h => h) (fun K hK => ?_)
    go_big_quiet_op
    refine hK _ ?_
    clear hK K
    refine pi_t 4 rfl (by kernel_rfl) (by kernel_rfl) (fun _ _ _ _ h => h) (fun K hK => ?_)
    go_big_quiet_op
    refine hK _ ?_
    clear hK K
    refine pi_t 5 rfl (by kernel_rfl) (by kernel_rfl) (fun _ _ _ _ h => h) (fun K hK => ?_)
    go_big_quiet_op
    refine hK _ ?_
    clear hK K
    refine pi_t 6 rfl (by kernel_rfl) (by kernel_rfl) (fun _ _ _ _ h => h) (fun K hK => ?_)
    go_big_quiet_op
    refine hK _ ?_
    clear hK K
    refine pi_t 8 rfl (by kernel_rfl) (by kernel_rfl) (fun _ _ _ _ h => h) (fun K hK => ?_)
    go_big_quiet_op
    refine hK _ ?_
    clear hK K
    refine pi_c 3 (by assumption) rfl (by kernel_rfl) (by kernel_rfl) (fun _ _ _ _ h => h) (fun K hK => ?_)
    go_big_quiet_op
    refine hK _ ?_
    clear hK K
    refine pi_c 7 (by assumption) rfl (by kernel_rfl) (by kernel_rfl) (fun _ _ _ _ h => h) (fun K hK => ?_)
    go_big_quiet_op
    refine hK _ ?_
    clear hK K
    refine pi_l 9 rfl (by kernel_rfl) (fun K hK => ?_)
    go_wp2_with (go_at_call 114; refine Calls.mono (HU.out _ (Below.drew (Ext.refl w))) ?_; rintro e w1 (⟨ha, rfl, G', hA', hF', hM'⟩ | ⟨ha, rfl, hx'⟩))
    · refine hK _ _ (by simp) ?_
      clear hK K
      have HAI := Lib.hid ha
      have HA' := Lib.hid hA'
      have HM' := Lib.hid ((Ext.mod _ (Below.drew (Ext.refl w))).trans hM' : Mod (rsF L.a L.G (rN C)) w w1)
      have HFF := Lib.hid (show ∀ k, rsF L.a G' (rN C) k → rsF L.a L.G (rN C) k ∨ w.heap.size ≤ k from hF')
      clear ha hA' hF' hM'
      refine pi_t 10 rfl (by kernel_rfl) (by kernel_rfl) (fun _ _ _ _ h => h) (fun K hK => ?_)
      go_big_quiet_op
      refine hK _ ?_
      clear hK K
      refine pi_end (by kernel_rfl) ?_
      go_wp2
      go_ret
      refine .inl ⟨HAI.out, rfl, ⟨L.p, L.a, G'⟩, rfl, ⟨HH.out.1, HH.out.2.1, HH.out.2.2.1, .inr ⟨HX.out, HM'.out.keep HP.out (rl_nps HP.out HA.out), HA'.out⟩⟩, ?_, HM'.out.wider (fun k hk => .inr (.inr ⟨HX.out, hk⟩))⟩
      rintro k (rfl | ⟨hy, _⟩ | ⟨hy, hk⟩)
      · exact .inl (.inl rfl)
      · rw [HX.out] at hy; cases hy
      · exact (HFF.out k hk).imp (fun h => .inr (.inr ⟨hy, h⟩)) id
    · refine hK _ _ (by simp) ?_
      clear hK K
      have HNA := Lib.hid ha
      have hEf := Ext.trans' (Below.drew (Ext.refl w)) hx'
      clear ha hx'
      refine pi_t 10 rfl (by kernel_rfl) (by kernel_rfl) (fun _ _ _ _ h => h) (fun K hK => ?_)
      go_big_quiet_op
      refine hK _ ?_
      clear hK K
      refine pi_end (by kernel_rfl) ?_
      go_wp2
      go_ret
      exact .inr ⟨HNA.out, rfl, hEf⟩
set_option maxRecDepth 20000 in
set_option maxHeartbeats 4000000 in
theorem RLJoinMinus_c (L L2 : RLev) (C : Cfg) (lv : Int) (l l2 : List Int) (w : World) (h : RLvAt w L C lv l) (h2 : RLvAt w L2 C lv l2) (hmd : "Minus" = "Minus" → C.mode ≠ 2) :
    Calls Tryz.prog 42 #[.pointer (some ⟨L.p, 0, none⟩), .pointer (some ⟨L2.p, 0, none⟩), .int .i64 (-1)] w (RLJoinPost w L C lv (minusL l l2)) := by
  cases hx : isX C lv with
  | true =>
    obtain ⟨hp, hA⟩ := h.x hx
    obtain ⟨hp2, hA2⟩ := h2.x hx
    have HU := Lib.hid (fun W' (hW : Ext w W') => RXJoinMinus_c _ _ _ _ C lv _ l l2 W' (hA.ext hW) (hA2.ext hW) hmd)
    have p0 := (cell_of hp 0).trans rfl
    have pl := lt_of hp
    have q0 := (cell_of hp2 0).trans rfl
    have ql := lt_of hp2
    have HP := Lib.hid hp
    have HA := Lib.hid hA
    have HX := Lib.hid hx
    have HH := Lib.hid h
    clear hx hp hp2 hA hA2 h2 hmd h
    go_enter Tryz.func42, Tryz.ntmps42
    go_wp2_with fail
    have hC0 := af_drew w
    refine pi_start (fun w' => ∃ z : After w, w' = z.w) [9] (by kernel_rfl) ?_
    refine pi_t 0 rfl (by kernel_rfl) (by kernel_rfl) (fun _ _ _ _ h => h) (fun K hK => ?_)
    go_big_quiet_op
    refine hK _ ?_
    clear hK K
    refine pi_t 1 rfl (by kernel_rfl) (by kernel_rfl) (fun _ _ _ _ h => h) (fun K hK => ?_)
    go_big_quiet_op
    refine hK _ ?_
    clear hK K
    refine pi_t 2 rfl (by kernel_rfl) (by kernel_rfl) (fun _ _ _ _ h => h) (fun K hK => ?_)
    go_big_quiet_op
    refine hK _ ?_
    clear hK K
    refine pi_t 4 rfl (by kernel_rfl) (by kernel_rfl) (fun _ _ _ _ h => h) (fun K hK => ?_)
    go_big_quiet_op
    refine hK _ ?_
    clear hK K
    refine pi_t 5 rfl (by kernel_rfl) (by kernel_rfl) (fun _ _ _ _ h => h) (fun K hK => ?_)
    go_big_quiet_op
    refine hK _ ?_
    clear hK K
    refine pi_t 6 rfl (by kernel_rfl) (by kernel_rfl) (fun _ _ _ _ h => h) (fun K hK => ?_)
    go_big_quiet_op
    refine hK _ ?_
    clear hK K
    refine pi_t 8 rfl (by kernel_rfl) (by kernel_rfl) (fun _ _ _ _ h => h) (fun K hK => ?_)
    go_big_quiet_op
    refine hK _ ?_
    clear hK K
    refine pi_c 3 (by assumption) rfl (by kernel_rfl) (by kernel_rfl) (fun _ _ _ _ h => h) (fun K hK => ?_)
    go_big_quiet_op
    refine hK _ ?_
    clear hK K
    refine pi_c 7 (by assumption) rfl (by kernel_rfl) (by kernel_rfl) (fun _ _ _ _ h => h) (fun K hK => ?_)
    go_big_quiet_op
    refine hK _ ?_
    clear hK K
    refine pi_l 9 rfl (by kernel_rfl) (fun K hK => ?_)
    go_wp2_with (go_at_call 113; refine Calls.mono (HU.out _ (Below.drew (Ext.refl w))) ?_; rintro e w1 (⟨ha, rfl, m', hA', hm', hM'⟩ | ⟨ha, rfl, hx'⟩))
    · refine hK _ _ (by simp) ?_
      clear hK K
      have HAI := Lib.hid ha
      have HA' := Lib.hid hA'
      have HM' := Lib.hid ((Ext.mod _ (Below.drew (Ext.refl w))).trans hM' : Mod (fun k => k = L.a) w w1)
      have HMM := Lib.hid (show w.heap.size ≤ m' from hm')
      clear ha hA' hm' hM'
      refine pi_t 10 rfl (by kernel_rfl) (by kernel_rfl) (fun _ _ _ _ h => h) (fun K hK => ?_)
      go_big_quiet_op
      refine hK _ ?_
      clear hK K
      refine pi_end (by kernel_rfl) ?_
      go_wp2
      go_ret
      refine .inl ⟨HAI.out, rfl, ⟨L.p, L.a, ⟨L.G.g, m', L.G.r, L.G.c⟩⟩, rfl, ⟨HH.out.1, HH.out.2.1, HH.out.2.2.1, .inl ⟨HX.out, HM'.out.keep HP.out (rl_npx HP.out HA.out), HA'.out⟩⟩, ?_, HM'.out.wider (fun k hk => .inr (.inl ⟨HX.out, .inl hk⟩))⟩
      rintro k (rfl | ⟨hy, (rfl | rfl)⟩ | ⟨hy, _⟩)
      · exact .inl (.inl rfl)
      · exact .inl (.inr (.inl ⟨hy, .inl rfl⟩))
      · exact .inr HMM.out
      · rw [HX.out] at hy; cases hy
    · refine hK _ _ (by simp) ?_
      clear hK K
      have HNA := Lib.hid ha
      have hEf := Ext.trans' (Below.drew (Ext.refl w)) hx'
      clear ha hx'
      refine pi_t 10 rfl (by kernel_rfl) (by kernel_rfl) (fun _ _ _ _ h => h) (fun K hK => ?_)
      go_big_quiet_op
      refine hK _ ?_
      clear hK K
      refine pi_end (by kernel_rfl) ?_
      go_wp2
      go_ret
      exact .inr ⟨HNA.out, rfl, hEf⟩
  | false =>
    obtain ⟨hp, hA⟩ := h.sk hx
    obtain ⟨hp2, hA2⟩ := h2.sk hx
    have HU := Lib.hid (fun W' (hW : Ext w W') => RSJoinMinus_c _ _ _ _ C lv _ _ l l2 W' (hA.ext hW) (hA2.ext hW) hmd)
    have p0 := (cell_of hp 0).trans rfl
    have p1 := (cell_of hp 1).trans rfl
    have pl := lt_of hp
    have q0 := (cell_of hp2 0).trans rfl
    have q1 := (cell_of hp2 1).trans rfl
    have ql := lt_of hp2
    have HP := Lib.hid hp
    have HA := Lib.hid hA
    have HX := Lib.hid hx
    have HH := Lib.hid h
    clear hx hp hp2 hA hA2 h2 hmd h
    go_enter Tryz.func42, Tryz.ntmps42
    go_wp2_with fail
    have hC0 := af_drew w
    refine pi_start (fun w' => ∃ z : After w, w' = z.w) [9] (by kernel_rfl) ?_
    refine pi_t 0 rfl (by kernel_rfl) (by kernel_rfl) (fun _ _ _ _ h => h) (fun K hK => ?_)
    go_big_quiet_op
    refine hK _ ?_
    clear hK K
    refine pi_t 1 rfl (by kernel_rfl) (by kernel_rfl) (fun _ _ _ _ h => h) (fun K hK => ?_)
    go_big_quiet_op
    refine hK _ ?_
    clear hK K
    refine pi_t 2 rfl (by kernel_rfl) (by kernel_rfl) (fun _ _ _ _ h => h) (fun K hK => ?_)
    go_big_quiet_op
    refine hK _ ?_
    clear hK K
    refine pi_t 4 rfl (by kernel_rfl) (by kernel_rfl) (fun _ _ _ _ h => h) (fun K hK => ?_)
    go_big_quiet_op
    refine hK _ ?_
    clear hK K
    refine pi_t 5 rfl (by kernel_rfl) (by kernel_rfl) (fun _ _ _ _ h => h) (fun K hK => ?_)
    go_big_quiet_op
    refine hK _ ?_
    clear hK K
    refine pi_t 6 rfl (by kernel_rfl) (by kernel_rfl) (fun _ _ _ _ h => h) (fun K hK => ?_)
    go_big_quiet_op
    refine hK _ ?_
    clear hK K
    refine pi_t 8 rfl (by kernel_rfl) (by kernel_rfl) (fun _ _ _ _ h => h) (fun K hK => ?_)
    go_big_quiet_op
    refine hK _ ?_
    clear hK K
    refine pi_c 3 (by assumption) rfl (by kernel_rfl) (by kernel_rfl) (fun _ _ _ _ h => h) (fun K hK => ?_)
    go_big_quiet_op
    refine hK _ ?_
    clear hK K
    refine pi_c 7 (by assumption) rfl (by kernel_rfl) (by kernel_rfl) (fun _ _ _ _ h => h) (fun K hK => ?_)
    go_big_quiet_op
    refine hK _ ?_
    clear hK K
    refine pi_l 9 rfl (by kernel_rfl) (fun K hK => ?_)
    go_wp2_with (go_at_call 114; refine Calls.mono (HU.out _ (Below.drew (Ext.refl w))) ?_; rintro e w1 (⟨ha, rfl, G', hA', hF', hM'⟩ | ⟨ha, rfl, hx'⟩))
    · refine hK _ _ (by simp) ?_
      clear hK K
      have HAI := Lib.hid ha
      have HA' := Lib.hid hA'
      have HM' := Lib.hid ((Ext.mod _ (Below.drew (Ext.refl w))).trans hM' : Mod (rsF L.a L.G (rN C)) w w1)
      have HFF := Lib.hid (show ∀ k, rsF L.a G' (rN C) k → rsF L.a L.G (rN C) k ∨ w.heap.size ≤ k from hF')
      clear ha hA' hF' hM'
      refine pi_t 10 rfl (by kernel_rfl) (by kernel_rfl) (fun _ _ _ _ h => h) (fun K hK => ?_)
      go_big_quiet_op
      refine hK _ ?_
      clear hK K
      refine pi_end (by kernel_rfl) ?_
      go_wp2
      go_ret
      refine .inl ⟨HAI.out, rfl, ⟨L.p, L.a, G'⟩, rfl, ⟨HH.out.1, HH.out.2.1, HH.out.2.2.1, .inr ⟨HX.out, HM'.out.keep HP.out (rl_nps HP.out HA.out), HA'.out⟩⟩, ?_, HM'.out.wider (fun k hk => .inr (.inr ⟨HX.out, hk⟩))⟩
      rintro k (rfl | ⟨hy, _⟩ | ⟨hy, hk⟩)
      · exact .inl (.inl rfl)
      · rw [HX.out] at hy; cases hy
      · exact (HFF.out k hk).imp (fun h => .inr (.inr ⟨hy, h⟩)) id
    · refine hK _ _ (by simp) ?_
      clear hK K
      have HNA := Lib.hid ha
      have hEf := Ext.trans' (Below.drew (Ext.refl w)) hx'
      clear ha hx'
      refine pi_t 10 rfl (by kernel_rfl) (by kernel_rfl) (fun _ _ _ _ h => h) (fun K hK => ?_)
      go_big_quiet_op
      refine hK _ ?_
      clear hK K
      refine pi_end (by kernel_rfl) ?_
      go_wp2
      go_ret
      exact .inr ⟨HNA.out, rfl, hEf⟩
set_option maxRecDepth 20000 in
set_option maxHeartbeats 4000000 in
theorem RLJoin_mode (L L2 : RLev) (C : Cfg) (lv : Int) (l l2 : List Int) (w : World) (h : RLvAt w L C lv l) (h2 : RLvAt w L2 C lv l2) (hmd : C.mode = 2) :
    Calls Tryz.prog 42 #[.pointer (some ⟨L.p, 0, none⟩), .pointer (some ⟨L2.p, 0, none⟩), .int .i64 (-1)] w fun e w' => e = .returned (.int .i64 3) ∧ Ext w w' := by
  cases hx : isX C lv with
  | true =>
    obtain ⟨hp, hA⟩ := h.x hx
    obtain ⟨hp2, hA2⟩ := h2.x hx
    have HU := Lib.hid (fun W' (hW : Ext w W') => RXJoin_mode _ _ _ _ C lv _ l l2 W' (hA.ext hW) (hA2.ext hW) hmd)
    have p0 := (cell_of hp 0).trans rfl
    have pl := lt_of hp
    have q0 := (cell_of hp2 0).trans rfl
    have ql := lt_of hp2
    clear hx hp hp2 hA hA2 h2 hmd h
    go_enter Tryz.func42, Tryz.ntmps42
    go_wp2_with fail
    have hC0 := af_drew w
    refine pi_start (fun w' => ∃ z : After w, w' = z.w) [] (by kernel_rfl) ?_
    refine pi_t 0 rfl (by kernel_rfl) (by kernel_rfl) (fun _ _ _ _ h => h) (fun K hK => ?_)
    go_big_quiet_op
    refine hK _ ?_
    clear hK K
    refine pi_t 1 rfl (by kernel_rfl) (by kernel_rfl) (fun _ _ _ _ h => h) (fun K hK => ?_)
    go_big_quiet_op
    refine hK _ ?_
    clear hK K
    refine pi_t 2 rfl (by kernel_rfl) (by kernel_rfl) (fun _ _ _ _ h => h) (fun K hK => ?_)
    go_big_quiet_op
    refine hK _ ?_
    clear hK K
    refine pi_t 4 rfl (by kernel_rfl) (by kernel_rfl) (fun _ _ _ _ h => h) (fun K hK => ?_)
    go_big_quiet_op
    refine hK _ ?_
    clear hK K
    refine pi_t 5 rfl (by kernel_rfl) (by kernel_rfl) (fun _ _ _ _ h => h) (fun K hK => ?_)
    go_big_quiet_op
    refine hK _ ?_
    clear hK K
    refine pi_t 6 rfl (by kernel_rfl) (by kernel_rfl) (fun _ _ _ _ h => h) (fun K hK => ?_)
    go_big_quiet_op
    refine hK _ ?_
    clear hK K
    refine pi_t 8 rfl (by kernel_rfl) (by kernel_rfl) (fun _ _ _ _ h => h) (fun K hK => ?_)
    go_big_quiet_op
    refine hK _ ?_
    clear hK K
    refine pi_c 3 (by assumption) rfl (by kernel_rfl) (by kernel_rfl) (fun _ _ _ _ h => h) (fun K hK => ?_)
    go_big_quiet_op
    refine hK _ ?_
    clear hK K
    refine pi_c 7 (by assumption) rfl (by kernel_rfl) (by kernel_rfl) (fun _ _ _ _ h => h) (fun K hK => ?_)
    go_big_quiet_op
    refine hK _ ?_
    clear hK K
    refine pi_l 9 rfl (by kernel_rfl) (fun K hK => ?_)
    go_wp2_with (go_at_call 113; refine Calls.mono (HU.out _ (Below.drew (Ext.refl w))) ?_; rintro e w1 ⟨rfl, hx'⟩)
    have hEf := Ext.trans' (Below.drew (Ext.refl w)) hx'
    refine hK _ _ (fun _ h => af_step h hx') ?_
    clear hK K hx'
    refine pi_t 10 rfl (by kernel_rfl) (by kernel_rfl) (fun _ _ _ _ h => h) (fun K hK => ?_)
    go_big_quiet_op
    refine hK _ ?_
    clear hK K
    refine pi_end (by kernel_rfl) ?_
    go_wp2
    go_ret
    exact ⟨rfl, hEf⟩
  | false =>
    obtain ⟨hp, hA⟩ := h.sk hx
    obtain ⟨hp2, hA2⟩ := h2.sk hx
    have HU := Lib.hid (fun W' (hW : Ext w W') => RSJoin_mode _ _ _ _ C lv _ _ l l2 W' (hA.ext hW) (hA2.ext hW) hmd)
    have p0 := (cell_of hp 0).trans rfl
    have p1 := (cell_of hp 1).trans rfl
    have pl := lt_of hp
    have q0 := (cell_of hp2 0).trans rfl
    have q1 := (cell_of hp2 1).trans rfl
    have ql := lt_of hp2
    clear hx hp hp2 hA hA2 h2 hmd h
    go_enter Tryz.func42, Tryz.ntmps42
    go_wp2_with fail
    have hC0 := af_drew w
    refine pi_start (fun w' => ∃ z : After w, w' = z.w) [] (by kernel_rfl) ?_
    refine pi_t 0 rfl (by kernel_rfl) (by kernel_rfl) (fun _ _ _ _ h => h) (fun K hK => ?_)
    go_big_quiet_op
    refine hK _ ?_
    clear hK K
    refine pi_t 1 rfl (by kernel_rfl) (by kernel_rfl) (fun _ _ _ _ h => h) (fun K hK => ?_)
    go_big_quiet_op
    refine hK _ ?_
    clear hK K
    refine pi_t 2 rfl (by kernel_rfl) (by kernel_rfl) (fun _ _ _ _ h => h) (fun K hK => ?_)
    go_big_quiet_op
    refine hK _ ?_
    clear hK K
    refine pi_t 4 rfl (by kernel_rfl) (by kernel_rfl) (fun _ _ _ _ h => h) (fun K hK => ?_)
    go_big_quiet_op
    refine hK _ ?_
    clear hK K
    refine pi_t 5 rfl (by kernel_rfl) (by kernel_rfl) (fun _ _ _ _ h => h) (fun K hK => ?_)
    go_big_quiet_op
    refine hK _ ?_
    clear hK K
    refine pi_t 6 rfl (by kernel_rfl) (by kernel_rfl) (fun _ _ _ _ h => h) (fun K hK => ?_)
    go_big_quiet_op
    refine hK _ ?_
    clear hK K
    refine pi_t 8 rfl (by kernel_rfl) (by kernel_rfl) (fun _ _ _ _ h => h) (fun K hK => ?_)
    go_big_quiet_op
    refine hK _ ?_
    clear hK K
    refine pi_c 3 (by assumption) rfl (by kernel_rfl) (by kernel_rfl) (fun _ _ _ _ h => h) (fun K hK => ?_)
    go_big_quiet_op
    refine hK _ ?_
    clear hK K
    refine pi_c 7 (by assumption) rfl (by kernel_rfl) (by kernel_rfl) (fun _ _ _ _ h => h) (fun K hK => ?_)
    go_big_quiet_op
    refine hK _ ?_
    clear hK K
    refine pi_l 9 rfl (by kernel_rfl) (fun K hK => ?_)
    go_wp2_with (go_at_call 114; refine Calls.mono (HU.out _ (Below.drew (Ext.refl w))) ?_; rintro e w1 ⟨rfl, hx'⟩)
    have hEf := Ext.trans' (Below.drew (Ext.refl w)) hx'
    refine hK _ _ (fun _ h => af_step h hx') ?_
    clear hK K hx'
    refine pi_t 10 rfl (by kernel_rfl) (by kernel_rfl) (fun _ _ _ _ h => h) (fun K hK => ?_)
    go_big_quiet_op
    refine hK _ ?_
    clear hK K
    refine pi_end (by kernel_rfl) ?_
    go_wp2
    go_ret
    exact ⟨rfl, hEf⟩
/-- What Inner answers of two levels: of one mode but Linear none. -/
def inV (C : Cfg) (lv : Int) (l m : List Int) : Int × Int × Int :=
  if C.mode = 1 then (match lvInn C lv l m with | some s => (hi s, lo s, 0) | none => (0, 0, 4)) else (0, 0, 3)
theorem innV_eq {C : Cfg} (hm : C.mode = 1) (lv : Int) (l m : List Int) : innV (lvInn C lv l m) = .tuple #[.agg #[.int .i64 (inV C lv l m).1, .int .u64 (inV C lv l m).2.1], .int .i64 (inV C lv l m).2.2] := by
  unfold inV
  rw [if_pos hm]
  cases lvInn C lv l m <;> rfl
theorem inV_mode {C : Cfg} (hm : C.mode ≠ 1) (lv : Int) (l m : List Int) : inV C lv l m = (0, 0, 3) := by unfold inV; rw [if_neg hm]
set_option maxRecDepth 20000 in
set_option maxHeartbeats 8000000 in
theorem RLInner_s (L L2 : RLev) (C : Cfg) (lv : Int) (l m : List Int) (w : World) (h : RLvAt w L C lv l) (h2 : RLvAt w L2 C lv m) (hx : isX C lv = false) (a b c : Int)
    (hI : ∀ W', Ext w W' → Calls Tryz.prog 124 #[.pointer (some ⟨L.a, 0, none⟩), .pointer (some ⟨L2.a, 0, none⟩)] W' fun e w' => e = .returned (.tuple #[.agg #[.int .i64 a, .int .u64 b], .int .i64 c]) ∧ Ext W' w') :
    Calls Tryz.prog 46 #[.pointer (some ⟨L.p, 0, none⟩), .pointer (some ⟨L2.p, 0, none⟩)] w fun e w' => e = .returned (.tuple #[.agg #[.int .i64 a, .int .u64 b], .int .i64 c]) ∧ Ext w w' := by
  obtain ⟨w0, hw0⟩ : ∃ w0, w.alloc (.cells #[.int .i64 0, .int .u64 0] 75) = w0 := ⟨_, rfl⟩
  have hz0 : w0.heap[w.heap.size]? = some (.cells #[.int .i64 0, .int .u64 0] 75 (0, 0)) := by rw [← hw0]; exact heap_at _ _ rfl
  have hE0 : Ext w w0 := by rw [← hw0]; exact Ext.alloc' _ _
  obtain ⟨hp, hA⟩ := (h.ext hE0).sk hx
  obtain ⟨hp2, hA2⟩ := (h2.ext hE0).sk hx
  have p1 := (cell_of hp 1).trans rfl
  have pl := lt_of hp
  have q1 := (cell_of hp2 1).trans rfl
  have ql := lt_of hp2
  have HI := Lib.hid hI
  have HZ0 := Lib.hid hz0
  have HE0 := Lib.hid hE0
  clear hx hp hp2 hA hA2 h2 h hI hz0 hE0
  go_enter Tryz.func46, Tryz.ntmps46
  go_upto_region 1 with (fail)
  try rw [hw0]
  clear hw0
  go_wp2_with fail
  have hC0 := af_drew w0
  refine pi_start (fun w' => ∃ z : After w0, w' = z.w) [11] (by kernel_rfl) ?_
  refine pi_t 0 rfl (by kernel_rfl) (by kernel_rfl) (fun _ _ _ _ h => h) (fun K hK => ?_)
  go_big_quiet_op
  refine hK _ ?_
  clear hK K
  refine pi_t 1 rfl (by kernel_rfl) (by kernel_rfl) (fun _ _ _ _ h => h) (fun K hK => ?_)
  go_big_quiet_op
  refine hK _ ?_
  clear hK K
  refine pi_t 2 rfl (by kernel_rfl) (by kernel_rfl) (fun _ _ _ _ h => h) (fun K hK => ?_)
  go_big_quiet_op
  refine hK _ ?_
  clear hK K
  refine pi_t 4 rfl (by kernel_rfl) (by kernel_rfl) (fun _ _ _ _ h => h) (fun K hK => ?_)
  go_big_quiet_op
  refine hK _ ?_
  clear hK K
  refine pi_t 5 rfl (by kernel_rfl) (by kernel_rfl) (fun _ _ _ _ h => h) (fun K hK => ?_)
  go_big_quiet_op
  refine hK _ ?_
  clear hK K
  refine pi_t 6 rfl (by kernel_rfl) (by kernel_rfl) (fun _ _ _ _ h => h) (fun K hK => ?_)
  go_big_quiet_op
  refine hK _ ?_
  clear hK K
  refine pi_c 3 (by assumption) rfl (by kernel_rfl) (by kernel_rfl) (fun _ _ _ _ h => h) (fun K hK => ?_)
  go_big_quiet_op
  refine hK _ ?_
  clear hK K
  refine pi_c 7 (by assumption) rfl (by kernel_rfl) (by kernel_rfl) (fun _ _ _ _ h => h) (fun K hK => ?_)
  go_big_quiet_op
  refine hK _ ?_
  clear hK K
  refine pi_l 8 rfl (by kernel_rfl) (fun K hK => ?_)
  go_wp2_with (go_at_call 124; refine Calls.mono (HI.out _ (HE0.out.trans' (Below.drew (Ext.refl w0)))) ?_; rintro e w1 ⟨rfl, hx'⟩)
  have hE1 : Ext w0 w1 := Ext.trans' (Below.drew (Ext.refl w0)) hx'
  refine hK _ _ (fun _ h => af_step h hx') ?_
  clear hK K
  have hz1 := hE1.keep HZ0.out
  have z0 := (cell_of hz1 0).trans rfl
  have z1 := (cell_of hz1 1).trans rfl
  have f0 := frozen_of hz1 0
  have f1 := frozen_of hz1 1
  have zl := lt_of hz1
  have HE1 := Lib.hid (HE0.out.trans' hE1)
  clear hz1 hE1 hx'
  refine pi_t 9 rfl (by kernel_rfl) (by kernel_rfl) (fun _ _ _ _ h => h) (fun K hK => ?_)
  go_big_quiet_op
  refine hK _ ?_
  clear hK K
  refine pi_t 10 rfl (by kernel_rfl) (by kernel_rfl) (fun _ _ _ _ h => h) (fun K hK => ?_)
  go_big_quiet_op
  refine hK _ ?_
  clear hK K
  refine pi_l 11 rfl (by kernel_rfl) (fun K hK => ?_)
  go_wp2
  refine hK _ _ (by simp) ?_
  clear hK K
  refine pi_t 12 rfl (by kernel_rfl) (by kernel_rfl) (fun _ _ _ _ h => h) (fun K hK => ?_)
  go_big_quiet_op
  refine hK _ ?_
  clear hK K
  refine pi_end (by kernel_rfl) ?_
  go_wp2
  refine bodyPost_ret (v := .tuple #[.agg #[.int .i64 a, .int .u64 b], .int .i64 c]) (by simp [results, Tryz.results46, go_sem, *]) rfl ⟨rfl, ?_⟩
  first
    | exact ((HE1.out.setR (p := ⟨w.heap.size, 0, none⟩) (Nat.le_refl _) _).setR (p := ⟨w.heap.size, 1, none⟩) (Nat.le_refl _) _).drewR
    | exact ((HE1.out.setR (p := ⟨w.heap.size, 0, none⟩) (Nat.le_refl _) _).setR (p := ⟨w.heap.size, 1, none⟩) (Nat.le_refl _) _)
end Go.Proofs.YtfhdjekpdifajaaGreat
namespace Go.Proofs.YtfhdjekpdifajaaGreat
set_option linter.unusedVariables false
open Go.RowKit
theorem zbox3 {w w0 wd : World} (h : w0.heap[w.heap.size]? = some (.cells #[.int .i64 0, .int .u64 0] 75 (0, 0))) (hE : Ext w0 wd) :
    wd.cell? ⟨w.heap.size, 0, none⟩ = some (.int .i64 0) ∧ wd.cell? ⟨w.heap.size, 1, none⟩ = some (.int .u64 0) ∧ wd.frozen? ⟨w.heap.size, 0, none⟩ = false ∧ wd.frozen? ⟨w.heap.size, 1, none⟩ = false ∧ w.heap.size < wd.heap.size := by
  have h1 := hE.keep h
  exact ⟨(cell_of h1 0).trans rfl, (cell_of h1 1).trans rfl, frozen_of h1 0, frozen_of h1 1, lt_of h1⟩
/-- What is read of a level that is an array. -/
theorem rx_facts {w : World} {L : RLev} {C : Cfg} {lv : Int} {l : List Int} (h : RLvAt w L C lv l) (hx : isX C lv = true) : ∃ cap, w.cell? ⟨L.p, 0, none⟩ = some (.pointer (some ⟨L.a, 0, none⟩)) ∧ w.cell? ⟨L.p, 1, none⟩ = some (.pointer none) ∧ L.p < w.heap.size ∧ L.a < w.heap.size ∧
    w.cell? ⟨L.a, 0, none⟩ = some (.int .i64 C.bits) ∧ w.cell? ⟨L.a, 1, none⟩ = some (.int .i64 C.rows) ∧ w.cell? ⟨L.a, 2, none⟩ = some (.int .i64 C.width) ∧ w.cell? ⟨L.a, 3, none⟩ = some (.int .i64 C.mode) ∧ w.cell? ⟨L.a, 4, none⟩ = some (.int .u64 C.seed) ∧ w.cell? ⟨L.a, 5, none⟩ = some (.int .i64 lv) ∧
    w.cell? ⟨L.a, 6, none⟩ = some (.slice (some ⟨L.G.m, 0, none⟩) (kN C lv) cap) := by
  obtain ⟨hp, hA⟩ := h.x hx
  obtain ⟨cap, hex, _⟩ := hA.ex
  exact ⟨cap, (cell_of hp 0).trans rfl, (cell_of hp 1).trans rfl, lt_of hp, lt_of hex, (cell_of hex 0).trans rfl, (cell_of hex 1).trans rfl, (cell_of hex 2).trans rfl, (cell_of hex 3).trans rfl, (cell_of hex 4).trans rfl, (cell_of hex 5).trans rfl, (cell_of hex 6).trans rfl⟩
set_option maxRecDepth 20000 in
set_option maxHeartbeats 16000000 in
theorem RLInner_xm (L L2 : RLev) (C : Cfg) (lv : Int) (l m : List Int) (w : World) (h : RLvAt w L C lv l) (h2 : RLvAt w L2 C lv m) (hx : isX C lv = true) (hm : C.mode ≠ 1) :
    Calls Tryz.prog 46 #[.pointer (some ⟨L.p, 0, none⟩), .pointer (some ⟨L2.p, 0, none⟩)] w fun e w' => e = .returned (.tuple #[.agg #[.int .i64 0, .int .u64 0], .int .i64 3]) ∧ Ext w w' := by
  have hm' : (C.mode != 1) = true := by simpa using hm
  obtain ⟨w0, hw0⟩ : ∃ w0, w.alloc (.cells #[.int .i64 0, .int .u64 0] 75) = w0 := ⟨_, rfl⟩
  have hz0 : w0.heap[w.heap.size]? = some (.cells #[.int .i64 0, .int .u64 0] 75 (0, 0)) := by rw [← hw0]; exact heap_at _ _ rfl
  have hE0 : Ext w w0 := by rw [← hw0]; exact Ext.alloc' _ _
  obtain ⟨cap, p0, p1, pl, al, a0, a1, a2, a3, a4, a5, a6⟩ := rx_facts (h.ext hE0) hx
  obtain ⟨cap2, q0, q1, ql, bl, b0, b1, b2, b3, b4, b5, b6⟩ := rx_facts (h2.ext hE0) hx
  have z0 := (cell_of hz0 0).trans rfl
  have z1 := (cell_of hz0 1).trans rfl
  have f0 := frozen_of hz0 0
  have f1 := frozen_of hz0 1
  have zl := lt_of hz0
  have HE0 := Lib.hid hE0
  clear hx h2 h hm hz0 hE0
  go_enter Tryz.func46, Tryz.ntmps46
  go_upto_region 1 with (fail)
  try rw [hw0]
  clear hw0
  go_wp2_with fail
  have hC0 := af_drew w0
  refine pi_start (fun w' => ∃ z : After w0, w' = z.w) [] (by kernel_rfl) ?_
  refine pi_t 0 rfl (by kernel_rfl) (by kernel_rfl) (fun _ _ _ _ h => h) (fun K hK => ?_)
  go_big_quiet_op
  refine hK _ ?_
  clear hK K
  refine pi_t 1 rfl (by kernel_rfl) (by kernel_rfl) (fun _ _ _ _ h => h) (fun K hK => ?_)
  go_big_quiet_op
  refine hK _ ?_
  clear hK K
  refine pi_t 2 rfl (by kernel_rfl) (by kernel_rfl) (fun _ _ _ _ h => h) (fun K hK => ?_)
  go_big_quiet_op
  refine hK _ ?_
  clear hK K
  refine pi_c 3 (by assumption) rfl (by kernel_rfl) (by kernel_rfl) (fun _ _ _ _ h => h) (fun K hK => ?_)
  go_big_quiet_op
  refine hK _ ?_
  clear hK K
  refine pi_t 4 rfl (by kernel_rfl) (by kernel_rfl) (fun _ _ _ _ h => h) (fun K hK => ?_)
  go_big_quiet_op
  refine hK _ ?_
  clear hK K
  refine pi_t 5 rfl (by kernel_rfl) (by kernel_rfl) (fun _ _ _ _ h => h) (fun K hK => ?_)
  go_big_quiet_op
  refine hK _ ?_
  clear hK K
  refine pi_t 6 rfl (by kernel_rfl) (by kernel_rfl) (fun _ _ _ _ h => h) (fun K hK => ?_)
  go_big_quiet_op
  refine hK _ ?_
  clear hK K
  refine pi_t 7 rfl (by kernel_rfl) (by kernel_rfl) (fun _ _ _ _ h => h) (fun K hK => ?_)
  go_big_quiet_op
  refine hK _ ?_
  clear hK K
  refine pi_t 8 rfl (by kernel_rfl) (by kernel_rfl) (fun _ _ _ _ h => h) (fun K hK => ?_)
  go_big_quiet_op
  refine hK _ ?_
  clear hK K
  refine pi_c 9 (by assumption) rfl (by kernel_rfl) (by kernel_rfl) (fun _ _ _ _ h => h) (fun K hK => ?_)
  go_big_quiet_op
  refine hK _ ?_
  clear hK K
  refine pi_t 10 rfl (by kernel_rfl) (by kernel_rfl) (fun _ _ _ _ h => h) (fun K hK => ?_)
  go_big_quiet_op
  refine hK _ ?_
  clear hK K
  refine pi_t 11 rfl (by kernel_rfl) (by kernel_rfl) (fun _ _ _ _ h => h) (fun K hK => ?_)
  go_big_quiet_op
  refine hK _ ?_
  clear hK K
  refine pi_t 12 rfl (by kernel_rfl) (by kernel_rfl) (fun _ _ _ _ h => h) (fun K hK => ?_)
  go_big_quiet_op
  refine hK _ ?_
  clear hK K
  refine pi_t 13 rfl (by kernel_rfl) (by kernel_rfl) (fun _ _ _ _ h => h) (fun K hK => ?_)
  go_big_quiet_op
  refine hK _ ?_
  clear hK K
  refine pi_t 14 rfl (by kernel_rfl) (by kernel_rfl) (fun _ _ _ _ h => h) (fun K hK => ?_)
  go_big_quiet_op
  refine hK _ ?_
  clear hK K
  refine pi_t 15 rfl (by kernel_rfl) (by kernel_rfl) (fun _ _ _ _ h => h) (fun K hK => ?_)
  go_big_quiet_op
  refine hK _ ?_
  clear hK K
  refine pi_t 20 rfl (by kernel_rfl) (by kernel_rfl) (fun _ _ _ _ h => h) (fun K hK => ?_)
  go_big_quiet_op
  refine hK _ ?_
  clear hK K
  refine pi_t 21 rfl (by kernel_rfl) (by kernel_rfl) (fun _ _ _ _ h => h) (fun K hK => ?_)
  go_big_quiet_op
  refine hK _ ?_
  clear hK K
  refine pi_t 22 rfl (by kernel_rfl) (by kernel_rfl) (fun _ _ _ _ h => h) (fun K hK => ?_)
  go_big_quiet_op
  refine hK _ ?_
  clear hK K
  refine pi_c 16 (by assumption) rfl (by kernel_rfl) (by kernel_rfl) (fun _ _ _ _ h => h) (fun K hK => ?_)
  go_big_quiet_op
  refine hK _ ?_
  clear hK K
  refine pi_t 17 rfl (by kernel_rfl) (by kernel_rfl) (fun _ _ _ _ h => h) (fun K hK => ?_)
  go_big_quiet_op
  refine hK _ ?_
  clear hK K
  refine pi_t 18 rfl (by kernel_rfl) (by kernel_rfl) (fun _ _ _ _ h => h) (fun K hK => ?_)
  go_big_quiet_op
  refine hK _ ?_
  clear hK K
  refine pi_c 19 (by assumption) rfl (by kernel_rfl) (by kernel_rfl) (fun _ _ _ _ h => h) (fun K hK => ?_)
  go_big_quiet_op
  refine hK _ ?_
  clear hK K
  refine pi_c 23 (by assumption) rfl (by kernel_rfl) (by kernel_rfl) (fun _ _ _ _ h => h) (fun K hK => ?_)
  go_big_quiet_op
  refine hK _ ?_
  clear hK K
  refine pi_t 24 rfl (by kernel_rfl) (by kernel_rfl) (fun _ _ _ _ h => h) (fun K hK => ?_)
  go_big_quiet_op
  refine hK _ ?_
  clear hK K
  refine pi_t 25 rfl (by kernel_rfl) (by kernel_rfl) (fun _ _ _ _ h => h) (fun K hK => ?_)
  go_big_quiet_op
  refine hK _ ?_
  clear hK K
  refine pi_c 26 (by assumption) rfl (by kernel_rfl) (by kernel_rfl) (fun _ _ _ _ h => h) (fun K hK => ?_)
  go_big_quiet_op
  refine hK _ ?_
  clear hK K
  refine pi_t 27 rfl (by kernel_rfl) (by kernel_rfl) (fun _ _ _ _ h => h) (fun K hK => ?_)
  go_big_quiet_op
  refine hK _ ?_
  clear hK K
  refine pi_t 28 rfl (by kernel_rfl) (by kernel_rfl) (fun _ _ _ _ h => h) (fun K hK => ?_)
  go_big_quiet_op
  refine hK _ ?_
  clear hK K
  refine pi_t 29 rfl (by kernel_rfl) (by kernel_rfl) (fun _ _ _ _ h => h) (fun K hK => ?_)
  go_big_quiet_op
  refine hK _ ?_
  clear hK K
  refine pi_t 30 rfl (by kernel_rfl) (by kernel_rfl) (fun _ _ _ _ h => h) (fun K hK => ?_)
  go_big_quiet_op
  refine hK _ ?_
  clear hK K
  refine pi_t 31 rfl (by kernel_rfl) (by kernel_rfl) (fun _ _ _ _ h => h) (fun K hK => ?_)
  go_big_quiet_op
  refine hK _ ?_
  clear hK K
  refine pi_t 32 rfl (by kernel_rfl) (by kernel_rfl) (fun _ _ _ _ h => h) (fun K hK => ?_)
  go_big_quiet_op
  refine hK _ ?_
  clear hK K
  refine pi_t 37 rfl (by kernel_rfl) (by kernel_rfl) (fun _ _ _ _ h => h) (fun K hK => ?_)
  go_big_quiet_op
  refine hK _ ?_
  clear hK K
  refine pi_t 38 rfl (by kernel_rfl) (by kernel_rfl) (fun _ _ _ _ h => h) (fun K hK => ?_)
  go_big_quiet_op
  refine hK _ ?_
  clear hK K
  refine pi_t 39 rfl (by kernel_rfl) (by kernel_rfl) (fun _ _ _ _ h => h) (fun K hK => ?_)
  go_big_quiet_op
  refine hK _ ?_
  clear hK K
  refine pi_c 33 (by assumption) rfl (by kernel_rfl) (by kernel_rfl) (fun _ _ _ _ h => h) (fun K hK => ?_)
  go_big_quiet_op
  refine hK _ ?_
  clear hK K
  refine pi_t 34 rfl (by kernel_rfl) (by kernel_rfl) (fun _ _ _ _ h => h) (fun K hK => ?_)
  go_big_quiet_op
  refine hK _ ?_
  clear hK K
  refine pi_t 35 rfl (by kernel_rfl) (by kernel_rfl) (fun _ _ _ _ h => h) (fun K hK => ?_)
  go_big_quiet_op
  refine hK _ ?_
  clear hK K
  refine pi_c 36 (by assumption) rfl (by kernel_rfl) (by kernel_rfl) (fun _ _ _ _ h => h) (fun K hK => ?_)
  go_big_quiet_op
  refine hK _ ?_
  clear hK K
  refine pi_c 40 (by assumption) rfl (by kernel_rfl) (by kernel_rfl) (fun _ _ _ _ h => h) (fun K hK => ?_)
  go_big_quiet_op
  refine hK _ ?_
  clear hK K
  refine pi_t 41 rfl (by kernel_rfl) (by kernel_rfl) (fun _ _ _ _ h => h) (fun K hK => ?_)
  go_big_quiet_op
  refine hK _ ?_
  clear hK K
  refine pi_t 42 rfl (by kernel_rfl) (by kernel_rfl) (fun _ _ _ _ h => h) (fun K hK => ?_)
  go_big_quiet_op
  refine hK _ ?_
  clear hK K
  refine pi_c 43 (by assumption) rfl (by kernel_rfl) (by kernel_rfl) (fun _ _ _ _ h => h) (fun K hK => ?_)
  go_big_quiet_op
  refine hK _ ?_
  clear hK K
  refine pi_t 44 rfl (by kernel_rfl) (by kernel_rfl) (fun _ _ _ _ h => h) (fun K hK => ?_)
  go_big_quiet_op
  refine hK _ ?_
  clear hK K
  refine pi_t 45 rfl (by kernel_rfl) (by kernel_rfl) (fun _ _ _ _ h => h) (fun K hK => ?_)
  go_big_quiet_op
  refine hK _ ?_
  clear hK K
  refine pi_end (by kernel_rfl) ?_
  go_wp2
  refine bodyPost_ret (v := .tuple #[.agg #[.int .i64 0, .int .u64 0], .int .i64 3]) (by simp [results, Tryz.results46, go_sem, *]) rfl ⟨rfl, ?_⟩
  exact (HE0.out.drewR.setR (p := ⟨w.heap.size, 0, none⟩) (Nat.le_refl _) _).setR (p := ⟨w.heap.size, 1, none⟩) (Nat.le_refl _) _
set_option maxRecDepth 20000 in
set_option maxHeartbeats 16000000 in
theorem RLInner_x1 (L L2 : RLev) (C : Cfg) (lv : Int) (l m : List Int) (w : World) (h : RLvAt w L C lv l) (h2 : RLvAt w L2 C lv m) (hx : isX C lv = true) (hm : C.mode = 1) (rh rl : Int) (ok : Bool) (hok0 : ok = false → rh = 0 ∧ rl = 0)
    (hD : ∀ W', Ext w W' → ∀ v1 v2, IntsAt W' v1 l → IntsAt W' v2 m → Calls Tryz.prog 125 #[v1, v2] W' fun e w' => e = .returned (.tuple #[.agg #[.int .i64 rh, .int .u64 rl], .bool ok]) ∧ Ext W' w') :
    Calls Tryz.prog 46 #[.pointer (some ⟨L.p, 0, none⟩), .pointer (some ⟨L2.p, 0, none⟩)] w fun e w' => e = .returned (.tuple #[.agg #[.int .i64 rh, .int .u64 rl], .int .i64 (bif ok then 0 else 4)]) ∧ Ext w w' := by
  have hm' : (C.mode != 1) = false := by simp [hm]
  obtain ⟨w0, hw0⟩ : ∃ w0, w.alloc (.cells #[.int .i64 0, .int .u64 0] 75) = w0 := ⟨_, rfl⟩
  have hz0 : w0.heap[w.heap.size]? = some (.cells #[.int .i64 0, .int .u64 0] 75 (0, 0)) := by rw [← hw0]; exact heap_at _ _ rfl
  have hE0 : Ext w w0 := by rw [← hw0]; exact Ext.alloc' _ _
  obtain ⟨cap, p0, p1, pl, al, a0, a1, a2, a3, a4, a5, a6⟩ := rx_facts (h.ext hE0) hx
  obtain ⟨cap2, q0, q1, ql, bl, b0, b1, b2, b3, b4, b5, b6⟩ := rx_facts (h2.ext hE0) hx
  have HZ0 := Lib.hid hz0
  have HE0 := Lib.hid hE0
  have HI1 := Lib.hid (fun W' (hE : Ext w0 W') => (((h.ext hE0).ext hE).x hx).2.ints (cap := cap))
  have HI2 := Lib.hid (fun W' (hE : Ext w0 W') => (((h2.ext hE0).ext hE).x hx).2.ints (cap := cap2))
  have HD := Lib.hid hD
  have HOK0 := Lib.hid hok0
  clear hx h2 h hm hz0 hE0 hD hok0
  go_enter Tryz.func46, Tryz.ntmps46
  go_upto_region 1 with (fail)
  try rw [hw0]
  clear hw0
  go_wp2_with fail
  have hC0 := af_drew w0
  refine pi_start (fun w' => ∃ z : After w0, w' = z.w) [] (by kernel_rfl) ?_
  refine pi_t 0 rfl (by kernel_rfl) (by kernel_rfl) (fun _ _ _ _ h => h) (fun K hK => ?_)
  go_big_quiet_op
  refine hK _ ?_
  clear hK K
  refine pi_t 1 rfl (by kernel_rfl) (by kernel_rfl) (fun _ _ _ _ h => h) (fun K hK => ?_)
  go_big_quiet_op
  refine hK _ ?_
  clear hK K
  refine pi_t 2 rfl (by kernel_rfl) (by kernel_rfl) (fun _ _ _ _ h => h) (fun K hK => ?_)
  go_big_quiet_op
  refine hK _ ?_
  clear hK K
  refine pi_c 3 (by assumption) rfl (by kernel_rfl) (by kernel_rfl) (fun _ _ _ _ h => h) (fun K hK => ?_)
  go_big_quiet_op
  refine hK _ ?_
  clear hK K
  refine pi_t 4 rfl (by kernel_rfl) (by kernel_rfl) (fun _ _ _ _ h => h) (fun K hK => ?_)
  go_big_quiet_op
  refine hK _ ?_
  clear hK K
  refine pi_t 5 rfl (by kernel_rfl) (by kernel_rfl) (fun _ _ _ _ h => h) (fun K hK => ?_)
  go_big_quiet_op
  refine hK _ ?_
  clear hK K
  refine pi_t 6 rfl (by kernel_rfl) (by kernel_rfl) (fun _ _ _ _ h => h) (fun K hK => ?_)
  go_big_quiet_op
  refine hK _ ?_
  clear hK K
  refine pi_t 7 rfl (by kernel_rfl) (by kernel_rfl) (fun _ _ _ _ h => h) (fun K hK => ?_)
  go_big_quiet_op
  refine hK _ ?_
  clear hK K
  refine pi_t 8 rfl (by kernel_rfl) (by kernel_rfl) (fun _ _ _ _ h => h) (fun K hK => ?_)
  go_big_quiet_op
  refine hK _ ?_
  clear hK K
  refine pi_c 9 (by assumption) rfl (by kernel_rfl) (by kernel_rfl) (fun _ _ _ _ h => h) (fun K hK => ?_)
  go_big_quiet_op
  refine hK _ ?_
  clear hK K
  refine pi_t 10 rfl (by kernel_rfl) (by kernel_rfl) (fun _ _ _ _ h => h) (fun K hK => ?_)
  go_big_quiet_op
  refine hK _ ?_
  clear hK K
  refine pi_t 11 rfl (by kernel_rfl) (by kernel_rfl) (fun _ _ _ _ h => h) (fun K hK => ?_)
  go_big_quiet_op
  refine hK _ ?_
  clear hK K
  refine pi_t 12 rfl (by kernel_rfl) (by kernel_rfl) (fun _ _ _ _ h => h) (fun K hK => ?_)
  go_big_quiet_op
  refine hK _ ?_
  clear hK K
  refine pi_t 13 rfl (by kernel_rfl) (by kernel_rfl) (fun _ _ _ _ h => h) (fun K hK => ?_)
  go_big_quiet_op
  refine hK _ ?_
  clear hK K
  refine pi_t 14 rfl (by kernel_rfl) (by kernel_rfl) (fun _ _ _ _ h => h) (fun K hK => ?_)
  go_big_quiet_op
  refine hK _ ?_
  clear hK K
  refine pi_t 15 rfl (by kernel_rfl) (by kernel_rfl) (fun _ _ _ _ h => h) (fun K hK => ?_)
  go_big_quiet_op
  refine hK _ ?_
  clear hK K
  refine pi_t 20 rfl (by kernel_rfl) (by kernel_rfl) (fun _ _ _ _ h => h) (fun K hK => ?_)
  go_big_quiet_op
  refine hK _ ?_
  clear hK K
  refine pi_t 21 rfl (by kernel_rfl) (by kernel_rfl) (fun _ _ _ _ h => h) (fun K hK => ?_)
  go_big_quiet_op
  refine hK _ ?_
  clear hK K
  refine pi_t 22 rfl (by kernel_rfl) (by kernel_rfl) (fun _ _ _ _ h => h) (fun K hK => ?_)
  go_big_quiet_op
  refine hK _ ?_
  clear hK K
  refine pi_c 16 (by assumption) rfl (by kernel_rfl) (by kernel_rfl) (fun _ _ _ _ h => h) (fun K hK => ?_)
  go_big_quiet_op
  refine hK _ ?_
  clear hK K
  refine pi_t 17 rfl (by kernel_rfl) (by kernel_rfl) (fun _ _ _ _ h => h) (fun K hK => ?_)
  go_big_quiet_op
  refine hK _ ?_
  clear hK K
  refine pi_t 18 rfl (by kernel_rfl) (by kernel_rfl) (fun _ _ _ _ h => h) (fun K hK => ?_)
  go_big_quiet_op
  refine hK _ ?_
  clear hK K
  refine pi_c 19 (by assumption) rfl (by kernel_rfl) (by kernel_rfl) (fun _ _ _ _ h => h) (fun K hK => ?_)
  go_big_quiet_op
  refine hK _ ?_
  clear hK K
  refine pi_c 23 (by assumption) rfl (by kernel_rfl) (by kernel_rfl) (fun _ _ _ _ h => h) (fun K hK => ?_)
  go_big_quiet_op
  refine hK _ ?_
  clear hK K
  refine pi_t 24 rfl (by kernel_rfl) (by kernel_rfl) (fun _ _ _ _ h => h) (fun K hK => ?_)
  go_big_quiet_op
  refine hK _ ?_
  clear hK K
  refine pi_t 25 rfl (by kernel_rfl) (by kernel_rfl) (fun _ _ _ _ h => h) (fun K hK => ?_)
  go_big_quiet_op
  refine hK _ ?_
  clear hK K
  refine pi_c 26 (by assumption) rfl (by kernel_rfl) (by kernel_rfl) (fun _ _ _ _ h => h) (fun K hK => ?_)
  go_big_quiet_op
  refine hK _ ?_
  clear hK K
  refine pi_t 27 rfl (by kernel_rfl) (by kernel_rfl) (fun _ _ _ _ h => h) (fun K hK => ?_)
  go_big_quiet_op
  refine hK _ ?_
  clear hK K
  refine pi_t 28 rfl (by kernel_rfl) (by kernel_rfl) (fun _ _ _ _ h => h) (fun K hK => ?_)
  go_big_quiet_op
  refine hK _ ?_
  clear hK K
  refine pi_t 29 rfl (by kernel_rfl) (by kernel_rfl) (fun _ _ _ _ h => h) (fun K hK => ?_)
  go_big_quiet_op
  refine hK _ ?_
  clear hK K
  refine pi_t 30 rfl (by kernel_rfl) (by kernel_rfl) (fun _ _ _ _ h => h) (fun K hK => ?_)
  go_big_quiet_op
  refine hK _ ?_
  clear hK K
  refine pi_t 31 rfl (by kernel_rfl) (by kernel_rfl) (fun _ _ _ _ h => h) (fun K hK => ?_)
  go_big_quiet_op
  refine hK _ ?_
  clear hK K
  refine pi_t 32 rfl (by kernel_rfl) (by kernel_rfl) (fun _ _ _ _ h => h) (fun K hK => ?_)
  go_big_quiet_op
  refine hK _ ?_
  clear hK K
  refine pi_t 37 rfl (by kernel_rfl) (by kernel_rfl) (fun _ _ _ _ h => h) (fun K hK => ?_)
  go_big_quiet_op
  refine hK _ ?_
  clear hK K
  refine pi_t 38 rfl (by kernel_rfl) (by kernel_rfl) (fun _ _ _ _ h => h) (fun K hK => ?_)
  go_big_quiet_op
  refine hK _ ?_
  clear hK K
  refine pi_t 39 rfl (by kernel_rfl) (by kernel_rfl) (fun _ _ _ _ h => h) (fun K hK => ?_)
  go_big_quiet_op
  refine hK _ ?_
  clear hK K
  refine pi_c 33 (by assumption) rfl (by kernel_rfl) (by kernel_rfl) (fun _ _ _ _ h => h) (fun K hK => ?_)
  go_big_quiet_op
  refine hK _ ?_
  clear hK K
  refine pi_t 34 rfl (by kernel_rfl) (by kernel_rfl) (fun _ _ _ _ h => h) (fun K hK => ?_)
  go_big_quiet_op
  refine hK _ ?_
  clear hK K
  refine pi_t 35 rfl (by kernel_rfl) (by kernel_rfl) (fun _ _ _ _ h => h) (fun K hK => ?_)
  go_big_quiet_op
  refine hK _ ?_
  clear hK K
  refine pi_c 36 (by assumption) rfl (by kernel_rfl) (by kernel_rfl) (fun _ _ _ _ h => h) (fun K hK => ?_)
  go_big_quiet_op
  refine hK _ ?_
  clear hK K
  refine pi_c 40 (by assumption) rfl (by kernel_rfl) (by kernel_rfl) (fun _ _ _ _ h => h) (fun K hK => ?_)
  go_big_quiet_op
  refine hK _ ?_
  clear hK K
  refine pi_t 41 rfl (by kernel_rfl) (by kernel_rfl) (fun _ _ _ _ h => h) (fun K hK => ?_)
  go_big_quiet_op
  refine hK _ ?_
  clear hK K
  refine pi_t 42 rfl (by kernel_rfl) (by kernel_rfl) (fun _ _ _ _ h => h) (fun K hK => ?_)
  go_big_quiet_op
  refine hK _ ?_
  clear hK K
  refine pi_c 43 (by assumption) rfl (by kernel_rfl) (by kernel_rfl) (fun _ _ _ _ h => h) (fun K hK => ?_)
  go_big_quiet_op
  refine hK _ ?_
  clear hK K
  refine pi_t 44 rfl (by kernel_rfl) (by kernel_rfl) (fun _ _ _ _ h => h) (fun K hK => ?_)
  go_big_quiet_op
  refine hK _ ?_
  clear hK K
  refine pi_t 45 rfl (by kernel_rfl) (by kernel_rfl) (fun _ _ _ _ h => h) (fun K hK => ?_)
  go_big_quiet_op
  refine hK _ ?_
  clear hK K
  refine pi_end (by kernel_rfl) ?_
  go_wp2_with fail
  have hEd : Ext w0 w0.drew := Below.drew (Ext.refl w0)
  have p0' := ((bcell hEd).1 L.p 0 pl).trans p0
  have pl' := Nat.lt_of_lt_of_le pl hEd.size
  have al' := Nat.lt_of_lt_of_le al hEd.size
  have a6' := ((bcell hEd).1 L.a 6 al).trans a6
  have q0' := ((bcell hEd).1 L2.p 0 ql).trans q0
  have ql' := Nat.lt_of_lt_of_le ql hEd.size
  have bl' := Nat.lt_of_lt_of_le bl hEd.size
  have b6' := ((bcell hEd).1 L2.a 6 bl).trans b6
  clear p0 p1 pl al a0 a1 a2 a3 a4 a5 a6 q0 q1 ql bl b0 b1 b2 b3 b4 b5 b6
  generalize w0.drew = wd at *
  have HED := Lib.hid hEd
  have HDD := Lib.hid (fun (W' : World) (hW : Ext wd W') => HD.out W' (HE0.out.trans' (HED.out.trans' hW)) _ _ (HI1.out W' (HED.out.trans' hW)) (HI2.out W' (HED.out.trans' hW)))
  clear hEd
  go_upto_region 7 with (fail)
  go_cut [6, 7] (fun sA sB wx => ∃ z : Nat, sA = .pointer (some ⟨z, 0, none⟩) ∧ sB = .bool ok ∧ wx.heap[z]? = some (.cells #[.int .i64 rh, .int .u64 rl] 75 (0, 0)) ∧ Ext wd wx ∧ wd.heap.size ≤ z)
  case first =>
    have hC0 := af_drew wd
    refine pi_start (fun w' => ∃ x : After wd, w' = x.w) [] (by kernel_rfl) ?_
    refine pi_t 0 rfl (by kernel_rfl) (by kernel_rfl) (fun _ _ _ _ h => h) (fun K hK => ?_)
    go_big_quiet_op
    refine hK _ ?_
    clear hK K
    refine pi_t 1 rfl (by kernel_rfl) (by kernel_rfl) (fun _ _ _ _ h => h) (fun K hK => ?_)
    go_big_quiet_op
    refine hK _ ?_
    clear hK K
    refine pi_t 2 rfl (by kernel_rfl) (by kernel_rfl) (fun _ _ _ _ h => h) (fun K hK => ?_)
    go_big_quiet_op
    refine hK _ ?_
    clear hK K
    refine pi_t 7 rfl (by kernel_rfl) (by kernel_rfl) (fun _ _ _ _ h => h) (fun K hK => ?_)
    go_big_quiet_op
    refine hK _ ?_
    clear hK K
    refine pi_t 8 rfl (by kernel_rfl) (by kernel_rfl) (fun _ _ _ _ h => h) (fun K hK => ?_)
    go_big_quiet_op
    refine hK _ ?_
    clear hK K
    refine pi_t 9 rfl (by kernel_rfl) (by kernel_rfl) (fun _ _ _ _ h => h) (fun K hK => ?_)
    go_big_quiet_op
    refine hK _ ?_
    clear hK K
    refine pi_c 3 (by assumption) rfl (by kernel_rfl) (by kernel_rfl) (fun _ _ _ _ h => h) (fun K hK => ?_)
    go_big_quiet_op
    refine hK _ ?_
    clear hK K
    refine pi_t 4 rfl (by kernel_rfl) (by kernel_rfl) (fun _ _ _ _ h => h) (fun K hK => ?_)
    go_big_quiet_op
    refine hK _ ?_
    clear hK K
    refine pi_t 5 rfl (by kernel_rfl) (by kernel_rfl) (fun _ _ _ _ h => h) (fun K hK => ?_)
    go_big_quiet_op
    refine hK _ ?_
    clear hK K
    refine pi_c 6 (by assumption) rfl (by kernel_rfl) (by kernel_rfl) (fun _ _ _ _ h => h) (fun K hK => ?_)
    go_big_quiet_op
    refine hK _ ?_
    clear hK K
    refine pi_c 10 (by assumption) rfl (by kernel_rfl) (by kernel_rfl) (fun _ _ _ _ h => h) (fun K hK => ?_)
    go_big_quiet_op
    refine hK _ ?_
    clear hK K
    refine pi_t 11 rfl (by kernel_rfl) (by kernel_rfl) (fun _ _ _ _ h => h) (fun K hK => ?_)
    go_big_quiet_op
    refine hK _ ?_
    clear hK K
    refine pi_t 12 rfl (by kernel_rfl) (by kernel_rfl) (fun _ _ _ _ h => h) (fun K hK => ?_)
    go_big_quiet_op
    refine hK _ ?_
    clear hK K
    refine pi_c 13 (by assumption) rfl (by kernel_rfl) (by kernel_rfl) (fun _ _ _ _ h => h) (fun K hK => ?_)
    go_big_quiet_op
    refine hK _ ?_
    clear hK K
    refine pi_b 14 18 rfl rfl (by kernel_rfl) (fun K hK => ?_) (fun K hK => ?_)
    · skip
      go_wp2_with (go_at_call 125; refine (HDD.out _ (by (repeat' (first | exact Ext.refl _ | assumption | apply Ext.allocR | apply Ext.drewR | apply Ext.drewNR | (refine Ext.trans' ?_ (by assumption)))))).mono ?_; rintro e wa ⟨rfl, hxa⟩)
      refine hK _ _ (fun _ h => af_step h hxa) ?_
      clear hK K
      have hEa : Ext wd wa := Ext.trans' (Below.drew (Ext.refl wd)) hxa
      refine pi_t 15 rfl (by kernel_rfl) (by kernel_rfl) (fun _ _ _ _ h => h) (fun K hK => ?_)
      go_big_quiet_op
      refine hK _ ?_
      clear hK K
      refine pi_t 16 rfl (by kernel_rfl) (by kernel_rfl) (fun _ _ _ _ h => h) (fun K hK => ?_)
      go_big_quiet_op
      refine hK _ ?_
      clear hK K
      refine pi_t 17 rfl (by kernel_rfl) (by kernel_rfl) (fun _ _ _ _ h => h) (fun K hK => ?_)
      go_big_quiet_op
      refine hK _ ?_
      clear hK K
      refine pi_l 18 rfl (by kernel_rfl) (fun K hK => ?_)
      go_wp2
      refine hK _ _ (fun _ h => af_step h (Ext.alloc' _ _)) ?_
      clear hK K
      refine pi_l 19 rfl (by kernel_rfl) (fun K hK => ?_)
      go_wp2
      have hsz := hEa.size
      refine hK _ _ (fun _ h => ⟨⟨_, hEa.allocR _⟩, rfl⟩) ?_
      clear hK K
      refine pi_t 20 rfl (by kernel_rfl) (by kernel_rfl) (fun _ _ _ _ h => h) (fun K hK => ?_)
      go_big_quiet_op
      refine hK _ ?_
      clear hK K
      refine pi_end (by kernel_rfl) ?_
      go_wp2_with fail
      go_meet
      exact ⟨_, rfl, rfl, heap_at _ _ rfl, hEa.allocR _, hsz⟩
    · go_wp2
      refine hK _ _ (fun _ h => af_step h (Ext.alloc' _ _)) ?_
      clear hK K
      refine pi_l 14 rfl (by kernel_rfl) (fun K hK => ?_)
      skip
      go_wp2_with (go_at_call 125; refine (HDD.out _ (by (repeat' (first | exact Ext.refl _ | assumption | apply Ext.allocR | apply Ext.drewR | apply Ext.drewNR | (refine Ext.trans' ?_ (by assumption)))))).mono ?_; rintro e wa ⟨rfl, hxa⟩)
      refine hK _ _ (fun _ h => af_step h hxa) ?_
      clear hK K
      have hEa : Ext wd wa := Ext.trans' (Ext.alloc' wd _) (Ext.trans' (Below.drew (Ext.refl _)) hxa)
      have hbx : wa.heap[wd.heap.size]? = some (.cells #[.int .i64 0, .int .u64 0] 75 (0, 0)) := hxa.keep (heap_at (World.drew wd) _ rfl)
      have p0 := (cell_of hbx 0).trans rfl
      have p1 := (cell_of hbx 1).trans rfl
      have f0 := frozen_of hbx 0
      have f1 := frozen_of hbx 1
      have HBX := Lib.hid hbx
      clear hbx
      refine pi_t 15 rfl (by kernel_rfl) (by kernel_rfl) (fun _ _ _ _ h => h) (fun K hK => ?_)
      go_big_quiet_op
      refine hK _ ?_
      clear hK K
      refine pi_t 16 rfl (by kernel_rfl) (by kernel_rfl) (fun _ _ _ _ h => h) (fun K hK => ?_)
      go_big_quiet_op
      refine hK _ ?_
      clear hK K
      refine pi_t 17 rfl (by kernel_rfl) (by kernel_rfl) (fun _ _ _ _ h => h) (fun K hK => ?_)
      go_big_quiet_op
      refine hK _ ?_
      clear hK K
      refine pi_l 19 rfl (by kernel_rfl) (fun K hK => ?_)
      go_wp2
      refine hK _ _ (fun _ h => ⟨⟨_, (hEa.setR (p := ⟨wd.heap.size, 0, none⟩) (Nat.le_refl _) _).setR (p := ⟨wd.heap.size, 1, none⟩) (Nat.le_refl _) _⟩, rfl⟩) ?_
      clear hK K
      refine pi_t 20 rfl (by kernel_rfl) (by kernel_rfl) (fun _ _ _ _ h => h) (fun K hK => ?_)
      go_big_quiet_op
      refine hK _ ?_
      clear hK K
      refine pi_end (by kernel_rfl) ?_
      go_wp2_with fail
      go_meet
      exact ⟨_, rfl, rfl, set2 HBX.out _ _, (hEa.setR (p := ⟨wd.heap.size, 0, none⟩) (Nat.le_refl _) _).setR (p := ⟨wd.heap.size, 1, none⟩) (Nat.le_refl _) _, Nat.le_refl _⟩
  case rest =>
    obtain ⟨z, rfl, rfl, hz, hEc, hzz⟩ := hcut
    rename World => we
    have y0 := (cell_of hz 0).trans rfl
    have y1 := (cell_of hz 1).trans rfl
    have zl := lt_of hz
    obtain ⟨z0, z1, f0, f1, zl0⟩ := zbox3 HZ0.out (HED.out.trans' hEc)
    have hEf := HE0.out.trans' (HED.out.trans' hEc)
    clear p0' pl' al' a6' q0' ql' bl' b6' hz
    cases ok
    · obtain ⟨rfl, rfl⟩ := HOK0.out rfl
      go_wp2
      refine bodyPost_ret (v := .tuple #[.agg #[.int .i64 0, .int .u64 0], .int .i64 4]) (by simp [results, Tryz.results46, go_sem, *]) rfl ⟨rfl, ?_⟩
      exact (hEf.setR (p := ⟨w.heap.size, 0, none⟩) (Nat.le_refl _) _).setR (p := ⟨w.heap.size, 1, none⟩) (Nat.le_refl _) _
    · go_wp2
      refine bodyPost_ret (v := .tuple #[.agg #[.int .i64 rh, .int .u64 rl], .int .i64 0]) (by simp [results, Tryz.results46, go_sem, *]) rfl ⟨rfl, ?_⟩
      exact (hEf.setR (p := ⟨w.heap.size, 0, none⟩) (Nat.le_refl _) _).setR (p := ⟨w.heap.size, 1, none⟩) (Nat.le_refl _) _
theorem RLInner_c (L L2 : RLev) (C : Cfg) (lv : Int) (l m : List Int) (w : World) (h : RLvAt w L C lv l) (h2 : RLvAt w L2 C lv m) :
    Calls Tryz.prog 46 #[.pointer (some ⟨L.p, 0, none⟩), .pointer (some ⟨L2.p, 0, none⟩)] w fun e w' => e = .returned (.tuple #[.agg #[.int .i64 (inV C lv l m).1, .int .u64 (inV C lv l m).2.1], .int .i64 (inV C lv l m).2.2]) ∧ Ext w w' := by
  by_cases hm : C.mode = 1
  · cases hx : isX C lv with
    | false =>
      refine RLInner_s L L2 C lv l m w h h2 hx _ _ _ (fun W' hE => ?_)
      rw [← innV_eq hm]
      have e : lvInn C lv l m = innF l m (wN C) (rN C) := by unfold lvInn; rw [hx]; rfl
      rw [e]
      exact RInner_c _ _ _ _ C lv _ _ l m W' ((h.ext hE).sk hx).2 ((h2.ext hE).sk hx).2 hm
    | true =>
      have e : lvInn C lv l m = dotF l m (kN C lv) := by unfold lvInn; rw [hx]; rfl
      have hA := (h.x hx).2
      have hA2 := (h2.x hx).2
      have hk2 := hA.k2
      have hv : inV C lv l m = (match dotF l m (kN C lv) with | some s => (hi s, lo s, 0) | none => (0, 0, 4)) := by unfold inV; rw [if_pos hm, e] <;> rfl
      have hD : ∀ W', Ext w W' → ∀ v1 v2, IntsAt W' v1 l → IntsAt W' v2 m → Calls Tryz.prog 125 #[v1, v2] W' fun e w' => e = .returned (dotV (dotF l m (kN C lv))) ∧ Ext W' w' := fun W' _ v1 v2 h1 h2 => by
        have := RefDot_c l m v1 v2 W' hA.fit hA2.fit (by rw [hA.len, hA2.len]) (by rw [hA.len]; omega) h1 h2
        rw [hA.len] at this
        exact this
      rw [hv]
      cases hd : dotF l m (kN C lv) with
      | none => rw [hd] at hD; exact RLInner_x1 L L2 C lv l m w h h2 hx hm 0 0 false (fun _ => ⟨rfl, rfl⟩) hD
      | some s => rw [hd] at hD; exact RLInner_x1 L L2 C lv l m w h h2 hx hm (hi s) (lo s) true (fun h => by cases h) hD
  · rw [inV_mode hm]
    cases hx : isX C lv with
    | true => exact RLInner_xm L L2 C lv l m w h h2 hx hm
    | false => exact RLInner_s L L2 C lv l m w h h2 hx 0 0 3 (fun W' hE => RInner_mode _ _ _ _ C lv _ _ l m W' ((h.ext hE).sk hx).2 ((h2.ext hE).sk hx).2 hm)
theorem LInnerAny_c (C : Cfg) (lv : Int) (L L2 : Lev) (l m : List Int) (w : World) (h : LvAt w L C lv l) (h2 : LvAt w L2 C lv m) :
    Calls Tryz.prog 45 #[lvV C lv L, lvV C lv L2] w fun e w' => e = .returned (.tuple #[.agg #[.int .i64 (inV C lv l m).1, .int .u64 (inV C lv l m).2.1], .int .i64 (inV C lv l m).2.2]) ∧ Ext w w' := by
  by_cases hm : C.mode = 1
  · rw [← innV_eq hm]; exact LInner_c C lv L L2 l m w h h2 hm
  · rw [inV_mode hm]; exact LInner_mode C lv L L2 l m w h h2 hm
end Go.Proofs.YtfhdjekpdifajaaGreat
namespace Go.Proofs.YtfhdjekpdifajaaGreat
set_option linter.unusedVariables false
open Go.RowKit
def RKJoinPost (w : World) (s : Nat) (C : Cfg) (B : Nat) (ms : Nat → List Int) (e : Ending) (w' : World) : Prop :=
  ((∀ n, n ≤ B → allI (ms n)) ∧ e = .returned (.int .i64 0) ∧ ∃ t L, RKAt w' s t C B L ms ∧ (∀ k, rkF s t C B L k → k = s ∨ w.heap.size ≤ k) ∧ Mod (fun k => k = s) w w') ∨ ((¬ ∀ n, n ≤ B → allI (ms n)) ∧ e = .returned (.int .i64 4) ∧ Ext w w')
def partJ (ms ls : Nat → List Int) (k n : Nat) : List Int := if n < k then ms n else ls n
theorem partJ_zero (ms ls : Nat → List Int) (n : Nat) : partJ ms ls 0 n = ls n := by unfold partJ; rw [if_neg (Nat.not_lt_zero _)]
theorem partJ_at (ms ls : Nat → List Int) (k : Nat) : partJ ms ls k k = ls k := by unfold partJ; rw [if_neg (Nat.lt_irrefl _)]
theorem partJ_succ (ms ls : Nat → List Int) (k n : Nat) : (if n = k then ms k else partJ ms ls k n) = partJ ms ls (k + 1) n := by
  unfold partJ
  by_cases e : n = k
  · subst e; rw [if_pos rfl, if_pos (Nat.lt_succ_self _)]
  · rw [if_neg e]
    by_cases e2 : n < k
    · rw [if_pos e2, if_pos (by omega)]
    · rw [if_neg e2, if_neg (by omega)]
theorem RKAt.cfg {w : World} {s t : Nat} {C : Cfg} {B : Nat} {L : Nat → RLev} {ls : Nat → List Int} (h : RKAt w s t C B L ls) : w.cell? ⟨s, 0, none⟩ = some (.int .i64 C.bits) ∧ w.cell? ⟨s, 1, none⟩ = some (.int .i64 C.rows) ∧ w.cell? ⟨s, 2, none⟩ = some (.int .i64 C.width) ∧ w.cell? ⟨s, 3, none⟩ = some (.int .i64 C.mode) ∧ w.cell? ⟨s, 4, none⟩ = some (.int .u64 C.seed) := by
  obtain ⟨cap, hex, _⟩ := h.ex
  exact ⟨(cell_of hex 0).trans rfl, (cell_of hex 1).trans rfl, (cell_of hex 2).trans rfl, (cell_of hex 3).trans rfl, (cell_of hex 4).trans rfl⟩
theorem RKAt.nlev {w : World} {s t : Nat} {C : Cfg} {B : Nat} {L : Nat → RLev} {ls : Nat → List Int} (h : RKAt w s t C B L ls) {n : Nat} (hn : n ≤ B) : ¬ (L n).foot C n s ∧ ¬ (L n).foot C n t := by
  obtain ⟨cap, h1, _⟩ := h.ex
  obtain ⟨cur, h3, _⟩ := h.row
  exact ⟨fun hf => ((h.lev n hn).ty hf h1).2 rfl, fun hf => ((h.lev n hn).ty hf h3).1 rfl⟩
set_option maxRecDepth 20000 in
set_option maxHeartbeats 8000000 in
theorem RKJoinPlus_c (s t s2 t2 : Nat) (C : Cfg) (B : Nat) (L0 L2 : Nat → RLev) (ls ls2 : Nat → List Int) (w : World) (h : RKAt w s t C B L0 ls) (h2 : RKAt w s2 t2 C B L2 ls2) (hmd : "Plus" = "Minus" → C.mode ≠ 2) :
    Calls Tryz.prog 64 #[.pointer (some ⟨s, 0, none⟩), .pointer (some ⟨s2, 0, none⟩), .int .i64 1] w (RKJoinPost w s C B (fun n => plusL (ls n) (ls2 n))) := by
  have hok := h.ok
  have hb2 := hok.b2
  have hB := h.hB
  have hbd : B ≤ 59 := by omega
  have HB := Lib.hid hB
  have HH := Lib.hid h
  have HH2 := Lib.hid h2
  have hls := h.lts
  have hls2 := h2.lts
  have hlt2 := h2.ltt
  obtain ⟨cap, hex, hcap⟩ := h.ex
  have HEX := Lib.hid hex
  obtain ⟨c0, c1, c2, c3, c4⟩ := h.cfg
  obtain ⟨d0, d1, d2, d3, d4⟩ := h2.cfg
  have HMD := Lib.hid hmd
  have HOK := Lib.hid hok
  clear hex h h2 hB hb2 hmd hok
  obtain ⟨ms, hms⟩ : ∃ ms : Nat → List Int, ms = fun n => plusL (ls n) (ls2 n) := ⟨_, rfl⟩
  have HMS := Lib.hid hms
  rw [← hms]
  clear hms
  go_enter Tryz.func64, Tryz.ntmps64
  go_wp2_with fail
  have hC0 := af_drew w
  refine pi_start (fun w' => ∃ z : After w, w' = z.w) [] (by kernel_rfl) ?_
  refine pi_t 0 rfl (by kernel_rfl) (by kernel_rfl) (fun _ _ _ _ h => h) (fun K hK => ?_)
  go_big_quiet_op
  refine hK _ ?_
  clear hK K
  refine pi_t 1 rfl (by kernel_rfl) (by kernel_rfl) (fun _ _ _ _ h => h) (fun K hK => ?_)
  go_big_quiet_op
  refine hK _ ?_
  clear hK K
  refine pi_t 2 rfl (by kernel_rfl) (by kernel_rfl) (fun _ _ _ _ h => h) (fun K hK => ?_)
  go_big_quiet_op
  refine hK _ ?_
  clear hK K
  refine pi_t 4 rfl (by kernel_rfl) (by kernel_rfl) (fun _ _ _ _ h => h) (fun K hK => ?_)
  go_big_quiet_op
  refine hK _ ?_
  clear hK K
  refine pi_t 5 rfl (by kernel_rfl) (by kernel_rfl) (fun _ _ _ _ h => h) (fun K hK => ?_)
  go_big_quiet_op
  refine hK _ ?_
  clear hK K
  refine pi_t 6 rfl (by kernel_rfl) (by kernel_rfl) (fun _ _ _ _ h => h) (fun K hK => ?_)
  go_big_quiet_op
  refine hK _ ?_
  clear hK K
  refine pi_c 3 (by assumption) rfl (by kernel_rfl) (by kernel_rfl) (fun _ _ _ _ h => h) (fun K hK => ?_)
  go_big_quiet_op
  refine hK _ ?_
  clear hK K
  refine pi_c 7 (by assumption) rfl (by kernel_rfl) (by kernel_rfl) (fun _ _ _ _ h => h) (fun K hK => ?_)
  go_big_quiet_op
  refine hK _ ?_
  clear hK K
  refine pi_t 8 rfl (by kernel_rfl) (by kernel_rfl) (fun _ _ _ _ h => h) (fun K hK => ?_)
  go_big_quiet_op
  refine hK _ ?_
  clear hK K
  refine pi_end (by kernel_rfl) ?_
  have hE0 : Ext w w.drew := Below.drew (Ext.refl w)
  have HCP := Lib.hid (RKCopy_c s t C B L0 ls w.drew (HH.out.ext hE0))
  have HE0 := Lib.hid hE0
  clear c0 c1 c2 c3 c4 d0 d1 d2 d3 d4 hE0
  go_wp2_with fail
  refine Calls.mono HCP.out ?_
  rintro e w2 ⟨a, ta, La, rfl, hK2, hF2, hx2⟩
  have hE2 := HE0.out.trans' hx2
  have HF2 : Hid (∀ k, rkF a ta C B La k → w.heap.size ≤ k) := Lib.hid (fun k hk => Nat.le_trans HE0.out.size (hF2 k hk))
  have HK2 : Hid (RKAt w2 a ta C B La (partJ ms ls 0)) := Lib.hid (hK2.cong (fun n _ => (partJ_zero ms ls n).symm))
  clear hK2 hF2 hx2
  go_wp2_with fail
  go_loopw [8] (fun u8 wr => ∃ (k : Nat) (M : Nat → RLev), k ≤ B + 1 ∧ u8 = .int .i64 k ∧ RKAt wr a ta C B M (partJ ms ls k) ∧ (∀ j, rkF a ta C B M j → w.heap.size ≤ j) ∧ Ext w wr ∧ ∀ m, m < k → allI (ms m)) (fun u8 _ => B + 1 - (intOf u8).toNat)
  case atStart => exact ⟨0, La, Nat.zero_le _, rfl, HK2.out, HF2.out, hE2, fun m hm => absurd hm (Nat.not_lt_zero _)⟩
  case round =>
    clear hE2 HK2 HF2
    obtain ⟨k, M, hk, rfl, hK, hF, hE, hz⟩ := hrel
    have HZ := Lib.hid hz
    have HK := Lib.hid hK
    have HF := Lib.hid hF
    have HE := Lib.hid hE
    obtain ⟨cap2, hex2, hcap2⟩ := hK.ex
    have a5 := (cell_of hex2 5).trans rfl
    have al := lt_of hex2
    have ltt := hK.ltt
    by_cases hlk : k < B + 1
    · have ck := hK.cell (show k ≤ B by omega)
      have hlev := hK.lev k (by omega)
      rw [partJ_at] at hlev
      have hr2 := HH2.out.ext hE
      obtain ⟨cap3, hex3, hcap3⟩ := hr2.ex
      have b5 := (cell_of hex3 5).trans rfl
      have bl := lt_of hex3
      have bk := hr2.cell (show k ≤ B by omega)
      have btt := hr2.ltt
      have HLEV := Lib.hid hlev
      have HLEV2 := Lib.hid (hr2.lev k (by omega))
      have hkz : (k : Int) < (B : Int) + 1 := by omega
      obtain ⟨S, hS⟩ : ∃ S : Nat → Prop, (M k).foot C k = S := ⟨_, rfl⟩
      have HSS := Lib.hid hS
      have ns1 : ¬ S a := by rw [← hS]; exact (hK.nlev (show k ≤ B by omega)).1
      have ns2 : ¬ S ta := by rw [← hS]; exact (hK.nlev (show k ≤ B by omega)).2
      have ns3 : ¬ S s2 := fun hf => by rw [← hS] at hf; have := hF _ (.inr (.inr ⟨k, by omega, hf⟩)); omega
      have ns4 : ¬ S t2 := fun hf => by rw [← hS] at hf; have := hF _ (.inr (.inr ⟨k, by omega, hf⟩)); omega
      clear hex2 hex3 hz hK hF hE hlev hr2 hS
      rename World => wr
      go_wp2_with fail
      have hC0 := afs_drew S wr
      refine pi_start (fun w' => ∃ x : AftS S wr, w' = x.w) [] (by kernel_rfl) ?_
      refine pi_t 0 rfl (by kernel_rfl) (by kernel_rfl) (fun _ _ _ _ h => h) (fun K hK => ?_)
      go_big_quiet_op
      refine hK _ ?_
      clear hK K
      refine pi_t 1 rfl (by kernel_rfl) (by kernel_rfl) (fun _ _ _ _ h => h) (fun K hK => ?_)
      go_big_quiet_op
      refine hK _ ?_
      clear hK K
      refine pi_t 2 rfl (by kernel_rfl) (by kernel_rfl) (fun _ _ _ _ h => h) (fun K hK => ?_)
      go_big_quiet_op
      refine hK _ ?_
      clear hK K
      refine pi_t 4 rfl (by kernel_rfl) (by kernel_rfl) (fun _ _ _ _ h => h) (fun K hK => ?_)
      go_big_quiet_op
      refine hK _ ?_
      clear hK K
      refine pi_t 7 rfl (by kernel_rfl) (by kernel_rfl) (fun _ _ _ _ h => h) (fun K hK => ?_)
      go_big_quiet_op
      refine hK _ ?_
      clear hK K
      refine pi_t 8 rfl (by kernel_rfl) (by kernel_rfl) (fun _ _ _ _ h => h) (fun K hK => ?_)
      go_big_quiet_op
      refine hK _ ?_
      clear hK K
      refine pi_t 9 rfl (by kernel_rfl) (by kernel_rfl) (fun _ _ _ _ h => h) (fun K hK => ?_)
      go_big_quiet_op
      refine hK _ ?_
      clear hK K
      refine pi_t 11 rfl (by kernel_rfl) (by kernel_rfl) (fun _ _ _ _ h => h) (fun K hK => ?_)
      go_big_quiet_op
      refine hK _ ?_
      clear hK K
      refine pi_t 14 rfl (by kernel_rfl) (by kernel_rfl) (fun _ _ _ _ h => h) (fun K hK => ?_)
      go_big_quiet_op
      refine hK _ ?_
      clear hK K
      refine pi_c 3 (by assumption) rfl (by kernel_rfl) (by kernel_rfl) (fun _ _ _ _ h => h) (fun K hK => ?_)
      go_big_quiet_op
      refine hK _ ?_
      clear hK K
      refine pi_t 5 rfl (by kernel_rfl) (by kernel_rfl) (fun _ _ _ _ h => h) (fun K hK => ?_)
      go_big_quiet_op
      refine hK _ ?_
      clear hK K
      refine pi_c 6 (by assumption) rfl (by kernel_rfl) (by kernel_rfl) (fun _ _ _ _ h => h) (fun K hK => ?_)
      go_big_quiet_op
      refine hK _ ?_
      clear hK K
      refine pi_c 10 (by assumption) rfl (by kernel_rfl) (by kernel_rfl) (fun _ _ _ _ h => h) (fun K hK => ?_)
      go_big_quiet_op
      refine hK _ ?_
      clear hK K
      refine pi_t 12 rfl (by kernel_rfl) (by kernel_rfl) (fun _ _ _ _ h => h) (fun K hK => ?_)
      go_big_quiet_op
      refine hK _ ?_
      clear hK K
      refine pi_c 13 (by assumption) rfl (by kernel_rfl) (by kernel_rfl) (fun _ _ _ _ h => h) (fun K hK => ?_)
      go_big_quiet_op
      refine hK _ ?_
      clear hK K
      refine pi_l 15 rfl (by kernel_rfl) (fun K hK => ?_)
      have hEd : Ext wr wr.drew := Below.drew (Ext.refl wr)
      go_wp2_with fail
      refine Calls.mono (RLJoinPlus_c (M k) (L2 k) C k (ls k) (ls2 k) _ (HLEV.out.ext (Below.drew (Ext.refl wr))) (HLEV2.out.ext (Below.drew (Ext.refl wr))) (by intro h; exact HMD.out (by first | trivial | exact h))) ?_
      rintro e w5 (⟨ha, rfl, K1, hp1, hK1, hF1, hM1⟩ | ⟨ha, rfl, hx5⟩)
      · have hM5 : Mod ((M k).foot C k) wr w5 := (Ext.mod _ (Below.drew (Ext.refl wr))).trans hM1
        go_wp2
        refine hK _ _ (fun _ _ => ⟨⟨w5, by rw [← HSS.out]; exact hM5⟩, rfl⟩) ?_
        clear hK K
        have hms : ms k = plusL (ls k) (ls2 k) := by rw [HMS.out]
        rw [← hms] at ha hK1
        have hF1' : ∀ j, K1.foot C k j → (M k).foot C k j ∨ wr.heap.size ≤ j := hF1
        have HPUT := Lib.hid (HK.out.putL (show k ≤ B by omega) hp1 hM5 hK1 hF1')
        have HFP : Hid (∀ j, rkF a ta C B (fun m => if m = k then K1 else M m) j → w.heap.size ≤ j) := Lib.hid (fun j hj => by
          rcases hj with rfl | rfl | ⟨m, hm, hj⟩
          · exact HF.out _ (.inl rfl)
          · exact HF.out _ (.inr (.inl rfl))
          · by_cases e : m = k
            · subst e
              dsimp only at hj
              rw [if_pos rfl] at hj
              rcases hF1' j hj with h | h
              · exact HF.out _ (.inr (.inr ⟨m, hm, h⟩))
              · exact Nat.le_trans HE.out.size h
            · dsimp only at hj
              rw [if_neg e] at hj
              exact HF.out _ (.inr (.inr ⟨m, hm, hj⟩)))
        have hE5 : Ext w w5 := Below.trans HE.out (hM5.below (B := w.heap.size) HE.out.size (fun j hj => HF.out j (.inr (.inr ⟨k, by omega, hj⟩))))
        have HAA := Lib.hid ha
        clear ha hp1 hK1 hF1 hF1' hM1 hM5 hms a5 ck b5 bk
        refine pi_t 16 rfl (by kernel_rfl) (by kernel_rfl) (fun _ _ _ _ h => h) (fun K hK => ?_)
        go_big_quiet_op
        refine hK _ ?_
        clear hK K
        refine pi_end (by kernel_rfl) ?_
        go_wp2
        go_roundw
        case rel =>
          refine ⟨k + 1, _, by omega, by go_num, HPUT.out.cong (fun n _ => partJ_succ ms ls k n), HFP.out, hE5, fun m hm => ?_⟩
          by_cases e : m = k
          · rw [e]; exact HAA.out
          · exact HZ.out m (by omega)
        case measure => simp [intOf]; omega
      · have hEw : Ext wr w5 := Ext.trans' (Below.drew (Ext.refl wr)) hx5
        go_wp2
        refine hK _ _ (fun _ _ => ⟨⟨w5, hEw.mod _⟩, rfl⟩) ?_
        clear hK K
        have hms : ms k = plusL (ls k) (ls2 k) := by rw [HMS.out]
        rw [← hms] at ha
        have HNA : Hid (¬ ∀ n, n ≤ B → allI (ms n)) := Lib.hid (fun h => ha (h k (by omega)))
        have hEf := HE.out.trans' hEw
        clear ha hx5 hEw hms a5 ck b5 bk
        refine pi_t 16 rfl (by kernel_rfl) (by kernel_rfl) (fun _ _ _ _ h => h) (fun K hK => ?_)
        go_big_quiet_op
        refine hK _ ?_
        clear hK K
        refine pi_end (by kernel_rfl) ?_
        go_wp2
        go_ret
        exact .inr ⟨HNA.out, rfl, hEf⟩
    · obtain rfl : k = B + 1 := by omega
      have fe := frozen_of (hE.keep HEX.out) 5
      have el := lt_of (hE.keep HEX.out)
      have e5 := (cell_of (hE.keep HEX.out) 5).trans rfl
      have HEXR := Lib.hid (hE.keep HEX.out)
      clear hz hK hex2 hF hE
      go_wp2
      go_ret
      refine .inl ⟨fun n hn => HZ.out n (by omega), rfl, ta, M, ⟨⟨cap2, (setCell_same HEXR.out 5 _).trans rfl, hcap2⟩, ?_, fun n hn => ?_, HK.out.sep, HOK.out, HB.out⟩, ?_, (HE.out.mod _).trans (mod_set _ _ _ _)⟩
      · obtain ⟨cur, h3, h4⟩ := HK.out.row
        exact ⟨cur, (setCell_other _ _ (by have := HF.out ta (.inr (.inl rfl)); omega)).trans h3, h4⟩
      · have hl := HK.out.lev n hn
        have hp : partJ ms ls (B + 1) n = ms n := by unfold partJ; rw [if_pos (by omega)]
        rw [hp] at hl
        exact hl.keep (fun j hj => setCell_other _ _ (by have := HF.out j (.inr (.inr ⟨n, hn, hj⟩)); omega))
      · rintro j (rfl | rfl | ⟨n, hn, hj⟩)
        · exact .inl rfl
        · exact .inr (HF.out _ (.inr (.inl rfl)))
        · exact .inr (HF.out _ (.inr (.inr ⟨n, hn, hj⟩)))
set_option maxRecDepth 20000 in
set_option maxHeartbeats 8000000 in
theorem RKJoinMinus_c (s t s2 t2 : Nat) (C : Cfg) (B : Nat) (L0 L2 : Nat → RLev) (ls ls2 : Nat → List Int) (w : World) (h : RKAt w s t C B L0 ls) (h2 : RKAt w s2 t2 C B L2 ls2) (hmd : "Minus" = "Minus" → C.mode ≠ 2) :
    Calls Tryz.prog 64 #[.pointer (some ⟨s, 0, none⟩), .pointer (some ⟨s2, 0, none⟩), .int .i64 (-1)] w (RKJoinPost w s C B (fun n => minusL (ls n) (ls2 n))) := by
  have hok := h.ok
  have hb2 := hok.b2
  have hB := h.hB
  have hbd : B ≤ 59 := by omega
  have HB := Lib.hid hB
  have HH := Lib.hid h
  have HH2 := Lib.hid h2
  have hls := h.lts
  have hls2 := h2.lts
  have hlt2 := h2.ltt
  obtain ⟨cap, hex, hcap⟩ := h.ex
  have HEX := Lib.hid hex
  obtain ⟨c0, c1, c2, c3, c4⟩ := h.cfg
  obtain ⟨d0, d1, d2, d3, d4⟩ := h2.cfg
  have HMD := Lib.hid hmd
  have HOK := Lib.hid hok
  clear hex h h2 hB hb2 hmd hok
  obtain ⟨ms, hms⟩ : ∃ ms : Nat → List Int, ms = fun n => minusL (ls n) (ls2 n) := ⟨_, rfl⟩
  have HMS := Lib.hid hms
  rw [← hms]
  clear hms
  go_enter Tryz.func64, Tryz.ntmps64
  go_wp2_with fail
  have hC0 := af_drew w
  refine pi_start (fun w' => ∃ z : After w, w' = z.w) [] (by kernel_rfl) ?_
  refine pi_t 0 rfl (by kernel_rfl) (by kernel_rfl) (fun _ _ _ _ h => h) (fun K hK => ?_)
  go_big_quiet_op
  refine hK _ ?_
  clear hK K
  refine pi_t 1 rfl (by kernel_rfl) (by kernel_rfl) (fun _ _ _ _ h => h) (fun K hK => ?_)
  go_big_quiet_op
  refine hK _ ?_
  clear hK K
  refine pi_t 2 rfl (by kernel_rfl) (by kernel_rfl) (fun _ _ _ _ h => h) (fun K hK => ?_)
  go_big_quiet_op
  refine hK _ ?_
  clear hK K
  refine pi_t 4 rfl (by kernel_rfl) (by kernel_rfl) (fun _ _ _ _ h => h) (fun K hK => ?_)
  go_big_quiet_op
  refine hK _ ?_
  clear hK K
  refine pi_t 5 rfl (by kernel_rfl) (by kernel_rfl) (fun _ _ _ _ h => h) (fun K hK => ?_)
  go_big_quiet_op
  refine hK _ ?_
  clear hK K
  refine pi_t 6 rfl (by kernel_rfl) (by kernel_rfl) (fun _ _ _ _ h => h) (fun K hK => ?_)
  go_big_quiet_op
  refine hK _ ?_
  clear hK K
  refine pi_c 3 (by assumption) rfl (by kernel_rfl) (by kernel_rfl) (fun _ _ _ _ h => h) (fun K hK => ?_)
  go_big_quiet_op
  refine hK _ ?_
  clear hK K
  refine pi_c 7 (by assumption) rfl (by kernel_rfl) (by kernel_rfl) (fun _ _ _ _ h => h) (fun K hK => ?_)
  go_big_quiet_op
  refine hK _ ?_
  clear hK K
  refine pi_t 8 rfl (by kernel_rfl) (by kernel_rfl) (fun _ _ _ _ h => h) (fun K hK => ?_)
  go_big_quiet_op
  refine hK _ ?_
  clear hK K
  refine pi_end (by kernel_rfl) ?_
  have hE0 : Ext w w.drew := Below.drew (Ext.refl w)
  have HCP := Lib.hid (RKCopy_c s t C B L0 ls w.drew (HH.out.ext hE0))
  have HE0 := Lib.hid hE0
  clear c0 c1 c2 c3 c4 d0 d1 d2 d3 d4 hE0
  go_wp2_with fail
  refine Calls.mono HCP.out ?_
  rintro e w2 ⟨a, ta, La, rfl, hK2, hF2, hx2⟩
  have hE2 := HE0.out.trans' hx2
  have HF2 : Hid (∀ k, rkF a ta C B La k → w.heap.size ≤ k) := Lib.hid (fun k hk => Nat.le_trans HE0.out.size (hF2 k hk))
  have HK2 : Hid (RKAt w2 a ta C B La (partJ ms ls 0)) := Lib.hid (hK2.cong (fun n _ => (partJ_zero ms ls n).symm))
  clear hK2 hF2 hx2
  go_wp2_with fail
  go_loopw [8] (fun u8 wr => ∃ (k : Nat) (M : Nat → RLev), k ≤ B + 1 ∧ u8 = .int .i64 k ∧ RKAt wr a ta C B M (partJ ms ls k) ∧ (∀ j, rkF a ta C B M j → w.heap.size ≤ j) ∧ Ext w wr ∧ ∀ m, m < k → allI (ms m)) (fun u8 _ => B + 1 - (intOf u8).toNat)
  case atStart => exact ⟨0, La, Nat.zero_le _, rfl, HK2.out, HF2.out, hE2, fun m hm => absurd hm (Nat.not_lt_zero _)⟩
  case round =>
    clear hE2 HK2 HF2
    obtain ⟨k, M, hk, rfl, hK, hF, hE, hz⟩ := hrel
    have HZ := Lib.hid hz
    have HK := Lib.hid hK
    have HF := Lib.hid hF
    have HE := Lib.hid hE
    obtain ⟨cap2, hex2, hcap2⟩ := hK.ex
    have a5 := (cell_of hex2 5).trans rfl
    have al := lt_of hex2
    have ltt := hK.ltt
    by_cases hlk : k < B + 1
    · have ck := hK.cell (show k ≤ B by omega)
      have hlev := hK.lev k (by omega)
      rw [partJ_at] at hlev
      have hr2 := HH2.out.ext hE
      obtain ⟨cap3, hex3, hcap3⟩ := hr2.ex
      have b5 := (cell_of hex3 5).trans rfl
      have bl := lt_of hex3
      have bk := hr2.cell (show k ≤ B by omega)
      have btt := hr2.ltt
      have HLEV := Lib.hid hlev
      have HLEV2 := Lib.hid (hr2.lev k (by omega))
      have hkz : (k : Int) < (B : Int) + 1 := by omega
      obtain ⟨S, hS⟩ : ∃ S : Nat → Prop, (M k).foot C k = S := ⟨_, rfl⟩
      have HSS := Lib.hid hS
      have ns1 : ¬ S a := by rw [← hS]; exact (hK.nlev (show k ≤ B by omega)).1
      have ns2 : ¬ S ta := by rw [← hS]; exact (hK.nlev (show k ≤ B by omega)).2
      have ns3 : ¬ S s2 := fun hf => by rw [← hS] at hf; have := hF _ (.inr (.inr ⟨k, by omega, hf⟩)); omega
      have ns4 : ¬ S t2 := fun hf => by rw [← hS] at hf; have := hF _ (.inr (.inr ⟨k, by omega, hf⟩)); omega
      clear hex2 hex3 hz hK hF hE hlev hr2 hS
      rename World => wr
      go_wp2_with fail
      have hC0 := afs_drew S wr
      refine pi_start (fun w' => ∃ x : AftS S wr, w' = x.w) [] (by kernel_rfl) ?_
      refine pi_t 0 rfl (by kernel_rfl) (by kernel_rfl) (fun _ _ _ _ h => h) (fun K hK => ?_)
      go_big_quiet_op
      refine hK _ ?_
      clear hK K
      refine pi_t 1 rfl (by kernel_rfl) (by kernel_rfl) (fun _ _ _ _ h => h) (fun K hK => ?_)
      go_big_quiet_op
      refine hK _ ?_
      clear hK K
      refine pi_t 2 rfl (by kernel_rfl) (by kernel_rfl) (fun _ _ _ _ h => h) (fun K hK => ?_)
      go_big_quiet_op
      refine hK _ ?_
      clear hK K
      refine pi_t 4 rfl (by kernel_rfl) (by kernel_rfl) (fun _ _ _ _ h => h) (fun K hK => ?_)
      go_big_quiet_op
      refine hK _ ?_
      clear hK K
      refine pi_t 7 rfl (by kernel_rfl) (by kernel_rfl) (fun _ _ _ _ h => h) (fun K hK => ?_)
      go_big_quiet_op
      refine hK _ ?_
      clear hK K
      refine pi_t 8 rfl (by kernel_rfl) (by kernel_rfl) (fun _ _ _ _ h => h) (fun K hK => ?_)
      go_big_quiet_op
      refine hK _ ?_
      clear hK K
      refine pi_t 9 rfl (by kernel_rfl) (by kernel_rfl) (fun _ _ _ _ h => h) (fun K hK => ?_)
      go_big_quiet_op
      refine hK _ ?_
      clear hK K
      refine pi_t 11 rfl (by kernel_rfl) (by kernel_rfl) (fun _ _ _ _ h => h) (fun K hK => ?_)
      go_big_quiet_op
      refine hK _ ?_
      clear hK K
      refine pi_t 14 rfl (by kernel_rfl) (by kernel_rfl) (fun _ _ _ _ h => h) (fun K hK => ?_)
      go_big_quiet_op
      refine hK _ ?_
      clear hK K
      refine pi_c 3 (by assumption) rfl (by kernel_rfl) (by kernel_rfl) (fun _ _ _ _ h => h) (fun K hK => ?_)
      go_big_quiet_op
      refine hK _ ?_
      clear hK K
      refine pi_t 5 rfl (by kernel_rfl) (by kernel_rfl) (fun _ _ _ _ h => h) (fun K hK => ?_)
      go_big_quiet_op
      refine hK _ ?_
      clear hK K
      refine pi_c 6 (by assumption) rfl (by kernel_rfl) (by kernel_rfl) (fun _ _ _ _ h => h) (fun K hK => ?_)
      go_big_quiet_op
      refine hK _ ?_
      clear hK K
      refine pi_c 10 (by assumption) rfl (by kernel_rfl) (by kernel_rfl) (fun _ _ _ _ h => h) (fun K hK => ?_)
      go_big_quiet_op
      refine hK _ ?_
      clear hK K
      refine pi_t 12 rfl (by kernel_rfl) (by kernel_rfl) (fun _ _ _ _ h => h) (fun K hK => ?_)
      go_big_quiet_op
      refine hK _ ?_
      clear hK K
      refine pi_c 13 (by assumption) rfl (by kernel_rfl) (by kernel_rfl) (fun _ _ _ _ h => h) (fun K hK => ?_)
      go_big_quiet_op
      refine hK _ ?_
      clear hK K
      refine pi_l 15 rfl (by kernel_rfl) (fun K hK => ?_)
      have hEd : Ext wr wr.drew := Below.drew (Ext.refl wr)
      go_wp2_with fail
      refine Calls.mono (RLJoinMinus_c (M k) (L2 k) C k (ls k) (ls2 k) _ (HLEV.out.ext (Below.drew (Ext.refl wr))) (HLEV2.out.ext (Below.drew (Ext.refl wr))) (by intro h; exact HMD.out (by first | trivial | exact h))) ?_
      rintro e w5 (⟨ha, rfl, K1, hp1, hK1, hF1, hM1⟩ | ⟨ha, rfl, hx5⟩)
      · have hM5 : Mod ((M k).foot C k) wr w5 := (Ext.mod _ (Below.drew (Ext.refl wr))).trans hM1
        go_wp2
        refine hK _ _ (fun _ _ => ⟨⟨w5, by rw [← HSS.out]; exact hM5⟩, rfl⟩) ?_
        clear hK K
        have hms : ms k = minusL (ls k) (ls2 k) := by rw [HMS.out]
        rw [← hms] at ha hK1
        have hF1' : ∀ j, K1.foot C k j → (M k).foot C k j ∨ wr.heap.size ≤ j := hF1
        have HPUT := Lib.hid (HK.out.putL (show k ≤ B by omega) hp1 hM5 hK1 hF1')
        have HFP : Hid (∀ j, rkF a ta C B (fun m => if m = k then K1 else M m) j → w.heap.size ≤ j) := Lib.hid (fun j hj => by
          rcases hj with rfl | rfl | ⟨m, hm, hj⟩
          · exact HF.out _ (.inl rfl)
          · exact HF.out _ (.inr (.inl rfl))
          · by_cases e : m = k
            · subst e
              dsimp only at hj
              rw [if_pos rfl] at hj
              rcases hF1' j hj with h | h
              · exact HF.out _ (.inr (.inr ⟨m, hm, h⟩))
              · exact Nat.le_trans HE.out.size h
            · dsimp only at hj
              rw [if_neg e] at hj
              exact HF.out _ (.inr (.inr ⟨m, hm, hj⟩)))
        have hE5 : Ext w w5 := Below.trans HE.out (hM5.below (B := w.heap.size) HE.out.size (fun j hj => HF.out j (.inr (.inr ⟨k, by omega, hj⟩))))
        have HAA := Lib.hid ha
        clear ha hp1 hK1 hF1 hF1' hM1 hM5 hms a5 ck b5 bk
        refine pi_t 16 rfl (by kernel_rfl) (by kernel_rfl) (fun _ _ _ _ h => h) (fun K hK => ?_)
        go_big_quiet_op
        refine hK _ ?_
        clear hK K
        refine pi_end (by kernel_rfl) ?_
        go_wp2
        go_roundw
        case rel =>
          refine ⟨k + 1, _, by omega, by go_num, HPUT.out.cong (fun n _ => partJ_succ ms ls k n), HFP.out, hE5, fun m hm => ?_⟩
          by_cases e : m = k
          · rw [e]; exact HAA.out
          · exact HZ.out m (by omega)
        case measure => simp [intOf]; omega
      · have hEw : Ext wr w5 := Ext.trans' (Below.drew (Ext.refl wr)) hx5
        go_wp2
        refine hK _ _ (fun _ _ => ⟨⟨w5, hEw.mod _⟩, rfl⟩) ?_
        clear hK K
        have hms : ms k = minusL (ls k) (ls2 k) := by rw [HMS.out]
        rw [← hms] at ha
        have HNA : Hid (¬ ∀ n, n ≤ B → allI (ms n)) := Lib.hid (fun h => ha (h k (by omega)))
        have hEf := HE.out.trans' hEw
        clear ha hx5 hEw hms a5 ck b5 bk
        refine pi_t 16 rfl (by kernel_rfl) (by kernel_rfl) (fun _ _ _ _ h => h) (fun K hK => ?_)
        go_big_quiet_op
        refine hK _ ?_
        clear hK K
        refine pi_end (by kernel_rfl) ?_
        go_wp2
        go_ret
        exact .inr ⟨HNA.out, rfl, hEf⟩
    · obtain rfl : k = B + 1 := by omega
      have fe := frozen_of (hE.keep HEX.out) 5
      have el := lt_of (hE.keep HEX.out)
      have e5 := (cell_of (hE.keep HEX.out) 5).trans rfl
      have HEXR := Lib.hid (hE.keep HEX.out)
      clear hz hK hex2 hF hE
      go_wp2
      go_ret
      refine .inl ⟨fun n hn => HZ.out n (by omega), rfl, ta, M, ⟨⟨cap2, (setCell_same HEXR.out 5 _).trans rfl, hcap2⟩, ?_, fun n hn => ?_, HK.out.sep, HOK.out, HB.out⟩, ?_, (HE.out.mod _).trans (mod_set _ _ _ _)⟩
      · obtain ⟨cur, h3, h4⟩ := HK.out.row
        exact ⟨cur, (setCell_other _ _ (by have := HF.out ta (.inr (.inl rfl)); omega)).trans h3, h4⟩
      · have hl := HK.out.lev n hn
        have hp : partJ ms ls (B + 1) n = ms n := by unfold partJ; rw [if_pos (by omega)]
        rw [hp] at hl
        exact hl.keep (fun j hj => setCell_other _ _ (by have := HF.out j (.inr (.inr ⟨n, hn, hj⟩)); omega))
      · rintro j (rfl | rfl | ⟨n, hn, hj⟩)
        · exact .inl rfl
        · exact .inr (HF.out _ (.inr (.inl rfl)))
        · exact .inr (HF.out _ (.inr (.inr ⟨n, hn, hj⟩)))
set_option maxRecDepth 20000 in
set_option maxHeartbeats 8000000 in
theorem RKJoin_mode (s t s2 t2 : Nat) (C : Cfg) (B : Nat) (L0 L2 : Nat → RLev) (ls ls2 : Nat → List Int) (w : World) (h : RKAt w s t C B L0 ls) (h2 : RKAt w s2 t2 C B L2 ls2) (hmd : C.mode = 2) :
    Calls Tryz.prog 64 #[.pointer (some ⟨s, 0, none⟩), .pointer (some ⟨s2, 0, none⟩), .int .i64 (-1)] w fun e w' => e = .returned (.int .i64 3) ∧ Ext w w' := by
  have hok := h.ok
  have hb2 := hok.b2
  have hB := h.hB
  have hbd : B ≤ 59 := by omega
  have HH := Lib.hid h
  have HH2 := Lib.hid h2
  have hls := h.lts
  have hls2 := h2.lts
  obtain ⟨c0, c1, c2, c3, c4⟩ := h.cfg
  obtain ⟨d0, d1, d2, d3, d4⟩ := h2.cfg
  have HMD := Lib.hid hmd
  clear h h2 hB hb2 hmd hok
  go_enter Tryz.func64, Tryz.ntmps64
  go_wp2_with fail
  have hC0 := af_drew w
  refine pi_start (fun w' => ∃ z : After w, w' = z.w) [] (by kernel_rfl) ?_
  refine pi_t 0 rfl (by kernel_rfl) (by kernel_rfl) (fun _ _ _ _ h => h) (fun K hK => ?_)
  go_big_quiet_op
  refine hK _ ?_
  clear hK K
  refine pi_t 1 rfl (by kernel_rfl) (by kernel_rfl) (fun _ _ _ _ h => h) (fun K hK => ?_)
  go_big_quiet_op
  refine hK _ ?_
  clear hK K
  refine pi_t 2 rfl (by kernel_rfl) (by kernel_rfl) (fun _ _ _ _ h => h) (fun K hK => ?_)
  go_big_quiet_op
  refine hK _ ?_
  clear hK K
  refine pi_t 4 rfl (by kernel_rfl) (by kernel_rfl) (fun _ _ _ _ h => h) (fun K hK => ?_)
  go_big_quiet_op
  refine hK _ ?_
  clear hK K
  refine pi_t 5 rfl (by kernel_rfl) (by kernel_rfl) (fun _ _ _ _ h => h) (fun K hK => ?_)
  go_big_quiet_op
  refine hK _ ?_
  clear hK K
  refine pi_t 6 rfl (by kernel_rfl) (by kernel_rfl) (fun _ _ _ _ h => h) (fun K hK => ?_)
  go_big_quiet_op
  refine hK _ ?_
  clear hK K
  refine pi_c 3 (by assumption) rfl (by kernel_rfl) (by kernel_rfl) (fun _ _ _ _ h => h) (fun K hK => ?_)
  go_big_quiet_op
  refine hK _ ?_
  clear hK K
  refine pi_c 7 (by assumption) rfl (by kernel_rfl) (by kernel_rfl) (fun _ _ _ _ h => h) (fun K hK => ?_)
  go_big_quiet_op
  refine hK _ ?_
  clear hK K
  refine pi_t 8 rfl (by kernel_rfl) (by kernel_rfl) (fun _ _ _ _ h => h) (fun K hK => ?_)
  go_big_quiet_op
  refine hK _ ?_
  clear hK K
  refine pi_end (by kernel_rfl) ?_
  have hE0 : Ext w w.drew := Below.drew (Ext.refl w)
  have HCP := Lib.hid (RKCopy_c s t C B L0 ls w.drew (HH.out.ext hE0))
  have HE0 := Lib.hid hE0
  clear c0 c1 c2 c3 c4 d0 d1 d2 d3 d4 hE0
  go_wp2_with fail
  refine Calls.mono HCP.out ?_
  rintro e w2 ⟨a, ta, La, rfl, hK2, hF2, hx2⟩
  have hE2 := HE0.out.trans' hx2
  obtain ⟨cap2, hex2, hcap2⟩ := hK2.ex
  have a5 := (cell_of hex2 5).trans rfl
  have al := lt_of hex2
  have ltt := hK2.ltt
  have ck := hK2.cell (Nat.zero_le B)
  have hr2 := HH2.out.ext hE2
  obtain ⟨cap3, hex3, hcap3⟩ := hr2.ex
  have b5 := (cell_of hex3 5).trans rfl
  have bl := lt_of hex3
  have bk := hr2.cell (Nat.zero_le B)
  have btt := hr2.ltt
  have HLEV := Lib.hid (hK2.lev 0 (Nat.zero_le B))
  have HLEV2 := Lib.hid (hr2.lev 0 (Nat.zero_le B))
  have HE2 := Lib.hid hE2
  clear hex2 hex3 hK2 hF2 hx2 hr2 hE2
  go_wp2_with fail
  refine wp_loop_rounds 1 ?_
  rw [rounds_succ]
  go_wp2_with fail
  have hC0 := af_drew w2
  refine pi_start (fun w' => ∃ x : After w2, w' = x.w) [] (by kernel_rfl) ?_
  refine pi_t 0 rfl (by kernel_rfl) (by kernel_rfl) (fun _ _ _ _ h => h) (fun K hK => ?_)
  go_big_quiet_op
  refine hK _ ?_
  clear hK K
  refine pi_t 1 rfl (by kernel_rfl) (by kernel_rfl) (fun _ _ _ _ h => h) (fun K hK => ?_)
  go_big_quiet_op
  refine hK _ ?_
  clear hK K
  refine pi_t 2 rfl (by kernel_rfl) (by kernel_rfl) (fun _ _ _ _ h => h) (fun K hK => ?_)
  go_big_quiet_op
  refine hK _ ?_
  clear hK K
  refine pi_t 4 rfl (by kernel_rfl) (by kernel_rfl) (fun _ _ _ _ h => h) (fun K hK => ?_)
  go_big_quiet_op
  refine hK _ ?_
  clear hK K
  refine pi_t 7 rfl (by kernel_rfl) (by kernel_rfl) (fun _ _ _ _ h => h) (fun K hK => ?_)
  go_big_quiet_op
  refine hK _ ?_
  clear hK K
  refine pi_t 8 rfl (by kernel_rfl) (by kernel_rfl) (fun _ _ _ _ h => h) (fun K hK => ?_)
  go_big_quiet_op
  refine hK _ ?_
  clear hK K
  refine pi_t 9 rfl (by kernel_rfl) (by kernel_rfl) (fun _ _ _ _ h => h) (fun K hK => ?_)
  go_big_quiet_op
  refine hK _ ?_
  clear hK K
  refine pi_t 11 rfl (by kernel_rfl) (by kernel_rfl) (fun _ _ _ _ h => h) (fun K hK => ?_)
  go_big_quiet_op
  refine hK _ ?_
  clear hK K
  refine pi_t 14 rfl (by kernel_rfl) (by kernel_rfl) (fun _ _ _ _ h => h) (fun K hK => ?_)
  go_big_quiet_op
  refine hK _ ?_
  clear hK K
  refine pi_c 3 (by assumption) rfl (by kernel_rfl) (by kernel_rfl) (fun _ _ _ _ h => h) (fun K hK => ?_)
  go_big_quiet_op
  refine hK _ ?_
  clear hK K
  refine pi_t 5 rfl (by kernel_rfl) (by kernel_rfl) (fun _ _ _ _ h => h) (fun K hK => ?_)
  go_big_quiet_op
  refine hK _ ?_
  clear hK K
  refine pi_c 6 (by assumption) rfl (by kernel_rfl) (by kernel_rfl) (fun _ _ _ _ h => h) (fun K hK => ?_)
  go_big_quiet_op
  refine hK _ ?_
  clear hK K
  refine pi_c 10 (by assumption) rfl (by kernel_rfl) (by kernel_rfl) (fun _ _ _ _ h => h) (fun K hK => ?_)
  go_big_quiet_op
  refine hK _ ?_
  clear hK K
  refine pi_t 12 rfl (by kernel_rfl) (by kernel_rfl) (fun _ _ _ _ h => h) (fun K hK => ?_)
  go_big_quiet_op
  refine hK _ ?_
  clear hK K
  refine pi_c 13 (by assumption) rfl (by kernel_rfl) (by kernel_rfl) (fun _ _ _ _ h => h) (fun K hK => ?_)
  go_big_quiet_op
  refine hK _ ?_
  clear hK K
  refine pi_l 15 rfl (by kernel_rfl) (fun K hK => ?_)
  go_wp2_with (go_at_call 42; refine Calls.mono (RLJoin_mode (La 0) (L2 0) C 0 (ls 0) (ls2 0) _ (HLEV.out.ext (Below.drew (Ext.refl w2))) (HLEV2.out.ext (Below.drew (Ext.refl w2))) HMD.out) ?_; rintro e w5 ⟨rfl, hx5⟩)
  have hEw : Ext w2 w5 := Ext.trans' (Below.drew (Ext.refl w2)) hx5
  refine hK _ _ (fun _ h => af_step h hx5) ?_
  clear hK K
  have hEf := HE2.out.trans' hEw
  clear hx5 hEw a5 ck b5 bk
  refine pi_t 16 rfl (by kernel_rfl) (by kernel_rfl) (fun _ _ _ _ h => h) (fun K hK => ?_)
  go_big_quiet_op
  refine hK _ ?_
  clear hK K
  refine pi_end (by kernel_rfl) ?_
  go_wp2
  go_ret
  exact ⟨rfl, hEf⟩
set_option maxRecDepth 20000 in
set_option maxHeartbeats 8000000 in
theorem RKInner_c (s t s2 t2 : Nat) (C : Cfg) (B : Nat) (L L2 : Nat → RLev) (ls ls2 : Nat → List Int) (w : World) (h : RKAt w s t C B L ls) (h2 : RKAt w s2 t2 C B L2 ls2) :
    Calls Tryz.prog 67 #[.pointer (some ⟨s, 0, none⟩), .pointer (some ⟨s2, 0, none⟩)] w fun e w' => e = .returned (.tuple #[.agg #[.int .i64 (inV C 0 (ls 0) (ls2 0)).1, .int .u64 (inV C 0 (ls 0) (ls2 0)).2.1], .int .i64 (inV C 0 (ls 0) (ls2 0)).2.2]) ∧ Ext w w' := by
  obtain ⟨w0, hw0⟩ : ∃ w0, w.alloc (.cells #[.int .i64 0, .int .u64 0] 75) = w0 := ⟨_, rfl⟩
  have hz0 : w0.heap[w.heap.size]? = some (.cells #[.int .i64 0, .int .u64 0] 75 (0, 0)) := by rw [← hw0]; exact heap_at _ _ rfl
  have hE0 : Ext w w0 := by rw [← hw0]; exact Ext.alloc' _ _
  have h' := h.ext hE0
  have h2' := h2.ext hE0
  obtain ⟨c0, c1, c2, c3, c4⟩ := h'.cfg
  obtain ⟨d0, d1, d2, d3, d4⟩ := h2'.cfg
  have hbd : B ≤ 59 := by have := h.ok.b2; have := h.hB; omega
  have ls1 := h'.lts
  have ls2' := h2'.lts
  have HE0 := Lib.hid hE0
  have HZ0 := Lib.hid hz0
  have HH := Lib.hid h'
  have HH2 := Lib.hid h2'
  have HIN := Lib.hid (fun (W' : World) (hW : Ext w0 W') => RLInner_c (L 0) (L2 0) C 0 (ls 0) (ls2 0) W' ((h'.lev 0 (Nat.zero_le B)).ext hW) ((h2'.lev 0 (Nat.zero_le B)).ext hW))
  generalize inV C 0 (ls 0) (ls2 0) = iv at *
  obtain ⟨ia, ib, ic⟩ := iv
  clear h h2 h' h2' hz0 hE0
  go_enter Tryz.func67, Tryz.ntmps67
  go_upto_region 1 with (fail)
  try rw [hw0]
  clear hw0
  go_wp2_with fail
  have hC0 := af_drew w0
  refine pi_start (fun w' => ∃ z : After w0, w' = z.w) [] (by kernel_rfl) ?_
  refine pi_t 0 rfl (by kernel_rfl) (by kernel_rfl) (fun _ _ _ _ h => h) (fun K hK => ?_)
  go_big_quiet_op
  refine hK _ ?_
  clear hK K
  refine pi_t 1 rfl (by kernel_rfl) (by kernel_rfl) (fun _ _ _ _ h => h) (fun K hK => ?_)
  go_big_quiet_op
  refine hK _ ?_
  clear hK K
  refine pi_t 2 rfl (by kernel_rfl) (by kernel_rfl) (fun _ _ _ _ h => h) (fun K hK => ?_)
  go_big_quiet_op
  refine hK _ ?_
  clear hK K
  refine pi_t 4 rfl (by kernel_rfl) (by kernel_rfl) (fun _ _ _ _ h => h) (fun K hK => ?_)
  go_big_quiet_op
  refine hK _ ?_
  clear hK K
  refine pi_t 5 rfl (by kernel_rfl) (by kernel_rfl) (fun _ _ _ _ h => h) (fun K hK => ?_)
  go_big_quiet_op
  refine hK _ ?_
  clear hK K
  refine pi_t 6 rfl (by kernel_rfl) (by kernel_rfl) (fun _ _ _ _ h => h) (fun K hK => ?_)
  go_big_quiet_op
  refine hK _ ?_
  clear hK K
  refine pi_c 3 (by assumption) rfl (by kernel_rfl) (by kernel_rfl) (fun _ _ _ _ h => h) (fun K hK => ?_)
  go_big_quiet_op
  refine hK _ ?_
  clear hK K
  refine pi_c 7 (by assumption) rfl (by kernel_rfl) (by kernel_rfl) (fun _ _ _ _ h => h) (fun K hK => ?_)
  go_big_quiet_op
  refine hK _ ?_
  clear hK K
  refine pi_t 8 rfl (by kernel_rfl) (by kernel_rfl) (fun _ _ _ _ h => h) (fun K hK => ?_)
  go_big_quiet_op
  refine hK _ ?_
  clear hK K
  refine pi_end (by kernel_rfl) ?_
  clear c0 c1 c2 c3 c4 d0 d1 d2 d3 d4 ls1 ls2'
  have hEd : Ext w0 w0.drew := Below.drew (Ext.refl w0)
  have HKD := Lib.hid (HH.out.ext hEd)
  have HKD2 := Lib.hid (HH2.out.ext hEd)
  have HED := Lib.hid hEd
  go_wp2_with fail
  generalize w0.drew = wd at *
  clear hEd
  obtain ⟨cap2, hex2, hcap2⟩ := HKD.out.ex
  have a5 := (cell_of hex2 5).trans rfl
  have al := lt_of hex2
  have ltt := HKD.out.ltt
  have ck := HKD.out.cell (Nat.zero_le B)
  obtain ⟨cap3, hex3, hcap3⟩ := HKD2.out.ex
  have b5 := (cell_of hex3 5).trans rfl
  have bl := lt_of hex3
  have bk := HKD2.out.cell (Nat.zero_le B)
  have btt := HKD2.out.ltt
  clear hex2 hex3
  have hC0 := af_drew wd
  refine pi_start (fun w' => ∃ z : After wd, w' = z.w) [15] (by kernel_rfl) ?_
  refine pi_t 0 rfl (by kernel_rfl) (by kernel_rfl) (fun _ _ _ _ h => h) (fun K hK => ?_)
  go_big_quiet_op
  refine hK _ ?_
  clear hK K
  refine pi_t 1 rfl (by kernel_rfl) (by kernel_rfl) (fun _ _ _ _ h => h) (fun K hK => ?_)
  go_big_quiet_op
  refine hK _ ?_
  clear hK K
  refine pi_t 2 rfl (by kernel_rfl) (by kernel_rfl) (fun _ _ _ _ h => h) (fun K hK => ?_)
  go_big_quiet_op
  refine hK _ ?_
  clear hK K
  refine pi_t 6 rfl (by kernel_rfl) (by kernel_rfl) (fun _ _ _ _ h => h) (fun K hK => ?_)
  go_big_quiet_op
  refine hK _ ?_
  clear hK K
  refine pi_t 7 rfl (by kernel_rfl) (by kernel_rfl) (fun _ _ _ _ h => h) (fun K hK => ?_)
  go_big_quiet_op
  refine hK _ ?_
  clear hK K
  refine pi_t 8 rfl (by kernel_rfl) (by kernel_rfl) (fun _ _ _ _ h => h) (fun K hK => ?_)
  go_big_quiet_op
  refine hK _ ?_
  clear hK K
  refine pi_c 3 (by assumption) rfl (by kernel_rfl) (by kernel_rfl) (fun _ _ _ _ h => h) (fun K hK => ?_)
  go_big_quiet_op
  refine hK _ ?_
  clear hK K
  refine pi_t 4 rfl (by kernel_rfl) (by kernel_rfl) (fun _ _ _ _ h => h) (fun K hK => ?_)
  go_big_quiet_op
  refine hK _ ?_
  clear hK K
  refine pi_c 5 (by assumption) rfl (by kernel_rfl) (by kernel_rfl) (fun _ _ _ _ h => h) (fun K hK => ?_)
  go_big_quiet_op
  refine hK _ ?_
  clear hK K
  refine pi_c 9 (by assumption) rfl (by kernel_rfl) (by kernel_rfl) (fun _ _ _ _ h => h) (fun K hK => ?_)
  go_big_quiet_op
  refine hK _ ?_
  clear hK K
  refine pi_t 10 rfl (by kernel_rfl) (by kernel_rfl) (fun _ _ _ _ h => h) (fun K hK => ?_)
  go_big_quiet_op
  refine hK _ ?_
  clear hK K
  refine pi_c 11 (by assumption) rfl (by kernel_rfl) (by kernel_rfl) (fun _ _ _ _ h => h) (fun K hK => ?_)
  go_big_quiet_op
  refine hK _ ?_
  clear hK K
  refine pi_l 12 rfl (by kernel_rfl) (fun K hK => ?_)
  go_wp2_with (go_at_call 46; refine Calls.mono (HIN.out _ (HED.out.trans' (Below.drew (Ext.refl wd)))) ?_; rintro e w1 ⟨rfl, hx'⟩)
  have hE1 : Ext w0 w1 := HED.out.trans' (Ext.trans' (Below.drew (Ext.refl wd)) hx')
  refine hK _ _ (fun _ h => af_step h hx') ?_
  clear hK K
  have hz1 := hE1.keep HZ0.out
  have z0 := (cell_of hz1 0).trans rfl
  have z1 := (cell_of hz1 1).trans rfl
  have f0 := frozen_of hz1 0
  have f1 := frozen_of hz1 1
  have zl := lt_of hz1
  have HE1 := Lib.hid (HE0.out.trans' hE1)
  clear hz1 hE1 hx' a5 ck b5 bk
  refine pi_t 13 rfl (by kernel_rfl) (by kernel_rfl) (fun _ _ _ _ h => h) (fun K hK => ?_)
  go_big_quiet_op
  refine hK _ ?_
  clear hK K
  refine pi_t 14 rfl (by kernel_rfl) (by kernel_rfl) (fun _ _ _ _ h => h) (fun K hK => ?_)
  go_big_quiet_op
  refine hK _ ?_
  clear hK K
  refine pi_l 15 rfl (by kernel_rfl) (fun K hK => ?_)
  go_wp2
  refine hK _ _ (by simp) ?_
  clear hK K
  refine pi_t 16 rfl (by kernel_rfl) (by kernel_rfl) (fun _ _ _ _ h => h) (fun K hK => ?_)
  go_big_quiet_op
  refine hK _ ?_
  clear hK K
  refine pi_end (by kernel_rfl) ?_
  go_wp2
  refine bodyPost_ret (v := .tuple #[.agg #[.int .i64 ia, .int .u64 ib], .int .i64 ic]) (by simp [results, Tryz.results67, go_sem, *]) rfl ⟨rfl, ?_⟩
  first
    | exact ((HE1.out.setR (p := ⟨w.heap.size, 0, none⟩) (Nat.le_refl _) _).setR (p := ⟨w.heap.size, 1, none⟩) (Nat.le_refl _) _).drewR
    | exact ((HE1.out.setR (p := ⟨w.heap.size, 0, none⟩) (Nat.le_refl _) _).setR (p := ⟨w.heap.size, 1, none⟩) (Nat.le_refl _) _)
end Go.Proofs.YtfhdjekpdifajaaGreat
namespace Go.Proofs.YtfhdjekpdifajaaGreat
set_option linter.unusedVariables false
open Go.RowKit
/-- The function behind a method of a level. -/
def lvF (C : Cfg) (lv : Int) (x s : Nat) : Nat := bif isX C lv then x else s
theorem lvF_x {C : Cfg} {lv : Int} (h : isX C lv = true) (x s : Nat) : lvF C lv x s = x := by unfold lvF; rw [h]; rfl
theorem lvF_s {C : Cfg} {lv : Int} (h : isX C lv = false) (x s : Nat) : lvF C lv x s = s := by unfold lvF; rw [h]; rfl
theorem lvV_eq (C : Cfg) (lv : Int) (L : Lev) : lvV C lv L = .iface (lvT C lv) (.pointer (some ⟨L.s, 0, none⟩)) := rfl
theorem lvm_Cells (C : Cfg) (lv : Int) (p : Option Addr) (w : World) : Sem.run Tryz.prog (method 457 (lvT C lv) (.pointer p) "Cells") w = .ok (lvF C lv 123 170, .pointer p) w := by
  unfold lvT lvF
  cases isX C lv with
  | true => kernel_rfl
  | false => kernel_rfl
theorem lve_Cells (C : Cfg) (lv : Int) (args : Array Value) (w : World) : (callFunc (lvF C lv 123 170) args).run Tryz.prog w = .ok (.enter (lvF C lv 123 170) args) w := by
  unfold lvF
  cases isX C lv with
  | true => kernel_rfl
  | false => kernel_rfl
theorem LCells_c (C : Cfg) (lv : Int) (L : Lev) (l : List Int) (w : World) (h : LvAt w L C lv l) :
    Calls Tryz.prog (lvF C lv 123 170) #[.pointer (some ⟨L.s, 0, none⟩)] w fun e w' => ∃ v, e = .returned v ∧ w'.ownsRow w.heap.size 2 1 v l.length (ints l) ∧ (v = .slice none 0 0 → False) ∧ Ext w w' := by
  cases hx : isX C lv with
  | true => rw [lvF_x hx]; exact ECells_c _ _ _ C lv _ l w (h.x hx)
  | false => rw [lvF_s hx]; exact SCells_c _ _ _ C lv _ _ l w (h.sk hx)
end Go.Proofs.YtfhdjekpdifajaaGreat
