/- Part. No condition. -/
import Derived.Test.YteoblkcbemeamaaGreatL17
import Derived.Test.YteoblkcbemeamaaGreatL6
import Derived.Test.YteoblkcbemeamaaGreatL5
import Derived.Test.YteoblkcbemeamaaGreatL2
import Derived.Test.YteoblkcbemeamaaGreatL3
import Derived.Test.YteoblkcbemeamaaGreatL20
import Derived.Test.YteoblkcbemeamaaGreatL8
import Derived.Test.YteoblkcbemeamaaGreatL14
import Derived.Test.YteoblkcbemeamaaGreatL1
import Derived.RangeFuncBox
import Derived.WalkMore
import Derived.Laws.EntriesVeiled

/- gaugerref10.Join. -/
namespace Go.Proofs.YteoblkcbemeamaaGreat
set_option linter.unusedVariables false
open Go.RowKit
def RSJoinPost (w : World) (s : Nat) (G : Gr) (C : Cfg) (lv : Int) (R W : Nat) (ms : List Int) (e : Ending) (w' : World) : Prop :=
  (allI ms ∧ e = .returned (.int .i64 0) ∧ ∃ G' : Gr, RSAt w' s G' C lv R W ms ∧ (∀ k, rsF s G' R k → rsF s G R k ∨ w.heap.size ≤ k) ∧ Mod (rsF s G R) w w') ∨ (¬ allI ms ∧ e = .returned (.int .i64 4) ∧ Ext w w')
set_option maxRecDepth 20000 in
set_option maxHeartbeats 8000000 in
theorem RSJoinPlus_c (s s2 : Nat) (G G2 : Gr) (C : Cfg) (lv : Int) (R W : Nat) (l l2 : List Int) (w : World) (h : RSAt w s G C lv R W l) (h2 : RSAt w s2 G2 C lv R W l2) (hmd : "Plus" = "Minus" → C.mode ≠ 2) :
    Calls Tryz.prog 121 #[.pointer (some ⟨s, 0, none⟩), .pointer (some ⟨s2, 0, none⟩), .int .i64 1] w (RSJoinPost w s G C lv R W (plusL l l2)) := by
  have HH := Lib.hid h
  have HH2 := Lib.hid h2
  have ls := h.lts
  have hex := h.ex
  have c0 := (cell_of hex 0).trans rfl
  have c1 := (cell_of hex 1).trans rfl
  have c2 := (cell_of hex 2).trans rfl
  have c3 := (cell_of hex 3).trans rfl
  have c4 := (cell_of hex 4).trans rfl
  have c5 := (cell_of hex 5).trans rfl
  have ls2 := h2.lts
  have hex2 := h2.ex
  have d0 := (cell_of hex2 0).trans rfl
  have d1 := (cell_of hex2 1).trans rfl
  have d2 := (cell_of hex2 2).trans rfl
  have d3 := (cell_of hex2 3).trans rfl
  have d4 := (cell_of hex2 4).trans rfl
  have d5 := (cell_of hex2 5).trans rfl
  clear hex hex2 h h2 hmd
  go_enter Tryz.func121, Tryz.ntmps121
  go_wp2_with fail
  have hC0 := af_drew w
  refine pi_start (fun w' => ∃ z : After w, w' = z.w) [] (by kernel_rfl) ?_
  refine pi_t 0 rfl (by kernel_rfl) (by kernel_rfl) (fun _ _ _ _ h => h) (fun K hK => ?_)
  go_big_quiet_op
  refine hK _ ?_
  clear hK K
  refine pi_t 1 rfl (by kernel_rfl) (by kernel_rfl) (fun _ _ _ _ h => h) (fun K hK => ?_)
  go_big_quiet_op
  refine hK _ ?_
  clear hK K
  refine pi_t 2 rfl (by kernel_rfl) (by kernel_rfl) (fun _ _ _ _ h => h) (fun K hK => ?_)
  go_big_quiet_op
  refine hK _ ?_
  clear hK K
  refine pi_t 4 rfl (by kernel_rfl) (by kernel_rfl) (fun _ _ _ _ h => h) (fun K hK => ?_)
  go_big_quiet_op
  refine hK _ ?_
  clear hK K
  refine pi_t 5 rfl (by kernel_rfl) (by kernel_rfl) (fun _ _ _ _ h => h) (fun K hK => ?_)
  go_big_quiet_op
  refine hK _ ?_
  clear hK K
  refine pi_t 6 rfl (by kernel_rfl) (by kernel_rfl) (fun _ _ _ _ h => h) (fun K hK => ?_)
  go_big_quiet_op
  refine hK _ ?_
  clear hK K
  refine pi_c 3 (by assumption) rfl (by kernel_rfl) (by kernel_rfl) (fun _ _ _ _ h => h) (fun K hK => ?_)
  go_big_quiet_op
  refine hK _ ?_
  clear hK K
  refine pi_c 7 (by assumption) rfl (by kernel_rfl) (by kernel_rfl) (fun _ _ _ _ h => h) (fun K hK => ?_)
  go_big_quiet_op
  refine hK _ ?_
  clear hK K
  refine pi_t 8 rfl (by kernel_rfl) (by kernel_rfl) (fun _ _ _ _ h => h) (fun K hK => ?_)
  go_big_quiet_op
  refine hK _ ?_
  clear hK K
  refine pi_t 9 rfl (by kernel_rfl) (by kernel_rfl) (fun _ _ _ _ h => h) (fun K hK => ?_)
  go_big_quiet_op
  refine hK _ ?_
  clear hK K
  refine pi_t 10 rfl (by kernel_rfl) (by kernel_rfl) (fun _ _ _ _ h => h) (fun K hK => ?_)
  go_big_quiet_op
  refine hK _ ?_
  clear hK K
  refine pi_t 11 rfl (by kernel_rfl) (by kernel_rfl) (fun _ _ _ _ h => h) (fun K hK => ?_)
  go_big_quiet_op
  refine hK _ ?_
  clear hK K
  refine pi_t 12 rfl (by kernel_rfl) (by kernel_rfl) (fun _ _ _ _ h => h) (fun K hK => ?_)
  go_big_quiet_op
  refine hK _ ?_
  clear hK K
  refine pi_t 14 rfl (by kernel_rfl) (by kernel_rfl) (fun _ _ _ _ h => h) (fun K hK => ?_)
  go_big_quiet_op
  refine hK _ ?_
  clear hK K
  refine pi_t 15 rfl (by kernel_rfl) (by kernel_rfl) (fun _ _ _ _ h => h) (fun K hK => ?_)
  go_big_quiet_op
  refine hK _ ?_
  clear hK K
  refine pi_t 16 rfl (by kernel_rfl) (by kernel_rfl) (fun _ _ _ _ h => h) (fun K hK => ?_)
  go_big_quiet_op
  refine hK _ ?_
  clear hK K
  refine pi_c 13 (by assumption) rfl (by kernel_rfl) (by kernel_rfl) (fun _ _ _ _ h => h) (fun K hK => ?_)
  go_big_quiet_op
  refine hK _ ?_
  clear hK K
  refine pi_c 17 (by assumption) rfl (by kernel_rfl) (by kernel_rfl) (fun _ _ _ _ h => h) (fun K hK => ?_)
  go_big_quiet_op
  refine hK _ ?_
  clear hK K
  refine pi_t 18 rfl (by kernel_rfl) (by kernel_rfl) (fun _ _ _ _ h => h) (fun K hK => ?_)
  go_big_quiet_op
  refine hK _ ?_
  clear hK K
  refine pi_t 19 rfl (by kernel_rfl) (by kernel_rfl) (fun _ _ _ _ h => h) (fun K hK => ?_)
  go_big_quiet_op
  refine hK _ ?_
  clear hK K
  refine pi_end (by kernel_rfl) ?_
  have hE1 : Ext w w.drew := Below.drew (Ext.refl w)
  have HG := Lib.hid (fun W' (hW : Ext w W') => RGJoinPlus_c G G2 R W l l2 W' (HH.out.g.ext hW) (HH2.out.g.ext hW) HH.out.fit HH2.out.fit)
  have hex1 := HH.out.ex
  have hex2 := HH2.out.ex
  have c6 := (cell_of hex1 6).trans rfl
  have d6 := (cell_of hex2 6).trans rfl
  clear hex1 hex2
  go_wp2_with fail
  have hC0 : ∃ z : After w, w.drew.drew = z.w := ⟨⟨_, (Ext.refl w).drewR.drewR⟩, rfl⟩
  refine pi_start (fun w' => ∃ z : After w, w' = z.w) [9] (by kernel_rfl) ?_
  refine pi_t 0 rfl (by kernel_rfl) (by kernel_rfl) (fun _ _ _ _ h => h) (fun K hK => ?_)
  go_big_quiet_op
  refine hK _ ?_
  clear hK K
  refine pi_t 1 rfl (by kernel_rfl) (by kernel_rfl) (fun _ _ _ _ h => h) (fun K hK => ?_)
  go_big_quiet_op
  refine hK _ ?_
  clear hK K
  refine pi_t 2 rfl (by kernel_rfl) (by kernel_rfl) (fun _ _ _ _ h => h) (fun K hK => ?_)
  go_big_quiet_op
  refine hK _ ?_
  clear hK K
  refine pi_t 4 rfl (by kernel_rfl) (by kernel_rfl) (fun _ _ _ _ h => h) (fun K hK => ?_)
  go_big_quiet_op
  refine hK _ ?_
  clear hK K
  refine pi_t 5 rfl (by kernel_rfl) (by kernel_rfl) (fun _ _ _ _ h => h) (fun K hK => ?_)
  go_big_quiet_op
  refine hK _ ?_
  clear hK K
  refine pi_t 6 rfl (by kernel_rfl) (by kernel_rfl) (fun _ _ _ _ h => h) (fun K hK => ?_)
  go_big_quiet_op
  refine hK _ ?_
  clear hK K
  refine pi_t 8 rfl (by kernel_rfl) (by kernel_rfl) (fun _ _ _ _ h => h) (fun K hK => ?_)
  go_big_quiet_op
  refine hK _ ?_
  clear hK K
  refine pi_c 3 (by assumption) rfl (by kernel_rfl) (by kernel_rfl) (fun _ _ _ _ h => h) (fun K hK => ?_)
  go_big_quiet_op
  refine hK _ ?_
  clear hK K
  refine pi_c 7 (by assumption) rfl (by kernel_rfl) (by kernel_rfl) (fun _ _ _ _ h => h) (fun K hK => ?_)
  go_big_quiet_op
  refine hK _ ?_
  clear hK K
  refine pi_l 9 rfl (by kernel_rfl) (fun K hK => ?_)
  go_wp2_with (go_at_call 157; refine Calls.mono (HG.out _ (Ext.refl w).drewR.drewR) ?_; rintro e w1 (⟨ha, rfl, G', hg', hG', hF', hM'⟩ | ⟨ha, rfl, hx'⟩))
  · refine hK _ _ (by simp) ?_
    clear hK K
    have HA := Lib.hid ha
    have HGG := Lib.hid hg'
    have HG' := Lib.hid hG'
    have HF' := Lib.hid hF'
    have hM2 : Mod (fun k => k = G.g) w w1 := ((Ext.refl w).drewR.drewR.mod _).trans hM'
    clear ha hg' hG' hF' hM'
    refine pi_t 10 rfl (by kernel_rfl) (by kernel_rfl) (fun _ _ _ _ h => h) (fun K hK => ?_)
    go_big_quiet_op
    refine hK _ ?_
    clear hK K
    refine pi_end (by kernel_rfl) ?_
    go_wp2
    go_ret
    refine .inl ⟨HA.out, rfl, G', ⟨?_, HG'.out, HH.out.ok, HH.out.lo, HH.out.hi, HH.out.hr, HH.out.hw, HA.out⟩, ?_, hM2.wider (fun k hk => .inr (.inl hk))⟩
    · rw [HGG.out, hM2.block s ls (fun e => HH.out.ns (.inl e))]; exact HH.out.ex
    · rintro k (rfl | hk)
      · exact .inl (.inl rfl)
      · rcases HF'.out k hk with h1 | h1
        · exact .inl (.inr (.inl h1))
        · exact .inr h1
  · refine hK _ _ (by simp) ?_
    clear hK K
    have HA := Lib.hid ha
    have hE2 : Ext w w1 := (Ext.refl w).drewR.drewR.trans' hx'
    clear ha hx'
    refine pi_t 10 rfl (by kernel_rfl) (by kernel_rfl) (fun _ _ _ _ h => h) (fun K hK => ?_)
    go_big_quiet_op
    refine hK _ ?_
    clear hK K
    refine pi_end (by kernel_rfl) ?_
    go_wp2
    go_ret
    exact .inr ⟨HA.out, rfl, hE2⟩
set_option maxRecDepth 20000 in
set_option maxHeartbeats 8000000 in
theorem RSJoinMinus_c (s s2 : Nat) (G G2 : Gr) (C : Cfg) (lv : Int) (R W : Nat) (l l2 : List Int) (w : World) (h : RSAt w s G C lv R W l) (h2 : RSAt w s2 G2 C lv R W l2) (hmd : "Minus" = "Minus" → C.mode ≠ 2) :
    Calls Tryz.prog 121 #[.pointer (some ⟨s, 0, none⟩), .pointer (some ⟨s2, 0, none⟩), .int .i64 (-1)] w (RSJoinPost w s G C lv R W (minusL l l2)) := by
  have HH := Lib.hid h
  have HH2 := Lib.hid h2
  have ls := h.lts
  have hex := h.ex
  have c0 := (cell_of hex 0).trans rfl
  have c1 := (cell_of hex 1).trans rfl
  have c2 := (cell_of hex 2).trans rfl
  have c3 := (cell_of hex 3).trans rfl
  have c4 := (cell_of hex 4).trans rfl
  have c5 := (cell_of hex 5).trans rfl
  have ls2 := h2.lts
  have hex2 := h2.ex
  have d0 := (cell_of hex2 0).trans rfl
  have d1 := (cell_of hex2 1).trans rfl
  have d2 := (cell_of hex2 2).trans rfl
  have d3 := (cell_of hex2 3).trans rfl
  have d4 := (cell_of hex2 4).trans rfl
  have d5 := (cell_of hex2 5).trans rfl
  have hmm : (C.mode == 2) = false := by have := hmd rfl; simpa using this
  clear hex hex2 h h2 hmd
  go_enter Tryz.func121, Tryz.ntmps121
  go_wp2_with fail
  have hC0 := af_drew w
  refine pi_start (fun w' => ∃ z : After w, w' = z.w) [] (by kernel_rfl) ?_
  refine pi_t 0 rfl (by kernel_rfl) (by kernel_rfl) (fun _ _ _ _ h => h) (fun K hK => ?_)
  go_big_quiet_op
  refine hK _ ?_
  clear hK K
  refine pi_t 1 rfl (by kernel_rfl) (by kernel_rfl) (fun _ _ _ _ h => h) (fun K hK => ?_)
  go_big_quiet_op
  refine hK _ ?_
  clear hK K
  refine pi_t 2 rfl (by kernel_rfl) (by kernel_rfl) (fun _ _ _ _ h => h) (fun K hK => ?_)
  go_big_quiet_op
  refine hK _ ?_
  clear hK K
  refine pi_t 4 rfl (by kernel_rfl) (by kernel_rfl) (fun _ _ _ _ h => h) (fun K hK => ?_)
  go_big_quiet_op
  refine hK _ ?_
  clear hK K
  refine pi_t 5 rfl (by kernel_rfl) (by kernel_rfl) (fun _ _ _ _ h => h) (fun K hK => ?_)
  go_big_quiet_op
  refine hK _ ?_
  clear hK K
  refine pi_t 6 rfl (by kernel_rfl) (by kernel_rfl) (fun _ _ _ _ h => h) (fun K hK => ?_)
  go_big_quiet_op
  refine hK _ ?_
  clear hK K
  refine pi_c 3 (by assumption) rfl (by kernel_rfl) (by kernel_rfl) (fun _ _ _ _ h => h) (fun K hK => ?_)
  go_big_quiet_op
  refine hK _ ?_
  clear hK K
  refine pi_c 7 (by assumption) rfl (by kernel_rfl) (by kernel_rfl) (fun _ _ _ _ h => h) (fun K hK => ?_)
  go_big_quiet_op
  refine hK _ ?_
  clear hK K
  refine pi_t 8 rfl (by kernel_rfl) (by kernel_rfl) (fun _ _ _ _ h => h) (fun K hK => ?_)
  go_big_quiet_op
  refine hK _ ?_
  clear hK K
  refine pi_t 9 rfl (by kernel_rfl) (by kernel_rfl) (fun _ _ _ _ h => h) (fun K hK => ?_)
  go_big_quiet_op
  refine hK _ ?_
  clear hK K
  refine pi_t 10 rfl (by kernel_rfl) (by kernel_rfl) (fun _ _ _ _ h => h) (fun K hK => ?_)
  go_big_quiet_op
  refine hK _ ?_
  clear hK K
  refine pi_t 11 rfl (by kernel_rfl) (by kernel_rfl) (fun _ _ _ _ h => h) (fun K hK => ?_)
  go_big_quiet_op
  refine hK _ ?_
  clear hK K
  refine pi_t 12 rfl (by kernel_rfl) (by kernel_rfl) (fun _ _ _ _ h => h) (fun K hK => ?_)
  go_big_quiet_op
  refine hK _ ?_
  clear hK K
  refine pi_t 14 rfl (by kernel_rfl) (by kernel_rfl) (fun _ _ _ _ h => h) (fun K hK => ?_)
  go_big_quiet_op
  refine hK _ ?_
  clear hK K
  refine pi_t 15 rfl (by kernel_rfl) (by kernel_rfl) (fun _ _ _ _ h => h) (fun K hK => ?_)
  go_big_quiet_op
  refine hK _ ?_
  clear hK K
  refine pi_t 16 rfl (by kernel_rfl) (by kernel_rfl) (fun _ _ _ _ h => h) (fun K hK => ?_)
  go_big_quiet_op
  refine hK _ ?_
  clear hK K
  refine pi_c 13 (by assumption) rfl (by kernel_rfl) (by kernel_rfl) (fun _ _ _ _ h => h) (fun K hK => ?_)
  go_big_quiet_op
  refine hK _ ?_
  clear hK K
  refine pi_c 17 (by assumption) rfl (by kernel_rfl) (by kernel_rfl) (fun _ _ _ _ h => h) (fun K hK => ?_)
  go_big_quiet_op
  refine hK _ ?_
  clear hK K
  refine pi_t 18 rfl (by kernel_rfl) (by kernel_rfl) (fun _ _ _ _ h => h) (fun K hK => ?_)
  go_big_quiet_op
  refine hK _ ?_
  clear hK K
  refine pi_t 19 rfl (by kernel_rfl) (by kernel_rfl) (fun _ _ _ _ h => h) (fun K hK => ?_)
  go_big_quiet_op
  refine hK _ ?_
  clear hK K
  refine pi_end (by kernel_rfl) ?_
  have hE1 : Ext w w.drew := Below.drew (Ext.refl w)
  have HG := Lib.hid (fun W' (hW : Ext w W') => RGJoinMinus_c G G2 R W l l2 W' (HH.out.g.ext hW) (HH2.out.g.ext hW) HH.out.fit HH2.out.fit)
  have hex1 := HH.out.ex
  have hex2 := HH2.out.ex
  have c6 := (cell_of hex1 6).trans rfl
  have d6 := (cell_of hex2 6).trans rfl
  clear hex1 hex2
  go_wp2_with fail
  have hC0 : ∃ z : After w, w.drew.drew = z.w := ⟨⟨_, (Ext.refl w).drewR.drewR⟩, rfl⟩
  refine pi_start (fun w' => ∃ z : After w, w' = z.w) [9] (by kernel_rfl) ?_
  refine pi_t 0 rfl (by kernel_rfl) (by kernel_rfl) (fun _ _ _ _ h => h) (fun K hK => ?_)
  go_big_quiet_op
  refine hK _ ?_
  clear hK K
  refine pi_t 1 rfl (by kernel_rfl) (by kernel_rfl) (fun _ _ _ _ h => h) (fun K hK => ?_)
  go_big_quiet_op
  refine hK _ ?_
  clear hK K
  refine pi_t 2 rfl (by kernel_rfl) (by kernel_rfl) (fun _ _ _ _ h => h) (fun K hK => ?_)
  go_big_quiet_op
  refine hK _ ?_
  clear hK K
  refine pi_t 4 rfl (by kernel_rfl) (by kernel_rfl) (fun _ _ _ _ h => h) (fun K hK => ?_)
  go_big_quiet_op
  refine hK _ ?_
  clear hK K
  refine pi_t 5 rfl (by kernel_rfl) (by kernel_rfl) (fun _ _ _ _ h => h) (fun K hK => ?_)
  go_big_quiet_op
  refine hK _ ?_
  clear hK K
  refine pi_t 6 rfl (by kernel_rfl) (by kernel_rfl) (fun _ _ _ _ h => h) (fun K hK => ?_)
  go_big_quiet_op
  refine hK _ ?_
  clear hK K
  refine pi_t 8 rfl (by kernel_rfl) (by kernel_rfl) (fun _ _ _ _ h => h) (fun K hK => ?_)
  go_big_quiet_op
  refine hK _ ?_
  clear hK K
  refine pi_c 3 (by assumption) rfl (by kernel_rfl) (by kernel_rfl) (fun _ _ _ _ h => h) (fun K hK => ?_)
  go_big_quiet_op
  refine hK _ ?_
  clear hK K
  refine pi_c 7 (by assumption) rfl (by kernel_rfl) (by kernel_rfl) (fun _ _ _ _ h => h) (fun K hK => ?_)
  go_big_quiet_op
  refine hK _ ?_
  clear hK K
  refine pi_l 9 rfl (by kernel_rfl) (fun K hK => ?_)
  go_wp2_with (go_at_call 157; refine Calls.mono (HG.out _ (Ext.refl w).drewR.drewR) ?_; rintro e w1 (⟨ha, rfl, G', hg', hG', hF', hM'⟩ | ⟨ha, rfl, hx'⟩))
  · refine hK _ _ (by simp) ?_
    clear hK K
    have HA := Lib.hid ha
    have HGG := Lib.hid hg'
    have HG' := Lib.hid hG'
    have HF' := Lib.hid hF'
    have hM2 : Mod (fun k => k = G.g) w w1 := ((Ext.refl w).drewR.drewR.mod _).trans hM'
    clear ha hg' hG' hF' hM'
    refine pi_t 10 rfl (by kernel_rfl) (by kernel_rfl) (fun _ _ _ _ h => h) (fun K hK => ?_)
    go_big_quiet_op
    refine hK _ ?_
    clear hK K
    refine pi_end (by kernel_rfl) ?_
    go_wp2
    go_ret
    refine .inl ⟨HA.out, rfl, G', ⟨?_, HG'.out, HH.out.ok, HH.out.lo, HH.out.hi, HH.out.hr, HH.out.hw, HA.out⟩, ?_, hM2.wider (fun k hk => .inr (.inl hk))⟩
    · rw [HGG.out, hM2.block s ls (fun e => HH.out.ns (.inl e))]; exact HH.out.ex
    · rintro k (rfl | hk)
      · exact .inl (.inl rfl)
      · rcases HF'.out k hk with h1 | h1
        · exact .inl (.inr (.inl h1))
        · exact .inr h1
  · refine hK _ _ (by simp) ?_
    clear hK K
    have HA := Lib.hid ha
    have hE2 : Ext w w1 := (Ext.refl w).drewR.drewR.trans' hx'
    clear ha hx'
    refine pi_t 10 rfl (by kernel_rfl) (by kernel_rfl) (fun _ _ _ _ h => h) (fun K hK => ?_)
    go_big_quiet_op
    refine hK _ ?_
    clear hK K
    refine pi_end (by kernel_rfl) ?_
    go_wp2
    go_ret
    exact .inr ⟨HA.out, rfl, hE2⟩
set_option maxRecDepth 20000 in
set_option maxHeartbeats 8000000 in
/-- In the mode Conservative nothing is taken away. -/
theorem RSJoin_mode (s s2 : Nat) (G G2 : Gr) (C : Cfg) (lv : Int) (R W : Nat) (l l2 : List Int) (w : World) (h : RSAt w s G C lv R W l) (h2 : RSAt w s2 G2 C lv R W l2) (hmd : C.mode = 2) :
    Calls Tryz.prog 121 #[.pointer (some ⟨s, 0, none⟩), .pointer (some ⟨s2, 0, none⟩), .int .i64 (-1)] w fun e w' => e = .returned (.int .i64 3) ∧ Ext w w' := by
  have ls := h.lts
  have hex := h.ex
  have c0 := (cell_of hex 0).trans rfl
  have c1 := (cell_of hex 1).trans rfl
  have c2 := (cell_of hex 2).trans rfl
  have c3 := (cell_of hex 3).trans rfl
  have c4 := (cell_of hex 4).trans rfl
  have c5 := (cell_of hex 5).trans rfl
  have ls2 := h2.lts
  have hex2 := h2.ex
  have d0 := (cell_of hex2 0).trans rfl
  have d1 := (cell_of hex2 1).trans rfl
  have d2 := (cell_of hex2 2).trans rfl
  have d3 := (cell_of hex2 3).trans rfl
  have d4 := (cell_of hex2 4).trans rfl
  have d5 := (cell_of hex2 5).trans rfl
  have hmm : (C.mode == 2) = true := by simpa using hmd
  clear hex hex2 h h2 hmd
  go_enter Tryz.func121, Tryz.ntmps121
  go_wp2_with fail
  have hC0 := af_drew w
  refine pi_start (fun w' => ∃ z : After w, w' = z.w) [] (by kernel_rfl) ?_
  refine pi_t 0 rfl (by kernel_rfl) (by kernel_rfl) (fun _ _ _ _ h => h) (fun K hK => ?_)
  go_big_quiet_op
  refine hK _ ?_
  clear hK K
  refine pi_t 1 rfl (by kernel_rfl) (by kernel_rfl) (fun _ _ _ _ h => h) (fun K hK => ?_)
  go_big_quiet_op
  refine hK _ ?_
  clear hK K
  refine pi_t 2 rfl (by kernel_rfl) (by kernel_rfl) (fun _ _ _ _ h => h) (fun K hK => ?_)
  go_big_quiet_op
  refine hK _ ?_
  clear hK K
  refine pi_t 4 rfl (by kernel_rfl) (by kernel_rfl) (fun _ _ _ _ h => h) (fun K hK => ?_)
  go_big_quiet_op
  refine hK _ ?_
  clear hK K
  refine pi_t 5 rfl (by kernel_rfl) (by kernel_rfl) (fun _ _ _ _ h => h) (fun K hK => ?_)
  go_big_quiet_op
  refine hK _ ?_
  clear hK K
  refine pi_t 6 rfl (by kernel_rfl) (by kernel_rfl) (fun _ _ _ _ h => h) (fun K hK => ?_)
  go_big_quiet_op
  refine hK _ ?_
  clear hK K
  refine pi_c 3 (by assumption) rfl (by kernel_rfl) (by kernel_rfl) (fun _ _ _ _ h => h) (fun K hK => ?_)
  go_big_quiet_op
  refine hK _ ?_
  clear hK K
  refine pi_c 7 (by assumption) rfl (by kernel_rfl) (by kernel_rfl) (fun _ _ _ _ h => h) (fun K hK => ?_)
  go_big_quiet_op
  refine hK _ ?_
  clear hK K
  refine pi_t 8 rfl (by kernel_rfl) (by kernel_rfl) (fun _ _ _ _ h => h) (fun K hK => ?_)
  go_big_quiet_op
  refine hK _ ?_
  clear hK K
  refine pi_t 9 rfl (by kernel_rfl) (by kernel_rfl) (fun _ _ _ _ h => h) (fun K hK => ?_)
  go_big_quiet_op
  refine hK _ ?_
  clear hK K
  refine pi_t 10 rfl (by kernel_rfl) (by kernel_rfl) (fun _ _ _ _ h => h) (fun K hK => ?_)
  go_big_quiet_op
  refine hK _ ?_
  clear hK K
  refine pi_t 11 rfl (by kernel_rfl) (by kernel_rfl) (fun _ _ _ _ h => h) (fun K hK => ?_)
  go_big_quiet_op
  refine hK _ ?_
  clear hK K
  refine pi_t 12 rfl (by kernel_rfl) (by kernel_rfl) (fun _ _ _ _ h => h) (fun K hK => ?_)
  go_big_quiet_op
  refine hK _ ?_
  clear hK K
  refine pi_t 14 rfl (by kernel_rfl) (by kernel_rfl) (fun _ _ _ _ h => h) (fun K hK => ?_)
  go_big_quiet_op
  refine hK _ ?_
  clear hK K
  refine pi_t 15 rfl (by kernel_rfl) (by kernel_rfl) (fun _ _ _ _ h => h) (fun K hK => ?_)
  go_big_quiet_op
  refine hK _ ?_
  clear hK K
  refine pi_t 16 rfl (by kernel_rfl) (by kernel_rfl) (fun _ _ _ _ h => h) (fun K hK => ?_)
  go_big_quiet_op
  refine hK _ ?_
  clear hK K
  refine pi_c 13 (by assumption) rfl (by kernel_rfl) (by kernel_rfl) (fun _ _ _ _ h => h) (fun K hK => ?_)
  go_big_quiet_op
  refine hK _ ?_
  clear hK K
  refine pi_c 17 (by assumption) rfl (by kernel_rfl) (by kernel_rfl) (fun _ _ _ _ h => h) (fun K hK => ?_)
  go_big_quiet_op
  refine hK _ ?_
  clear hK K
  refine pi_t 18 rfl (by kernel_rfl) (by kernel_rfl) (fun _ _ _ _ h => h) (fun K hK => ?_)
  go_big_quiet_op
  refine hK _ ?_
  clear hK K
  refine pi_t 19 rfl (by kernel_rfl) (by kernel_rfl) (fun _ _ _ _ h => h) (fun K hK => ?_)
  go_big_quiet_op
  refine hK _ ?_
  clear hK K
  refine pi_end (by kernel_rfl) ?_
  have hE1 : Ext w w.drew := Below.drew (Ext.refl w)
  go_wp2
  go_ret
  exact ⟨rfl, hE1⟩
end Go.Proofs.YteoblkcbemeamaaGreat

/- slices.Values of pieces: the iterator's contract. -/
namespace Go.Proofs.YteoblkcbemeamaaGreat
set_option linter.unusedVariables false
open Go.RowKit
attribute [local go_sem] Oper.semAt_some
/-- A slice of pieces that lies below a block. -/
def PcsAt (n₀ : Nat) (W : World) (v : Value) (ps : List (Nat × Int)) : Prop :=
  (v = .slice none 0 0 ∧ ps = []) ∨ ∃ g cap, v = .slice (some ⟨g, 0, none⟩) ps.length cap ∧ g < n₀ ∧ PCells W g 0 ps
theorem PcsAt.below {n₀ : Nat} {A B : World} {v : Value} {ps : List (Nat × Int)} (h : PcsAt n₀ A v ps) (hb : Below n₀ A B) : PcsAt n₀ B v ps := by
  rcases h with h | ⟨g, cap, h1, h2, h3⟩
  · exact .inl h
  · exact .inr ⟨g, cap, h1, h2, fun k hk => ⟨(hb.cell (p := ⟨g, _, none⟩) h2).trans (h3 k hk).1, (hb.cell (p := ⟨g, _, none⟩) h2).trans (h3 k hk).2⟩⟩
theorem PcsAt.of_own {w : World} {base n₀ : Nat} {e : TypeId} {v : Value} {ps : List (Nat × Int)} (h : w.ownsRow base e 2 v ps.length (pcV ps)) (hn : w.heap.size ≤ n₀) : PcsAt n₀ w v ps := by
  rcases h.2 with ⟨h1, h2⟩ | ⟨g, cap, cur, rfl, _, hh, hc, _, hs, ht⟩
  · exact .inl ⟨h1, List.length_eq_zero_iff.1 h2⟩
  · refine .inr ⟨g, cap, rfl, Nat.lt_of_lt_of_le (lt_of hh) hn, fun k hk => ?_⟩
    obtain ⟨a1, a2⟩ := pcV_at hk
    rw [← ht] at a1 a2
    rw [List.getElem?_take_of_lt (by omega)] at a1 a2
    simp only [Array.getElem?_toList] at a1 a2
    rw [cell_of hh, cell_of hh, Nat.zero_add]
    exact ⟨a1, a2⟩
def pcEnc (ps : List (Nat × Int)) (x : {p : Nat × Int // p ∈ ps}) : Array Value := #[.agg #[.int .i64 (x.1.1 : Int), .int .u64 x.1.2]]
theorem getD_in {ps : List (Nat × Int)} {k : Nat} (h : k < ps.length) : ps.getD k (0, 0) ∈ ps := by simp [h]
set_option maxRecDepth 100000 in
set_option maxHeartbeats 2000000 in
theorem values1_in (n l Bs n₀ g cap : Nat) (ps : List (Nat × Int)) (hg : g < n₀) (hl : ps.length ≤ 1000000) (J Jx : List {p : Nat × Int // p ∈ ps} → World → Prop)
    (W : World) (hW : n₀ ≤ W.heap.size) (hJ : AbidesFrom W.heap.size J)
    (hY : ∀ pre x W, J pre W → pre.length < ps.length → YieldAt Fence.wide (n - 1) Tryz.prog l (pcEnc ps x) W fun e W' =>
      (e = .returned (.bool true) ∧ J (pre ++ [x]) W' ∧ Below n₀ W W') ∨ (e = .returned (.bool false) ∧ Jx (pre ++ [x]) W'))
    (hBs : W.cell? ⟨Bs, 0, none⟩ = some (.slice (some ⟨g, 0, none⟩) ps.length cap)) (hc : PCells W g 0 ps) (h0 : J [] W) :
    CallsIn Fence.wide n Tryz.prog 140 #[.func (.yield l) #[] #[], .pointer (some ⟨Bs, 0, none⟩)] W fun e W' => (∃ v, e = .returned v) ∧
      ((∃ ys, ys.map (fun x : {p : Nat × Int // p ∈ ps} => x.1) = ps ∧ J ys W') ∨ (∃ pre, True ∧ Jx pre W')) := by
  refine callsIn_of_wp Tryz.func140 rfl trivial ?_ rfl
  simp only [Tryz.ntmps140, List.size_toArray, List.length_cons, List.length_nil, Nat.reduceAdd, Nat.reduceSub, Array.replicate_succ, Array.replicate_zero, List.push_toArray, List.append_toArray, List.nil_append, List.cons_append]
  gi_wp2
  generalize hn : ps.length = m at *
  have HN := Lib.hid hn
  clear hn
  gi_loopw [7] (fun i wr => ∃ (k : Nat) (pre : List {p : Nat × Int // p ∈ ps}), k ≤ m ∧ i = .int .i64 k ∧ pre.map (fun x : {p : Nat × Int // p ∈ ps} => x.1) = ps.take k ∧ J pre wr ∧ Below n₀ W wr)
    (fun i _ => m - (intOf i).toNat)
  case atStart => exact ⟨0, [], Nat.zero_le _, rfl, rfl, h0, Below.refl _ _⟩
  case round =>
    obtain ⟨k, pre, hk, rfl, hpre, hJs, hnx⟩ := hrel
    have hlen : pre.length = k := by
      have := congrArg List.length hpre
      rw [List.length_map, List.length_take, HN.out] at this
      omega
    by_cases hlt : k < m
    · have hkp : k < ps.length := by rw [HN.out]; exact hlt
      have hgw : g < wr.heap.size := by have := hnx.size; omega
      obtain ⟨d0, d1⟩ := hc k hkp
      rw [Nat.zero_add] at d0 d1
      have c0 := (hnx.cell (p := ⟨g, k * 2, none⟩) hg).trans d0
      have c1 := (hnx.cell (p := ⟨g, k * 2 + 1, none⟩) hg).trans d1
      have hmem := getD_in hkp
      have htk : ps.take (k + 1) = ps.take k ++ [ps.getD k (0, 0)] := by
        rw [List.take_succ_eq_append_getElem hkp]; simp [hkp]
      generalize ps.getD k (0, 0) = p at *
      obtain ⟨p1, p2⟩ := p
      dsimp only at c0 c1 d0 d1
      have hJn : J pre (wr.alloc (.cells #[.int .i64 (p1 : Int), .int .u64 p2] 39)) := hJ pre wr _ none hJs (World.grownBy_alloc wr _ none) (fun r e => by cases e)
      obtain ⟨fn, tmps, assign, body, hy, hR⟩ := hY pre ⟨(p1, p2), hmem⟩ _ hJn (by omega)
      have hbel : Below n₀ W (wr.alloc (.cells #[.int .i64 (p1 : Int), .int .u64 p2] 39)) := hnx.alloc (by have := hnx.size; omega) _
      dsimp only [pcEnc] at hy
      gi_wp2
      refine ⟨fun h => (by cases h), hR.mono ?_⟩
      rintro e W3 (⟨rfl, hJ3, hk3⟩ | ⟨rfl, hJx3⟩)
      · gi_wp2
        go_roundw
        case rel => exact ⟨k + 1, pre ++ [⟨(p1, p2), hmem⟩], by omega, by simp, by rw [List.map_append, hpre, htk]; rfl, hJ3, hbel.trans hk3⟩
        case measure => simp [intOf]; omega
      · gi_wp2
        refine bodyPost_ret (results_none rfl _ _ _) rfl ?_
        exact ⟨⟨_, rfl⟩, .inr ⟨_, trivial, hJx3⟩⟩
    · obtain rfl : k = m := by omega
      gi_wp2
      go_end0
      exact ⟨⟨_, rfl⟩, .inl ⟨pre, by rw [hpre, ← HN.out, List.take_length], hJs⟩⟩
set_option maxRecDepth 100000 in
set_option maxHeartbeats 1000000 in
theorem values1_nil (n l Bs : Nat) (J : List {p : Nat × Int // p ∈ ([] : List (Nat × Int))} → World → Prop) (W : World) (hBs : W.cell? ⟨Bs, 0, none⟩ = some (.slice none 0 0)) (h0 : J [] W) :
    CallsIn Fence.wide n Tryz.prog 140 #[.func (.yield l) #[] #[], .pointer (some ⟨Bs, 0, none⟩)] W fun e W' => (∃ v, e = .returned v) ∧ J [] W' := by
  refine callsIn_of_wp Tryz.func140 rfl trivial ?_ rfl
  simp only [Tryz.ntmps140, List.size_toArray, List.length_cons, List.length_nil, Nat.reduceAdd, Nat.reduceSub, Array.replicate_succ, Array.replicate_zero, List.push_toArray, List.append_toArray, List.nil_append, List.cons_append]
  gi_wp2
  gi_loopw [7] (fun i wr => i = .int .i64 0 ∧ J [] wr) (fun _ _ => 0)
  case atStart => exact ⟨rfl, h0⟩
  case round =>
    obtain ⟨rfl, hJs⟩ := hrel
    gi_wp2
    go_end0
    exact ⟨⟨_, rfl⟩, hJs⟩
theorem Values_c (p : Option Addr) (n c : Nat) (w : World) :
    Calls Tryz.prog 90 #[.slice p n c] w fun e w' => e = .returned (.func (.func 140) #[] #[.pointer (some ⟨w.heap.size, 0, none⟩)]) ∧
      w' = w.alloc (.cells #[.slice p n c] 73) := by
  have hmf : ∀ (fn : Fn) (first cap : Array Value) (w : World), (Instr.makeFunc fn first cap).run Tryz.prog w = .ok (.func fn first cap) w := fun _ _ _ _ => rfl
  go_enter Tryz.func90, Tryz.ntmps90
  go_wp2
  go_ret
  exact ⟨rfl, rfl⟩
theorem values_stops (n Bs n₀ : Nat) (sv : Value) (ps : List (Nat × Int)) (hl : ps.length ≤ 1000000) (w : World) (hBs : Bs < w.heap.size) (hn₀ : n₀ ≤ w.heap.size)
    (hc : w.cell? ⟨Bs, 0, none⟩ = some sv) (hI : PcsAt n₀ w sv ps) :
    SeqStopsK Fence.wide n Tryz.prog 140 #[.pointer (some ⟨Bs, 0, none⟩)] (pcEnc ps) (Below n₀) (fun ys => ys.map (fun x : {p : Nat × Int // p ∈ ps} => x.1) = ps) (fun _ => True) ps.length w := by
  intro l J Jx W hW hJ hJx hY h0
  have hc' := (hW.cell (p := ⟨Bs, 0, none⟩) hBs).trans hc
  have hsz := hW.size
  rcases hI.below (hW.mono hn₀) with ⟨rfl, hp⟩ | ⟨g, cap, rfl, hg, hcs⟩
  · subst hp
    exact (values1_nil n l Bs J W hc' h0).mono fun e W' ⟨he, hj⟩ => ⟨he, .inl ⟨[], rfl, hj⟩⟩
  · exact values1_in n l Bs n₀ g cap ps hg hl J Jx W (by omega) hJ hY hc' hcs h0
end Go.Proofs.YteoblkcbemeamaaGreat

/- pieces.Halves, walked. -/
namespace Go.Proofs.YteoblkcbemeamaaGreat
set_option linter.unusedVariables false
open Go.RowKit
theorem keys_pow (C : Cfg) (n : Nat) : keys C n = 2 ^ (C.bits - n).toNat := rfl
set_option maxRecDepth 20000 in
set_option maxHeartbeats 2000000 in
/-- There is such a piece. -/
theorem is_c (C : Cfg) (h : C.Ok) (n : Nat) (hn : (n : Int) ≤ C.bits) (j : Int) (hj0 : 0 ≤ j) (hj1 : j < keys C n) (w : World) :
    Calls Tryz.prog 144 #[.int .i64 C.bits, .agg #[.int .i64 n, .int .u64 j]] w fun e w' => e = .returned (.bool true) ∧ Ext w w' := by
  have b1 := h.b1
  have b2 := h.b2
  have hp := pow_bd (C.bits - n).toNat (by omega)
  rw [keys_pow] at hj1
  go_enter Tryz.func144, Tryz.ntmps144
  go_wp2
  have hsub : 0 ≤ C.bits - (n : Int) := by omega
  refine wp_region_after (by kernel_rfl) (by kernel_rfl) ?_
  repeat (go_big_quiet_step (fail))
  refine wpQuiet_nil ?_
  rintro _ ⟨xx, rfl⟩
  obtain ⟨w1, hb1⟩ := xx
  try dsimp only
  have e : decide (j < IntKind.u64.wrap (2 ^ (C.bits.toNat - n))) = true := by
    rw [show C.bits.toNat - n = (C.bits - n).toNat by omega, IntKind.wrap_u64]
    exact decide_eq_true (by omega)
  rw [e]
  have hE : Ext w w1 := by (repeat' (first | exact Ext.refl _ | assumption | apply Ext.allocR | apply Ext.drewR | apply Ext.drewNR | (refine Ext.trans' ?_ (by assumption))))
  clear hb1
  go_wp2
  go_ret
  exact ⟨rfl, hE⟩
def PB (b n : Nat) (j : Int) (W : World) : Prop := W.heap[b]? = some (.cells #[.int .i64 (n + 1 : Nat), .int .u64 j] 39 (0, 0))
theorem pb_set {b n : Nat} {j : Int} {W : World} (i o : Nat) (u : Value) (h : i ≠ b) (hb : PB b n j W) : PB b n j (W.setCell ⟨i, o, none⟩ u) := by
  unfold PB at *
  rw [setCell_other _ _ (Ne.symm h)]; exact hb
set_option maxRecDepth 20000 in
set_option maxHeartbeats 2000000 in
theorem Halves_c (C : Cfg) (h : C.Ok) (n : Nat) (hn : ((n + 1 : Nat) : Int) ≤ C.bits) (j : Int) (hj0 : 0 ≤ j) (hj1 : j < keys C (n + 1 : Nat)) (w : World) :
    Calls Tryz.prog 94 #[.int .i64 C.bits, .agg #[.int .i64 (n + 1 : Nat), .int .u64 j]] w fun e w' => e = .returned (.tuple #[.agg #[.int .i64 n, .int .u64 (2 * j)], .agg #[.int .i64 n, .int .u64 (2 * j + 1)], .bool true]) ∧ Ext w w' := by
  have b1 := h.b1
  have b2 := h.b2
  have hp := keys_bd C h (n + 1 : Nat) (Int.natCast_nonneg _)
  go_enter Tryz.func94, Tryz.ntmps94
  go_wp2_with fail
  refine (is_c C h (n + 1) hn j hj0 hj1 _).mono ?_
  rintro e w1 ⟨rfl, hb⟩
  have hE : Ext w w1 := by (repeat' (first | exact Ext.refl _ | assumption | apply Ext.allocR | apply Ext.drewR | apply Ext.drewNR | (refine Ext.trans' ?_ (by assumption))))
  have hbx : w1.heap[w.heap.size]? = some (.cells #[.int .i64 (n + 1 : Nat), .int .u64 j] 39 (0, 0)) := by
    rw [hb.block _ (by simp only [size_alloc]; omega), heap_old _ _ (by simp only [size_alloc]; omega), heap_old _ _ (by rw [size_alloc]; omega)]
    exact heap_at _ _ rfl
  have hbl : w1.heap[w.heap.size + 1]? = some (.cells #[.int .i64 0, .int .u64 0] 39 (0, 0)) := by
    rw [hb.block _ (by simp only [size_alloc]; omega), heap_old _ _ (by simp only [size_alloc]; omega)]
    exact heap_at _ _ (by rw [size_alloc])
  have hbr : w1.heap[w.heap.size + 2]? = some (.cells #[.int .i64 0, .int .u64 0] 39 (0, 0)) := by
    rw [hb.block _ (by simp only [size_alloc]; omega)]
    exact heap_at _ _ (by simp only [size_alloc])
  have c0 := (cell_of hbx 0).trans rfl
  have c1 := (cell_of hbx 1).trans rfl
  have cl := lt_of hbx
  have l0 := (cell_of hbl 0).trans rfl
  have l1 := (cell_of hbl 1).trans rfl
  have ll := lt_of hbl
  have r0 := (cell_of hbr 0).trans rfl
  have r1 := (cell_of hbr 1).trans rfl
  have rl := lt_of hbr
  have fl0 := frozen_of hbl 0
  have fl1 := frozen_of hbl 1
  have fr0 := frozen_of hbr 0
  have fr1 := frozen_of hbr 1
  clear hb
  go_wp2
  have hne : Nonempty (Holds (PB w.heap.size n j)) := ⟨⟨w1, hbx⟩⟩
  have hS0 : ∀ x : Holds (PB w.heap.size n j), x.w.cell? ⟨w.heap.size, 0, none⟩ = some (.int .i64 (n + 1 : Nat)) := fun x => (cell_of x.h 0).trans rfl
  have hS1 : ∀ x : Holds (PB w.heap.size n j), x.w.cell? ⟨w.heap.size, 1, none⟩ = some (.int .u64 j) := fun x => (cell_of x.h 1).trans rfl
  have hC0 : ∃ x : Holds (PB w.heap.size n j), w1.drew = x.w := hs_mk hbx
  refine pi_start (fun w' => ∃ x : Holds (PB w.heap.size n j), w' = x.w) [] (by kernel_rfl) ?_
  refine pi_t 0 rfl (by kernel_rfl) (by kernel_rfl) (fun _ _ _ _ h => h) (fun K hK => ?_)
  go_big_quiet_op
  refine hK _ ?_
  clear hK K
  refine pi_c 1 (by assumption) rfl (by kernel_rfl) (by kernel_rfl) (fun _ _ _ _ h => h) (fun K hK => ?_)
  go_big_quiet_op
  refine hK _ ?_
  clear hK K
  refine pi_t 2 rfl (by kernel_rfl) (by kernel_rfl) (fun _ _ _ _ h => h) (fun K hK => ?_)
  go_big_quiet_op
  refine hK _ ?_
  clear hK K
  refine pi_t 3 rfl (by kernel_rfl) (by kernel_rfl) (fun _ _ _ _ h => h) (fun K hK => ?_)
  go_big_quiet_op
  refine hK _ ?_
  clear hK K
  refine pi_c 4 (by assumption) rfl (by kernel_rfl) (by kernel_rfl) (fun _ _ _ _ h => h) (fun K hK => ?_)
  go_big_quiet_op
  refine hK _ ?_
  clear hK K
  refine pi_t 5 rfl (by kernel_rfl) (by kernel_rfl) (fun _ _ _ _ h => h) (fun K hK => ?_)
  go_big_quiet_op
  refine hK _ ?_
  clear hK K
  refine pi_t 6 rfl (by kernel_rfl) (by kernel_rfl) (fun _ _ _ _ h => h) (fun K hK => ?_)
  go_big_quiet_op
  refine hK _ ?_
  clear hK K
  refine pi_t 7 rfl (by kernel_rfl) (by kernel_rfl) (fun _ _ _ _ h => h) (fun K hK => ?_)
  go_big_quiet_op
  refine hK _ ?_
  clear hK K
  refine pi_c 8 (by assumption) rfl (by kernel_rfl) (by kernel_rfl) (fun _ _ _ _ h => h) (fun K hK => ?_)
  go_big_quiet_op
  refine hK _ ?_
  clear hK K
  refine pi_t 9 rfl (by kernel_rfl) (by kernel_rfl) (fun _ _ _ _ h => h) (fun K hK => ?_)
  go_big_quiet_op
  refine hK _ ?_
  clear hK K
  refine pi_t 10 rfl (by kernel_rfl) (by kernel_rfl) (fun _ _ _ _ h => h) (fun K hK => ?_)
  go_big_quiet_op
  refine hK _ ?_
  clear hK K
  refine pi_c 11 (by assumption) rfl (by kernel_rfl) (by kernel_rfl) (fun _ _ _ _ h => h) (fun K hK => ?_)
  go_big_quiet_op
  refine hK _ ?_
  clear hK K
  refine pi_t 12 rfl (by kernel_rfl) (by kernel_rfl) (fun _ _ _ _ h => h) (fun K hK => ?_)
  go_big_quiet_op
  refine hK _ ?_
  clear hK K
  refine pi_t 13 rfl (by kernel_rfl) (by kernel_rfl) (fun _ _ _ _ h => h) (fun K hK => ?_)
  go_big_quiet_op
  refine hK _ ?_
  clear hK K
  refine pi_t 14 rfl (by kernel_rfl) (by kernel_rfl) (fun _ _ _ _ h => h) (fun K hK => ?_)
  go_big_quiet_op
  refine hK _ ?_
  clear hK K
  refine pi_l 15 rfl (by kernel_rfl) (fun K hK => ?_)
  go_wp2
  refine hK _ _ (fun _ _ => hs_mk (pb_set _ _ _ (by omega) (pb_set _ _ _ (by omega) hbx))) ?_
  clear hK K
  refine pi_l 16 rfl (by kernel_rfl) (fun K hK => ?_)
  go_wp2
  refine hK _ _ (fun _ _ => hs_mk (pb_set _ _ _ (by omega) (pb_set _ _ _ (by omega) (pb_set _ _ _ (by omega) (pb_set _ _ _ (by omega) hbx))))) ?_
  clear hK K
  refine pi_t 17 rfl (by kernel_rfl) (by kernel_rfl) (fun _ _ _ _ h => h) (fun K hK => ?_)
  go_big_quiet_op
  refine hK _ ?_
  clear hK K
  refine pi_end (by kernel_rfl) ?_
  go_wp2_with fail
  have hEf : Ext w ((((w1.setCell ⟨w.heap.size + 1, 0, none⟩ (.int .i64 n)).setCell ⟨w.heap.size + 1, 1, none⟩ (.int .u64 (2 * j))).setCell ⟨w.heap.size + 1 + 1, 0, none⟩ (.int .i64 n)).setCell ⟨w.heap.size + 1 + 1, 1, none⟩ (.int .u64 (2 * j + 1))) :=
    (((hE.setR (p := ⟨w.heap.size + 1, 0, none⟩) (by show w.heap.size ≤ w.heap.size + 1; omega) _).setR (p := ⟨w.heap.size + 1, 1, none⟩) (by show w.heap.size ≤ w.heap.size + 1; omega) _).setR (p := ⟨w.heap.size + 1 + 1, 0, none⟩) (by show w.heap.size ≤ w.heap.size + 1 + 1; omega) _).setR (p := ⟨w.heap.size + 1 + 1, 1, none⟩) (by show w.heap.size ≤ w.heap.size + 1 + 1; omega) _
  have e1 : ((((w1.setCell ⟨w.heap.size + 1, 0, none⟩ (.int .i64 n)).setCell ⟨w.heap.size + 1, 1, none⟩ (.int .u64 (2 * j))).setCell ⟨w.heap.size + 1 + 1, 0, none⟩ (.int .i64 n)).setCell ⟨w.heap.size + 1 + 1, 1, none⟩ (.int .u64 (2 * j + 1))).heap[w.heap.size + 1]? = some (.cells #[.int .i64 n, .int .u64 (2 * j)] 39 (0, 0)) := by
    rw [setCell_other _ _ (by omega), setCell_other _ _ (by omega)]
    exact set2 hbl _ _
  have e2 : ((((w1.setCell ⟨w.heap.size + 1, 0, none⟩ (.int .i64 n)).setCell ⟨w.heap.size + 1, 1, none⟩ (.int .u64 (2 * j))).setCell ⟨w.heap.size + 1 + 1, 0, none⟩ (.int .i64 n)).setCell ⟨w.heap.size + 1 + 1, 1, none⟩ (.int .u64 (2 * j + 1))).heap[w.heap.size + 1 + 1]? = some (.cells #[.int .i64 n, .int .u64 (2 * j + 1)] 39 (0, 0)) :=
    set2 (by rw [setCell_other _ _ (by omega), setCell_other _ _ (by omega)]; exact hbr) _ _
  generalize (((w1.setCell ⟨w.heap.size + 1, 0, none⟩ (.int .i64 n)).setCell ⟨w.heap.size + 1, 1, none⟩ (.int .u64 (2 * j))).setCell ⟨w.heap.size + 1 + 1, 0, none⟩ (.int .i64 n)).setCell ⟨w.heap.size + 1 + 1, 1, none⟩ (.int .u64 (2 * j + 1)) = Wf at *
  have r0 := (cell_of e1 0).trans rfl
  have r1 := (cell_of e1 1).trans rfl
  have r2 := (cell_of e2 0).trans rfl
  have r3 := (cell_of e2 1).trans rfl
  exact bodyPost_ret (v := .tuple #[.agg #[.int .i64 n, .int .u64 (2 * j)], .agg #[.int .i64 n, .int .u64 (2 * j + 1)], .bool true]) (by simp [results, Tryz.results94, go_sem, r0, r1, r2, r3]) rfl ⟨rfl, Below.drew hEf⟩
end Go.Proofs.YteoblkcbemeamaaGreat

/- quant.Way and quant.Quantile, walked. -/
namespace Go.Proofs.YteoblkcbemeamaaGreat
set_option linter.unusedVariables false
open Go.RowKit
@[go_sem] theorem fld_bits (b r c m s : Int) (w : World) : (Instr.field 24 (.agg #[.int .i64 b, .int .i64 r, .int .i64 c, .int .i64 m, .int .u64 s]) 0).run Tryz.prog w = .ok (.int .i64 b) w := by kernel_rfl
theorem run_slice60 (b t : Nat) (ht : t ≤ 59) (w : World) : (Instr.sliceAt 158 (.pointer (some ⟨b, 0, none⟩)) none (some (.int .i64 ((t : Int) + 1))) none).run Tryz.prog w = .ok (.slice (some ⟨b, 0, none⟩) (t + 1) 60) w := by
  have hlen : Tryz.prog.arrayLen 158 = 60 := by kernel_rfl
  have hs : (sizeOf (Tryz.prog.elem 158)).run Tryz.prog w = .ok 2 w := by kernel_rfl
  rw [run_sliceAt_array_h w 158 ⟨b, 0, none⟩ (by kernel_rfl) .i64 _ (by omega) (by rw [hlen]; omega), hs, hlen]
  simp only [Result.andThen, slicedAt]
  rw [show ((t : Int) + 1).toNat = t + 1 by omega]
  rfl
/-- What a way's contract knows of the cells. -/
structure Tells (C : Cfg) (B : Nat) (ls : Nat → List Int) (pt : Nat → Int → Int) : Prop where
  uniq : ∀ (n : Nat) (i x : Int), n ≤ B → 0 ≤ i → i < keys C n → lvPt C n (ls n) i x → x = pt n i
  lo : ∀ (n : Nat) (i : Int), -65970697666560 ≤ pt n i
  hi : ∀ (n : Nat) (i : Int), pt n i ≤ 65970697666560
/-- The whole way. -/
def wayP (pt : Nat → Int → Int) (B : Nat) (k : Int) : List (Nat × Int) := (B, 0) :: wayL pt B 0 k
theorem wayP_len (pt : Nat → Int → Int) (B : Nat) (k : Int) : (wayP pt B k).length = B + 1 := by
  unfold wayP; rw [List.length_cons, wayL_len]
/-- One more piece is laid into the way. -/
theorem way_set {W : World} {b : Nat} {cur : Array Value} {T : TypeId} {dn : List (Nat × Int)} (hb : W.heap[b]? = some (.cells cur T (0, 0))) (hs : cur.size = 120) (hp : PCells W b 0 dn) (hl : dn.length < 60) (m : Nat) (j : Int) :
    (∃ cur', ((W.setCell ⟨b, dn.length * 2, none⟩ (.int .i64 m)).setCell ⟨b, dn.length * 2 + 1, none⟩ (.int .u64 j)).heap[b]? = some (.cells cur' T (0, 0)) ∧ cur'.size = 120) ∧
    PCells ((W.setCell ⟨b, dn.length * 2, none⟩ (.int .i64 m)).setCell ⟨b, dn.length * 2 + 1, none⟩ (.int .u64 j)) b 0 (dn ++ [(m, j)]) := by
  have h2 := setCell_same (setCell_same hb (dn.length * 2) (.int .i64 m)) (dn.length * 2 + 1) (.int .u64 j)
  refine ⟨⟨_, h2, by simp [hs]⟩, fun k hk => ?_⟩
  rw [List.length_append] at hk
  simp only [List.length_cons, List.length_nil] at hk
  rw [cell_of h2, cell_of h2]
  by_cases h : k < dn.length
  · have e : (dn ++ [(m, j)]).getD k (0, 0) = dn.getD k (0, 0) := by
      rw [List.getD_eq_getElem?_getD, List.getD_eq_getElem?_getD, List.getElem?_append_left h]
    obtain ⟨a1, a2⟩ := hp k h
    rw [cell_of hb] at a1 a2
    rw [e]
    constructor
    · rw [Array.getElem?_setIfInBounds_ne (by omega), Array.getElem?_setIfInBounds_ne (by omega)]; exact a1
    · rw [Array.getElem?_setIfInBounds_ne (by omega), Array.getElem?_setIfInBounds_ne (by omega)]; exact a2
  · obtain rfl : k = dn.length := by omega
    have e : (dn ++ [(m, j)]).getD dn.length (0, 0) = (m, j) := by simp
    rw [e, Nat.zero_add]
    constructor
    · rw [Array.getElem?_setIfInBounds_ne (by omega), Array.getElem?_setIfInBounds_self_of_lt (by omega)]
    · rw [Array.getElem?_setIfInBounds_self_of_lt (by rw [Array.size_setIfInBounds]; omega)]
/-- How far the way has come. -/
def WayAt (w : World) (B : Nat) (C : Cfg) (b : Nat) (pt : Nat → Int → Int) (k : Int) (t : Nat) (k' : Int) (wr : World) (n : Nat) (i : Int) (dn : List (Nat × Int)) : Prop :=
  t + n = B ∧ dn.length = t + 1 ∧ dn.getD t (0, 0) = (n, i) ∧ wayP pt B k = dn ++ wayL pt n i k' ∧ 0 ≤ i ∧ i < keys C n ∧ 1 ≤ k' ∧ k' ≤ 65970697666560 * (t + 1) ∧
  (∃ cur, wr.heap[b]? = some (.cells cur 158 (0, 0)) ∧ cur.size = 120) ∧ PCells wr b 0 dn ∧ Ext w wr
theorem keys_half {C : Cfg} {m : Nat} (h : ((m + 1 : Nat) : Int) ≤ C.bits) : keys C m = 2 * keys C (m + 1 : Nat) := by
  unfold keys
  rw [show (C.bits - (m : Int)).toNat = (C.bits - ((m + 1 : Nat) : Int)).toNat + 1 by omega, Int.pow_succ, Int.mul_comm]
theorem wayL_succ (pt : Nat → Int → Int) (n : Nat) (i k : Int) : wayL pt (n + 1) i k = if k ≤ pt n (2 * i) then (n, 2 * i) :: wayL pt n (2 * i) k else (n, 2 * i + 1) :: wayL pt n (2 * i + 1) (k - pt n (2 * i)) := rfl
theorem way_next {w wr w6 : World} {B : Nat} {C : Cfg} {b : Nat} {pt : Nat → Int → Int} {k : Int} {t : Nat} {k' : Int} {m : Nat} {i : Int} {dn : List (Nat × Int)} (hW : WayAt w B C b pt k t k' wr (m + 1) i dn) (hE : Ext wr w6) (hB : C.bits = B) (hBd : B ≤ 59) (hbw : w.heap.size ≤ b) (hlo : -65970697666560 ≤ pt m (2 * i)) {j k2 : Int}
    (hj : (j = 2 * i ∧ k' ≤ pt m (2 * i) ∧ k2 = k') ∨ (j = 2 * i + 1 ∧ pt m (2 * i) < k' ∧ k2 = k' - pt m (2 * i))) :
    WayAt w B C b pt k (t + 1) k2 ((w6.setCell ⟨b, (t + 1) * 2, none⟩ (.int .i64 m)).setCell ⟨b, (t + 1) * 2 + 1, none⟩ (.int .u64 j)) m j (dn ++ [(m, j)]) := by
  obtain ⟨a1, a2, a3, a4, a5, a6, a7, a8, ⟨cur, a9, a10⟩, a11, a12⟩ := hW
  have hkh := keys_half (C := C) (m := m) (by omega)
  have hs := way_set (hE.keep a9) a10 (a11.ext (lt_of a9) hE) (by omega) m j
  rw [a2] at hs
  refine ⟨by omega, by rw [List.length_append, a2]; rfl, ?_, ?_, ?_, ?_, ?_, ?_, hs.1, hs.2, ((a12.trans' hE).setR (p := ⟨b, (t + 1) * 2, none⟩) hbw _).setR (p := ⟨b, (t + 1) * 2 + 1, none⟩) hbw _⟩
  · rw [← a2]; simp
  · rw [a4, List.append_assoc]
    congr 1
    rw [wayL_succ]
    rcases hj with ⟨rfl, h1, rfl⟩ | ⟨rfl, h1, rfl⟩
    · rw [if_pos h1]; rfl
    · rw [if_neg (by omega)]; rfl
  · rcases hj with ⟨rfl, _, _⟩ | ⟨rfl, _, _⟩ <;> omega
  · rcases hj with ⟨rfl, _, _⟩ | ⟨rfl, _, _⟩ <;> omega
  · rcases hj with ⟨_, h1, rfl⟩ | ⟨_, h1, rfl⟩ <;> omega
  · rcases hj with ⟨_, h1, rfl⟩ | ⟨_, h1, rfl⟩ <;> omega
def WayPost (w : World) (B : Nat) (T : Int) (pt : Nat → Int → Int) (k : Int) (e : Ending) (w' : World) : Prop :=
  ((k < 1 ∨ T < k) ∧ e = .returned (.tuple #[.slice none 0 0, .int .i64 6]) ∧ Ext w w') ∨
  ((1 ≤ k ∧ k ≤ T) ∧ ∃ v base, e = .returned (.tuple #[v, .int .i64 0]) ∧ w.heap.size ≤ base ∧ w'.ownsRow base 39 2 v (wayP pt B k).length (pcV (wayP pt B k)) ∧ Ext w w')
set_option maxRecDepth 20000 in
set_option maxHeartbeats 8000000 in
theorem Way_c (s g : Nat) (C : Cfg) (B : Nat) (L : Nat → Lev) (ls : Nat → List Int) (w : World) (h : KAt w s g C B L ls) (k : Int) (hk : I64 k) (pt : Nat → Int → Int) (hT : Tells C B ls pt) :
    Calls Tryz.prog 42 #[.pointer (some ⟨s, 0, none⟩), .int .i64 k] w (WayPost w B ((ls B).getD 0 0) pt k) := by
  have hok := h.ok
  have hB := h.hB
  have hBd : B ≤ 59 := by have := hok.b2; omega
  by_cases hk1 : k < 1
  · go_enter Tryz.func42, Tryz.ntmps42
    go_wp2
    go_step3
    go_wp2
    go_ret2
    exact .inl ⟨.inl hk1, rfl, Ext.refl _⟩
  have hTot := fun W' (he : Ext w W') => KTotal_c s g C B L ls W' (h.ext he)
  generalize hTT : (ls B).getD 0 0 = T at *
  by_cases hk2 : T < k
  · go_enter Tryz.func42, Tryz.ntmps42
    go_wp2
    go_step3
    go_wp2_with fail
    refine (hTot _ (by (repeat' (first | exact Ext.refl _ | assumption | apply Ext.allocR | apply Ext.drewR | apply Ext.drewNR | (refine Ext.trans' ?_ (by assumption)))))).mono ?_
    rintro e w1 ⟨rfl, hx1⟩
    go_wp2
    go_ret2
    exact .inl ⟨.inr hk2, rfl, by (repeat' (first | exact Ext.refl _ | assumption | apply Ext.allocR | apply Ext.drewR | apply Ext.drewNR | (refine Ext.trans' ?_ (by assumption))))⟩
  have HB := Lib.hid hB
  have HTT := Lib.hid hTT
  clear hB hTT
  go_enter Tryz.func42, Tryz.ntmps42
  go_wp2
  go_step3
  go_wp2_with fail
  refine (hTot _ (by (repeat' (first | exact Ext.refl _ | assumption | apply Ext.allocR | apply Ext.drewR | apply Ext.drewNR | (refine Ext.trans' ?_ (by assumption)))))).mono ?_
  rintro e w1 ⟨rfl, hx1⟩
  have hE1 : Ext w w1 := by (repeat' (first | exact Ext.refl _ | assumption | apply Ext.allocR | apply Ext.drewR | apply Ext.drewNR | (refine Ext.trans' ?_ (by assumption))))
  clear hx1 hTot
  go_wp2_with fail
  refine (SKConfig_c s g C B L ls _ (h.ext ?hx)).mono ?_
  case hx => exact hE1.trans' (by (repeat' (first | exact Ext.refl _ | assumption | apply Ext.allocR | apply Ext.drewR | apply Ext.drewNR | (refine Ext.trans' ?_ (by assumption)))))
  rintro e w2 ⟨rfl, hx2⟩
  have hE2 : Ext w w2 := hE1.trans' (by (repeat' (first | exact Ext.refl _ | assumption | apply Ext.allocR | apply Ext.drewR | apply Ext.drewNR | (refine Ext.trans' ?_ (by assumption)))))
  clear hx2 hE1
  go_upto_region 5 with (fail)
  obtain ⟨w3, hw3⟩ : ∃ w3, w2.alloc (.cells Tryz.zeroCells158 158) = w3 := ⟨_, rfl⟩
  have hx3 : Ext w2 w3 := by rw [← hw3]; exact Ext.alloc' _ _
  have hb3 : w3.heap[w2.heap.size]? = some (.cells Tryz.zeroCells158 158 (0, 0)) := by rw [← hw3]; exact heap_at _ _ rfl
  rw [hw3]
  clear hw3
  have hE3 := hE2.trans' hx3
  have hzs : Tryz.zeroCells158.size = 120 := by kernel_rfl
  have hz0 : Tryz.zeroCells158[0]? = some (.int .i64 0) := by kernel_rfl
  have hz1 : Tryz.zeroCells158[1]? = some (.int .u64 0) := by kernel_rfl
  generalize Tryz.zeroCells158 = zc at *
  have z0 := (cell_of hb3 0).trans hz0
  have z1 := (cell_of hb3 1).trans hz1
  have f0 := frozen_of hb3 0
  have f1 := frozen_of hb3 1
  have zl := lt_of hb3
  have hbE := hE2.size
  generalize hbb : w2.heap.size = b at *
  have hw0 := way_set hb3 hzs (dn := []) (fun k hk => by simp at hk) (by simp) B 0
  simp only [List.length_nil, Nat.zero_mul, Nat.zero_add, List.nil_append] at hw0
  have hTl : T ≤ 65970697666560 := by
    have := hT.uniq B 0 T (Nat.le_refl _) (Int.le_refl 0) (by have := keys_bd C hok B (Int.natCast_nonneg B); omega) (.inl ⟨isX_top hok HB.out, HTT.out.symm⟩)
    rw [this]
    exact hT.hi _ _
  have hW0 : WayAt w B C b pt k 0 k ((w3.setCell ⟨b, 0, none⟩ (.int .i64 (B : Nat))).setCell ⟨b, 1, none⟩ (.int .u64 0)) B 0 [(B, 0)] :=
    ⟨by omega, rfl, rfl, rfl, Int.le_refl 0, by have := keys_bd C hok B (Int.natCast_nonneg B); omega, by omega, by omega, hw0.1, hw0.2, (hE3.setR (p := ⟨b, 0, none⟩) hbE _).setR (p := ⟨b, 1, none⟩) hbE _⟩
  rw [← HB.out] at hW0
  have HW0 := Lib.hid hW0
  clear hz0 hz1 hw0 hW0
  go_wp2
  go_step3
  go_wp2
  have HT := Lib.hid hT
  clear hT
  go_loopw [1, 8] (fun u1 u8 wr => ∃ (t : Nat) (k' : Int) (n : Nat) (i : Int) (dn : List (Nat × Int)), u1 = .int .i64 k' ∧ u8 = .int .i64 t ∧ WayAt w B C b pt k t k' wr n i dn) (fun _ u8 _ => B - (intOf u8).toNat)
  case atStart => exact ⟨0, k, B, 0, [(B, 0)], rfl, rfl, HW0.out⟩
  case round =>
    clear HW0
    obtain ⟨t, k', n, i, dn, rfl, rfl, hW⟩ := hrel
    obtain ⟨w1', w2', w3', w4', w5', w6', w7', w8', w9', w10', w11'⟩ := hW
    obtain ⟨cur, hcb, hcs⟩ := w9'
    have hp := w10' t (by omega)
    rw [w3', Nat.zero_add] at hp
    obtain ⟨q0, q1⟩ := hp
    have ql := lt_of hcb
    cases n with
    | zero =>
      have hdl : wayP pt B k = dn := by rw [w4']; simp [wayL]
      have hcl := fun W' (he : Ext wr W') => CloneP_c b (60 - 0) dn W' (w10'.ext ql he) (Nat.lt_of_lt_of_le ql he.size) (by omega)
      rw [w2'] at hcl
      have HDL := Lib.hid hdl
      have HCL := Lib.hid hcl
      have hsl := fun W' => run_slice60 b t (by omega) W'
      clear hdl hcl
      go_wp2_with fail
      refine (HCL.out _ (Ext.refl _)).mono ?_
      rintro e w5 ⟨v5, rfl, ho5, hx5⟩
      clear hsl
      go_wp2
      go_ret2
      refine .inr ⟨⟨by omega, by omega⟩, v5, wr.heap.size, rfl, w11'.size, ?_, w11'.trans' hx5⟩
      rw [HDL.out, w2']
      exact ho5
    | succ m =>
      have hnn : ((m + 1 : Nat) : Int) = (m : Int) + 1 := by omega
      have hmb : ((m + 1 : Nat) : Int) ≤ C.bits := by have := HB.out; omega
      have hHV : ∀ W', Calls Tryz.prog 94 #[.int .i64 C.bits, .agg #[.int .i64 ((m : Int) + 1), .int .u64 i]] W' fun e w' => e = .returned (.tuple #[.agg #[.int .i64 m, .int .u64 (2 * i)], .agg #[.int .i64 m, .int .u64 (2 * i + 1)], .bool true]) ∧ Ext W' w' := fun W' => by
        have := Halves_c C hok m hmb i w5' w6' W'
        rw [hnn] at this
        exact this
      go_wp2_with fail
      refine (hHV _).mono ?_
      rintro e w4 ⟨rfl, hx4⟩
      clear hHV
      go_upto_region 9 with (fail)
      have hr4 : Ext wr w4 := by (repeat' (first | exact Ext.refl _ | assumption | apply Ext.allocR | apply Ext.drewR | apply Ext.drewNR | (refine Ext.trans' ?_ (by assumption))))
      have hkh := keys_half (C := C) (m := m) hmb
      have hl5 := (heap_old (w4.alloc (.cells #[.int .i64 m, .int .u64 (2 * i)] 39)) (.cells #[.int .i64 m, .int .u64 (2 * i + 1)] 39) (n := w4.heap.size) (by rw [size_alloc]; omega)).trans (heap_at w4 (.cells #[.int .i64 m, .int .u64 (2 * i)] 39) rfl)
      have hr5 := heap_at (w4.alloc (.cells #[.int .i64 m, .int .u64 (2 * i)] 39)) (.cells #[.int .i64 m, .int .u64 (2 * i + 1)] 39) (n := w4.heap.size + 1) (by rw [size_alloc])
      have hx5 : Ext w4 ((w4.alloc (.cells #[.int .i64 m, .int .u64 (2 * i)] 39)).alloc (.cells #[.int .i64 m, .int .u64 (2 * i + 1)] 39)) := (Ext.alloc' _ _).allocR _
      generalize (w4.alloc (.cells #[.int .i64 m, .int .u64 (2 * i)] 39)).alloc (.cells #[.int .i64 m, .int .u64 (2 * i + 1)] 39) = w5 at *
      have hE5 : Ext wr w5 := hr4.trans' hx5
      have v0 := (cell_of hl5 0).trans rfl
      have v1 := (cell_of hl5 1).trans rfl
      have vl := lt_of hl5
      clear hx4 hx5 hr4 q0 q1 ql
      have hK5 := h.ext (w11'.trans' hE5)
      have ht59 : t < 59 := by omega
      go_wp2_with fail
      refine Calls.mono (KPoint_c s g C B L ls _ hK5 m (by omega) (2 * i) (by omega) (by omega)) ?_
      rintro e w6 ⟨x, rfl, hpt, hx6⟩
      have hxp := HT.out.uniq m (2 * i) x (by omega) (by omega) (by omega) hpt
      have hlo := HT.out.lo m (2 * i)
      have hhi := HT.out.hi m (2 * i)
      have hE6 := hE5.trans' hx6
      have hl6 := hx6.keep hl5
      have hr6 := hx6.keep hr5
      have hc6 := hE6.keep hcb
      have hW : WayAt w B C b pt k t k' wr (m + 1) i dn := ⟨w1', w2', w3', w4', w5', w6', w7', w8', ⟨cur, hcb, hcs⟩, w10', w11'⟩
      subst hxp
      have hn1 := fun (W' : World) (hE' : Ext wr W') (j k2 : Int) hj => way_next (j := j) (k2 := k2) hW hE' HB.out hBd hbE hlo hj
      have HN1 := Lib.hid hn1
      obtain ⟨o0, ho0⟩ : ∃ o0, cur[(t + 1) * 2]? = some o0 := ⟨_, Array.getElem?_eq_getElem (by omega)⟩
      obtain ⟨o1, ho1⟩ : ∃ o1, cur[(t + 1) * 2 + 1]? = some o1 := ⟨_, Array.getElem?_eq_getElem (by omega)⟩
      have u0 := (cell_of hc6 ((t + 1) * 2)).trans ho0
      have u1 := (cell_of hc6 ((t + 1) * 2 + 1)).trans ho1
      have g0 := frozen_of hc6 ((t + 1) * 2)
      have g1 := frozen_of hc6 ((t + 1) * 2 + 1)
      have gl := lt_of hc6
      have v0 := (cell_of hl6 0).trans rfl
      have v1 := (cell_of hl6 1).trans rfl
      have vl := lt_of hl6
      have y0 := (cell_of hr6 0).trans rfl
      have y1 := (cell_of hr6 1).trans rfl
      have yl := lt_of hr6
      clear hn1 hW hpt hK5 hl5 hr5 w10' hcb hx6
      generalize hP : pt m (2 * i) = P at *
      by_cases hle : k' ≤ P
      · go_wp2_with fail
        go_roundw
        case rel => exact ⟨t + 1, k', m, 2 * i, dn ++ [(m, 2 * i)], rfl, by go_num, HN1.out _ hE6 _ _ (.inl ⟨rfl, hle, rfl⟩)⟩
        case measure => simp [intOf]; omega
      · have hI : I64 (k' - P) := by unfold I64; omega
        have hkI : I64 k' := by unfold I64; omega
        have hPI : I64 P := by unfold I64; omega
        have hM := Minus_c k' P hkI hPI
        rw [fitB_yes hI, fitN_yes hI] at hM
        have HM := Lib.hid hM
        clear hM
        go_wp2_with fail
        refine (HM.out _).mono ?_
        rintro e w7 ⟨rfl, hx7⟩
        have hE7 : Ext w6 w7 := by (repeat' (first | exact Ext.refl _ | assumption | apply Ext.allocR | apply Ext.drewR | apply Ext.drewNR | (refine Ext.trans' ?_ (by assumption))))
        have hc7 := hE7.keep hc6
        have hr7 := hE7.keep hr6
        clear hx7 u0 u1 g0 g1 gl v0 v1 vl y0 y1 yl
        have u0 := (cell_of hc7 ((t + 1) * 2)).trans ho0
        have u1 := (cell_of hc7 ((t + 1) * 2 + 1)).trans ho1
        have g0 := frozen_of hc7 ((t + 1) * 2)
        have g1 := frozen_of hc7 ((t + 1) * 2 + 1)
        have gl := lt_of hc7
        have y0 := (cell_of hr7 0).trans rfl
        have y1 := (cell_of hr7 1).trans rfl
        have yl := lt_of hr7
        go_wp2_with fail
        go_roundw
        case rel => exact ⟨t + 1, k' - P, m, 2 * i + 1, dn ++ [(m, 2 * i + 1)], rfl, by go_num, HN1.out _ (hE6.trans' hE7) _ _ (.inr ⟨rfl, by omega, rfl⟩)⟩
        case measure => simp [intOf]; omega
end Go.Proofs.YteoblkcbemeamaaGreat

/- span.Parts, Range, Rank, walked. -/
namespace Go.Proofs.YteoblkcbemeamaaGreat
set_option linter.unusedVariables false
open Go.RowKit
attribute [local go_sem] Oper.semAt_some
/-- What Point tells is one number. -/
def Uniq (C : Cfg) (B : Nat) (ls : Nat → List Int) (pt : Nat → Int → Int) : Prop := ∀ (n : Nat) (i x : Int), n ≤ B → 0 ≤ i → i < keys C n → lvPt C n (ls n) i x → x = pt n i
def cvV (pt : Nat → Int → Int) (B : Nat) (lo hi : Int) : List Int := (covL B 0 lo hi).map fun p => pt p.1 p.2
def PartsPost (w : World) (B : Nat) (pt : Nat → Int → Int) (lo hi : Int) (e : Ending) (w' : World) : Prop :=
  (hi < lo ∧ e = .returned (.tuple #[.slice none 0 0, .int .i64 1]) ∧ Ext w w') ∨
  ((lo ≤ hi ∧ 2 ^ B ≤ hi) ∧ e = .returned (.tuple #[.slice none 0 0, .int .i64 2]) ∧ Ext w w') ∨
  ((lo ≤ hi ∧ hi < 2 ^ B) ∧ ∃ v, e = .returned (.tuple #[v, .int .i64 0]) ∧ w'.ownsRow w.heap.size 2 1 v (cvV pt B lo hi).length (ints (cvV pt B lo hi)) ∧ Ext w w')
set_option maxRecDepth 20000 in
set_option maxHeartbeats 1000000 in
/-- The closure that asks for a piece. -/
theorem PartsAsk_c (s g : Nat) (C : Cfg) (B : Nat) (L : Nat → Lev) (ls : Nat → List Int) (pt : Nat → Int → Int) (hU : Uniq C B ls pt) (b : Nat) (n : Nat) (i : Int) (hn : n ≤ B) (h0 : 0 ≤ i) (h1 : i < keys C n) (w : World) (h : KAt w s g C B L ls)
    (hb : w.cell? ⟨b, 0, none⟩ = some (.pointer (some ⟨s, 0, none⟩))) (hbl : b < w.heap.size) :
    Calls Tryz.prog 89 #[.agg #[.int .i64 n, .int .u64 i], .pointer (some ⟨b, 0, none⟩)] w fun e w' => e = .returned (.int .i64 (pt n i)) ∧ Ext w w' := by
  have HH := Lib.hid h
  clear h
  go_enter Tryz.func89, Tryz.ntmps89
  go_wp2_with fail
  refine Calls.mono (KPoint_c s g C B L ls _ (HH.out.ext (Ext.alloc' _ _)) n hn i h0 h1) ?_
  rintro e w1 ⟨x, rfl, hx, hx1⟩
  have hE : Ext w w1 := (Ext.alloc' _ _).trans' hx1
  obtain rfl := hU n i x hn h0 h1 hx
  go_wp2
  go_ret
  exact ⟨rfl, hE⟩
set_option maxRecDepth 100000 in
set_option maxHeartbeats 4000000 in
theorem Parts_c (s g : Nat) (C : Cfg) (B : Nat) (L : Nat → Lev) (ls : Nat → List Int) (w : World) (h : KAt w s g C B L ls) (pt : Nat → Int → Int) (hU : Uniq C B ls pt) (lo hi : Int) (hlo : U64 lo) (hhi : U64 hi) :
    Calls Tryz.prog 33 #[.pointer (some ⟨s, 0, none⟩), .int .u64 lo, .int .u64 hi] w (PartsPost w B pt lo hi) := by
  have hmf : ∀ (fn : Fn) (first cap : Array Value) (w : World), (Instr.makeFunc fn first cap).run Tryz.prog w = .ok (.func fn first cap) w := fun _ _ _ _ => rfl
  have hok := h.ok
  have hB := h.hB
  have hb1 := hok.b1
  have hb2 := hok.b2
  have hls := h.lts
  have HH := Lib.hid h
  have hkk : ∀ n : Nat, n ≤ B → keys C n = 2 ^ (B - n) := fun n hn => by unfold keys; rw [hB]; congr 1; omega
  have HB := Lib.hid hB
  have HK := Lib.hid hkk
  clear h hkk
  refine (callsIn_wide (n := 5)).1 ?_
  refine callsIn_of_wp_marks Tryz.func33 rfl trivial ?_ rfl
  simp only [Tryz.ntmps33, List.size_toArray, List.length_cons, List.length_nil, Nat.reduceAdd, Nat.reduceSub, Array.replicate_succ, Array.replicate_zero, List.push_toArray, List.append_toArray, List.nil_append, List.cons_append]
  by_cases hlt : hi < lo
  · gi_wp2_with fail
    exact ⟨_, results_tmp2 rfl _ _ _, .inl ⟨hlt, rfl, Ext.alloc' _ _⟩⟩
  · gi_wp2_with fail
    refine ⟨trivial, (callsIn_wide.2 (SKConfig_c s g C B L ls _ (HH.out.ext (Ext.alloc' _ _)))).mono ?_⟩
    rintro e w1 ⟨rfl, hx1⟩
    have hE1 : Ext w w1 := (Ext.alloc' _ _).trans' hx1
    have hp1 := hx1.keep (heap_at w (.cells #[.pointer (some ⟨s, 0, none⟩)] 28) rfl)
    clear hx1
    rw [HB.out]
    gi_wp2_with fail
    refine ⟨trivial, (callsIn_wide.2 (Cover_c B (by omega) (by omega) lo hi hlo hhi _)).mono ?_⟩
    rintro e w2 (⟨hc, rfl, hx2⟩ | ⟨hc, v, rfl, ho, hx2⟩)
    · gi_wp2_with fail
      exact ⟨_, results_tmp2 rfl _ _ _, .inr (.inl ⟨by omega, rfl, hE1.trans' hx2⟩)⟩
    · have hE2 := hE1.trans' hx2
      have hp2 := hx2.keep hp1
      obtain ⟨pv, cv, rfl⟩ := own_sl ho
      have hsz2 := hE2.size
      have HO := Lib.hid ho
      clear ho hx2 hE1 hp1
      gi_wp2_with fail
      refine ⟨trivial, (callsIn_wide.2 (Values_c pv _ cv _)).mono ?_⟩
      rintro e w3 ⟨rfl, rfl⟩
      gi_wp2_with fail
      obtain ⟨W0, hW0⟩ : ∃ W0, ((w2.alloc (.cells #[.func (.func 89) #[] #[.pointer (some ⟨w.heap.size, 0, none⟩)]] 152)).alloc (.cells #[.slice none 0 0] 43)).alloc (.cells #[.slice pv (covL B 0 lo hi).length cv] 73) = W0 := ⟨_, rfl⟩
      have hsz0 : W0.heap.size = w2.heap.size + 3 := by rw [← hW0]; simp
      have hx0 : Ext w2 W0 := by rw [← hW0]; exact ((Ext.alloc' _ _).allocR _).allocR _
      have b0 : Boxed W0 w2.heap.size 152 (.func (.func 89) #[] #[.pointer (some ⟨w.heap.size, 0, none⟩)]) := by rw [← hW0]; exact ((Boxed.new w2 _ _).alloc _).alloc _
      have b1 : Boxed W0 (w2.heap.size + 1) 43 (.slice none 0 0) := by
        have := (Boxed.new (w2.alloc (.cells #[.func (.func 89) #[] #[.pointer (some ⟨w.heap.size, 0, none⟩)]] 152)) 43 (.slice none 0 0)).alloc (.cells #[.slice pv (covL B 0 lo hi).length cv] 73)
        rw [World.size_alloc] at this
        rw [← hW0]; exact this
      have b2 : W0.cell? ⟨w2.heap.size + 1 + 1, 0, none⟩ = some (.slice pv (covL B 0 lo hi).length cv) := by
        rw [← hW0]
        exact (cell_of (heap_at _ _ (by simp)) 0).trans rfl
      rw [hW0]
      clear hW0
      have hpcs : PcsAt w2.heap.size W0 (.slice pv (covL B 0 lo hi).length cv) (covL B 0 lo hi) := (PcsAt.of_own HO.out (Nat.le_refl _)).below hx0
      have hbd := cov_bd B 0 lo hi hlo.1 hc.1 hc.2
      have hlv := cov_lev B 0 lo hi
      have hlen := cov_len B 0 lo hi
      have HBD := Lib.hid hbd
      have HLV := Lib.hid hlv
      have HLEN := Lib.hid hlen
      have HC := Lib.hid hc
      clear hbd hlv hc hlen
      refine wpIn_rangeFunc_ownH rfl (by decide) (gf := 140) (lb := #[.pointer (some ⟨w2.heap.size + 1 + 1, 0, none⟩)]) rfl trivial (enters_of Tryz.func140 (by kernel_rfl) rfl)
        (values_stops 4 (w2.heap.size + 1 + 1) w2.heap.size _ (covL B 0 lo hi) (by have := HLEN.out; omega) W0 (by omega) (by omega) b2 hpcs) belowK_t (belowK_b (by omega)) (Below.refl _ _) (fun _ => rfl)
        (fun pre W => ((∃ v, Boxed W (w2.heap.size + 1) 43 v ∧ W.ownsRow w2.heap.size 2 1 v (pre.map (fun x => pt x.1.1 x.1.2)).length (ints (pre.map (fun x => pt x.1.1 x.1.2))) ∧ True) ∧ Boxed W w2.heap.size 152 (.func (.func 89) #[] #[.pointer (some ⟨w.heap.size, 0, none⟩)])) ∧ Below w2.heap.size w2 W)
        (fun _ _ _ => False)
        (OwnFrom.and (OwnFrom.and (Own.from (holdsRow_own w2.heap.size (w2.heap.size + 1) 43 2 1 (fun pre : List {p : Nat × Int // p ∈ covL B 0 lo hi} => (pre.map (fun x => pt x.1.1 x.1.2)).length) (fun pre => ints (pre.map (fun x => pt x.1.1 x.1.2))) (fun _ _ => True)) _) (Own.from (boxed_own _ _ _) _)) (ownFrom_below (Nat.le_refl _) (by omega)))
        (fun _ _ _ _ _ hs _ _ => hs)
        ⟨⟨⟨_, b1, ⟨rfl, .inl ⟨rfl, rfl⟩⟩, trivial⟩, b0⟩, hx0⟩
        (fun x a' W => ∃ Bx, w2.heap.size + 1 < Bx ∧ W.heap[Bx]? = some (.cells #[.int .i64 (x.1.1 : Int), .int .u64 x.1.2] 39 (0, 0)) ∧ a' = { tmps := #[.pointer (some ⟨s, 0, none⟩), .int .u64 lo, .int .u64 hi, .pointer (some ⟨w.heap.size, 0, none⟩), undef, undef, .slice none 0 0, .int .i64 0, .slice pv (covL B 0 lo hi).length cv, .bool true, .pointer (some ⟨w2.heap.size, 0, none⟩), .pointer (some ⟨w2.heap.size + 1, 0, none⟩), .pointer (some ⟨Bx, 0, none⟩), .int .u64 lo, .int .u64 hi, .bool false, .tuple #[.slice pv (covL B 0 lo hi).length cv, .bool true], .pointer (some ⟨s, 0, none⟩), .agg #[.int .i64 B, .int .i64 C.rows, .int .i64 C.width, .int .i64 C.mode, .int .u64 C.seed], .int .i64 B, .int .u64 lo, .int .u64 hi, .tuple #[.slice pv (covL B 0 lo hi).length cv, .bool true], .slice pv (covL B 0 lo hi).length cv, .bool true, .bool true, .bool false, .func (.func 89) #[] #[.pointer (some ⟨w.heap.size, 0, none⟩)], .slice pv (covL B 0 lo hi).length cv, .func (.func 140) #[] #[.pointer (some ⟨w2.heap.size + 1 + 1, 0, none⟩)], .agg #[.int .i64 (x.1.1 : Int), .int .u64 x.1.2], undef, undef, undef, undef, undef, undef, undef], defers := [] })
        (fun x a' _ X Y row hs hg hr => by
          obtain ⟨Bx, h1, h2, h3⟩ := hs
          refine ⟨Bx, h1, (hg.block Bx (lt_of h2) (fun e => ?_)).trans h2, h3⟩
          obtain ⟨_, o, ho, hc⟩ := hr Bx e.symm
          rw [h2] at ho; cases ho; cases hc)
        ?assign ?body ?done ?stop
      case assign =>
        rintro l pre x W K ⟨⟨⟨v, hv, hrow, _⟩, hf⟩, hB1⟩ hK
        have := hB1.size
        have := hv.lt
        dsimp only [pcEnc]
        gi_wp2
        exact hK _ _ ((KeepsOthers.alloc _ _).from _) ((Below.refl _ W).alloc hB1.size _) ⟨⟨⟨v, hv.alloc _, hrow.alloc _, trivial⟩, hf.alloc _⟩, hB1.alloc hB1.size _⟩ ⟨W.heap.size, hv.lt, heap_at _ _ rfl, rfl⟩
      case body =>
        rintro l pre x a' W hl _ ⟨⟨⟨v, hv, hrow, _⟩, hf⟩, hB1⟩ ⟨Bx, hBx, hx, rfl⟩ hlen
        have hlv := HLV.out x.1 x.2
        have hbd := HBD.out x.1 x.2
        have hlv2 : x.1.1 ≤ B := by omega
        have hlt2 : x.1.2 < keys C x.1.1 := by rw [HK.out _ hlv2]; rw [Nat.zero_add] at hbd; exact hbd.2
        have hK1 := (HH.out.ext hE2).ext hB1
        have hE4 : Ext w2 W := hB1
        have hp3 := hE4.keep hp2
        have hpl := lt_of hp3
        have hpc := (cell_of hp3 0).trans rfl
        have hvl := hv.lt
        have hvc := hv.cell
        have hfl := hf.lt
        have hfc := hf.cell
        have hxl := lt_of hx
        have x0 := (cell_of hx 0).trans rfl
        have x1 := (cell_of hx 1).trans rfl
        have hsW := hB1.size
        obtain ⟨pw, nw, cw, hvw⟩ : ∃ p n c, v = .slice p n c := by obtain ⟨p, c, h⟩ := own_sl hrow; exact ⟨p, _, c, h⟩
        subst hvw
        obtain ⟨S, hS⟩ : ∃ S : Nat → Prop, S = fun k => (Value.slice pw nw cw).ownBlock = some k := ⟨_, rfl⟩
        have nS1 : ¬ S (w2.heap.size + 1) := by rw [hS]; exact fun e => hv.not_row (by decide) hrow e.symm
        have nS0 : ¬ S w2.heap.size := by rw [hS]; exact fun e => hf.not_row (by decide) hrow e.symm
        have nSx : ¬ S Bx := by rw [hS]; exact own_notB hrow hx (by decide)
        have HS := Lib.hid hS
        clear hS
        have HV := Lib.hid hv
        have HF := Lib.hid hf
        have HR := Lib.hid hrow
        have HX := Lib.hid hx
        clear hv hf hrow hx hp3
        gi_wp2
        refine pi_startR (fun w' => ∃ x : AftS S W, w' = x.w) [6] (by kernel_rfl) (fun ⟨_, _, hh⟩ => hh) (by kernel_rfl) ?_
        have hC0 := afs_drew S W
        refine pi_c 0 (by assumption) rfl (by kernel_rfl) (by kernel_rfl) (fun _ _ _ _ h => h) (fun K hK => ?_)
        go_big_quiet_op
        refine hK _ ?_
        clear hK K
        refine pi_c 1 (by assumption) rfl (by kernel_rfl) (by kernel_rfl) (fun _ _ _ _ h => h) (fun K hK => ?_)
        go_big_quiet_op
        refine hK _ ?_
        clear hK K
        refine pi_c 2 (by assumption) rfl (by kernel_rfl) (by kernel_rfl) (fun _ _ _ _ h => h) (fun K hK => ?_)
        go_big_quiet_op
        refine hK _ ?_
        clear hK K
        refine pi_l 3 rfl (by kernel_rfl) (fun K hK => ?_)
        go_wp2_with fail
        refine Calls.mono (PartsAsk_c s g C B L ls pt hU w.heap.size x.1.1 x.1.2 hlv2 hbd.1 hlt2 _ (hK1.ext (Below.drew (Ext.refl W))) hpc hpl) ?_
        rintro e w3 ⟨rfl, hx3⟩
        go_wp2
        refine hK _ _ (fun _ h => afs_step h hx3) ?_
        clear hK K
        refine pi_l 4 rfl (by kernel_rfl) (fun K hK => ?_)
        go_wp2
        refine hK _ _ (fun _ h => afs_step h (Ext.alloc' _ _)) ?_
        clear hK K
        have hE3 : Ext W w3 := Ext.trans' (Below.drew (Ext.refl W)) hx3
        have hv3 : Boxed w3 (w2.heap.size + 1) 43 _ := hE3.keep HV.out
        have hr3 := own_ext HR.out hE3
        have hs3 := hE3.size
        refine pi_l 5 rfl (by kernel_rfl) (fun K hK => ?_)
        go_wp2_with (at_builtin; refine wpList_app1 w3 (pt x.1.1 x.1.2) _ _ w2.heap.size 2 hr3 43 rfl _ _ rfl info_i64 Tryz.underlying43 rfl rfl ?a1 ?a2 ?_)
        case a1 => have := HLEN.out; rw [List.length_map]; omega
        case a2 => omega
        intro v' w4 hown4 hg4 _
        obtain ⟨q1, q2, q3, q4, q5⟩ := Boxed.appended hv3 (by decide) hr3 (by omega) (by omega) hown4 hg4
        obtain ⟨pv4, nv4, cv4, hv4⟩ : ∃ p n c, v' = .slice p n c := by obtain ⟨p, c, h⟩ := own_sl hown4; exact ⟨p, _, c, h⟩
        subst hv4
        have q1c := q1.cell
        have q1l := q1.lt
        have q1f := q1.frozen
        have Q := Lib.hid (And.intro q2 (And.intro q3 (And.intro q4 q5)))
        have hf4 : Boxed w4 w2.heap.size 152 (.func (.func 89) #[] #[.pointer (some ⟨w.heap.size, 0, none⟩)]) := ((show Boxed w3 w2.heap.size _ _ from hE3.keep HF.out).alloc _).kept hg4 ((show Boxed w3 w2.heap.size _ _ from hE3.keep HF.out).not_row (by decide) hr3)
        have HF4 := Lib.hid hf4
        have hcl : ∃ x : AftS S W, w4 = x.w := ⟨⟨w4, mod_grown (hE3.mod S) hg4 (fun i hi => by rw [HS.out]; exact hi)⟩, rfl⟩
        clear hown4 hg4 q1 q2 q3 q4 q5 hf4
        go_wp2
        refine hK _ _ (fun _ _ => hcl) ?_
        clear hK K
        refine pi_l 6 rfl (by kernel_rfl) (fun K hK => ?_)
        go_wp2
        refine hK _ _ (by simp) ?_
        clear hK K
        refine pi_end (by kernel_rfl) ?_
        obtain ⟨q2, q3, q4, q5⟩ := Q.out
        have hbw : Below w2.heap.size W (w4.setCell ⟨w2.heap.size + 1, 0, none⟩ (.slice pv4 nv4 cv4)) := Below.trans (hE3.mono hsW) q5
        refine ⟨((keepsO_ext hE3).trans q4).from _, hbw, ⟨⟨_, q2, ?_, trivial⟩, HF4.out.other (by omega) _⟩, hB1.trans hbw⟩
        rw [List.map_append, List.length_append, List.length_map]
        exact q3
      case done =>
        rintro D xs W hD hxs ⟨⟨⟨v, hv, hrow, _⟩, hf⟩, hB1⟩ hK
        have hvl := hv.lt
        have hvc := hv.cell
        have hsW := hB1.size
        have HR := Lib.hid hrow
        clear hrow hv hf
        gi_wp2
        refine ⟨by simp, .inl ⟨_, _, rfl, run_takeDeferred hK, ?_⟩⟩
        have hcv : xs.map (fun x => pt x.1.1 x.1.2) = cvV pt B lo hi := by
          unfold cvV
          have hxs' : xs.map (fun x : {p : Nat × Int // p ∈ covL B 0 lo hi} => x.1) = covL B 0 lo hi := hxs
          conv => rhs; rw [← hxs']
          rw [List.map_map]; rfl
        have hr := ownsRow_putObj HR.out (.deferred none) hK rfl
        rw [hcv] at hr
        exact ⟨_, results_tmp2 rfl _ _ _, .inr (.inr ⟨HC.out, v, rfl, own_mono hr hsz2, (hE2.trans' hB1).trans (belowK_b (w := w) (Nat.le_refl _) W D _ _ (by omega) hK rfl rfl)⟩)⟩
      case stop =>
        rintro D c pre W _ _ h _
        exact h.elim
def RangePost (w : World) (B : Nat) (pt : Nat → Int → Int) (lo hi : Int) (e : Ending) (w' : World) : Prop :=
  ((hi < lo ∧ e = .returned (.tuple #[.int .i64 0, .int .i64 1])) ∨ ((lo ≤ hi ∧ 2 ^ B ≤ hi) ∧ e = .returned (.tuple #[.int .i64 0, .int .i64 2])) ∨
  ((lo ≤ hi ∧ hi < 2 ^ B) ∧ I64 (lsum (cvV pt B lo hi)) ∧ e = .returned (.tuple #[.int .i64 (lsum (cvV pt B lo hi)), .int .i64 0])) ∨
  ((lo ≤ hi ∧ hi < 2 ^ B) ∧ ¬ I64 (lsum (cvV pt B lo hi)) ∧ e = .returned (.tuple #[.int .i64 0, .int .i64 4]))) ∧ Ext w w'
set_option maxRecDepth 20000 in
set_option maxHeartbeats 2000000 in
theorem Range_c (s g : Nat) (C : Cfg) (B : Nat) (L : Nat → Lev) (ls : Nat → List Int) (w : World) (h : KAt w s g C B L ls) (pt : Nat → Int → Int) (hU : Uniq C B ls pt) (hI : ∀ n i, I64 (pt n i)) (lo hi : Int) (hlo : U64 lo) (hhi : U64 hi) :
    Calls Tryz.prog 35 #[.pointer (some ⟨s, 0, none⟩), .int .u64 lo, .int .u64 hi] w (RangePost w B pt lo hi) := by
  have hlen : (cvV pt B lo hi).length ≤ 1152921504606846976 := by
    unfold cvV
    rw [List.length_map]
    have := cov_len B 0 lo hi
    have h2 := h.ok.b2
    have h3 := h.hB
    omega
  have hall : ∀ x ∈ cvV pt B lo hi, I64 x := by
    intro x hx
    unfold cvV at hx
    simp only [List.mem_map] at hx
    obtain ⟨p, _, rfl⟩ := hx
    exact hI _ _
  have HH := Lib.hid h
  have HL := Lib.hid hlen
  have HA := Lib.hid hall
  clear h hlen hall
  go_enter Tryz.func35, Tryz.ntmps35
  go_wp2_with fail
  refine Calls.mono (Parts_c s g C B L ls _ HH.out pt hU lo hi hlo hhi) ?_
  rintro e w1 (⟨hc, rfl, hx⟩ | ⟨hc, rfl, hx⟩ | ⟨hc, v, rfl, ho, hx⟩)
  · go_wp2_with fail
    go_ret2
    exact ⟨.inl ⟨hc, rfl⟩, hx⟩
  · go_wp2_with fail
    go_ret2
    exact ⟨.inr (.inl ⟨hc, rfl⟩), hx⟩
  · have HC := Lib.hid hc
    clear hc
    go_wp2_with fail
    refine Calls.mono (Sum_c _ v w1 HA.out HL.out (IntsAt.of_row ho)) ?_
    rintro e w2 ⟨rfl, hx2⟩
    by_cases hT : I64 (lsum (cvV pt B lo hi))
    · rw [fitB_yes hT, fitN_yes hT]
      go_wp2_with fail
      go_ret2
      exact ⟨.inr (.inr (.inl ⟨HC.out, hT, rfl⟩)), hx.trans' hx2⟩
    · rw [fitB_no hT]
      go_wp2_with fail
      go_ret2
      exact ⟨.inr (.inr (.inr ⟨HC.out, hT, rfl⟩)), hx.trans' hx2⟩
set_option maxRecDepth 20000 in
set_option maxHeartbeats 2000000 in
theorem Rank_c (s g : Nat) (C : Cfg) (B : Nat) (L : Nat → Lev) (ls : Nat → List Int) (w : World) (h : KAt w s g C B L ls) (pt : Nat → Int → Int) (hU : Uniq C B ls pt) (hI : ∀ n i, I64 (pt n i)) (x : Int) (hx : U64 x) :
    Calls Tryz.prog 37 #[.pointer (some ⟨s, 0, none⟩), .int .u64 x] w (RangePost w B pt 0 x) := by
  go_enter Tryz.func37, Tryz.ntmps37
  go_wp2_with fail
  refine Calls.mono (Range_c s g C B L ls _ h pt hU hI 0 x ⟨by decide, by decide⟩ hx) ?_
  rintro e w1 ⟨⟨hc, rfl⟩ | ⟨hc, rfl⟩ | ⟨hc, hT, rfl⟩ | ⟨hc, hT, rfl⟩, hE⟩
  · have := hx.1; omega
  · go_wp2_with fail
    go_ret2
    exact ⟨.inr (.inl ⟨hc, rfl⟩), hE⟩
  · go_wp2_with fail
    go_ret2
    exact ⟨.inr (.inr (.inl ⟨hc, hT, rfl⟩)), hE⟩
  · go_wp2_with fail
    go_ret2
    exact ⟨.inr (.inr (.inr ⟨hc, hT, rfl⟩)), hE⟩
end Go.Proofs.YteoblkcbemeamaaGreat

/- Four things that lie apart. -/
namespace Go.Proofs.YteoblkcbemeamaaGreat
set_option linter.unusedVariables false
open Go.RowKit
structure Own4 (N : Nat) (w : World) (F1 F2 F3 F4 : Nat → Prop) (P1 P2 P3 P4 : World → Prop) : Prop where
  o1 : Own F1 P1 w
  o2 : Own F2 P2 w
  o3 : Own F3 P3 w
  o4 : Own F4 P4 w
  d12 : Dj F1 F2
  d13 : Dj F1 F3
  d14 : Dj F1 F4
  d23 : Dj F2 F3
  d24 : Dj F2 F4
  d34 : Dj F3 F4
  n1 : ∀ k, F1 k → N ≤ k
  n2 : ∀ k, F2 k → N ≤ k
  n3 : ∀ k, F3 k → N ≤ k
  n4 : ∀ k, F4 k → N ≤ k
  nw : N ≤ w.heap.size
section
variable {N : Nat} {w w' : World} {F1 F2 F3 F4 : Nat → Prop} {P1 P2 P3 P4 : World → Prop}
theorem Own4.swap (h : Own4 N w F1 F2 F3 F4 P1 P2 P3 P4) : Own4 N w F2 F1 F3 F4 P2 P1 P3 P4 :=
  ⟨h.o2, h.o1, h.o3, h.o4, h.d12.symm, h.d23, h.d24, h.d13, h.d14, h.d34, h.n2, h.n1, h.n3, h.n4, h.nw⟩
theorem Own4.rot (h : Own4 N w F1 F2 F3 F4 P1 P2 P3 P4) : Own4 N w F3 F4 F1 F2 P3 P4 P1 P2 :=
  ⟨h.o3, h.o4, h.o1, h.o2, h.d34, h.d13.symm, h.d23.symm, h.d14.symm, h.d24.symm, h.d12, h.n3, h.n4, h.n1, h.n2, h.nw⟩
theorem Own4.swap2 (h : Own4 N w F1 F2 F3 F4 P1 P2 P3 P4) : Own4 N w F1 F2 F4 F3 P1 P2 P4 P3 := h.rot.swap.rot
theorem Own4.ext (h : Own4 N w F1 F2 F3 F4 P1 P2 P3 P4) (he : Ext w w') : Own4 N w' F1 F2 F3 F4 P1 P2 P3 P4 :=
  ⟨h.o1.ext he, h.o2.ext he, h.o3.ext he, h.o4.ext he, h.d12, h.d13, h.d14, h.d23, h.d24, h.d34, h.n1, h.n2, h.n3, h.n4, Nat.le_trans h.nw he.size⟩
/-- The first is changed, or put anew. -/
theorem Own4.step {F1' S : Nat → Prop} {P1' : World → Prop} (h : Own4 N w F1 F2 F3 F4 P1 P2 P3 P4) (hm : Mod S w w') (hS : ∀ k, S k → F1 k) (h1 : Own F1' P1' w') (hF : ∀ k, F1' k → F1 k ∨ w.heap.size ≤ k) : Own4 N w' F1' F2 F3 F4 P1' P2 P3 P4 := by
  refine ⟨h1, h.o2.mod hm (fun k hk hs => h.d12 k (hS k hs) hk), h.o3.mod hm (fun k hk hs => h.d13 k (hS k hs) hk), h.o4.mod hm (fun k hk hs => h.d14 k (hS k hs) hk), ?_, ?_, ?_, h.d23, h.d24, h.d34, fun k hk => ?_, h.n2, h.n3, h.n4, Nat.le_trans h.nw hm.size⟩
  · exact (h.o2.grow h.d12.symm hF).symm
  · exact (h.o3.grow h.d13.symm hF).symm
  · exact (h.o4.grow h.d14.symm hF).symm
  · rcases hF k hk with h2 | h2
    · exact h.n1 k h2
    · exact Nat.le_trans h.nw h2
theorem Own4.low {S : Nat → Prop} (h : Own4 N w F1 F2 F3 F4 P1 P2 P3 P4) (hm : Mod S w w') (hS : ∀ k, S k → F1 k) : Below N w w' := hm.below h.nw (fun k hk => h.n1 k (hS k hk))
end
theorem below_of {N : Nat} {w w' : World} (h : Ext w w') (hN : N ≤ w.heap.size) : Below N w w' := ⟨h.os, h.tape, h.output, h.size, fun k hk => h.block k (Nat.lt_of_lt_of_le hk hN)⟩
theorem Own4.mk4 {N z1 z2 z3 : Nat} {w : World} {F1 F2 F3 F4 : Nat → Prop} {P1 P2 P3 P4 : World → Prop} (o1 : Own F1 P1 w) (o2 : Own F2 P2 w) (o3 : Own F3 P3 w) (o4 : Own F4 P4 w)
    (b1 : ∀ k, F1 k → N ≤ k ∧ k < z1) (b2 : ∀ k, F2 k → z1 ≤ k ∧ k < z2) (b3 : ∀ k, F3 k → z2 ≤ k ∧ k < z3) (b4 : ∀ k, F4 k → z3 ≤ k) (h1 : N ≤ z1) (h2 : z1 ≤ z2) (h3 : z2 ≤ z3) (hw : N ≤ w.heap.size) : Own4 N w F1 F2 F3 F4 P1 P2 P3 P4 :=
  ⟨o1, o2, o3, o4, fun k h h' => by have := b1 k h; have := b2 k h'; omega, fun k h h' => by have := b1 k h; have := b3 k h'; omega, fun k h h' => by have := b1 k h; have := b4 k h'; omega, fun k h h' => by have := b2 k h; have := b3 k h'; omega, fun k h h' => by have := b2 k h; have := b4 k h'; omega, fun k h h' => by have := b3 k h; have := b4 k h'; omega,
    fun k h => (b1 k h).1, fun k h => by have := b2 k h; omega, fun k h => by have := b3 k h; omega, fun k h => by have := b4 k h; omega, hw⟩
end Go.Proofs.YteoblkcbemeamaaGreat

/- quant.Quantile, walked; what the levels of a stack that was fed tell. -/
namespace Go.Proofs.YteoblkcbemeamaaGreat
set_option linter.unusedVariables false
open Go.RowKit
theorem way_last (pt : Nat → Int → Int) : ∀ (n : Nat) (i k : Int), ((n, i) :: wayL pt n i k).getD n (0, 0) = (0, wayI pt n i k)
  | 0, i, k => rfl
  | n + 1, i, k => by
    rw [wayL_succ]
    unfold wayI
    rw [List.getD_cons_succ]
    split
    · exact way_last pt n _ _
    · exact way_last pt n _ _
def QuantPost (w : World) (B : Nat) (T : Int) (pt : Nat → Int → Int) (k : Int) (e : Ending) (w' : World) : Prop :=
  ((k < 1 ∨ T < k) ∧ e = .returned (.tuple #[.int .u64 0, .int .i64 6]) ∧ Ext w w') ∨
  ((1 ≤ k ∧ k ≤ T) ∧ e = .returned (.tuple #[.int .u64 (wayI pt B 0 k), .int .i64 0]) ∧ Ext w w')
set_option maxRecDepth 20000 in
set_option maxHeartbeats 4000000 in
theorem Quantile_c (s g : Nat) (C : Cfg) (B : Nat) (L : Nat → Lev) (ls : Nat → List Int) (w : World) (h : KAt w s g C B L ls) (k : Int) (hk : I64 k) (pt : Nat → Int → Int) (hT : Tells C B ls pt) :
    Calls Tryz.prog 40 #[.pointer (some ⟨s, 0, none⟩), .int .i64 k] w (QuantPost w B ((ls B).getD 0 0) pt k) := by
  have hBd : B ≤ 59 := by have := h.ok.b2; have := h.hB; omega
  have hW := fun W' (he : Ext w W') => Way_c s g C B L ls W' (h.ext he) k hk pt hT
  have HW := Lib.hid hW
  have hwl := way_last pt B 0 k
  have hwn := wayP_len pt B k
  have hwp : wayP pt B k = (B, 0) :: wayL pt B 0 k := rfl
  rw [← hwp] at hwl
  clear hW hwp
  go_enter Tryz.func40, Tryz.ntmps40
  go_wp2_with fail
  refine (HW.out _ (by (repeat' (first | exact Ext.refl _ | assumption | apply Ext.allocR | apply Ext.drewR | apply Ext.drewNR | (refine Ext.trans' ?_ (by assumption)))))).mono ?_
  rintro e w1 hp
  rcases hp with ⟨hr, rfl, hx⟩ | ⟨hr, v, base, rfl, hbs, ho, hx⟩
  · go_wp2
    go_ret2
    exact .inl ⟨hr, rfl, by (repeat' (first | exact Ext.refl _ | assumption | apply Ext.allocR | apply Ext.drewR | apply Ext.drewNR | (refine Ext.trans' ?_ (by assumption))))⟩
  · obtain ⟨g', cap, rfl, hgl, hpc⟩ := own_pieces ho (by omega)
    obtain ⟨_, q1⟩ := hpc B (by omega)
    rw [hwl, Nat.zero_add] at q1
    have hE : Ext w w1 := by (repeat' (first | exact Ext.refl _ | assumption | apply Ext.allocR | apply Ext.drewR | apply Ext.drewNR | (refine Ext.trans' ?_ (by assumption))))
    clear ho hpc hx hwl
    rw [hwn]
    clear hwn
    go_wp2
    go_ret2
    exact .inr ⟨hr, rfl, hE⟩
end Go.Proofs.YteoblkcbemeamaaGreat

/- What the levels of a stack that was fed tell of pieces. -/
namespace Go.Proofs.YteoblkcbemeamaaGreat
set_option linter.unusedVariables false
open Go.RowKit
/-- The pairs that a stack is told. -/
def psU (C : Cfg) (us : List (Int × Int)) : List (Int × Int) := stP C 0 (fus us 0 60)
open Classical in
/-- What a piece is told. -/
noncomputable def ptK (C : Cfg) (B : Nat) (us : List (Int × Int)) (n : Nat) (i : Int) : Int :=
  if h : n ≤ B ∧ 0 ≤ i ∧ i < keys C n ∧ ∃ x, lvPt C n (feedK C (fus us 0 60) n) i x then Classical.choose h.2.2.2 else pcS (psU C us) n i
theorem kth_mem {l : List Int} {k : Nat} {x : Int} (h : IsKth l k x) : x ∈ l := by
  obtain ⟨h1, h2⟩ := h
  have : 0 < sameN x l := by omega
  unfold sameN at this
  obtain ⟨y, hy⟩ := List.exists_mem_of_length_pos this
  simp only [List.mem_filter] at hy
  obtain ⟨hy1, hy2⟩ := hy
  have : y = x := by simpa using hy2
  rw [← this]; exact hy1
theorem fed_bnd (C : Cfg) (us : List (Int × Int)) (n : Nat) : Bnd 65970697666560 (feedK C (fus us 0 60) n) := by
  intro x hx
  have := feedK_bnd C (fus us 0 60) n x hx
  have hl := fus_len us 0 60
  omega
theorem lvPt_bnd {C : Cfg} {us : List (Int × Int)} {n : Nat} {i x : Int} (h : lvPt C n (feedK C (fus us 0 60) n) i x) : -65970697666560 ≤ x ∧ x ≤ 65970697666560 := by
  have hb := fed_bnd C us n
  rcases h with ⟨_, rfl⟩ | ⟨_, h⟩
  · exact hb.getD (by decide) _
  · have hm := kth_mem h
    unfold readL at hm
    simp only [List.mem_map, List.mem_range] at hm
    obtain ⟨r, _, rfl⟩ := hm
    exact hb.getD (by decide) _
theorem psU_bnd (C : Cfg) (us : List (Int × Int)) (p : Int → Bool) : -65970697666560 ≤ sumIf p (psU C us) ∧ sumIf p (psU C us) ≤ 65970697666560 := by
  have := sumIf_bnd p 1099511627776 (by decide) (psU C us) (stP_bnd C 0 _)
  have hl := fus_len us 0 60
  have hs : (psU C us).length = (fus us 0 60).length := stP_len C 0 _
  omega
theorem ptK_of {C : Cfg} {B : Nat} {us : List (Int × Int)} {n : Nat} {i x : Int} (hn : n ≤ B) (h0 : 0 ≤ i) (h1 : i < keys C n) (h : lvPt C n (feedK C (fus us 0 60) n) i x) : x = ptK C B us n i := by
  have hx : n ≤ B ∧ 0 ≤ i ∧ i < keys C n ∧ ∃ x, lvPt C n (feedK C (fus us 0 60) n) i x := ⟨hn, h0, h1, x, h⟩
  unfold ptK
  rw [dif_pos hx]
  exact lvPt_unique h (Classical.choose_spec hx.2.2.2)
theorem ptK_bnd (C : Cfg) (B : Nat) (us : List (Int × Int)) (n : Nat) (i : Int) : -65970697666560 ≤ ptK C B us n i ∧ ptK C B us n i ≤ 65970697666560 := by
  unfold ptK
  split
  · rename_i h
    exact lvPt_bnd (Classical.choose_spec h.2.2.2)
  · exact psU_bnd C us _
theorem tells_fed (C : Cfg) (B : Nat) (us : List (Int × Int)) : Tells C B (feedK C (fus us 0 60)) (ptK C B us) :=
  ⟨fun n i x hn h0 h1 h => ptK_of hn h0 h1 h, fun n i => (ptK_bnd C B us n i).1, fun n i => (ptK_bnd C B us n i).2⟩
theorem hasK_pc (C : Cfg) (us : List (Int × Int)) (n : Nat) (j : Int) : hasK C us 60 n j = pcS (psU C us) n j := by
  unfold hasK hasP pcS psU
  exact sumIf_stP C n _ _
/-- Of an exact level. -/
theorem ptK_x {C : Cfg} (hok : C.Ok) {B : Nat} (hB : C.bits = B) {us : List (Int × Int)} (hus : UpsOk us) {n : Nat} (hn : n ≤ B) {i : Int} (h0 : 0 ≤ i) (h1 : i < keys C n) (hx : isX C n = true) : ptK C B us n i = pcS (psU C us) n i := by
  have h : lvPt C n (feedK C (fus us 0 60) n) i ((feedK C (fus us 0 60) n).getD i.toNat 0) := .inl ⟨hx, rfl⟩
  rw [← ptK_of hn h0 h1 h, ← hasK_pc]
  exact pt_x hok (by omega) hus hx h0 h
/-- Where no key has less than 0, no piece is told less than it has. -/
theorem ptK_ge {C : Cfg} (hok : C.Ok) {B : Nat} (hB : C.bits = B) {us : List (Int × Int)} (hus : UpsOk us) (hm : C.mode ≠ 3) (hp : plK C us 60 = true) (n : Nat) (i : Int) : 0 ≤ i → pcS (psU C us) n i ≤ ptK C B us n i := by
  intro h0
  unfold ptK
  split
  · rename_i h
    have := over_law hok (n := n) (by omega) hus hm hp h0 (Classical.choose_spec h.2.2.2)
    rw [hasK_pc] at this
    exact this
  · exact Int.le_refl _
end Go.Proofs.YteoblkcbemeamaaGreat

/- gaugerref14.Same of like rows; gaugerlaw17.shown: what the law shows of one small stack. -/
namespace Go.Proofs.YteoblkcbemeamaaGreat
set_option linter.unusedVariables false
open Go.RowKit
set_option maxRecDepth 20000 in
set_option maxHeartbeats 4000000 in
theorem SameP_yes (ps : List (Nat × Int)) (g1 g2 c1 c2 : Nat) (w : World) (h1 : PCells w g1 0 ps) (h2 : PCells w g2 0 ps) (l1 : g1 < w.heap.size) (l2 : g2 < w.heap.size) (hl : ps.length ≤ 1000) :
    Calls Tryz.prog 44 #[.slice (some ⟨g1, 0, none⟩) ps.length c1, .slice (some ⟨g2, 0, none⟩) ps.length c2] w fun e w' => e = .returned (.bool true) ∧ Ext w w' := by
  have H1 := Lib.hid h1
  have H2 := Lib.hid h2
  clear h1 h2
  go_enter Tryz.func44, Tryz.ntmps44
  go_wp2
  go_loopw [5] (fun u wr => ∃ k : Nat, k ≤ ps.length ∧ u = .int .i64 k ∧ Ext w wr) (fun u _ => ps.length - (intOf u).toNat)
  case atStart => exact ⟨0, Nat.zero_le _, rfl, Ext.refl _⟩
  case round =>
    obtain ⟨k, hk, rfl, hx⟩ := hrel
    by_cases hlt : k < ps.length
    · have d1 := ((bcell hx).1 _ _ l1).trans (H1.out k hlt).1
      have d2 := ((bcell hx).1 _ _ l1).trans (H1.out k hlt).2
      have d3 := ((bcell hx).1 _ _ l2).trans (H2.out k hlt).1
      have d4 := ((bcell hx).1 _ _ l2).trans (H2.out k hlt).2
      have m1 : g1 < wr.heap.size := Nat.lt_of_lt_of_le l1 hx.size
      have m2 : g2 < wr.heap.size := Nat.lt_of_lt_of_le l2 hx.size
      rw [Nat.zero_add] at d1 d2 d3 d4
      generalize (ps.getD k (0, 0)).1 = a at *
      generalize (ps.getD k (0, 0)).2 = b at *
      go_wp2_with fail
      refine wp_region_after (by kernel_rfl) (by kernel_rfl) ?_
      repeat (go_big_quiet_step (fail))
      refine wpQuiet_nil ?_
      rintro _ ⟨xx, rfl⟩
      obtain ⟨w5, hb5⟩ := xx
      try dsimp only
      go_wp2
      go_roundw
      case rel => exact ⟨k + 1, by omega, by go_num, hx.trans' hb5⟩
      case measure => simp [intOf]; omega
    · go_wp2
      go_ret
      exact ⟨rfl, hx⟩
def K1 : Cfg := ⟨3, 1, 8, 1, 0⟩
theorem K1_ok : K1.Ok := by constructor <;> simp [K1, U64]
def us1 : List (Int × Int) := [(1, 5), (6, 7)]
theorem us1_ok : UpsOk us1 := by
  intro u hu
  simp only [us1, List.mem_cons, List.not_mem_nil, or_false] at hu
  rcases hu with rfl | rfl <;> (constructor <;> simp [U64, I64])
theorem K1_c1 : cutK K1 0 1 = 1 := by decide
theorem K1_c6 : cutK K1 0 6 = 6 := by decide
theorem K1_d5 : cutD K1.mode 5 = 5 := by decide
theorem K1_d7 : cutD K1.mode 7 = 7 := by decide
theorem K1_s1 : updK K1 (feedK K1 []) 1 5 = feedK K1 [(1, 5)] := by
  have h := feedK_snoc K1 [] (1, 5)
  rw [K1_c1, K1_d5] at h
  exact h.symm
theorem K1_s2 : updK K1 (feedK K1 [(1, 5)]) 6 7 = feedK K1 us1 := by
  have h := feedK_snoc K1 [(1, 5)] (6, 7)
  rw [K1_c6, K1_d7] at h
  exact h.symm
theorem K1_e1 : errK K1 3 (feedK K1 []) 1 5 = 0 := by
  have h := feedK_ok K1 K1_ok (B := 3) rfl [] (by decide) (1, 5)
  rw [K1_c1, K1_d5] at h
  exact h
theorem K1_e2 : errK K1 3 (feedK K1 [(1, 5)]) 6 7 = 0 := by
  have h := feedK_ok K1 K1_ok (B := 3) rfl [(1, 5)] (by decide) (6, 7)
  rw [K1_c6, K1_d7] at h
  exact h
theorem us1_f : fus us1 0 60 = us1 := rfl
theorem us1_p : psU K1 us1 = [(1, 5), (6, 7)] := by decide
theorem K1_x (n : Nat) (h : n ≤ 3) : isX K1 n = true := by
  match n, h with
  | 0, _ => decide
  | 1, _ => decide
  | 2, _ => decide
  | 3, _ => decide
theorem K1_p {n : Nat} {i : Int} (hn : n ≤ 3) (h0 : 0 ≤ i) (h1 : i < keys K1 n) : ptK K1 3 us1 n i = pcS [(1, 5), (6, 7)] n i := by
  rw [← us1_p]
  exact ptK_x K1_ok rfl us1_ok hn h0 h1 (K1_x n hn)
theorem K1_t : (feedK K1 us1 3).getD 0 0 = 12 := by
  have h := feed_total K1_ok (B := 3) rfl us1_ok
  rw [us1_f, hasK_pc, us1_p] at h
  rw [h]
  decide
theorem wayI_succ (pt : Nat → Int → Int) (n : Nat) (i k : Int) : wayI pt (n + 1) i k = if k ≤ pt n (2 * i) then wayI pt n (2 * i) k else wayI pt n (2 * i + 1) (k - pt n (2 * i)) := rfl
theorem K1_p20 : ptK K1 3 us1 2 (2 * 0) = 5 := by rw [K1_p (by decide) (by decide) (by decide)]; decide
theorem K1_p10 : ptK K1 3 us1 1 (2 * (2 * 0)) = 5 := by rw [K1_p (by decide) (by decide) (by decide)]; decide
theorem K1_p00 : ptK K1 3 us1 0 (2 * (2 * (2 * 0))) = 0 := by rw [K1_p (by decide) (by decide) (by decide)]; decide
theorem K1_p12 : ptK K1 3 us1 1 (2 * (2 * 0 + 1)) = 0 := by rw [K1_p (by decide) (by decide) (by decide)]; decide
theorem K1_p06 : ptK K1 3 us1 0 (2 * (2 * (2 * 0 + 1) + 1)) = 7 := by rw [K1_p (by decide) (by decide) (by decide)]; decide
theorem K1_w5 : wayI (ptK K1 3 us1) 3 0 5 = 1 := by
  rw [wayI_succ, K1_p20, if_pos (by decide), wayI_succ, K1_p10, if_pos (by decide), wayI_succ, K1_p00, if_neg (by decide)]
  rfl
theorem K1_w6 : wayI (ptK K1 3 us1) 3 0 6 = 6 := by
  rw [wayI_succ, K1_p20, if_neg (by decide), wayI_succ, K1_p12, if_neg (by decide), wayI_succ, K1_p06, if_pos (by decide)]
  rfl
theorem K1_l6 : wayP (ptK K1 3 us1) 3 6 = [(3, 0), (2, 1), (1, 3), (0, 6)] := by
  unfold wayP
  rw [wayL_succ, K1_p20, if_neg (by decide), wayL_succ, K1_p12, if_neg (by decide), wayL_succ, K1_p06, if_pos (by decide)]
  rfl
theorem pieces4 (w : World) (t : TypeId) : PCells (w.alloc (.cells #[.int .i64 3, .int .u64 0, .int .i64 2, .int .u64 1, .int .i64 1, .int .u64 3, .int .i64 0, .int .u64 6] t)) w.heap.size 0 [(3, 0), (2, 1), (1, 3), (0, 6)] := by
  have h := fun j => cell_of (heap_at w (.cells #[.int .i64 3, .int .u64 0, .int .i64 2, .int .u64 1, .int .i64 1, .int .u64 3, .int .i64 0, .int .u64 6] t) rfl) j
  intro k hk
  match k, hk with
  | 0, _ => exact ⟨(h 0).trans rfl, (h 1).trans rfl⟩
  | 1, _ => exact ⟨(h 2).trans rfl, (h 3).trans rfl⟩
  | 2, _ => exact ⟨(h 4).trans rfl, (h 5).trans rfl⟩
  | 3, _ => exact ⟨(h 6).trans rfl, (h 7).trans rfl⟩
set_option maxRecDepth 20000 in
set_option maxHeartbeats 4000000 in
theorem shown17_c (w : World) : Calls Tryz.prog 39 #[] w fun e w' => e = .returned (.bool true) ∧ Ext w w' := by
  go_enter Tryz.func39, Tryz.ntmps39
  go_wp2_with fail
  refine (KNew_c K1 K1_ok _).mono ?_
  rintro e w1 ⟨s, g, L, rfl, hK, hs, hg, hL, hx1⟩
  have hE1 : Ext w w1 := by (repeat' (first | exact Ext.refl _ | assumption | apply Ext.allocR | apply Ext.drewR | apply Ext.drewNR | (refine Ext.trans' ?_ (by assumption))))
  have hF : KFresh w.heap.size 3 L := hL
  replace hK : KAt w1 s g K1 3 L (feedK K1 []) := hK
  clear hx1 hL hg hs
  go_wp2_with fail
  refine Calls.mono (KUpdate_c s g K1 3 L _ 1 5 _ (hK.ext ?hx) (by unfold I64; omega) (by unfold U64; omega)) ?_
  case hx => (repeat' (first | exact Ext.refl _ | assumption | apply Ext.allocR | apply Ext.drewR | apply Ext.drewNR | (refine Ext.trans' ?_ (by assumption))))
  rintro e w3 ⟨rfl, hK3, hM3⟩
  have hE3 : Ext w w3 := hF.ext (by (repeat' (first | exact Ext.refl _ | assumption | apply Ext.allocR | apply Ext.drewR | apply Ext.drewNR | (refine Ext.trans' ?_ (by assumption))))) hM3
  rw [K1_e1] at hK3 ⊢
  replace hK3 : KAt w3 s g K1 3 L (updK K1 (feedK K1 []) 1 5) := hK3
  rw [K1_s1] at hK3
  clear hM3 hE1 hK
  go_wp2_with fail
  refine Calls.mono (KUpdate_c s g K1 3 L _ 6 7 _ (hK3.ext ?hx) (by unfold I64; omega) (by unfold U64; omega)) ?_
  case hx => (repeat' (first | exact Ext.refl _ | assumption | apply Ext.allocR | apply Ext.drewR | apply Ext.drewNR | (refine Ext.trans' ?_ (by assumption))))
  rintro e w4 ⟨rfl, hK4, hM4⟩
  have hE4 : Ext w w4 := hF.ext (by (repeat' (first | exact Ext.refl _ | assumption | apply Ext.allocR | apply Ext.drewR | apply Ext.drewNR | (refine Ext.trans' ?_ (by assumption))))) hM4
  rw [K1_e2] at hK4 ⊢
  replace hK4 : KAt w4 s g K1 3 L (updK K1 (feedK K1 [(1, 5)]) 6 7) := hK4
  rw [K1_s2] at hK4
  clear hM4 hE3 hK3
  have hT : Tells K1 3 (feedK K1 us1) (ptK K1 3 us1) := tells_fed K1 3 us1
  have hQ : ∀ W' k, Ext w4 W' → I64 k → Calls Tryz.prog 40 #[.pointer (some ⟨s, 0, none⟩), .int .i64 k] W' (QuantPost W' 3 12 (ptK K1 3 us1) k) := fun W' k h hk => by
    have := Quantile_c s g K1 3 L (feedK K1 us1) W' (hK4.ext h) k hk _ hT
    rw [K1_t] at this
    exact this
  have hW : ∀ W' k, Ext w4 W' → I64 k → Calls Tryz.prog 42 #[.pointer (some ⟨s, 0, none⟩), .int .i64 k] W' (WayPost W' 3 12 (ptK K1 3 us1) k) := fun W' k h hk => by
    have := Way_c s g K1 3 L (feedK K1 us1) W' (hK4.ext h) k hk _ hT
    rw [K1_t] at this
    exact this
  clear hT hK4 hF
  go_wp2_with fail
  refine (hQ _ 5 (by (repeat' (first | exact Ext.refl _ | assumption | apply Ext.allocR | apply Ext.drewR | apply Ext.drewNR | (refine Ext.trans' ?_ (by assumption))))) (by unfold I64; omega)).mono ?_
  rintro e w5 hp
  obtain ⟨_, rfl, hx5⟩ := hp.resolve_left (fun h => by have := h.1; omega)
  rw [K1_w5]
  have hE5 : Ext w4 w5 := by (repeat' (first | exact Ext.refl _ | assumption | apply Ext.allocR | apply Ext.drewR | apply Ext.drewNR | (refine Ext.trans' ?_ (by assumption))))
  clear hx5 hp
  go_wp2_with fail
  refine (hQ _ 6 (hE5.trans' (by (repeat' (first | exact Ext.refl _ | assumption | apply Ext.allocR | apply Ext.drewR | apply Ext.drewNR | (refine Ext.trans' ?_ (by assumption)))))) (by unfold I64; omega)).mono ?_
  rintro e w6 hp
  obtain ⟨_, rfl, hx6⟩ := hp.resolve_left (fun h => by have := h.1; omega)
  rw [K1_w6]
  have hE6 : Ext w4 w6 := hE5.trans' (by (repeat' (first | exact Ext.refl _ | assumption | apply Ext.allocR | apply Ext.drewR | apply Ext.drewNR | (refine Ext.trans' ?_ (by assumption)))))
  clear hx6 hp hE5
  go_wp2_with fail
  refine (hQ _ 13 (hE6.trans' (by (repeat' (first | exact Ext.refl _ | assumption | apply Ext.allocR | apply Ext.drewR | apply Ext.drewNR | (refine Ext.trans' ?_ (by assumption)))))) (by unfold I64; omega)).mono ?_
  rintro e w7 hp
  obtain ⟨_, rfl, hx7⟩ := hp.resolve_right (fun h => by have := h.1; omega)
  have hE7 : Ext w4 w7 := hE6.trans' (by (repeat' (first | exact Ext.refl _ | assumption | apply Ext.allocR | apply Ext.drewR | apply Ext.drewNR | (refine Ext.trans' ?_ (by assumption)))))
  clear hx7 hp hE6
  go_wp2_with fail
  refine (hQ _ 0 (hE7.trans' (by (repeat' (first | exact Ext.refl _ | assumption | apply Ext.allocR | apply Ext.drewR | apply Ext.drewNR | (refine Ext.trans' ?_ (by assumption)))))) (by unfold I64; omega)).mono ?_
  rintro e w8 hp
  obtain ⟨_, rfl, hx8⟩ := hp.resolve_right (fun h => by have := h.1; omega)
  have hE8 : Ext w4 w8 := hE7.trans' (by (repeat' (first | exact Ext.refl _ | assumption | apply Ext.allocR | apply Ext.drewR | apply Ext.drewNR | (refine Ext.trans' ?_ (by assumption)))))
  clear hx8 hp hE7
  go_wp2_with fail
  refine (hW _ 6 (hE8.trans' (by (repeat' (first | exact Ext.refl _ | assumption | apply Ext.allocR | apply Ext.drewR | apply Ext.drewNR | (refine Ext.trans' ?_ (by assumption)))))) (by unfold I64; omega)).mono ?_
  rintro e w9 hp
  obtain ⟨_, v, base, rfl, hbs, ho, hx9⟩ := hp.resolve_left (fun h => by have := h.1; omega)
  rw [K1_l6] at ho
  obtain ⟨g9, c9, rfl, hg9, hp9⟩ := own_pieces ho (by decide)
  have hE9 : Ext w4 w9 := hE8.trans' (by (repeat' (first | exact Ext.refl _ | assumption | apply Ext.allocR | apply Ext.drewR | apply Ext.drewNR | (refine Ext.trans' ?_ (by assumption)))))
  clear hx9 hp hE8 ho hbs hQ hW
  go_wp2_with fail
  refine Calls.mono (SameP_yes [(3, 0), (2, 1), (1, 3), (0, 6)] _ _ _ _ _ (hp9.ext hg9 (Ext.alloc' _ _)) (pieces4 w9 _) (by rw [size_alloc]; omega) (by rw [size_alloc]; omega) (by decide)) ?_
  rintro e w10 ⟨rfl, hx10⟩
  go_wp2
  go_ret
  exact ⟨rfl, hE4.trans' (hE9.trans' (by (repeat' (first | exact Ext.refl _ | assumption | apply Ext.allocR | apply Ext.drewR | apply Ext.drewNR | (refine Ext.trans' ?_ (by assumption))))))⟩
end Go.Proofs.YteoblkcbemeamaaGreat

/- gaugerlaw17.fed makes a stack and feeds it: it never refuses. -/
namespace Go.Proofs.YteoblkcbemeamaaGreat
set_option linter.unusedVariables false
open Go.RowKit
end Go.Proofs.YteoblkcbemeamaaGreat

/- gaugerlaw17.QuantRises, walked. -/
namespace Go.Proofs.YteoblkcbemeamaaGreat
set_option linter.unusedVariables false
open Go.RowKit
theorem and62i (x : Int) : bits BinOp.and IntKind.i64 x 4611686018427387903 = x % 4611686018427387904 := by
  show IntKind.i64.wrap ((BitVec.ofInt 64 x &&& BitVec.ofInt 64 4611686018427387903).toNat : Int) = _
  have e1 : (BitVec.ofInt 64 (4611686018427387903 : Int)).toNat = 2 ^ 62 - 1 := by decide
  rw [BitVec.toNat_and, e1, Nat.and_two_pow_sub_one_eq_mod, BitVec.toNat_ofInt, IntKind.wrap_i64]
  have : (x % ((2 ^ 64 : Nat) : Int)).toNat % 2 ^ 62 < 4611686018427387904 := Nat.mod_lt _ (by decide)
  omega
theorem rank_bd {x T : Int} (hT : 1 ≤ T) : 0 ≤ x % 4611686018427387904 % T ∧ x % 4611686018427387904 % T < T :=
  ⟨Int.emod_nonneg _ (by omega), Int.emod_lt_of_pos _ (by omega)⟩
theorem tot_bd (C : Cfg) (B : Nat) (us : List (Int × Int)) : -65970697666560 ≤ (feedK C (fus us 0 60) B).getD 0 0 ∧ (feedK C (fus us 0 60) B).getD 0 0 ≤ 65970697666560 := (fed_bnd C us B).getD (by decide) 0
end Go.Proofs.YteoblkcbemeamaaGreat

/- gaugerlaw17.QuantWay, walked. -/
namespace Go.Proofs.YteoblkcbemeamaaGreat
set_option linter.unusedVariables false
open Go.RowKit
theorem way_step (pt : Nat → Int → Int) : ∀ (n : Nat) (i k : Int), 0 ≤ i → ∀ j : Nat, j < n →
    (((n, i) :: wayL pt n i k).getD (j + 1) (0, 0)).2 / 2 = (((n, i) :: wayL pt n i k).getD j (0, 0)).2 ∧ 0 ≤ (((n, i) :: wayL pt n i k).getD (j + 1) (0, 0)).2
  | 0, _, _, _, j, hj => absurd hj (Nat.not_lt_zero j)
  | n + 1, i, k, h0, j, hj => by
    rw [wayL_succ, List.getD_cons_succ]
    cases j with
    | zero =>
      split
      · exact ⟨by show 2 * i / 2 = i; omega, by show 0 ≤ 2 * i; omega⟩
      · exact ⟨by show (2 * i + 1) / 2 = i; omega, by show 0 ≤ 2 * i + 1; omega⟩
    | succ j =>
      rw [List.getD_cons_succ]
      split
      · exact way_step pt n (2 * i) k (by omega) j (by omega)
      · exact way_step pt n (2 * i + 1) _ (by omega) j (by omega)
theorem way_lev (pt : Nat → Int → Int) : ∀ (n : Nat) (i k : Int) (j : Nat), j ≤ n → (((n, i) :: wayL pt n i k).getD j (0, 0)).1 + j = n
  | n, i, k, 0, _ => by rfl
  | 0, _, _, j + 1, hj => absurd hj (by omega)
  | n + 1, i, k, j + 1, hj => by
    rw [wayL_succ, List.getD_cons_succ]
    split
    · have := way_lev pt n (2 * i) k j (by omega); omega
    · have := way_lev pt n (2 * i + 1) (k - pt n (2 * i)) j (by omega); omega
theorem way_bd (pt : Nat → Int → Int) : ∀ (n : Nat) (i k : Int) (j : Nat), 0 ≤ i → j ≤ n → (((n, i) :: wayL pt n i k).getD j (0, 0)).2 < (i + 1) * 2 ^ j
  | n, i, k, 0, h0, _ => by show i < (i + 1) * 2 ^ 0; omega
  | 0, _, _, j + 1, _, hj => absurd hj (by omega)
  | n + 1, i, k, j + 1, h0, hj => by
    have hp : (0 : Int) < 2 ^ j := Int.pow_pos (by decide)
    have e : (i + 1) * 2 ^ (j + 1) = (2 * i + 1 + 1) * (2 : Int) ^ j := by
      rw [Int.pow_succ, Int.mul_comm ((2 : Int) ^ j) 2, ← Int.mul_assoc]
      congr 1
      omega
    rw [wayL_succ, List.getD_cons_succ, e]
    split
    · have := way_bd pt n (2 * i) k j (by omega) (by omega)
      have : (2 * i + 1) * (2 : Int) ^ j ≤ (2 * i + 1 + 1) * 2 ^ j := Int.mul_le_mul_of_nonneg_right (by omega) (by omega)
      omega
    · exact way_bd pt n (2 * i + 1) _ j (by omega) (by omega)
end Go.Proofs.YteoblkcbemeamaaGreat
