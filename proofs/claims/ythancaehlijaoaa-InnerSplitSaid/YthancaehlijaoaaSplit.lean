/- gaugerlaw11.InnerSplit, walked. -/
import Derived.Test.YthancaehlijaoaaShown11
import Derived.Test.YthancaehlijaoaaSplit0
import Derived.Test.YthancaehlijaoaaLong
import Derived.Test.YthancaehlijaoaaIUnlike
namespace Go.Proofs.Ythancaehlijaoaa
set_option linter.unusedVariables false
open Go.RowKit

theorem own_sl {w : World} {base n size : Nat} {e : TypeId} {v : Value} {xs : List Value} (h : w.ownsRow base e size v n xs) : ∃ p c, v = .slice p n c := by
  rcases h.2 with ⟨rfl, rfl⟩ | ⟨g, cap, cur, rfl, _⟩
  · exact ⟨none, 0, rfl⟩
  · exact ⟨_, _, rfl⟩
theorem SlArg.cell {w : World} {p : Option Addr} {n c : Nat} {l : List Int} (h : SlArg w p n c l) {k : Nat} (hk : k < n) : ∃ g off, p = some ⟨g, off, none⟩ ∧ g < w.heap.size ∧ w.cell? ⟨g, off + k, none⟩ = some (.int .i64 (l.getD k 0)) := by
  rcases h.2.2 with ⟨h0, _⟩ | ⟨g, off, rfl, hg, hc⟩
  · omega
  · exact ⟨g, off, rfl, hg, hc k hk⟩
theorem DotZ (w : World) : Calls Try.prog 31 #[.slice none 0 0, .slice none 0 0] w fun e w' => e = .returned (.tuple #[.agg #[.int .i64 0, .int .u64 0], .bool true]) ∧ Ext w w' :=
  Dot_c [] [] (.slice none 0 0) (.slice none 0 0) w (by intro x hx; cases hx) (by intro x hx; cases hx) rfl (Nat.zero_le _) (.inl ⟨rfl, rfl⟩) (.inl ⟨rfl, rfl⟩)
theorem AddZ (w : World) : Calls Try.prog 42 #[.agg #[.int .i64 0, .int .u64 0], .agg #[.int .i64 0, .int .u64 0]] w fun e w' => e = .returned (.tuple #[.agg #[.int .i64 0, .int .u64 0], .bool true]) ∧ Ext w w' :=
  Add_yes 0 0 (by unfold W128; omega) (by unfold W128; omega) (by unfold W128; omega) w
theorem LOf0 (w : World) : Calls Try.prog 44 #[.agg #[.int .i64 0, .int .u64 0]] w fun e w' => e = .returned (longV 0) ∧ Ext w w' := LOf_c 0 (by unfold W128; omega) w
theorem LBelow0 (w : World) : Calls Try.prog 43 #[longV 0] w fun e w' => e = .returned (.bool false) ∧ Ext w w' := LBelow_c 0 (by unfold W128; omega) w
set_option maxRecDepth 20000 in
set_option maxHeartbeats 8000000 in
theorem SplitL_c (a : List Int) (q0 : Option Addr) (n0 c0 : Nat) (b : List Int) (q1 : Option Addr) (n1 c1 : Nat) (k0 : Int) (hk0 : I64 k0) (w : World) (ha : allI a) (hb : allI b) (h0 : SlArg w q0 n0 c0 a) (h1 : SlArg w q1 n1 c1 b) (hn0 : n0 ≤ 281474976710656) (hn1 : n1 ≤ 281474976710656) :
    Calls Try.prog 12 #[.slice q0 n0 c0, .slice q1 n1 c1, .int .i64 k0] w fun e w' => e = .returned (.bool true) ∧ Ext w w' := by
  have H0 := Lib.hid h0
  have H1 := Lib.hid h1
  clear h0 h1
  go_enter Try.func12, Try.ntmps12
  go_wp2_with fail
  refine (shown11_c _).mono ?_
  rintro e w1 ⟨rfl, hb1⟩
  have hE1 : Ext w w1 := by (repeat' (first | exact Ext.refl _ | assumption | apply Ext.allocR | apply Ext.drewR | apply Ext.drewNR | (refine Ext.trans' ?_ (by assumption))))
  clear hb1
  obtain ⟨n, hn⟩ : ∃ n : Nat, min (min n0 n1) 100 = n := ⟨_, rfl⟩
  have hnn0 : n ≤ n0 := by omega
  have hnn1 : n ≤ n1 := by omega
  have hn100 : n ≤ 100 := by omega
  go_upto_region 2 with (fail)
  go_cut [8] (fun s8 wx => s8 = .int .i64 (n : Int) ∧ wx = w1)
  case first =>
    by_cases l1 : n0 ≤ n1 <;> by_cases l2 : n0 ≤ 100 <;> by_cases l3 : n1 ≤ 100
    all_goals
      have g1 : ((n0 : Int) ≤ (n1 : Int)) = decide (n0 ≤ n1) := by simp
      go_wp2_with fail
      all_goals
        go_meet
        exact ⟨congrArg _ (by omega), rfl⟩
  case rest =>
    obtain ⟨rfl, rfl⟩ := hcut
    clear hn
    rcases Nat.eq_zero_or_pos n with hnz | hpos
    · subst hnz
      have hjn := Int.emod_one (k0 % 65536)
      have hka := and16 k0
      have hkn := Int.emod_nonneg k0 (show (65536 : Int) ≠ 0 by decide)
      go_wp2_with fail
      refine wp_loop_rounds 1 ?_
      rw [rounds_succ]
      go_upto_region 12 with (fail)
      go_cut [2] (fun s2 wx => s2 = .int .i64 0 ∧ wx = wc)
      case first =>
        go_wp2_with fail
        go_meet
        exact ⟨by first | rfl | simp, rfl⟩
      case rest =>
        obtain ⟨rfl, rfl⟩ := hcut
        rename World => wr
        clear hka hkn hjn
        go_wp2_with fail
        refine Calls.mono (DotZ _) ?_
        rintro e wa ⟨rfl, hxa⟩
        have hEa : Ext wr wa := by (repeat' (first | exact Ext.refl _ | assumption | apply Ext.allocR | apply Ext.drewR | apply Ext.drewNR | (refine Ext.trans' ?_ (by assumption))))
        have hab := heap_at wa (.cells #[.int .i64 0, .int .u64 0] 56) rfl
        have hEab : Ext wa (wa.alloc (.cells #[.int .i64 0, .int .u64 0] 56)) := Ext.alloc' _ _
        go_upto_region 14 with (fail)
        generalize wa.alloc (.cells #[.int .i64 0, .int .u64 0] 56) = wb at *
        have hEb : Ext w wb := hE1.trans' (hEa.trans' hEab)
        clear hxa hEa hEab
        go_upto_region 14 with (fail)
        go_cut [15, 16] (fun sA sB wx => ∃ z : Nat, sA = .pointer (some ⟨z, 0, none⟩) ∧ sB = .bool true ∧ wx.heap[z]? = some (.cells #[.int .i64 0, .int .u64 0] 56 (0, 0)) ∧ Ext wb wx ∧ wb.heap.size ≤ z)
        case first =>
          have hC0 := af_drew wb
          refine pi_start (fun w' => ∃ x : After wb, w' = x.w) [] (by kernel_rfl) ?_
          refine pi_t 0 rfl (by kernel_rfl) (by kernel_rfl) (fun _ _ _ _ h => h) (fun K hK => ?_)
          go_big_quiet_op
          refine hK _ ?_
          clear hK K
          refine pi_t 1 rfl (by kernel_rfl) (by kernel_rfl) (fun _ _ _ _ h => h) (fun K hK => ?_)
          go_big_quiet_op
          refine hK _ ?_
          clear hK K
          refine pi_t 2 rfl (by kernel_rfl) (by kernel_rfl) (fun _ _ _ _ h => h) (fun K hK => ?_)
          go_big_quiet_op
          refine hK _ ?_
          clear hK K
          refine pi_t 3 rfl (by kernel_rfl) (by kernel_rfl) (fun _ _ _ _ h => h) (fun K hK => ?_)
          go_big_quiet_op
          refine hK _ ?_
          clear hK K
          refine pi_t 4 rfl (by kernel_rfl) (by kernel_rfl) (fun _ _ _ _ h => h) (fun K hK => ?_)
          go_big_quiet_op
          refine hK _ ?_
          clear hK K
          refine pi_t 5 rfl (by kernel_rfl) (by kernel_rfl) (fun _ _ _ _ h => h) (fun K hK => ?_)
          go_big_quiet_op
          refine hK _ ?_
          clear hK K
          refine pi_b 6 10 rfl rfl (by kernel_rfl) (fun K hK => ?_) (fun K hK => ?_)
          · skip
            go_wp2_with (go_at_call 31; refine (DotZ _).mono ?_; rintro e wa ⟨rfl, hxa⟩)
            refine hK _ _ (fun _ h => af_step h hxa) ?_
            clear hK K
            have hEa : Ext wb wa := Ext.trans' (Below.drew (Ext.refl wb)) hxa
            refine pi_t 7 rfl (by kernel_rfl) (by kernel_rfl) (fun _ _ _ _ h => h) (fun K hK => ?_)
            go_big_quiet_op
            refine hK _ ?_
            clear hK K
            refine pi_t 8 rfl (by kernel_rfl) (by kernel_rfl) (fun _ _ _ _ h => h) (fun K hK => ?_)
            go_big_quiet_op
            refine hK _ ?_
            clear hK K
            refine pi_t 9 rfl (by kernel_rfl) (by kernel_rfl) (fun _ _ _ _ h => h) (fun K hK => ?_)
            go_big_quiet_op
            refine hK _ ?_
            clear hK K
            refine pi_l 10 rfl (by kernel_rfl) (fun K hK => ?_)
            go_wp2
            refine hK _ _ (fun _ h => af_step h (Ext.alloc' _ _)) ?_
            clear hK K
            refine pi_l 11 rfl (by kernel_rfl) (fun K hK => ?_)
            go_wp2
            have hsz := hEa.size
            refine hK _ _ (fun _ h => ⟨⟨_, hEa.allocR _⟩, rfl⟩) ?_
            clear hK K
            refine pi_t 12 rfl (by kernel_rfl) (by kernel_rfl) (fun _ _ _ _ h => h) (fun K hK => ?_)
            go_big_quiet_op
            refine hK _ ?_
            clear hK K
            refine pi_end (by kernel_rfl) ?_
            go_wp2_with fail
            go_meet
            exact ⟨_, rfl, rfl, heap_at _ _ rfl, hEa.allocR _, hsz⟩
          · go_wp2
            refine hK _ _ (fun _ h => af_step h (Ext.alloc' _ _)) ?_
            clear hK K
            refine pi_l 6 rfl (by kernel_rfl) (fun K hK => ?_)
            skip
            go_wp2_with (go_at_call 31; refine (DotZ _).mono ?_; rintro e wa ⟨rfl, hxa⟩)
            refine hK _ _ (fun _ h => af_step h hxa) ?_
            clear hK K
            have hEa : Ext wb wa := Ext.trans' (Ext.alloc' wb _) (Ext.trans' (Below.drew (Ext.refl _)) hxa)
            have hbx : wa.heap[wb.heap.size]? = some (.cells #[.int .i64 0, .int .u64 0] 56 (0, 0)) := hxa.keep (heap_at (World.drew wb) _ rfl)
            have p0 := (cell_of hbx 0).trans rfl
            have p1 := (cell_of hbx 1).trans rfl
            have f0 := frozen_of hbx 0
            have f1 := frozen_of hbx 1
            have HBX := Lib.hid hbx
            clear hbx
            refine pi_t 7 rfl (by kernel_rfl) (by kernel_rfl) (fun _ _ _ _ h => h) (fun K hK => ?_)
            go_big_quiet_op
            refine hK _ ?_
            clear hK K
            refine pi_t 8 rfl (by kernel_rfl) (by kernel_rfl) (fun _ _ _ _ h => h) (fun K hK => ?_)
            go_big_quiet_op
            refine hK _ ?_
            clear hK K
            refine pi_t 9 rfl (by kernel_rfl) (by kernel_rfl) (fun _ _ _ _ h => h) (fun K hK => ?_)
            go_big_quiet_op
            refine hK _ ?_
            clear hK K
            refine pi_l 11 rfl (by kernel_rfl) (fun K hK => ?_)
            go_wp2
            refine hK _ _ (fun _ h => ⟨⟨_, (hEa.setR (p := ⟨wb.heap.size, 0, none⟩) (Nat.le_refl _) _).setR (p := ⟨wb.heap.size, 1, none⟩) (Nat.le_refl _) _⟩, rfl⟩) ?_
            clear hK K
            refine pi_t 12 rfl (by kernel_rfl) (by kernel_rfl) (fun _ _ _ _ h => h) (fun K hK => ?_)
            go_big_quiet_op
            refine hK _ ?_
            clear hK K
            refine pi_end (by kernel_rfl) ?_
            go_wp2_with fail
            go_meet
            exact ⟨_, rfl, rfl, set2 HBX.out _ _, (hEa.setR (p := ⟨wb.heap.size, 0, none⟩) (Nat.le_refl _) _).setR (p := ⟨wb.heap.size, 1, none⟩) (Nat.le_refl _) _, Nat.le_refl _⟩
        case rest =>
          obtain ⟨z, rfl, rfl, hzb, hEd, _⟩ := hcut
          rename World => wd
          go_upto_region 15 with (fail)
          go_cut [17, 18] (fun sA sB wx => ∃ z : Nat, sA = .pointer (some ⟨z, 0, none⟩) ∧ sB = .bool true ∧ wx.heap[z]? = some (.cells #[.int .i64 0, .int .u64 0] 56 (0, 0)) ∧ Ext wd wx ∧ wd.heap.size ≤ z)
          case first =>
            have hC0 := af_drew wd
            refine pi_start (fun w' => ∃ x : After wd, w' = x.w) [] (by kernel_rfl) ?_
            refine pi_t 0 rfl (by kernel_rfl) (by kernel_rfl) (fun _ _ _ _ h => h) (fun K hK => ?_)
            go_big_quiet_op
            refine hK _ ?_
            clear hK K
            refine pi_t 1 rfl (by kernel_rfl) (by kernel_rfl) (fun _ _ _ _ h => h) (fun K hK => ?_)
            go_big_quiet_op
            refine hK _ ?_
            clear hK K
            refine pi_t 2 rfl (by kernel_rfl) (by kernel_rfl) (fun _ _ _ _ h => h) (fun K hK => ?_)
            go_big_quiet_op
            refine hK _ ?_
            clear hK K
            refine pi_t 3 rfl (by kernel_rfl) (by kernel_rfl) (fun _ _ _ _ h => h) (fun K hK => ?_)
            go_big_quiet_op
            refine hK _ ?_
            clear hK K
            refine pi_t 4 rfl (by kernel_rfl) (by kernel_rfl) (fun _ _ _ _ h => h) (fun K hK => ?_)
            go_big_quiet_op
            refine hK _ ?_
            clear hK K
            refine pi_t 5 rfl (by kernel_rfl) (by kernel_rfl) (fun _ _ _ _ h => h) (fun K hK => ?_)
            go_big_quiet_op
            refine hK _ ?_
            clear hK K
            refine pi_b 6 10 rfl rfl (by kernel_rfl) (fun K hK => ?_) (fun K hK => ?_)
            · skip
              go_wp2_with (go_at_call 31; refine (DotZ _).mono ?_; rintro e wa ⟨rfl, hxa⟩)
              refine hK _ _ (fun _ h => af_step h hxa) ?_
              clear hK K
              have hEa : Ext wd wa := Ext.trans' (Below.drew (Ext.refl wd)) hxa
              refine pi_t 7 rfl (by kernel_rfl) (by kernel_rfl) (fun _ _ _ _ h => h) (fun K hK => ?_)
              go_big_quiet_op
              refine hK _ ?_
              clear hK K
              refine pi_t 8 rfl (by kernel_rfl) (by kernel_rfl) (fun _ _ _ _ h => h) (fun K hK => ?_)
              go_big_quiet_op
              refine hK _ ?_
              clear hK K
              refine pi_t 9 rfl (by kernel_rfl) (by kernel_rfl) (fun _ _ _ _ h => h) (fun K hK => ?_)
              go_big_quiet_op
              refine hK _ ?_
              clear hK K
              refine pi_l 10 rfl (by kernel_rfl) (fun K hK => ?_)
              go_wp2
              refine hK _ _ (fun _ h => af_step h (Ext.alloc' _ _)) ?_
              clear hK K
              refine pi_l 11 rfl (by kernel_rfl) (fun K hK => ?_)
              go_wp2
              have hsz := hEa.size
              refine hK _ _ (fun _ h => ⟨⟨_, hEa.allocR _⟩, rfl⟩) ?_
              clear hK K
              refine pi_t 12 rfl (by kernel_rfl) (by kernel_rfl) (fun _ _ _ _ h => h) (fun K hK => ?_)
              go_big_quiet_op
              refine hK _ ?_
              clear hK K
              refine pi_end (by kernel_rfl) ?_
              go_wp2_with fail
              go_meet
              exact ⟨_, rfl, rfl, heap_at _ _ rfl, hEa.allocR _, hsz⟩
            · go_wp2
              refine hK _ _ (fun _ h => af_step h (Ext.alloc' _ _)) ?_
              clear hK K
              refine pi_l 6 rfl (by kernel_rfl) (fun K hK => ?_)
              skip
              go_wp2_with (go_at_call 31; refine (DotZ _).mono ?_; rintro e wa ⟨rfl, hxa⟩)
              refine hK _ _ (fun _ h => af_step h hxa) ?_
              clear hK K
              have hEa : Ext wd wa := Ext.trans' (Ext.alloc' wd _) (Ext.trans' (Below.drew (Ext.refl _)) hxa)
              have hbx : wa.heap[wd.heap.size]? = some (.cells #[.int .i64 0, .int .u64 0] 56 (0, 0)) := hxa.keep (heap_at (World.drew wd) _ rfl)
              have p0 := (cell_of hbx 0).trans rfl
              have p1 := (cell_of hbx 1).trans rfl
              have f0 := frozen_of hbx 0
              have f1 := frozen_of hbx 1
              have HBX := Lib.hid hbx
              clear hbx
              refine pi_t 7 rfl (by kernel_rfl) (by kernel_rfl) (fun _ _ _ _ h => h) (fun K hK => ?_)
              go_big_quiet_op
              refine hK _ ?_
              clear hK K
              refine pi_t 8 rfl (by kernel_rfl) (by kernel_rfl) (fun _ _ _ _ h => h) (fun K hK => ?_)
              go_big_quiet_op
              refine hK _ ?_
              clear hK K
              refine pi_t 9 rfl (by kernel_rfl) (by kernel_rfl) (fun _ _ _ _ h => h) (fun K hK => ?_)
              go_big_quiet_op
              refine hK _ ?_
              clear hK K
              refine pi_l 11 rfl (by kernel_rfl) (fun K hK => ?_)
              go_wp2
              refine hK _ _ (fun _ h => ⟨⟨_, (hEa.setR (p := ⟨wd.heap.size, 0, none⟩) (Nat.le_refl _) _).setR (p := ⟨wd.heap.size, 1, none⟩) (Nat.le_refl _) _⟩, rfl⟩) ?_
              clear hK K
              refine pi_t 12 rfl (by kernel_rfl) (by kernel_rfl) (fun _ _ _ _ h => h) (fun K hK => ?_)
              go_big_quiet_op
              refine hK _ ?_
              clear hK K
              refine pi_end (by kernel_rfl) ?_
              go_wp2_with fail
              go_meet
              exact ⟨_, rfl, rfl, set2 HBX.out _ _, (hEa.setR (p := ⟨wd.heap.size, 0, none⟩) (Nat.le_refl _) _).setR (p := ⟨wd.heap.size, 1, none⟩) (Nat.le_refl _) _, Nat.le_refl _⟩
          case rest =>
            obtain ⟨zz, rfl, rfl, hzc, hEe, _⟩ := hcut
            rename World => we
            obtain ⟨a0, a1, al⟩ := wbox hzb hEe
            obtain ⟨b0, b1, bl⟩ := wbox hzc (Ext.refl _)
            have hab' := (hEd.trans' hEe).keep hab
            have HAB := Lib.hid hab'
            have hEwe := hEb.trans' (hEd.trans' hEe)
            clear hzb hzc hab hab' hEb hEd hEe
            go_wp2_with fail
            refine Calls.mono (AddZ _) ?_
            rintro e wf ⟨rfl, hxf⟩
            have hEf : Ext we wf := by (repeat' (first | exact Ext.refl _ | assumption | apply Ext.allocR | apply Ext.drewR | apply Ext.drewNR | (refine Ext.trans' ?_ (by assumption))))
            have hsb := heap_at wf (.cells #[.int .i64 0, .int .u64 0] 56) rfl
            have hEfb : Ext wf (wf.alloc (.cells #[.int .i64 0, .int .u64 0] 56)) := Ext.alloc' _ _
            clear hxf a0 a1 al b0 b1 bl
            go_wp2_with fail
            generalize wf.alloc (.cells #[.int .i64 0, .int .u64 0] 56) = wfb at *
            refine Calls.mono (DotZ _) ?_
            rintro e wg ⟨rfl, hxg⟩
            have hEg : Ext wfb wg := by (repeat' (first | exact Ext.refl _ | assumption | apply Ext.allocR | apply Ext.drewR | apply Ext.drewNR | (refine Ext.trans' ?_ (by assumption))))
            have htb := heap_at wg (.cells #[.int .i64 0, .int .u64 0] 56) rfl
            have hEgb : Ext wg (wg.alloc (.cells #[.int .i64 0, .int .u64 0] 56)) := Ext.alloc' _ _
            obtain ⟨a0, a1, al⟩ := wbox HAB.out (hEf.trans' (hEfb.trans' (hEg.trans' hEgb)))
            clear hxg
            go_upto_region 18 with (fail)
            generalize wg.alloc (.cells #[.int .i64 0, .int .u64 0] 56) = wgb at *
            go_wp2_with fail
            refine Calls.mono (AddZ _) ?_
            rintro e wh ⟨rfl, hxh⟩
            have hEh : Ext wgb wh := by (repeat' (first | exact Ext.refl _ | assumption | apply Ext.allocR | apply Ext.drewR | apply Ext.drewNR | (refine Ext.trans' ?_ (by assumption))))
            clear a0 a1 al
            obtain ⟨a0, a1, al⟩ := wbox HAB.out (hEf.trans' (hEfb.trans' (hEg.trans' (hEgb.trans' hEh))))
            obtain ⟨b0, b1, bl⟩ := wbox hsb (hEg.trans' (hEgb.trans' hEh))
            obtain ⟨d0, d1, dl⟩ := wbox htb hEh
            have hEF := hEwe.trans' (hEf.trans' (hEfb.trans' (hEg.trans' (hEgb.trans' hEh))))
            clear hxh hsb htb hEf hEfb hEg hEgb hEh hEwe
            go_wp2_with fail
            refine wp_region_after (by kernel_rfl) (by kernel_rfl) ?_
            repeat (go_big_quiet_step ((first | (go_at_call 44; exact quiet_after (LOf0 _)) | (go_at_call 43; exact quiet_after (LBelow0 _)))))
            refine wpQuiet_nil ?_
            rintro _ ⟨xx, rfl⟩
            obtain ⟨wq, hq⟩ := xx
            try dsimp only
            go_wp2
            go_ret
            exact ⟨by first | rfl | simp, (hEF.allocR _).trans' hq⟩
    go_wp2_with fail
    go_loopw [9, 10, 11, 12] (fun u9 u10 u11 u12 wr => ∃ k : Nat, k ≤ n ∧ u12 = .int .i64 k ∧ Ext wc wr ∧ wr.ownsRow wc.heap.size 2 1 u9 (x50 a k).length (ints (x50 a k)) ∧ wr.ownsRow wc.heap.size 2 1 u10 (x50 b k).length (ints (x50 b k)) ∧ wr.ownsRow wc.heap.size 2 1 u11 (z50 b k).length (ints (z50 b k)) ∧ Dj u9 u10 ∧ Dj u9 u11 ∧ Dj u10 u11) (fun _ _ _ u12 _ => n - (intOf u12).toNat)
    case atStart => exact ⟨0, Nat.zero_le _, rfl, Ext.refl _, ⟨rfl, .inl ⟨rfl, rfl⟩⟩, ⟨rfl, .inl ⟨rfl, rfl⟩⟩, ⟨rfl, .inl ⟨rfl, rfl⟩⟩, (fun i h => by cases h), (fun i h => by cases h), (fun i h => by cases h)⟩
    case round =>
      obtain ⟨k, hk, rfl, hE, o9, o10, o11, j1, j2, j3⟩ := hrel
      by_cases hgo : k < n
      · obtain ⟨ga, oa, rfl, hga, e0'⟩ := H0.out.cell (k := k) (by omega)
        obtain ⟨gb, ob, rfl, hgb, e1'⟩ := H1.out.cell (k := k) (by omega)
        have e0 := ((bcell (hE1.trans' hE)).1 ga _ hga).trans e0'
        have e1 := ((bcell (hE1.trans' hE)).1 gb _ hgb).trans e1'
        have la : ga < wr.heap.size := Nat.lt_of_lt_of_le hga (hE1.trans' hE).size
        have lb : gb < wr.heap.size := Nat.lt_of_lt_of_le hgb (hE1.trans' hE).size
        have s9 := x50_snoc a k
        have s10 := x50_snoc b k
        have s11 := z50_snoc b k
        have t1 := tmod50 (a.getD k 0)
        have t2 := tmod50 (b.getD k 0)
        have l9 := x50_len a k
        have l10 := x50_len b k
        have l11 := z50_len b k
        generalize a.getD k 0 = x at *
        generalize b.getD k 0 = y at *
        generalize x50 a k = X at *
        generalize x50 b k = Y at *
        generalize z50 b k = Z at *
        have S9 := Lib.hid s9
        have S10 := Lib.hid s10
        have S11 := Lib.hid s11
        have O9 := Lib.hid o9
        have O10 := Lib.hid o10
        have O11 := Lib.hid o11
        have J1 := Lib.hid j1
        have J2 := Lib.hid j2
        have J3 := Lib.hid j3
        have hsz := hE.size
        have EA := Lib.hid e0'
        have EB := Lib.hid e1'
        clear s9 s10 s11 o9 o10 o11 j1 j2 j3 e0' e1'
        go_wp2_with (at_builtin; refine wpList_app1 wr (x.tmod 1125899906842624) X _ wc.heap.size 2 O9.out 32 rfl _ _ rfl info_i64 Try.underlying32 rfl rfl ?a1 ?a2 ?_)
        case a1 => omega
        case a2 => exact hsz
        intro v9 W1 p9 hg hd
        have F1 : Ext wc W1 := ext_grown hE hg (fun i hi => own_blk O9.out hi)
        have p10 := own_other O10.out hg J1.out
        have p11 := own_other O11.out hg J2.out
        have K1 := dj_new O10.out hd J1.out
        have K2 := dj_new O11.out hd J2.out
        have e1 := ((bcell (hE1.trans' F1)).1 gb _ hgb).trans EB.out
        have lb : gb < W1.heap.size := Nat.lt_of_lt_of_le hgb (hE1.trans' F1).size
        have hsz1 := F1.size
        have P9 := Lib.hid p9
        have P10 := Lib.hid p10
        have P11 := Lib.hid p11
        have K1 := Lib.hid K1
        have K2 := Lib.hid K2
        clear hg hd p9 p10 p11 hE O9 O10 O11 J1 J2 e0 la
        go_wp2_with (at_builtin; refine wpList_app1 W1 (y.tmod 1125899906842624) Y _ wc.heap.size 2 P10.out 32 rfl _ _ rfl info_i64 Try.underlying32 rfl rfl ?a1 ?a2 ?_)
        case a1 => omega
        case a2 => exact hsz1
        intro v10 W2 p10 hg hd
        have F2 : Ext wc W2 := ext_grown F1 hg (fun i hi => own_blk P10.out hi)
        have p9 := own_other P9.out hg K1.out.symm
        have p11 := own_other P11.out hg J3.out
        have M1 := (dj_new P9.out hd K1.out.symm).symm
        have M3 := dj_new P11.out hd J3.out
        have e1 := ((bcell (hE1.trans' F2)).1 gb _ hgb).trans EB.out
        have lb : gb < W2.heap.size := Nat.lt_of_lt_of_le hgb (hE1.trans' F2).size
        have hsz2 := F2.size
        have Q9 := Lib.hid p9
        have Q10 := Lib.hid p10
        have Q11 := Lib.hid p11
        have M1 := Lib.hid M1
        have M3 := Lib.hid M3
        clear hg hd p9 p10 p11 F1 P9 P10 P11 K1 J3
        go_wp2_with (at_builtin; refine wpList_app1 W2 (2 * y.tmod 1125899906842624) Z _ wc.heap.size 2 Q11.out 32 rfl _ _ rfl info_i64 Try.underlying32 rfl rfl ?a1 ?a2 ?_)
        case a1 => omega
        case a2 => exact hsz2
        intro v11 W3 p11 hg hd
        have F3 : Ext wc W3 := ext_grown F2 hg (fun i hi => own_blk Q11.out hi)
        have p9 := own_other Q9.out hg K2.out.symm
        have p10 := own_other Q10.out hg M3.out.symm
        have N2 := (dj_new Q9.out hd K2.out.symm).symm
        have N3 := (dj_new Q10.out hd M3.out.symm).symm
        have R9 := Lib.hid p9
        have R10 := Lib.hid p10
        have R11 := Lib.hid p11
        have N2 := Lib.hid N2
        have N3 := Lib.hid N3
        clear hg hd p9 p10 p11 F2 Q9 Q10 Q11
        go_wp2_with fail
        go_roundw
        case rel =>
          refine ⟨k + 1, by omega, by go_num, F3, ?_, ?_, ?_, M1.out, N2.out, N3.out⟩
          · rw [S9.out]; exact (by simpa [l9] using R9.out)
          · rw [S10.out]; exact (by simpa [l10] using R10.out)
          · rw [S11.out]; exact (by simpa [l11] using R11.out)
        case measure => simp [intOf]; omega
      · obtain rfl : k = n := by omega
        have hX := x50_len a k
        have hY := x50_len b k
        have hZ := z50_len b k
        have bX := x50_bnd a k
        have bY := x50_bnd b k
        have bZ := z50_bnd b k
        have hdt := dotS_twice (x50 a k) b k k (Nat.le_refl _)
        generalize x50 a k = X at *
        generalize x50 b k = Y at *
        generalize z50 b k = Z at *
        rw [hX] at o9
        rw [hY] at o10
        rw [hZ] at o11
        obtain ⟨g9, k9, cur9, rfl, _, hh9, hc9, _⟩ := o9.2.resolve_left (fun h => by omega)
        obtain ⟨g10, k10, cur10, rfl, _, hh10, hc10, _⟩ := o10.2.resolve_left (fun h => by omega)
        obtain ⟨v11, k11, rfl⟩ := own_sl o11
        have i9 := IntsAt.of_row (xs := X) (n := X.length) (by rw [hX]; exact o9)
        have i10 := IntsAt.of_row (xs := Y) (n := Y.length) (by rw [hY]; exact o10)
        have i11 := IntsAt.of_row (xs := Z) (n := Z.length) (by rw [hZ]; exact o11)
        have F0 := dotF_fit2 bX bY k (by omega)
        have F3 := dotF_fit2 bX bZ k (by omega)
        obtain ⟨S, hS⟩ : ∃ S, dotS X Y k = S := ⟨_, rfl⟩
        have HD0 : Hid (∀ w' : World, Ext wr w' → Calls Try.prog 31 #[.slice (some ⟨g9, 0, none⟩) k k9, .slice (some ⟨g10, 0, none⟩) k k10] w' fun e w'' => e = .returned (.tuple #[.agg #[.int .i64 (hi S), .int .u64 (lo S)], .bool true]) ∧ Ext w' w'') := Lib.hid (fun w' hE' => by
          have := Dot_c X Y _ _ w' (bnd_all bX) (bnd_all bY) (by rw [hX, hY]) (by rw [hX]; omega) (i9.ext hE') (i10.ext hE')
          rw [hX, F0.1, hS] at this
          exact this)
        have HD3 : Hid (∀ w' : World, Ext wr w' → Calls Try.prog 31 #[.slice (some ⟨g9, 0, none⟩) k k9, .slice v11 k k11] w' fun e w'' => e = .returned (.tuple #[.agg #[.int .i64 (hi (2 * S)), .int .u64 (lo (2 * S))], .bool true]) ∧ Ext w' w'') := Lib.hid (fun w' hE' => by
          have := Dot_c X Z _ _ w' (bnd_all bX) (bnd_all bZ) (by rw [hX, hZ]) (by rw [hX]; omega) (i9.ext hE') (i11.ext hE')
          rw [hX, F3.1, hdt, hS] at this
          exact this)
        obtain ⟨j, hj⟩ : ∃ j : Nat, k0 % 65536 % ((k : Int) + 1) = j := ⟨(k0 % 65536 % ((k : Int) + 1)).toNat, (Int.toNat_of_nonneg (Int.emod_nonneg _ (by omega))).symm⟩
        have hjn : j ≤ k := by have := Int.emod_lt_of_pos (k0 % 65536) (show 0 < (k : Int) + 1 by omega); omega
        have hP := parts_of (j := j) i9 i10 hX hY hpos hn100 bX bY hjn
        rw [hS] at hP
        generalize dotS X Y j = S1 at hP
        generalize dotS (X.drop j) (Y.drop j) (k - j) = S2 at hP
        have HP := Lib.hid hP
        clear hP hS F0 F3 i9 i10 i11 o9 o10 o11 bX bY bZ hX hY hZ hh9 hh10 hdt j1 j2 j3
        have hka := and16 k0
        have hkn := Int.emod_nonneg k0 (show (65536 : Int) ≠ 0 by decide)
        have zn : (((k : Int) + 1) == 0) = false := by simp; omega
        go_upto_region 12 with (fail)
        go_cut [2] (fun s2 wx => s2 = .int .i64 (j : Int) ∧ wx = wr)
        case first =>
          go_wp2_with fail
          go_meet
          exact ⟨by first | rfl | rw [hj], rfl⟩
        case rest =>
          obtain ⟨rfl, rfl⟩ := hcut
          clear hka hkn zn hj
          go_wp2_with fail
          refine Calls.mono (HD0.out _ (by (repeat' (first | exact Ext.refl _ | assumption | apply Ext.allocR | apply Ext.drewR | apply Ext.drewNR | (refine Ext.trans' ?_ (by assumption)))))) ?_
          rintro e wa ⟨rfl, hxa⟩
          have hEa : Ext wc wa := by (repeat' (first | exact Ext.refl _ | assumption | apply Ext.allocR | apply Ext.drewR | apply Ext.drewNR | (refine Ext.trans' ?_ (by assumption))))
          have hab := heap_at wa (.cells #[.int .i64 (hi S), .int .u64 (lo S)] 56) rfl
          have hEab : Ext wa (wa.alloc (.cells #[.int .i64 (hi S), .int .u64 (lo S)] 56)) := Ext.alloc' _ _
          go_upto_region 14 with (fail)
          generalize wa.alloc (.cells #[.int .i64 (hi S), .int .u64 (lo S)] 56) = wb at *
          have hEb : Ext wc wb := hEa.trans' hEab
          clear hxa hEa hEab
          have z9 : k9 ≠ 0 := by omega
          have z10 : k10 ≠ 0 := by omega
          have zj9 : j ≤ k9 := by omega
          have zj10 : j ≤ k10 := by omega
          go_upto_region 14 with (fail)
          go_cut [15, 16] (fun sA sB wx => ∃ z : Nat, sA = .pointer (some ⟨z, 0, none⟩) ∧ sB = .bool true ∧ wx.heap[z]? = some (.cells #[.int .i64 (hi S1), .int .u64 (lo S1)] 56 (0, 0)) ∧ Ext wb wx ∧ wb.heap.size ≤ z)
          case first =>
            have hC0 := af_drew wb
            refine pi_start (fun w' => ∃ x : After wb, w' = x.w) [] (by kernel_rfl) ?_
            refine pi_t 0 rfl (by kernel_rfl) (by kernel_rfl) (fun _ _ _ _ h => h) (fun K hK => ?_)
            go_big_quiet_op
            refine hK _ ?_
            clear hK K
            refine pi_t 1 rfl (by kernel_rfl) (by kernel_rfl) (fun _ _ _ _ h => h) (fun K hK => ?_)
            go_big_quiet_op
            refine hK _ ?_
            clear hK K
            refine pi_t 2 rfl (by kernel_rfl) (by kernel_rfl) (fun _ _ _ _ h => h) (fun K hK => ?_)
            go_big_quiet_op
            refine hK _ ?_
            clear hK K
            refine pi_t 3 rfl (by kernel_rfl) (by kernel_rfl) (fun _ _ _ _ h => h) (fun K hK => ?_)
            go_big_quiet_op
            refine hK _ ?_
            clear hK K
            refine pi_t 4 rfl (by kernel_rfl) (by kernel_rfl) (fun _ _ _ _ h => h) (fun K hK => ?_)
            go_big_quiet_op
            refine hK _ ?_
            clear hK K
            refine pi_t 5 rfl (by kernel_rfl) (by kernel_rfl) (fun _ _ _ _ h => h) (fun K hK => ?_)
            go_big_quiet_op
            refine hK _ ?_
            clear hK K
            refine pi_b 6 10 rfl rfl (by kernel_rfl) (fun K hK => ?_) (fun K hK => ?_)
            · skip
              go_wp2_with (go_at_call 31; refine (HP.out.d1 _ (hEb.trans' (by (repeat' (first | exact Ext.refl _ | assumption | apply Ext.allocR | apply Ext.drewR | apply Ext.drewNR | (refine Ext.trans' ?_ (by assumption))))))).mono ?_; rintro e wa ⟨rfl, hxa⟩)
              refine hK _ _ (fun _ h => af_step h hxa) ?_
              clear hK K
              have hEa : Ext wb wa := Ext.trans' (Below.drew (Ext.refl wb)) hxa
              refine pi_t 7 rfl (by kernel_rfl) (by kernel_rfl) (fun _ _ _ _ h => h) (fun K hK => ?_)
              go_big_quiet_op
              refine hK _ ?_
              clear hK K
              refine pi_t 8 rfl (by kernel_rfl) (by kernel_rfl) (fun _ _ _ _ h => h) (fun K hK => ?_)
              go_big_quiet_op
              refine hK _ ?_
              clear hK K
              refine pi_t 9 rfl (by kernel_rfl) (by kernel_rfl) (fun _ _ _ _ h => h) (fun K hK => ?_)
              go_big_quiet_op
              refine hK _ ?_
              clear hK K
              refine pi_l 10 rfl (by kernel_rfl) (fun K hK => ?_)
              go_wp2
              refine hK _ _ (fun _ h => af_step h (Ext.alloc' _ _)) ?_
              clear hK K
              refine pi_l 11 rfl (by kernel_rfl) (fun K hK => ?_)
              go_wp2
              have hsz := hEa.size
              refine hK _ _ (fun _ h => ⟨⟨_, hEa.allocR _⟩, rfl⟩) ?_
              clear hK K
              refine pi_t 12 rfl (by kernel_rfl) (by kernel_rfl) (fun _ _ _ _ h => h) (fun K hK => ?_)
              go_big_quiet_op
              refine hK _ ?_
              clear hK K
              refine pi_end (by kernel_rfl) ?_
              go_wp2_with fail
              go_meet
              exact ⟨_, rfl, rfl, heap_at _ _ rfl, hEa.allocR _, hsz⟩
            · go_wp2
              refine hK _ _ (fun _ h => af_step h (Ext.alloc' _ _)) ?_
              clear hK K
              refine pi_l 6 rfl (by kernel_rfl) (fun K hK => ?_)
              skip
              go_wp2_with (go_at_call 31; refine (HP.out.d1 _ (hEb.trans' (by (repeat' (first | exact Ext.refl _ | assumption | apply Ext.allocR | apply Ext.drewR | apply Ext.drewNR | (refine Ext.trans' ?_ (by assumption))))))).mono ?_; rintro e wa ⟨rfl, hxa⟩)
              refine hK _ _ (fun _ h => af_step h hxa) ?_
              clear hK K
              have hEa : Ext wb wa := Ext.trans' (Ext.alloc' wb _) (Ext.trans' (Below.drew (Ext.refl _)) hxa)
              have hbx : wa.heap[wb.heap.size]? = some (.cells #[.int .i64 0, .int .u64 0] 56 (0, 0)) := hxa.keep (heap_at (World.drew wb) _ rfl)
              have p0 := (cell_of hbx 0).trans rfl
              have p1 := (cell_of hbx 1).trans rfl
              have f0 := frozen_of hbx 0
              have f1 := frozen_of hbx 1
              have HBX := Lib.hid hbx
              clear hbx
              refine pi_t 7 rfl (by kernel_rfl) (by kernel_rfl) (fun _ _ _ _ h => h) (fun K hK => ?_)
              go_big_quiet_op
              refine hK _ ?_
              clear hK K
              refine pi_t 8 rfl (by kernel_rfl) (by kernel_rfl) (fun _ _ _ _ h => h) (fun K hK => ?_)
              go_big_quiet_op
              refine hK _ ?_
              clear hK K
              refine pi_t 9 rfl (by kernel_rfl) (by kernel_rfl) (fun _ _ _ _ h => h) (fun K hK => ?_)
              go_big_quiet_op
              refine hK _ ?_
              clear hK K
              refine pi_l 11 rfl (by kernel_rfl) (fun K hK => ?_)
              go_wp2
              refine hK _ _ (fun _ h => ⟨⟨_, (hEa.setR (p := ⟨wb.heap.size, 0, none⟩) (Nat.le_refl _) _).setR (p := ⟨wb.heap.size, 1, none⟩) (Nat.le_refl _) _⟩, rfl⟩) ?_
              clear hK K
              refine pi_t 12 rfl (by kernel_rfl) (by kernel_rfl) (fun _ _ _ _ h => h) (fun K hK => ?_)
              go_big_quiet_op
              refine hK _ ?_
              clear hK K
              refine pi_end (by kernel_rfl) ?_
              go_wp2_with fail
              go_meet
              exact ⟨_, rfl, rfl, set2 HBX.out _ _, (hEa.setR (p := ⟨wb.heap.size, 0, none⟩) (Nat.le_refl _) _).setR (p := ⟨wb.heap.size, 1, none⟩) (Nat.le_refl _) _, Nat.le_refl _⟩
          case rest =>
            obtain ⟨z, rfl, rfl, hzb, hEd, _⟩ := hcut
            rename World => wd
            have hEd' := hEb.trans' hEd
            go_upto_region 15 with (fail)
            go_cut [17, 18] (fun sA sB wx => ∃ z : Nat, sA = .pointer (some ⟨z, 0, none⟩) ∧ sB = .bool true ∧ wx.heap[z]? = some (.cells #[.int .i64 (hi S2), .int .u64 (lo S2)] 56 (0, 0)) ∧ Ext wd wx ∧ wd.heap.size ≤ z)
            case first =>
              rcases (show (k9 ≠ j ∧ k10 ≠ j) ∨ (k9 = j ∧ k10 ≠ j) ∨ (k9 ≠ j ∧ k10 = j) ∨ (k9 = j ∧ k10 = j) by omega) with ⟨y9, y10⟩ | ⟨rfl, y10⟩ | ⟨y9, rfl⟩ | ⟨rfl, rfl⟩
              all_goals
                have hC0 := af_drew wd
                refine pi_start (fun w' => ∃ x : After wd, w' = x.w) [] (by kernel_rfl) ?_
                refine pi_t 0 rfl (by kernel_rfl) (by kernel_rfl) (fun _ _ _ _ h => h) (fun K hK => ?_)
                go_big_quiet_op
                refine hK _ ?_
                clear hK K
                refine pi_t 1 rfl (by kernel_rfl) (by kernel_rfl) (fun _ _ _ _ h => h) (fun K hK => ?_)
                go_big_quiet_op
                refine hK _ ?_
                clear hK K
                refine pi_t 2 rfl (by kernel_rfl) (by kernel_rfl) (fun _ _ _ _ h => h) (fun K hK => ?_)
                go_big_quiet_op
                refine hK _ ?_
                clear hK K
                refine pi_t 3 rfl (by kernel_rfl) (by kernel_rfl) (fun _ _ _ _ h => h) (fun K hK => ?_)
                go_big_quiet_op
                refine hK _ ?_
                clear hK K
                refine pi_t 4 rfl (by kernel_rfl) (by kernel_rfl) (fun _ _ _ _ h => h) (fun K hK => ?_)
                go_big_quiet_op
                refine hK _ ?_
                clear hK K
                refine pi_t 5 rfl (by kernel_rfl) (by kernel_rfl) (fun _ _ _ _ h => h) (fun K hK => ?_)
                go_big_quiet_op
                refine hK _ ?_
                clear hK K
                refine pi_b 6 10 rfl rfl (by kernel_rfl) (fun K hK => ?_) (fun K hK => ?_)
                · skip
                  go_wp2_with (go_at_call 31; refine (HP.out.d2 _ _ _ _ _ _ (by omega) (by omega) (by omega) (by omega) _ (hEd'.trans' (by (repeat' (first | exact Ext.refl _ | assumption | apply Ext.allocR | apply Ext.drewR | apply Ext.drewNR | (refine Ext.trans' ?_ (by assumption))))))).mono ?_; rintro e wa ⟨rfl, hxa⟩)
                  refine hK _ _ (fun _ h => af_step h hxa) ?_
                  clear hK K
                  have hEa : Ext wd wa := Ext.trans' (Below.drew (Ext.refl wd)) hxa
                  refine pi_t 7 rfl (by kernel_rfl) (by kernel_rfl) (fun _ _ _ _ h => h) (fun K hK => ?_)
                  go_big_quiet_op
                  refine hK _ ?_
                  clear hK K
                  refine pi_t 8 rfl (by kernel_rfl) (by kernel_rfl) (fun _ _ _ _ h => h) (fun K hK => ?_)
                  go_big_quiet_op
                  refine hK _ ?_
                  clear hK K
                  refine pi_t 9 rfl (by kernel_rfl) (by kernel_rfl) (fun _ _ _ _ h => h) (fun K hK => ?_)
                  go_big_quiet_op
                  refine hK _ ?_
                  clear hK K
                  refine pi_l 10 rfl (by kernel_rfl) (fun K hK => ?_)
                  go_wp2
                  refine hK _ _ (fun _ h => af_step h (Ext.alloc' _ _)) ?_
                  clear hK K
                  refine pi_l 11 rfl (by kernel_rfl) (fun K hK => ?_)
                  go_wp2
                  have hsz := hEa.size
                  refine hK _ _ (fun _ h => ⟨⟨_, hEa.allocR _⟩, rfl⟩) ?_
                  clear hK K
                  refine pi_t 12 rfl (by kernel_rfl) (by kernel_rfl) (fun _ _ _ _ h => h) (fun K hK => ?_)
                  go_big_quiet_op
                  refine hK _ ?_
                  clear hK K
                  refine pi_end (by kernel_rfl) ?_
                  go_wp2_with fail
                  go_meet
                  exact ⟨_, rfl, rfl, heap_at _ _ rfl, hEa.allocR _, hsz⟩
                · go_wp2
                  refine hK _ _ (fun _ h => af_step h (Ext.alloc' _ _)) ?_
                  clear hK K
                  refine pi_l 6 rfl (by kernel_rfl) (fun K hK => ?_)
                  skip
                  go_wp2_with (go_at_call 31; refine (HP.out.d2 _ _ _ _ _ _ (by omega) (by omega) (by omega) (by omega) _ (hEd'.trans' (by (repeat' (first | exact Ext.refl _ | assumption | apply Ext.allocR | apply Ext.drewR | apply Ext.drewNR | (refine Ext.trans' ?_ (by assumption))))))).mono ?_; rintro e wa ⟨rfl, hxa⟩)
                  refine hK _ _ (fun _ h => af_step h hxa) ?_
                  clear hK K
                  have hEa : Ext wd wa := Ext.trans' (Ext.alloc' wd _) (Ext.trans' (Below.drew (Ext.refl _)) hxa)
                  have hbx : wa.heap[wd.heap.size]? = some (.cells #[.int .i64 0, .int .u64 0] 56 (0, 0)) := hxa.keep (heap_at (World.drew wd) _ rfl)
                  have p0 := (cell_of hbx 0).trans rfl
                  have p1 := (cell_of hbx 1).trans rfl
                  have f0 := frozen_of hbx 0
                  have f1 := frozen_of hbx 1
                  have HBX := Lib.hid hbx
                  clear hbx
                  refine pi_t 7 rfl (by kernel_rfl) (by kernel_rfl) (fun _ _ _ _ h => h) (fun K hK => ?_)
                  go_big_quiet_op
                  refine hK _ ?_
                  clear hK K
                  refine pi_t 8 rfl (by kernel_rfl) (by kernel_rfl) (fun _ _ _ _ h => h) (fun K hK => ?_)
                  go_big_quiet_op
                  refine hK _ ?_
                  clear hK K
                  refine pi_t 9 rfl (by kernel_rfl) (by kernel_rfl) (fun _ _ _ _ h => h) (fun K hK => ?_)
                  go_big_quiet_op
                  refine hK _ ?_
                  clear hK K
                  refine pi_l 11 rfl (by kernel_rfl) (fun K hK => ?_)
                  go_wp2
                  refine hK _ _ (fun _ h => ⟨⟨_, (hEa.setR (p := ⟨wd.heap.size, 0, none⟩) (Nat.le_refl _) _).setR (p := ⟨wd.heap.size, 1, none⟩) (Nat.le_refl _) _⟩, rfl⟩) ?_
                  clear hK K
                  refine pi_t 12 rfl (by kernel_rfl) (by kernel_rfl) (fun _ _ _ _ h => h) (fun K hK => ?_)
                  go_big_quiet_op
                  refine hK _ ?_
                  clear hK K
                  refine pi_end (by kernel_rfl) ?_
                  go_wp2_with fail
                  go_meet
                  exact ⟨_, rfl, rfl, set2 HBX.out _ _, (hEa.setR (p := ⟨wd.heap.size, 0, none⟩) (Nat.le_refl _) _).setR (p := ⟨wd.heap.size, 1, none⟩) (Nat.le_refl _) _, Nat.le_refl _⟩
            case rest =>
              obtain ⟨zz, rfl, rfl, hzc, hEe, _⟩ := hcut
              rename World => we
              obtain ⟨a0, a1, al⟩ := wbox hzb hEe
              obtain ⟨b0, b1, bl⟩ := wbox hzc (Ext.refl _)
              have hEwe := hE1.trans' (hE.trans' (hEd'.trans' hEe))
              have hEce := hEd'.trans' hEe
              have hab' := (hEd.trans' hEe).keep hab
              have HAB := Lib.hid hab'
              clear hzb hzc hab hab' hEb hEd hEd' hEe z9 z10 zj9 zj10
              go_wp2_with fail
              refine Calls.mono (Add_yes S1 S2 HP.out.w1 HP.out.w2 (by rw [HP.out.sum]; exact HP.out.w0) _) ?_
              rintro e wf ⟨rfl, hxf⟩
              rw [HP.out.sum]
              have hEf : Ext we wf := by (repeat' (first | exact Ext.refl _ | assumption | apply Ext.allocR | apply Ext.drewR | apply Ext.drewNR | (refine Ext.trans' ?_ (by assumption))))
              have hsb := heap_at wf (.cells #[.int .i64 (hi S), .int .u64 (lo S)] 56) rfl
              have hEfb : Ext wf (wf.alloc (.cells #[.int .i64 (hi S), .int .u64 (lo S)] 56)) := Ext.alloc' _ _
              clear hxf a0 a1 al b0 b1 bl
              go_wp2_with fail
              generalize wf.alloc (.cells #[.int .i64 (hi S), .int .u64 (lo S)] 56) = wfb at *
              refine Calls.mono (HD3.out _ (hEce.trans' (hEf.trans' hEfb))) ?_
              rintro e wg ⟨rfl, hxg⟩
              have hEg : Ext wfb wg := by (repeat' (first | exact Ext.refl _ | assumption | apply Ext.allocR | apply Ext.drewR | apply Ext.drewNR | (refine Ext.trans' ?_ (by assumption))))
              have htb := heap_at wg (.cells #[.int .i64 (hi (2 * S)), .int .u64 (lo (2 * S))] 56) rfl
              have hEgb : Ext wg (wg.alloc (.cells #[.int .i64 (hi (2 * S)), .int .u64 (lo (2 * S))] 56)) := Ext.alloc' _ _
              obtain ⟨a0, a1, al⟩ := wbox HAB.out (hEf.trans' (hEfb.trans' (hEg.trans' hEgb)))
              clear hxg
              go_upto_region 18 with (fail)
              generalize wg.alloc (.cells #[.int .i64 (hi (2 * S)), .int .u64 (lo (2 * S))] 56) = wgb at *
              go_wp2_with fail
              refine Calls.mono (Add_yes S S HP.out.w0 HP.out.w0 HP.out.w3 _) ?_
              rintro e wh ⟨rfl, hxh⟩
              rw [← Int.two_mul]
              have hEh : Ext wgb wh := by (repeat' (first | exact Ext.refl _ | assumption | apply Ext.allocR | apply Ext.drewR | apply Ext.drewNR | (refine Ext.trans' ?_ (by assumption))))
              clear a0 a1 al
              obtain ⟨a0, a1, al⟩ := wbox HAB.out (hEf.trans' (hEfb.trans' (hEg.trans' (hEgb.trans' hEh))))
              obtain ⟨b0, b1, bl⟩ := wbox hsb (hEg.trans' (hEgb.trans' hEh))
              obtain ⟨d0, d1, dl⟩ := wbox htb hEh
              have hEF := hEwe.trans' (hEf.trans' (hEfb.trans' (hEg.trans' (hEgb.trans' hEh))))
              clear hxh hsb htb hEf hEfb hEg hEgb hEh hEce hEwe
              go_wp2_with fail
              refine wp_region_after (by kernel_rfl) (by kernel_rfl) ?_
              repeat (go_big_quiet_step ((first | (go_at_call 44; exact quiet_after (LOf_c S HP.out.w0 _)) | (go_at_call 43; exact quiet_after (LBelow_c S HP.out.w0 _)))))
              refine wpQuiet_nil ?_
              rintro _ ⟨xx, rfl⟩
              obtain ⟨wq, hq⟩ := xx
              try dsimp only
              go_wp2
              go_ret
              exact ⟨by simp, (hEF.allocR _).trans' hq⟩
end Go.Proofs.Ythancaehlijaoaa
