/- gaugerlaw10.has, walked: what a key has of updates. -/
import Derived.Test.YthancaehlijaoaaBoxes
namespace Go.Proofs.Ythancaehlijaoaa
set_option linter.unusedVariables false
open Go.RowKit

theorem hasP_bd (key : Int) (C : Cfg) (LV : Int) (us : List (Int × Int)) {k : Nat} (hk : k ≤ 60) : -65970697666560 ≤ hasP key (cutP C LV (fus us 0 k)) ∧ hasP key (cutP C LV (fus us 0 k)) ≤ 65970697666560 := by
  have := sumIf_bnd (fun x => x == key) 1099511627776 (by decide) (cutP C LV (fus us 0 k)) (cutP_bnd C LV _)
  have hl := fus_len us 0 k
  rw [cutP_len] at this
  unfold hasP
  omega
theorem hasP_snoc (key : Int) (C : Cfg) (LV : Int) (us : List (Int × Int)) {k : Nat} (hk : k < us.length) :
    hasP key (cutP C LV (fus us 0 (k + 1))) = hasP key (cutP C LV (fus us 0 k)) + (bif cutK C LV us[k].1 == key then cutD C.mode us[k].2 else 0) := by
  have hget : us.getD k (0, 0) = us[k] := by simp [hk]
  rw [fus_snoc us (Nat.zero_le k) hk, cutP_snoc, hget]
  exact sumIf_snoc _ _ _
set_option maxRecDepth 20000 in
set_option maxHeartbeats 4000000 in
theorem has_c (x : Cfg) (lv : Int) (us : List (Int × Int)) (hus : UpsOk us) (v : Value) (C : Cfg) (hok : C.Ok) (LV : Int) (lb1 : 0 ≤ LV) (lb2 : LV ≤ C.bits) (key : Int) (w : World) (hv : UpsAt w v us) (hul : us.length ≤ 140737488355328) :
    Calls Try.prog 25 #[.agg #[.int .i64 x.bits, .int .i64 x.rows, .int .i64 x.width, .int .i64 x.mode, .int .u64 x.seed, .int .i64 lv, v], .agg #[.int .i64 C.bits, .int .i64 C.rows, .int .i64 C.width, .int .i64 C.mode, .int .u64 C.seed], .int .i64 LV, .int .u64 key] w
      fun e w' => e = .returned (.int .i64 (hasP key (cutP C LV (fus us 0 60)))) ∧ Ext w w' := by
  obtain ⟨vp, vc, rfl⟩ := hv.sl
  have HV := Lib.hid hv
  clear hv
  go_enter Try.func25, Try.ntmps25
  go_wp2_with fail
  go_loopw [9, 10] (fun u9 u10 wr => ∃ k : Nat, k ≤ 60 ∧ k ≤ us.length ∧ u9 = .int .i64 (hasP key (cutP C LV (fus us 0 k))) ∧ u10 = .int .i64 k ∧ Ext w wr ∧ PlayAt wr w.heap.size x lv (.slice vp us.length vc) ∧ CfgAt wr (w.heap.size + 1) C) (fun _ u10 _ => 60 - (intOf u10).toNat)
  case atStart =>
    refine ⟨0, Nat.zero_le _, Nat.zero_le _, by rw [fus_self]; rfl, rfl, by (repeat' (first | exact Ext.refl _ | assumption | apply Ext.allocR | apply Ext.drewR | apply Ext.drewNR | (refine Ext.trans' ?_ (by assumption)))), (PlayAt.box x lv _ _ rfl).ext (Ext.alloc' _ _), CfgAt.box C _ (by rw [size_alloc])⟩
  case round =>
    obtain ⟨k, hk60, hkl, rfl, rfl, hE, hP, hC⟩ := hrel
    have q6 := hP.c6
    have ql := hP.c.lt
    have l1 := hC.lt
    obtain ⟨hsb1, hsb2⟩ := hasP_bd key C LV us hk60
    by_cases hgo : k < us.length ∧ k < 60
    · obtain ⟨hg1, hg2⟩ := hgo
      obtain ⟨ug, off, rfl, hul0, d0, d1⟩ := (UpsAt.ext HV.out hE).one hg1
      have hu := hus _ (List.getElem_mem hg1)
      have hsn := hasP_snoc key C LV us hg1
      have c0 := hC.c0
      have c1 := hC.c1
      have c2 := hC.c2
      have c3 := hC.c3
      have c4 := hC.c4
      generalize us[k] = uu at *
      obtain ⟨uk, ud⟩ := uu
      generalize hasP key (cutP C LV (fus us 0 k)) = s at *
      have HSN := Lib.hid hsn
      have HP := Lib.hid hP
      have HC := Lib.hid hC
      clear hsn hP hC
      go_upto_region 5 with (fail)
      go_cut [11] (fun s11 wx => ∃ bu : Nat, s11 = .pointer (some ⟨bu, 0, none⟩) ∧ wx.heap[bu]? = some (.cells #[.int .u64 (cutK C LV uk), .int .i64 (cutD C.mode ud)] 34 (0, 0)) ∧ Ext wr wx ∧ wr.heap.size ≤ bu)
      case first =>
        have hC0 := af_drew wr
        refine pi_start (fun w' => ∃ x : After wr, w' = x.w) [] (by kernel_rfl) ?_
        refine pi_c 0 (by assumption) rfl (by kernel_rfl) (by kernel_rfl) (fun _ _ _ _ h => h) (fun K hK => ?_)
        go_big_quiet_op
        refine hK _ ?_
        clear hK K
        refine pi_t 1 rfl (by kernel_rfl) (by kernel_rfl) (fun _ _ _ _ h => h) (fun K hK => ?_)
        go_big_quiet_op
        refine hK _ ?_
        clear hK K
        refine pi_t 2 rfl (by kernel_rfl) (by kernel_rfl) (fun _ _ _ _ h => h) (fun K hK => ?_)
        go_big_quiet_op
        refine hK _ ?_
        clear hK K
        refine pi_c 3 (by assumption) rfl (by kernel_rfl) (by kernel_rfl) (fun _ _ _ _ h => h) (fun K hK => ?_)
        go_big_quiet_op
        refine hK _ ?_
        clear hK K
        refine pi_t 4 rfl (by kernel_rfl) (by kernel_rfl) (fun _ _ _ _ h => h) (fun K hK => ?_)
        go_big_quiet_op
        refine hK _ ?_
        clear hK K
        refine pi_t 5 rfl (by kernel_rfl) (by kernel_rfl) (fun _ _ _ _ h => h) (fun K hK => ?_)
        go_big_quiet_op
        refine hK _ ?_
        clear hK K
        refine pi_c 6 (by assumption) rfl (by kernel_rfl) (by kernel_rfl) (fun _ _ _ _ h => h) (fun K hK => ?_)
        go_big_quiet_op
        refine hK _ ?_
        clear hK K
        refine pi_b 7 8 rfl rfl (by kernel_rfl) (fun K hK => ?_) (fun K hK => ?_)
        · go_wp2_with (go_at_call 19; refine (cut_c C hok LV lb1 lb2 uk ud hu.1 hu.2 _).mono ?_; rintro e w3 ⟨rfl, hx3⟩)
          have hx3' : Ext wr w3 := Ext.trans' (Below.drew (Ext.refl wr)) hx3
          have hs3 := hx3'.size
          refine hK _ _ (fun _ h => af_step h hx3) ?_
          clear hK K
          refine pi_l 8 rfl (by kernel_rfl) (fun K hK => ?_)
          go_wp2
          refine hK _ _ (fun _ h => af_step h (Ext.alloc' _ _)) ?_
          clear hK K
          refine pi_l 9 rfl (by kernel_rfl) (fun K hK => ?_)
          go_wp2
          refine hK _ _ (fun _ _ => ⟨⟨_, hx3'.allocR _⟩, rfl⟩) ?_
          clear hK K
          refine pi_end (by kernel_rfl) ?_
          go_wp2_with fail
          go_meet
          exact ⟨w3.heap.size, rfl, heap_at _ _ rfl, hx3'.allocR _, hs3⟩
        · go_wp2
          refine hK _ _ (fun _ h => af_step h (Ext.alloc' _ _)) ?_
          clear hK K
          refine pi_l 7 rfl (by kernel_rfl) (fun K hK => ?_)
          go_wp2_with (go_at_call 19; refine (cut_c C hok LV lb1 lb2 uk ud hu.1 hu.2 _).mono ?_; rintro e w3 ⟨rfl, hx3⟩)
          refine hK _ _ (fun _ h => af_step h hx3) ?_
          clear hK K
          have hs3 : (wr.alloc (.cells #[.int .u64 0, .int .i64 0] 34)).heap.size ≤ w3.heap.size := hx3.size
          rw [size_alloc] at hs3
          have hx3' : Ext wr w3 := Ext.trans' (Ext.alloc' wr _) (Ext.trans' (Below.drew (Ext.refl _)) hx3)
          have hbx : w3.heap[wr.heap.size]? = some (.cells #[.int .u64 0, .int .i64 0] 34 (0, 0)) := by
            rw [hx3.block _ (by show _ < (wr.alloc _).heap.size; rw [size_alloc]; exact Nat.lt_succ_self _)]
            exact heap_at wr _ rfl
          have p0 := (cell_of hbx 0).trans rfl
          have p1 := (cell_of hbx 1).trans rfl
          have f0 := frozen_of hbx 0
          have f1 := frozen_of hbx 1
          refine pi_l 9 rfl (by kernel_rfl) (fun K hK => ?_)
          go_wp2
          refine hK _ _ (fun _ _ => ⟨⟨_, (hx3'.setR (Nat.le_refl _) _).setR (Nat.le_refl _) _⟩, rfl⟩) ?_
          clear hK K
          refine pi_end (by kernel_rfl) ?_
          go_wp2_with fail
          go_meet
          exact ⟨wr.heap.size, rfl, set2 hbx _ _, (hx3'.setR (Nat.le_refl _) _).setR (Nat.le_refl _) _, Nat.le_refl _⟩
      case rest =>
        obtain ⟨bu, rfl, hbu, hxw, hbul⟩ := hcut
        have hdb := cutD_bd C.mode ud
        have b1 := (cell_of hbu 1).trans rfl
        have b0 := (cell_of hbu 0).trans rfl
        have hE' : Ext w wc := hE.trans' hxw
        have hP' := HP.out.ext hxw
        have hC' := HC.out.ext hxw
        clear d0 d1 c0 c1 c2 c3 c4 q6 hE hxw
        generalize cutK C LV uk = kk at *
        generalize cutD C.mode ud = dd at *
        by_cases hkk : kk = key
        · have g1 : (kk == key) = true := by simpa using hkk
          have hs' := HSN.out
          rw [g1] at hs'
          have HS := Lib.hid hs'
          clear hs' HSN hkk
          go_wp2_with fail
          go_roundw
          case rel => exact ⟨k + 1, by omega, by omega, by rw [HS.out]; rfl, by go_num, hE', hP', hC'⟩
          case measure => simp [intOf]; omega
        · have g1 : (kk == key) = false := by simpa using hkk
          have hs' := HSN.out
          rw [g1] at hs'
          have HS := Lib.hid hs'
          clear hs' HSN hkk
          go_wp2_with fail
          go_roundw
          case rel => exact ⟨k + 1, by omega, by omega, by rw [HS.out]; exact congrArg _ (Int.add_zero _).symm, by go_num, hE', hP', hC'⟩
          case measure => simp [intOf]; omega
    · have hfe := fus_end us (i := 0) (j := 60) (k := k) (by omega) (by omega) (.inr ⟨hk60, hkl⟩) hgo
      rw [hfe]
      go_wp2_with fail
      all_goals
        go_ret
        exact ⟨rfl, hE⟩

theorem othP_bd (key : Int) (r : Nat) (C : Cfg) (LV : Int) (us : List (Int × Int)) {k : Nat} (hk : k ≤ 60) : -65970697666560 ≤ othP C LV key r (cutP C LV (fus us 0 k)) ∧ othP C LV key r (cutP C LV (fus us 0 k)) ≤ 65970697666560 := by
  have := sumIf_bnd (fun k => !(k == key) && sameCol C LV key r k) 1099511627776 (by decide) (cutP C LV (fus us 0 k)) (cutP_bnd C LV _)
  have hl := fus_len us 0 k
  rw [cutP_len] at this
  unfold othP
  omega
theorem othP_snoc (key : Int) (r : Nat) (C : Cfg) (LV : Int) (us : List (Int × Int)) {k : Nat} (hk : k < us.length) :
    othP C LV key r (cutP C LV (fus us 0 (k + 1))) = othP C LV key r (cutP C LV (fus us 0 k)) + (bif !(cutK C LV us[k].1 == key) && ((cols C LV (cutK C LV us[k].1)).getD r 0 == (cols C LV key).getD r 0) then cutD C.mode us[k].2 else 0) := by
  have hget : us.getD k (0, 0) = us[k] := by simp [hk]
  rw [fus_snoc us (Nat.zero_le k) hk, cutP_snoc, hget]
  exact sumIf_snoc _ _ _
set_option maxRecDepth 20000 in
set_option maxHeartbeats 4000000 in
theorem others_c (x : Cfg) (lv : Int) (us : List (Int × Int)) (hus : UpsOk us) (v : Value) (C : Cfg) (hok : C.Ok) (LV : Int) (lb1 : 0 ≤ LV) (lb2 : LV ≤ C.bits) (key : Int) (hk0 : 0 ≤ key) (hk1 : key < keys C LV) (r : Nat) (hr : r < C.rows.toNat) (w : World) (hv : UpsAt w v us) (hul : us.length ≤ 140737488355328) :
    Calls Try.prog 24 #[.agg #[.int .i64 x.bits, .int .i64 x.rows, .int .i64 x.width, .int .i64 x.mode, .int .u64 x.seed, .int .i64 lv, v], .agg #[.int .i64 C.bits, .int .i64 C.rows, .int .i64 C.width, .int .i64 C.mode, .int .u64 C.seed], .int .i64 LV, .int .u64 key, .int .i64 r] w
      fun e w' => e = .returned (.int .i64 (othP C LV key r (cutP C LV (fus us 0 60)))) ∧ Ext w w' := by
  obtain ⟨vp, vc, rfl⟩ := hv.sl
  have HV := Lib.hid hv
  clear hv
  have h59 : LV ≤ 59 := by have := hok.b2; omega
  go_enter Try.func24, Try.ntmps24
  go_wp2_with fail
  refine Calls.mono (Columns_c C hok LV key lb1 lb2 h59 hk0 hk1 _) ?_
  rintro e w1 ⟨v1, rfl, ho1, hx1⟩
  have hP1 : PlayAt w1 w.heap.size x lv (.slice vp us.length vc) := ((PlayAt.box x lv _ 27 rfl).ext (Ext.alloc' _ _)).ext hx1
  have hC1 : CfgAt w1 (w.heap.size + 1) C := (CfgAt.box C 24 (by rw [size_alloc])).ext hx1
  have hE1 : Ext w w1 := by (repeat' (first | exact Ext.refl _ | assumption | apply Ext.allocR | apply Ext.drewR | apply Ext.drewNR | (refine Ext.trans' ?_ (by assumption))))
  obtain ⟨vg, vo, vcap, rfl, hvl, hvc⟩ := (IntsAt.of_row ho1).slice (by rw [cols_len]; omega)
  obtain ⟨R, hRR⟩ : ∃ R, C.rows.toNat = R := ⟨_, rfl⟩
  rw [cols_len, hRR] at hvc ⊢
  rw [hRR] at hr
  have hvr := hvc r hr
  generalize hcr : (cols C LV key).getD r 0 = cr at *
  have HCR := Lib.hid hcr
  have HRR := Lib.hid hRR
  clear hcr hRR hx1 ho1 hvc
  go_wp2_with fail
  go_loopw [11, 13] (fun u11 u13 wr => ∃ k : Nat, k ≤ 60 ∧ k ≤ us.length ∧ u11 = .int .i64 (othP C LV key r (cutP C LV (fus us 0 k))) ∧ u13 = .int .i64 k ∧ Ext w1 wr) (fun _ u13 _ => 60 - (intOf u13).toNat)
  case atStart => exact ⟨0, Nat.zero_le _, Nat.zero_le _, by rw [fus_self]; rfl, rfl, Ext.refl _⟩
  case round =>
    obtain ⟨k, hk60, hkl, rfl, rfl, hE⟩ := hrel
    have hP := hP1.ext hE
    have hC := hC1.ext hE
    have q6 := hP.c6
    have ql := hP.c.lt
    have l1 := hC.lt
    have hvr' := ((bcell hE).1 vg (vo + r) hvl).trans hvr
    have l5 : vg < wr.heap.size := Nat.lt_of_lt_of_le hvl hE.size
    obtain ⟨hsb1, hsb2⟩ := othP_bd key r C LV us hk60
    by_cases hgo : k < us.length ∧ k < 60
    · obtain ⟨hg1, hg2⟩ := hgo
      obtain ⟨ug, off, rfl, hul0, d0, d1⟩ := (UpsAt.ext HV.out (hE1.trans' hE)).one hg1
      have hu := hus _ (List.getElem_mem hg1)
      have hsn := othP_snoc key r C LV us hg1
      rw [HCR.out] at hsn
      have c0 := hC.c0
      have c1 := hC.c1
      have c2 := hC.c2
      have c3 := hC.c3
      have c4 := hC.c4
      generalize us[k] = uu at *
      obtain ⟨uk, ud⟩ := uu
      generalize othP C LV key r (cutP C LV (fus us 0 k)) = s at *
      have HSN := Lib.hid hsn
      clear hsn hP hC hP1 hC1 hvr
      go_upto_region 6 with (fail)
      go_cut [14] (fun s14 wx => ∃ bu : Nat, s14 = .pointer (some ⟨bu, 0, none⟩) ∧ wx.heap[bu]? = some (.cells #[.int .u64 (cutK C LV uk), .int .i64 (cutD C.mode ud)] 34 (0, 0)) ∧ Ext wr wx ∧ wr.heap.size ≤ bu)
      case first =>
        have hC0 := af_drew wr
        refine pi_start (fun w' => ∃ x : After wr, w' = x.w) [] (by kernel_rfl) ?_
        refine pi_c 0 (by assumption) rfl (by kernel_rfl) (by kernel_rfl) (fun _ _ _ _ h => h) (fun K hK => ?_)
        go_big_quiet_op
        refine hK _ ?_
        clear hK K
        refine pi_t 1 rfl (by kernel_rfl) (by kernel_rfl) (fun _ _ _ _ h => h) (fun K hK => ?_)
        go_big_quiet_op
        refine hK _ ?_
        clear hK K
        refine pi_t 2 rfl (by kernel_rfl) (by kernel_rfl) (fun _ _ _ _ h => h) (fun K hK => ?_)
        go_big_quiet_op
        refine hK _ ?_
        clear hK K
        refine pi_c 3 (by assumption) rfl (by kernel_rfl) (by kernel_rfl) (fun _ _ _ _ h => h) (fun K hK => ?_)
        go_big_quiet_op
        refine hK _ ?_
        clear hK K
        refine pi_t 4 rfl (by kernel_rfl) (by kernel_rfl) (fun _ _ _ _ h => h) (fun K hK => ?_)
        go_big_quiet_op
        refine hK _ ?_
        clear hK K
        refine pi_t 5 rfl (by kernel_rfl) (by kernel_rfl) (fun _ _ _ _ h => h) (fun K hK => ?_)
        go_big_quiet_op
        refine hK _ ?_
        clear hK K
        refine pi_c 6 (by assumption) rfl (by kernel_rfl) (by kernel_rfl) (fun _ _ _ _ h => h) (fun K hK => ?_)
        go_big_quiet_op
        refine hK _ ?_
        clear hK K
        refine pi_b 7 8 rfl rfl (by kernel_rfl) (fun K hK => ?_) (fun K hK => ?_)
        · go_wp2_with (go_at_call 19; refine (cut_c C hok LV lb1 lb2 uk ud hu.1 hu.2 _).mono ?_; rintro e w3 ⟨rfl, hx3⟩)
          have hx3' : Ext wr w3 := Ext.trans' (Below.drew (Ext.refl wr)) hx3
          have hs3 := hx3'.size
          refine hK _ _ (fun _ h => af_step h hx3) ?_
          clear hK K
          refine pi_l 8 rfl (by kernel_rfl) (fun K hK => ?_)
          go_wp2
          refine hK _ _ (fun _ h => af_step h (Ext.alloc' _ _)) ?_
          clear hK K
          refine pi_l 9 rfl (by kernel_rfl) (fun K hK => ?_)
          go_wp2
          refine hK _ _ (fun _ _ => ⟨⟨_, hx3'.allocR _⟩, rfl⟩) ?_
          clear hK K
          refine pi_end (by kernel_rfl) ?_
          go_wp2_with fail
          go_meet
          exact ⟨w3.heap.size, rfl, heap_at _ _ rfl, hx3'.allocR _, hs3⟩
        · go_wp2
          refine hK _ _ (fun _ h => af_step h (Ext.alloc' _ _)) ?_
          clear hK K
          refine pi_l 7 rfl (by kernel_rfl) (fun K hK => ?_)
          go_wp2_with (go_at_call 19; refine (cut_c C hok LV lb1 lb2 uk ud hu.1 hu.2 _).mono ?_; rintro e w3 ⟨rfl, hx3⟩)
          refine hK _ _ (fun _ h => af_step h hx3) ?_
          clear hK K
          have hs3 : (wr.alloc (.cells #[.int .u64 0, .int .i64 0] 34)).heap.size ≤ w3.heap.size := hx3.size
          rw [size_alloc] at hs3
          have hx3' : Ext wr w3 := Ext.trans' (Ext.alloc' wr _) (Ext.trans' (Below.drew (Ext.refl _)) hx3)
          have hbx : w3.heap[wr.heap.size]? = some (.cells #[.int .u64 0, .int .i64 0] 34 (0, 0)) := by
            rw [hx3.block _ (by show _ < (wr.alloc _).heap.size; rw [size_alloc]; exact Nat.lt_succ_self _)]
            exact heap_at wr _ rfl
          have p0 := (cell_of hbx 0).trans rfl
          have p1 := (cell_of hbx 1).trans rfl
          have f0 := frozen_of hbx 0
          have f1 := frozen_of hbx 1
          refine pi_l 9 rfl (by kernel_rfl) (fun K hK => ?_)
          go_wp2
          refine hK _ _ (fun _ _ => ⟨⟨_, (hx3'.setR (Nat.le_refl _) _).setR (Nat.le_refl _) _⟩, rfl⟩) ?_
          clear hK K
          refine pi_end (by kernel_rfl) ?_
          go_wp2_with fail
          go_meet
          exact ⟨wr.heap.size, rfl, set2 hbx _ _, (hx3'.setR (Nat.le_refl _) _).setR (Nat.le_refl _) _, Nat.le_refl _⟩
      case rest =>
        obtain ⟨bu, rfl, hbu, hxw, hbul⟩ := hcut
        have hdb := cutD_bd C.mode ud
        have hkb := cutK_bd C hok LV uk lb1
        have b1 := (cell_of hbu 1).trans rfl
        have b0 := (cell_of hbu 0).trans rfl
        have lb := lt_of hbu
        have hE' : Ext w1 wc := hE.trans' hxw
        have e0 := ((bcell hxw).1 _ _ l1).trans c0
        have e1 := ((bcell hxw).1 _ _ l1).trans c1
        have e2 := ((bcell hxw).1 _ _ l1).trans c2
        have e3 := ((bcell hxw).1 _ _ l1).trans c3
        have e4 := ((bcell hxw).1 _ _ l1).trans c4
        have f5 := ((bcell hxw).1 _ _ l5).trans hvr'
        have l6 : vg < wc.heap.size := Nat.lt_of_lt_of_le l5 hxw.size
        clear d0 d1 c0 c1 c2 c3 c4 q6 hE hvr' hxw
        generalize cutK C LV uk = kk at *
        generalize cutD C.mode ud = dd at *
        go_wp2_with fail
        refine Calls.mono (Columns_c C hok LV kk lb1 lb2 h59 hkb.1 hkb.2 _) ?_
        rintro e w4 ⟨v4, rfl, ho4, hx4⟩
        have hE4 : Ext wc w4 := by (repeat' (first | exact Ext.refl _ | assumption | apply Ext.allocR | apply Ext.drewR | apply Ext.drewNR | (refine Ext.trans' ?_ (by assumption))))
        obtain ⟨tg, tof, tcap, rfl, htl, htc⟩ := (IntsAt.of_row ho4).slice (by rw [cols_len, HRR.out]; omega)
        rw [cols_len, HRR.out] at htc ⊢
        have htr := htc r hr
        have b1' := ((bcell hE4).1 _ _ lb).trans b1
        have b0' := ((bcell hE4).1 _ _ lb).trans b0
        have f5' := ((bcell hE4).1 _ _ l6).trans f5
        have l7 : vg < w4.heap.size := Nat.lt_of_lt_of_le l6 hE4.size
        have l8 : bu < w4.heap.size := Nat.lt_of_lt_of_le lb hE4.size
        have hE5 : Ext w1 w4 := hE'.trans' hE4
        generalize (cols C LV kk).getD r 0 = ck at *
        clear htc ho4 hx4 b0 b1 f5 e0 e1 e2 e3 e4 hE' hE4
        by_cases hkk : kk = key
        · have g1 : (kk == key) = true := by simpa using hkk
          have g2 : (kk != key) = false := by simpa using hkk
          have hs' := HSN.out
          rw [g1] at hs'
          have HS := Lib.hid hs'
          clear hs' HSN hkk
          go_wp2_with fail
          refine wp_region_after (by kernel_rfl) (by kernel_rfl) ?_
          repeat (go_big_quiet_step (fail))
          refine wpQuiet_nil ?_
          rintro _ ⟨xx, rfl⟩
          obtain ⟨w5, hb5⟩ := xx
          try dsimp only
          go_wp2_with fail
          go_roundw
          case rel => exact ⟨k + 1, by omega, by omega, by rw [HS.out]; exact congrArg _ (Int.add_zero _).symm, by go_num, hE5.trans' hb5⟩
          case measure => simp [intOf]; omega
        · have g1 : (kk == key) = false := by simpa using hkk
          have g2 : (kk != key) = true := by simpa using hkk
          by_cases hcc : ck = cr
          · have g3 : (ck == cr) = true := by simpa using hcc
            have hs' := HSN.out
            rw [g1, g3] at hs'
            have HS := Lib.hid hs'
            clear hs' HSN hkk hcc
            go_wp2_with fail
            refine wp_region_after (by kernel_rfl) (by kernel_rfl) ?_
            repeat (go_big_quiet_step (fail))
            refine wpQuiet_nil ?_
            rintro _ ⟨xx, rfl⟩
            obtain ⟨w5, hb5⟩ := xx
            try dsimp only
            have b1'' := ((bcell hb5).1 _ _ l8).trans b1'
            go_wp2_with fail
            go_roundw
            case rel => exact ⟨k + 1, by omega, by omega, by rw [HS.out]; rfl, by go_num, hE5.trans' hb5⟩
            case measure => simp [intOf]; omega
          · have g3 : (ck == cr) = false := by simpa using hcc
            have hs' := HSN.out
            rw [g1, g3] at hs'
            have HS := Lib.hid hs'
            clear hs' HSN hkk hcc
            go_wp2_with fail
            refine wp_region_after (by kernel_rfl) (by kernel_rfl) ?_
            repeat (go_big_quiet_step (fail))
            refine wpQuiet_nil ?_
            rintro _ ⟨xx, rfl⟩
            obtain ⟨w5, hb5⟩ := xx
            try dsimp only
            go_wp2_with fail
            go_roundw
            case rel => exact ⟨k + 1, by omega, by omega, by rw [HS.out]; exact congrArg _ (Int.add_zero _).symm, by go_num, hE5.trans' hb5⟩
            case measure => simp [intOf]; omega
    · have hfe := fus_end us (i := 0) (j := 60) (k := k) (by omega) (by omega) (.inr ⟨hk60, hkl⟩) hgo
      rw [hfe]
      have hE2 := hE1.trans' hE
      go_wp2_with fail
      all_goals
        go_ret
        exact ⟨rfl, hE2⟩
end Go.Proofs.Ythancaehlijaoaa
