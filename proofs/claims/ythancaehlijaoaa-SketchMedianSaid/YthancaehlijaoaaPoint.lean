/- gaugerlaw10.SketchPoint, walked. -/
import Derived.Test.YthancaehlijaoaaHas
import Derived.Test.YthancaehlijaoaaPointLaw
namespace Go.Proofs.Ythancaehlijaoaa
set_option linter.unusedVariables false
open Go.RowKit

theorem othP_bd60 (key : Int) (r : Nat) (C : Cfg) (LV : Int) (us : List (Int × Int)) : -65970697666560 ≤ othP C LV key r (cutP C LV (fus us 0 60)) ∧ othP C LV key r (cutP C LV (fus us 0 60)) ≤ 65970697666560 := othP_bd key r C LV us (Nat.le_refl _)
set_option maxRecDepth 20000 in
set_option maxHeartbeats 4000000 in
theorem PointL_c (x : Cfg) (hx : x.Raw) (key : Int) (hkey : U64 key) (lv : Int) (hlv : I64 lv) (us : List (Int × Int)) (hus : UpsOk us) (v : Value) (w : World) (hv : UpsAt w v us) (hul : us.length ≤ 140737488355328) :
    Calls Try.prog 4 #[.agg #[.int .i64 x.bits, .int .i64 x.rows, .int .i64 x.width, .int .i64 x.mode, .int .u64 x.seed, .int .i64 lv, v], .int .u64 key] w fun e w' => e = .returned (.bool true) ∧ Ext w w' := by
  obtain ⟨vp, vc, rfl⟩ := hv.sl
  have HV := Lib.hid hv
  clear hv
  go_enter Try.func4, Try.ntmps4
  go_wp2_with fail
  refine (shown_c _).mono ?_
  rintro e w1 ⟨rfl, hb1⟩
  have hE1 : Ext w w1 := by (repeat' (first | exact Ext.refl _ | assumption | apply Ext.allocR | apply Ext.drewR | apply Ext.drewNR | (refine Ext.trans' ?_ (by assumption))))
  have hP1 : PlayAt w1 w.heap.size x lv (.slice vp us.length vc) := (PlayAt.box x lv _ 27 rfl).ext hb1
  clear hb1
  have d0 := hP1.c.c0
  have d1 := hP1.c.c1
  have d2 := hP1.c.c2
  have d3 := hP1.c.c3
  have d4 := hP1.c.c4
  have d5 := hP1.c5
  have d6 := hP1.c6
  have dl := hP1.c.lt
  go_wp2_with fail
  refine Calls.mono (fed_c x hx 1 (by decide) (by decide) lv hlv us hus _ 0 60 (by omega) (by omega) _ ((UpsAt.ext HV.out hE1).ext ?hx) hul) ?_
  case hx => (repeat' (first | exact Ext.refl _ | assumption | apply Ext.allocR | apply Ext.drewR | apply Ext.drewNR | (refine Ext.trans' ?_ (by assumption))))
  rintro e w2 ⟨s, b, c, rfl, hS, hs, hb, hc, hx2⟩
  have hok := fcfg_ok x hx.s (m := 1) (by decide) (by decide)
  obtain ⟨lb1, lb2⟩ := flv_bd x lv 1
  have hCm : (fcfg x 1).mode = 1 := rfl
  generalize fcfg x 1 = C at *
  have HCM := Lib.hid hCm
  clear hCm
  generalize flv x lv = LV at *
  generalize fR x = R at *
  generalize fW x = W at *
  have hE2 : Ext w w2 := by (repeat' (first | exact Ext.refl _ | assumption | apply Ext.allocR | apply Ext.drewR | apply Ext.drewNR | (refine Ext.trans' ?_ (by assumption))))
  have hP2 : PlayAt w2 w.heap.size x lv (.slice vp us.length vc) := hP1.ext (by (repeat' (first | exact Ext.refl _ | assumption | apply Ext.allocR | apply Ext.drewR | apply Ext.drewNR | (refine Ext.trans' ?_ (by assumption)))))
  clear hx2 hP1 d0 d1 d2 d3 d4 d5 d6 dl
  have hC3 : CfgAt (w2.alloc (.cells #[.int .i64 C.bits, .int .i64 C.rows, .int .i64 C.width, .int .i64 C.mode, .int .u64 C.seed] 24)) w2.heap.size C := CfgAt.box C _ rfl
  have hEB : Ext w2 (w2.alloc (.cells #[.int .i64 C.bits, .int .i64 C.rows, .int .i64 C.width, .int .i64 C.mode, .int .u64 C.seed] 24)) := Ext.alloc' _ _
  have hkb := keys_bd C hok LV lb1
  have hkn : keys C LV ≠ 0 := by omega
  go_wp2_with fail
  generalize w2.alloc (.cells #[.int .i64 C.bits, .int .i64 C.rows, .int .i64 C.width, .int .i64 C.mode, .int .u64 C.seed] 24) = wB at *
  have hSB := hS.ext hEB
  have hPB := hP2.ext hEB
  have hEwB : Ext w wB := hE2.trans' hEB
  refine Calls.mono (KeysR_c C hok LV lb1 lb2 _) ?_
  rintro e w3 ⟨rfl, hx3⟩
  have hE3 : Ext wB w3 := by (repeat' (first | exact Ext.refl _ | assumption | apply Ext.allocR | apply Ext.drewR | apply Ext.drewNR | (refine Ext.trans' ?_ (by assumption))))
  clear hx3 hP2 hS hEB
  have q1 := (hPB.ext hE3).c6
  have ql := (hPB.ext hE3).c.lt
  have hKK : keys C LV = keys C LV := rfl
  generalize hKN : keys C LV = KK at *
  have HKN := Lib.hid hKN
  clear hKK hKN
  have hq0 : 0 ≤ key % KK := Int.emod_nonneg _ hkn
  have hq1 : key % KK < KK := Int.emod_lt_of_pos _ (by omega)
  have hkk1 := hkey.1
  have hkk2 := hkey.2
  go_upto_region 6 with (fail)
  generalize key % KK = kq at *
  go_cut [38] (fun s38 wx => ∃ bb : Bool, s38 = .bool bb ∧ (bb = true → 0 < us.length) ∧ wx = w3)
  case first =>
    by_cases hlen : 0 < us.length
    · by_cases hev : kq % 2 = 0
      · have hev' : (kq % 2 == 0) = true := by simpa using hev
        clear hev
        go_wp2_with fail
        go_meet
        exact ⟨_, rfl, fun _ => hlen, rfl⟩
      · have hev' : (kq % 2 == 0) = false := by simpa using hev
        clear hev
        go_wp2_with fail
        go_meet
        exact ⟨_, rfl, fun _ => hlen, rfl⟩
    · go_wp2_with fail
      go_meet
      exact ⟨false, rfl, (by simp), rfl⟩
  case rest =>
    obtain ⟨bb, rfl, hbb, rfl⟩ := hcut
    go_upto_if 38 with (fail)
    go_cut [1] (fun s1 wx => ∃ kk : Int, 0 ≤ kk ∧ kk < KK ∧ s1 = .int .u64 kk ∧ Ext wB wx)
    case first =>
      cases bb
      · go_wp2_with fail
        go_meet
        exact ⟨kq, hq0, hq1, rfl, hE3⟩
      · have hlen := hbb rfl
        obtain ⟨ug, off, rfl, hul0, d0, d1⟩ := (UpsAt.ext HV.out (hEwB.trans' hE3)).one hlen
        have hC3' := hC3.ext hE3
        have c0 := hC3'.c0
        have c1 := hC3'.c1
        have c2 := hC3'.c2
        have c3 := hC3'.c3
        have c4 := hC3'.c4
        have cl := hC3'.lt
        have hu := hus _ (List.getElem_mem hlen)
        generalize us[0] = uu at *
        obtain ⟨uk, ud⟩ := uu
        have hr0 : 0 ≤ uk % KK := Int.emod_nonneg _ hkn
        have hr1 : uk % KK < KK := Int.emod_lt_of_pos _ (by omega)
        obtain ⟨hu1, hu2⟩ := hu.1
        have kz : (KK == 0) = false := by simpa using hkn
        rw [Nat.zero_mul, Nat.add_zero] at d0
        clear hC3' hu hbb
        go_wp2_with fail
        refine wp_region_after (by kernel_rfl) (by kernel_rfl) ?_
        repeat (go_big_quiet_step ((go_at_call 23; exact quiet_after (HKN.out ▸ KeysR_c C hok LV lb1 lb2 _))))
        refine wpQuiet_nil ?_
        rintro _ ⟨xx, rfl⟩
        obtain ⟨w4, hb4⟩ := xx
        try dsimp only
        go_wp2_with fail
        go_meet
        exact ⟨uk % KK, hr0, hr1, rfl, hE3.trans' hb4⟩
    case rest =>
      obtain ⟨kk, hkk0, hkk3, rfl, hEc⟩ := hcut
      have hkk4 : kk < keys C LV := by rw [HKN.out]; exact hkk3
      have HR := Lib.hid hSB.hr
      have HW := Lib.hid hSB.hw
      have hR1 : 1 ≤ R := by have := hok.r1; rw [HR.out] at this; omega
      have hR8 : R ≤ 8 := by have := hok.r2; rw [HR.out] at this; omega
      have hRn : C.rows.toNat = R := by have := HR.out; omega
      have HRN := Lib.hid hRn
      have HPB := Lib.hid hPB
      have HC3 := Lib.hid hC3
      have HSB := Lib.hid hSB
      have HPS : Hid (∃ P, P = cutP C LV (fus us 0 60)) := Lib.hid ⟨_, rfl⟩
      obtain ⟨PS, hPS⟩ := HPS.out
      have HPS := Lib.hid hPS
      have hm2 : C.mode ≠ 2 := by rw [HCM.out]; decide
      have hm3 : C.mode ≠ 3 := by rw [HCM.out]; decide
      clear hRn hPB hC3 hSB hPS q1 ql hE3 hq0 hq1 hkn hkk1 hkk2 hbb hE1 hE2
      have hPc := HPB.out.ext hEc
      have hCc := HC3.out.ext hEc
      have q0 := hPc.c.c0
      have q1 := hPc.c.c1
      have q2 := hPc.c.c2
      have q3 := hPc.c.c3
      have q4 := hPc.c.c4
      have q5 := hPc.c5
      have q6 := hPc.c6
      have ql := hPc.c.lt
      have c0 := hCc.c0
      have c1 := hCc.c1
      have c2 := hCc.c2
      have c3 := hCc.c3
      have c4 := hCc.c4
      have cl := hCc.lt
      have hUB := UpsAt.ext HV.out hEwB
      have HUB := Lib.hid hUB
      clear hUB hPc hCc
      go_wp2_with fail
      refine Calls.mono (others_c x lv us hus _ C hok LV lb1 lb2 kk hkk0 hkk4 0 (by rw [HRN.out]; omega) _ (HUB.out.ext hEc) hul) ?_
      rintro e w5 ⟨rfl, hx5⟩
      rw [← HPS.out]
      have hE5 : Ext wB w5 := hEc.trans' hx5
      clear hx5 q0 q1 q2 q3 q4 q5 q6 ql c0 c1 c2 c3 c4 cl hEc
      go_wp2_with fail
      go_loopw [9, 11] (fun u9 u11 wr => ∃ k : Nat, k ≤ R ∧ u9 = .int .i64 (leastF (fun r => othP C LV kk r PS) k) ∧ u11 = .int .i64 k ∧ Ext wB wr) (fun _ u11 _ => R - (intOf u11).toNat)
      case atStart => exact ⟨0, Nat.zero_le _, rfl, rfl, hE5⟩
      case round =>
        obtain ⟨k, hkR, rfl, rfl, hE⟩ := hrel
        have hPc := HPB.out.ext hE
        have hCc := HC3.out.ext hE
        have q6 := hPc.c6
        have ql := hPc.c.lt
        have c0 := hCc.c0
        have c1 := hCc.c1
        have c2 := hCc.c2
        have c3 := hCc.c3
        have c4 := hCc.c4
        have cl := hCc.lt
        by_cases hgo : k < R
        · have q0 := hPc.c.c0
          have q1 := hPc.c.c1
          have q2 := hPc.c.c2
          have q3 := hPc.c.c3
          have q4 := hPc.c.c4
          have q5 := hPc.c5
          have g : decide ((k : Int) < C.rows) = true := by have := HR.out; simp; omega
          have hls := leastF_succ (fun r => othP C LV kk r PS) k
          generalize leastF (fun r => othP C LV kk r PS) k = m at *
          generalize hm' : leastF (fun r => othP C LV kk r PS) (k + 1) = m' at *
          have HM' := Lib.hid hm'
          generalize hy : othP C LV kk k PS = y at *
          have HY := Lib.hid hy
          clear hm' hy hPc hCc
          by_cases hyl : y < m
          · have hme : m' = y := by omega
            have HME := Lib.hid hme
            clear hme hls
            go_wp2_with fail
            refine Calls.mono (others_c x lv us hus _ C hok LV lb1 lb2 kk hkk0 hkk4 k (by rw [HRN.out]; omega) _ (HUB.out.ext hE) hul) ?_
            rintro e w6 ⟨rfl, hx6⟩
            rw [← HPS.out, HY.out]
            have hE6 : Ext wB w6 := hE.trans' hx6
            go_wp2_with fail
            go_roundw
            case rel => exact ⟨k + 1, by omega, by rw [HM'.out, HME.out], by go_num, hE6⟩
            case measure => simp [intOf]; omega
          · have hme : m' = m := by omega
            have HME := Lib.hid hme
            clear hme hls
            go_wp2_with fail
            refine Calls.mono (others_c x lv us hus _ C hok LV lb1 lb2 kk hkk0 hkk4 k (by rw [HRN.out]; omega) _ (HUB.out.ext hE) hul) ?_
            rintro e w6 ⟨rfl, hx6⟩
            rw [← HPS.out, HY.out]
            have hE6 : Ext wB w6 := hE.trans' hx6
            go_wp2_with fail
            go_roundw
            case rel => exact ⟨k + 1, by omega, by rw [HM'.out, HME.out], by go_num, hE6⟩
            case measure => simp [intOf]; omega
        · have g : decide ((R : Int) < C.rows) = false := by have := HR.out; simp; omega
          have hkR' : k = R := by omega
          rw [hkR']
          clear hPc hCc hkR' hgo
          go_wp2_with fail
          go_loopw [10, 12] (fun u10 u12 wr => ∃ k : Nat, k ≤ 60 ∧ k ≤ us.length ∧ u10 = .bool (plainK C LV us PS k) ∧ u12 = .int .i64 k ∧ Ext wB wr) (fun _ u12 _ => 60 - (intOf u12).toNat)
          case atStart => exact ⟨0, Nat.zero_le _, Nat.zero_le _, rfl, rfl, hE⟩
          case round =>
            clear hE q6 ql c0 c1 c2 c3 c4 cl g
            obtain ⟨k, hk60, hkl, rfl, rfl, hE⟩ := hrel
            have hPc := HPB.out.ext hE
            have hCc := HC3.out.ext hE
            have q6 := hPc.c6
            have ql := hPc.c.lt
            have c0 := hCc.c0
            have c1 := hCc.c1
            have c2 := hCc.c2
            have c3 := hCc.c3
            have c4 := hCc.c4
            have cl := hCc.lt
            have q0 := hPc.c.c0
            have q1 := hPc.c.c1
            have q2 := hPc.c.c2
            have q3 := hPc.c.c3
            have q4 := hPc.c.c4
            have q5 := hPc.c5
            clear hPc hCc
            by_cases hgo : k < us.length ∧ k < 60
            · obtain ⟨hg1, hg2⟩ := hgo
              have hUr := HUB.out.ext hE
              obtain ⟨ug, off, rfl, hul0, d0, d1⟩ := hUr.one hg1
              have hu := hus _ (List.getElem_mem hg1)
              have hps := plainK_succ C LV us PS hg1
              generalize us[k] = uu at *
              obtain ⟨uk, ud⟩ := uu
              generalize hpk : plainK C LV us PS k = pk at *
              cases pk
              · have HPN := Lib.hid hps
                clear hps hpk
                go_wp2_with fail
                refine wp_region_after (by kernel_rfl) (by kernel_rfl) ?_
                repeat (go_big_quiet_step (fail))
                refine wpQuiet_nil ?_
                rintro _ ⟨xx, rfl⟩
                obtain ⟨w6, hb6⟩ := xx
                try dsimp only
                go_wp2_with fail
                go_roundw
                case rel => exact ⟨k + 1, by omega, by omega, by rw [HPN.out]; rfl, by go_num, hE.trans' hb6⟩
                case measure => simp [intOf]; omega
              · have HPN := Lib.hid hps
                clear hps hpk
                have HKC : Hid (∃ KC, KC = cutK C LV uk) := Lib.hid ⟨_, rfl⟩
                obtain ⟨KC, hKC⟩ := HKC.out
                rw [← hKC] at HPN
                have HKC := Lib.hid hKC
                clear hKC
                have hfd : ∀ w : World, (Instr.field 34 (.agg #[.int .u64 KC, .int .i64 (cutD C.mode ud)]) 0).run Try.prog w = .ok (.int .u64 KC) w := fun _ => by kernel_rfl
                have HUR := Lib.hid hUr
                clear hUr
                go_wp2_with fail
                refine wp_region_after (by kernel_rfl) (by kernel_rfl) ?_
                repeat (go_big_quiet_step ((first | (go_at_call 19; exact quiet_after (HKC.out ▸ cut_c C hok LV lb1 lb2 uk ud hu.1 hu.2 _)) | (go_at_call 25; exact quiet_after (HPS.out ▸ has_c x lv us hus _ C hok LV lb1 lb2 _ _ (UpsAt.ext HUR.out (After.h _)) hul)))))
                refine wpQuiet_nil ?_
                rintro _ ⟨xx, rfl⟩
                obtain ⟨w6, hb6⟩ := xx
                try dsimp only
                go_wp2_with fail
                go_roundw
                case rel => exact ⟨k + 1, by omega, by omega, by rw [HPN.out]; rfl, by go_num, hE.trans' hb6⟩
                case measure => simp [intOf]; omega
            · have hpe := plainK_end C LV us PS hk60 hkl hgo
              rw [hpe]
              have hSr := HSB.out.ext hE
              have HSR := Lib.hid hSr
              have hnn := least_nn (C := C) (LV := LV) (key := kk) (us := us) (R := R) hR1
              rw [← HPS.out] at hnn
              have HNN := Lib.hid hnn
              clear hpe hSr hnn q0 q1 q2 q3 q4 q5 ql c0 c1 c2 c3 c4 cl
              go_wp2_with fail
              all_goals
                refine Calls.mono (Point_c s b c C LV R W _ kk _ (HSR.out.ext ?hx) hkk0 hkk4) ?_
                case hx => (repeat' (first | exact Ext.refl _ | assumption | apply Ext.allocR | apply Ext.drewR | apply Ext.drewNR | (refine Ext.trans' ?_ (by assumption))))
                rintro e w7 ⟨n, rfl, hp, hx7⟩
                rw [read_cell C hok LV R W HR.out HW.out hm2, if_neg hm3, ← HPS.out] at hp
                have hn := least_of hp
                have hE7 : Ext wB w7 := by (repeat' (first | exact Ext.refl _ | assumption | apply Ext.allocR | apply Ext.drewR | apply Ext.drewNR | (refine Ext.trans' ?_ (by assumption))))
                have hPc := HPB.out.ext hE7
                have hCc := HC3.out.ext hE7
                have q6 := hPc.c6
                have ql := hPc.c.lt
                have c0 := hCc.c0
                have c1 := hCc.c1
                have c2 := hCc.c2
                have c3 := hCc.c3
                have c4 := hCc.c4
                have cl := hCc.lt
                have q0 := hPc.c.c0
                have q1 := hPc.c.c1
                have q2 := hPc.c.c2
                have q3 := hPc.c.c3
                have q4 := hPc.c.c4
                have q5 := hPc.c5
                have HN := Lib.hid hn
                clear hn hp hx7 hPc hCc
                go_wp2_with fail
                refine Calls.mono (has_c x lv us hus _ C hok LV lb1 lb2 kk _ (HUB.out.ext (by (repeat' (first | exact Ext.refl _ | assumption | apply Ext.allocR | apply Ext.drewR | apply Ext.drewNR | (refine Ext.trans' ?_ (by assumption)))))) hul) ?_
                rintro e w8 ⟨rfl, hx8⟩
                have hob := hasP_bd kk C LV us (Nat.le_refl 60)
                have hlb := leastF_bd (fun r => othP C LV kk r (cutP C LV (fus us 0 60))) 65970697666560 (fun r => othP_bd60 kk r C LV us) R
                rw [← HPS.out] at hob hlb ⊢
                have hE8 : Ext w w8 := hEwB.trans' (hE7.trans' (by (repeat' (first | exact Ext.refl _ | assumption | apply Ext.allocR | apply Ext.drewR | apply Ext.drewNR | (refine Ext.trans' ?_ (by assumption))))))
                generalize hasP kk PS = own' at *
                generalize leastF (fun r => othP C LV kk r PS) R = L at *
                generalize plainK C LV us PS 60 = pf at *
                obtain ⟨ob1, ob2⟩ := hob
                obtain ⟨lb3, lb4⟩ := hlb
                have hn := HN.out
                subst hn
                clear HN q0 q1 q2 q3 q4 q5 q6 ql c0 c1 c2 c3 c4 cl hx8
                cases pf
                · go_wp2
                  go_ret
                  exact ⟨rfl, hE8⟩
                · have hL0 : 0 ≤ L := HNN.out rfl
                  have hL : decide (own' ≤ own' + L) = true := by simp only [decide_eq_true_eq]; omega
                  go_wp2
                  go_ret
                  exact ⟨rfl, hE8⟩
end Go.Proofs.Ythancaehlijaoaa
