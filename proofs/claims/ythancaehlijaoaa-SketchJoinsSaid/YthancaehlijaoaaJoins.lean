/- gaugerlaw10.SketchJoins, walked. -/
import Derived.Test.YthancaehlijaoaaBoxes
import Derived.Test.YthancaehlijaoaaSums
import Derived.Test.YthancaehlijaoaaMerge
import Derived.Test.YthancaehlijaoaaJoinLaw
namespace Go.Proofs.Ythancaehlijaoaa
set_option linter.unusedVariables false
open Go.RowKit

set_option maxRecDepth 20000 in
set_option maxHeartbeats 8000000 in
theorem JoinsL_c (x : Cfg) (hx : x.Raw) (k0 : Int) (hk0 : I64 k0) (med : Bool) (lv : Int) (hlv : I64 lv) (us : List (Int × Int)) (hus : UpsOk us) (v : Value) (w : World) (hv : UpsAt w v us) (hul : us.length ≤ 140737488355328) :
    Calls Try.prog 14 #[.agg #[.int .i64 x.bits, .int .i64 x.rows, .int .i64 x.width, .int .i64 x.mode, .int .u64 x.seed, .int .i64 lv, v], .int .i64 k0, .bool med] w fun e w' => e = .returned (.bool true) ∧ Ext w w' := by
  obtain ⟨vp, vc, rfl⟩ := hv.sl
  have HV := Lib.hid hv
  have hm1 : 1 ≤ medM med := by cases med <;> decide
  have hm2 : medM med ≤ 3 := by cases med <;> decide
  have hm3 : medM med ≠ 2 := by cases med <;> decide
  clear hv
  go_enter Try.func14, Try.ntmps14
  go_wp2_with fail
  refine (shown_c _).mono ?_
  rintro e w1 ⟨rfl, hb1⟩
  have hE1 : Ext w w1 := by (repeat' (first | exact Ext.refl _ | assumption | apply Ext.allocR | apply Ext.drewR | apply Ext.drewNR | (refine Ext.trans' ?_ (by assumption))))
  have hP1 : PlayAt w1 w.heap.size x lv (.slice vp us.length vc) := (PlayAt.box x lv _ 27 rfl).ext hb1
  clear hb1
  go_upto_if 25 with (fail)
  go_cut [8] (fun s8 wx => s8 = .int .i64 (medM med) ∧ wx = w1)
  case first =>
    cases med
    · go_wp2_with fail
      go_meet
      exact ⟨rfl, rfl⟩
    · go_wp2_with fail
      go_meet
      exact ⟨rfl, rfl⟩
  case rest =>
    obtain ⟨rfl, rfl⟩ := hcut
    generalize hmm : medM med = m at *
    clear hmm
    obtain ⟨k, hk⟩ : ∃ k : Nat, k0 % 65536 % 61 = k := ⟨(k0 % 65536 % 61).toNat, (Int.toNat_of_nonneg (Int.emod_nonneg _ (by decide))).symm⟩
    have hk60 : k ≤ 60 := by have := Int.emod_lt_of_pos (k0 % 65536) (show (0 : Int) < 61 by decide); omega
    have hka := and16 k0
    have hkn := Int.emod_nonneg k0 (show (65536 : Int) ≠ 0 by decide)
    have HKK := Lib.hid hk
    clear hk
    go_upto_region 5 with (fail)
    go_cut [1] (fun s1 wx => s1 = .int .i64 (k : Int) ∧ wx = wc)
    case first =>
      go_wp2_with fail
      go_meet
      exact ⟨by rw [HKK.out], rfl⟩
    case rest =>
      obtain ⟨rfl, rfl⟩ := hcut
      clear hka hkn
      have hU1 := UpsAt.ext HV.out hE1
      have d0 := hP1.c.c0
      have d1 := hP1.c.c1
      have d2 := hP1.c.c2
      have d3 := hP1.c.c3
      have d4 := hP1.c.c4
      have d5 := hP1.c5
      have d6 := hP1.c6
      have dl := hP1.c.lt
      have HU1 := Lib.hid hU1
      have HP1 := Lib.hid hP1
      clear hU1 hP1
      go_wp2_with fail
      refine Calls.mono (fed_c x hx m hm1 hm2 lv hlv us hus _ 0 k (by omega) hk60 _ (HU1.out.ext ?hx) hul) ?_
      case hx => (repeat' (first | exact Ext.refl _ | assumption | apply Ext.allocR | apply Ext.drewR | apply Ext.drewNR | (refine Ext.trans' ?_ (by assumption))))
      rintro e w2 ⟨s, b, c, rfl, hS, hs, hb, hc, hx2⟩
      have hE2 : Ext wc w2 := by (repeat' (first | exact Ext.refl _ | assumption | apply Ext.allocR | apply Ext.drewR | apply Ext.drewNR | (refine Ext.trans' ?_ (by assumption))))
      have hP2 := HP1.out.ext hE2
      clear hx2 d0 d1 d2 d3 d4 d5 d6 dl
      have d0 := hP2.c.c0
      have d1 := hP2.c.c1
      have d2 := hP2.c.c2
      have d3 := hP2.c.c3
      have d4 := hP2.c.c4
      have d5 := hP2.c5
      have d6 := hP2.c6
      have dl := hP2.c.lt
      have hsz2 := hE2.size
      clear hP2
      go_wp2_with fail
      refine Calls.mono (fed_c x hx m hm1 hm2 lv hlv us hus _ k 60 hk60 (by omega) _ ((HU1.out.ext hE2).ext ?hx) hul) ?_
      case hx => (repeat' (first | exact Ext.refl _ | assumption | apply Ext.allocR | apply Ext.drewR | apply Ext.drewNR | (refine Ext.trans' ?_ (by assumption))))
      rintro e w3 ⟨s2, b2, c2, rfl, hS2, hs2, hb2, hc2, hx3⟩
      have hE3 : Ext w2 w3 := by (repeat' (first | exact Ext.refl _ | assumption | apply Ext.allocR | apply Ext.drewR | apply Ext.drewNR | (refine Ext.trans' ?_ (by assumption))))
      simp only [size_alloc] at hs2 hb2 hc2
      have hP3 := HP1.out.ext (hE2.trans' hE3)
      clear hx3 d0 d1 d2 d3 d4 d5 d6 dl
      have d0 := hP3.c.c0
      have d1 := hP3.c.c1
      have d2 := hP3.c.c2
      have d3 := hP3.c.c3
      have d4 := hP3.c.c4
      have d5 := hP3.c5
      have d6 := hP3.c6
      have dl := hP3.c.lt
      have hsz3 := hE3.size
      clear hP3
      go_wp2_with fail
      refine Calls.mono (fed_c x hx m hm1 hm2 lv hlv us hus _ 0 60 (by omega) (by omega) _ ((HU1.out.ext (hE2.trans' hE3)).ext ?hx) hul) ?_
      case hx => (repeat' (first | exact Ext.refl _ | assumption | apply Ext.allocR | apply Ext.drewR | apply Ext.drewNR | (refine Ext.trans' ?_ (by assumption))))
      rintro e w4 ⟨s3, b3, c3, rfl, hS3, hs3, hb3, hc3, hx4⟩
      have hE4 : Ext w3 w4 := by (repeat' (first | exact Ext.refl _ | assumption | apply Ext.allocR | apply Ext.drewR | apply Ext.drewNR | (refine Ext.trans' ?_ (by assumption))))
      simp only [size_alloc] at hs3 hb3 hc3
      have hok := fcfg_ok x hx.s hm1 hm2
      obtain ⟨lb1, lb2⟩ := flv_bd x lv m
      have hCm : (fcfg x m).mode = m := rfl
      generalize fcfg x m = C at *
      generalize flv x lv = LV at *
      generalize fR x = R at *
      generalize fW x = W at *
      subst hCm
      have hsz4 := hE4.size
      have hEw : Ext w w4 := hE1.trans' (hE2.trans' (hE3.trans' hE4))
      have hSA := hS.ext (hE3.trans' hE4)
      have hSB := hS2.ext hE4
      have hlt1 := hS.lts
      have hlt2 := hS.g.ltb
      have hlt3 := hS.g.ltc
      have hlt4 := hS2.lts
      have hlt5 := hS2.g.ltb
      have hlt6 := hS2.g.ltc
      have hsz1 := hE1.size
      clear hx4 d0 d1 d2 d3 d4 d5 d6 dl hS hS2 hE2 hE3 hE4 HP1 HU1
      have hR8 : R ≤ 8 := by have := hok.r2; rw [hSA.hr] at this; omega
      have hW128 : W ≤ 128 := by have := hok.w2; rw [hSA.hw] at this; omega
      have hN : R * W ≤ 1024 := Nat.le_trans (Nat.mul_le_mul hR8 hW128) (by decide)
      have hN1 : 1 ≤ R * W := by rw [← hSA.g.len]; have := hSA.g.len; have := Nat.mul_pos hSA.g.r1 hSA.g.w1; omega
      have hLp := feed_plus C hok LV R W hSA.hr hSA.hw hm3 (fus us 0 k) (fus us k 60)
      rw [fus_cat us hk60] at hLp
      have hf1 := feed_fit C LV R W (fus us 0 60) (Nat.le_trans (fus_len us 0 60) (by decide))
      have hf0 := feed_fit C LV R W (fus us 0 k) (Nat.le_trans (fus_len us 0 k) (by omega))
      have hLm : minusL (feed C LV R W (fus us 0 60) (zs (R * W))) (feed C LV R W (fus us k 60) (zs (R * W))) = feed C LV R W (fus us 0 k) (zs (R * W)) := by
        rw [← hLp]; exact minus_plus (by rw [feed_len, feed_len])
      have hl1 : (feed C LV R W (fus us 0 60) (zs (R * W))).length = R * W := by rw [feed_len, zs_len]
      have hl0 : (feed C LV R W (fus us 0 k) (zs (R * W))).length = R * W := by rw [feed_len, zs_len]
      generalize feed C LV R W (fus us 0 60) (zs (R * W)) = LA at *
      generalize feed C LV R W (fus us 0 k) (zs (R * W)) = L0 at *
      generalize feed C LV R W (fus us k 60) (zs (R * W)) = L1 at *
      generalize R * W = N at *
      have HLP := Lib.hid hLp
      have HLM := Lib.hid hLm
      have HL1 := Lib.hid hl1
      have HL0 := Lib.hid hl0
      have HSA := Lib.hid hSA
      have HSB := Lib.hid hSB
      have HS3 := Lib.hid hS3
      have HF0 := Lib.hid hf0
      have HF1 := Lib.hid hf1
      clear hLp hLm hl1 hl0 hSA hSB hS3 hf0 hf1
      go_wp2_with fail
      refine Calls.mono (SCells_c s b c C LV R W _ _ (HSA.out.ext ?hx)) ?_
      case hx => (repeat' (first | exact Ext.refl _ | assumption | apply Ext.allocR | apply Ext.drewR | apply Ext.drewNR | (refine Ext.trans' ?_ (by assumption))))
      rintro e w5 ⟨v5, rfl, ho5, _, hx5⟩
      have hE5 : Ext w4 w5 := by (repeat' (first | exact Ext.refl _ | assumption | apply Ext.allocR | apply Ext.drewR | apply Ext.drewNR | (refine Ext.trans' ?_ (by assumption))))
      have hn5 := own_ne ho5 (c := c) (by simp only [size_alloc]; omega)
      have hi5 := IntsAt.of_row ho5
      obtain ⟨vg, vo, vcap, rfl, _, _⟩ := hi5.slice (by rw [HL0.out]; omega)
      rw [HL0.out] at hi5 hn5 ⊢
      have hsz5 := hE5.size
      have HI5 := Lib.hid hi5
      have HN5 := Lib.hid hn5
      clear hi5 hn5 ho5 hx5
      go_wp2_with fail
      refine Calls.mono (SMerge_c s b c s2 b2 c2 C LV R W L0 L1 w5 (HSA.out.ext hE5) (HSB.out.ext hE5)) ?_
      intro e w6 hr
      rcases hr with ⟨ha, rfl, hS6, hM6⟩ | ⟨ha, _⟩
      rotate_left
      · exact absurd (HLP.out ▸ HF1.out) ha
      · rw [HLP.out] at hS6
        clear ha
        have hT6 := (HSB.out.ext hE5).mod hM6 (by omega) (by omega) (by omega)
        have hA6 := (HS3.out.ext hE5).mod hM6 (by omega) (by omega) (by omega)
        have hI6 := HI5.out.mod hM6 HN5.out
        have HS6 := Lib.hid hS6
        have HT6 := Lib.hid hT6
        have HA6 := Lib.hid hA6
        have HI6 := Lib.hid hI6
        have hEw6 : Ext w w6 := Below.trans (hEw.trans' hE5) (hM6.below (B := w.heap.size) (by omega) (fun i hi => by omega))
        have hsz6 := hM6.size
        clear hS6 hT6 hA6 hI6 hM6 hE5
        go_wp2_with fail
        refine Calls.mono (SCells_c s b c C LV R W _ _ (HS6.out.ext ?hx)) ?_
        case hx => (repeat' (first | exact Ext.refl _ | assumption | apply Ext.allocR | apply Ext.drewR | apply Ext.drewNR | (refine Ext.trans' ?_ (by assumption))))
        rintro e w7 ⟨v7, rfl, ho7, _, hx7⟩
        have hE7 : Ext w6 w7 := by (repeat' (first | exact Ext.refl _ | assumption | apply Ext.allocR | apply Ext.drewR | apply Ext.drewNR | (refine Ext.trans' ?_ (by assumption))))
        have HI7 := Lib.hid (IntsAt.of_row ho7)
        clear ho7 hx7
        go_wp2_with fail
        refine Calls.mono (SCells_c s3 b3 c3 C LV R W _ _ ((HA6.out.ext hE7).ext ?hx)) ?_
        case hx => (repeat' (first | exact Ext.refl _ | assumption | apply Ext.allocR | apply Ext.drewR | apply Ext.drewNR | (refine Ext.trans' ?_ (by assumption))))
        rintro e w8 ⟨v8, rfl, ho8, _, hx8⟩
        have hE8 : Ext w7 w8 := by (repeat' (first | exact Ext.refl _ | assumption | apply Ext.allocR | apply Ext.drewR | apply Ext.drewNR | (refine Ext.trans' ?_ (by assumption))))
        have HI8 := Lib.hid (IntsAt.of_row ho8)
        clear ho8 hx8
        go_wp2_with fail
        refine Calls.mono (Same_c _ _ _ _ _ ((HI7.out.ext hE8).ext ?hx) (HI8.out.ext ?hy) (by rw [HL1.out]; omega) (by rw [HL1.out]; omega)) ?_
        case hx => (repeat' (first | exact Ext.refl _ | assumption | apply Ext.allocR | apply Ext.drewR | apply Ext.drewNR | (refine Ext.trans' ?_ (by assumption))))
        case hy => (repeat' (first | exact Ext.refl _ | assumption | apply Ext.allocR | apply Ext.drewR | apply Ext.drewNR | (refine Ext.trans' ?_ (by assumption))))
        rintro e w9 ⟨rfl, hx9⟩
        have hE9 : Ext w6 w9 := (hE7.trans' hE8).trans' (by (repeat' (first | exact Ext.refl _ | assumption | apply Ext.allocR | apply Ext.drewR | apply Ext.drewNR | (refine Ext.trans' ?_ (by assumption)))))
        rw [decide_eq_true rfl]
        clear hx9 hE7 hE8 HI7 HI8
        have hsz9 := hE9.size
        go_wp2_with fail
        refine Calls.mono (SSubtract_c s b c s2 b2 c2 C LV R W LA L1 _ ((HS6.out.ext hE9).ext ?hx) ((HT6.out.ext hE9).ext ?hy) hm3) ?_
        case hx => (repeat' (first | exact Ext.refl _ | assumption | apply Ext.allocR | apply Ext.drewR | apply Ext.drewNR | (refine Ext.trans' ?_ (by assumption))))
        case hy => (repeat' (first | exact Ext.refl _ | assumption | apply Ext.allocR | apply Ext.drewR | apply Ext.drewNR | (refine Ext.trans' ?_ (by assumption))))
        intro e w10 hr
        rcases hr with ⟨ha, rfl, hS10, hM10⟩ | ⟨ha, _⟩
        rotate_left
        · exact absurd (HLM.out ▸ HF0.out) ha
        · rw [HLM.out] at hS10
          clear ha
          have hEw10 : Ext w w10 := Below.trans (hEw6.trans' hE9) (hM10.below (B := w.heap.size) (by omega) (fun i hi => by omega))
          have hI10 := (HI6.out.ext hE9).mod hM10 HN5.out
          have HS10 := Lib.hid hS10
          have HI10 := Lib.hid hI10
          have hsz10 := hM10.size
          clear hS10 hI10 hM10 hE9
          go_wp2_with fail
          refine Calls.mono (SCells_c s b c C LV R W _ _ (HS10.out.ext ?hx)) ?_
          case hx => (repeat' (first | exact Ext.refl _ | assumption | apply Ext.allocR | apply Ext.drewR | apply Ext.drewNR | (refine Ext.trans' ?_ (by assumption))))
          rintro e w11 ⟨v11, rfl, ho11, _, hx11⟩
          have hE11 : Ext w10 w11 := by (repeat' (first | exact Ext.refl _ | assumption | apply Ext.allocR | apply Ext.drewR | apply Ext.drewNR | (refine Ext.trans' ?_ (by assumption))))
          have HI11 := Lib.hid (IntsAt.of_row ho11)
          clear ho11 hx11
          go_wp2_with fail
          refine Calls.mono (Same_c _ _ _ _ _ (HI11.out.ext ?hx) ((HI10.out.ext hE11).ext ?hy) (by rw [HL0.out]; omega) (by rw [HL0.out]; omega)) ?_
          case hx => (repeat' (first | exact Ext.refl _ | assumption | apply Ext.allocR | apply Ext.drewR | apply Ext.drewNR | (refine Ext.trans' ?_ (by assumption))))
          case hy => (repeat' (first | exact Ext.refl _ | assumption | apply Ext.allocR | apply Ext.drewR | apply Ext.drewNR | (refine Ext.trans' ?_ (by assumption))))
          rintro e w12 ⟨rfl, hx12⟩
          have hE12 : Ext w10 w12 := hE11.trans' (by (repeat' (first | exact Ext.refl _ | assumption | apply Ext.allocR | apply Ext.drewR | apply Ext.drewNR | (refine Ext.trans' ?_ (by assumption)))))
          rw [decide_eq_true rfl]
          clear hx12 hE11 HI11
          have hsz12 := hE12.size
          have hms := minus_self L0
          rw [HL0.out] at hms
          have HMS := Lib.hid hms
          clear hms
          go_wp2_with fail
          refine Calls.mono (SSubtract_c s b c s b c C LV R W L0 L0 _ ((HS10.out.ext hE12).ext ?hx) ((HS10.out.ext hE12).ext ?hy) hm3) ?_
          case hx => (repeat' (first | exact Ext.refl _ | assumption | apply Ext.allocR | apply Ext.drewR | apply Ext.drewNR | (refine Ext.trans' ?_ (by assumption))))
          case hy => (repeat' (first | exact Ext.refl _ | assumption | apply Ext.allocR | apply Ext.drewR | apply Ext.drewNR | (refine Ext.trans' ?_ (by assumption))))
          intro e w13 hr
          rcases hr with ⟨ha, rfl, hS13, hM13⟩ | ⟨ha, _⟩
          rotate_left
          · exact absurd (HMS.out ▸ zs_fit N) ha
          · rw [HMS.out] at hS13
            clear ha
            have hEw13 : Ext w w13 := Below.trans (hEw10.trans' hE12) (hM13.below (B := w.heap.size) (by omega) (fun i hi => by omega))
            have HS13 := Lib.hid hS13
            clear hS13 hM13 hE12
            go_wp2_with fail
            refine Calls.mono (SCells_c s b c C LV R W _ _ (HS13.out.ext ?hx)) ?_
            case hx => (repeat' (first | exact Ext.refl _ | assumption | apply Ext.allocR | apply Ext.drewR | apply Ext.drewNR | (refine Ext.trans' ?_ (by assumption))))
            rintro e w14 ⟨v14, rfl, ho14, _, hx14⟩
            have hE14 : Ext w w14 := by (repeat' (first | exact Ext.refl _ | assumption | apply Ext.allocR | apply Ext.drewR | apply Ext.drewNR | (refine Ext.trans' ?_ (by assumption))))
            obtain ⟨zg, zo, zcap, rfl, hzl, hzc⟩ := (IntsAt.of_row ho14).slice (by rw [zs_len]; omega)
            rw [zs_len] at hzc ⊢
            have HZC := Lib.hid hzc
            clear hzc ho14 hx14
            go_wp2_with fail
            go_loop [23] (fun u => ∃ j : Nat, j ≤ N ∧ u = .int .i64 j) (fun u => N - (intOf u).toNat)
            case atStart => exact ⟨0, Nat.zero_le _, rfl⟩
            case round =>
              obtain ⟨j, hj, rfl⟩ := hrel
              by_cases hgo : j < N
              · have hz : w14.cell? ⟨zg, zo + j, none⟩ = some (.int .i64 0) := by rw [HZC.out j hgo]; simp [zs, hgo]
                go_wp2_with fail
                go_round
                case rel => exact ⟨j + 1, by omega, by go_num⟩
                case measure => simp [intOf]; omega
              · go_wp2_with fail
                go_ret
                exact ⟨rfl, hE14⟩
end Go.Proofs.Ythancaehlijaoaa
