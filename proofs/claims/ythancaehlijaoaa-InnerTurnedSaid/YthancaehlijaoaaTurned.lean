/- gaugerlaw11.InnerTurned, walked. -/
import Derived.Test.YthancaehlijaoaaTwo
import Derived.Test.YthancaehlijaoaaIUnlike
namespace Go.Proofs.Ythancaehlijaoaa
set_option linter.unusedVariables false
open Go.RowKit

set_option maxRecDepth 20000 in
set_option maxHeartbeats 8000000 in
theorem TurnedL_c (x : Cfg) (hx : x.Raw) (lv : Int) (hlv : I64 lv) (us : List (Int × Int)) (hus : UpsOk us) (v : Value) (ms : List (Int × Int)) (hms : UpsOk ms) (v' : Value) (w : World) (hv : UpsAt w v us) (hul : us.length ≤ 140737488355328) (hv' : UpsAt w v' ms) (hml : ms.length ≤ 140737488355328) :
    Calls Try.prog 11 #[.agg #[.int .i64 x.bits, .int .i64 x.rows, .int .i64 x.width, .int .i64 x.mode, .int .u64 x.seed, .int .i64 lv, v, v']] w fun e w' => e = .returned (.bool true) ∧ Ext w w' := by
  obtain ⟨vp, vc, rfl⟩ := hv.sl
  obtain ⟨mp, mc, rfl⟩ := hv'.sl
  have HV := Lib.hid hv
  have HM := Lib.hid hv'
  clear hv hv'
  go_enter Try.func11, Try.ntmps11
  go_wp2_with fail
  refine (shown11_c _).mono ?_
  rintro e w1 ⟨rfl, hb1⟩
  have hE1 : Ext w w1 := by (repeat' (first | exact Ext.refl _ | assumption | apply Ext.allocR | apply Ext.drewR | apply Ext.drewNR | (refine Ext.trans' ?_ (by assumption))))
  have hT1 : TwoAt w1 w.heap.size x lv (.slice vp us.length vc) (.slice mp ms.length mc) := (TwoAt.of (t := 60) (heap_at _ _ rfl)).ext hb1
  clear hb1
  have d0 := hT1.c.c0
  have d1 := hT1.c.c1
  have d2 := hT1.c.c2
  have d3 := hT1.c.c3
  have d4 := hT1.c.c4
  have dl := hT1.c.lt
  go_wp2_with fail
  refine Calls.mono (Any_c x hx 6 9 (by decide) (by decide) (by decide) (by decide) _) ?_
  rintro e w2 ⟨rfl, hx2⟩
  have hE2 : Ext w1 w2 := by (repeat' (first | exact Ext.refl _ | assumption | apply Ext.allocR | apply Ext.drewR | apply Ext.drewNR | (refine Ext.trans' ?_ (by assumption))))
  have hT2 := hT1.ext hE2
  clear hx2 d0 d1 d2 d3 d4 dl
  have hC : CfgAt (w2.alloc (.cells #[.int .i64 (mkC x 6 9).bits, .int .i64 (mkC x 6 9).rows, .int .i64 (mkC x 6 9).width, .int .i64 1, .int .u64 (mkC x 6 9).seed] 24)) w2.heap.size (tcfg x 6) := CfgAt.box (tcfg x 6) _ rfl
  have okC := tcfg_ok x hx.s (nb := 6) (by decide) (by decide)
  have hEw : Ext w w2 := hE1.trans' hE2
  have hCm : (tcfg x 6).mode = 1 := rfl
  have eb : (mkC x 6 9).bits = (tcfg x 6).bits := rfl
  have er : (mkC x 6 9).rows = (tcfg x 6).rows := rfl
  have ew : (mkC x 6 9).width = (tcfg x 6).width := rfl
  have es : (mkC x 6 9).seed = (tcfg x 6).seed := rfl
  rw [eb, er, ew, es] at hC
  have d5 := hT2.c5
  have dl := hT2.c.lt
  have hax := and16 lv
  have n1 := Int.emod_nonneg lv (show (65536 : Int) ≠ 0 by decide)
  have n3 := Int.emod_lt_of_pos lv (show (0 : Int) < 65536 by decide)
  have bb1 := okC.b1
  have bb2 := okC.b2
  have i1 := Int.emod_nonneg (lv % 65536) (show (tcfg x 6).bits + 1 ≠ 0 by omega)
  have i2 := Int.emod_lt_of_pos (lv % 65536) (show 0 < (tcfg x 6).bits + 1 by omega)
  have z1 : ((tcfg x 6).bits + 1 == 0) = false := by simp; omega
  rw [eb, er, ew, es]
  clear eb er ew es
  generalize tcfg x 6 = C at *
  obtain ⟨R, hR⟩ : ∃ R : Nat, C.rows = R := ⟨C.rows.toNat, by have := okC.r1; omega⟩
  obtain ⟨W, hW⟩ : ∃ W : Nat, C.width = W := ⟨C.width.toNat, by have := okC.w1; omega⟩
  have HR := Lib.hid hR
  have HW := Lib.hid hW
  have HCM := Lib.hid hCm
  have hEB : Ext w2 (w2.alloc (.cells #[.int .i64 C.bits, .int .i64 C.rows, .int .i64 C.width, .int .i64 1, .int .u64 C.seed] 24)) := Ext.alloc' _ _
  have HT2 := Lib.hid hT2
  clear hR hW hCm hT1 hT2 hE1 hE2
  go_wp2_with fail
  generalize hLe : lv % 65536 % (C.bits + 1) = LV at *
  have lb2 : LV ≤ C.bits := by omega
  have HC := Lib.hid hC
  clear hax n1 n3 d5 dl i2 z1 hC hLe
  generalize w2.alloc (.cells #[.int .i64 C.bits, .int .i64 C.rows, .int .i64 C.width, .int .i64 1, .int .u64 C.seed] 24) = wB at *
  have hTB := HT2.out.ext hEB
  have hEwB := hEw.trans' hEB
  have HTB := Lib.hid hTB
  clear hTB HT2 hEB hEw
  have hSN := fun w' : World => SNew_c C okC LV i1 lb2 R W HR.out HW.out w'
  simp only [HCM.out] at hSN
  refine (hSN _).mono ?_
  clear hSN
  rintro e w3 ⟨s, b, c, rfl, hS, hs, hb, hc, hx3⟩
  have hE3 : Ext wB w3 := by (repeat' (first | exact Ext.refl _ | assumption | apply Ext.allocR | apply Ext.drewR | apply Ext.drewNR | (refine Ext.trans' ?_ (by assumption))))
  have hC3 := HC.out.ext hE3
  have c0 := hC3.c0
  have c1 := hC3.c1
  have c2' := hC3.c2
  have c3 := hC3.c3
  have c4 := hC3.c4
  have cl := hC3.lt
  have hlt1 := hS.lts
  have hlt2 := hS.g.ltb
  have hlt3 := hS.g.ltc
  have hsB := hEwB.size
  have hs3 := hE3.size
  clear hx3
  go_wp2_with fail
  refine (SNew_c C okC LV i1 lb2 R W HR.out HW.out _).mono ?_
  rintro e w4 ⟨s2, b2, c2, rfl, hS2, hs2, hb2, hc2, hx4⟩
  have hE4 : Ext w3 w4 := by (repeat' (first | exact Ext.refl _ | assumption | apply Ext.allocR | apply Ext.drewR | apply Ext.drewNR | (refine Ext.trans' ?_ (by assumption))))
  clear c0 c1 c2' c3 c4 cl hx4
  have hC4 := hC3.ext hE4
  have c0 := hC4.c0
  have c1 := hC4.c1
  have c2' := hC4.c2
  have c3 := hC4.c3
  have c4 := hC4.c4
  have cl := hC4.lt
  have hlt4 := hS2.lts
  have hlt5 := hS2.g.ltb
  have hlt6 := hS2.g.ltc
  have hs4 := hE4.size
  go_wp2_with fail
  refine (SNew_c C okC LV i1 lb2 R W HR.out HW.out _).mono ?_
  rintro e w5 ⟨s3, b3, c3', rfl, hS3, hs3', hb3, hc3, hx5⟩
  have hE5 : Ext w4 w5 := by (repeat' (first | exact Ext.refl _ | assumption | apply Ext.allocR | apply Ext.drewR | apply Ext.drewNR | (refine Ext.trans' ?_ (by assumption))))
  have hlt7 := hS3.lts
  have hlt8 := hS3.g.ltb
  have hlt9 := hS3.g.ltc
  have hs5 := hE5.size
  have hA5 := hS.ext (hE4.trans' hE5)
  have hB5 := hS2.ext hE5
  have hC5 := hC4.ext hE5
  have hT5 := HTB.out.ext (hE3.trans' (hE4.trans' hE5))
  have hEw5 := hEwB.trans' (hE3.trans' (hE4.trans' hE5))
  have hltT := hT5.c.lt
  have hltTw := HTB.out.c.lt
  have hltC := HC.out.lt
  have HA5 := Lib.hid hA5
  have HB5 := Lib.hid hB5
  have HS3 := Lib.hid hS3
  have HC5 := Lib.hid hC5
  have HT5 := Lib.hid hT5
  have hok := okC
  have lb1 := i1
  have hkb := keys_bd C okC LV i1
  have hkn : keys C LV ≠ 0 := by omega
  generalize hKN : keys C LV = KK at *
  have HKN := Lib.hid hKN
  clear hx5 c0 c1 c2' c3 c4 cl hS hS2 hS3 hC3 hC4 hC5 hT5 hA5 hB5 hKN HC HTB hE3 hE4 hE5
  go_wp2_with fail
  go_loopw [12] (fun u wr => ∃ (k : Nat) (l : List Int), k ≤ 30 ∧ k ≤ us.length ∧ u = .int .i64 k ∧ Mod (fun i => i = c) w5 wr ∧ SAt wr s b c C LV R W l ∧ Bnd ((k : Int) * 1099511627776) l) (fun u _ => 30 - (intOf u).toNat)
  case atStart => exact ⟨0, zs (R * W), Nat.zero_le _, Nat.zero_le _, rfl, Mod.refl _ _, HA5.out, fun x hx => by simp only [zs, List.mem_replicate] at hx; omega⟩
  case round =>
    obtain ⟨k, l, hk30, hkl, rfl, hM, hSr, hB⟩ := hrel
    have hT := HT5.out.mod hM (by omega)
    have hC := HC5.out.mod hM (by omega)
    have q6 := hT.c6
    have ql := hT.c.lt
    by_cases hgo : k < us.length ∧ k < 30
    · obtain ⟨hg1, hg2⟩ := hgo
      obtain ⟨ug, off, rfl, hul0, e0', e1'⟩ := HV.out.one hg1
      have hugc : ug ≠ c := by omega
      have e0 := (mcell hM (b := ug) (by omega) hugc _).trans (((bcell hEw5).1 ug _ hul0).trans e0')
      have e1 := (mcell hM (b := ug) (by omega) hugc _).trans (((bcell hEw5).1 ug _ hul0).trans e1')
      have hulr : ug < wr.heap.size := by have := hM.size; omega
      have hu := hus _ (List.getElem_mem hg1)
      generalize us[k] = uu at *
      obtain ⟨uk, ud⟩ := uu
      have c0 := hC.c0
      have c1 := hC.c1
      have c2' := hC.c2
      have c3 := hC.c3
      have c4 := hC.c4
      have cl := hC.lt
      have hr0 : 0 ≤ uk % KK := Int.emod_nonneg _ hkn
      have hr1 : uk % KK < KK := Int.emod_lt_of_pos _ (by omega)
      obtain ⟨hu1, hu2⟩ := hu.1
      have kz : (KK == 0) = false := by simpa using hkn
      have ht := tmod20 ud
      have herr : errU C LV R W l (uk % KK) (ud.tmod 1048576) = 0 := upd_ok (T := 1099511627776) hB (by omega) (by omega) (by omega) (by omega) (by rw [HKN.out]; exact hr1) (fun h => by rw [HCM.out] at h; exact absurd h (by decide))
      have hBn := upd_bnd (C := C) (lv := LV) (R := R) (W := W) (key := uk % KK) (d := ud.tmod 1048576) (T := 1099511627776) hB (by omega) (by omega) (by omega)
      have HERR := Lib.hid herr
      have HBN := Lib.hid hBn
      have HSR := Lib.hid hSr
      have HU := Lib.hid hu
      clear e0' e1' hu hT hC hB herr hBn hSr
      go_wp2_with fail
      refine wp_region_after_tail 18 (by kernel_rfl) (by kernel_rfl) ?_
      simp only [List.take_succ_cons, List.take_zero, List.drop_succ_cons, List.drop_zero]
      repeat (go_big_quiet_step ((go_at_call 23; exact quiet_after (HKN.out ▸ KeysR_c C hok LV lb1 lb2 _))))
      refine wpQuiet_nil ?_
      rintro _ ⟨xx, rfl⟩
      obtain ⟨wt, hbt⟩ := xx
      try dsimp only
      go_wp2_with fail
      refine Calls.mono (Update_c s b c C LV R W l (uk % KK) (ud.tmod 1048576) _ (HSR.out.ext ?hx) (by unfold I64; omega) hr0) ?_
      case hx => (repeat' (first | exact Ext.refl _ | assumption | apply Ext.allocR | apply Ext.drewR | apply Ext.drewNR | (refine Ext.trans' ?_ (by assumption))))
      intro e wu hup
      obtain ⟨rfl, hSu, hMu⟩ := updpost hup HERR.out
      go_wp2_with fail
      go_roundw
      case rel =>
        refine ⟨k + 1, _, by omega, by omega, by go_num, (hM.trans (Ext.mod _ hbt)).trans hMu, hSu, ?_⟩
        have := HBN.out
        rwa [show ((k + 1 : Nat) : Int) * 1099511627776 = (k : Int) * 1099511627776 + 1099511627776 by omega]
      case measure => simp [intOf]; omega
    · have hE6 : Ext w wr := Below.trans hEw5 (hM.below (B := w.heap.size) (by omega) (fun i hi => by omega))
      have hT6 := HT5.out.mod hM (show ¬ (w.heap.size = c) by omega)
      have hC6 := HC5.out.mod hM (show ¬ (w2.heap.size = c) by omega)
      have hB6 := HB5.out.mod hM (by omega) (by omega) (by omega)
      have hN6 := HS3.out.mod hM (by omega) (by omega) (by omega)
      have hMs := hM.size
      have hBl : Bnd 35184372088832 l := hB.le (by omega)
      have HT6 := Lib.hid hT6
      have HC6 := Lib.hid hC6
      have HB6 := Lib.hid hB6
      have HN6 := Lib.hid hN6
      have HA6 := Lib.hid hSr
      have HBL := Lib.hid hBl
      rename World => w6
      have hEw6 : Ext w w6 := hE6
      clear hT6 hC6 hB6 hN6 hSr hBl hB hM hT hC HT5 HC5 HB5 HS3 HA5 hE6
      rename List Int => la
      go_wp2_with fail
      all_goals
        clear q6 ql
        go_loopw [13] (fun u wr => ∃ (k : Nat) (l : List Int), k ≤ 30 ∧ k ≤ ms.length ∧ u = .int .i64 k ∧ Mod (fun i => i = c2) w6 wr ∧ SAt wr s2 b2 c2 C LV R W l ∧ Bnd ((k : Int) * 1099511627776) l) (fun u _ => 30 - (intOf u).toNat)
        case atStart => exact ⟨0, zs (R * W), Nat.zero_le _, Nat.zero_le _, rfl, Mod.refl _ _, HB6.out, fun x hx => by simp only [zs, List.mem_replicate] at hx; omega⟩
        case round =>
          obtain ⟨k, l, hk30, hkl, rfl, hM, hSr, hB⟩ := hrel
          have hT := HT6.out.mod hM (by omega)
          have hC := HC6.out.mod hM (by omega)
          have q6 := hT.c7
          have ql := hT.c.lt
          by_cases hgo : k < ms.length ∧ k < 30
          · obtain ⟨hg1, hg2⟩ := hgo
            obtain ⟨ug, off, rfl, hul0, e0', e1'⟩ := HM.out.one hg1
            have hugc : ug ≠ c2 := by omega
            have e0 := (mcell hM (b := ug) (by omega) hugc _).trans (((bcell hEw6).1 ug _ hul0).trans e0')
            have e1 := (mcell hM (b := ug) (by omega) hugc _).trans (((bcell hEw6).1 ug _ hul0).trans e1')
            have hulr : ug < wr.heap.size := by have := hM.size; omega
            have hu := hms _ (List.getElem_mem hg1)
            generalize ms[k] = uu at *
            obtain ⟨uk, ud⟩ := uu
            have c0 := hC.c0
            have c1 := hC.c1
            have c2' := hC.c2
            have c3 := hC.c3
            have c4 := hC.c4
            have cl := hC.lt
            have hr0 : 0 ≤ uk % KK := Int.emod_nonneg _ hkn
            have hr1 : uk % KK < KK := Int.emod_lt_of_pos _ (by omega)
            obtain ⟨hu1, hu2⟩ := hu.1
            have kz : (KK == 0) = false := by simpa using hkn
            have ht := tmod20 ud
            have herr : errU C LV R W l (uk % KK) (ud.tmod 1048576) = 0 := upd_ok (T := 1099511627776) hB (by omega) (by omega) (by omega) (by omega) (by rw [HKN.out]; exact hr1) (fun h => by rw [HCM.out] at h; exact absurd h (by decide))
            have hBn := upd_bnd (C := C) (lv := LV) (R := R) (W := W) (key := uk % KK) (d := ud.tmod 1048576) (T := 1099511627776) hB (by omega) (by omega) (by omega)
            have HERR := Lib.hid herr
            have HBN := Lib.hid hBn
            have HSR := Lib.hid hSr
            have HU := Lib.hid hu
            clear e0' e1' hu hT hC hB herr hBn hSr
            go_wp2_with fail
            refine wp_region_after_tail 18 (by kernel_rfl) (by kernel_rfl) ?_
            simp only [List.take_succ_cons, List.take_zero, List.drop_succ_cons, List.drop_zero]
            repeat (go_big_quiet_step ((go_at_call 23; exact quiet_after (HKN.out ▸ KeysR_c C hok LV lb1 lb2 _))))
            refine wpQuiet_nil ?_
            rintro _ ⟨xx, rfl⟩
            obtain ⟨wt, hbt⟩ := xx
            try dsimp only
            go_wp2_with fail
            refine Calls.mono (Update_c s2 b2 c2 C LV R W l (uk % KK) (ud.tmod 1048576) _ (HSR.out.ext ?hx) (by unfold I64; omega) hr0) ?_
            case hx => (repeat' (first | exact Ext.refl _ | assumption | apply Ext.allocR | apply Ext.drewR | apply Ext.drewNR | (refine Ext.trans' ?_ (by assumption))))
            intro e wu hup
            obtain ⟨rfl, hSu, hMu⟩ := updpost hup HERR.out
            go_wp2_with fail
            go_roundw
            case rel =>
              refine ⟨k + 1, _, by omega, by omega, by go_num, (hM.trans (Ext.mod _ hbt)).trans hMu, hSu, ?_⟩
              have := HBN.out
              rwa [show ((k + 1 : Nat) : Int) * 1099511627776 = (k : Int) * 1099511627776 + 1099511627776 by omega]
            case measure => simp [intOf]; omega
          · have hE7 : Ext w wr := Below.trans hEw6 (hM.below (B := w.heap.size) (by omega) (fun i hi => by omega))
            have hA7 := HA6.out.mod hM (by omega) (by omega) (by omega)
            have hN7 := HN6.out.mod hM (by omega) (by omega) (by omega)
            have hBl : Bnd 35184372088832 l := hB.le (by omega)
            have hW8 := hSr.g.w2
            obtain ⟨n0, hn0⟩ : ∃ n0, innF la l W R = some n0 := ⟨_, innF_fit HBL.out hBl (by omega) R⟩
            have hn1 : innF l la W R = some n0 := by rw [innF_comm]; exact hn0
            have HA7 := Lib.hid hA7
            have HN7 := Lib.hid hN7
            have HB7 := Lib.hid hSr
            have HN0 := Lib.hid hn0
            have HN1 := Lib.hid hn1
            clear hA7 hN7 hSr hBl hB hM hT hC HA6 HB6 HN6 HT6 HC6 hn0 hn1
            go_wp2_with fail
            all_goals
              refine Calls.mono (Inner_c s b c s2 b2 c2 C LV R W la l _ (HA7.out.ext ?hx) (HB7.out.ext ?hy) HCM.out) ?_
              case hx => (repeat' (first | exact Ext.refl _ | assumption | apply Ext.allocR | apply Ext.drewR | apply Ext.drewNR | (refine Ext.trans' ?_ (by assumption))))
              case hy => (repeat' (first | exact Ext.refl _ | assumption | apply Ext.allocR | apply Ext.drewR | apply Ext.drewNR | (refine Ext.trans' ?_ (by assumption))))
              rw [HN0.out, show innV (some n0) = .tuple #[.agg #[.int .i64 (hi n0), .int .u64 (lo n0)], .int .i64 0] from rfl]
              rintro e w7 ⟨rfl, hx7⟩
              have hE78 := hE7.trans' (show Ext wr w7 by (repeat' (first | exact Ext.refl _ | assumption | apply Ext.allocR | apply Ext.drewR | apply Ext.drewNR | (refine Ext.trans' ?_ (by assumption)))))
              have hE71 : Ext wr w7 := by (repeat' (first | exact Ext.refl _ | assumption | apply Ext.allocR | apply Ext.drewR | apply Ext.drewNR | (refine Ext.trans' ?_ (by assumption))))
              have hnb := heap_at w7 (.cells #[.int .i64 (hi n0), .int .u64 (lo n0)] 56) rfl
              have hE7b : Ext w7 (w7.alloc (.cells #[.int .i64 (hi n0), .int .u64 (lo n0)] 56)) := Ext.alloc' _ _
              go_wp2_with fail
              generalize w7.alloc (.cells #[.int .i64 (hi n0), .int .u64 (lo n0)] 56) = w7b at *
              have hE72 := hE71.trans' hE7b
              refine Calls.mono (Inner_c s2 b2 c2 s b c C LV R W l la _ (HB7.out.ext ?hx) (HA7.out.ext ?hy) HCM.out) ?_
              case hx => (repeat' (first | exact Ext.refl _ | assumption | apply Ext.allocR | apply Ext.drewR | apply Ext.drewNR | (refine Ext.trans' ?_ (by assumption))))
              case hy => (repeat' (first | exact Ext.refl _ | assumption | apply Ext.allocR | apply Ext.drewR | apply Ext.drewNR | (refine Ext.trans' ?_ (by assumption))))
              rw [HN1.out, show innV (some n0) = .tuple #[.agg #[.int .i64 (hi n0), .int .u64 (lo n0)], .int .i64 0] from rfl]
              rintro e w8 ⟨rfl, hx8⟩
              have hE8 : Ext w7b w8 := by (repeat' (first | exact Ext.refl _ | assumption | apply Ext.allocR | apply Ext.drewR | apply Ext.drewNR | (refine Ext.trans' ?_ (by assumption))))
              have hmb := heap_at w8 (.cells #[.int .i64 (hi n0), .int .u64 (lo n0)] 56) rfl
              have hE8b : Ext w8 (w8.alloc (.cells #[.int .i64 (hi n0), .int .u64 (lo n0)] 56)) := Ext.alloc' _ _
              go_wp2_with fail
              generalize w8.alloc (.cells #[.int .i64 (hi n0), .int .u64 (lo n0)] 56) = w8b at *
              have hE82 := hE72.trans' (hE8.trans' hE8b)
              refine Calls.mono (Inner_c s b c s3 b3 c3' C LV R W la (zs (R * W)) _ (HA7.out.ext ?hx) (HN7.out.ext ?hy) HCM.out) ?_
              case hx => (repeat' (first | exact Ext.refl _ | assumption | apply Ext.allocR | apply Ext.drewR | apply Ext.drewNR | (refine Ext.trans' ?_ (by assumption))))
              case hy => (repeat' (first | exact Ext.refl _ | assumption | apply Ext.allocR | apply Ext.drewR | apply Ext.drewNR | (refine Ext.trans' ?_ (by assumption))))
              rw [innF_zero, V0]
              rintro e w9 ⟨rfl, hx9⟩
              have hE9 : Ext w8b w9 := by (repeat' (first | exact Ext.refl _ | assumption | apply Ext.allocR | apply Ext.drewR | apply Ext.drewNR | (refine Ext.trans' ?_ (by assumption))))
              obtain ⟨a0, a1, al⟩ := wbox hnb (hE8.trans' (hE8b.trans' hE9))
              obtain ⟨b0, b1, bl⟩ := wbox hmb hE9
              have hEF := hE7.trans' (hE82.trans' hE9)
              clear hx7 hx8 hx9 hnb hmb hE78 hE71 hE7b hE72 hE8 hE8b hE82 hE9
              go_wp2
              go_ret
              exact ⟨by simp, by (repeat' (first | exact Ext.refl _ | assumption | apply Ext.allocR | apply Ext.drewR | apply Ext.drewNR | (refine Ext.trans' ?_ (by assumption))))⟩
end Go.Proofs.Ythancaehlijaoaa
