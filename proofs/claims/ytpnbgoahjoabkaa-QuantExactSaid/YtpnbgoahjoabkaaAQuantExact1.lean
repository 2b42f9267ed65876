/- QuantExact: where all levels are exact, and no key has less than 0, the answer is the first key up to which all have the rank. No condition: every input. -/
import Derived.Test.YtpnbgoahjoabkaaL12
import Derived.Test.YtpnbgoahjoabkaaL9
import Derived.Test.YtpnbgoahjoabkaaL10

/- gaugerlaw17.QuantExact, walked. -/
namespace Go.Proofs.Ytpnbgoahjoabkaa
set_option linter.unusedVariables false
open Go.RowKit
theorem ptK_xx {C : Cfg} (hok : C.Ok) {B : Nat} (hB : C.bits = B) {us : List (Int × Int)} (hus : UpsOk us) (hx : ∀ n : Nat, isX C n = true) : ptK C B us = pcS (psU C us) := by
  funext n i
  by_cases h : n ≤ B ∧ 0 ≤ i ∧ i < keys C n
  · exact ptK_x hok hB hus h.1 h.2.1 h.2.2 (hx n)
  · unfold ptK
    rw [dif_neg (fun h' => h ⟨h'.1, h'.2.1, h'.2.2.1⟩)]
theorem wayO_none (S : Nat → Int → Int) : ∀ (n : Nat) (i k : Int), wayO S S n i k = 0
  | 0, _, _ => rfl
  | n + 1, i, k => by
    unfold wayO
    split
    · rw [wayO_none S n]; omega
    · rw [wayO_none S n]; omega
/-- The answer is the first key up to which all have the rank. -/
theorem qe_law {C : Cfg} (hok : C.Ok) {B : Nat} (hB : C.bits = B) {us : List (Int × Int)} (hus : UpsOk us) (hx : ∀ n : Nat, isX C n = true) (hp : plK C us 60 = true) {A : Int} (h1 : 1 ≤ A) (h2 : A ≤ hasK C us 60 B 0) :
    (∀ j, 0 ≤ j → j < wayI (ptK C B us) B 0 A → betK C us 60 0 j < A) ∧ A ≤ betK C us 60 0 (wayI (ptK C B us) B 0 A) := by
  have hpt := ptK_xx hok hB hus hx
  rw [hpt]
  have hge : ∀ n i, 0 ≤ i → pcS (psU C us) n i ≤ pcS (psU C us) n i := fun _ _ _ => Int.le_refl _
  have a := way_below hge B 0 A (Int.le_refl 0) h1
  rw [hasK_pc] at h2
  have b := way_upto hge B 0 A 0 (Int.le_refl 0) (Int.le_refl 0) (by omega)
  rw [wayO_none] at b
  generalize wayI (pcS (psU C us)) B 0 A = X at *
  refine ⟨fun j hj0 hj => ?_, ?_⟩
  · have e := sumIf_split (fun u => sh B u == 0 && decide (u < X)) (fun u => decide (u ≤ j)) (psU C us)
    have hn := pl_nn hp 0 (fun k => (sh B k == 0 && decide (k < X)) && !decide (k ≤ j))
    have e2 : betK C us 60 0 j = sumIf (fun k => (sh B k == 0 && decide (k < X)) && decide (k ≤ j)) (psU C us) := by
      refine sumIf_congr fun u hu => ?_
      obtain ⟨c, d⟩ := psU_in hok us u hu
      have hs := sh_top hB c d
      unfold inB
      rw [hs, Bool.eq_iff_iff]
      simp only [Bool.and_eq_true, beq_iff_eq, decide_eq_true_eq, true_and]
      omega
    have e3 : loS (psU C us) B 0 X = sumIf (fun u => sh B u == 0 && decide (u < X)) (psU C us) := rfl
    have hn' : 0 ≤ sumIf (fun k => (sh B k == 0 && decide (k < X)) && !decide (k ≤ j)) (psU C us) := hn
    omega
  · have f := bet_up hok hB us X
    omega
set_option maxRecDepth 20000 in
set_option maxHeartbeats 8000000 in
theorem QExactL_c (x : Cfg) (hx : x.Raw) (ka : Int) (hka : I64 ka) (us : List (Int × Int)) (hus : UpsOk us) (v : Value) (w : World) (hv : UpsAt w v us) (hul : us.length ≤ 140737488355328) :
    Calls Try.prog 15 #[.agg #[.int .i64 x.bits, .int .i64 x.rows, .int .i64 x.width, .int .i64 x.mode, .int .u64 x.seed, v], .int .i64 ka] w fun e w' => e = .returned (.bool true) ∧ Ext w w' := by
  obtain ⟨vp, vc, rfl⟩ := hv.sl
  have HV := Lib.hid hv
  clear hv
  obtain ⟨hok, hb7, hallx⟩ := exC_ok x hx.s
  go_enter Try.func15, Try.ntmps15
  go_wp2_with fail
  refine (shown17_c _).mono ?_
  rintro e w1 ⟨rfl, hb1⟩
  have hE1 : Ext w w1 := by (repeat' (first | exact Ext.refl _ | assumption | apply Ext.allocR | apply Ext.drewR | apply Ext.drewNR | (refine Ext.trans' ?_ (by assumption))))
  have hP1 := hb1.keep (heap_at w (.cells #[.int .i64 x.bits, .int .i64 x.rows, .int .i64 x.width, .int .i64 x.mode, .int .u64 x.seed, .slice vp us.length vc] 109) rfl)
  have p0 := (cell_of hP1 0).trans rfl
  have p1 := (cell_of hP1 1).trans rfl
  have p2 := (cell_of hP1 2).trans rfl
  have p3 := (cell_of hP1 3).trans rfl
  have p4 := (cell_of hP1 4).trans rfl
  have p5 := (cell_of hP1 5).trans rfl
  have pl := lt_of hP1
  clear hb1
  go_wp2_with fail
  refine (Any_c x hx 7 9 (by decide) (by decide) (by decide) (by decide) _).mono ?_
  rintro e wa ⟨rfl, hba⟩
  have hEa : Ext w wa := by (repeat' (first | exact Ext.refl _ | assumption | apply Ext.allocR | apply Ext.drewR | apply Ext.drewNR | (refine Ext.trans' ?_ (by assumption))))
  have kp := hba.keep hP1
  have hC : exC x = ⟨(mkC x 7 9).bits, (mkC x 7 9).rows, 2 ^ (mkC x 7 9).bits.toNat, (mkC x 7 9).mode, (mkC x 7 9).seed⟩ := rfl
  generalize exC x = C at *
  generalize hA : mkC x 7 9 = A at *
  clear hA
  have hb1 : 1 ≤ A.bits := by have := hok.b1; rw [hC] at this; exact this
  have hb2 : A.bits ≤ 7 := by rw [hC] at hb7; exact hb7
  obtain ⟨B, hB⟩ : ∃ B : Nat, A.bits = B := ⟨A.bits.toNat, by omega⟩
  have HC := Lib.hid hC
  have HB := Lib.hid hB
  clear hC hba p0 p1 p2 p3 p4 p5 pl hP1 hE1
  have hcb : C.bits = B := by rw [HC.out]; exact hB
  have hcr : A.rows = C.rows := by rw [HC.out]
  have hcw : (2 : Int) ^ B = C.width := by rw [HC.out, hB]; rfl
  have hcm : A.mode = C.mode := by rw [HC.out]
  have hcs : A.seed = C.seed := by rw [HC.out]
  rw [hB, hcr, hcm, hcs]
  have hpw := pow_bd B (by omega)
  have hsh := shl1 (B := B) (by omega)
  clear hB hcr hcm hcs HB HC
  have hkz := hok.b1
  go_wp2_with fail
  rw [← hcb]
  clear hsh
  obtain ⟨wc, hwc⟩ : ∃ wc, wa.alloc (.cells #[.int .i64 C.bits, .int .i64 C.rows, .int .i64 C.width, .int .i64 C.mode, .int .u64 C.seed] 24) = wc := ⟨_, rfl⟩
  have kc : wc.heap[wa.heap.size]? = some (.cells #[.int .i64 C.bits, .int .i64 C.rows, .int .i64 C.width, .int .i64 C.mode, .int .u64 C.seed] 24 (0, 0)) := by rw [← hwc]; exact heap_at _ _ rfl
  have hxc : Ext wa wc := by rw [← hwc]; exact Ext.alloc' _ _
  rw [hwc]
  clear hwc
  have hEc : Ext w wc := hEa.trans' hxc
  have kp2 := hxc.keep kp
  have hcl := lt_of kc
  refine (KNew_c C hok _).mono ?_
  rintro e w2 ⟨s, g, L, rfl, hK, hs, hg, hL, hx2⟩
  have hBt : C.bits.toNat = B := by omega
  rw [hBt] at hK hL
  have hBd : B ≤ 59 := by omega
  have hE2 : Ext w w2 := hEc.trans' hx2
  have hs2 := hx2.size
  have KP := Lib.hid (hx2.keep kp2)
  have KC := Lib.hid (hx2.keep kc)
  have hF : KFresh wc.heap.size B L := hL
  have hnc : ∀ k, k < wc.heap.size → ¬ cellsOf B L k := fun k hk hc => by obtain ⟨n, hn, rfl⟩ := hc; have := (hF n hn).2.2; omega
  have HB := Lib.hid hcb
  have HX := Lib.hid hallx
  clear hx2 hL hBt kp2 kc kp hcb hcw hallx
  go_wp2
  have hM0 : Mod (cellsOf B L) w2 w2 := Mod.refl _ _
  have hK0 : KAt w2 s g C B L (feedK C (fus us 0 0)) := by rw [fus_self]; exact hK
  clear hK
  go_loopw [9] (fun u wr => ∃ k : Nat, 0 ≤ k ∧ (k = 0 ∨ (k ≤ 60 ∧ k ≤ us.length)) ∧ u = .int .i64 k ∧ Mod (cellsOf B L) w2 wr ∧ KAt wr s g C B L (feedK C (fus us 0 k))) (fun u _ => 60 - (intOf u).toNat)
  case atStart => exact ⟨0, Nat.le_refl _, .inl rfl, rfl, hM0, hK0⟩
  case round =>
    clear hM0 hK0
    obtain ⟨k, hik, hkj, rfl, hM, hK⟩ := hrel
    have hMs := hM.size
    have hsz1 := hEc.size
    have hszp := hEa.size
    have hszc := hxc.size
    have qp := hM.keep KP.out (hnc _ (by have := lt_of KP.out; omega))
    have qc := hM.keep KC.out (hnc _ hcl)
    have q5 := (cell_of qp 5).trans rfl
    have lp := lt_of qp
    have lc := lt_of qc
    have hCq := CfgAt.of qc
    have c0 := hCq.c0
    have c1 := hCq.c1
    have c2 := hCq.c2
    have c3 := hCq.c3
    have c4 := hCq.c4
    clear hCq
    by_cases hgo : k < us.length ∧ k < 60
    · obtain ⟨hg1, hg2⟩ := hgo
      have hkj60 : k < 60 := by omega
      obtain ⟨ug, off, rfl, hul0, d0', d1'⟩ := HV.out.one hg1
      have hnu : ¬ cellsOf B L ug := hnc _ (by omega)
      have d0 := (mcell hM (b := ug) (by omega) hnu (off + k * 2)).trans (((bcell hE2).1 _ _ hul0).trans d0')
      have d1 := (mcell hM (b := ug) (by omega) hnu (off + k * 2 + 1)).trans (((bcell hE2).1 _ _ hul0).trans d1')
      have hgl2 : ug < wr.heap.size := by omega
      have hf := fus_snoc us (Nat.zero_le k) hg1
      have hu := hus _ (List.getElem_mem hg1)
      have hget : us.getD k (0, 0) = us[k] := by simp [hg1]
      rw [hget] at hf
      generalize us[k] = uu at *
      obtain ⟨uk, ud⟩ := uu
      have HF := Lib.hid hf
      clear hf hget d0' d1'
      have herr := feedK_ok C hok HB.out (fus us 0 k) (by have := fus_len us 0 k; omega) (uk, ud)
      have HERR := Lib.hid herr
      have HQ := Lib.hid qp
      have HK := Lib.hid hK
      clear herr qp qc hK
      go_upto_region 10 with (fail)
      go_cut [10] (fun s10 wx => ∃ bu : Nat, s10 = .pointer (some ⟨bu, 0, none⟩) ∧ wx.heap[bu]? = some (.cells #[.int .u64 (cutK C 0 uk), .int .i64 (cutD C.mode ud)] 38 (0, 0)) ∧ Ext wr wx ∧ wr.heap.size ≤ bu)
      case first =>
        have hC0 := af_drew wr
        refine pi_start (fun w' => ∃ x : After wr, w' = x.w) [] (by kernel_rfl) ?_
        refine pi_c 0 (by assumption) rfl (by kernel_rfl) (by kernel_rfl) (fun _ _ _ _ h => h) (fun K hK => ?_)
        go_big_quiet_op
        refine hK _ ?_
        clear hK K
        refine pi_t 1 rfl (by kernel_rfl) (by kernel_rfl) (fun _ _ _ _ h => h) (fun K hK => ?_)
        go_big_quiet_op
        refine hK _ ?_
        clear hK K
        refine pi_c 2 (by assumption) rfl (by kernel_rfl) (by kernel_rfl) (fun _ _ _ _ h => h) (fun K hK => ?_)
        go_big_quiet_op
        refine hK _ ?_
        clear hK K
        refine pi_t 3 rfl (by kernel_rfl) (by kernel_rfl) (fun _ _ _ _ h => h) (fun K hK => ?_)
        go_big_quiet_op
        refine hK _ ?_
        clear hK K
        refine pi_t 4 rfl (by kernel_rfl) (by kernel_rfl) (fun _ _ _ _ h => h) (fun K hK => ?_)
        go_big_quiet_op
        refine hK _ ?_
        clear hK K
        refine pi_c 5 (by assumption) rfl (by kernel_rfl) (by kernel_rfl) (fun _ _ _ _ h => h) (fun K hK => ?_)
        go_big_quiet_op
        refine hK _ ?_
        clear hK K
        refine pi_b 6 7 rfl rfl (by kernel_rfl) (fun K hK => ?_) (fun K hK => ?_)
        · go_wp2_with (go_at_call 50; refine (Cut15_c C hok uk ud hu.1 hu.2 _).mono ?_; rintro e w3 ⟨rfl, hx3⟩)
          have hx3' : Ext wr w3 := Ext.trans' (Below.drew (Ext.refl wr)) hx3
          have hs3 := hx3'.size
          refine hK _ _ (fun _ h => af_step h hx3) ?_
          clear hK K
          refine pi_l 7 rfl (by kernel_rfl) (fun K hK => ?_)
          go_wp2
          refine hK _ _ (fun _ h => af_step h (Ext.alloc' _ _)) ?_
          clear hK K
          refine pi_l 8 rfl (by kernel_rfl) (fun K hK => ?_)
          go_wp2
          refine hK _ _ (fun _ _ => ⟨⟨_, hx3'.allocR _⟩, rfl⟩) ?_
          clear hK K
          refine pi_end (by kernel_rfl) ?_
          go_wp2_with fail
          go_meet
          exact ⟨w3.heap.size, rfl, heap_at _ _ rfl, hx3'.allocR _, hs3⟩
        · go_wp2
          refine hK _ _ (fun _ h => af_step h (Ext.alloc' _ _)) ?_
          clear hK K
          refine pi_l 6 rfl (by kernel_rfl) (fun K hK => ?_)
          go_wp2_with (go_at_call 50; refine (Cut15_c C hok uk ud hu.1 hu.2 _).mono ?_; rintro e w3 ⟨rfl, hx3⟩)
          refine hK _ _ (fun _ h => af_step h hx3) ?_
          clear hK K
          have hs3 : (wr.alloc (.cells #[.int .u64 0, .int .i64 0] 38)).heap.size ≤ w3.heap.size := hx3.size
          rw [size_alloc] at hs3
          have hx3' : Ext wr w3 := Ext.trans' (Ext.alloc' wr _) (Ext.trans' (Below.drew (Ext.refl _)) hx3)
          have hbx : w3.heap[wr.heap.size]? = some (.cells #[.int .u64 0, .int .i64 0] 38 (0, 0)) := by
            rw [hx3.block _ (by show _ < (wr.alloc _).heap.size; rw [size_alloc]; exact Nat.lt_succ_self _)]
            exact heap_at wr _ rfl
          have p0 := (cell_of hbx 0).trans rfl
          have p1 := (cell_of hbx 1).trans rfl
          have f0 := frozen_of hbx 0
          have f1 := frozen_of hbx 1
          refine pi_l 8 rfl (by kernel_rfl) (fun K hK => ?_)
          go_wp2
          refine hK _ _ (fun _ _ => ⟨⟨_, (hx3'.setR (Nat.le_refl _) _).setR (Nat.le_refl _) _⟩, rfl⟩) ?_
          clear hK K
          refine pi_end (by kernel_rfl) ?_
          go_wp2_with fail
          go_meet
          exact ⟨wr.heap.size, rfl, set2 hbx _ _, (hx3'.setR (Nat.le_refl _) _).setR (Nat.le_refl _) _, Nat.le_refl _⟩
      case rest =>
        obtain ⟨bu, rfl, hbu, hxw, hbul⟩ := hcut
        have b0 := (cell_of hbu 0).trans rfl
        have b1 := (cell_of hbu 1).trans rfl
        have hdI : I64 (cutD C.mode ud) := by have := cutD_bd C.mode ud; unfold I64; omega
        have hkU : U64 (cutK C 0 uk) := by have := cutK_bd C hok 0 uk (Int.le_refl 0); have := keys_bd C hok 0 (Int.le_refl 0); unfold U64; omega
        clear c0 c1 c2 c3 c4 q5 d0 d1
        go_wp2_with fail
        refine Calls.mono (KUpdate_c s g C B L _ _ _ _ (HK.out.ext hxw) hdI hkU) ?_
        rintro e w4 ⟨rfl, hK4, hM4⟩
        rw [HERR.out] at hK4 ⊢
        go_wp2
        go_roundw
        case rel =>
          refine ⟨k + 1, by omega, .inr ⟨by omega, by omega⟩, by go_num, hM.trans ((hxw.mod _).trans hM4), ?_⟩
          rw [HF.out, feedK_snoc]
          exact hK4
        case measure => simp [intOf]; omega
    · have hfe := fus_end us (i := 0) (j := 60) (k := k) (by omega) (by omega) hkj hgo
      rw [hfe] at hK
      have hEr : Ext w wr := Below.trans hE2 (hM.below (B := w.heap.size) (by omega) (fun k hk => by obtain ⟨n, hn, rfl⟩ := hk; have := (hF n hn).2.2; omega))
      have HQP := Lib.hid qp
      have HQC := Lib.hid qc
      clear qp qc hfe
      have hT := feed_total hok HB.out hus
      have hTell : Tells C B (feedK C (fus us 0 60)) (ptK C B us) := tells_fed C B us
      obtain ⟨tb1, tb2⟩ := hasK_bd C us (Nat.le_refl 60) B 0
      have hTt : ∀ W', Ext wr W' → Calls Try.prog 54 #[.pointer (some ⟨s, 0, none⟩)] W' (fun e w' => e = .returned (.int .i64 (hasK C us 60 B 0)) ∧ Ext W' w') := fun W' h => by
        have := KTotal_c s g C B L _ W' (hK.ext h)
        rw [hT] at this
        exact this
      have hQ : ∀ W' k, Ext wr W' → I64 k → Calls Try.prog 78 #[.pointer (some ⟨s, 0, none⟩), .int .i64 k] W' (QuantPost W' B (hasK C us 60 B 0) (ptK C B us) k) := fun W' k h hk => by
        have := Quantile_c s g C B L _ W' (hK.ext h) k hk _ hTell
        rw [hT] at this
        exact this
      have hlaw : plK C us 60 = true → ∀ A, 1 ≤ A → A ≤ hasK C us 60 B 0 → _ := fun hp A h1 h2 => And.intro (qe_law hok HB.out hus (fun n => HX.out n) hp (A := A) h1 h2) (wayI_key HB.out (ptK C B us) A)
      have hU2 := HV.out.ext hEr
      have hkb := keys_bd C hok 0 (Int.le_refl 0)
      have HQ := Lib.hid hQ
      have HTT := Lib.hid hTt
      have HLaw := Lib.hid hlaw
      have HU2 := Lib.hid hU2
      clear hQ hTt hlaw hTell hT hU2 hK
      generalize hasK C us 60 B 0 = T at *
      go_upto_region 8 with (fail)
      go_cut [43] (fun s43 wx => s43 = .bool false ∧ wx = wr)
      case first =>
        by_cases hg1 : k < us.length
        · have hg2 : ¬ k < 60 := fun h => hgo ⟨hg1, h⟩
          go_wp2_with fail
          go_meet
          exact ⟨by simp; omega, rfl⟩
        · go_wp2_with fail
          go_meet
          exact ⟨rfl, rfl⟩
      case rest =>
       obtain ⟨rfl, rfl⟩ := hcut
       clear q5 lp c0 c1 c2 c3 c4 lc
       have HQP := HQP
       go_wp2_with fail
       refine (HTT.out _ (Ext.refl _)).mono ?_
       rintro e w3 ⟨rfl, hE3⟩
       have qp3 := hE3.keep HQP.out
       have hC3 := (CfgAt.of HQC.out).ext hE3
       have c0 := hC3.c0
       have c1 := hC3.c1
       have c2 := hC3.c2
       have c3 := hC3.c3
       have c4 := hC3.c4
       have cl := hC3.lt
       have p5 := (cell_of qp3 5).trans rfl
       have pl := lt_of qp3
       clear hC3 qp3 HTT
       go_wp2_with fail
       refine (Plain15_c us hus _ C hok _ (HU2.out.ext hE3) hul).mono ?_
       rintro e w5 ⟨rfl, hx5⟩
       have hE5 := hE3.trans' hx5
       clear hE3 hx5 c0 c1 c2 c3 c4 cl p5 pl
       cases hpl : plK C us 60 with
       | false =>
         clear hpl
         go_wp2_with fail
         go_ret
         exact ⟨rfl, hEr.trans' hE5⟩
       | true =>
        have HL1 := Lib.hid (HLaw.out hpl)
        clear hpl HLaw
        by_cases hz : T < 1
        · go_wp2_with fail
          go_ret
          exact ⟨rfl, hEr.trans' hE5⟩
        have a1 := and62i ka
        obtain ⟨r1, r2⟩ := rank_bd (x := ka) (T := T) (by omega)
        have hzT : (T == 0) = false := by simp; omega
        go_upto_region 17 with (fail)
        generalize hA : 1 + ka % 4611686018427387904 % T = A at *
        have hA1 : 1 ≤ A := by omega
        have hA2 : A ≤ T := by omega
        obtain ⟨⟨l1, l2⟩, l3, l4⟩ := HL1.out A hA1 hA2
        generalize hX : wayI (ptK C B us) B 0 A = X at *
        have HX2 := Lib.hid hX
        have L1 := Lib.hid l1
        clear a1 r1 r2 hzT hA HL1 hX l1
        obtain ⟨KN, hKN⟩ : ∃ KN, KN = keys C 0 := ⟨_, rfl⟩
        rw [← hKN] at l4 hkb
        have hKy : ∀ W', Calls Try.prog 49 #[.agg #[.int .i64 C.bits, .int .i64 C.rows, .int .i64 C.width, .int .i64 C.mode, .int .u64 C.seed], .int .i64 0] W' (fun e w' => e = .returned (.int .u64 KN) ∧ Ext W' w') := fun W' => by rw [hKN]; exact KeysR_c C hok 0 (Int.le_refl 0) (by omega) W'
        have HKY := Lib.hid hKy
        clear hKy hKN
        go_wp2_with fail
        go_loopw [12] (fun u wl => ∃ j : Nat, (j : Int) ≤ X ∧ u = .int .u64 j ∧ Ext w5 wl) (fun u _ => X.toNat - (intOf u).toNat)
        case atStart => exact ⟨0, by omega, rfl, Ext.refl _⟩
        case round =>
          obtain ⟨j, hj, rfl, hEl⟩ := hrel
          have hE6 := hE5.trans' hEl
          have hU6 := HU2.out.ext hE6
          have hBe := Between16_c us hus (.slice vp us.length vc) C hok 0 j ⟨by decide, by decide⟩ (by unfold U64; omega) wr hU6 hul
          have hbt := betK_bd C us (Nat.le_refl 60) 0 j
          have qp6 := hE6.keep HQP.out
          have HC6 := Lib.hid ((CfgAt.of HQC.out).ext hE6)
          have c0 := HC6.out.c0
          have c1 := HC6.out.c1
          have c2 := HC6.out.c2
          have c3 := HC6.out.c3
          have c4 := HC6.out.c4
          have cl := HC6.out.lt
          have p5 := (cell_of qp6 5).trans rfl
          have pl := lt_of qp6
          clear qp6 hU6
          by_cases hlt : (j : Int) < X
          · have hlb := L1.out j (by omega) hlt
            generalize betK C us 60 0 j = bt at *
            have HBE := Lib.hid hBe
            clear hBe
            go_wp2_with fail
            refine HBE.out.mono ?_
            rintro e w7 ⟨rfl, hx7⟩
            clear c0 c1 c2 c3 c4 cl p5 pl HBE
            have hC7 := HC6.out.ext hx7
            have c0 := hC7.c0
            have c1 := hC7.c1
            have c2 := hC7.c2
            have c3 := hC7.c3
            have c4 := hC7.c4
            have cl := hC7.lt
            clear hC7
            go_wp2_with fail
            refine (HKY.out _).mono ?_
            rintro e w8 ⟨rfl, hx8⟩
            go_wp2
            go_roundw
            case rel => exact ⟨j + 1, by omega, by go_num, hEl.trans' (hx7.trans' hx8)⟩
            case measure => simp [intOf]; omega
          · obtain rfl : (j : Int) = X := by omega
            generalize betK C us 60 0 j = bt at *
            have HBE := Lib.hid hBe
            clear hBe
            go_wp2_with fail
            refine HBE.out.mono ?_
            rintro e w7 ⟨rfl, hx7⟩
            have hE7 := hE6.trans' hx7
            clear c0 c1 c2 c3 c4 cl p5 pl HBE hx7
            go_wp2_with fail
            refine (HQ.out _ _ hE7 (by unfold I64; omega)).mono ?_
            rintro e w8 hp
            obtain ⟨_, rfl, hx8⟩ := hp.resolve_left (fun h => by have := h.1; omega)
            rw [HX2.out]
            go_wp2
            go_ret
            exact ⟨rfl, hEr.trans' (hE7.trans' hx8)⟩
end Go.Proofs.Ytpnbgoahjoabkaa

/- QuantExact: where all levels are exact, and no key has less than 0, the answer is the first key up to which all have the rank. No condition: every input. -/
namespace Go.Proofs.Ytpnbgoahjoabkaa
set_option linter.unusedVariables false
open Go.ChangeShapes Go.WideShapes Go.ChangeAt Go.RowKit

set_option maxRecDepth 100000 in
theorem quantExact_lifted (os : Os) (started : os.Started) (H : Type) (enc : TypeId × Value → H) :
    ReturnsInHanded {} Try.checked os 15 .any (Rows.quantExactSpec.pre6 enc Try.prog Try.f15 Rows.quantExactRow.domain false) (Rows.quantExactSpec.post enc Try.prog Try.f15 false true false false) := by
  refine returnsInHanded_of_change_sized (C := Try.checked) own started (by kernel_rfl) Try.func15
    (ChangeSpec.witness6 (enc := enc) (C := Try.checked) false ⟨#[], #[.agg #[.int .i64 0, .int .i64 0, .int .i64 0, .int .i64 0, .int .u64 0, .slice none 0 0], .int .i64 0], []⟩ 8 (by kernel_rfl) (by kernel_rfl) (by kernel_rfl) (by kernel_rfl)) ?_
  intro W base args ds gs before hval0 hW hcnd hsz0 _
  have hval : ∀ (j : Nat) t v, Try.f15.params[j]? = some t → args[j]? = some v → Value.okWide Try.prog W .any base t v := hval0
  have hW' := hW
  obtain ⟨p, q, hA0, hV, rfl, hfz, hnd⟩ := hW
  have hA : DataW.TrodAll enc Try.prog W 0 (fun _ => true) true Try.f15.params.toList args.toList ds p := hA0
  have hsz : (DataW.weightsEach Try.prog (Try.f15.params.toList ++ Rows.quantExactSpec.plain.varTypes Try.prog) (ds ++ gs)).all (· ≤ reachBytes) = true := hsz0
  rw [Try.params15] at hA hval hsz
  obtain ⟨v0, vs0, d0, ds0, p0, q0, hargs, rfl, rfl, h0, r0⟩ := trodAll_cons hA
  obtain ⟨v1, vs1, d1, ds1, p1, q1, rfl, rfl, rfl, h1, r1⟩ := trodAll_cons r0
  obtain ⟨rfl, rfl, rfl⟩ := trodAll_nil r1
  obtain rfl : args = #[v0, v1] := by cases args; simp_all
  obtain ⟨rfl, rfl⟩ := trodVars_none hV
  have k0 := h0
  have k1 := h1
  have lt0 : ∀ x ∈ p0, x.block < W.heap.size := by obtain ⟨m, hm⟩ := k0; exact DataW.trod_lt m _ _ _ hm
  have lt1 : ∀ x ∈ p1, x.block < W.heap.size := by obtain ⟨m, hm⟩ := k1; exact DataW.trod_lt m _ _ _ hm
  obtain ⟨x0, us0, u0, hx0, hus0, hat0, rfl, hr0⟩ := play17_of (hval 0 _ v0 rfl rfl) h0
  have hul0 := hr0 _ _ 0 hsz rfl rfl
  obtain ⟨n1, rfl, _, _, wf1⟩ := open_int Try.underlying2 (hval 1 _ v1 rfl rfl) h1
  have hn1 := wf_i64 wf1
  clear hA0 hval0
  refine (QExactL_c x0 hx0 n1 hn1 us0 hus0 u0 W hat0 hul0).mono fun e W' ⟨he, bel⟩ => ?_
  subst he
  exact ⟨_, rfl, _, _, _, [], _, [], hW', trodAll_mk1 (shut_bool Try.underlying4 _), (trodAll_cons_mk (Below.trod laidOut (by kernel_rfl) (of_decide_eq_true (by kernel_rfl)) k0 bel lt0) (trodAll_cons_mk (Below.trod laidOut (by kernel_rfl) (of_decide_eq_true (by kernel_rfl)) k1 bel lt1) trodAll_mk0)), rfl, bel.frame _, fun h => by cases h⟩
end Go.Proofs.Ytpnbgoahjoabkaa
