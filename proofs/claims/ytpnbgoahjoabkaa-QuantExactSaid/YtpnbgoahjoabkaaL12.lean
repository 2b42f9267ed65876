/- Part. No condition. -/
import Derived.Test.YtpnbgoahjoabkaaL9

/- gaugerlaw16.SpanExact, walked. -/
namespace Go.Proofs.Ytpnbgoahjoabkaa
set_option linter.unusedVariables false
open Go.RowKit
/-- A config whose columns are as many as its keys. -/
def exC (x : Cfg) : Cfg := ⟨(mkC x 7 9).bits, (mkC x 7 9).rows, 2 ^ (mkC x 7 9).bits.toNat, (mkC x 7 9).mode, (mkC x 7 9).seed⟩
theorem exC_ok (x : Cfg) (hs : U64 x.seed) : (exC x).Ok ∧ (exC x).bits ≤ 7 ∧ ∀ n : Nat, isX (exC x) n = true := by
  have h := mkC_ok x hs (nb := 7) (nw := 9) (by decide) (by decide) (by decide) (by decide)
  have hb : (mkC x 7 9).bits ≤ 7 := by
    show 1 + x.bits % 65536 % 7 ≤ 7
    omega
  have hb1 := h.b1
  have hw : (1 : Int) ≤ 2 ^ (mkC x 7 9).bits.toNat ∧ (2 : Int) ^ (mkC x 7 9).bits.toNat ≤ 128 := by
    have h1 := pw (mkC x 7 9).bits.toNat
    have h2 : (2 : Nat) ^ (mkC x 7 9).bits.toNat ≤ 2 ^ 7 := Nat.pow_le_pow_right (by decide) (by omega)
    have e : ((2 ^ (mkC x 7 9).bits.toNat : Nat) : Int) = (2 : Int) ^ (mkC x 7 9).bits.toNat := by push_cast; rfl
    omega
  refine ⟨⟨h.b1, h.b2, h.r1, h.r2, hw.1, hw.2, h.m1, h.m2, h.s⟩, hb, fun n => ?_⟩
  unfold isX
  have : keys (exC x) n ≤ (exC x).width := by
    show (2 : Int) ^ ((mkC x 7 9).bits - (n : Int)).toNat ≤ 2 ^ (mkC x 7 9).bits.toNat
    have h2 : (2 : Nat) ^ ((mkC x 7 9).bits - (n : Int)).toNat ≤ 2 ^ (mkC x 7 9).bits.toNat := Nat.pow_le_pow_right (by decide) (by omega)
    exact_mod_cast h2
  simpa using this
theorem shl1 {B : Nat} (h : B ≤ 59) : wrap64 (2 ^ min (IntKind.u64.wrap (B : Int)).toNat 64) = 2 ^ B := by
  have e : (IntKind.u64.wrap (B : Int)).toNat = B := by rw [IntKind.wrap_u64]; omega
  have hp := pow_bd B h
  rw [e, Nat.min_eq_left (by omega)]
  unfold wrap64
  omega
set_option maxRecDepth 20000 in
set_option maxHeartbeats 8000000 in
theorem SExactL_c (x : Cfg) (hx : x.Raw) (ka : Int) (hka : U64 ka) (kb : Int) (hkb : U64 kb) (us : List (Int × Int)) (hus : UpsOk us) (v : Value) (w : World) (hv : UpsAt w v us) (hul : us.length ≤ 140737488355328) :
    Calls Try.prog 19 #[.agg #[.int .i64 x.bits, .int .i64 x.rows, .int .i64 x.width, .int .i64 x.mode, .int .u64 x.seed, v], .int .u64 ka, .int .u64 kb] w fun e w' => e = .returned (.bool true) ∧ Ext w w' := by
  obtain ⟨vp, vc, rfl⟩ := hv.sl
  have HV := Lib.hid hv
  clear hv
  obtain ⟨hok, hb7, hallx⟩ := exC_ok x hx.s
  go_enter Try.func19, Try.ntmps19
  go_wp2_with fail
  refine (shown16_c _).mono ?_
  rintro e w1 ⟨rfl, hb1⟩
  have hE1 : Ext w w1 := by (repeat' (first | exact Ext.refl _ | assumption | apply Ext.allocR | apply Ext.drewR | apply Ext.drewNR | (refine Ext.trans' ?_ (by assumption))))
  have hP1 := hb1.keep (heap_at w (.cells #[.int .i64 x.bits, .int .i64 x.rows, .int .i64 x.width, .int .i64 x.mode, .int .u64 x.seed, .slice vp us.length vc] 97) rfl)
  have p0 := (cell_of hP1 0).trans rfl
  have p1 := (cell_of hP1 1).trans rfl
  have p2 := (cell_of hP1 2).trans rfl
  have p3 := (cell_of hP1 3).trans rfl
  have p4 := (cell_of hP1 4).trans rfl
  have p5 := (cell_of hP1 5).trans rfl
  have pl := lt_of hP1
  clear hb1
  go_wp2_with fail
  refine (Any_c x hx 7 9 (by decide) (by decide) (by decide) (by decide) _).mono ?_
  rintro e wa ⟨rfl, hba⟩
  have hEa : Ext w wa := by (repeat' (first | exact Ext.refl _ | assumption | apply Ext.allocR | apply Ext.drewR | apply Ext.drewNR | (refine Ext.trans' ?_ (by assumption))))
  have kp := hba.keep hP1
  have hC : exC x = ⟨(mkC x 7 9).bits, (mkC x 7 9).rows, 2 ^ (mkC x 7 9).bits.toNat, (mkC x 7 9).mode, (mkC x 7 9).seed⟩ := rfl
  generalize exC x = C at *
  generalize hA : mkC x 7 9 = A at *
  clear hA
  have hb1 : 1 ≤ A.bits := by have := hok.b1; rw [hC] at this; exact this
  have hb2 : A.bits ≤ 7 := by rw [hC] at hb7; exact hb7
  obtain ⟨B, hB⟩ : ∃ B : Nat, A.bits = B := ⟨A.bits.toNat, by omega⟩
  have HC := Lib.hid hC
  have HB := Lib.hid hB
  clear hC hba p0 p1 p2 p3 p4 p5 pl hP1 hE1
  have hcb : C.bits = B := by rw [HC.out]; exact hB
  have hcr : A.rows = C.rows := by rw [HC.out]
  have hcw : (2 : Int) ^ B = C.width := by rw [HC.out, hB]; rfl
  have hcm : A.mode = C.mode := by rw [HC.out]
  have hcs : A.seed = C.seed := by rw [HC.out]
  rw [hB, hcr, hcm, hcs]
  have hpw := pow_bd B (by omega)
  have hsh := shl1 (B := B) (by omega)
  clear hB hcr hcm hcs HB HC
  have hkz := hok.b1
  go_wp2_with fail
  rw [← hcb]
  clear hsh
  obtain ⟨wc, hwc⟩ : ∃ wc, wa.alloc (.cells #[.int .i64 C.bits, .int .i64 C.rows, .int .i64 C.width, .int .i64 C.mode, .int .u64 C.seed] 24) = wc := ⟨_, rfl⟩
  have kc : wc.heap[wa.heap.size]? = some (.cells #[.int .i64 C.bits, .int .i64 C.rows, .int .i64 C.width, .int .i64 C.mode, .int .u64 C.seed] 24 (0, 0)) := by rw [← hwc]; exact heap_at _ _ rfl
  have hxc : Ext wa wc := by rw [← hwc]; exact Ext.alloc' _ _
  rw [hwc]
  clear hwc
  have hEc : Ext w wc := hEa.trans' hxc
  have kp2 := hxc.keep kp
  have hcl := lt_of kc
  refine (KNew_c C hok _).mono ?_
  rintro e w2 ⟨s, g, L, rfl, hK, hs, hg, hL, hx2⟩
  have hBt : C.bits.toNat = B := by omega
  rw [hBt] at hK hL
  have hBd : B ≤ 59 := by omega
  have hE2 : Ext w w2 := hEc.trans' hx2
  have hs2 := hx2.size
  have KP := Lib.hid (hx2.keep kp2)
  have KC := Lib.hid (hx2.keep kc)
  have hF : KFresh wc.heap.size B L := hL
  have hnc : ∀ k, k < wc.heap.size → ¬ cellsOf B L k := fun k hk hc => by obtain ⟨n, hn, rfl⟩ := hc; have := (hF n hn).2.2; omega
  have HB := Lib.hid hcb
  have HX := Lib.hid hallx
  clear hx2 hL hBt kp2 kc kp hcb hcw hallx
  go_wp2
  have hM0 : Mod (cellsOf B L) w2 w2 := Mod.refl _ _
  have hK0 : KAt w2 s g C B L (feedK C (fus us 0 0)) := by rw [fus_self]; exact hK
  clear hK
  go_loopw [11] (fun u wr => ∃ k : Nat, 0 ≤ k ∧ (k = 0 ∨ (k ≤ 60 ∧ k ≤ us.length)) ∧ u = .int .i64 k ∧ Mod (cellsOf B L) w2 wr ∧ KAt wr s g C B L (feedK C (fus us 0 k))) (fun u _ => 60 - (intOf u).toNat)
  case atStart => exact ⟨0, Nat.le_refl _, .inl rfl, rfl, hM0, hK0⟩
  case round =>
    clear hM0 hK0
    obtain ⟨k, hik, hkj, rfl, hM, hK⟩ := hrel
    have hMs := hM.size
    have hsz1 := hEc.size
    have hszp := hEa.size
    have hszc := hxc.size
    have qp := hM.keep KP.out (hnc _ (by have := lt_of KP.out; omega))
    have qc := hM.keep KC.out (hnc _ hcl)
    have q5 := (cell_of qp 5).trans rfl
    have lp := lt_of qp
    have lc := lt_of qc
    have hCq := CfgAt.of qc
    have c0 := hCq.c0
    have c1 := hCq.c1
    have c2 := hCq.c2
    have c3 := hCq.c3
    have c4 := hCq.c4
    clear hCq
    by_cases hgo : k < us.length ∧ k < 60
    · obtain ⟨hg1, hg2⟩ := hgo
      have hkj60 : k < 60 := by omega
      obtain ⟨ug, off, rfl, hul0, d0', d1'⟩ := HV.out.one hg1
      have hnu : ¬ cellsOf B L ug := hnc _ (by omega)
      have d0 := (mcell hM (b := ug) (by omega) hnu (off + k * 2)).trans (((bcell hE2).1 _ _ hul0).trans d0')
      have d1 := (mcell hM (b := ug) (by omega) hnu (off + k * 2 + 1)).trans (((bcell hE2).1 _ _ hul0).trans d1')
      have hgl2 : ug < wr.heap.size := by omega
      have hf := fus_snoc us (Nat.zero_le k) hg1
      have hu := hus _ (List.getElem_mem hg1)
      have hget : us.getD k (0, 0) = us[k] := by simp [hg1]
      rw [hget] at hf
      generalize us[k] = uu at *
      obtain ⟨uk, ud⟩ := uu
      have HF := Lib.hid hf
      clear hf hget d0' d1'
      have herr := feedK_ok C hok HB.out (fus us 0 k) (by have := fus_len us 0 k; omega) (uk, ud)
      have HERR := Lib.hid herr
      have HQ := Lib.hid qp
      have HK := Lib.hid hK
      clear herr qp qc hK
      go_upto_region 10 with (fail)
      go_cut [12] (fun s12 wx => ∃ bu : Nat, s12 = .pointer (some ⟨bu, 0, none⟩) ∧ wx.heap[bu]? = some (.cells #[.int .u64 (cutK C 0 uk), .int .i64 (cutD C.mode ud)] 38 (0, 0)) ∧ Ext wr wx ∧ wr.heap.size ≤ bu)
      case first =>
        have hC0 := af_drew wr
        refine pi_start (fun w' => ∃ x : After wr, w' = x.w) [] (by kernel_rfl) ?_
        refine pi_c 0 (by assumption) rfl (by kernel_rfl) (by kernel_rfl) (fun _ _ _ _ h => h) (fun K hK => ?_)
        go_big_quiet_op
        refine hK _ ?_
        clear hK K
        refine pi_t 1 rfl (by kernel_rfl) (by kernel_rfl) (fun _ _ _ _ h => h) (fun K hK => ?_)
        go_big_quiet_op
        refine hK _ ?_
        clear hK K
        refine pi_c 2 (by assumption) rfl (by kernel_rfl) (by kernel_rfl) (fun _ _ _ _ h => h) (fun K hK => ?_)
        go_big_quiet_op
        refine hK _ ?_
        clear hK K
        refine pi_t 3 rfl (by kernel_rfl) (by kernel_rfl) (fun _ _ _ _ h => h) (fun K hK => ?_)
        go_big_quiet_op
        refine hK _ ?_
        clear hK K
        refine pi_t 4 rfl (by kernel_rfl) (by kernel_rfl) (fun _ _ _ _ h => h) (fun K hK => ?_)
        go_big_quiet_op
        refine hK _ ?_
        clear hK K
        refine pi_c 5 (by assumption) rfl (by kernel_rfl) (by kernel_rfl) (fun _ _ _ _ h => h) (fun K hK => ?_)
        go_big_quiet_op
        refine hK _ ?_
        clear hK K
        refine pi_b 6 7 rfl rfl (by kernel_rfl) (fun K hK => ?_) (fun K hK => ?_)
        · go_wp2_with (go_at_call 50; refine (Cut15_c C hok uk ud hu.1 hu.2 _).mono ?_; rintro e w3 ⟨rfl, hx3⟩)
          have hx3' : Ext wr w3 := Ext.trans' (Below.drew (Ext.refl wr)) hx3
          have hs3 := hx3'.size
          refine hK _ _ (fun _ h => af_step h hx3) ?_
          clear hK K
          refine pi_l 7 rfl (by kernel_rfl) (fun K hK => ?_)
          go_wp2
          refine hK _ _ (fun _ h => af_step h (Ext.alloc' _ _)) ?_
          clear hK K
          refine pi_l 8 rfl (by kernel_rfl) (fun K hK => ?_)
          go_wp2
          refine hK _ _ (fun _ _ => ⟨⟨_, hx3'.allocR _⟩, rfl⟩) ?_
          clear hK K
          refine pi_end (by kernel_rfl) ?_
          go_wp2_with fail
          go_meet
          exact ⟨w3.heap.size, rfl, heap_at _ _ rfl, hx3'.allocR _, hs3⟩
        · go_wp2
          refine hK _ _ (fun _ h => af_step h (Ext.alloc' _ _)) ?_
          clear hK K
          refine pi_l 6 rfl (by kernel_rfl) (fun K hK => ?_)
          go_wp2_with (go_at_call 50; refine (Cut15_c C hok uk ud hu.1 hu.2 _).mono ?_; rintro e w3 ⟨rfl, hx3⟩)
          refine hK _ _ (fun _ h => af_step h hx3) ?_
          clear hK K
          have hs3 : (wr.alloc (.cells #[.int .u64 0, .int .i64 0] 38)).heap.size ≤ w3.heap.size := hx3.size
          rw [size_alloc] at hs3
          have hx3' : Ext wr w3 := Ext.trans' (Ext.alloc' wr _) (Ext.trans' (Below.drew (Ext.refl _)) hx3)
          have hbx : w3.heap[wr.heap.size]? = some (.cells #[.int .u64 0, .int .i64 0] 38 (0, 0)) := by
            rw [hx3.block _ (by show _ < (wr.alloc _).heap.size; rw [size_alloc]; exact Nat.lt_succ_self _)]
            exact heap_at wr _ rfl
          have p0 := (cell_of hbx 0).trans rfl
          have p1 := (cell_of hbx 1).trans rfl
          have f0 := frozen_of hbx 0
          have f1 := frozen_of hbx 1
          refine pi_l 8 rfl (by kernel_rfl) (fun K hK => ?_)
          go_wp2
          refine hK _ _ (fun _ _ => ⟨⟨_, (hx3'.setR (Nat.le_refl _) _).setR (Nat.le_refl _) _⟩, rfl⟩) ?_
          clear hK K
          refine pi_end (by kernel_rfl) ?_
          go_wp2_with fail
          go_meet
          exact ⟨wr.heap.size, rfl, set2 hbx _ _, (hx3'.setR (Nat.le_refl _) _).setR (Nat.le_refl _) _, Nat.le_refl _⟩
      case rest =>
        obtain ⟨bu, rfl, hbu, hxw, hbul⟩ := hcut
        have b0 := (cell_of hbu 0).trans rfl
        have b1 := (cell_of hbu 1).trans rfl
        have hdI : I64 (cutD C.mode ud) := by have := cutD_bd C.mode ud; unfold I64; omega
        have hkU : U64 (cutK C 0 uk) := by have := cutK_bd C hok 0 uk (Int.le_refl 0); have := keys_bd C hok 0 (Int.le_refl 0); unfold U64; omega
        clear c0 c1 c2 c3 c4 q5 d0 d1
        go_wp2_with fail
        refine Calls.mono (KUpdate_c s g C B L _ _ _ _ (HK.out.ext hxw) hdI hkU) ?_
        rintro e w4 ⟨rfl, hK4, hM4⟩
        rw [HERR.out] at hK4 ⊢
        go_wp2
        go_roundw
        case rel =>
          refine ⟨k + 1, by omega, .inr ⟨by omega, by omega⟩, by go_num, hM.trans ((hxw.mod _).trans hM4), ?_⟩
          rw [HF.out, feedK_snoc]
          exact hK4
        case measure => simp [intOf]; omega
    · have hfe := fus_end us (i := 0) (j := 60) (k := k) (by omega) (by omega) hkj hgo
      rw [hfe] at hK
      have hEr : Ext w wr := Below.trans hE2 (hM.below (B := w.heap.size) (by omega) (fun k hk => by obtain ⟨n, hn, rfl⟩ := hk; have := (hF n hn).2.2; omega))
      have HQP := Lib.hid qp
      have HQC := Lib.hid qc
      clear qp qc hfe
      have hkp := keys0_pow HB.out
      have hmod1 := Int.emod_lt_of_pos ka (b := keys C 0) (by omega)
      have hmod2 := Int.emod_lt_of_pos kb (b := keys C 0) (by omega)
      have hmod3 := Int.emod_nonneg ka (b := keys C 0) (by omega)
      have hmod4 := Int.emod_nonneg kb (b := keys C 0) (by omega)
      obtain ⟨KN, hKN⟩ : ∃ KN, KN = keys C 0 := ⟨_, rfl⟩
      rw [← hKN] at hmod1 hmod2 hmod3 hmod4
      obtain ⟨lo, hlo⟩ : ∃ lo, lo = min (ka % KN) (kb % KN) := ⟨_, rfl⟩
      obtain ⟨hi, hhi⟩ : ∃ hi, hi = max (ka % KN) (kb % KN) := ⟨_, rfl⟩
      have h0 : 0 ≤ lo := by omega
      have h1 : lo ≤ hi := by omega
      have h2 : hi < 2 ^ B := by omega
      have hhi64 : U64 hi := by unfold U64; omega
      have hlo64 : U64 lo := by unfold U64; omega
      have hT := feed_total hok HB.out hus
      have hU := uniq_fed C B us
      have hR : ∀ W', Ext wr W' → Calls Try.prog 73 #[.pointer (some ⟨s, 0, none⟩), .int .u64 lo, .int .u64 hi] W' (fun e w' => e = .returned (.tuple #[.int .i64 (betK C us 60 lo hi), .int .i64 0]) ∧ Ext W' w') := fun W' h => by
        have := Range_c s g C B L _ W' (hK.ext h) _ hU (ptK_I64 C B us) lo hi hlo64 hhi64
        refine this.mono fun e w' h => ?_
        have := range_ok h h1 h2 (cv_I64 hBd us lo hi)
        rw [cv_eq hok HB.out hus (fun n _ => HX.out n) h0 h1 h2] at this
        exact this
      have hR2 : ∀ W', Ext wr W' → Calls Try.prog 74 #[.pointer (some ⟨s, 0, none⟩), .int .u64 (KN - 1)] W' (fun e w' => e = .returned (.tuple #[.int .i64 (hasK C us 60 B 0), .int .i64 0]) ∧ Ext W' w') := fun W' h => by
        have := Rank_c s g C B L _ W' (hK.ext h) _ hU (ptK_I64 C B us) (KN - 1) (by unfold U64; omega)
        refine this.mono fun e w' h => ?_
        have := range_ok h (by omega) (by omega) (cv_I64 hBd us 0 _)
        rw [hKN, hkp, cv_all hok HB.out hus] at this
        exact this
      have hTt : ∀ W', Ext wr W' → Calls Try.prog 54 #[.pointer (some ⟨s, 0, none⟩)] W' (fun e w' => e = .returned (.int .i64 (hasK C us 60 B 0)) ∧ Ext W' w') := fun W' h => by
        have := KTotal_c s g C B L _ W' (hK.ext h)
        rw [hT] at this
        exact this
      have hKy : ∀ W', Calls Try.prog 49 #[.agg #[.int .i64 C.bits, .int .i64 C.rows, .int .i64 C.width, .int .i64 C.mode, .int .u64 C.seed], .int .i64 0] W' (fun e w' => e = .returned (.int .u64 KN) ∧ Ext W' w') := fun W' => by rw [hKN]; exact KeysR_c C hok 0 (Int.le_refl 0) (by omega) W'
      have hBe := fun W' (h : Ext wr W') => Between16_c us hus (.slice vp us.length vc) C hok lo hi hlo64 hhi64 W' (HV.out.ext (hEr.trans' h)) hul
      generalize betK C us 60 lo hi = bt at *
      generalize hasK C us 60 B 0 = T at *
      have HR := Lib.hid hR
      have HR2 := Lib.hid hR2
      have HTT := Lib.hid hTt
      have HKY := Lib.hid hKy
      have HBE := Lib.hid hBe
      have hkz : (KN == 0) = false := by simp; omega
      have hKN1 : 1 ≤ KN := by omega
      have hKN2 : KN ≤ 576460752303423488 := by omega
      have tri : (((kb % KN < ka % KN) = False) ∧ ((ka % KN < kb % KN) = True) ∧ ka % KN = lo ∧ kb % KN = hi) ∨ (((kb % KN < ka % KN) = False) ∧ ((ka % KN < kb % KN) = False) ∧ ka % KN = lo ∧ ka % KN = hi) ∨ (((kb % KN < ka % KN) = True) ∧ ((ka % KN < kb % KN) = False) ∧ kb % KN = lo ∧ ka % KN = hi) := by
        rcases Int.lt_trichotomy (ka % KN) (kb % KN) with h | h | h
        · exact .inl ⟨eq_false (by omega), eq_true h, by omega, by omega⟩
        · exact .inr (.inl ⟨eq_false (by omega), eq_false (by omega), by omega, by omega⟩)
        · exact .inr (.inr ⟨eq_true h, eq_false (by omega), by omega, by omega⟩)
      have TRI := Lib.hid tri
      have hka0 := hka.1
      have hka1 := hka.2
      have hkb0 := hkb.1
      have hkb1 := hkb.2
      clear hR hR2 hTt hKy hBe hT hU hK hkp hKN hlo hhi tri hmod1 hmod2 hmod3 hmod4
      go_upto_region 8 with (fail)
      go_cut [48] (fun s48 wx => s48 = .bool false ∧ wx = wr)
      case first =>
        by_cases hg1 : k < us.length
        · have hg2 : ¬ k < 60 := fun h => hgo ⟨hg1, h⟩
          go_wp2_with fail
          go_meet
          exact ⟨by simp; omega, rfl⟩
        · go_wp2_with fail
          go_meet
          exact ⟨rfl, rfl⟩
      case rest =>
       obtain ⟨rfl, rfl⟩ := hcut
       clear q5 lp
       go_wp2_with fail
       refine (HKY.out _).mono ?_
       rintro e w3 ⟨rfl, hE3⟩
       clear c0 c1 c2 c3 c4 lc HKY
       go_upto_region 14 with (fail)
       go_cut [14] (fun s14 wx => s14 = .int .u64 lo ∧ Ext w3 wx)
       case first =>
         have hC0 := af_drew w3
         rcases TRI.out with ⟨t1, t2, t3, t4⟩ | ⟨t1, t2, t3, t4⟩ | ⟨t1, t2, t3, t4⟩
         all_goals
           have HT := Lib.hid t3
           clear t3 t4
           refine pi_start (fun w' => ∃ x : After w3, w' = x.w) [] (by kernel_rfl) ?_
           refine pi_t 0 rfl (by kernel_rfl) (by kernel_rfl) (fun _ _ _ _ h => h) (fun K hK => ?_)
           go_big_quiet_op
           refine hK _ ?_
           clear hK K
           refine pi_t 1 rfl (by kernel_rfl) (by kernel_rfl) (fun _ _ _ _ h => h) (fun K hK => ?_)
           go_big_quiet_op
           refine hK _ ?_
           clear hK K
           refine pi_t 2 rfl (by kernel_rfl) (by kernel_rfl) (fun _ _ _ _ h => h) (fun K hK => ?_)
           go_big_quiet_op
           refine hK _ ?_
           clear hK K
           refine pi_t 3 rfl (by kernel_rfl) (by kernel_rfl) (fun _ _ _ _ h => h) (fun K hK => ?_)
           go_big_quiet_op
           refine hK _ ?_
           clear hK K
           refine pi_t 4 rfl (by kernel_rfl) (by kernel_rfl) (fun _ _ _ _ h => h) (fun K hK => ?_)
           go_big_quiet_op
           refine hK _ ?_
           clear hK K
           refine pi_t 5 rfl (by kernel_rfl) (by kernel_rfl) (fun _ _ _ _ h => h) (fun K hK => ?_)
           go_big_quiet_op
           refine hK _ ?_
           clear hK K
           refine pi_t 6 rfl (by kernel_rfl) (by kernel_rfl) (fun _ _ _ _ h => h) (fun K hK => ?_)
           go_big_quiet_op
           refine hK _ ?_
           clear hK K
           refine pi_t 7 rfl (by kernel_rfl) (by kernel_rfl) (fun _ _ _ _ h => h) (fun K hK => ?_)
           go_big_quiet_op
           refine hK _ ?_
           clear hK K
           refine pi_end (by kernel_rfl) ?_
           go_wp2_with fail
           go_meet
           exact ⟨by rw [HT.out], Ext.drewR (Ext.refl _)⟩
       case rest =>
         obtain ⟨rfl, hx4⟩ := hcut
         go_upto_region 15 with (fail)
         go_cut [15] (fun s15 wx => s15 = .int .u64 hi ∧ Ext wc wx)
         case first =>
           have hC0 := af_drew wc
           rcases TRI.out with ⟨t1, t2, t3, t4⟩ | ⟨t1, t2, t3, t4⟩ | ⟨t1, t2, t3, t4⟩
           all_goals
             have HT := Lib.hid t4
             clear t3 t4
             refine pi_start (fun w' => ∃ x : After wc, w' = x.w) [] (by kernel_rfl) ?_
             refine pi_t 0 rfl (by kernel_rfl) (by kernel_rfl) (fun _ _ _ _ h => h) (fun K hK => ?_)
             go_big_quiet_op
             refine hK _ ?_
             clear hK K
             refine pi_t 1 rfl (by kernel_rfl) (by kernel_rfl) (fun _ _ _ _ h => h) (fun K hK => ?_)
             go_big_quiet_op
             refine hK _ ?_
             clear hK K
             refine pi_t 2 rfl (by kernel_rfl) (by kernel_rfl) (fun _ _ _ _ h => h) (fun K hK => ?_)
             go_big_quiet_op
             refine hK _ ?_
             clear hK K
             refine pi_t 3 rfl (by kernel_rfl) (by kernel_rfl) (fun _ _ _ _ h => h) (fun K hK => ?_)
             go_big_quiet_op
             refine hK _ ?_
             clear hK K
             refine pi_t 4 rfl (by kernel_rfl) (by kernel_rfl) (fun _ _ _ _ h => h) (fun K hK => ?_)
             go_big_quiet_op
             refine hK _ ?_
             clear hK K
             refine pi_t 5 rfl (by kernel_rfl) (by kernel_rfl) (fun _ _ _ _ h => h) (fun K hK => ?_)
             go_big_quiet_op
             refine hK _ ?_
             clear hK K
             refine pi_t 6 rfl (by kernel_rfl) (by kernel_rfl) (fun _ _ _ _ h => h) (fun K hK => ?_)
             go_big_quiet_op
             refine hK _ ?_
             clear hK K
             refine pi_t 7 rfl (by kernel_rfl) (by kernel_rfl) (fun _ _ _ _ h => h) (fun K hK => ?_)
             go_big_quiet_op
             refine hK _ ?_
             clear hK K
             refine pi_end (by kernel_rfl) ?_
             go_wp2_with fail
             go_meet
             exact ⟨by rw [HT.out], Ext.drewR (Ext.refl _)⟩
         case rest =>
           obtain ⟨rfl, hx5⟩ := hcut
           have hE5 := (hE3.trans' hx4).trans' hx5
           clear hx4 hx5 hE3 TRI
           go_wp2_with fail
           refine (HR.out _ hE5).mono ?_
           rintro e w6 ⟨rfl, hx6⟩
           have hE6 := hE5.trans' hx6
           clear hx6 hE5 HR
           go_wp2_with fail
           refine (HR2.out _ hE6).mono ?_
           rintro e w7 ⟨rfl, hx7⟩
           have hE7 := hE6.trans' hx7
           clear hx7 hE6 HR2
           have qp7 := hE7.keep HQP.out
           have hC7 := (CfgAt.of HQC.out).ext hE7
           have c0 := hC7.c0
           have c1 := hC7.c1
           have c2 := hC7.c2
           have c3 := hC7.c3
           have c4 := hC7.c4
           have cl := hC7.lt
           have p5 := (cell_of qp7 5).trans rfl
           have pl := lt_of qp7
           clear hC7 qp7
           go_wp2_with fail
           refine (HBE.out _ hE7).mono ?_
           rintro e w8 ⟨rfl, hx8⟩
           have hE8 := hE7.trans' hx8
           clear hx8 hE7 c0 c1 c2 c3 c4 cl p5 pl
           go_wp2_with fail
           refine (HTT.out _ hE8).mono ?_
           rintro e w9 ⟨rfl, hx9⟩
           go_wp2
           go_ret
           exact ⟨rfl, hEr.trans' (hE8.trans' hx9)⟩
end Go.Proofs.Ytpnbgoahjoabkaa
