/- WindowLast: the sum is the stack that was fed just the updates since as many ticks as there are buckets. No condition: every input. -/
import Derived.Test.YteoblkcbemeamaaGreatL12
import Derived.Test.YteoblkcbemeamaaGreatL13

/- gaugerlaw24.WindowLast, walked. -/
namespace Go.Proofs.YteoblkcbemeamaaGreat
set_option linter.unusedVariables false
open Go.RowKit
theorem ops_cut {os : List Opn} {m k : Nat} (hm : m ≤ os.length) (hk : k < m) : (os.take m).drop k = os[k]'(by omega) :: (os.take m).drop (k + 1) := by
  rw [List.drop_eq_getElem_cons (by rw [List.length_take]; omega)]
  congr 1
  exact List.getElem_take
theorem ticks_take {os : List Opn} {k : Nat} (hk : k < os.length) : ticksO (os.take (k + 1)) = ticksO (os.take k) + (if isT os[k] = true then 1 else 0) := by
  rw [List.take_succ_eq_append_getElem hk, ticksO_snoc]
theorem keep_end (n : Nat) (os : List Opn) (m : Nat) : keepO n ((os.take m).drop m) = [] ∧ ticksO ((os.take m).drop m) = 0 := by
  rw [List.drop_eq_nil_of_le (by rw [List.length_take]; omega)]; exact ⟨rfl, rfl⟩
set_option maxRecDepth 20000 in
set_option maxHeartbeats 8000000 in
theorem WLastL_c (x : Cfg) (hx : x.Raw) (b : Int) (hb : I64 b) (os : List Opn) (hos : OpsOk os) (v : Value) (w : World) (hv : OpsAt w v os) (hul : os.length ≤ 140737488355328) :
    Calls Tryz.prog 9 #[.agg #[.int .i64 x.bits, .int .i64 x.rows, .int .i64 x.width, .int .i64 x.mode, .int .u64 x.seed], .int .i64 b, v] w fun e w' => e = .returned (.bool true) ∧ Ext w w' := by
  obtain ⟨vp, vc, rfl⟩ := hv.sl
  have HV := Lib.hid hv
  have n0 : 0 ≤ b % 65536 % 16 := Int.emod_nonneg _ (by decide)
  have n1 := Int.emod_lt_of_pos (b % 65536) (show (0 : Int) < 16 by decide)
  obtain ⟨n, hn⟩ : ∃ n : Nat, 1 + b % 65536 % 16 = n := ⟨(1 + b % 65536 % 16).toNat, by omega⟩
  have h1 : 1 ≤ n := by omega
  have h2 : n ≤ 16 := by omega
  have hR := fun W => right24_c x hx b W
  simp only [hn] at hR
  have hok := kcfg_ok x hx.s (nb := 6) (m := 1) (by decide) (by decide) (by decide)
  have hmd := kcfg_mode x 6 (m := 1) (by decide)
  generalize kcfg x 6 1 = C at *
  obtain ⟨B, hB⟩ : ∃ B : Nat, C.bits = B := ⟨C.bits.toNat, by have := hok.b1; omega⟩
  have hBd : B ≤ 59 := by have := hok.b2; omega
  have HR := Lib.hid hR
  have HM := Lib.hid hmd
  have HB := Lib.hid hB
  clear hv hR n0 n1 hn hmd hB
  go_enter Tryz.func9, Tryz.ntmps9
  go_wp2_with fail
  refine (shown24_c _).mono ?_
  rintro e w1 ⟨rfl, hb1⟩
  have hE1 : Ext w w1 := by (repeat' (first | exact Ext.refl _ | assumption | apply Ext.allocR | apply Ext.drewR | apply Ext.drewNR | (refine Ext.trans' ?_ (by assumption))))
  have hC := (CfgAt.box (w := w) x 24 rfl).ext hb1
  have c0 := hC.c0
  have c1 := hC.c1
  have c2 := hC.c2
  have c3 := hC.c3
  have c4 := hC.c4
  have cl := hC.lt
  clear hC hb1
  go_wp2_with fail
  refine (HR.out _).mono ?_
  rintro e w2 ⟨rfl, hx2⟩
  have hE2 : Ext w w2 := by (repeat' (first | exact Ext.refl _ | assumption | apply Ext.allocR | apply Ext.drewR | apply Ext.drewNR | (refine Ext.trans' ?_ (by assumption))))
  clear c0 c1 c2 c3 c4 cl hx2 hE1 HR
  go_upto_region 3 with (fail)
  obtain ⟨w3, hw3⟩ : ∃ w3, w2.alloc (.cells #[.int .i64 C.bits, .int .i64 C.rows, .int .i64 C.width, .int .i64 C.mode, .int .u64 C.seed] 24) = w3 := ⟨_, rfl⟩
  have hQ : w3.heap[w2.heap.size]? = some (.cells #[.int .i64 C.bits, .int .i64 C.rows, .int .i64 C.width, .int .i64 C.mode, .int .u64 C.seed] 24 (0, 0)) := by rw [← hw3]; exact heap_at _ _ rfl
  have hE3 : Ext w w3 := by rw [← hw3]; exact hE2.allocR _
  rw [hw3]
  clear hw3 hE2
  have hC3 := CfgAt.of hQ
  have c0 := hC3.c0
  have c1 := hC3.c1
  have c2 := hC3.c2
  have c3 := hC3.c3
  have c4 := hC3.c4
  have cl := hC3.lt
  have hnw := fun W => WS_new C hok HM.out B HB.out n h1 h2 W
  have HNW := Lib.hid hnw
  clear hC3 hnw
  go_wp2_with fail
  refine (HNW.out _).mono ?_
  rintro e w4 ⟨p, rfl, hS, hx4⟩
  have hql : w2.heap.size < w3.heap.size := lt_of hQ
  have HQ3 := Lib.hid hQ
  have HE3 := Lib.hid hE3
  have HSw := Lib.hid hS
  have HQ4 := Lib.hid (hx4.keep hQ)
  have hC4 := CfgAt.of HQ4.out
  have hE4 := hE3.trans' hx4
  clear c0 c1 c2 c3 c4 cl hQ hS HNW
  have c0 := hC4.c0
  have c1 := hC4.c1
  have c2 := hC4.c2
  have c3 := hC4.c3
  have c4 := hC4.c4
  have cl := hC4.lt
  clear hC4
  go_wp2_with fail
  refine (KNew_c C hok _).mono ?_
  rintro e w5 ⟨s, g, L, rfl, hK, hs, hg, hL, hx5⟩
  have hBt : C.bits.toNat = B := by have := HB.out; omega
  rw [hBt] at hK hL
  have hFr : KFresh w4.heap.size B L := hL
  have HFr := Lib.hid hFr
  have HLow := Lib.hid (KAt.low hK)
  have HK0 : Hid (KAt w5 s g C B L (feedK C [])) := Lib.hid (hK.cong fun k _ => (feedK_nil C k).symm)
  have HS0 : Hid (WB w5 w3.heap.size w4.heap.size w5.heap.size p C B n (winO n (os.take 0))) := Lib.hid ((HSw.out.wb (Nat.le_refl _)).ext hx5)
  have HQ5 := Lib.hid (hx5.keep HQ4.out)
  have HE5 := Lib.hid (hE4.trans' hx5)
  have hN3 := hx4.size
  have hN4 := hx5.size
  obtain ⟨m, hm⟩ : ∃ m : Nat, min os.length 60 = m := ⟨_, rfl⟩
  have hml : m ≤ os.length := by omega
  have hm60 : m ≤ 60 := by omega
  have hmi : min ((os.length : Int)) 60 = (m : Int) := by omega
  have hE35 := hx4.trans' hx5
  have HSG := Lib.hid (And.intro hs hg)
  clear c0 c1 c2 c3 c4 cl hK hL hFr HSw HQ4 hE3 hE4 hx4 hx5 hs hg
  go_upto_region 7 with (fail)
  go_cut [14] (fun s14 wx => s14 = .int .i64 m ∧ wx = w5)
  case first =>
    clear HK0 HS0 hE35
    by_cases h60 : 60 < os.length
    · have f1 : ((60 : Int) < (os.length : Int)) = True := by simp; omega
      have f2 : ((os.length : Int) < 60) = False := by simp; omega
      have hmm : m = 60 := by omega
      subst hmm
      clear hm hmi
      go_wp2_with fail
      go_meet
      exact ⟨rfl, rfl⟩
    · have hmm : m = os.length := by omega
      have f1 : ((60 : Int) < (os.length : Int)) = False := by simp; omega
      by_cases h61 : os.length < 60
      · have f2 : ((os.length : Int) < 60) = True := by simp; omega
        clear hm hmi
        go_wp2_with fail
        go_meet
        exact ⟨by rw [hmm], rfl⟩
      · have f2 : ((os.length : Int) < 60) = False := by simp; omega
        have h62 : os.length = 60 := by omega
        clear hm hmi
        go_wp2_with fail
        go_meet
        exact ⟨by rw [hmm, h62] <;> rfl, rfl⟩
  case rest =>
   obtain ⟨rfl, rfl⟩ := hcut
   rename World => w5
   clear hm hmi
   obtain ⟨M1, hM1⟩ : ∃ M1, w4.heap.size = M1 := ⟨_, rfl⟩
   obtain ⟨M2, hM2⟩ : ∃ M2, w5.heap.size = M2 := ⟨_, rfl⟩
   obtain ⟨N, hN⟩ : ∃ N, w3.heap.size = N := ⟨_, rfl⟩
   rw [hM1, hM2, hN] at HS0
   rw [hM2] at HLow
   rw [hM1] at HFr HSG
   have hNM : N ≤ M1 ∧ M1 ≤ M2 := by omega
   have hM2r : M2 ≤ w5.heap.size := by omega
   have HNZ := Lib.hid (And.intro hM1 (And.intro hM2 hN))
   clear hM1 hM2 hN hN3 hN4
   go_wp2
   go_loopw [15, 16] (fun u15 u16 wr => ∃ k : Nat, k ≤ m ∧ u15 = .int .i64 (ticksO (os.take k) : Nat) ∧ u16 = .int .i64 k ∧ Ext w3 wr ∧ WB wr N M1 M2 p C B n (winO n (os.take k)) ∧ KAt wr s g C B L (feedK C []) ∧ M2 ≤ wr.heap.size) (fun _ u16 _ => m - (intOf u16).toNat)
   case atStart => exact ⟨0, Nat.zero_le _, rfl, rfl, hE35, HS0.out, HK0.out, hM2r⟩
   case round =>
    clear hE35 HS0 HK0 hM2r
    obtain ⟨k, hkm, rfl, rfl, hE, hS, hK, hM2r⟩ := hrel
    have HS := Lib.hid hS
    have HK := Lib.hid hK
    clear hS hK
    have hEw : Ext w wr := HE3.out.trans' hE
    by_cases hlt : k < m
    · have hg1 : k < os.length := by omega
      obtain ⟨ug, off, rfl, hul0, d0', d1', d2'⟩ := HV.out.one hg1
      have d0 := ((bcell hEw).1 _ _ hul0).trans d0'
      have d1 := ((bcell hEw).1 _ _ hul0).trans d1'
      have d2 := ((bcell hEw).1 _ _ hul0).trans d2'
      have hgl2 : ug < wr.heap.size := Nat.lt_of_lt_of_le hul0 hEw.size
      have hCq := CfgAt.of (hE.keep HQ3.out)
      have c0 := hCq.c0
      have c1 := hCq.c1
      have c2 := hCq.c2
      have c3 := hCq.c3
      have c4 := hCq.c4
      have cl := hCq.lt
      have hu := hos _ (List.getElem_mem hg1)
      have htk := ticks_take hg1
      have htl := ticksO_le (os.take k)
      have htl2 : (os.take k).length ≤ 60 := by rw [List.length_take]; omega
      have hT := fun W (hz : M2 ≤ W.heap.size) (ht : isT os[k] = true) (hW : WB W N M1 M2 p C B n (winO n (os.take k))) => WB_opT hz hg1 (by omega) h1 hos hok HB.out ht hW
      have hU := fun W (hz : M2 ≤ W.heap.size) (ht : isT os[k] = false) (hW : WB W N M1 M2 p C B n (winO n (os.take k))) => WB_opU hz hg1 (by omega) h1 hos hok HB.out ht hW
      generalize os[k] = oo at *
      generalize ticksO (os.take k) = tk at *
      obtain ⟨kk, uk, ud⟩ := oo
      replace hu := hu.2
      have ha1 := and1i kk
      have HT := Lib.hid hT
      have HU := Lib.hid hU
      have HTK := Lib.hid htk
      have htk60 : tk ≤ 60 := by omega
      have hkU : U64 (cutK C 0 uk) := by have := cutK_bd C hok 0 uk (Int.le_refl 0); have := keys_bd C hok 0 (Int.le_refl 0); unfold U64; omega
      clear hT hU hCq d0' d1' d2' htk htl htl2
      go_upto_region 12 with (fail)
      go_cut [17] (fun s17 wx => ∃ bu : Nat, s17 = .pointer (some ⟨bu, 0, none⟩) ∧ wx.heap[bu]? = some (.cells #[.int .u64 (cutK C 0 uk), .int .i64 (cutD C.mode ud)] 60 (0, 0)) ∧ Ext wr wx ∧ wr.heap.size ≤ bu)
      case first =>
        have hC0 := af_drew wr
        refine pi_start (fun w' => ∃ x : After wr, w' = x.w) [] (by kernel_rfl) ?_
        refine pi_t 1 rfl (by kernel_rfl) (by kernel_rfl) (fun _ _ _ _ h => h) (fun K hK => ?_)
        go_big_quiet_op
        refine hK _ ?_
        clear hK K
        refine pi_t 2 rfl (by kernel_rfl) (by kernel_rfl) (fun _ _ _ _ h => h) (fun K hK => ?_)
        go_big_quiet_op
        refine hK _ ?_
        clear hK K
        refine pi_t 3 rfl (by kernel_rfl) (by kernel_rfl) (fun _ _ _ _ h => h) (fun K hK => ?_)
        go_big_quiet_op
        refine hK _ ?_
        clear hK K
        refine pi_t 4 rfl (by kernel_rfl) (by kernel_rfl) (fun _ _ _ _ h => h) (fun K hK => ?_)
        go_big_quiet_op
        refine hK _ ?_
        clear hK K
        refine pi_t 6 rfl (by kernel_rfl) (by kernel_rfl) (fun _ _ _ _ h => h) (fun K hK => ?_)
        go_big_quiet_op
        refine hK _ ?_
        clear hK K
        refine pi_t 7 rfl (by kernel_rfl) (by kernel_rfl) (fun _ _ _ _ h => h) (fun K hK => ?_)
        go_big_quiet_op
        refine hK _ ?_
        clear hK K
        refine pi_t 8 rfl (by kernel_rfl) (by kernel_rfl) (fun _ _ _ _ h => h) (fun K hK => ?_)
        go_big_quiet_op
        refine hK _ ?_
        clear hK K
        refine pi_t 9 rfl (by kernel_rfl) (by kernel_rfl) (fun _ _ _ _ h => h) (fun K hK => ?_)
        go_big_quiet_op
        refine hK _ ?_
        clear hK K
        refine pi_c 0 (by assumption) rfl (by kernel_rfl) (by kernel_rfl) (fun _ _ _ _ h => h) (fun K hK => ?_)
        go_big_quiet_op
        refine hK _ ?_
        clear hK K
        refine pi_c 5 (by assumption) rfl (by kernel_rfl) (by kernel_rfl) (fun _ _ _ _ h => h) (fun K hK => ?_)
        go_big_quiet_op
        refine hK _ ?_
        clear hK K
        refine pi_c 10 (by assumption) rfl (by kernel_rfl) (by kernel_rfl) (fun _ _ _ _ h => h) (fun K hK => ?_)
        go_big_quiet_op
        refine hK _ ?_
        clear hK K
        refine pi_t 11 rfl (by kernel_rfl) (by kernel_rfl) (fun _ _ _ _ h => h) (fun K hK => ?_)
        go_big_quiet_op
        refine hK _ ?_
        clear hK K
        refine pi_b 12 13 rfl rfl (by kernel_rfl) (fun K hK => ?_) (fun K hK => ?_)
        · go_wp2_with (go_at_call 63; refine (Cut15_c C hok uk ud hu.1 hu.2 _).mono ?_; rintro e w3 ⟨rfl, hx3⟩)
          have hx3' : Ext wr w3 := Ext.trans' (Below.drew (Ext.refl wr)) hx3
          have hs3 := hx3'.size
          refine hK _ _ (fun _ h => af_step h hx3) ?_
          clear hK K
          refine pi_l 13 rfl (by kernel_rfl) (fun K hK => ?_)
          go_wp2
          refine hK _ _ (fun _ h => af_step h (Ext.alloc' _ _)) ?_
          clear hK K
          refine pi_l 14 rfl (by kernel_rfl) (fun K hK => ?_)
          go_wp2
          refine hK _ _ (fun _ _ => ⟨⟨_, hx3'.allocR _⟩, rfl⟩) ?_
          clear hK K
          refine pi_end (by kernel_rfl) ?_
          go_wp2_with fail
          go_meet
          exact ⟨w3.heap.size, rfl, heap_at _ _ rfl, hx3'.allocR _, hs3⟩
        · go_wp2
          refine hK _ _ (fun _ h => af_step h (Ext.alloc' _ _)) ?_
          clear hK K
          refine pi_l 12 rfl (by kernel_rfl) (fun K hK => ?_)
          go_wp2_with (go_at_call 63; refine (Cut15_c C hok uk ud hu.1 hu.2 _).mono ?_; rintro e w3 ⟨rfl, hx3⟩)
          refine hK _ _ (fun _ h => af_step h hx3) ?_
          clear hK K
          have hs3 : (wr.alloc (.cells #[.int .u64 0, .int .i64 0] 60)).heap.size ≤ w3.heap.size := hx3.size
          rw [size_alloc] at hs3
          have hx3' : Ext wr w3 := Ext.trans' (Ext.alloc' wr _) (Ext.trans' (Below.drew (Ext.refl _)) hx3)
          have hbx : w3.heap[wr.heap.size]? = some (.cells #[.int .u64 0, .int .i64 0] 60 (0, 0)) := by
            rw [hx3.block _ (by show _ < (wr.alloc _).heap.size; rw [size_alloc]; exact Nat.lt_succ_self _)]
            exact heap_at wr _ rfl
          have p0 := (cell_of hbx 0).trans rfl
          have p1 := (cell_of hbx 1).trans rfl
          have f0 := frozen_of hbx 0
          have f1 := frozen_of hbx 1
          refine pi_l 14 rfl (by kernel_rfl) (fun K hK => ?_)
          go_wp2
          refine hK _ _ (fun _ _ => ⟨⟨_, (hx3'.setR (Nat.le_refl _) _).setR (Nat.le_refl _) _⟩, rfl⟩) ?_
          clear hK K
          refine pi_end (by kernel_rfl) ?_
          go_wp2_with fail
          go_meet
          exact ⟨wr.heap.size, rfl, set2 hbx _ _, (hx3'.setR (Nat.le_refl _) _).setR (Nat.le_refl _) _, Nat.le_refl _⟩
      case rest =>
        obtain ⟨bu, rfl, hbu, hxw, hbul⟩ := hcut
        have e0 := ((bcell hxw).1 ug (off + k * 3) hgl2).trans d0
        have gl := Nat.lt_of_lt_of_le hgl2 hxw.size
        have b0 := (cell_of hbu 0).trans rfl
        have b1 := (cell_of hbu 1).trans rfl
        have bl := lt_of hbu
        have HSX := Lib.hid (HS.out.ext hxw)
        have HKX := Lib.hid (HK.out.ext hxw)
        have hM2x := Nat.le_trans hM2r hxw.size
        clear c0 c1 c2 c3 c4 cl d0 d1 d2 hbu
        cases ht : isT (kk, uk, ud) with
        | true =>
          have ht' : (kk % 2 == 1) = true := ht
          have HTT := Lib.hid (HT.out _ hM2x ht HSX.out)
          rw [ht] at HTK
          clear HT HU ht
          go_wp2_with fail
          refine Calls.mono HTT.out ?_
          rintro e w6 ⟨rfl, hO6, hS6⟩
          have HS6 := Lib.hid hS6
          have hNle : N ≤ w3.heap.size := by have := HNZ.out; omega
          have hE6 : Ext w3 w6 := below_off HNZ.out.2.2 (hE.trans' hxw) hO6
          have HK6 := Lib.hid (HKX.out.offB hO6 HSG.out.1 HSG.out.2 HFr.out HLow.out)
          have hM6 : M2 ≤ w6.heap.size := Nat.le_trans hM2x hO6.size
          clear hO6 hS6
          go_wp2
          go_roundw
          case rel => exact ⟨k + 1, by omega, by rw [HTK.out]; go_num, by go_num, hE6, HS6.out, HK6.out, hM6⟩
          case measure => simp [intOf]; omega
        | false =>
          have ht' : (kk % 2 == 1) = false := ht
          have HTT := Lib.hid (HU.out _ hM2x ht HSX.out)
          rw [ht] at HTK
          clear HT HU ht
          go_wp2_with fail
          refine Calls.mono HTT.out ?_
          rintro e w6 ⟨rfl, hO6, hS6⟩
          have HS6 := Lib.hid hS6
          have hE6 : Ext w3 w6 := below_off HNZ.out.2.2 (hE.trans' hxw) hO6
          have HK6 := Lib.hid (HKX.out.offB hO6 HSG.out.1 HSG.out.2 HFr.out HLow.out)
          have hM6 : M2 ≤ w6.heap.size := Nat.le_trans hM2x hO6.size
          clear hO6 hS6
          go_wp2
          go_roundw
          case rel => exact ⟨k + 1, by omega, by rw [HTK.out]; first | rfl | simp, by go_num, hE6, HS6.out, HK6.out, hM6⟩
          case measure => simp [intOf]; omega
    · obtain rfl : k = m := by omega
      rename World => w6
      have hEw6 := hEw
      have hz6 : M1 ≤ w6.heap.size := by omega
      have hQ6 := hE.keep HQ3.out
      have HQ6 := Lib.hid hQ6
      have hM0 : Mod (cellsOf B L) w6 w6 := Mod.refl _ _
      have hX0 : ([] : List Upd) ++ keepO n ((os.take k).drop 0) = keepO n (os.take k) := rfl
      have hcell : ∀ q, cellsOf B L q → M1 ≤ q ∧ q < M2 := fun q ⟨j, hj, he⟩ => by subst he; exact ⟨(HFr.out j hj).2.2, HLow.out.lc j hj⟩
      have HCELL := Lib.hid hcell
      have HSW := Lib.hid HS.out
      have hql6 : w2.heap.size < M1 := by have := HNZ.out; omega
      have hww : w.heap.size ≤ w3.heap.size := HE3.out.size
      have HKW := Lib.hid (fun q (hq : cellsOf B L q) => HK.out.isc hq)
      clear hcell HS hQ6 hlt hkm
      go_wp2
      go_loopw [15, 19] (fun u15 u19 wr => ∃ (j : Nat) (X : List Upd), j ≤ k ∧ X ++ keepO n ((os.take k).drop j) = keepO n (os.take k) ∧ u15 = .int .i64 (ticksO ((os.take k).drop j) : Nat) ∧ u19 = .int .i64 j ∧ Mod (cellsOf B L) w6 wr ∧ KAt wr s g C B L (feedK C X)) (fun _ u19 _ => k - (intOf u19).toNat)
      case atStart => exact ⟨0, [], Nat.zero_le _, hX0, rfl, rfl, hM0, HK.out⟩
      case round =>
        clear hM0 hX0 HK
        obtain ⟨j, X, hjk, hX, rfl, rfl, hM, hK⟩ := hrel
        have HK := Lib.hid hK
        have HX := Lib.hid hX
        clear hK hX
        have hMs := hM.size
        have hnc : ∀ q, q < M1 → ¬ cellsOf B L q := fun q hq hc => by have := HCELL.out q hc; omega
        by_cases hlt : j < k
        · have hg1 : j < os.length := by omega
          obtain ⟨ug, off, rfl, hul0, d0', d1', d2'⟩ := HV.out.one hg1
          have hu6 : ug < w6.heap.size := Nat.lt_of_lt_of_le hul0 hEw6.size
          have hnu : ¬ cellsOf B L ug := hnc _ (by have := HNZ.out; omega)
          have d0 := (mcell hM hu6 hnu (off + j * 3)).trans (((bcell hEw6).1 _ _ hul0).trans d0')
          have d1 := (mcell hM hu6 hnu (off + j * 3 + 1)).trans (((bcell hEw6).1 _ _ hul0).trans d1')
          have d2 := (mcell hM hu6 hnu (off + j * 3 + 2)).trans (((bcell hEw6).1 _ _ hul0).trans d2')
          have hgl2 : ug < wr.heap.size := Nat.lt_of_lt_of_le hu6 hMs
          have hCq := CfgAt.of (hM.keep HQ6.out (hnc _ hql6))
          have c0 := hCq.c0
          have c1 := hCq.c1
          have c2 := hCq.c2
          have c3 := hCq.c3
          have c4 := hCq.c4
          have cl := hCq.lt
          have hu := hos _ (List.getElem_mem hg1)
          have hcut := ops_cut (os := os) hml hlt
          have hXl : X.length ≤ 60 := by
            have h1 := congrArg List.length HX.out
            rw [List.length_append] at h1
            have h2 := keepO_len n (os.take k)
            rw [List.length_take] at h2
            omega
          have htl := ticksO_le ((os.take k).drop j)
          have htl2 : ((os.take k).drop j).length ≤ 60 := by rw [List.length_drop, List.length_take]; omega
          have hgets : os[j]'(by omega) = os[j] := rfl
          generalize os[j] = oo at *
          generalize (os.take k).drop j = ds at *
          generalize hds : (os.take k).drop (j + 1) = ds' at *
          have HDS := Lib.hid hds
          clear hds
          obtain ⟨kk, uk, ud⟩ := oo
          replace hu := hu.2
          have ha1 := and1i kk
          have HCUT := Lib.hid hcut
          clear hgets hcut hCq d0' d1' d2'
          cases ht : isT (kk, uk, ud) with
          | true =>
            have ht' : (kk % 2 == 1) = true := ht
            have e1 := keepO_t (n := n) ht ds'
            have e2 := ticksO_t ht ds'
            rw [← HCUT.out] at e1 e2
            have HX' : Hid (X ++ keepO n ds' = keepO n (os.take k)) := Lib.hid (by rw [← e1]; exact HX.out)
            have E2 := Lib.hid e2
            have htd : ticksO ds ≤ 60 := by omega
            generalize ticksO ds = td at *
            have HMM := Lib.hid hM
            clear e1 e2 ht d1 d2 c0 c1 c2 c3 c4 cl hM htl
            go_wp2_with fail
            go_roundw
            case rel => exact ⟨j + 1, X, by omega, by rw [HDS.out]; exact HX'.out, by rw [HDS.out]; have := E2.out; go_num, by go_num, HMM.out, HK.out⟩
            case measure => simp [intOf]; omega
          | false =>
            have ht' : (kk % 2 == 1) = false := ht
            have e2 := ticksO_u ht ds'
            rw [← HCUT.out] at e2
            have E2 := Lib.hid e2
            have htd : ticksO ds ≤ 60 := by omega
            have hky := fun hz => keepO_y (n := n) ht (os := ds') hz
            have hkn := fun hz => keepO_n (n := n) ht (os := ds') hz
            rw [← HCUT.out] at hky hkn
            rw [← e2] at hky hkn
            generalize ticksO ds = td at *
            have HKY := Lib.hid hky
            have HKN := Lib.hid hkn
            have HMM := Lib.hid hM
            have herr := feedK_ok C hok HB.out X (by omega) (uk, ud)
            have HERR := Lib.hid herr
            have hdI : I64 (cutD C.mode ud) := by have := cutD_bd C.mode ud; unfold I64; omega
            have hkU : U64 (cutK C 0 uk) := by have := cutK_bd C hok 0 uk (Int.le_refl 0); have := keys_bd C hok 0 (Int.le_refl 0); unfold U64; omega
            clear e2 ht hM hky hkn herr htl
            go_upto_region 25 with (fail)
            go_upto_region 25 with (fail)
            go_cut [20] (fun s20 wx => ∃ bu : Nat, s20 = .pointer (some ⟨bu, 0, none⟩) ∧ wx.heap[bu]? = some (.cells #[.int .u64 (cutK C 0 uk), .int .i64 (cutD C.mode ud)] 60 (0, 0)) ∧ Ext wr wx ∧ wr.heap.size ≤ bu)
            case first =>
              have hC0 := af_drew wr
              refine pi_start (fun w' => ∃ x : After wr, w' = x.w) [] (by kernel_rfl) ?_
              refine pi_t 1 rfl (by kernel_rfl) (by kernel_rfl) (fun _ _ _ _ h => h) (fun K hK => ?_)
              go_big_quiet_op
              refine hK _ ?_
              clear hK K
              refine pi_t 2 rfl (by kernel_rfl) (by kernel_rfl) (fun _ _ _ _ h => h) (fun K hK => ?_)
              go_big_quiet_op
              refine hK _ ?_
              clear hK K
              refine pi_t 3 rfl (by kernel_rfl) (by kernel_rfl) (fun _ _ _ _ h => h) (fun K hK => ?_)
              go_big_quiet_op
              refine hK _ ?_
              clear hK K
              refine pi_t 4 rfl (by kernel_rfl) (by kernel_rfl) (fun _ _ _ _ h => h) (fun K hK => ?_)
              go_big_quiet_op
              refine hK _ ?_
              clear hK K
              refine pi_t 6 rfl (by kernel_rfl) (by kernel_rfl) (fun _ _ _ _ h => h) (fun K hK => ?_)
              go_big_quiet_op
              refine hK _ ?_
              clear hK K
              refine pi_t 7 rfl (by kernel_rfl) (by kernel_rfl) (fun _ _ _ _ h => h) (fun K hK => ?_)
              go_big_quiet_op
              refine hK _ ?_
              clear hK K
              refine pi_t 8 rfl (by kernel_rfl) (by kernel_rfl) (fun _ _ _ _ h => h) (fun K hK => ?_)
              go_big_quiet_op
              refine hK _ ?_
              clear hK K
              refine pi_t 9 rfl (by kernel_rfl) (by kernel_rfl) (fun _ _ _ _ h => h) (fun K hK => ?_)
              go_big_quiet_op
              refine hK _ ?_
              clear hK K
              refine pi_c 0 (by assumption) rfl (by kernel_rfl) (by kernel_rfl) (fun _ _ _ _ h => h) (fun K hK => ?_)
              go_big_quiet_op
              refine hK _ ?_
              clear hK K
              refine pi_c 5 (by assumption) rfl (by kernel_rfl) (by kernel_rfl) (fun _ _ _ _ h => h) (fun K hK => ?_)
              go_big_quiet_op
              refine hK _ ?_
              clear hK K
              refine pi_c 10 (by assumption) rfl (by kernel_rfl) (by kernel_rfl) (fun _ _ _ _ h => h) (fun K hK => ?_)
              go_big_quiet_op
              refine hK _ ?_
              clear hK K
              refine pi_t 11 rfl (by kernel_rfl) (by kernel_rfl) (fun _ _ _ _ h => h) (fun K hK => ?_)
              go_big_quiet_op
              refine hK _ ?_
              clear hK K
              refine pi_b 12 13 rfl rfl (by kernel_rfl) (fun K hK => ?_) (fun K hK => ?_)
              · go_wp2_with (go_at_call 63; refine (Cut15_c C hok uk ud hu.1 hu.2 _).mono ?_; rintro e w3 ⟨rfl, hx3⟩)
                have hx3' : Ext wr w3 := Ext.trans' (Below.drew (Ext.refl wr)) hx3
                have hs3 := hx3'.size
                refine hK _ _ (fun _ h => af_step h hx3) ?_
                clear hK K
                refine pi_l 13 rfl (by kernel_rfl) (fun K hK => ?_)
                go_wp2
                refine hK _ _ (fun _ h => af_step h (Ext.alloc' _ _)) ?_
                clear hK K
                refine pi_l 14 rfl (by kernel_rfl) (fun K hK => ?_)
                go_wp2
                refine hK _ _ (fun _ _ => ⟨⟨_, hx3'.allocR _⟩, rfl⟩) ?_
                clear hK K
                refine pi_end (by kernel_rfl) ?_
                go_wp2_with fail
                go_meet
                exact ⟨w3.heap.size, rfl, heap_at _ _ rfl, hx3'.allocR _, hs3⟩
              · go_wp2
                refine hK _ _ (fun _ h => af_step h (Ext.alloc' _ _)) ?_
                clear hK K
                refine pi_l 12 rfl (by kernel_rfl) (fun K hK => ?_)
                go_wp2_with (go_at_call 63; refine (Cut15_c C hok uk ud hu.1 hu.2 _).mono ?_; rintro e w3 ⟨rfl, hx3⟩)
                refine hK _ _ (fun _ h => af_step h hx3) ?_
                clear hK K
                have hs3 : (wr.alloc (.cells #[.int .u64 0, .int .i64 0] 60)).heap.size ≤ w3.heap.size := hx3.size
                rw [size_alloc] at hs3
                have hx3' : Ext wr w3 := Ext.trans' (Ext.alloc' wr _) (Ext.trans' (Below.drew (Ext.refl _)) hx3)
                have hbx : w3.heap[wr.heap.size]? = some (.cells #[.int .u64 0, .int .i64 0] 60 (0, 0)) := by
                  rw [hx3.block _ (by show _ < (wr.alloc _).heap.size; rw [size_alloc]; exact Nat.lt_succ_self _)]
                  exact heap_at wr _ rfl
                have p0 := (cell_of hbx 0).trans rfl
                have p1 := (cell_of hbx 1).trans rfl
                have f0 := frozen_of hbx 0
                have f1 := frozen_of hbx 1
                refine pi_l 14 rfl (by kernel_rfl) (fun K hK => ?_)
                go_wp2
                refine hK _ _ (fun _ _ => ⟨⟨_, (hx3'.setR (Nat.le_refl _) _).setR (Nat.le_refl _) _⟩, rfl⟩) ?_
                clear hK K
                refine pi_end (by kernel_rfl) ?_
                go_wp2_with fail
                go_meet
                exact ⟨wr.heap.size, rfl, set2 hbx _ _, (hx3'.setR (Nat.le_refl _) _).setR (Nat.le_refl _) _, Nat.le_refl _⟩
            case rest =>
              obtain ⟨bu, rfl, hbu, hxw, hbul⟩ := hcut
              have b0 := (cell_of hbu 0).trans rfl
              have b1 := (cell_of hbu 1).trans rfl
              have bl := lt_of hbu
              clear c0 c1 c2 c3 c4 cl d0 d1 d2 hbu ht'
              by_cases hz : td < n
              · have hz' : (td : Int) < (n : Int) := by omega
                have hzd : decide ((td : Int) < (n : Int)) = true := decide_eq_true hz'
                go_wp2_with fail
                refine Calls.mono (KUpdate_c s g C B L _ _ _ _ (HK.out.ext hxw) hdI hkU) ?_
                rintro e w8 ⟨rfl, hK8, hM8⟩
                rw [HERR.out] at hK8 ⊢
                have HK8 := Lib.hid hK8
                have HM8 := Lib.hid hM8
                clear hK8 hM8
                go_wp2
                go_roundw
                case rel =>
                  refine ⟨j + 1, X ++ [(uk, ud)], by omega, ?_, by rw [HDS.out, E2.out], by go_num, HMM.out.trans ((hxw.mod _).trans HM8.out), ?_⟩
                  · rw [HDS.out, ← HX.out, HKY.out hz, List.append_assoc]; rfl
                  · rw [feedK_snoc]; exact HK8.out
                case measure => simp [intOf]; omega
              · have hz' : ¬ ((td : Int) < (n : Int)) := by omega
                have hzd : decide ((td : Int) < (n : Int)) = false := decide_eq_false hz'
                have hz2 : (n : Int) ≤ (td : Int) := by omega
                clear hz'
                go_wp2_with fail
                go_roundw
                case rel =>
                  refine ⟨j + 1, X, by omega, ?_, by rw [HDS.out, E2.out], by go_num, HMM.out.trans (hxw.mod _), HK.out.ext hxw⟩
                  rw [HDS.out, ← HX.out, HKN.out hz]
                case measure => simp [intOf]; omega
        · obtain rfl : j = k := by omega
          rename World => w7
          have hke := keep_end n os j
          have hXe : X = keepO n (os.take j) := by
            have h := HX.out
            rw [hke.1, List.append_nil] at h
            exact h
          subst hXe
          have HS7 := Lib.hid (HSW.out.mod hM (fun q hq => HCELL.out q hq) (fun q hq _ => HKW.out q hq))
          have hE7 : Ext w3 w7 := Below.trans hE (hM.below (B := w3.heap.size) hE.size (fun q hq => by have := HCELL.out q hq; have := HNZ.out; omega))
          have HE7 := Lib.hid hE7
          have HQ7 := Lib.hid (hM.keep HQ6.out (hnc _ hql6))
          have hkp := winO_keep h1 (os.take j)
          have HKP := Lib.hid hkp
          clear hE7 hM hE hke hkp hM2r hz6 hMs hEw hEw6 hnc hlt hjk HX
          go_wp2_with fail
          refine Calls.mono (WS_sum HS7.out.ws) ?_
          rintro e w8 ⟨s2, g2, L2, rfl, hK2, _, _, _, hx8⟩
          rw [HKP.out] at hK2
          have HK2 := Lib.hid hK2
          have HK8 := Lib.hid (HK.out.ext hx8)
          have HQ8 := Lib.hid (hx8.keep HQ7.out)
          have HE8 := Lib.hid (HE7.out.trans' hx8)
          have hlen : ∀ q, (feedK C (keepO n (os.take j)) q).length = lvN C q := fun q => by rw [← feedT_false]; exact feedT_len C false _ q
          have HLEN := Lib.hid hlen
          clear hK2 hx8 HK HQ7 HE7 HS7 HKP hlen
          generalize feedK C (keepO n (os.take j)) = ls at *
          go_wp2
          go_loopw [22] (fun u22 wr => ∃ q : Nat, q ≤ B + 1 ∧ u22 = .int .i64 q ∧ Ext w8 wr) (fun u22 _ => B + 1 - (intOf u22).toNat)
          case atStart => exact ⟨0, Nat.zero_le _, rfl, Ext.refl _⟩
          case round =>
            obtain ⟨q, hq, rfl, hE⟩ := hrel
            have hCq := CfgAt.of (hE.keep HQ8.out)
            have c0 := hCq.c0
            have cl := hCq.lt
            rw [HB.out] at c0
            clear hCq
            by_cases hlt : q < B + 1
            · have hle : (q : Int) ≤ (B : Int) := by omega
              have hNb := lvN_bd hok q
              have hlq := HLEN.out q
              have HNB := Lib.hid hNb
              have HLQ := Lib.hid hlq
              clear hNb hlq
              go_wp2_with fail
              refine Calls.mono (KCells_c s2 g2 C B L2 ls _ (HK2.out.ext hE) q (by omega)) ?_
              rintro e w9 ⟨v, rfl, ho, _, hx9⟩
              have hE9 := hE.trans' hx9
              have HV9 := Lib.hid (IntsAt.of_row ho)
              obtain ⟨p1, c1, rfl⟩ := own_sl ho
              clear ho hx9 c0 cl hE
              go_wp2_with fail
              refine Calls.mono (KCells_c s g C B L ls _ (HK8.out.ext hE9) q (by omega)) ?_
              rintro e w10 ⟨v, rfl, ho, _, hx10⟩
              have hE10 := hE9.trans' hx10
              have HV10 := Lib.hid (IntsAt.of_row ho)
              have HV9' := Lib.hid (HV9.out.ext hx10)
              obtain ⟨p2, c2, rfl⟩ := own_sl ho
              clear ho hx10 hE9
              go_wp2_with fail
              refine Calls.mono (Same_c _ _ (ls q) (ls q) _ HV9'.out HV10.out (by rw [HLQ.out]; exact HNB.out.2) (by rw [HLQ.out]; exact HNB.out.2)) ?_
              rintro e w11 ⟨rfl, hx11⟩
              rw [decide_eq_true rfl]
              have hE11 := hE10.trans' hx11
              clear hx11 hE10
              go_wp2_with fail
              refine Calls.mono (KCells_c s g C B L ls _ (HK8.out.ext hE11) q (by omega)) ?_
              rintro e w12 ⟨v, rfl, ho, _, hx12⟩
              have hE12 := hE11.trans' hx12
              obtain ⟨p3, c3, rfl⟩ := own_sl ho
              have hz : (((ls q).length : Int) == 0) = false := by
                rw [HLQ.out]
                have := HNB.out.1
                simp; omega
              clear ho hx12 hE11
              go_wp2
              go_roundw
              case rel => exact ⟨q + 1, by omega, by go_num, hE12⟩
              case measure => simp [intOf]; omega
            · obtain rfl : q = B + 1 := by omega
              have hgt : ¬ (((B + 1 : Nat) : Int) ≤ (B : Int)) := by omega
              have hEf := HE3.out.trans' (HE8.out.trans' hE)
              go_wp2
              go_ret
              exact ⟨rfl, hEf⟩
end Go.Proofs.YteoblkcbemeamaaGreat

/- WindowLast: the sum is the stack that was fed just the updates since as many ticks as there are buckets. No condition: every input. -/
namespace Go.Proofs.YteoblkcbemeamaaGreat
set_option linter.unusedVariables false
open Go.ChangeShapes Go.WideShapes Go.ChangeAt Go.RowKit

set_option maxRecDepth 100000 in
theorem windowLast_lifted (os : Os) (started : os.Started) (H : Type) (enc : TypeId × Value → H) :
    ReturnsInHanded {} Tryz.checked os 9 .any (Rows.windowLastSpec.pre6 enc Tryz.prog Tryz.f9 Rows.windowLastRow.domain false) (Rows.windowLastSpec.post enc Tryz.prog Tryz.f9 false true false false) := by
  refine returnsInHanded_of_change_sized (C := Tryz.checked) own started (by kernel_rfl) Tryz.func9
    (ChangeSpec.witness6 (enc := enc) (C := Tryz.checked) false ⟨#[], #[.agg #[.int .i64 0, .int .i64 0, .int .i64 0, .int .i64 0, .int .u64 0], .int .i64 0, .slice none 0 0], []⟩ 8 (by kernel_rfl) (by kernel_rfl) (by kernel_rfl) (by kernel_rfl)) ?_
  intro W base args ds gs before hval0 hW hcnd hsz0 _
  have hval : ∀ (j : Nat) t v, Tryz.f9.params[j]? = some t → args[j]? = some v → Value.okWide Tryz.prog W .any base t v := hval0
  have hW' := hW
  obtain ⟨p, q, hA0, hV, rfl, hfz, hnd⟩ := hW
  have hA : DataW.TrodAll enc Tryz.prog W 0 (fun _ => true) true Tryz.f9.params.toList args.toList ds p := hA0
  have hsz : (DataW.weightsEach Tryz.prog (Tryz.f9.params.toList ++ Rows.windowLastSpec.plain.varTypes Tryz.prog) (ds ++ gs)).all (· ≤ reachBytes) = true := hsz0
  rw [Tryz.params9] at hA hval hsz
  obtain ⟨v0, vs0, d0, ds0, p0, q0, hargs, rfl, rfl, h0, r0⟩ := trodAll_cons hA
  obtain ⟨v1, vs1, d1, ds1, p1, q1, rfl, rfl, rfl, h1, r1⟩ := trodAll_cons r0
  obtain ⟨v2, vs2, d2, ds2, p2, q2, rfl, rfl, rfl, h2, r2⟩ := trodAll_cons r1
  obtain ⟨rfl, rfl, rfl⟩ := trodAll_nil r2
  obtain rfl : args = #[v0, v1, v2] := by cases args; simp_all
  obtain ⟨rfl, rfl⟩ := trodVars_none hV
  have k0 := h0
  have k1 := h1
  have k2 := h2
  have lt0 : ∀ x ∈ p0, x.block < W.heap.size := by obtain ⟨m, hm⟩ := k0; exact DataW.trod_lt m _ _ _ hm
  have lt1 : ∀ x ∈ p1, x.block < W.heap.size := by obtain ⟨m, hm⟩ := k1; exact DataW.trod_lt m _ _ _ hm
  have lt2 : ∀ x ∈ p2, x.block < W.heap.size := by obtain ⟨m, hm⟩ := k2; exact DataW.trod_lt m _ _ _ hm
  obtain ⟨x0, hx0, rfl⟩ := cfgarg_of (hval 0 _ v0 rfl rfl) h0
  obtain ⟨n1, rfl, _, _, wf1⟩ := open_int Tryz.underlying3 (hval 1 _ v1 rfl rfl) h1
  have hn1 := wf_i64 wf1
  obtain ⟨os2, hos2, hat2, hr2⟩ := ops24arg_of (hval 2 _ v2 rfl rfl) h2
  have hul2 := hr2 _ _ 2 hsz rfl rfl
  clear hA0 hval0
  refine (WLastL_c x0 hx0 n1 hn1 os2 hos2 v2 W hat2 hul2).mono fun e W' ⟨he, bel⟩ => ?_
  subst he
  exact ⟨_, rfl, _, _, _, [], _, [], hW', trodAll_mk1 (shut_bool Tryz.underlying4 _), (trodAll_cons_mk (Below.trod laidOut (by kernel_rfl) (of_decide_eq_true (by kernel_rfl)) k0 bel lt0) (trodAll_cons_mk (Below.trod laidOut (by kernel_rfl) (of_decide_eq_true (by kernel_rfl)) k1 bel lt1) (trodAll_cons_mk (Below.trod laidOut (by kernel_rfl) (of_decide_eq_true (by kernel_rfl)) k2 bel lt2) trodAll_mk0))), rfl, bel.frame _, fun h => by cases h⟩
end Go.Proofs.YteoblkcbemeamaaGreat
