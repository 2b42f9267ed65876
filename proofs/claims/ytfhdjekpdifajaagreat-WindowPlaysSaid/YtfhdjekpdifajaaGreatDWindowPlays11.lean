/- Part. No condition. -/
import Derived.Test.YtfhdjekpdifajaaGreatDWindowPlays10
import Derived.Test.YtfhdjekpdifajaaGreatDWindowPlays3
import Derived.Deep.CutBlock
import Derived.ProofKit
import Derived.OpenShut
import Derived.ChangeOld
import Derived.Below
import Derived.SizedLaws
import Derived.Deep.Slices
import Derived.Deep.Fields
namespace Go.Proofs.YtfhdjekpdifajaaGreat
set_option linter.unusedVariables false
open Go.RowKit
def SameW (v1 v2 : Value) : Prop := ∃ e : Int, v1 = .int .i64 e ∧ v2 = .int .i64 e
set_option maxRecDepth 20000 in
set_option maxHeartbeats 16000000 in
theorem WPlaysL_c (x : Cfg) (hx : x.Raw) (b : Int) (hb : I64 b) (os : List Opn) (hos : OpsOk os) (v : Value) (w : World) (hv : OpsAt w v os) (hul : os.length ≤ 140737488355328) :
    Calls Tryz.prog 6 #[.agg #[.int .i64 x.bits, .int .i64 x.rows, .int .i64 x.width, .int .i64 x.mode, .int .u64 x.seed], .int .i64 b, v] w fun e w' => e = .returned (.bool true) ∧ Ext w w' := by
  obtain ⟨vp, vc, rfl⟩ := hv.sl
  have HV := Lib.hid hv
  have n0 : 0 ≤ b % 65536 % 16 := Int.emod_nonneg _ (by decide)
  have n1 := Int.emod_lt_of_pos (b % 65536) (show (0 : Int) < 16 by decide)
  obtain ⟨n, hn⟩ : ∃ n : Nat, 1 + b % 65536 % 16 = n := ⟨(1 + b % 65536 % 16).toNat, by omega⟩
  have h1 : 1 ≤ n := by omega
  have h2 : n ≤ 16 := by omega
  have hR := fun W => right24_c x hx b W
  simp only [hn] at hR
  have hok := kcfg_ok x hx.s (nb := 6) (m := 1) (by decide) (by decide) (by decide)
  have hmd := kcfg_mode x 6 (m := 1) (by decide)
  generalize kcfg x 6 1 = C at *
  obtain ⟨B, hB⟩ : ∃ B : Nat, C.bits = B := ⟨C.bits.toNat, by have := hok.b1; omega⟩
  have HR := Lib.hid hR
  have HNW := Lib.hid (fun W => WNew_c C hok hmd B hB n h1 h2 W)
  have HRW := Lib.hid (fun W => RWNew_c C hok hmd B hB n h1 h2 W)
  clear hv hR n0 n1 hn hmd hB hok
  go_enter Tryz.func6, Tryz.ntmps6
  go_wp2_with fail
  refine (shown24_c _).mono ?_
  rintro e w1 ⟨rfl, hb1⟩
  have hE1 : Ext w w1 := by (repeat' (first | exact Ext.refl _ | assumption | apply Ext.allocR | apply Ext.drewR | apply Ext.drewNR | (refine Ext.trans' ?_ (by assumption))))
  have hC := (CfgAt.box (w := w) x 24 rfl).ext hb1
  have c0 := hC.c0
  have c1 := hC.c1
  have c2 := hC.c2
  have c3 := hC.c3
  have c4 := hC.c4
  have cl := hC.lt
  clear hC hb1
  go_wp2_with fail
  refine (HR.out _).mono ?_
  rintro e w2 ⟨rfl, hx2⟩
  have hE2 : Ext w w2 := by (repeat' (first | exact Ext.refl _ | assumption | apply Ext.allocR | apply Ext.drewR | apply Ext.drewNR | (refine Ext.trans' ?_ (by assumption))))
  clear c0 c1 c2 c3 c4 cl hx2 hE1 HR
  go_upto_region 3 with (fail)
  obtain ⟨w3, hw3⟩ : ∃ w3, w2.alloc (.cells #[.int .i64 C.bits, .int .i64 C.rows, .int .i64 C.width, .int .i64 C.mode, .int .u64 C.seed] 24) = w3 := ⟨_, rfl⟩
  have hQ : w3.heap[w2.heap.size]? = some (.cells #[.int .i64 C.bits, .int .i64 C.rows, .int .i64 C.width, .int .i64 C.mode, .int .u64 C.seed] 24 (0, 0)) := by rw [← hw3]; exact heap_at _ _ rfl
  have hE3 : Ext w w3 := by rw [← hw3]; exact hE2.allocR _
  rw [hw3]
  clear hw3 hE2
  have HE3 := Lib.hid hE3
  have HQ := Lib.hid hQ
  have hC3 := CfgAt.of hQ
  have c0 := hC3.c0
  have c1 := hC3.c1
  have c2 := hC3.c2
  have c3 := hC3.c3
  have c4 := hC3.c4
  have cl := hC3.lt
  clear hC3 hQ hE3
  go_wp2_with fail
  refine (HNW.out _).mono ?_
  rintro e w4 ⟨p, pb, sm, bk, rfl, hW, hz, hzb, hx4⟩
  have HW := Lib.hid hW
  have HZ := Lib.hid (And.intro hz hzb)
  have HX4 := Lib.hid hx4
  have hC4 := CfgAt.of (hx4.keep HQ.out)
  clear c0 c1 c2 c3 c4 cl hW hz hzb hx4
  have c0 := hC4.c0
  have c1 := hC4.c1
  have c2 := hC4.c2
  have c3 := hC4.c3
  have c4 := hC4.c4
  have cl := hC4.lt
  clear hC4
  go_wp2_with fail
  refine (HRW.out _).mono ?_
  rintro e w5 ⟨r, t, rm, rk, rfl, hR, hrs, hrb, hRF, hx5⟩
  have hE35 := HX4.out.trans' hx5
  have hS5 : WP w3.heap.size w5 C B n (.pointer (some ⟨p, 0, none⟩)) (.pointer (some ⟨r, 0, none⟩)) :=
    ⟨p, r, zL C, fun _ => zL C, 0, fun _ => zL C, rfl, rfl, by omega, ⟨pb, sm, bk, t, rm, rk, HW.out.ext hx5, hR, HZ.out.1, fun j hj => HZ.out.2 j hj, hrs, hrb, fun k hk hf => by have := HW.out.bclt hk; have := hRF k hf; omega, fun k hk => Nat.le_trans HX4.out.size (hRF k hk), hE35.size⟩, fun j hj => rfl⟩
  have HS5 := Lib.hid hS5
  clear c0 c1 c2 c3 c4 cl hR hrs hrb hRF hx5 hS5 HW HZ HX4 HNW HRW
  obtain ⟨N, hN⟩ : ∃ N, w3.heap.size = N := ⟨_, rfl⟩
  have hwN : w.heap.size ≤ N := by rw [← hN]; exact HE3.out.size
  rw [hN] at HS5
  have HN := Lib.hid hN
  clear hN
  go_wp2_with fail
  go_loopw [10, 12, 13] (fun u10 u12 u13 wr => ∃ k : Nat, k ≤ 40 ∧ k ≤ os.length ∧ u13 = .int .i64 k ∧ Ext w3 wr ∧ WP N wr C B n u10 u12) (fun _ _ u13 _ => 40 - (intOf u13).toNat)
  case atStart => exact ⟨0, Nat.zero_le _, Nat.zero_le _, rfl, hE35, HS5.out⟩
  case round =>
    clear hE35 HS5
    obtain ⟨k, hk40, hkl, rfl, hE, p, r, sl, bl, i, rb, rfl, rfl, hi, hQ, hr⟩ := hrel
    have HQW := Lib.hid hQ
    have HRI := Lib.hid (And.intro hi hr)
    clear hQ hi hr
    have hEw := HE3.out.trans' hE
    by_cases hgo : k < os.length ∧ k < 40
    · obtain ⟨hg1, hg2⟩ := hgo
      obtain ⟨ug, off, rfl, hul0, d0', d1', d2'⟩ := HV.out.one hg1
      have d0 := ((bcell hEw).1 _ _ hul0).trans d0'
      have d1 := ((bcell hEw).1 _ _ hul0).trans d1'
      have d2 := ((bcell hEw).1 _ _ hul0).trans d2'
      have hgl2 : ug < wr.heap.size := Nat.lt_of_lt_of_le hul0 hEw.size
      have hugN : ug < N := Nat.lt_of_lt_of_le hul0 hwN
      have hu := hos _ (List.getElem_mem hg1)
      generalize os[k] = oo at *
      obtain ⟨kk, uk, ud⟩ := oo
      obtain ⟨_, hukU, hudI⟩ := hu
      have HUK := Lib.hid hukU
      have HUD := Lib.hid hudI
      have HER := Lib.hid hE
      have HWN : Hid (N ≤ wr.heap.size) := Lib.hid (by have := hE.size; have := HN.out; omega)
      clear d0' d1' d2' hukU hudI hEw hE
      go_upto_block 2 with (fail)
      go_cut [10, 12, 14, 15] (fun s10 s12 s14 s15 wx => SameW s14 s15 ∧ WP N wx C B n s10 s12 ∧ Below N wr wx)
      case first =>
        by_cases hk1 : kk = 1
        · subst hk1
          clear d0 d1 d2
          have hz : rb ((i + 1) % n) = bl 0 := HRI.out.2 0 h1
          have HC1 := Lib.hid (q_check HQW.out)
          have HT1 := Lib.hid (fun W (hW : Ext wr W) => q_tick (HQW.out.ext hW))
          have HT2 := Lib.hid (fun W (hQ : WQ N W C B n p r (tkS B (fun k => minusL (sl k) (bl 0 k)) sl) (tkB B (fun k => minusL (sl k) (bl 0 k)) (fun j => if j + 1 = n then zL C else bl (j + 1)) bl) i sl rb) => by
            have := q_rtick hQ
            rw [hz] at this
            exact this)
          clear hz
          generalize chkE B (fun k => minusL (sl k) (bl 0 k)) = ec at *
          go_wp2_with fail
          refine Calls.mono HC1.out ?_
          rintro e w8 ⟨rfl, hx8⟩
          have HX8 := Lib.hid hx8
          clear hx8
          go_wp2_with fail
          refine Calls.mono (HT1.out _ HX8.out) ?_
          rintro e w9 ⟨rfl, hQ9, hB9⟩
          have HQ9 := Lib.hid hQ9
          have HB9 := Lib.hid (Below.trans (below_of HX8.out HWN.out) hB9)
          clear hQ9 hB9
          go_wp2_with fail
          refine Calls.mono (HT2.out _ HQ9.out) ?_
          rintro e wa ⟨rfl, hQa, hBa⟩
          have HQa := Lib.hid (WP.tick HRI.out.1 HRI.out.2 hQa)
          have HBa := Lib.hid (Below.trans HB9.out hBa)
          clear hQa hBa HT1 HT2 HC1
          go_wp2
          go_meet
          exact ⟨⟨_, rfl, rfl⟩, HQa.out, HBa.out⟩
        · by_cases hk2 : kk = 2
          · subst hk2
            clear hk1 d0 d1 d2
            go_wp2_with fail
            refine Calls.mono (q_copy HQW.out) ?_
            rintro e w8 ⟨p', rfl, hQ8, hx8⟩
            have HQ8 := Lib.hid hQ8
            have HX8 := Lib.hid hx8
            clear hQ8 hx8
            go_wp2_with fail
            refine Calls.mono (q_rcopy HQ8.out) ?_
            rintro e w9 ⟨r', rfl, hQ9, hx9⟩
            have HQ9 : Hid (WP N w9 C B n (.pointer (some ⟨p', 0, none⟩)) (.pointer (some ⟨r', 0, none⟩))) := Lib.hid ⟨p', r', sl, bl, i, rb, rfl, rfl, HRI.out.1, hQ9, HRI.out.2⟩
            have HB9 : Hid (Below N wr w9) := Lib.hid (below_of (HX8.out.trans' hx9) HWN.out)
            clear hQ9 hx9
            go_wp2
            go_meet
            exact ⟨⟨0, rfl, rfl⟩, HQ9.out, HB9.out⟩
          · have e1 : (kk == 1) = false := by simpa using hk1
            have e2 : (kk == 2) = false := by simpa using hk2
            clear hk1 hk2
            have HU1 := Lib.hid (fun W (hW : Ext wr W) => q_upd (HQW.out.ext hW) uk ud HUK.out HUD.out)
            have HU2 := Lib.hid (fun W W' (hQ : WQ N W C B n p r (wS C B (n - 1) sl bl uk ud) (wB C B (n - 1) sl bl uk ud) i sl rb) (hW : Ext W W') => by
              have := q_rupd (hQ.ext hW) uk ud HUK.out HUD.out
              rw [wE_ring HRI.out.1 HRI.out.2] at this
              exact this)
            generalize wE C B (n - 1) sl bl uk ud = ec at *
            go_wp2_with fail
            have hC0 := af_drew wr
            refine pi_start (fun w' => ∃ x : After wr, w' = x.w) [11] (by kernel_rfl) ?_
            refine pi_t 0 rfl (by kernel_rfl) (by kernel_rfl) (fun _ _ _ _ h => h) (fun K hK => ?_)
            go_big_quiet_op
            refine hK _ ?_
            clear hK K
            refine pi_t 1 rfl (by kernel_rfl) (by kernel_rfl) (fun _ _ _ _ h => h) (fun K hK => ?_)
            go_big_quiet_op
            refine hK _ ?_
            clear hK K
            refine pi_t 2 rfl (by kernel_rfl) (by kernel_rfl) (fun _ _ _ _ h => h) (fun K hK => ?_)
            go_big_quiet_op
            refine hK _ ?_
            clear hK K
            refine pi_t 3 rfl (by kernel_rfl) (by kernel_rfl) (fun _ _ _ _ h => h) (fun K hK => ?_)
            go_big_quiet_op
            refine hK _ ?_
            clear hK K
            refine pi_t 4 rfl (by kernel_rfl) (by kernel_rfl) (fun _ _ _ _ h => h) (fun K hK => ?_)
            go_big_quiet_op
            refine hK _ ?_
            clear hK K
            refine pi_t 6 rfl (by kernel_rfl) (by kernel_rfl) (fun _ _ _ _ h => h) (fun K hK => ?_)
            go_big_quiet_op
            refine hK _ ?_
            clear hK K
            refine pi_t 7 rfl (by kernel_rfl) (by kernel_rfl) (fun _ _ _ _ h => h) (fun K hK => ?_)
            go_big_quiet_op
            refine hK _ ?_
            clear hK K
            refine pi_t 8 rfl (by kernel_rfl) (by kernel_rfl) (fun _ _ _ _ h => h) (fun K hK => ?_)
            go_big_quiet_op
            refine hK _ ?_
            clear hK K
            refine pi_t 9 rfl (by kernel_rfl) (by kernel_rfl) (fun _ _ _ _ h => h) (fun K hK => ?_)
            go_big_quiet_op
            refine hK _ ?_
            clear hK K
            refine pi_c 5 (by assumption) rfl (by kernel_rfl) (by kernel_rfl) (fun _ _ _ _ h => h) (fun K hK => ?_)
            go_big_quiet_op
            refine hK _ ?_
            clear hK K
            refine pi_c 10 (by assumption) rfl (by kernel_rfl) (by kernel_rfl) (fun _ _ _ _ h => h) (fun K hK => ?_)
            go_big_quiet_op
            refine hK _ ?_
            clear hK K
            refine pi_l 11 rfl (by kernel_rfl) (fun K hK => ?_)
            go_wp2_with (go_at_call 57; refine Calls.mono (HU1.out _ (Below.drew (Ext.refl wr))) ?_; rintro e w8 ⟨rfl, hQ8, hB8⟩)
            refine hK _ _ (by simp) ?_
            clear hK K
            have HQ8 := Lib.hid hQ8
            have hB8' : Below N wr w8 := Below.trans (below_of (Below.drew (Ext.refl wr)) HWN.out) hB8
            have HB8 := Lib.hid hB8'
            have e1' := cell_below hB8' hugN d1
            have e2' := cell_below hB8' hugN d2
            have gl8 := Nat.lt_of_lt_of_le hgl2 hB8'.size
            clear hQ8 hB8 hB8' d0 d1 d2
            refine pi_t 12 rfl (by kernel_rfl) (by kernel_rfl) (fun _ _ _ _ h => h) (fun K hK => ?_)
            go_big_quiet_op
            refine hK _ ?_
            clear hK K
            refine pi_end (by kernel_rfl) ?_
            go_wp2_with fail
            have hC0 := af_drew w8
            refine pi_start (fun w' => ∃ x : After w8, w' = x.w) [11] (by kernel_rfl) ?_
            refine pi_t 0 rfl (by kernel_rfl) (by kernel_rfl) (fun _ _ _ _ h => h) (fun K hK => ?_)
            go_big_quiet_op
            refine hK _ ?_
            clear hK K
            refine pi_t 1 rfl (by kernel_rfl) (by kernel_rfl) (fun _ _ _ _ h => h) (fun K hK => ?_)
            go_big_quiet_op
            refine hK _ ?_
            clear hK K
            refine pi_t 2 rfl (by kernel_rfl) (by kernel_rfl) (fun _ _ _ _ h => h) (fun K hK => ?_)
            go_big_quiet_op
            refine hK _ ?_
            clear hK K
            refine pi_t 3 rfl (by kernel_rfl) (by kernel_rfl) (fun _ _ _ _ h => h) (fun K hK => ?_)
            go_big_quiet_op
            refine hK _ ?_
            clear hK K
            refine pi_t 4 rfl (by kernel_rfl) (by kernel_rfl) (fun _ _ _ _ h => h) (fun K hK => ?_)
            go_big_quiet_op
            refine hK _ ?_
            clear hK K
            refine pi_t 6 rfl (by kernel_rfl) (by kernel_rfl) (fun _ _ _ _ h => h) (fun K hK => ?_)
            go_big_quiet_op
            refine hK _ ?_
            clear hK K
            refine pi_t 7 rfl (by kernel_rfl) (by kernel_rfl) (fun _ _ _ _ h => h) (fun K hK => ?_)
            go_big_quiet_op
            refine hK _ ?_
            clear hK K
            refine pi_t 8 rfl (by kernel_rfl) (by kernel_rfl) (fun _ _ _ _ h => h) (fun K hK => ?_)
            go_big_quiet_op
            refine hK _ ?_
            clear hK K
            refine pi_t 9 rfl (by kernel_rfl) (by kernel_rfl) (fun _ _ _ _ h => h) (fun K hK => ?_)
            go_big_quiet_op
            refine hK _ ?_
            clear hK K
            refine pi_c 5 (by assumption) rfl (by kernel_rfl) (by kernel_rfl) (fun _ _ _ _ h => h) (fun K hK => ?_)
            go_big_quiet_op
            refine hK _ ?_
            clear hK K
            refine pi_c 10 (by assumption) rfl (by kernel_rfl) (by kernel_rfl) (fun _ _ _ _ h => h) (fun K hK => ?_)
            go_big_quiet_op
            refine hK _ ?_
            clear hK K
            refine pi_l 11 rfl (by kernel_rfl) (fun K hK => ?_)
            go_wp2_with (go_at_call 58; refine Calls.mono (HU2.out _ _ HQ8.out (Below.drew (Ext.refl w8))) ?_; rintro e w9 ⟨rfl, hQ9, hB9⟩)
            refine hK _ _ (by simp) ?_
            clear hK K
            have HQ9 := Lib.hid (WP.upd HRI.out.1 HRI.out.2 hQ9).1
            have HB9 := Lib.hid (Below.trans HB8.out (Below.trans (below_of (Below.drew (Ext.refl w8)) (Nat.le_trans HWN.out HB8.out.size)) hB9))
            clear hQ9 hB9 HU1 HU2
            refine pi_t 12 rfl (by kernel_rfl) (by kernel_rfl) (fun _ _ _ _ h => h) (fun K hK => ?_)
            go_big_quiet_op
            refine hK _ ?_
            clear hK K
            refine pi_end (by kernel_rfl) ?_
            go_wp2
            go_meet
            exact ⟨⟨_, rfl, rfl⟩, HQ9.out, HB9.out⟩
      case rest =>
        obtain ⟨⟨ee, rfl, rfl⟩, ⟨p, r, sl, bl, i, rb, rfl, rfl, hi, hQ, hr⟩, hB⟩ := hcut
        rename World => w8
        have hE8 : Ext w3 w8 := Below.trans HER.out (by rw [HN.out]; exact hB)
        have HQ8 := Lib.hid hQ
        have HR8 := Lib.hid (And.intro hi hr)
        have HE8 := Lib.hid hE8
        obtain ⟨rs, rt, rL, hrl, hr0, hrk⟩ := hQ.rsum
        have HRK := Lib.hid hrk
        clear hQ hi hr hB d0 d1 d2 hE8 hrk
        go_wp2_with fail
        have hC0 := af_drew w8
        refine pi_start (fun w' => ∃ x : After w8, w' = x.w) [] (by kernel_rfl) ?_
        refine pi_t 0 rfl (by kernel_rfl) (by kernel_rfl) (fun _ _ _ _ h => h) (fun K hK => ?_)
        go_big_quiet_op
        refine hK _ ?_
        clear hK K
        refine pi_t 1 rfl (by kernel_rfl) (by kernel_rfl) (fun _ _ _ _ h => h) (fun K hK => ?_)
        go_big_quiet_op
        refine hK _ ?_
        clear hK K
        refine pi_t 2 rfl (by kernel_rfl) (by kernel_rfl) (fun _ _ _ _ h => h) (fun K hK => ?_)
        go_big_quiet_op
        refine hK _ ?_
        clear hK K
        refine pi_t 3 rfl (by kernel_rfl) (by kernel_rfl) (fun _ _ _ _ h => h) (fun K hK => ?_)
        go_big_quiet_op
        refine hK _ ?_
        clear hK K
        refine pi_t 4 rfl (by kernel_rfl) (by kernel_rfl) (fun _ _ _ _ h => h) (fun K hK => ?_)
        go_big_quiet_op
        refine hK _ ?_
        clear hK K
        refine pi_t 6 rfl (by kernel_rfl) (by kernel_rfl) (fun _ _ _ _ h => h) (fun K hK => ?_)
        go_big_quiet_op
        refine hK _ ?_
        clear hK K
        refine pi_t 7 rfl (by kernel_rfl) (by kernel_rfl) (fun _ _ _ _ h => h) (fun K hK => ?_)
        go_big_quiet_op
        refine hK _ ?_
        clear hK K
        refine pi_t 8 rfl (by kernel_rfl) (by kernel_rfl) (fun _ _ _ _ h => h) (fun K hK => ?_)
        go_big_quiet_op
        refine hK _ ?_
        clear hK K
        refine pi_c 9 (by assumption) rfl (by kernel_rfl) (by kernel_rfl) (fun _ _ _ _ h => h) (fun K hK => ?_)
        go_big_quiet_op
        refine hK _ ?_
        clear hK K
        refine pi_l 5 rfl (by kernel_rfl) (fun K hK => ?_)
        go_wp2_with (go_at_call 60; refine Calls.mono (HQ8.out.ext (Below.drew (Ext.refl w8))).sum ?_; rintro e wa ⟨ss, sg, sL, rfl, hKs, _, _, _, hxa⟩)
        have hEa : Ext w8 wa := Ext.trans' (Below.drew (Ext.refl w8)) hxa
        refine hK _ _ (fun _ h => af_step h hxa) ?_
        clear hK K
        have HKS := Lib.hid hKs
        clear hKs hxa
        refine pi_l 10 rfl (by kernel_rfl) (fun K hK => ?_)
        go_wp2_with (go_at_call 59; refine Calls.mono (same24_c ss sg sL rs rt rL C B sl _ HKS.out (HRK.out.ext hEa)) ?_; rintro e wb ⟨rfl, hxb⟩)
        have hEb := hEa.trans' hxb
        refine hK _ _ (fun _ h => af_step h hxb) ?_
        clear hK K
        have HQb : Hid (WP N wb C B n (.pointer (some ⟨p, 0, none⟩)) (.pointer (some ⟨r, 0, none⟩))) := Lib.hid ⟨p, r, sl, bl, i, rb, rfl, rfl, HR8.out.1, HQ8.out.ext hEb, HR8.out.2⟩
        have hE9 := HE8.out.trans' hEb
        clear hEa hxb hEb
        refine pi_t 11 rfl (by kernel_rfl) (by kernel_rfl) (fun _ _ _ _ h => h) (fun K hK => ?_)
        go_big_quiet_op
        refine hK _ ?_
        clear hK K
        refine pi_t 12 rfl (by kernel_rfl) (by kernel_rfl) (fun _ _ _ _ h => h) (fun K hK => ?_)
        go_big_quiet_op
        refine hK _ ?_
        clear hK K
        refine pi_end (by kernel_rfl) ?_
        go_wp2
        go_roundw
        case rel => exact ⟨k + 1, by omega, by omega, by go_num, hE9, HQb.out⟩
        case measure => simp [intOf]; omega
    · have hge : ¬ k < os.length ∨ ¬ k < 40 := by omega
      clear hgo hEw
      rename World => wo
      go_upto_region 8 with (fail)
      go_cut [46] (fun s74 wx => s74 = .bool false ∧ wx = wo)
      case first =>
        by_cases hgl : k < os.length
        · have hg6 : ¬ k < 40 := by omega
          go_wp2_with fail
          go_meet
          exact ⟨by first | rfl | exact congrArg Value.bool (decide_eq_false (by omega)), rfl⟩
        · first
            | (go_wp2_with fail
               go_meet
               exact ⟨rfl, rfl⟩)
            | (clear hge
               go_wp2_with fail
               go_meet
               exact ⟨by first | rfl | exact congrArg Value.bool (decide_eq_false (by omega)), rfl⟩)
      case rest =>
        obtain ⟨rfl, rfl⟩ := hcut
        rename World => wo
        clear hge
        have hEf := HE3.out.trans' hE
        go_wp2_with fail
        refine Calls.mono HQW.out.bks ?_
        rintro e wa ⟨rfl, rfl⟩
        go_wp2
        go_ret
        exact ⟨rfl, hEf⟩
end Go.Proofs.YtfhdjekpdifajaaGreat
namespace Go.Proofs.YtfhdjekpdifajaaGreat
set_option linter.unusedVariables false
open Go.ChangeShapes Go.WideShapes Go.ChangeAt Go.RowKit Go.Deep
theorem wf_u64 {x : Int} (h : (Lit.int IntKind.u64 x).wf = true) : U64 x := by
  have := bounds_u64 h
  exact ⟨this.1, by omega⟩
theorem wf_i64 {x : Int} (h : (Lit.int IntKind.i64 x).wf = true) : I64 x := by
  have := bounds_i64 h
  exact ⟨this.1, by omega⟩
section
variable {H : Type} {enc : TypeId × Value → H} {w : World} {base : Nat} {spare : Nat → Bool} {held : Bool}
set_option maxRecDepth 100000 in
/-- Five cells that read as a config. -/
theorem cfg_of {n : Nat} {cs : List Value} {y : DataW H × List MemPlace} (h : DataW.trod enc Tryz.prog w base spare held n 24 cs = some y) :
    ∃ C : Cfg, C.Raw ∧ cs = [.int .i64 C.bits, .int .i64 C.rows, .int .i64 C.width, .int .i64 C.mode, .int .u64 C.seed] := by
  obtain ⟨xs, n, _, _, hl, hx, hg⟩ := DataW.trod_struct Tryz.underlying24 h
  have hl' : cs.length = 5 := hl.trans (by kernel_rfl)
  match cs, hl' with
  | [c0, c1, c2, c3, c4], _ =>
    have hx' : xs.length = 5 := hx.trans (by kernel_rfl)
    match xs, hx' with
    | [x0, x1, x2, x3, x4], _ =>
      have e0 : DataW.trod enc Tryz.prog w base spare held n 3 [c0] = some x0 := hg 0 _ rfl
      have e1 : DataW.trod enc Tryz.prog w base spare held n 3 [c1] = some x1 := hg 1 _ rfl
      have e2 : DataW.trod enc Tryz.prog w base spare held n 3 [c2] = some x2 := hg 2 _ rfl
      have e3 : DataW.trod enc Tryz.prog w base spare held n 3 [c3] = some x3 := hg 3 _ rfl
      have e4 : DataW.trod enc Tryz.prog w base spare held n 22 [c4] = some x4 := hg 4 _ rfl
      obtain ⟨a0, h0, _, w0⟩ := DataW.trod_int Tryz.underlying3 e0
      obtain ⟨a1, h1, _, w1⟩ := DataW.trod_int Tryz.underlying3 e1
      obtain ⟨a2, h2, _, w2⟩ := DataW.trod_int Tryz.underlying3 e2
      obtain ⟨a3, h3, _, w3⟩ := DataW.trod_int Tryz.underlying3 e3
      obtain ⟨a4, h4, _, w4⟩ := DataW.trod_int Tryz.underlying22 e4
      simp only [List.cons.injEq, and_true] at h0 h1 h2 h3 h4
      exact ⟨⟨a0, a1, a2, a3, a4⟩, ⟨wf_i64 w0, wf_i64 w1, wf_i64 w2, wf_i64 w3, wf_u64 w4⟩, by rw [h0, h1, h2, h3, h4]⟩
theorem add_plain0 (b off i : Nat) : (Addr.add ⟨b, off, none⟩ i) = ⟨b, off + i, none⟩ := by
  unfold Addr.add
  by_cases h : i = 0
  · subst h; simp
  · simp [h]
theorem choose_list {α : Type} (P : Nat → α → Prop) : ∀ n, (∀ i, i < n → ∃ x, P i x) → ∃ l : List α, l.length = n ∧ ∀ i (h : i < l.length), P i l[i] := by
  intro n
  induction n with
  | zero => intro _; exact ⟨[], rfl, fun i h => by simp at h⟩
  | succ n ih =>
    intro h
    obtain ⟨l, hl, hP⟩ := ih (fun i hi => h i (by omega))
    obtain ⟨x, hx⟩ := h n (by omega)
    refine ⟨l ++ [x], by simp [hl], fun i hi => ?_⟩
    by_cases e : i < l.length
    · rw [List.getElem_append_left e]; exact hP i e
    · have : i = n := by simp at hi; omega
      subst this
      rw [List.getElem_append_right (by omega)]
      simp [hl, hx]
theorem reach_of {ts : List TypeId} {ds : List (DataW H)} {j : Nat} {t : TypeId} {d : DataW H} (hsz : (DataW.weightsEach Tryz.prog ts ds).all (· ≤ reachBytes) = true) (ht : ts[j]? = some t) (hd : ds[j]? = some d) {n : Nat} (hn : n ∈ d.weights Tryz.prog t) : n ≤ reachBytes := by
  have := List.all_eq_true.1 hsz _ (DataW.weights_mem_each ht hd n hn)
  simpa using this
end
end Go.Proofs.YtfhdjekpdifajaaGreat
namespace Go.Proofs.YtfhdjekpdifajaaGreat
set_option linter.unusedVariables false
open Go.ChangeShapes Go.WideShapes Go.ChangeAt Go.RowKit Go.Deep
theorem own : ownKnob Tryz.prog.godebug = none := by kernel_rfl
theorem laidOut : laidOutB Tryz.prog = true := by kernel_rfl
section
variable {H : Type} {enc : TypeId × Value → H} {w : World} {held : Bool}
set_option maxRecDepth 100000 in
theorem cfgarg_of {r : Reach} {b0 : Nat} {v : Value} {d : DataW H} {p : List MemPlace} (hv : Value.okWide Tryz.prog w r b0 24 v) (h : DataW.Trod enc Tryz.prog w 0 (fun _ => true) held 24 v d p) :
    ∃ (x : Cfg), x.Raw ∧ v = .agg #[.int .i64 x.bits, .int .i64 x.rows, .int .i64 x.width, .int .i64 x.mode, .int .u64 x.seed] := by
  obtain ⟨cs, rfl, hsz⟩ := okWide_struct Tryz.underlying24 hv
  obtain ⟨fuel, hf⟩ := h
  obtain ⟨l⟩ := cs
  obtain ⟨x, hxr, hc⟩ := cfg_of hf
  have hc' : l = _ := hc
  subst hc'
  exact ⟨x, hxr, rfl⟩
end
end Go.Proofs.YtfhdjekpdifajaaGreat
namespace Go.Proofs.YtfhdjekpdifajaaGreat
set_option linter.unusedVariables false
open Go.ChangeShapes Go.WideShapes Go.ChangeAt Go.RowKit Go.Deep
section
variable {H : Type} {enc : TypeId × Value → H} {w : World} {held : Bool}
set_option maxRecDepth 100000 in
theorem op24_of {spare : Nat → Bool} {base n : Nat} {cs : List Value} {y : DataW H × List MemPlace} (h : DataW.trod enc Tryz.prog w base spare held n 90 cs = some y) :
    ∃ u : Opn, (I64 u.1 ∧ U64 u.2.1 ∧ I64 u.2.2) ∧ cs = [.int .i64 u.1, .int .u64 u.2.1, .int .i64 u.2.2] := by
  obtain ⟨xs, n, _, _, hl, hx, hg⟩ := DataW.trod_struct Tryz.underlying90 h
  have hl' : cs.length = 3 := hl.trans (by kernel_rfl)
  match cs, hl' with
  | [c0, c1, c2], _ =>
    have hx' : xs.length = 3 := hx.trans (by kernel_rfl)
    match xs, hx' with
    | [x0, x1, x2], _ =>
      have e0 : DataW.trod enc Tryz.prog w base spare held n 3 [c0] = some x0 := hg 0 _ rfl
      have e1 : DataW.trod enc Tryz.prog w base spare held n 22 [c1] = some x1 := hg 1 _ rfl
      have e2 : DataW.trod enc Tryz.prog w base spare held n 2 [c2] = some x2 := hg 2 _ rfl
      obtain ⟨a0, h0, _, w0⟩ := DataW.trod_int Tryz.underlying3 e0
      obtain ⟨a1, h1, _, w1⟩ := DataW.trod_int Tryz.underlying22 e1
      obtain ⟨a2, h2, _, w2⟩ := DataW.trod_int Tryz.underlying2 e2
      simp only [List.cons.injEq, and_true] at h0 h1 h2
      exact ⟨(a0, a1, a2), ⟨wf_i64 w0, wf_u64 w1, wf_i64 w2⟩, by rw [h0, h1, h2]⟩
set_option maxRecDepth 100000 in
theorem ops24arg_of {r : Reach} {b0 : Nat} {v : Value} {d : DataW H} {p : List MemPlace} (hv : Value.okWide Tryz.prog w r b0 82 v) (h : DataW.Trod enc Tryz.prog w 0 (fun _ => true) held 82 v d p) :
    ∃ (os : List Opn), OpsOk os ∧ OpsAt w v os ∧
      ∀ (ts : List TypeId) (ds : List (DataW H)) (j : Nat), (DataW.weightsEach Tryz.prog ts ds).all (· ≤ reachBytes) = true → ts[j]? = some 82 → ds[j]? = some d → os.length ≤ 140737488355328 := by
  obtain ⟨q, n, cap, rfl⟩ := okWide_slice Tryz.underlying82 hv
  obtain ⟨fuel, hf⟩ := h
  rcases open_slice Tryz.underlying82 hf with ⟨hcs, _⟩ | ⟨a, len, cap', m, n', D, Pl, hcs, _, hlc, hcm, hm, hx, hi⟩
  · have hcs' : [Value.slice q n cap] = [Value.slice none 0 0] := hcs
    simp only [List.cons.injEq, and_true, Value.slice.injEq] at hcs'
    obtain ⟨rfl, rfl, rfl⟩ := hcs'
    exact ⟨[], (by intro u hu; cases hu), .inl ⟨⟨_, rfl⟩, rfl⟩, fun _ _ _ _ _ _ => Nat.zero_le _⟩
  · have hcs' : [Value.slice q n cap] = [Value.slice (some a) len cap'] := hcs
    simp only [List.cons.injEq, and_true, Value.slice.injEq] at hcs'
    obtain ⟨rfl, rfl, rfl⟩ := hcs'
    simp only [if_true] at hm
    rw [hm] at hi hx
    clear hm
    have hC : Tryz.prog.cellsOf 90 = 3 := by kernel_rfl
    rw [hC] at hi
    have key : ∀ i, i < n → ∃ u : Opn, (I64 u.1 ∧ U64 u.2.1 ∧ I64 u.2.2) ∧ w.cell? (a.add (i * 3)) = some (.int .i64 u.1) ∧ w.cell? (a.add (i * 3 + 1)) = some (.int .u64 u.2.1) ∧ w.cell? (a.add (i * 3 + 2)) = some (.int .i64 u.2.2) := by
      intro i hil
      obtain ⟨cs', hc, ht⟩ := hi i (by omega)
      obtain ⟨u, hu, rfl⟩ := op24_of ht
      obtain ⟨_, _, hat⟩ := World.cells?_some hc
      refine ⟨u, hu, ?_, ?_, ?_⟩
      · have := hat 0 (by omega); rw [add_add, Nat.add_zero] at this; exact this
      · have := hat 1 (by omega); rw [add_add] at this; exact this
      · have := hat 2 (by omega); rw [add_add] at this; exact this
    obtain ⟨us, hul, hus⟩ := choose_list _ n key
    by_cases h0 : cap = 0
    · have hl0 : n = 0 := by omega
      subst hl0 h0
      obtain rfl : us = [] := List.length_eq_zero_iff.1 hul
      exact ⟨[], (by intro u hu; cases hu), .inl ⟨⟨_, rfl⟩, rfl⟩, fun _ _ _ _ _ _ => Nat.zero_le _⟩
    · obtain ⟨cs', hc, ht⟩ := hi 0 (by omega)
      obtain ⟨u, _, rfl⟩ := op24_of ht
      obtain ⟨_, _, hat⟩ := World.cells?_some hc
      have h1 := hat 0 (by omega)
      obtain ⟨b, off, spot⟩ := a
      have hspot : spot = none := by simpa [Addr.add] using World.cell?_spot h1
      subst hspot
      have hb : b < w.heap.size := by
        rcases Nat.lt_or_ge b w.heap.size with h' | h'
        · exact h'
        · simp [World.cell?, Addr.add, Array.getElem?_eq_none h'] at h1
      refine ⟨us, ?_, .inr ⟨b, off, cap, by rw [hul], hb, fun k hk => ?_⟩, fun ts ds j hs ht hj => ?_⟩
      · intro u hu
        obtain ⟨i, hi', rfl⟩ := List.getElem_of_mem hu
        exact (hus i hi').1
      · have := (hus k hk).2
        have hg : us.getD k (0, 0, 0) = us[k] := by simp [hk]
        rw [hg]
        rw [add_plain0, add_plain0, add_plain0] at this
        simpa only [Nat.add_assoc] using this
      · have hb : Tryz.prog.bytesOf 90 = 24 := by kernel_rfl
        simp only [Prod.mk.injEq] at hx
        have h2 := hx.1
        subst h2
        have := reach_of hs ht hj (by
          simp [DataW.weights, DataW.weightsEach, Tryz.underlying82]
          exact .inl rfl)
        rw [hb] at this
        simp only [reachBytes, List.length_map, List.length_take, List.length_drop, List.length_range] at this
        omega
end
end Go.Proofs.YtfhdjekpdifajaaGreat
namespace Go.Proofs.YtfhdjekpdifajaaGreat
set_option linter.unusedVariables false
open Go.ChangeShapes Go.WideShapes Go.ChangeAt Go.RowKit
set_option maxRecDepth 100000 in
theorem windowPlays_lifted (os : Os) (started : os.Started) (H : Type) (enc : TypeId × Value → H) :
    ReturnsInHanded {} Tryz.checked os 6 .any (Rows.windowPlaysSpec.pre6 enc Tryz.prog Tryz.f6 Rows.windowPlaysRow.domain false) (Rows.windowPlaysSpec.post enc Tryz.prog Tryz.f6 false true false false) := by
  refine returnsInHanded_of_change_sized (C := Tryz.checked) own started (by kernel_rfl) Tryz.func6
    (ChangeSpec.witness6 (enc := enc) (C := Tryz.checked) false ⟨#[], #[.agg #[.int .i64 0, .int .i64 0, .int .i64 0, .int .i64 0, .int .u64 0], .int .i64 0, .slice none 0 0], []⟩ 8 (by kernel_rfl) (by kernel_rfl) (by kernel_rfl) (by kernel_rfl)) ?_
  intro W base args ds gs before hval0 hW hcnd hsz0 _
  have hval : ∀ (j : Nat) t v, Tryz.f6.params[j]? = some t → args[j]? = some v → Value.okWide Tryz.prog W .any base t v := hval0
  have hW' := hW
  obtain ⟨p, q, hA0, hV, rfl, hfz, hnd⟩ := hW
  have hA : DataW.TrodAll enc Tryz.prog W 0 (fun _ => true) true Tryz.f6.params.toList args.toList ds p := hA0
  have hsz : (DataW.weightsEach Tryz.prog (Tryz.f6.params.toList ++ Rows.windowPlaysSpec.plain.varTypes Tryz.prog) (ds ++ gs)).all (· ≤ reachBytes) = true := hsz0
  rw [Tryz.params6] at hA hval hsz
  obtain ⟨v0, vs0, d0, ds0, p0, q0, hargs, rfl, rfl, h0, r0⟩ := trodAll_cons hA
  obtain ⟨v1, vs1, d1, ds1, p1, q1, rfl, rfl, rfl, h1, r1⟩ := trodAll_cons r0
  obtain ⟨v2, vs2, d2, ds2, p2, q2, rfl, rfl, rfl, h2, r2⟩ := trodAll_cons r1
  obtain ⟨rfl, rfl, rfl⟩ := trodAll_nil r2
  obtain rfl : args = #[v0, v1, v2] := by cases args; simp_all
  obtain ⟨rfl, rfl⟩ := trodVars_none hV
  have k0 := h0
  have k1 := h1
  have k2 := h2
  have lt0 : ∀ x ∈ p0, x.block < W.heap.size := by obtain ⟨m, hm⟩ := k0; exact DataW.trod_lt m _ _ _ hm
  have lt1 : ∀ x ∈ p1, x.block < W.heap.size := by obtain ⟨m, hm⟩ := k1; exact DataW.trod_lt m _ _ _ hm
  have lt2 : ∀ x ∈ p2, x.block < W.heap.size := by obtain ⟨m, hm⟩ := k2; exact DataW.trod_lt m _ _ _ hm
  obtain ⟨x0, hx0, rfl⟩ := cfgarg_of (hval 0 _ v0 rfl rfl) h0
  obtain ⟨n1, rfl, _, _, wf1⟩ := open_int Tryz.underlying3 (hval 1 _ v1 rfl rfl) h1
  have hn1 := wf_i64 wf1
  obtain ⟨os2, hos2, hat2, hr2⟩ := ops24arg_of (hval 2 _ v2 rfl rfl) h2
  have hul2 := hr2 _ _ 2 hsz rfl rfl
  clear hA0 hval0
  refine (WPlaysL_c x0 hx0 n1 hn1 os2 hos2 v2 W hat2 hul2).mono fun e W' ⟨he, bel⟩ => ?_
  subst he
  exact ⟨_, rfl, _, _, _, [], _, [], hW', trodAll_mk1 (shut_bool Tryz.underlying4 _), (trodAll_cons_mk (Below.trod laidOut (by kernel_rfl) (of_decide_eq_true (by kernel_rfl)) k0 bel lt0) (trodAll_cons_mk (Below.trod laidOut (by kernel_rfl) (of_decide_eq_true (by kernel_rfl)) k1 bel lt1) (trodAll_cons_mk (Below.trod laidOut (by kernel_rfl) (of_decide_eq_true (by kernel_rfl)) k2 bel lt2) trodAll_mk0))), rfl, bel.frame _, fun h => by cases h⟩
end Go.Proofs.YtfhdjekpdifajaaGreat
