/- Part. No condition. -/
import Derived.Test.YtfhdjekpdifajaaGreatDLevelPlays3
import Derived.Test.YtfhdjekpdifajaaGreatDLevelPlays11
import Derived.Deep.CutBlock
import Derived.ProofKit
import Derived.OpenShut
import Derived.ChangeOld
import Derived.Below
import Derived.SizedLaws
import Derived.Deep.Slices
import Derived.Deep.Fields
namespace Go.Proofs.YtfhdjekpdifajaaGreat
set_option linter.unusedVariables false
open Go.RowKit
def SameL (v1 v2 : Value) : Prop := ∃ e : Int, v1 = .int .i64 e ∧ v2 = .int .i64 e
set_option maxRecDepth 20000 in
set_option maxHeartbeats 16000000 in
theorem LPlaysL_c (x : Cfg) (hx : x.Raw) (lx : Int) (hlx : I64 lx) (os : List Opn) (hos : OpsOk os) (v : Value) (w : World) (hv : OpsAt w v os) (hul : os.length ≤ 140737488355328) :
    Calls Tryz.prog 5 #[.agg #[.int .i64 x.bits, .int .i64 x.rows, .int .i64 x.width, .int .i64 x.mode, .int .u64 x.seed], .int .i64 lx, v] w fun e w' => e = .returned (.bool true) ∧ Ext w w' := by
  obtain ⟨vp, vc, rfl⟩ := hv.sl
  have HV := Lib.hid hv
  clear hv
  have hla := and16 lx
  have hl0 := Int.emod_nonneg lx (show (65536 : Int) ≠ 0 by decide)
  have hl1 := Int.emod_lt_of_pos lx (show (0 : Int) < 65536 by decide)
  go_enter Tryz.func5, Tryz.ntmps5
  go_wp2_with fail
  refine (shown13_c _).mono ?_
  rintro e w1 ⟨rfl, hb1⟩
  have hE1 : Ext w w1 := by (repeat' (first | exact Ext.refl _ | assumption | apply Ext.allocR | apply Ext.drewR | apply Ext.drewNR | (refine Ext.trans' ?_ (by assumption))))
  have hC := (CfgAt.box (w := w) x 24 rfl).ext hb1
  have c0 := hC.c0
  have c1 := hC.c1
  have c2 := hC.c2
  have c3 := hC.c3
  have c4 := hC.c4
  have cl := hC.lt
  clear hC hb1
  go_wp2_with fail
  refine (Any_c x hx 6 9 (by decide) (by decide) (by decide) (by decide) _).mono ?_
  rintro e w2 ⟨rfl, hx2⟩
  have hok := mkC_ok x hx.s (nb := 6) (nw := 9) (by decide) (by decide) (by decide) (by decide)
  have hE2 : Ext w w2 := by (repeat' (first | exact Ext.refl _ | assumption | apply Ext.allocR | apply Ext.drewR | apply Ext.drewNR | (refine Ext.trans' ?_ (by assumption))))
  generalize mkC x 6 9 = C at *
  have hb1 := hok.b1
  have hb2 := hok.b2
  clear c0 c1 c2 c3 c4 cl hx2 hE1
  have k0 := Int.emod_nonneg (lx % 65536) (show C.bits + 1 ≠ 0 by omega)
  have k1 := Int.emod_lt_of_pos (lx % 65536) (show 0 < C.bits + 1 by omega)
  obtain ⟨lv, hlv⟩ : ∃ lv, lx % 65536 % (C.bits + 1) = lv := ⟨_, rfl⟩
  rw [hlv] at k0 k1
  have HLV := Lib.hid hlv
  have hz0 : (C.bits + 1 == 0) = false := by simp; omega
  clear hlv
  go_upto_region 4 with (fail)
  rw [HLV.out]
  obtain ⟨w3, hw3⟩ : ∃ w3, w2.alloc (.cells #[.int .i64 C.bits, .int .i64 C.rows, .int .i64 C.width, .int .i64 C.mode, .int .u64 C.seed] 24) = w3 := ⟨_, rfl⟩
  have hQ : w3.heap[w2.heap.size]? = some (.cells #[.int .i64 C.bits, .int .i64 C.rows, .int .i64 C.width, .int .i64 C.mode, .int .u64 C.seed] 24 (0, 0)) := by rw [← hw3]; exact heap_at _ _ rfl
  have hE3 : Ext w w3 := by rw [← hw3]; exact hE2.allocR _
  rw [hw3]
  clear hw3 hE2 hla hl0 hl1 HLV hz0
  have HE3 := Lib.hid hE3
  have HQ := Lib.hid hQ
  have HLB := Lib.hid (And.intro k0 (show lv ≤ C.bits by omega))
  have HLN := Lib.hid (fun W' => LNew_c C hok lv k0 (by omega) W')
  have HRN := Lib.hid (fun W' => RLNew_c C hok lv k0 (by omega) W')
  have HOK := Lib.hid hok
  have hC3 := CfgAt.of hQ
  have c0 := hC3.c0
  have c1 := hC3.c1
  have c2 := hC3.c2
  have c3 := hC3.c3
  have c4 := hC3.c4
  have cl := hC3.lt
  clear hC3 hQ hE3 hok hb1 hb2 k0 k1
  go_wp2_with fail
  refine (HLN.out _).mono ?_
  rintro e w4 ⟨L, rfl, hL, s1, s2, s3, hx4⟩
  have HL := Lib.hid hL
  have HF := Lib.hid (show ∀ k, lF L k → w3.heap.size ≤ k from fun k hk => by
    rcases hk with rfl | rfl | rfl
    · exact s1
    · exact s2
    · exact s3)
  have HX4 := Lib.hid hx4
  have hC4 := CfgAt.of (hx4.keep HQ.out)
  rw [lvV_eq]
  clear c0 c1 c2 c3 c4 cl hL s1 s2 s3 hx4
  have c0 := hC4.c0
  have c1 := hC4.c1
  have c2 := hC4.c2
  have c3 := hC4.c3
  have c4 := hC4.c4
  have cl := hC4.lt
  clear hC4
  go_wp2_with fail
  refine (HLN.out _).mono ?_
  rintro e w5 ⟨L2, rfl, hL2, s1, s2, s3, hx5⟩
  have HL2 := Lib.hid hL2
  have HF2 := Lib.hid (show ∀ k, lF L2 k → w4.heap.size ≤ k from fun k hk => by
    rcases hk with rfl | rfl | rfl
    · exact s1
    · exact s2
    · exact s3)
  have HX5 := Lib.hid hx5
  have hC5 := CfgAt.of ((HX4.out.trans' hx5).keep HQ.out)
  rw [lvV_eq]
  clear c0 c1 c2 c3 c4 cl hL2 s1 s2 s3 hx5
  have c0 := hC5.c0
  have c1 := hC5.c1
  have c2 := hC5.c2
  have c3 := hC5.c3
  have c4 := hC5.c4
  have cl := hC5.lt
  clear hC5
  go_wp2_with fail
  refine (HRN.out _).mono ?_
  rintro e w6 ⟨M, rfl, hR, hRF, hx6⟩
  have HR := Lib.hid hR
  have HRF := Lib.hid (show ∀ k, M.foot C lv k → w5.heap.size ≤ k from hRF)
  have HX6 := Lib.hid hx6
  have hC6 := CfgAt.of ((HX4.out.trans' (HX5.out.trans' hx6)).keep HQ.out)
  clear c0 c1 c2 c3 c4 cl hR hRF hx6
  have c0 := hC6.c0
  have c1 := hC6.c1
  have c2 := hC6.c2
  have c3 := hC6.c3
  have c4 := hC6.c4
  have cl := hC6.lt
  clear hC6
  go_wp2_with fail
  refine (HRN.out _).mono ?_
  rintro e w7 ⟨M2, rfl, hR2, hRF2, hx7⟩
  have hE37 := HX4.out.trans' (HX5.out.trans' (HX6.out.trans' hx7))
  have hS7 : S4L w3.heap.size w7 C lv (.iface (lvT C lv) (.pointer (some ⟨L.s, 0, none⟩))) (.iface (lvT C lv) (.pointer (some ⟨L2.s, 0, none⟩))) (.pointer (some ⟨M.p, 0, none⟩)) (.pointer (some ⟨M2.p, 0, none⟩)) := S4L.mk (l := zs (lvN C lv)) (m := zs (lvN C lv))
    (Own4.mk4 (z1 := w4.heap.size) (z2 := w5.heap.size) (z3 := w6.heap.size) (HL.out.own.ext (HX5.out.trans' (HX6.out.trans' hx7))) (HL2.out.own.ext (HX6.out.trans' hx7)) (HR.out.own.ext hx7) hR2.own
      (fun k hk => ⟨HF.out k hk, HL.out.own.lt k hk⟩) (fun k hk => ⟨HF2.out k hk, HL2.out.own.lt k hk⟩) (fun k hk => ⟨HRF.out k hk, HR.out.own.lt k hk⟩) hRF2 HX4.out.size HX5.out.size HX6.out.size hE37.size) rfl rfl
  have HS7 := Lib.hid hS7
  clear c0 c1 c2 c3 c4 cl hR2 hRF2 hx7 hS7 HL HF HX4 HL2 HF2 HX5 HR HRF HX6 HLN HRN
  obtain ⟨N, hN⟩ : ∃ N, w3.heap.size = N := ⟨_, rfl⟩
  have hwN : w.heap.size ≤ N := by rw [← hN]; exact HE3.out.size
  have hqN : w2.heap.size < N := by rw [← hN]; exact lt_of HQ.out
  rw [hN] at HS7
  have HN := Lib.hid hN
  clear hN
  go_wp2_with fail
  go_loopw [9, 11, 13, 14, 15] (fun u9 u11 u13 u14 u15 wr => ∃ k : Nat, k ≤ 50 ∧ k ≤ os.length ∧ u15 = .int .i64 k ∧ Ext w3 wr ∧ S4L N wr C lv u9 u11 u13 u14) (fun _ _ _ _ u15 _ => 50 - (intOf u15).toNat)
  case atStart => exact ⟨0, Nat.zero_le _, Nat.zero_le _, rfl, hE37, HS7.out⟩
  case round =>
    clear hE37 HS7
    obtain ⟨k, hk50, hkl, rfl, hE, L, L2, M, M2, l, m, rfl, rfl, rfl, rfl, hS⟩ := hrel
    have HS := Lib.hid hS
    clear hS
    have hEw := HE3.out.trans' hE
    by_cases hgo : k < os.length ∧ k < 50
    · obtain ⟨hg1, hg2⟩ := hgo
      obtain ⟨ug, off, rfl, hul0, d0', d1', d2'⟩ := HV.out.one hg1
      have d0 := ((bcell hEw).1 _ _ hul0).trans d0'
      have d1 := ((bcell hEw).1 _ _ hul0).trans d1'
      have d2 := ((bcell hEw).1 _ _ hul0).trans d2'
      have hgl2 : ug < wr.heap.size := Nat.lt_of_lt_of_le hul0 hEw.size
      have hugN : ug < N := Nat.lt_of_lt_of_le hul0 hwN
      have hu := hos _ (List.getElem_mem hg1)
      generalize os[k] = oo at *
      obtain ⟨kk, uk, ud⟩ := oo
      obtain ⟨_, hukU, hudI⟩ := hu
      have HUK := Lib.hid hukU
      have HUD := Lib.hid hudI
      have HER := Lib.hid hE
      have HWN : Hid (N ≤ wr.heap.size) := Lib.hid (by have := hE.size; have := HN.out; omega)
      clear d0' d1' d2' hukU hudI hEw hE
      go_upto_block 2 with (fail)
      go_cut [9, 11, 13, 14, 16, 17] (fun s9 s11 s13 s14 s16 s17 wx => SameL s16 s17 ∧ S4L N wx C lv s9 s11 s13 s14 ∧ Below N wr wx)
      case first =>
        by_cases hk1 : kk = 1
        · as_aux_lemma =>
            subst hk1
            have mP := lvm_Point C lv (some ⟨L.s, 0, none⟩)
            have nmP := lvn_Point C lv ⟨L.s, 0, none⟩
            have eP := lve_Point C lv
            go_wp2_with fail
            have hC0 := af_drew wr
            refine pi_start (fun w' => ∃ x : After wr, w' = x.w) [] (by kernel_rfl) ?_
            refine pi_t 0 rfl (by kernel_rfl) (by kernel_rfl) (fun _ _ _ _ h => h) (fun K hK => ?_)
            go_big_quiet_op
            refine hK _ ?_
            clear hK K
            refine pi_t 1 rfl (by kernel_rfl) (by kernel_rfl) (fun _ _ _ _ h => h) (fun K hK => ?_)
            go_big_quiet_op
            refine hK _ ?_
            clear hK K
            refine pi_t 2 rfl (by kernel_rfl) (by kernel_rfl) (fun _ _ _ _ h => h) (fun K hK => ?_)
            go_big_quiet_op
            refine hK _ ?_
            clear hK K
            refine pi_t 3 rfl (by kernel_rfl) (by kernel_rfl) (fun _ _ _ _ h => h) (fun K hK => ?_)
            go_big_quiet_op
            refine hK _ ?_
            clear hK K
            refine pi_t 4 rfl (by kernel_rfl) (by kernel_rfl) (fun _ _ _ _ h => h) (fun K hK => ?_)
            go_big_quiet_op
            refine hK _ ?_
            clear hK K
            refine pi_c 5 (by assumption) rfl (by kernel_rfl) (by kernel_rfl) (fun _ _ _ _ h => h) (fun K hK => ?_)
            go_big_quiet_op
            refine hK _ ?_
            clear hK K
            refine pi_t 6 rfl (by kernel_rfl) (by kernel_rfl) (fun _ _ _ _ h => h) (fun K hK => ?_)
            go_big_quiet_op
            refine hK _ ?_
            clear hK K
            refine pi_t 7 rfl (by kernel_rfl) (by kernel_rfl) (fun _ _ _ _ h => h) (fun K hK => ?_)
            go_big_quiet_op
            refine hK _ ?_
            clear hK K
            refine pi_t 8 rfl (by kernel_rfl) (by kernel_rfl) (fun _ _ _ _ h => h) (fun K hK => ?_)
            go_big_quiet_op
            refine hK _ ?_
            clear hK K
            refine pi_l 9 rfl (by kernel_rfl) (fun K hK => ?_)
            go_wp2_with fail
            refine Calls.mono (LPoint_c C lv L l uk _ (HS.out.o1.h.ext (Below.drew (Ext.refl wr))) HUK.out) ?_
            rintro e w8 ⟨x1, t1, rfl, hp1, hx8⟩
            go_wp2
            refine hK _ _ (fun _ h => af_step h hx8) ?_
            clear hK K
            have hE8 : Ext wr w8 := Ext.trans' (Below.drew (Ext.refl wr)) hx8
            have HP1 := Lib.hid hp1
            have HS8 := Lib.hid (HS.out.ext hE8)
            have f1 := ((bcell hE8).1 ug _ hgl2).trans d1
            have f2 := ((bcell hE8).1 ug _ hgl2).trans d2
            have gl8 := Nat.lt_of_lt_of_le hgl2 hE8.size
            have HE8 := Lib.hid hE8
            clear hp1 hx8 hE8 d0 d1 d2 mP eP nmP
            refine pi_t 10 rfl (by kernel_rfl) (by kernel_rfl) (fun _ _ _ _ h => h) (fun K hK => ?_)
            go_big_quiet_op
            refine hK _ ?_
            clear hK K
            refine pi_t 11 rfl (by kernel_rfl) (by kernel_rfl) (fun _ _ _ _ h => h) (fun K hK => ?_)
            go_big_quiet_op
            refine hK _ ?_
            clear hK K
            refine pi_t 12 rfl (by kernel_rfl) (by kernel_rfl) (fun _ _ _ _ h => h) (fun K hK => ?_)
            go_big_quiet_op
            refine hK _ ?_
            clear hK K
            refine pi_t 13 rfl (by kernel_rfl) (by kernel_rfl) (fun _ _ _ _ h => h) (fun K hK => ?_)
            go_big_quiet_op
            refine hK _ ?_
            clear hK K
            refine pi_t 14 rfl (by kernel_rfl) (by kernel_rfl) (fun _ _ _ _ h => h) (fun K hK => ?_)
            go_big_quiet_op
            refine hK _ ?_
            clear hK K
            refine pi_end (by kernel_rfl) ?_
            go_wp2_with fail
            refine Calls.mono (RLPoint_c M C lv l uk _ HS8.out.o3.h HUK.out) ?_
            rintro e w9 ⟨x2, t2, rfl, hp2, hx9⟩
            obtain ⟨rfl, rfl⟩ := ptA_unique hp2 HP1.out
            have HS9 := Lib.hid (HS8.out.ext hx9)
            have g1 := ((bcell hx9).1 ug _ gl8).trans f1
            have g2 := ((bcell hx9).1 ug _ gl8).trans f2
            have gl9 := Nat.lt_of_lt_of_le gl8 hx9.size
            have HE9 := Lib.hid (HE8.out.trans' hx9)
            clear hp2 f1 f2 HP1 hx9 HS8 HE8
            have mC := lvm_Check C lv (some ⟨L.s, 0, none⟩)
            have nmC := lvn_Check C lv ⟨L.s, 0, none⟩
            have eC := lve_Check C lv
            go_wp2_with fail
            have hC0 := af_drew w9
            refine pi_start (fun w' => ∃ x : After w9, w' = x.w) [] (by kernel_rfl) ?_
            refine pi_t 0 rfl (by kernel_rfl) (by kernel_rfl) (fun _ _ _ _ h => h) (fun K hK => ?_)
            go_big_quiet_op
            refine hK _ ?_
            clear hK K
            refine pi_t 1 rfl (by kernel_rfl) (by kernel_rfl) (fun _ _ _ _ h => h) (fun K hK => ?_)
            go_big_quiet_op
            refine hK _ ?_
            clear hK K
            refine pi_t 2 rfl (by kernel_rfl) (by kernel_rfl) (fun _ _ _ _ h => h) (fun K hK => ?_)
            go_big_quiet_op
            refine hK _ ?_
            clear hK K
            refine pi_t 3 rfl (by kernel_rfl) (by kernel_rfl) (fun _ _ _ _ h => h) (fun K hK => ?_)
            go_big_quiet_op
            refine hK _ ?_
            clear hK K
            refine pi_t 4 rfl (by kernel_rfl) (by kernel_rfl) (fun _ _ _ _ h => h) (fun K hK => ?_)
            go_big_quiet_op
            refine hK _ ?_
            clear hK K
            refine pi_t 6 rfl (by kernel_rfl) (by kernel_rfl) (fun _ _ _ _ h => h) (fun K hK => ?_)
            go_big_quiet_op
            refine hK _ ?_
            clear hK K
            refine pi_t 7 rfl (by kernel_rfl) (by kernel_rfl) (fun _ _ _ _ h => h) (fun K hK => ?_)
            go_big_quiet_op
            refine hK _ ?_
            clear hK K
            refine pi_t 8 rfl (by kernel_rfl) (by kernel_rfl) (fun _ _ _ _ h => h) (fun K hK => ?_)
            go_big_quiet_op
            refine hK _ ?_
            clear hK K
            refine pi_t 9 rfl (by kernel_rfl) (by kernel_rfl) (fun _ _ _ _ h => h) (fun K hK => ?_)
            go_big_quiet_op
            refine hK _ ?_
            clear hK K
            refine pi_c 5 (by assumption) rfl (by kernel_rfl) (by kernel_rfl) (fun _ _ _ _ h => h) (fun K hK => ?_)
            go_big_quiet_op
            refine hK _ ?_
            clear hK K
            refine pi_c 10 (by assumption) rfl (by kernel_rfl) (by kernel_rfl) (fun _ _ _ _ h => h) (fun K hK => ?_)
            go_big_quiet_op
            refine hK _ ?_
            clear hK K
            refine pi_t 11 rfl (by kernel_rfl) (by kernel_rfl) (fun _ _ _ _ h => h) (fun K hK => ?_)
            go_big_quiet_op
            refine hK _ ?_
            clear hK K
            refine pi_t 12 rfl (by kernel_rfl) (by kernel_rfl) (fun _ _ _ _ h => h) (fun K hK => ?_)
            go_big_quiet_op
            refine hK _ ?_
            clear hK K
            refine pi_t 13 rfl (by kernel_rfl) (by kernel_rfl) (fun _ _ _ _ h => h) (fun K hK => ?_)
            go_big_quiet_op
            refine hK _ ?_
            clear hK K
            refine pi_l 14 rfl (by kernel_rfl) (fun K hK => ?_)
            go_wp2_with fail
            refine Calls.mono (LCheck_c C lv L l uk ud _ (HS9.out.o1.h.ext (Below.drew (Ext.refl w9))) HUD.out HUK.out) ?_
            rintro e wa ⟨rfl, hxa⟩
            go_wp2
            refine hK _ _ (fun _ h => af_step h hxa) ?_
            clear hK K
            have hEa : Ext w9 wa := Ext.trans' (Below.drew (Ext.refl w9)) hxa
            have HSa := Lib.hid (HS9.out.ext hEa)
            have k1 := ((bcell hEa).1 ug _ gl9).trans g1
            have k2 := ((bcell hEa).1 ug _ gl9).trans g2
            have gla := Nat.lt_of_lt_of_le gl9 hEa.size
            have HEA := Lib.hid (HE9.out.trans' hEa)
            clear g1 g2 hxa hEa HS9 HE9 mC eC nmC
            refine pi_t 15 rfl (by kernel_rfl) (by kernel_rfl) (fun _ _ _ _ h => h) (fun K hK => ?_)
            go_big_quiet_op
            refine hK _ ?_
            clear hK K
            refine pi_end (by kernel_rfl) ?_
            go_wp2_with fail
            have hC0 := af_drew wa
            refine pi_start (fun w' => ∃ x : After wa, w' = x.w) [] (by kernel_rfl) ?_
            refine pi_t 0 rfl (by kernel_rfl) (by kernel_rfl) (fun _ _ _ _ h => h) (fun K hK => ?_)
            go_big_quiet_op
            refine hK _ ?_
            clear hK K
            refine pi_t 2 rfl (by kernel_rfl) (by kernel_rfl) (fun _ _ _ _ h => h) (fun K hK => ?_)
            go_big_quiet_op
            refine hK _ ?_
            clear hK K
            refine pi_t 3 rfl (by kernel_rfl) (by kernel_rfl) (fun _ _ _ _ h => h) (fun K hK => ?_)
            go_big_quiet_op
            refine hK _ ?_
            clear hK K
            refine pi_t 4 rfl (by kernel_rfl) (by kernel_rfl) (fun _ _ _ _ h => h) (fun K hK => ?_)
            go_big_quiet_op
            refine hK _ ?_
            clear hK K
            refine pi_t 5 rfl (by kernel_rfl) (by kernel_rfl) (fun _ _ _ _ h => h) (fun K hK => ?_)
            go_big_quiet_op
            refine hK _ ?_
            clear hK K
            refine pi_t 7 rfl (by kernel_rfl) (by kernel_rfl) (fun _ _ _ _ h => h) (fun K hK => ?_)
            go_big_quiet_op
            refine hK _ ?_
            clear hK K
            refine pi_t 8 rfl (by kernel_rfl) (by kernel_rfl) (fun _ _ _ _ h => h) (fun K hK => ?_)
            go_big_quiet_op
            refine hK _ ?_
            clear hK K
            refine pi_t 9 rfl (by kernel_rfl) (by kernel_rfl) (fun _ _ _ _ h => h) (fun K hK => ?_)
            go_big_quiet_op
            refine hK _ ?_
            clear hK K
            refine pi_t 10 rfl (by kernel_rfl) (by kernel_rfl) (fun _ _ _ _ h => h) (fun K hK => ?_)
            go_big_quiet_op
            refine hK _ ?_
            clear hK K
            refine pi_c 6 (by assumption) rfl (by kernel_rfl) (by kernel_rfl) (fun _ _ _ _ h => h) (fun K hK => ?_)
            go_big_quiet_op
            refine hK _ ?_
            clear hK K
            refine pi_c 11 (by assumption) rfl (by kernel_rfl) (by kernel_rfl) (fun _ _ _ _ h => h) (fun K hK => ?_)
            go_big_quiet_op
            refine hK _ ?_
            clear hK K
            refine pi_l 1 rfl (by kernel_rfl) (fun K hK => ?_)
            go_wp2_with (go_at_call 39; refine Calls.mono (RLCopy_c M C lv l _ (HSa.out.o3.h.ext (Below.drew (Ext.refl wa)))) ?_; rintro e wb ⟨Mb, rfl, hSb, hFb, hxb⟩)
            have hEb : Ext wa wb := Ext.trans' (Below.drew (Ext.refl wa)) hxb
            refine hK _ _ (fun _ h => af_step h hxb) ?_
            clear hK K
            have HSB := Lib.hid hSb
            have HFB := Lib.hid (show ∀ k, Mb.foot C lv k → wa.heap.size ≤ k from hFb)
            clear hSb hFb
            refine pi_l 12 rfl (by kernel_rfl) (fun K hK => ?_)
            go_wp2_with (go_at_call 40; refine Calls.mono (RLUpdate_c Mb C lv l uk ud _ HSB.out HUK.out HUD.out) ?_; rintro e wc ⟨rfl, hres⟩)
            have hEc : Ext wa wc := by
              rcases hres with ⟨_, _, hM⟩ | ⟨_, hE⟩
              · exact Below.trans hEb (hM.below hEb.size (fun k hk => HFB.out k hk))
              · exact hEb.trans' hE
            refine hK _ _ (fun _ _ => ⟨⟨wc, hEc⟩, rfl⟩) ?_
            clear hK K hres
            refine pi_t 13 rfl (by kernel_rfl) (by kernel_rfl) (fun _ _ _ _ h => h) (fun K hK => ?_)
            go_big_quiet_op
            refine hK _ ?_
            clear hK K
            refine pi_end (by kernel_rfl) ?_
            have HSc := Lib.hid (HSa.out.ext hEc)
            have HBc : Hid (Below N wr wc) := Lib.hid (below_of (HEA.out.trans' hEc) HWN.out)
            go_wp2_with fail
            go_meet
            exact ⟨⟨0, rfl, rfl⟩, S4L.mk HSc.out rfl rfl, HBc.out⟩
        · by_cases hk2 : kk = 2
          · as_aux_lemma =>
              subst hk2
              clear hk1 d0 d1 d2
              go_wp2_with fail
              refine Calls.mono (p_merge HS.out HS.out.o2.h) ?_
              rintro e w8 ⟨rfl, hQ8, hB8⟩
              have HQ8 := Lib.hid hQ8
              have HB8 := Lib.hid hB8
              clear hQ8 hB8
              go_wp2_with fail
              refine Calls.mono (p_rjoin HQ8.out HQ8.out.o4.h) ?_
              rintro e w9 ⟨M', hp', rfl, hQ9, hB9⟩
              have HQ9 := Lib.hid hQ9
              have HP9 := Lib.hid hp'
              have HB9 := Lib.hid (Below.trans HB8.out hB9)
              clear hQ9 hB9 hp'
              go_wp2
              go_meet
              exact ⟨⟨_, rfl, rfl⟩, S4L.mk HQ9.out HP9.out rfl, HB9.out⟩
          · by_cases hk3 : kk = 3
            · as_aux_lemma =>
                subst hk3
                clear hk1 hk2 d0 d1 d2
                go_wp2_with fail
                refine Calls.mono (p_sub HS.out HS.out.o2.h) ?_
                rintro e w8 ⟨rfl, hQ8, hB8⟩
                have HQ8 := Lib.hid hQ8
                have HB8 := Lib.hid hB8
                clear hQ8 hB8
                go_wp2_with fail
                refine Calls.mono (p_rsub HQ8.out HQ8.out.o4.h) ?_
                rintro e w9 ⟨M', hp', rfl, hQ9, hB9⟩
                have HQ9 := Lib.hid hQ9
                have HP9 := Lib.hid hp'
                have HB9 := Lib.hid (Below.trans HB8.out hB9)
                clear hQ9 hB9 hp'
                go_wp2
                go_meet
                exact ⟨⟨_, rfl, rfl⟩, S4L.mk HQ9.out HP9.out rfl, HB9.out⟩
            · by_cases hk4 : kk = 4
              · subst hk4
                clear hk1 hk2 hk3 d0 d1 d2
                go_wp2_with fail
                go_meet
                exact ⟨⟨0, rfl, rfl⟩, S4L.mk HS.out.swap.swap2 rfl rfl, Below.refl _ _⟩
              · by_cases hk5 : kk = 5
                · as_aux_lemma =>
                    subst hk5
                    clear hk1 hk2 hk3 hk4 d0 d1 d2
                    go_wp2_with fail
                    refine Calls.mono (p_copy HS.out HS.out.o2.h) ?_
                    rintro e w8 ⟨L', rfl, hQ8, hx8⟩
                    rw [lvV_eq]
                    have HQ8 := Lib.hid hQ8
                    have HX8 := Lib.hid hx8
                    clear hQ8 hx8
                    go_wp2_with fail
                    refine Calls.mono (p_rcopy HQ8.out HQ8.out.o4.h) ?_
                    rintro e w9 ⟨M', rfl, hQ9, hx9⟩
                    have HQ9 := Lib.hid hQ9
                    have HB9 : Hid (Below N wr w9) := Lib.hid (below_of (HX8.out.trans' hx9) HWN.out)
                    clear hQ9 hx9
                    go_wp2
                    go_meet
                    exact ⟨⟨0, rfl, rfl⟩, S4L.mk HQ9.out rfl rfl, HB9.out⟩
                · by_cases hk6 : kk = 6
                  · as_aux_lemma =>
                      subst hk6
                      clear hk1 hk2 hk3 hk4 hk5 d0 d1 d2
                      have mC := lvm_Cells C lv (some ⟨L.s, 0, none⟩)
                      have eC := lve_Cells C lv
                      have mL := lvm_Load C lv (some ⟨L2.s, 0, none⟩)
                      have nmL := lvn_Load C lv ⟨L2.s, 0, none⟩
                      have eL := lve_Load C lv
                      have HLEN : Hid (l.length = lvN C lv) := Lib.hid HS.out.o3.h.len
                      have HFIT : Hid (∀ y ∈ l, I64 y) := Lib.hid HS.out.o3.h.fit
                      go_wp2_with fail
                      have hC0 := af_drew wr
                      refine pi_start (fun w' => ∃ x : After wr, w' = x.w) [6] (by kernel_rfl) ?_
                      refine pi_t 0 rfl (by kernel_rfl) (by kernel_rfl) (fun _ _ _ _ h => h) (fun K hK => ?_)
                      go_big_quiet_op
                      refine hK _ ?_
                      clear hK K
                      refine pi_t 1 rfl (by kernel_rfl) (by kernel_rfl) (fun _ _ _ _ h => h) (fun K hK => ?_)
                      go_big_quiet_op
                      refine hK _ ?_
                      clear hK K
                      refine pi_t 3 rfl (by kernel_rfl) (by kernel_rfl) (fun _ _ _ _ h => h) (fun K hK => ?_)
                      go_big_quiet_op
                      refine hK _ ?_
                      clear hK K
                      refine pi_t 4 rfl (by kernel_rfl) (by kernel_rfl) (fun _ _ _ _ h => h) (fun K hK => ?_)
                      go_big_quiet_op
                      refine hK _ ?_
                      clear hK K
                      refine pi_t 5 rfl (by kernel_rfl) (by kernel_rfl) (fun _ _ _ _ h => h) (fun K hK => ?_)
                      go_big_quiet_op
                      refine hK _ ?_
                      clear hK K
                      refine pi_l 2 rfl (by kernel_rfl) (fun K hK => ?_)
                      go_wp2_with fail
                      refine Calls.mono (LCells_c C lv L l _ (HS.out.o1.h.ext (Below.drew (Ext.refl wr)))) ?_
                      rintro e w8 ⟨v8, rfl, ho8, _, hx8⟩
                      go_wp2
                      refine hK _ _ (fun _ h => af_step h hx8) ?_
                      clear hK K
                      have hE8 : Ext wr w8 := Ext.trans' (Below.drew (Ext.refl wr)) hx8
                      have HV8 := Lib.hid (IntsAt.of_row ho8)
                      have HB8 := Lib.hid (fun g off n cap (e : v8 = .slice (some ⟨g, off, none⟩) n cap) => show wr.heap.size ≤ g from own_blk ho8 (by rw [e]; rfl))
                      have HS8 := Lib.hid (HS.out.ext hE8)
                      have HE8 := Lib.hid hE8
                      clear ho8 hx8 hE8
                      refine pi_l 6 rfl (by kernel_rfl) (fun K hK => ?_)
                      go_wp2_with fail
                      refine Calls.mono (p_load HS8.out.swap l v8 HV8.out HFIT.out HLEN.out (fun g off n cap e hc => by have := HB8.out g off n cap e; have := HS.out.o2.lt L2.c (.inr (.inr rfl)); omega)) ?_
                      rintro e w9 ⟨rfl, hQ9, hB9⟩
                      go_wp2
                      refine hK _ _ (by simp) ?_
                      clear hK K
                      have HQ9 := Lib.hid hQ9.swap
                      have HB9 := Lib.hid (Below.trans (below_of HE8.out HWN.out) hB9)
                      clear hQ9 hB9 mC eC mL eL nmL
                      refine pi_t 7 rfl (by kernel_rfl) (by kernel_rfl) (fun _ _ _ _ h => h) (fun K hK => ?_)
                      go_big_quiet_op
                      refine hK _ ?_
                      clear hK K
                      refine pi_end (by kernel_rfl) ?_
                      go_wp2_with fail
                      refine Calls.mono (RLCells_c M C lv l _ HQ9.out.o3.h) ?_
                      rintro e wa ⟨va, rfl, hoa, hxa⟩
                      have HVA := Lib.hid (IntsAt.of_row hoa)
                      have HBA := Lib.hid (fun g off n cap (e : va = .slice (some ⟨g, off, none⟩) n cap) => show w9.heap.size ≤ g from own_blk hoa (by rw [e]; rfl))
                      have HQA := Lib.hid (HQ9.out.ext hxa)
                      have HXA := Lib.hid (Below.trans HB9.out (below_of hxa HQ9.out.nw))
                      clear hoa hxa
                      go_wp2_with fail
                      refine Calls.mono (p_rload HQA.out.swap2 l va HVA.out HFIT.out HLEN.out (fun g off n cap e hc => by have := HBA.out g off n cap e; have := HQ9.out.o4.lt g hc; omega)) ?_
                      rintro e wb ⟨M', hp', rfl, hQb, hBb⟩
                      have HQB := Lib.hid hQb.swap2
                      have HPB := Lib.hid hp'
                      have HBB := Lib.hid (Below.trans HXA.out hBb)
                      clear hQb hp' hBb
                      go_wp2
                      go_meet
                      exact ⟨⟨0, rfl, rfl⟩, S4L.mk HQB.out rfl HPB.out, HBB.out⟩
                  · by_cases hk7 : kk = 7
                    · as_aux_lemma =>
                        subst hk7
                        clear hk1 hk2 hk3 hk4 hk5 hk6 d0 d1 d2
                        have HI1 := Lib.hid (LInnerAny_c C lv L L2 l m wr HS.out.o1.h HS.out.o2.h)
                        have HI2 := Lib.hid (fun W' (hW : Ext wr W') => RLInner_c M M2 C lv l m W' (HS.out.o3.h.ext hW) (HS.out.o4.h.ext hW))
                        generalize inV C lv l m = iv at *
                        obtain ⟨ia, ib, ic⟩ := iv
                        go_wp2_with fail
                        refine Calls.mono HI1.out ?_
                        rintro e w8 ⟨rfl, hx8⟩
                        go_upto_region 50 with (fail)
                        obtain ⟨w8', hw8'⟩ : ∃ w', w8.alloc (.cells #[.int .i64 ia, .int .u64 ib] 75) = w' := ⟨_, rfl⟩
                        have hb8 : w8'.heap[w8.heap.size]? = some (.cells #[.int .i64 ia, .int .u64 ib] 75 (0, 0)) := by rw [← hw8']; exact heap_at _ _ rfl
                        have hE8 : Ext wr w8' := by rw [← hw8']; exact hx8.allocR _
                        try rw [hw8']
                        clear hw8' hx8
                        have HB8 := Lib.hid hb8
                        have HE8 := Lib.hid hE8
                        clear hb8 hE8
                        go_wp2_with fail
                        refine Calls.mono (HI2.out _ HE8.out) ?_
                        rintro e w9 ⟨rfl, hx9⟩
                        have hb9 := hx9.keep HB8.out
                        have y0 := (cell_of hb9 0).trans rfl
                        have y1 := (cell_of hb9 1).trans rfl
                        have yl := lt_of hb9
                        have HE9 := Lib.hid (HE8.out.trans' hx9)
                        have HS9 := Lib.hid (HS.out.ext (HE9.out.allocR (.cells #[.int .i64 ia, .int .u64 ib] 75)))
                        have HB9 := Lib.hid (below_of (HE9.out.allocR (.cells #[.int .i64 ia, .int .u64 ib] 75)) HWN.out : Below N wr _)
                        clear hb9 hx9
                        go_wp2_with fail
                        go_meet
                        exact ⟨⟨0, rfl, rfl⟩, S4L.mk HS9.out rfl rfl, HB9.out⟩
                    · as_aux_lemma =>
                        have e1 : (kk == 1) = false := by simpa using hk1
                        have e2 : (kk == 2) = false := by simpa using hk2
                        have e3 : (kk == 3) = false := by simpa using hk3
                        have e4 : (kk == 4) = false := by simpa using hk4
                        have e5 : (kk == 5) = false := by simpa using hk5
                        have e6 : (kk == 6) = false := by simpa using hk6
                        have e7 : (kk == 7) = false := by simpa using hk7
                        clear hk1 hk2 hk3 hk4 hk5 hk6 hk7
                        have mU := lvm_Update C lv (some ⟨L.s, 0, none⟩)
                        have nmU := lvn_Update C lv ⟨L.s, 0, none⟩
                        have eU := lve_Update C lv
                        go_wp2_with fail
                        have hC0 := af_drew wr
                        refine pi_start (fun w' => ∃ x : After wr, w' = x.w) [14] (by kernel_rfl) ?_
                        refine pi_t 0 rfl (by kernel_rfl) (by kernel_rfl) (fun _ _ _ _ h => h) (fun K hK => ?_)
                        go_big_quiet_op
                        refine hK _ ?_
                        clear hK K
                        refine pi_t 1 rfl (by kernel_rfl) (by kernel_rfl) (fun _ _ _ _ h => h) (fun K hK => ?_)
                        go_big_quiet_op
                        refine hK _ ?_
                        clear hK K
                        refine pi_t 2 rfl (by kernel_rfl) (by kernel_rfl) (fun _ _ _ _ h => h) (fun K hK => ?_)
                        go_big_quiet_op
                        refine hK _ ?_
                        clear hK K
                        refine pi_t 3 rfl (by kernel_rfl) (by kernel_rfl) (fun _ _ _ _ h => h) (fun K hK => ?_)
                        go_big_quiet_op
                        refine hK _ ?_
                        clear hK K
                        refine pi_t 4 rfl (by kernel_rfl) (by kernel_rfl) (fun _ _ _ _ h => h) (fun K hK => ?_)
                        go_big_quiet_op
                        refine hK _ ?_
                        clear hK K
                        refine pi_t 6 rfl (by kernel_rfl) (by kernel_rfl) (fun _ _ _ _ h => h) (fun K hK => ?_)
                        go_big_quiet_op
                        refine hK _ ?_
                        clear hK K
                        refine pi_t 7 rfl (by kernel_rfl) (by kernel_rfl) (fun _ _ _ _ h => h) (fun K hK => ?_)
                        go_big_quiet_op
                        refine hK _ ?_
                        clear hK K
                        refine pi_t 8 rfl (by kernel_rfl) (by kernel_rfl) (fun _ _ _ _ h => h) (fun K hK => ?_)
                        go_big_quiet_op
                        refine hK _ ?_
                        clear hK K
                        refine pi_t 9 rfl (by kernel_rfl) (by kernel_rfl) (fun _ _ _ _ h => h) (fun K hK => ?_)
                        go_big_quiet_op
                        refine hK _ ?_
                        clear hK K
                        refine pi_c 5 (by assumption) rfl (by kernel_rfl) (by kernel_rfl) (fun _ _ _ _ h => h) (fun K hK => ?_)
                        go_big_quiet_op
                        refine hK _ ?_
                        clear hK K
                        refine pi_c 10 (by assumption) rfl (by kernel_rfl) (by kernel_rfl) (fun _ _ _ _ h => h) (fun K hK => ?_)
                        go_big_quiet_op
                        refine hK _ ?_
                        clear hK K
                        refine pi_t 11 rfl (by kernel_rfl) (by kernel_rfl) (fun _ _ _ _ h => h) (fun K hK => ?_)
                        go_big_quiet_op
                        refine hK _ ?_
                        clear hK K
                        refine pi_t 12 rfl (by kernel_rfl) (by kernel_rfl) (fun _ _ _ _ h => h) (fun K hK => ?_)
                        go_big_quiet_op
                        refine hK _ ?_
                        clear hK K
                        refine pi_t 13 rfl (by kernel_rfl) (by kernel_rfl) (fun _ _ _ _ h => h) (fun K hK => ?_)
                        go_big_quiet_op
                        refine hK _ ?_
                        clear hK K
                        refine pi_l 14 rfl (by kernel_rfl) (fun K hK => ?_)
                        go_wp2_with fail
                        refine Calls.mono (p_upd (HS.out.ext (Below.drew (Ext.refl wr))) uk ud HUK.out HUD.out) ?_
                        rintro e w8 ⟨rfl, hQ8, hB8⟩
                        go_wp2
                        refine hK _ _ (by simp) ?_
                        clear hK K
                        have HQ8 := Lib.hid hQ8
                        have hB8' : Below N wr w8 := Below.trans (below_of (Below.drew (Ext.refl wr)) HWN.out) hB8
                        have HB8 := Lib.hid hB8'
                        have e1' := cell_below hB8' hugN d1
                        have e2' := cell_below hB8' hugN d2
                        have gl8 := Nat.lt_of_lt_of_le hgl2 hB8'.size
                        clear hQ8 hB8 hB8' d0 d1 d2 mU eU nmU
                        refine pi_t 15 rfl (by kernel_rfl) (by kernel_rfl) (fun _ _ _ _ h => h) (fun K hK => ?_)
                        go_big_quiet_op
                        refine hK _ ?_
                        clear hK K
                        refine pi_end (by kernel_rfl) ?_
                        go_wp2_with fail
                        have hC0 := af_drew w8
                        refine pi_start (fun w' => ∃ x : After w8, w' = x.w) [11] (by kernel_rfl) ?_
                        refine pi_t 0 rfl (by kernel_rfl) (by kernel_rfl) (fun _ _ _ _ h => h) (fun K hK => ?_)
                        go_big_quiet_op
                        refine hK _ ?_
                        clear hK K
                        refine pi_t 1 rfl (by kernel_rfl) (by kernel_rfl) (fun _ _ _ _ h => h) (fun K hK => ?_)
                        go_big_quiet_op
                        refine hK _ ?_
                        clear hK K
                        refine pi_t 2 rfl (by kernel_rfl) (by kernel_rfl) (fun _ _ _ _ h => h) (fun K hK => ?_)
                        go_big_quiet_op
                        refine hK _ ?_
                        clear hK K
                        refine pi_t 3 rfl (by kernel_rfl) (by kernel_rfl) (fun _ _ _ _ h => h) (fun K hK => ?_)
                        go_big_quiet_op
                        refine hK _ ?_
                        clear hK K
                        refine pi_t 4 rfl (by kernel_rfl) (by kernel_rfl) (fun _ _ _ _ h => h) (fun K hK => ?_)
                        go_big_quiet_op
                        refine hK _ ?_
                        clear hK K
                        refine pi_t 6 rfl (by kernel_rfl) (by kernel_rfl) (fun _ _ _ _ h => h) (fun K hK => ?_)
                        go_big_quiet_op
                        refine hK _ ?_
                        clear hK K
                        refine pi_t 7 rfl (by kernel_rfl) (by kernel_rfl) (fun _ _ _ _ h => h) (fun K hK => ?_)
                        go_big_quiet_op
                        refine hK _ ?_
                        clear hK K
                        refine pi_t 8 rfl (by kernel_rfl) (by kernel_rfl) (fun _ _ _ _ h => h) (fun K hK => ?_)
                        go_big_quiet_op
                        refine hK _ ?_
                        clear hK K
                        refine pi_t 9 rfl (by kernel_rfl) (by kernel_rfl) (fun _ _ _ _ h => h) (fun K hK => ?_)
                        go_big_quiet_op
                        refine hK _ ?_
                        clear hK K
                        refine pi_c 5 (by assumption) rfl (by kernel_rfl) (by kernel_rfl) (fun _ _ _ _ h => h) (fun K hK => ?_)
                        go_big_quiet_op
                        refine hK _ ?_
                        clear hK K
                        refine pi_c 10 (by assumption) rfl (by kernel_rfl) (by kernel_rfl) (fun _ _ _ _ h => h) (fun K hK => ?_)
                        go_big_quiet_op
                        refine hK _ ?_
                        clear hK K
                        refine pi_l 11 rfl (by kernel_rfl) (fun K hK => ?_)
                        go_wp2_with (go_at_call 40; refine Calls.mono (p_rupd (HQ8.out.ext (Below.drew (Ext.refl w8))) uk ud HUK.out HUD.out) ?_; rintro e w9 ⟨rfl, hQ9, hB9⟩)
                        refine hK _ _ (by simp) ?_
                        clear hK K
                        have HQ9 := Lib.hid hQ9
                        have HB9 := Lib.hid (Below.trans HB8.out (Below.trans (below_of (Below.drew (Ext.refl w8)) HQ8.out.nw) hB9))
                        clear hQ9 hB9
                        refine pi_t 12 rfl (by kernel_rfl) (by kernel_rfl) (fun _ _ _ _ h => h) (fun K hK => ?_)
                        go_big_quiet_op
                        refine hK _ ?_
                        clear hK K
                        refine pi_end (by kernel_rfl) ?_
                        go_wp2
                        go_meet
                        exact ⟨⟨_, rfl, rfl⟩, S4L.mk HQ9.out rfl rfl, HB9.out⟩
      case rest =>
        obtain ⟨⟨ee, rfl, rfl⟩, ⟨L, L2, M, M2, l, m, rfl, rfl, rfl, rfl, hS⟩, hB⟩ := hcut
        rename World => w8
        have hE8 : Ext w3 w8 := Below.trans HER.out (by rw [HN.out]; exact hB)
        have HS := Lib.hid hS
        have HE8 := Lib.hid hE8
        have hle := lvN_leU HOK.out lv
        have HLN := Lib.hid (show l.length ≤ 1000000 by rw [hS.o3.h.len]; omega)
        have HLM := Lib.hid (show m.length ≤ 1000000 by rw [hS.o4.h.len]; omega)
        clear hS hB d0 d1 d2 hE8 hle
        have mC1 := lvm_Cells C lv (some ⟨L.s, 0, none⟩)
        have mC2 := lvm_Cells C lv (some ⟨L2.s, 0, none⟩)
        have eC := lve_Cells C lv
        as_aux_lemma =>
          go_wp2_with fail
          refine Calls.mono (LCells_c C lv L l _ HS.out.o1.h) ?_
          rintro e wa ⟨v1, rfl, ho1, _, hxa⟩
          have HV1 := Lib.hid (IntsAt.of_row ho1)
          have HXA := Lib.hid hxa
          clear ho1 hxa
          go_wp2_with fail
          refine Calls.mono (RLCells_c M C lv l _ (HS.out.o3.h.ext HXA.out)) ?_
          rintro e wb ⟨v2, rfl, ho2, hxb⟩
          have HV2 := Lib.hid (IntsAt.of_row ho2)
          have HV1b := Lib.hid (HV1.out.ext hxb)
          have HXB := Lib.hid (HXA.out.trans' hxb)
          clear ho2 hxb
          go_wp2_with fail
          refine Calls.mono (Same_c v1 v2 l l _ HV1b.out HV2.out HLN.out HLN.out) ?_
          rintro e wc ⟨rfl, hxc⟩
          try rw [decide_eq_true (rfl : l = l)]
          have HXC := Lib.hid (HXB.out.trans' hxc)
          clear hxc
          go_wp2_with fail
          refine Calls.mono (LCells_c C lv L2 m _ (HS.out.o2.h.ext HXC.out)) ?_
          rintro e wd ⟨v3, rfl, ho3, _, hxd⟩
          have HV3 := Lib.hid (IntsAt.of_row ho3)
          have HXD := Lib.hid (HXC.out.trans' hxd)
          clear ho3 hxd
          go_wp2_with fail
          refine Calls.mono (RLCells_c M2 C lv m _ (HS.out.o4.h.ext HXD.out)) ?_
          rintro e we ⟨v4, rfl, ho4, hxe⟩
          have HV4 := Lib.hid (IntsAt.of_row ho4)
          have HV3b := Lib.hid (HV3.out.ext hxe)
          have HXE := Lib.hid (HXD.out.trans' hxe)
          clear ho4 hxe
          go_wp2_with fail
          refine Calls.mono (Same_c v3 v4 m m _ HV3b.out HV4.out HLM.out HLM.out) ?_
          rintro e wf ⟨rfl, hxf⟩
          try rw [decide_eq_true (rfl : m = m)]
          have hx8 := HXE.out.trans' hxf
          have HSf := Lib.hid (HS.out.ext hx8)
          have hE9 := HE8.out.trans' hx8
          clear hxf hx8
          go_wp2
          go_roundw
          case rel => exact ⟨k + 1, by omega, by omega, by go_num, hE9, S4L.mk HSf.out rfl rfl⟩
          case measure => simp [intOf]; omega
    · have hge : ¬ k < os.length ∨ ¬ k < 50 := by omega
      clear hgo hEw
      rename World => wo
      go_upto_region 11 with (fail)
      go_cut [79] (fun s74 wx => s74 = .bool false ∧ wx = wo)
      case first =>
        by_cases hgl : k < os.length
        · have hg6 : ¬ k < 50 := by omega
          go_wp2_with fail
          go_meet
          exact ⟨by first | rfl | exact congrArg Value.bool (decide_eq_false (by omega)), rfl⟩
        · first
            | (go_wp2_with fail
               go_meet
               exact ⟨rfl, rfl⟩)
            | (clear hge
               go_wp2_with fail
               go_meet
               exact ⟨by first | rfl | exact congrArg Value.bool (decide_eq_false (by omega)), rfl⟩)
      case rest =>
        obtain ⟨rfl, rfl⟩ := hcut
        rename World => wo
        have HA := Lib.hid HS.out.o1.h
        have hCq := CfgAt.of (hE.keep HQ.out)
        have c0 := hCq.c0
        have c1 := hCq.c1
        have c2 := hCq.c2
        have c3 := hCq.c3
        have c4 := hCq.c4
        have cl := hCq.lt
        have mG := lvm_Config C lv (some ⟨L.s, 0, none⟩)
        have eG := lve_Config C lv
        have mV := lvm_Level C lv (some ⟨L.s, 0, none⟩)
        have eV := lve_Level C lv
        clear hge hCq
        as_aux_lemma =>
          go_wp2_with fail
          have hC0 := af_drew wo
          refine pi_start (fun w' => ∃ x : After wo, w' = x.w) [] (by kernel_rfl) ?_
          refine pi_t 0 rfl (by kernel_rfl) (by kernel_rfl) (fun _ _ _ _ h => h) (fun K hK => ?_)
          go_big_quiet_op
          refine hK _ ?_
          clear hK K
          refine pi_t 1 rfl (by kernel_rfl) (by kernel_rfl) (fun _ _ _ _ h => h) (fun K hK => ?_)
          go_big_quiet_op
          refine hK _ ?_
          clear hK K
          refine pi_t 2 rfl (by kernel_rfl) (by kernel_rfl) (fun _ _ _ _ h => h) (fun K hK => ?_)
          go_big_quiet_op
          refine hK _ ?_
          clear hK K
          refine pi_c 4 (by assumption) rfl (by kernel_rfl) (by kernel_rfl) (fun _ _ _ _ h => h) (fun K hK => ?_)
          go_big_quiet_op
          refine hK _ ?_
          clear hK K
          refine pi_l 3 rfl (by kernel_rfl) (fun K hK => ?_)
          go_wp2_with fail
          refine Calls.mono (LConfig_c C lv L l _ (HA.out.ext (Below.drew (Ext.refl wo)))) ?_
          rintro e wa ⟨rfl, hxa⟩
          go_wp2
          have hEa : Ext wo wa := Ext.trans' (Below.drew (Ext.refl wo)) hxa
          refine hK _ _ (fun _ h => af_step h hxa) ?_
          clear hK K
          refine pi_t 5 rfl (by kernel_rfl) (by kernel_rfl) (fun _ _ _ _ h => h) (fun K hK => ?_)
          go_big_quiet_op
          refine hK _ ?_
          clear hK K
          refine pi_t 6 rfl (by kernel_rfl) (by kernel_rfl) (fun _ _ _ _ h => h) (fun K hK => ?_)
          go_big_quiet_op
          refine hK _ ?_
          clear hK K
          refine pi_t 7 rfl (by kernel_rfl) (by kernel_rfl) (fun _ _ _ _ h => h) (fun K hK => ?_)
          go_big_quiet_op
          refine hK _ ?_
          clear hK K
          refine pi_t 8 rfl (by kernel_rfl) (by kernel_rfl) (fun _ _ _ _ h => h) (fun K hK => ?_)
          go_big_quiet_op
          refine hK _ ?_
          clear hK K
          refine pi_t 10 rfl (by kernel_rfl) (by kernel_rfl) (fun _ _ _ _ h => h) (fun K hK => ?_)
          go_big_quiet_op
          refine hK _ ?_
          clear hK K
          refine pi_l 9 rfl (by kernel_rfl) (fun K hK => ?_)
          go_wp2_with fail
          refine Calls.mono (LLevel_c C lv L l _ (HA.out.ext hEa)) ?_
          rintro e wb ⟨rfl, rfl⟩
          go_wp2
          refine hK _ _ (fun _ h => h) ?_
          clear hK K
          refine pi_t 11 rfl (by kernel_rfl) (by kernel_rfl) (fun _ _ _ _ h => h) (fun K hK => ?_)
          go_big_quiet_op
          refine hK _ ?_
          clear hK K
          refine pi_t 12 rfl (by kernel_rfl) (by kernel_rfl) (fun _ _ _ _ h => h) (fun K hK => ?_)
          go_big_quiet_op
          refine hK _ ?_
          clear hK K
          refine pi_t 13 rfl (by kernel_rfl) (by kernel_rfl) (fun _ _ _ _ h => h) (fun K hK => ?_)
          go_big_quiet_op
          refine hK _ ?_
          clear hK K
          refine pi_end (by kernel_rfl) ?_
          have hEf := HE3.out.trans' (hE.trans' hEa)
          go_wp2
          go_ret
          exact ⟨rfl, hEf⟩
end Go.Proofs.YtfhdjekpdifajaaGreat
namespace Go.Proofs.YtfhdjekpdifajaaGreat
set_option linter.unusedVariables false
open Go.ChangeShapes Go.WideShapes Go.ChangeAt Go.RowKit Go.Deep
theorem wf_u64 {x : Int} (h : (Lit.int IntKind.u64 x).wf = true) : U64 x := by
  have := bounds_u64 h
  exact ⟨this.1, by omega⟩
theorem wf_i64 {x : Int} (h : (Lit.int IntKind.i64 x).wf = true) : I64 x := by
  have := bounds_i64 h
  exact ⟨this.1, by omega⟩
section
variable {H : Type} {enc : TypeId × Value → H} {w : World} {base : Nat} {spare : Nat → Bool} {held : Bool}
set_option maxRecDepth 100000 in
/-- Five cells that read as a config. -/
theorem cfg_of {n : Nat} {cs : List Value} {y : DataW H × List MemPlace} (h : DataW.trod enc Tryz.prog w base spare held n 24 cs = some y) :
    ∃ C : Cfg, C.Raw ∧ cs = [.int .i64 C.bits, .int .i64 C.rows, .int .i64 C.width, .int .i64 C.mode, .int .u64 C.seed] := by
  obtain ⟨xs, n, _, _, hl, hx, hg⟩ := DataW.trod_struct Tryz.underlying24 h
  have hl' : cs.length = 5 := hl.trans (by kernel_rfl)
  match cs, hl' with
  | [c0, c1, c2, c3, c4], _ =>
    have hx' : xs.length = 5 := hx.trans (by kernel_rfl)
    match xs, hx' with
    | [x0, x1, x2, x3, x4], _ =>
      have e0 : DataW.trod enc Tryz.prog w base spare held n 3 [c0] = some x0 := hg 0 _ rfl
      have e1 : DataW.trod enc Tryz.prog w base spare held n 3 [c1] = some x1 := hg 1 _ rfl
      have e2 : DataW.trod enc Tryz.prog w base spare held n 3 [c2] = some x2 := hg 2 _ rfl
      have e3 : DataW.trod enc Tryz.prog w base spare held n 3 [c3] = some x3 := hg 3 _ rfl
      have e4 : DataW.trod enc Tryz.prog w base spare held n 22 [c4] = some x4 := hg 4 _ rfl
      obtain ⟨a0, h0, _, w0⟩ := DataW.trod_int Tryz.underlying3 e0
      obtain ⟨a1, h1, _, w1⟩ := DataW.trod_int Tryz.underlying3 e1
      obtain ⟨a2, h2, _, w2⟩ := DataW.trod_int Tryz.underlying3 e2
      obtain ⟨a3, h3, _, w3⟩ := DataW.trod_int Tryz.underlying3 e3
      obtain ⟨a4, h4, _, w4⟩ := DataW.trod_int Tryz.underlying22 e4
      simp only [List.cons.injEq, and_true] at h0 h1 h2 h3 h4
      exact ⟨⟨a0, a1, a2, a3, a4⟩, ⟨wf_i64 w0, wf_i64 w1, wf_i64 w2, wf_i64 w3, wf_u64 w4⟩, by rw [h0, h1, h2, h3, h4]⟩
theorem add_plain0 (b off i : Nat) : (Addr.add ⟨b, off, none⟩ i) = ⟨b, off + i, none⟩ := by
  unfold Addr.add
  by_cases h : i = 0
  · subst h; simp
  · simp [h]
theorem choose_list {α : Type} (P : Nat → α → Prop) : ∀ n, (∀ i, i < n → ∃ x, P i x) → ∃ l : List α, l.length = n ∧ ∀ i (h : i < l.length), P i l[i] := by
  intro n
  induction n with
  | zero => intro _; exact ⟨[], rfl, fun i h => by simp at h⟩
  | succ n ih =>
    intro h
    obtain ⟨l, hl, hP⟩ := ih (fun i hi => h i (by omega))
    obtain ⟨x, hx⟩ := h n (by omega)
    refine ⟨l ++ [x], by simp [hl], fun i hi => ?_⟩
    by_cases e : i < l.length
    · rw [List.getElem_append_left e]; exact hP i e
    · have : i = n := by simp at hi; omega
      subst this
      rw [List.getElem_append_right (by omega)]
      simp [hl, hx]
theorem reach_of {ts : List TypeId} {ds : List (DataW H)} {j : Nat} {t : TypeId} {d : DataW H} (hsz : (DataW.weightsEach Tryz.prog ts ds).all (· ≤ reachBytes) = true) (ht : ts[j]? = some t) (hd : ds[j]? = some d) {n : Nat} (hn : n ∈ d.weights Tryz.prog t) : n ≤ reachBytes := by
  have := List.all_eq_true.1 hsz _ (DataW.weights_mem_each ht hd n hn)
  simpa using this
end
end Go.Proofs.YtfhdjekpdifajaaGreat
namespace Go.Proofs.YtfhdjekpdifajaaGreat
set_option linter.unusedVariables false
open Go.ChangeShapes Go.WideShapes Go.ChangeAt Go.RowKit Go.Deep
theorem own : ownKnob Tryz.prog.godebug = none := by kernel_rfl
theorem laidOut : laidOutB Tryz.prog = true := by kernel_rfl
section
variable {H : Type} {enc : TypeId × Value → H} {w : World} {held : Bool}
set_option maxRecDepth 100000 in
theorem cfgarg_of {r : Reach} {b0 : Nat} {v : Value} {d : DataW H} {p : List MemPlace} (hv : Value.okWide Tryz.prog w r b0 24 v) (h : DataW.Trod enc Tryz.prog w 0 (fun _ => true) held 24 v d p) :
    ∃ (x : Cfg), x.Raw ∧ v = .agg #[.int .i64 x.bits, .int .i64 x.rows, .int .i64 x.width, .int .i64 x.mode, .int .u64 x.seed] := by
  obtain ⟨cs, rfl, hsz⟩ := okWide_struct Tryz.underlying24 hv
  obtain ⟨fuel, hf⟩ := h
  obtain ⟨l⟩ := cs
  obtain ⟨x, hxr, hc⟩ := cfg_of hf
  have hc' : l = _ := hc
  subst hc'
  exact ⟨x, hxr, rfl⟩
end
end Go.Proofs.YtfhdjekpdifajaaGreat
namespace Go.Proofs.YtfhdjekpdifajaaGreat
set_option linter.unusedVariables false
open Go.ChangeShapes Go.WideShapes Go.ChangeAt Go.RowKit Go.Deep
section
variable {H : Type} {enc : TypeId × Value → H} {w : World} {held : Bool}
set_option maxRecDepth 100000 in
theorem op13_of {spare : Nat → Bool} {base n : Nat} {cs : List Value} {y : DataW H × List MemPlace} (h : DataW.trod enc Tryz.prog w base spare held n 67 cs = some y) :
    ∃ u : Opn, (I64 u.1 ∧ U64 u.2.1 ∧ I64 u.2.2) ∧ cs = [.int .i64 u.1, .int .u64 u.2.1, .int .i64 u.2.2] := by
  obtain ⟨xs, n, _, _, hl, hx, hg⟩ := DataW.trod_struct Tryz.underlying67 h
  have hl' : cs.length = 3 := hl.trans (by kernel_rfl)
  match cs, hl' with
  | [c0, c1, c2], _ =>
    have hx' : xs.length = 3 := hx.trans (by kernel_rfl)
    match xs, hx' with
    | [x0, x1, x2], _ =>
      have e0 : DataW.trod enc Tryz.prog w base spare held n 3 [c0] = some x0 := hg 0 _ rfl
      have e1 : DataW.trod enc Tryz.prog w base spare held n 22 [c1] = some x1 := hg 1 _ rfl
      have e2 : DataW.trod enc Tryz.prog w base spare held n 2 [c2] = some x2 := hg 2 _ rfl
      obtain ⟨a0, h0, _, w0⟩ := DataW.trod_int Tryz.underlying3 e0
      obtain ⟨a1, h1, _, w1⟩ := DataW.trod_int Tryz.underlying22 e1
      obtain ⟨a2, h2, _, w2⟩ := DataW.trod_int Tryz.underlying2 e2
      simp only [List.cons.injEq, and_true] at h0 h1 h2
      exact ⟨(a0, a1, a2), ⟨wf_i64 w0, wf_u64 w1, wf_i64 w2⟩, by rw [h0, h1, h2]⟩
set_option maxRecDepth 100000 in
theorem ops13arg_of {r : Reach} {b0 : Nat} {v : Value} {d : DataW H} {p : List MemPlace} (hv : Value.okWide Tryz.prog w r b0 60 v) (h : DataW.Trod enc Tryz.prog w 0 (fun _ => true) held 60 v d p) :
    ∃ (os : List Opn), OpsOk os ∧ OpsAt w v os ∧
      ∀ (ts : List TypeId) (ds : List (DataW H)) (j : Nat), (DataW.weightsEach Tryz.prog ts ds).all (· ≤ reachBytes) = true → ts[j]? = some 60 → ds[j]? = some d → os.length ≤ 140737488355328 := by
  obtain ⟨q, n, cap, rfl⟩ := okWide_slice Tryz.underlying60 hv
  obtain ⟨fuel, hf⟩ := h
  rcases open_slice Tryz.underlying60 hf with ⟨hcs, _⟩ | ⟨a, len, cap', m, n', D, Pl, hcs, _, hlc, hcm, hm, hx, hi⟩
  · have hcs' : [Value.slice q n cap] = [Value.slice none 0 0] := hcs
    simp only [List.cons.injEq, and_true, Value.slice.injEq] at hcs'
    obtain ⟨rfl, rfl, rfl⟩ := hcs'
    exact ⟨[], (by intro u hu; cases hu), .inl ⟨⟨_, rfl⟩, rfl⟩, fun _ _ _ _ _ _ => Nat.zero_le _⟩
  · have hcs' : [Value.slice q n cap] = [Value.slice (some a) len cap'] := hcs
    simp only [List.cons.injEq, and_true, Value.slice.injEq] at hcs'
    obtain ⟨rfl, rfl, rfl⟩ := hcs'
    simp only [if_true] at hm
    rw [hm] at hi hx
    clear hm
    have hC : Tryz.prog.cellsOf 67 = 3 := by kernel_rfl
    rw [hC] at hi
    have key : ∀ i, i < n → ∃ u : Opn, (I64 u.1 ∧ U64 u.2.1 ∧ I64 u.2.2) ∧ w.cell? (a.add (i * 3)) = some (.int .i64 u.1) ∧ w.cell? (a.add (i * 3 + 1)) = some (.int .u64 u.2.1) ∧ w.cell? (a.add (i * 3 + 2)) = some (.int .i64 u.2.2) := by
      intro i hil
      obtain ⟨cs', hc, ht⟩ := hi i (by omega)
      obtain ⟨u, hu, rfl⟩ := op13_of ht
      obtain ⟨_, _, hat⟩ := World.cells?_some hc
      refine ⟨u, hu, ?_, ?_, ?_⟩
      · have := hat 0 (by omega); rw [add_add, Nat.add_zero] at this; exact this
      · have := hat 1 (by omega); rw [add_add] at this; exact this
      · have := hat 2 (by omega); rw [add_add] at this; exact this
    obtain ⟨us, hul, hus⟩ := choose_list _ n key
    by_cases h0 : cap = 0
    · have hl0 : n = 0 := by omega
      subst hl0 h0
      obtain rfl : us = [] := List.length_eq_zero_iff.1 hul
      exact ⟨[], (by intro u hu; cases hu), .inl ⟨⟨_, rfl⟩, rfl⟩, fun _ _ _ _ _ _ => Nat.zero_le _⟩
    · obtain ⟨cs', hc, ht⟩ := hi 0 (by omega)
      obtain ⟨u, _, rfl⟩ := op13_of ht
      obtain ⟨_, _, hat⟩ := World.cells?_some hc
      have h1 := hat 0 (by omega)
      obtain ⟨b, off, spot⟩ := a
      have hspot : spot = none := by simpa [Addr.add] using World.cell?_spot h1
      subst hspot
      have hb : b < w.heap.size := by
        rcases Nat.lt_or_ge b w.heap.size with h' | h'
        · exact h'
        · simp [World.cell?, Addr.add, Array.getElem?_eq_none h'] at h1
      refine ⟨us, ?_, .inr ⟨b, off, cap, by rw [hul], hb, fun k hk => ?_⟩, fun ts ds j hs ht hj => ?_⟩
      · intro u hu
        obtain ⟨i, hi', rfl⟩ := List.getElem_of_mem hu
        exact (hus i hi').1
      · have := (hus k hk).2
        have hg : us.getD k (0, 0, 0) = us[k] := by simp [hk]
        rw [hg]
        rw [add_plain0, add_plain0, add_plain0] at this
        simpa only [Nat.add_assoc] using this
      · have hb : Tryz.prog.bytesOf 67 = 24 := by kernel_rfl
        simp only [Prod.mk.injEq] at hx
        have h2 := hx.1
        subst h2
        have := reach_of hs ht hj (by
          simp [DataW.weights, DataW.weightsEach, Tryz.underlying60]
          exact .inl rfl)
        rw [hb] at this
        simp only [reachBytes, List.length_map, List.length_take, List.length_drop, List.length_range] at this
        omega
end
end Go.Proofs.YtfhdjekpdifajaaGreat
namespace Go.Proofs.YtfhdjekpdifajaaGreat
set_option linter.unusedVariables false
open Go.ChangeShapes Go.WideShapes Go.ChangeAt Go.RowKit
set_option maxRecDepth 100000 in
theorem levelPlays_lifted (os : Os) (started : os.Started) (H : Type) (enc : TypeId × Value → H) :
    ReturnsInHanded {} Tryz.checked os 5 .any (Rows.levelPlaysSpec.pre6 enc Tryz.prog Tryz.f5 Rows.levelPlaysRow.domain false) (Rows.levelPlaysSpec.post enc Tryz.prog Tryz.f5 false true false false) := by
  refine returnsInHanded_of_change_sized (C := Tryz.checked) own started (by kernel_rfl) Tryz.func5
    (ChangeSpec.witness6 (enc := enc) (C := Tryz.checked) false ⟨#[], #[.agg #[.int .i64 0, .int .i64 0, .int .i64 0, .int .i64 0, .int .u64 0], .int .i64 0, .slice none 0 0], []⟩ 8 (by kernel_rfl) (by kernel_rfl) (by kernel_rfl) (by kernel_rfl)) ?_
  intro W base args ds gs before hval0 hW hcnd hsz0 _
  have hval : ∀ (j : Nat) t v, Tryz.f5.params[j]? = some t → args[j]? = some v → Value.okWide Tryz.prog W .any base t v := hval0
  have hW' := hW
  obtain ⟨p, q, hA0, hV, rfl, hfz, hnd⟩ := hW
  have hA : DataW.TrodAll enc Tryz.prog W 0 (fun _ => true) true Tryz.f5.params.toList args.toList ds p := hA0
  have hsz : (DataW.weightsEach Tryz.prog (Tryz.f5.params.toList ++ Rows.levelPlaysSpec.plain.varTypes Tryz.prog) (ds ++ gs)).all (· ≤ reachBytes) = true := hsz0
  rw [Tryz.params5] at hA hval hsz
  obtain ⟨v0, vs0, d0, ds0, p0, q0, hargs, rfl, rfl, h0, r0⟩ := trodAll_cons hA
  obtain ⟨v1, vs1, d1, ds1, p1, q1, rfl, rfl, rfl, h1, r1⟩ := trodAll_cons r0
  obtain ⟨v2, vs2, d2, ds2, p2, q2, rfl, rfl, rfl, h2, r2⟩ := trodAll_cons r1
  obtain ⟨rfl, rfl, rfl⟩ := trodAll_nil r2
  obtain rfl : args = #[v0, v1, v2] := by cases args; simp_all
  obtain ⟨rfl, rfl⟩ := trodVars_none hV
  have k0 := h0
  have k1 := h1
  have k2 := h2
  have lt0 : ∀ x ∈ p0, x.block < W.heap.size := by obtain ⟨m, hm⟩ := k0; exact DataW.trod_lt m _ _ _ hm
  have lt1 : ∀ x ∈ p1, x.block < W.heap.size := by obtain ⟨m, hm⟩ := k1; exact DataW.trod_lt m _ _ _ hm
  have lt2 : ∀ x ∈ p2, x.block < W.heap.size := by obtain ⟨m, hm⟩ := k2; exact DataW.trod_lt m _ _ _ hm
  obtain ⟨x0, hx0, rfl⟩ := cfgarg_of (hval 0 _ v0 rfl rfl) h0
  obtain ⟨n1, rfl, _, _, wf1⟩ := open_int Tryz.underlying3 (hval 1 _ v1 rfl rfl) h1
  have hn1 := wf_i64 wf1
  obtain ⟨os2, hos2, hat2, hr2⟩ := ops13arg_of (hval 2 _ v2 rfl rfl) h2
  have hul2 := hr2 _ _ 2 hsz rfl rfl
  clear hA0 hval0
  refine (LPlaysL_c x0 hx0 n1 hn1 os2 hos2 v2 W hat2 hul2).mono fun e W' ⟨he, bel⟩ => ?_
  subst he
  exact ⟨_, rfl, _, _, _, [], _, [], hW', trodAll_mk1 (shut_bool Tryz.underlying4 _), (trodAll_cons_mk (Below.trod laidOut (by kernel_rfl) (of_decide_eq_true (by kernel_rfl)) k0 bel lt0) (trodAll_cons_mk (Below.trod laidOut (by kernel_rfl) (of_decide_eq_true (by kernel_rfl)) k1 bel lt1) (trodAll_cons_mk (Below.trod laidOut (by kernel_rfl) (of_decide_eq_true (by kernel_rfl)) k2 bel lt2) trodAll_mk0))), rfl, bel.frame _, fun h => by cases h⟩
end Go.Proofs.YtfhdjekpdifajaaGreat
