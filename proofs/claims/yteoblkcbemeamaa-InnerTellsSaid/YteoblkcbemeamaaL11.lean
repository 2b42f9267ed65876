/- Part. No condition. -/
import Derived.Test.YteoblkcbemeamaaL10
import Derived.Test.YteoblkcbemeamaaL9
import Derived.Test.YteoblkcbemeamaaL3
import Derived.Deep.CutBlock

/- gaugerlaw10.SketchPlays, walked. -/
namespace Go.Proofs.Yteoblkcbemeamaa
set_option linter.unusedVariables false
open Go.RowKit
/-- Two and two that have the same cells. -/
def S4 (N : Nat) (w : World) (C : Cfg) (lv : Int) (R W : Nat) (v1 v2 v3 v4 : Value) : Prop :=
  ∃ s o r q l m, v1 = .pointer (some ⟨s, 0, none⟩) ∧ v2 = .pointer (some ⟨o, 0, none⟩) ∧ v3 = .pointer (some ⟨r, 0, none⟩) ∧ v4 = .pointer (some ⟨q, 0, none⟩) ∧ Q4 N w C lv R W s o r q l m l m
theorem S4.mk {N : Nat} {w : World} {C : Cfg} {lv : Int} {R W s o r q : Nat} {l m : List Int} (h : Q4 N w C lv R W s o r q l m l m) : S4 N w C lv R W (.pointer (some ⟨s, 0, none⟩)) (.pointer (some ⟨o, 0, none⟩)) (.pointer (some ⟨r, 0, none⟩)) (.pointer (some ⟨q, 0, none⟩)) := ⟨s, o, r, q, l, m, rfl, rfl, rfl, rfl, h⟩
def SameE (v1 v2 : Value) : Prop := ∃ e : Int, v1 = .int .i64 e ∧ v2 = .int .i64 e
theorem cell_below {N : Nat} {w w' : World} (h : Below N w w') {b o : Nat} {v : Value} (hb : b < N) (hc : w.cell? ⟨b, o, none⟩ = some v) : w'.cell? ⟨b, o, none⟩ = some v := (h.cell (p := ⟨b, o, none⟩) hb).trans hc
set_option maxRecDepth 20000 in
set_option maxHeartbeats 16000000 in
theorem SPlaysL_c (x : Cfg) (hx : x.Raw) (lx : Int) (hlx : I64 lx) (os : List Opn) (hos : OpsOk os) (v : Value) (w : World) (hv : OpsAt w v os) (hul : os.length ≤ 140737488355328) :
    Calls Try.prog 4 #[.agg #[.int .i64 x.bits, .int .i64 x.rows, .int .i64 x.width, .int .i64 x.mode, .int .u64 x.seed], .int .i64 lx, v] w fun e w' => e = .returned (.bool true) ∧ Ext w w' := by
  obtain ⟨vp, vc, rfl⟩ := hv.sl
  have HV := Lib.hid hv
  clear hv
  have hla := and16 lx
  have hl0 := Int.emod_nonneg lx (show (65536 : Int) ≠ 0 by decide)
  have hl1 := Int.emod_lt_of_pos lx (show (0 : Int) < 65536 by decide)
  go_enter Try.func4, Try.ntmps4
  go_wp2_with fail
  refine (shown_c _).mono ?_
  rintro e w1 ⟨rfl, hb1⟩
  have hE1 : Ext w w1 := by (repeat' (first | exact Ext.refl _ | assumption | apply Ext.allocR | apply Ext.drewR | apply Ext.drewNR | (refine Ext.trans' ?_ (by assumption))))
  have hC := (CfgAt.box (w := w) x 24 rfl).ext hb1
  have c0 := hC.c0
  have c1 := hC.c1
  have c2 := hC.c2
  have c3 := hC.c3
  have c4 := hC.c4
  have cl := hC.lt
  clear hC hb1
  go_wp2_with fail
  refine (Any_c x hx 6 9 (by decide) (by decide) (by decide) (by decide) _).mono ?_
  rintro e w2 ⟨rfl, hx2⟩
  have hok := mkC_ok x hx.s (nb := 6) (nw := 9) (by decide) (by decide) (by decide) (by decide)
  have hE2 : Ext w w2 := by (repeat' (first | exact Ext.refl _ | assumption | apply Ext.allocR | apply Ext.drewR | apply Ext.drewNR | (refine Ext.trans' ?_ (by assumption))))
  generalize mkC x 6 9 = C at *
  have hb1 := hok.b1
  have hb2 := hok.b2
  clear c0 c1 c2 c3 c4 cl hx2 hE1
  have k0 := Int.emod_nonneg (lx % 65536) (show C.bits + 1 ≠ 0 by omega)
  have k1 := Int.emod_lt_of_pos (lx % 65536) (show 0 < C.bits + 1 by omega)
  obtain ⟨lv, hlv⟩ : ∃ lv, lx % 65536 % (C.bits + 1) = lv := ⟨_, rfl⟩
  rw [hlv] at k0 k1
  have HLV := Lib.hid hlv
  have hz0 : (C.bits + 1 == 0) = false := by simp; omega
  clear hlv
  go_upto_region 4 with (fail)
  rw [HLV.out]
  obtain ⟨w3, hw3⟩ : ∃ w3, w2.alloc (.cells #[.int .i64 C.bits, .int .i64 C.rows, .int .i64 C.width, .int .i64 C.mode, .int .u64 C.seed] 24) = w3 := ⟨_, rfl⟩
  have hQ : w3.heap[w2.heap.size]? = some (.cells #[.int .i64 C.bits, .int .i64 C.rows, .int .i64 C.width, .int .i64 C.mode, .int .u64 C.seed] 24 (0, 0)) := by rw [← hw3]; exact heap_at _ _ rfl
  have hE3 : Ext w w3 := by rw [← hw3]; exact hE2.allocR _
  rw [hw3]
  clear hw3 hE2 hla hl0 hl1 HLV hz0
  obtain ⟨R, hR⟩ : ∃ R : Nat, C.rows = R := ⟨C.rows.toNat, by have := hok.r1; omega⟩
  obtain ⟨W, hW⟩ : ∃ W : Nat, C.width = W := ⟨C.width.toNat, by have := hok.w1; omega⟩
  have hl : lv ≤ C.bits := by omega
  have HSN := Lib.hid (fun W' => SNew_c C hok lv k0 hl R W hR hW W')
  have HRN := Lib.hid (fun W' => RSNew_c C hok lv k0 hl R W hR hW W')
  have HE3 := Lib.hid hE3
  have HQ := Lib.hid hQ
  have hlR : R * W ≤ 1000000 := by
    have h3 := hok.r2
    have h2 := hok.w2
    have : R * W ≤ 8 * 128 := Nat.mul_le_mul (by omega) (by omega)
    omega
  have HLR := Lib.hid hlR
  clear hR hW hE3 hlR
  have hC3 := CfgAt.of hQ
  have c0 := hC3.c0
  have c1 := hC3.c1
  have c2 := hC3.c2
  have c3 := hC3.c3
  have c4 := hC3.c4
  have cl := hC3.lt
  clear hC3 hQ
  go_wp2_with fail
  refine (HSN.out _).mono ?_
  rintro e w4 ⟨s, b, c, rfl, hS, s1, s2, s3, hx4⟩
  have HS := Lib.hid hS
  have HX4 := Lib.hid hx4
  have hC4 := CfgAt.of (hx4.keep HQ.out)
  clear c0 c1 c2 c3 c4 cl hS hx4
  have c0 := hC4.c0
  have c1 := hC4.c1
  have c2 := hC4.c2
  have c3 := hC4.c3
  have c4 := hC4.c4
  have cl := hC4.lt
  clear hC4
  go_wp2_with fail
  refine (HSN.out _).mono ?_
  rintro e w5 ⟨o, b', c', rfl, hS, t1, t2, t3, hx5⟩
  have HS2 := Lib.hid hS
  have HX5 := Lib.hid hx5
  have hE35 := HX4.out.trans' hx5
  have hC5 := CfgAt.of (hE35.keep HQ.out)
  clear c0 c1 c2 c3 c4 cl hS hx5
  have c0 := hC5.c0
  have c1 := hC5.c1
  have c2 := hC5.c2
  have c3 := hC5.c3
  have c4 := hC5.c4
  have cl := hC5.lt
  clear hC5
  go_wp2_with fail
  refine (HRN.out _).mono ?_
  rintro e w6 ⟨r, G, rfl, hS, hF, hx6⟩
  have HS3 := Lib.hid hS
  have HF3 := Lib.hid (show ∀ k, rsF r G R k → w5.heap.size ≤ k from hF)
  have HX6 := Lib.hid hx6
  have hE36 := hE35.trans' hx6
  have hC6 := CfgAt.of (hE36.keep HQ.out)
  clear c0 c1 c2 c3 c4 cl hS hF hx6 hE35
  have c0 := hC6.c0
  have c1 := hC6.c1
  have c2 := hC6.c2
  have c3 := hC6.c3
  have c4 := hC6.c4
  have cl := hC6.lt
  clear hC6
  go_wp2_with fail
  refine (HRN.out _).mono ?_
  rintro e w7 ⟨q, G2, rfl, hS, hF, hx7⟩
  have HF4 := Lib.hid (show ∀ k, rsF q G2 R k → w6.heap.size ≤ k from hF)
  have hE37 := hE36.trans' hx7
  have hQ4 : Q4 w3.heap.size w7 C lv R W s o r q (zs (R * W)) (zs (R * W)) (zs (R * W)) (zs (R * W)) := by
    refine ⟨b, c, b', c', G, G2, Own4.mk4 (z1 := w4.heap.size) (z2 := w5.heap.size) (z3 := w6.heap.size) (HS.out.ext (HX5.out.trans' (HX6.out.trans' hx7))).own (HS2.out.ext (HX6.out.trans' hx7)).own (HS3.out.ext hx7).own hS.own (fun k hk => ⟨?_, HS.out.own.lt k hk⟩) (fun k hk => ⟨?_, HS2.out.own.lt k hk⟩) (fun k hk => ⟨HF3.out k hk, HS3.out.own.lt k hk⟩) (fun k hk => HF4.out k hk) HX4.out.size HX5.out.size HX6.out.size hE37.size⟩
    · rcases hk with rfl | rfl | rfl
      · exact s1
      · exact s2
      · exact s3
    · rcases hk with rfl | rfl | rfl
      · exact t1
      · exact t2
      · exact t3
  have HQ4 := Lib.hid hQ4
  clear c0 c1 c2 c3 c4 cl hS hF hx7 hQ4 HS HS2 HS3 HF3 HF4 HX4 HX5 HX6 HSN HRN hE36 s1 s2 s3 t1 t2 t3
  obtain ⟨N, hN⟩ : ∃ N, w3.heap.size = N := ⟨_, rfl⟩
  have hqN : w2.heap.size < N := by rw [← hN]; exact lt_of HQ.out
  have hwN : w.heap.size ≤ N := by rw [← hN]; exact HE3.out.size
  rw [hN] at HQ4
  have HN := Lib.hid hN
  clear hN
  go_wp2_with fail
  go_loopw [9, 11, 13, 14, 15] (fun u9 u11 u13 u14 u15 wr => ∃ k : Nat, k ≤ 50 ∧ k ≤ os.length ∧ u15 = .int .i64 k ∧ Ext w3 wr ∧ S4 N wr C lv R W u9 u11 u13 u14) (fun _ _ _ _ u15 _ => 50 - (intOf u15).toNat)
  case atStart => exact ⟨0, Nat.zero_le _, Nat.zero_le _, rfl, hE37, S4.mk HQ4.out⟩
  case round =>
    clear hE37 HQ4
    obtain ⟨k, hk50, hkl, rfl, hE, s, o, r, q, l, m, rfl, rfl, rfl, rfl, hS⟩ := hrel
    have HS := Lib.hid hS
    clear hS
    have hEw := HE3.out.trans' hE
    by_cases hgo : k < os.length ∧ k < 50
    · obtain ⟨hg1, hg2⟩ := hgo
      obtain ⟨ug, off, rfl, hul0, d0', d1', d2'⟩ := HV.out.one hg1
      have d0 := ((bcell hEw).1 _ _ hul0).trans d0'
      have d1 := ((bcell hEw).1 _ _ hul0).trans d1'
      have d2 := ((bcell hEw).1 _ _ hul0).trans d2'
      have hgl2 : ug < wr.heap.size := Nat.lt_of_lt_of_le hul0 hEw.size
      have hugN : ug < N := Nat.lt_of_lt_of_le hul0 hwN
      have hu := hos _ (List.getElem_mem hg1)
      generalize os[k] = oo at *
      obtain ⟨kk, uk, ud⟩ := oo
      obtain ⟨_, hukU, hudI⟩ := hu
      have HUK := Lib.hid hukU
      have HUD := Lib.hid hudI
      have HWR := Lib.hid hEw
      have HER := Lib.hid hE
      clear d0' d1' d2' hukU hudI hEw hE
      go_upto_block 2 with (fail)
      go_cut [9, 11, 13, 14, 16, 17] (fun s9 s11 s13 s14 s16 s17 wx => SameE s16 s17 ∧ S4 N wx C lv R W s9 s11 s13 s14 ∧ Below N wr wx)
      case first =>
        by_cases hk1 : kk = 1
        · subst hk1
          go_wp2_with fail
          refine Calls.mono (Q4_pt HS.out uk HUK.out) ?_
          rintro e w8 ⟨x1, t1, rfl, hp1, hx8⟩
          have HP1 := Lib.hid hp1
          have HS8 := Lib.hid (HS.out.ext hx8)
          have f1 := ((bcell hx8).1 ug _ hgl2).trans d1
          have f2 := ((bcell hx8).1 ug _ hgl2).trans d2
          have gl8 := Nat.lt_of_lt_of_le hgl2 hx8.size
          clear hp1 d0 d1 d2
          go_wp2_with fail
          refine Calls.mono (Q4_rpt HS8.out uk HUK.out) ?_
          rintro e w9 ⟨x2, t2, rfl, hp2, hx9⟩
          obtain ⟨rfl, rfl⟩ := ptS_unique hp2 HP1.out
          have HS9 := Lib.hid (HS8.out.ext hx9)
          have g1 := ((bcell hx9).1 ug _ gl8).trans f1
          have g2 := ((bcell hx9).1 ug _ gl8).trans f2
          have gl9 := Nat.lt_of_lt_of_le gl8 hx9.size
          have hx89 := hx8.trans' hx9
          clear hp2 f1 f2 HP1 hx8 hx9 HS8
          go_wp2_with fail
          have hC0 := af_drew w9
          refine pi_start (fun w' => ∃ x : After w9, w' = x.w) [] (by kernel_rfl) ?_
          refine pi_t 0 rfl (by kernel_rfl) (by kernel_rfl) (fun _ _ _ _ h => h) (fun K hK => ?_)
          go_big_quiet_op
          refine hK _ ?_
          clear hK K
          refine pi_t 1 rfl (by kernel_rfl) (by kernel_rfl) (fun _ _ _ _ h => h) (fun K hK => ?_)
          go_big_quiet_op
          refine hK _ ?_
          clear hK K
          refine pi_t 2 rfl (by kernel_rfl) (by kernel_rfl) (fun _ _ _ _ h => h) (fun K hK => ?_)
          go_big_quiet_op
          refine hK _ ?_
          clear hK K
          refine pi_t 3 rfl (by kernel_rfl) (by kernel_rfl) (fun _ _ _ _ h => h) (fun K hK => ?_)
          go_big_quiet_op
          refine hK _ ?_
          clear hK K
          refine pi_t 4 rfl (by kernel_rfl) (by kernel_rfl) (fun _ _ _ _ h => h) (fun K hK => ?_)
          go_big_quiet_op
          refine hK _ ?_
          clear hK K
          refine pi_t 6 rfl (by kernel_rfl) (by kernel_rfl) (fun _ _ _ _ h => h) (fun K hK => ?_)
          go_big_quiet_op
          refine hK _ ?_
          clear hK K
          refine pi_t 7 rfl (by kernel_rfl) (by kernel_rfl) (fun _ _ _ _ h => h) (fun K hK => ?_)
          go_big_quiet_op
          refine hK _ ?_
          clear hK K
          refine pi_t 8 rfl (by kernel_rfl) (by kernel_rfl) (fun _ _ _ _ h => h) (fun K hK => ?_)
          go_big_quiet_op
          refine hK _ ?_
          clear hK K
          refine pi_t 9 rfl (by kernel_rfl) (by kernel_rfl) (fun _ _ _ _ h => h) (fun K hK => ?_)
          go_big_quiet_op
          refine hK _ ?_
          clear hK K
          refine pi_c 5 (by assumption) rfl (by kernel_rfl) (by kernel_rfl) (fun _ _ _ _ h => h) (fun K hK => ?_)
          go_big_quiet_op
          refine hK _ ?_
          clear hK K
          refine pi_c 10 (by assumption) rfl (by kernel_rfl) (by kernel_rfl) (fun _ _ _ _ h => h) (fun K hK => ?_)
          go_big_quiet_op
          refine hK _ ?_
          clear hK K
          refine pi_l 11 rfl (by kernel_rfl) (fun K hK => ?_)
          go_wp2_with (go_at_call 17; refine Calls.mono (Q4_chk (HS9.out.ext (Below.drew (Ext.refl w9))) uk ud HUK.out HUD.out) ?_; rintro e wa ⟨rfl, hxa⟩)
          refine hK _ _ (fun _ h => af_step h hxa) ?_
          clear hK K
          have hEa : Ext w9 wa := Ext.trans' (Below.drew (Ext.refl w9)) hxa
          have HSa := Lib.hid (HS9.out.ext hEa)
          have k1 := ((bcell hEa).1 ug _ gl9).trans g1
          have k2 := ((bcell hEa).1 ug _ gl9).trans g2
          have gla := Nat.lt_of_lt_of_le gl9 hEa.size
          have hx8a := hx89.trans' hEa
          clear g1 g2 hxa hEa hx89 HS9
          refine pi_t 12 rfl (by kernel_rfl) (by kernel_rfl) (fun _ _ _ _ h => h) (fun K hK => ?_)
          go_big_quiet_op
          refine hK _ ?_
          clear hK K
          refine pi_end (by kernel_rfl) ?_
          go_wp2_with fail
          have hC0 := af_drew wa
          refine pi_start (fun w' => ∃ x : After wa, w' = x.w) [] (by kernel_rfl) ?_
          refine pi_t 0 rfl (by kernel_rfl) (by kernel_rfl) (fun _ _ _ _ h => h) (fun K hK => ?_)
          go_big_quiet_op
          refine hK _ ?_
          clear hK K
          refine pi_t 2 rfl (by kernel_rfl) (by kernel_rfl) (fun _ _ _ _ h => h) (fun K hK => ?_)
          go_big_quiet_op
          refine hK _ ?_
          clear hK K
          refine pi_t 3 rfl (by kernel_rfl) (by kernel_rfl) (fun _ _ _ _ h => h) (fun K hK => ?_)
          go_big_quiet_op
          refine hK _ ?_
          clear hK K
          refine pi_t 4 rfl (by kernel_rfl) (by kernel_rfl) (fun _ _ _ _ h => h) (fun K hK => ?_)
          go_big_quiet_op
          refine hK _ ?_
          clear hK K
          refine pi_t 5 rfl (by kernel_rfl) (by kernel_rfl) (fun _ _ _ _ h => h) (fun K hK => ?_)
          go_big_quiet_op
          refine hK _ ?_
          clear hK K
          refine pi_t 7 rfl (by kernel_rfl) (by kernel_rfl) (fun _ _ _ _ h => h) (fun K hK => ?_)
          go_big_quiet_op
          refine hK _ ?_
          clear hK K
          refine pi_t 8 rfl (by kernel_rfl) (by kernel_rfl) (fun _ _ _ _ h => h) (fun K hK => ?_)
          go_big_quiet_op
          refine hK _ ?_
          clear hK K
          refine pi_t 9 rfl (by kernel_rfl) (by kernel_rfl) (fun _ _ _ _ h => h) (fun K hK => ?_)
          go_big_quiet_op
          refine hK _ ?_
          clear hK K
          refine pi_t 10 rfl (by kernel_rfl) (by kernel_rfl) (fun _ _ _ _ h => h) (fun K hK => ?_)
          go_big_quiet_op
          refine hK _ ?_
          clear hK K
          refine pi_c 6 (by assumption) rfl (by kernel_rfl) (by kernel_rfl) (fun _ _ _ _ h => h) (fun K hK => ?_)
          go_big_quiet_op
          refine hK _ ?_
          clear hK K
          refine pi_c 11 (by assumption) rfl (by kernel_rfl) (by kernel_rfl) (fun _ _ _ _ h => h) (fun K hK => ?_)
          go_big_quiet_op
          refine hK _ ?_
          clear hK K
          refine pi_l 1 rfl (by kernel_rfl) (fun K hK => ?_)
          go_wp2_with (go_at_call 18; refine Calls.mono (Q4_rcp (HSa.out.ext (Below.drew (Ext.refl wa)))) ?_; rintro e wb ⟨sb, Gb, rfl, hSb, hFb, hxb⟩)
          have hEb : Ext wa wb := Ext.trans' (Below.drew (Ext.refl wa)) hxb
          refine hK _ _ (fun _ h => af_step h hxb) ?_
          clear hK K
          have HSB := Lib.hid hSb
          have HFB := Lib.hid (show ∀ k, rsF sb Gb R k → wa.heap.size ≤ k from hFb)
          clear hSb hFb
          refine pi_l 12 rfl (by kernel_rfl) (fun K hK => ?_)
          go_wp2_with (go_at_call 11; refine Calls.mono (RSUpdate_c sb Gb C lv R W l uk ud _ HSB.out HUK.out HUD.out) ?_; rintro e wc ⟨rfl, hres⟩)
          have hEc : Ext wa wc := by
            rcases hres with ⟨_, _, hM⟩ | ⟨_, hE⟩
            · exact Below.trans hEb (hM.below hEb.size (fun k hk => HFB.out k (.inr hk)))
            · exact hEb.trans' hE
          refine hK _ _ (fun _ _ => ⟨⟨wc, hEc⟩, rfl⟩) ?_
          clear hK K hres
          refine pi_t 13 rfl (by kernel_rfl) (by kernel_rfl) (fun _ _ _ _ h => h) (fun K hK => ?_)
          go_big_quiet_op
          refine hK _ ?_
          clear hK K
          refine pi_end (by kernel_rfl) ?_
          have HSc := Lib.hid (HSa.out.ext hEc)
          have HBc : Hid (Below N wr wc) := Lib.hid (below_of (hx8a.trans' hEc) (by have := HER.out.size; have := HN.out; omega))
          go_wp2_with fail
          go_meet
          exact ⟨⟨0, rfl, rfl⟩, S4.mk HSc.out, HBc.out⟩
        · by_cases hk2 : kk = 2
          · subst hk2
            have hkk : True := trivial
            clear hk1
            go_wp2_with fail
            refine Calls.mono (Q4_merge HS.out) ?_
            rintro e w8 ⟨rfl, hQ8, hB8⟩
            have HQ8 := Lib.hid hQ8
            have HB8 := Lib.hid hB8
            clear hQ8 hB8
            go_wp2_with fail
            refine Calls.mono (Q4_rplus HQ8.out) ?_
            rintro e w9 ⟨rfl, hQ9, hB9⟩
            have HQ9 := Lib.hid hQ9
            have HB9 := Lib.hid (Below.trans HB8.out hB9)
            clear hQ9 hB9
            go_wp2
            go_meet
            exact ⟨⟨_, rfl, rfl⟩, S4.mk HQ9.out, HB9.out⟩
          · by_cases hk3 : kk = 3
            · subst hk3
              clear hk1 hk2
              go_wp2_with fail
              refine Calls.mono (Q4_sub HS.out) ?_
              rintro e w8 ⟨rfl, hQ8, hB8⟩
              have HQ8 := Lib.hid hQ8
              have HB8 := Lib.hid hB8
              clear hQ8 hB8
              go_wp2_with fail
              refine Calls.mono (Q4_rminus HQ8.out) ?_
              rintro e w9 ⟨rfl, hQ9, hB9⟩
              have HQ9 := Lib.hid hQ9
              have HB9 := Lib.hid (Below.trans HB8.out hB9)
              clear hQ9 hB9
              go_wp2
              go_meet
              exact ⟨⟨_, rfl, rfl⟩, S4.mk HQ9.out, HB9.out⟩
            · by_cases hk4 : kk = 4
              · subst hk4
                clear hk1 hk2 hk3
                go_wp2_with fail
                go_meet
                exact ⟨⟨0, rfl, rfl⟩, S4.mk HS.out.swap, Below.refl _ _⟩
              · by_cases hk5 : kk = 5
                · subst hk5
                  clear hk1 hk2 hk3 hk4
                  go_wp2_with fail
                  refine Calls.mono (Q4_copy HS.out) ?_
                  rintro e w8 ⟨t, rfl, hQ8, hx8⟩
                  have HQ8 := Lib.hid hQ8
                  have HX8 := Lib.hid hx8
                  clear hQ8 hx8
                  go_wp2_with fail
                  refine Calls.mono (Q4_rcopy HQ8.out) ?_
                  rintro e w9 ⟨t2, rfl, hQ9, hx9⟩
                  have HQ9 := Lib.hid hQ9
                  have hx89 := HX8.out.trans' hx9
                  have HB9 : Hid (Below N wr w9) := Lib.hid (below_of hx89 (by have := HER.out.size; have := HN.out; omega))
                  clear hQ9 hx9 hx89
                  go_wp2
                  go_meet
                  exact ⟨⟨0, rfl, rfl⟩, S4.mk HQ9.out, HB9.out⟩
                · have e1 : (kk == 1) = false := by simpa using hk1
                  have e2 : (kk == 2) = false := by simpa using hk2
                  have e3 : (kk == 3) = false := by simpa using hk3
                  have e4 : (kk == 4) = false := by simpa using hk4
                  have e5 : (kk == 5) = false := by simpa using hk5
                  clear hk1 hk2 hk3 hk4 hk5
                  go_wp2_with fail
                  have hC0 := af_drew wr
                  refine pi_start (fun w' => ∃ x : After wr, w' = x.w) [11] (by kernel_rfl) ?_
                  refine pi_t 0 rfl (by kernel_rfl) (by kernel_rfl) (fun _ _ _ _ h => h) (fun K hK => ?_)
                  go_big_quiet_op
                  refine hK _ ?_
                  clear hK K
                  refine pi_t 1 rfl (by kernel_rfl) (by kernel_rfl) (fun _ _ _ _ h => h) (fun K hK => ?_)
                  go_big_quiet_op
                  refine hK _ ?_
                  clear hK K
                  refine pi_t 2 rfl (by kernel_rfl) (by kernel_rfl) (fun _ _ _ _ h => h) (fun K hK => ?_)
                  go_big_quiet_op
                  refine hK _ ?_
                  clear hK K
                  refine pi_t 3 rfl (by kernel_rfl) (by kernel_rfl) (fun _ _ _ _ h => h) (fun K hK => ?_)
                  go_big_quiet_op
                  refine hK _ ?_
                  clear hK K
                  refine pi_t 4 rfl (by kernel_rfl) (by kernel_rfl) (fun _ _ _ _ h => h) (fun K hK => ?_)
                  go_big_quiet_op
                  refine hK _ ?_
                  clear hK K
                  refine pi_t 6 rfl (by kernel_rfl) (by kernel_rfl) (fun _ _ _ _ h => h) (fun K hK => ?_)
                  go_big_quiet_op
                  refine hK _ ?_
                  clear hK K
                  refine pi_t 7 rfl (by kernel_rfl) (by kernel_rfl) (fun _ _ _ _ h => h) (fun K hK => ?_)
                  go_big_quiet_op
                  refine hK _ ?_
                  clear hK K
                  refine pi_t 8 rfl (by kernel_rfl) (by kernel_rfl) (fun _ _ _ _ h => h) (fun K hK => ?_)
                  go_big_quiet_op
                  refine hK _ ?_
                  clear hK K
                  refine pi_t 9 rfl (by kernel_rfl) (by kernel_rfl) (fun _ _ _ _ h => h) (fun K hK => ?_)
                  go_big_quiet_op
                  refine hK _ ?_
                  clear hK K
                  refine pi_c 5 (by assumption) rfl (by kernel_rfl) (by kernel_rfl) (fun _ _ _ _ h => h) (fun K hK => ?_)
                  go_big_quiet_op
                  refine hK _ ?_
                  clear hK K
                  refine pi_c 10 (by assumption) rfl (by kernel_rfl) (by kernel_rfl) (fun _ _ _ _ h => h) (fun K hK => ?_)
                  go_big_quiet_op
                  refine hK _ ?_
                  clear hK K
                  refine pi_l 11 rfl (by kernel_rfl) (fun K hK => ?_)
                  go_wp2_with (go_at_call 10; refine Calls.mono (Q4_upd (HS.out.ext (Below.drew (Ext.refl wr))) uk ud HUK.out HUD.out) ?_; rintro e w8 ⟨rfl, hQ8, hB8⟩)
                  refine hK _ _ (by simp) ?_
                  clear hK K
                  have HQ8 := Lib.hid hQ8
                  have hB8' : Below N wr w8 := Below.trans (below_of (Below.drew (Ext.refl wr)) (by have := HER.out.size; have := HN.out; omega)) hB8
                  have HB8 := Lib.hid hB8'
                  have e1' := cell_below hB8' hugN d1
                  have e2' := cell_below hB8' hugN d2
                  have gl8 := Nat.lt_of_lt_of_le hgl2 hB8'.size
                  clear hQ8 hB8 hB8' d0 d1 d2
                  refine pi_t 12 rfl (by kernel_rfl) (by kernel_rfl) (fun _ _ _ _ h => h) (fun K hK => ?_)
                  go_big_quiet_op
                  refine hK _ ?_
                  clear hK K
                  refine pi_end (by kernel_rfl) ?_
                  go_wp2_with fail
                  have hC0 := af_drew w8
                  refine pi_start (fun w' => ∃ x : After w8, w' = x.w) [11] (by kernel_rfl) ?_
                  refine pi_t 0 rfl (by kernel_rfl) (by kernel_rfl) (fun _ _ _ _ h => h) (fun K hK => ?_)
                  go_big_quiet_op
                  refine hK _ ?_
                  clear hK K
                  refine pi_t 1 rfl (by kernel_rfl) (by kernel_rfl) (fun _ _ _ _ h => h) (fun K hK => ?_)
                  go_big_quiet_op
                  refine hK _ ?_
                  clear hK K
                  refine pi_t 2 rfl (by kernel_rfl) (by kernel_rfl) (fun _ _ _ _ h => h) (fun K hK => ?_)
                  go_big_quiet_op
                  refine hK _ ?_
                  clear hK K
                  refine pi_t 3 rfl (by kernel_rfl) (by kernel_rfl) (fun _ _ _ _ h => h) (fun K hK => ?_)
                  go_big_quiet_op
                  refine hK _ ?_
                  clear hK K
                  refine pi_t 4 rfl (by kernel_rfl) (by kernel_rfl) (fun _ _ _ _ h => h) (fun K hK => ?_)
                  go_big_quiet_op
                  refine hK _ ?_
                  clear hK K
                  refine pi_t 6 rfl (by kernel_rfl) (by kernel_rfl) (fun _ _ _ _ h => h) (fun K hK => ?_)
                  go_big_quiet_op
                  refine hK _ ?_
                  clear hK K
                  refine pi_t 7 rfl (by kernel_rfl) (by kernel_rfl) (fun _ _ _ _ h => h) (fun K hK => ?_)
                  go_big_quiet_op
                  refine hK _ ?_
                  clear hK K
                  refine pi_t 8 rfl (by kernel_rfl) (by kernel_rfl) (fun _ _ _ _ h => h) (fun K hK => ?_)
                  go_big_quiet_op
                  refine hK _ ?_
                  clear hK K
                  refine pi_t 9 rfl (by kernel_rfl) (by kernel_rfl) (fun _ _ _ _ h => h) (fun K hK => ?_)
                  go_big_quiet_op
                  refine hK _ ?_
                  clear hK K
                  refine pi_c 5 (by assumption) rfl (by kernel_rfl) (by kernel_rfl) (fun _ _ _ _ h => h) (fun K hK => ?_)
                  go_big_quiet_op
                  refine hK _ ?_
                  clear hK K
                  refine pi_c 10 (by assumption) rfl (by kernel_rfl) (by kernel_rfl) (fun _ _ _ _ h => h) (fun K hK => ?_)
                  go_big_quiet_op
                  refine hK _ ?_
                  clear hK K
                  refine pi_l 11 rfl (by kernel_rfl) (fun K hK => ?_)
                  go_wp2_with (go_at_call 11; refine Calls.mono (Q4_rupd (HQ8.out.ext (Below.drew (Ext.refl w8))) uk ud HUK.out HUD.out) ?_; rintro e w9 ⟨rfl, hQ9, hB9⟩)
                  refine hK _ _ (by simp) ?_
                  clear hK K
                  have HQ9 := Lib.hid hQ9
                  have HB9 := Lib.hid (Below.trans HB8.out (Below.trans (below_of (Below.drew (Ext.refl w8)) (by have := HER.out.size; have := HN.out; have := HB8.out.size; omega)) hB9))
                  clear hQ9 hB9
                  refine pi_t 12 rfl (by kernel_rfl) (by kernel_rfl) (fun _ _ _ _ h => h) (fun K hK => ?_)
                  go_big_quiet_op
                  refine hK _ ?_
                  clear hK K
                  refine pi_end (by kernel_rfl) ?_
                  go_wp2
                  go_meet
                  exact ⟨⟨_, rfl, rfl⟩, S4.mk HQ9.out, HB9.out⟩
      case rest =>
        obtain ⟨⟨ee, rfl, rfl⟩, ⟨s, o, r, q, l, m, rfl, rfl, rfl, rfl, hS⟩, hB⟩ := hcut
        rename World => w8
        have hE8 : Ext w3 w8 := Below.trans HER.out (by rw [HN.out]; exact hB)
        obtain ⟨G, lr, cr6, hG⟩ := hS.grid
        obtain ⟨G2, lq, cq6, hG2⟩ := hS.swap.grid
        have hll : l.length = R * W := hG.len
        have hlm : m.length = R * W := hG2.len
        have HLL := Lib.hid (And.intro hll hlm)
        have HS := Lib.hid hS
        have HG := Lib.hid hG
        have HG2 := Lib.hid hG2
        clear hS hB hG hG2 d0 d1 d2 hll hlm
        go_wp2_with fail
        have hC0 := af_drew w8
        refine pi_start (fun w' => ∃ x : After w8, w' = x.w) [] (by kernel_rfl) ?_
        refine pi_t 0 rfl (by kernel_rfl) (by kernel_rfl) (fun _ _ _ _ h => h) (fun K hK => ?_)
        go_big_quiet_op
        refine hK _ ?_
        clear hK K
        refine pi_t 1 rfl (by kernel_rfl) (by kernel_rfl) (fun _ _ _ _ h => h) (fun K hK => ?_)
        go_big_quiet_op
        refine hK _ ?_
        clear hK K
        refine pi_t 2 rfl (by kernel_rfl) (by kernel_rfl) (fun _ _ _ _ h => h) (fun K hK => ?_)
        go_big_quiet_op
        refine hK _ ?_
        clear hK K
        refine pi_t 3 rfl (by kernel_rfl) (by kernel_rfl) (fun _ _ _ _ h => h) (fun K hK => ?_)
        go_big_quiet_op
        refine hK _ ?_
        clear hK K
        refine pi_t 4 rfl (by kernel_rfl) (by kernel_rfl) (fun _ _ _ _ h => h) (fun K hK => ?_)
        go_big_quiet_op
        refine hK _ ?_
        clear hK K
        refine pi_t 6 rfl (by kernel_rfl) (by kernel_rfl) (fun _ _ _ _ h => h) (fun K hK => ?_)
        go_big_quiet_op
        refine hK _ ?_
        clear hK K
        refine pi_t 7 rfl (by kernel_rfl) (by kernel_rfl) (fun _ _ _ _ h => h) (fun K hK => ?_)
        go_big_quiet_op
        refine hK _ ?_
        clear hK K
        refine pi_t 8 rfl (by kernel_rfl) (by kernel_rfl) (fun _ _ _ _ h => h) (fun K hK => ?_)
        go_big_quiet_op
        refine hK _ ?_
        clear hK K
        refine pi_c 9 (by assumption) rfl (by kernel_rfl) (by kernel_rfl) (fun _ _ _ _ h => h) (fun K hK => ?_)
        go_big_quiet_op
        refine hK _ ?_
        clear hK K
        refine pi_l 5 rfl (by kernel_rfl) (fun K hK => ?_)
        go_wp2_with (go_at_call 24; refine Calls.mono (Q4_cells (HS.out.ext (Below.drew (Ext.refl w8)))) ?_; rintro e wa ⟨v1, rfl, hv1, hxa⟩)
        have hEa : Ext w8 wa := Ext.trans' (Below.drew (Ext.refl w8)) hxa
        refine hK _ _ (fun _ h => af_step h hxa) ?_
        clear hK K
        have HV1 := Lib.hid hv1
        clear hv1 hxa
        refine pi_l 10 rfl (by kernel_rfl) (fun K hK => ?_)
        go_wp2_with (go_at_call 25; refine Calls.mono (RGCells_c G R W l _ (HG.out.ext hEa)) ?_; rintro e wb ⟨v2, rfl, ho, hxb⟩)
        have hEb : Ext w8 wb := hEa.trans' hxb
        refine hK _ _ (fun _ h => af_step h hxb) ?_
        clear hK K
        have HV2 := Lib.hid (IntsAt.of_row ho)
        have HV1b := Lib.hid (HV1.out.ext hxb)
        clear ho hxb
        refine pi_l 11 rfl (by kernel_rfl) (fun K hK => ?_)
        go_wp2_with (go_at_call 23; refine Calls.mono (Same_c v1 v2 l l _ HV1b.out HV2.out (by rw [HLL.out.1]; exact HLR.out) (by rw [HLL.out.1]; exact HLR.out)) ?_; rintro e wc ⟨rfl, hxc⟩)
        have hEc : Ext w8 wc := hEb.trans' hxc
        try rw [decide_eq_true (rfl : l = l)]
        refine hK _ _ (fun _ h => af_step h hxc) ?_
        clear hK K
        have hCc : ∃ x : After w8, wc = x.w := ⟨⟨_, hEc⟩, rfl⟩
        refine pi_t 12 rfl (by kernel_rfl) (by kernel_rfl) (fun _ _ _ _ h => h) (fun K hK => ?_)
        go_big_quiet_op
        refine hK _ ?_
        clear hK K
        refine pi_t 13 rfl (by kernel_rfl) (by kernel_rfl) (fun _ _ _ _ h => h) (fun K hK => ?_)
        go_big_quiet_op
        refine hK _ ?_
        clear hK K
        refine pi_t 14 rfl (by kernel_rfl) (by kernel_rfl) (fun _ _ _ _ h => h) (fun K hK => ?_)
        go_big_quiet_op
        refine hK _ ?_
        clear hK K
        refine pi_t 15 rfl (by kernel_rfl) (by kernel_rfl) (fun _ _ _ _ h => h) (fun K hK => ?_)
        go_big_quiet_op
        refine hK _ ?_
        clear hK K
        refine pi_t 17 rfl (by kernel_rfl) (by kernel_rfl) (fun _ _ _ _ h => h) (fun K hK => ?_)
        go_big_quiet_op
        refine hK _ ?_
        clear hK K
        refine pi_t 18 rfl (by kernel_rfl) (by kernel_rfl) (fun _ _ _ _ h => h) (fun K hK => ?_)
        go_big_quiet_op
        refine hK _ ?_
        clear hK K
        refine pi_t 19 rfl (by kernel_rfl) (by kernel_rfl) (fun _ _ _ _ h => h) (fun K hK => ?_)
        go_big_quiet_op
        refine hK _ ?_
        clear hK K
        refine pi_c 20 (by assumption) rfl (by kernel_rfl) (by kernel_rfl) (fun _ _ _ _ h => h) (fun K hK => ?_)
        go_big_quiet_op
        refine hK _ ?_
        clear hK K
        refine pi_l 16 rfl (by kernel_rfl) (fun K hK => ?_)
        go_wp2_with (go_at_call 24; refine Calls.mono (Q4_cells (HS.out.swap.ext hEc)) ?_; rintro e wd ⟨v3, rfl, hv3, hxd⟩)
        have hEd : Ext w8 wd := hEc.trans' hxd
        refine hK _ _ (fun _ h => af_step h hxd) ?_
        clear hK K
        have HV3 := Lib.hid hv3
        clear hv3 hxd
        refine pi_l 21 rfl (by kernel_rfl) (fun K hK => ?_)
        go_wp2_with (go_at_call 25; refine Calls.mono (RGCells_c G2 R W m _ (HG2.out.ext hEd)) ?_; rintro e wf ⟨v4, rfl, ho, hxf⟩)
        have hEf : Ext w8 wf := hEd.trans' hxf
        refine hK _ _ (fun _ h => af_step h hxf) ?_
        clear hK K
        have HV4 := Lib.hid (IntsAt.of_row ho)
        have HV3f := Lib.hid (HV3.out.ext hxf)
        clear ho hxf
        refine pi_l 22 rfl (by kernel_rfl) (fun K hK => ?_)
        go_wp2_with (go_at_call 23; refine Calls.mono (Same_c v3 v4 m m _ HV3f.out HV4.out (by rw [HLL.out.2]; exact HLR.out) (by rw [HLL.out.2]; exact HLR.out)) ?_; rintro e wg ⟨rfl, hxg⟩)
        have hEg : Ext w8 wg := hEf.trans' hxg
        try rw [decide_eq_true (rfl : l = l)]
        refine hK _ _ (fun _ h => af_step h hxg) ?_
        clear hK K
        refine pi_t 23 rfl (by kernel_rfl) (by kernel_rfl) (fun _ _ _ _ h => h) (fun K hK => ?_)
        go_big_quiet_op
        refine hK _ ?_
        clear hK K
        refine pi_t 24 rfl (by kernel_rfl) (by kernel_rfl) (fun _ _ _ _ h => h) (fun K hK => ?_)
        go_big_quiet_op
        refine hK _ ?_
        clear hK K
        refine pi_end (by kernel_rfl) ?_
        have HSg := Lib.hid (HS.out.ext hEg)
        have hE9 := hE8.trans' hEg
        go_wp2
        go_roundw
        case rel => exact ⟨k + 1, by omega, by omega, by go_num, hE9, S4.mk HSg.out⟩
        case measure => simp [intOf]; omega
    · have hge : ¬ k < os.length ∨ ¬ k < 50 := by omega
      clear hgo hEw
      rename World => wo
      go_upto_region 11 with (fail)
      go_cut [74] (fun s74 wx => s74 = .bool false ∧ wx = wo)
      case first =>
        by_cases hgl : k < os.length
        · have hg6 : ¬ k < 50 := by omega
          go_wp2_with fail
          go_meet
          exact ⟨by first | rfl | exact congrArg Value.bool (decide_eq_false (by omega)), rfl⟩
        · first
            | (go_wp2_with fail
               go_meet
               exact ⟨rfl, rfl⟩)
            | (clear hge
               go_wp2_with fail
               go_meet
               exact ⟨by first | rfl | exact congrArg Value.bool (decide_eq_false (by omega)), rfl⟩)
      case rest =>
        obtain ⟨rfl, rfl⟩ := hcut
        rename World => wo
        obtain ⟨b, c, hA⟩ := HS.out.at1
        have HA := Lib.hid hA
        have hCq := CfgAt.of (hE.keep HQ.out)
        have c0 := hCq.c0
        have c1 := hCq.c1
        have c2 := hCq.c2
        have c3 := hCq.c3
        have c4 := hCq.c4
        have cl := hCq.lt
        clear hge hA hCq
        go_wp2_with fail
        have hC0 := af_drew wo
        refine pi_start (fun w' => ∃ x : After wo, w' = x.w) [] (by kernel_rfl) ?_
        refine pi_t 0 rfl (by kernel_rfl) (by kernel_rfl) (fun _ _ _ _ h => h) (fun K hK => ?_)
        go_big_quiet_op
        refine hK _ ?_
        clear hK K
        refine pi_t 1 rfl (by kernel_rfl) (by kernel_rfl) (fun _ _ _ _ h => h) (fun K hK => ?_)
        go_big_quiet_op
        refine hK _ ?_
        clear hK K
        refine pi_t 2 rfl (by kernel_rfl) (by kernel_rfl) (fun _ _ _ _ h => h) (fun K hK => ?_)
        go_big_quiet_op
        refine hK _ ?_
        clear hK K
        refine pi_c 4 (by assumption) rfl (by kernel_rfl) (by kernel_rfl) (fun _ _ _ _ h => h) (fun K hK => ?_)
        go_big_quiet_op
        refine hK _ ?_
        clear hK K
        refine pi_l 3 rfl (by kernel_rfl) (fun K hK => ?_)
        go_wp2_with (go_at_call 26; refine Calls.mono (SConfig_c s b c C lv R W l _ (HA.out.ext (Below.drew (Ext.refl wo)))) ?_; rintro e wa ⟨rfl, hxa⟩)
        have hEa : Ext wo wa := Ext.trans' (Below.drew (Ext.refl wo)) hxa
        refine hK _ _ (fun _ h => af_step h hxa) ?_
        clear hK K
        refine pi_t 5 rfl (by kernel_rfl) (by kernel_rfl) (fun _ _ _ _ h => h) (fun K hK => ?_)
        go_big_quiet_op
        refine hK _ ?_
        clear hK K
        refine pi_t 6 rfl (by kernel_rfl) (by kernel_rfl) (fun _ _ _ _ h => h) (fun K hK => ?_)
        go_big_quiet_op
        refine hK _ ?_
        clear hK K
        refine pi_t 7 rfl (by kernel_rfl) (by kernel_rfl) (fun _ _ _ _ h => h) (fun K hK => ?_)
        go_big_quiet_op
        refine hK _ ?_
        clear hK K
        refine pi_t 8 rfl (by kernel_rfl) (by kernel_rfl) (fun _ _ _ _ h => h) (fun K hK => ?_)
        go_big_quiet_op
        refine hK _ ?_
        clear hK K
        refine pi_t 10 rfl (by kernel_rfl) (by kernel_rfl) (fun _ _ _ _ h => h) (fun K hK => ?_)
        go_big_quiet_op
        refine hK _ ?_
        clear hK K
        refine pi_l 9 rfl (by kernel_rfl) (fun K hK => ?_)
        go_wp2_with (go_at_call 27; refine Calls.mono (SLevel_c s b c C lv R W l _ (HA.out.ext hEa)) ?_; rintro e wb ⟨rfl, rfl⟩)
        refine hK _ _ (fun _ h => h) ?_
        clear hK K
        refine pi_t 11 rfl (by kernel_rfl) (by kernel_rfl) (fun _ _ _ _ h => h) (fun K hK => ?_)
        go_big_quiet_op
        refine hK _ ?_
        clear hK K
        refine pi_t 12 rfl (by kernel_rfl) (by kernel_rfl) (fun _ _ _ _ h => h) (fun K hK => ?_)
        go_big_quiet_op
        refine hK _ ?_
        clear hK K
        refine pi_t 13 rfl (by kernel_rfl) (by kernel_rfl) (fun _ _ _ _ h => h) (fun K hK => ?_)
        go_big_quiet_op
        refine hK _ ?_
        clear hK K
        refine pi_end (by kernel_rfl) ?_
        have hEf := HE3.out.trans' (hE.trans' hEa)
        go_wp2
        go_ret
        exact ⟨rfl, hEf⟩
end Go.Proofs.Yteoblkcbemeamaa
