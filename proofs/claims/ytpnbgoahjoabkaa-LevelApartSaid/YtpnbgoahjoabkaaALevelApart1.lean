/- LevelApart: a copy is a level of its own: what is done to the one leaves the other. No condition: every input. -/
import Derived.Test.YtpnbgoahjoabkaaL15
import Derived.Test.YtpnbgoahjoabkaaL14
import Derived.Test.YtpnbgoahjoabkaaL10

/- gaugerlaw13.LevelApart, walked. -/
namespace Go.Proofs.Ytpnbgoahjoabkaa
set_option linter.unusedVariables false
open Go.RowKit
set_option maxRecDepth 20000 in
set_option maxHeartbeats 8000000 in
theorem LApartL_c (x : Cfg) (hx : x.Raw) (key d : Int) (hkey : U64 key) (hd : I64 d) (lv : Int) (hlv : I64 lv) (us : List (Int × Int)) (hus : UpsOk us) (v : Value) (w : World) (hv : UpsAt w v us) (hul : us.length ≤ 140737488355328) :
    Calls Try.prog 18 #[.agg #[.int .i64 x.bits, .int .i64 x.rows, .int .i64 x.width, .int .i64 x.mode, .int .u64 x.seed, .int .i64 lv, v], .agg #[.int .u64 key, .int .i64 d]] w fun e w' => e = .returned (.bool true) ∧ Ext w w' := by
  obtain ⟨vp, vc, rfl⟩ := hv.sl
  have HV := Lib.hid hv
  clear hv
  go_enter Try.func18, Try.ntmps18
  go_wp2_with fail
  refine (shown13_c _).mono ?_
  rintro e w1 ⟨rfl, hb1⟩
  have hE1 : Ext w w1 := by (repeat' (first | exact Ext.refl _ | assumption | apply Ext.allocR | apply Ext.drewR | apply Ext.drewNR | (refine Ext.trans' ?_ (by assumption))))
  have hP1 := hb1.keep ((heap_old _ _ (by rw [size_alloc]; omega)).trans (heap_at w (.cells #[.int .i64 x.bits, .int .i64 x.rows, .int .i64 x.width, .int .i64 x.mode, .int .u64 x.seed, .int .i64 lv, .slice vp us.length vc] 118) rfl))
  have hU1 := hb1.keep (heap_at (w.alloc (.cells #[.int .i64 x.bits, .int .i64 x.rows, .int .i64 x.width, .int .i64 x.mode, .int .u64 x.seed, .int .i64 lv, .slice vp us.length vc] 118)) (.cells #[.int .u64 key, .int .i64 d] 38) (n := w.heap.size + 1) (by rw [size_alloc]))
  have p0 := (cell_of hP1 0).trans rfl
  have p1 := (cell_of hP1 1).trans rfl
  have p2 := (cell_of hP1 2).trans rfl
  have p3 := (cell_of hP1 3).trans rfl
  have p4 := (cell_of hP1 4).trans rfl
  have p5 := (cell_of hP1 5).trans rfl
  have p6 := (cell_of hP1 6).trans rfl
  have pl := lt_of hP1
  clear hb1
  go_wp2_with fail
  refine Calls.mono (fed13_c x hx 8 (by decide) (by decide) lv hlv us hus _ 0 60 (by decide) (by decide) _ (HV.out.ext hE1) hul) ?_
  rintro e w2 ⟨L, rfl, hL, _, _, _, hx2⟩
  have hok := mkC_ok x hx.s (nb := 8) (nw := 9) (by decide) (by decide) (by decide) (by decide)
  generalize mkC x 8 9 = C at *
  obtain ⟨lb1, lb2⟩ := vlv_bd hok lv
  generalize vlv C lv = V at *
  have hE2 : Ext w w2 := by (repeat' (first | exact Ext.refl _ | assumption | apply Ext.allocR | apply Ext.drewR | apply Ext.drewNR | (refine Ext.trans' ?_ (by assumption))))
  have hU2 := hx2.keep hU1
  have hln := fus_len us 0 60
  generalize fus us 0 60 = fs at *
  clear p0 p1 p2 p3 p4 p5 p6 pl hP1 hU1 hx2 hE1
  go_upto_region 5 with (fail)
  obtain ⟨w3, hw3⟩ : ∃ w3, w2.alloc (.cells #[.int .i64 C.bits, .int .i64 C.rows, .int .i64 C.width, .int .i64 C.mode, .int .u64 C.seed] 24) = w3 := ⟨_, rfl⟩
  have hx3 : Ext w2 w3 := by rw [← hw3]; exact Ext.alloc' _ _
  have hC3 : CfgAt w3 w2.heap.size C := by rw [← hw3]; exact CfgAt.box C _ rfl
  rw [hw3]
  clear hw3
  have hE3 := hE2.trans' hx3
  have hU3 := hx3.keep hU2
  have hL3 := hL.ext hx3
  clear hL hU2 hE2 hx3
  go_wp2_with fail
  refine Calls.mono (LCopy_c C V L _ w3 hL3) ?_
  rintro e w4 ⟨M, rfl, hM, hMs, hMb, hMc, hx4⟩
  rw [lvV_eq]
  have HL4 := Lib.hid (hL3.ext hx4)
  have HM4 := Lib.hid hM
  have HC4 := Lib.hid (hC3.ext hx4)
  have HU4 := Lib.hid (hx4.keep hU3)
  have HE4 := Lib.hid (hE3.trans' hx4)
  have hlc := hL3.ltc
  have hcl := hC3.lt
  have hul3 := lt_of hU3
  have hsz3 := hE3.size
  clear hx4 hM hL3 hC3 hU3 hE3 hMs hMb
  have mC := lvm_Cells C V (some ⟨L.s, 0, none⟩)
  have eC := lve_Cells C V
  go_wp2_with fail
  refine Calls.mono (LCells_c C V L _ w4 HL4.out) ?_
  rintro e w5 ⟨v1, rfl, ho, _, hx5⟩
  obtain ⟨pv, cv, rfl⟩ := own_sl ho
  have hIv := Lib.hid (IntsAt.of_row ho)
  have hM4c := HM4.out.ltc
  have hne := own_ne ho (c := M.c) (by omega)
  have hC5 := HC4.out.ext hx5
  have hU5 := hx5.keep HU4.out
  have c0 := hC5.c0
  have c1 := hC5.c1
  have c2 := hC5.c2
  have c3 := hC5.c3
  have c4 := hC5.c4
  have cl := hC5.lt
  have u0 := (cell_of hU5 0).trans rfl
  have u1 := (cell_of hU5 1).trans rfl
  have ul := lt_of hU5
  clear ho
  go_wp2_with fail
  refine Calls.mono (Cut_c C hok V lb1 lb2 key d hkey hd _) ?_
  rintro e w6 ⟨rfl, hx6⟩
  have hE56 : Ext w5 w6 := by (repeat' (first | exact Ext.refl _ | assumption | apply Ext.allocR | apply Ext.drewR | apply Ext.drewNR | (refine Ext.trans' ?_ (by assumption))))
  have hkb := cutK_bd C hok V key lb1
  have hKb := keys_bd C hok V lb1
  have hdb := cutD_bd C.mode d
  generalize cutK C V key = K at *
  generalize cutD C.mode d = D at *
  clear c0 c1 c2 c3 c4 cl u0 u1 ul hU5 hx6
  have mU := lvm_Update C V (some ⟨M.s, 0, none⟩)
  have eU := lve_Update C V
  have hng : IntKind.i64.wrap (-D) = -D := IntWalk.i64_in _ (by omega)
  have hcase : D < 0 ∨ D = 0 ∨ 0 < D := by omega
  rcases hcase with hD | rfl | hD
  · have f1 : decide (D < -D) = true := by simp; omega
    have f2 : decide (-D < D) = false := by simp; omega
    have f3 : (D < -D) = True := by simp; omega
    have f4 : (-D < D) = False := by simp; omega
    obtain ⟨Z, hZ⟩ : ∃ Z, 1 + -D = Z := ⟨_, rfl⟩
    have hz1 : 0 < Z ∧ Z ≤ 1099511627777 := by omega
    have HZ := Lib.hid hZ
    clear hZ
    go_wp2_with fail
    rw [HZ.out]
    clear f1 f2 f3 f4 HZ
    have HZ1 := Lib.hid hz1
    clear hz1
    refine Calls.mono (LUpdate_c C V M _ K Z _ ((HM4.out.ext hx5).ext (hE56.trans' (Ext.alloc' _ _))) (by have := HZ1.out; unfold I64; omega) (by unfold U64; omega)) ?_
    rintro e w7 ⟨rfl, hr7⟩
    have hz : lvE C V (feedV C V fs (zs (lvN C V))) K Z = 0 := lvE_ok (feedV_bnd C V fs (lvN C V)) (by omega) (show (0 : Int) ≤ 1099511627777 by decide) (by have := HZ1.out; omega) (by omega) hkb.2 (fun _ => by have := HZ1.out; omega)
    rw [hz] at hr7 ⊢
    obtain ⟨_, hM7, hm7⟩ := hr7.resolve_right (fun h => h.1 rfl)
    have hlen : (feedV C V fs (zs (lvN C V))).length = lvN C V := by rw [feedV_len, zs_len]
    have hdiff := lvU_ne hok lb1 hlen hkb.1 hkb.2 HZ1.out.1
    have hln2 := lvU_len C V (feedV C V fs (zs (lvN C V))) K Z
    have hl1024 := lvN_le1 hok V
    have HLN := Lib.hid hlen
    have HLN2 := Lib.hid (hln2.trans hlen)
    clear hlen hln2
    generalize lvU C V (feedV C V fs (zs (lvN C V))) K Z = l2 at *
    generalize feedV C V fs (zs (lvN C V)) = l1 at *
    obtain ⟨w6b, hw6b⟩ : ∃ w6b, w6.alloc (.cells #[.int .u64 K, .int .i64 D] 38) = w6b := ⟨_, rfl⟩
    have hx6b : Ext w6 w6b := by rw [← hw6b]; exact Ext.alloc' _ _
    rw [hw6b] at hm7
    have hE5b := hE56.trans' hx6b
    have hEw6 := HE4.out.trans' (hx5.trans' hE5b)
    have hEw7 : Ext w w7 := Below.trans hEw6 (hm7.below (B := w.heap.size) hEw6.size (fun k hk => by rw [hk]; omega))
    have HL7 := Lib.hid (((HL4.out.ext hx5).ext hE5b).mod hm7 (fun k hk _ => by obtain ⟨cur, hc⟩ := ((HM4.out.ext hx5).ext hE5b).isc; exact ⟨cur, by rw [hk]; exact hc⟩) (by show ¬ L.c = M.c; omega))
    have HM7 := Lib.hid hM7
    have hIv7 := (hIv.out.ext hE5b).mod hm7 (fun g off n cap hv => hne g off _ cap hv)
    have HI7 := Lib.hid hIv7
    have hC7 := (hC5.ext hE5b).mod hm7 (by omega)
    have c0 := hC7.c0
    have c1 := hC7.c1
    have c2 := hC7.c2
    have c3 := hC7.c3
    have c4 := hC7.c4
    have cl := hC7.lt
    clear hz hr7 hM7 hm7 hIv7 hC7 hEw6 hE5b hx6b hw6b hE56 hx5 hC5 hne hIv HL4 HM4 HC4 HU4 HE4 mU eU
    go_upto_region 11 with (fail)
    have mM := lvm_Cells C V (some ⟨M.s, 0, none⟩)
    have mG := lvm_Config C V (some ⟨M.s, 0, none⟩)
    have eG := lve_Config C V
    have mV := lvm_Level C V (some ⟨M.s, 0, none⟩)
    have eV := lve_Level C V
    have hC0 := af_drew w7
    have hE0 : Ext w7 w7.drew := Below.drew (Ext.refl w7)
    refine pi_start (fun w' => ∃ x : After w7, w' = x.w) [] (by kernel_rfl) ?_
    refine pi_t 0 rfl (by kernel_rfl) (by kernel_rfl) (fun _ _ _ _ h => h) (fun K hK => ?_)
    go_big_quiet_op
    refine hK _ ?_
    clear hK K
    refine pi_t 1 rfl (by kernel_rfl) (by kernel_rfl) (fun _ _ _ _ h => h) (fun K hK => ?_)
    go_big_quiet_op
    refine hK _ ?_
    clear hK K
    refine pi_t 2 rfl (by kernel_rfl) (by kernel_rfl) (fun _ _ _ _ h => h) (fun K hK => ?_)
    go_big_quiet_op
    refine hK _ ?_
    clear hK K
    refine pi_t 3 rfl (by kernel_rfl) (by kernel_rfl) (fun _ _ _ _ h => h) (fun K hK => ?_)
    go_big_quiet_op
    refine hK _ ?_
    clear hK K
    refine pi_t 4 rfl (by kernel_rfl) (by kernel_rfl) (fun _ _ _ _ h => h) (fun K hK => ?_)
    go_big_quiet_op
    refine hK _ ?_
    clear hK K
    refine pi_t 5 rfl (by kernel_rfl) (by kernel_rfl) (fun _ _ _ _ h => h) (fun K hK => ?_)
    go_big_quiet_op
    refine hK _ ?_
    clear hK K
    refine pi_t 6 rfl (by kernel_rfl) (by kernel_rfl) (fun _ _ _ _ h => h) (fun K hK => ?_)
    go_big_quiet_op
    refine hK _ ?_
    clear hK K
    refine pi_t 8 rfl (by kernel_rfl) (by kernel_rfl) (fun _ _ _ _ h => h) (fun K hK => ?_)
    go_big_quiet_op
    refine hK _ ?_
    clear hK K
    refine pi_l 7 rfl (by kernel_rfl) (fun K hK => ?_)
    go_wp2_with fail
    refine Calls.mono (LCells_c C V L _ _ (HL7.out.ext hE0)) ?_
    rintro e w8 ⟨v2, rfl, ho2, _, hx8⟩
    obtain ⟨pv2, cv2, rfl⟩ := own_sl ho2
    have hI2 := IntsAt.of_row ho2
    have hE8 := hE0.trans' hx8
    go_wp2
    refine hK _ _ (fun _ h => af_step h hx8) ?_
    clear hK K ho2
    refine pi_l 9 rfl (by kernel_rfl) (fun K hK => ?_)
    go_wp2_with fail
    refine Calls.mono (Same_c _ _ l1 l1 _ hI2 (HI7.out.ext hE8) (by rw [HLN.out]; omega) (by rw [HLN.out]; omega)) ?_
    rintro e w9 ⟨rfl, hx9⟩
    rw [decide_eq_true (rfl : l1 = l1)]
    have hE9 := hE8.trans' hx9
    go_wp2
    refine hK _ _ (fun _ h => af_step h hx9) ?_
    clear hK K hI2
    refine pi_t 10 rfl (by kernel_rfl) (by kernel_rfl) (fun _ _ _ _ h => h) (fun K hK => ?_)
    go_big_quiet_op
    refine hK _ ?_
    clear hK K
    refine pi_t 11 rfl (by kernel_rfl) (by kernel_rfl) (fun _ _ _ _ h => h) (fun K hK => ?_)
    go_big_quiet_op
    refine hK _ ?_
    clear hK K
    refine pi_t 12 rfl (by kernel_rfl) (by kernel_rfl) (fun _ _ _ _ h => h) (fun K hK => ?_)
    go_big_quiet_op
    refine hK _ ?_
    clear hK K
    refine pi_t 14 rfl (by kernel_rfl) (by kernel_rfl) (fun _ _ _ _ h => h) (fun K hK => ?_)
    go_big_quiet_op
    refine hK _ ?_
    clear hK K
    refine pi_l 13 rfl (by kernel_rfl) (fun K hK => ?_)
    go_wp2_with fail
    refine Calls.mono (LCells_c C V M _ _ (HM7.out.ext hE9)) ?_
    rintro e w10 ⟨v3, rfl, ho3, _, hx10⟩
    obtain ⟨pv3, cv3, rfl⟩ := own_sl ho3
    have hI3 := IntsAt.of_row ho3
    have hE10 := hE9.trans' hx10
    go_wp2
    refine hK _ _ (fun _ h => af_step h hx10) ?_
    clear hK K ho3
    refine pi_l 15 rfl (by kernel_rfl) (fun K hK => ?_)
    go_wp2_with fail
    refine Calls.mono (Same_c _ _ l2 l1 _ hI3 (HI7.out.ext hE10) (by rw [HLN2.out]; omega) (by rw [HLN.out]; omega)) ?_
    rintro e w11 ⟨rfl, hx11⟩
    rw [decide_eq_false hdiff]
    have hE11 := hE10.trans' hx11
    go_wp2
    refine hK _ _ (fun _ h => af_step h hx11) ?_
    clear hK K hI3
    have hC11 : ∃ x : After w7, w11 = x.w := ⟨⟨_, hE11⟩, rfl⟩
    refine pi_t 16 rfl (by kernel_rfl) (by kernel_rfl) (fun _ _ _ _ h => h) (fun K hK => ?_)
    go_big_quiet_op
    refine hK _ ?_
    clear hK K
    refine pi_t 17 rfl (by kernel_rfl) (by kernel_rfl) (fun _ _ _ _ h => h) (fun K hK => ?_)
    go_big_quiet_op
    refine hK _ ?_
    clear hK K
    refine pi_t 18 rfl (by kernel_rfl) (by kernel_rfl) (fun _ _ _ _ h => h) (fun K hK => ?_)
    go_big_quiet_op
    refine hK _ ?_
    clear hK K
    refine pi_t 19 rfl (by kernel_rfl) (by kernel_rfl) (fun _ _ _ _ h => h) (fun K hK => ?_)
    go_big_quiet_op
    refine hK _ ?_
    clear hK K
    refine pi_c 21 (by assumption) rfl (by kernel_rfl) (by kernel_rfl) (fun _ _ _ _ h => h) (fun K hK => ?_)
    go_big_quiet_op
    refine hK _ ?_
    clear hK K
    refine pi_l 20 rfl (by kernel_rfl) (fun K hK => ?_)
    go_wp2_with fail
    refine Calls.mono (LConfig_c C V M _ _ (HM7.out.ext hE11)) ?_
    rintro e w12 ⟨rfl, hx12⟩
    have hE12 := hE11.trans' hx12
    go_wp2
    refine hK _ _ (fun _ h => af_step h hx12) ?_
    clear hK K
    refine pi_t 22 rfl (by kernel_rfl) (by kernel_rfl) (fun _ _ _ _ h => h) (fun K hK => ?_)
    go_big_quiet_op
    refine hK _ ?_
    clear hK K
    refine pi_t 23 rfl (by kernel_rfl) (by kernel_rfl) (fun _ _ _ _ h => h) (fun K hK => ?_)
    go_big_quiet_op
    refine hK _ ?_
    clear hK K
    refine pi_t 24 rfl (by kernel_rfl) (by kernel_rfl) (fun _ _ _ _ h => h) (fun K hK => ?_)
    go_big_quiet_op
    refine hK _ ?_
    clear hK K
    refine pi_t 25 rfl (by kernel_rfl) (by kernel_rfl) (fun _ _ _ _ h => h) (fun K hK => ?_)
    go_big_quiet_op
    refine hK _ ?_
    clear hK K
    refine pi_t 27 rfl (by kernel_rfl) (by kernel_rfl) (fun _ _ _ _ h => h) (fun K hK => ?_)
    go_big_quiet_op
    refine hK _ ?_
    clear hK K
    refine pi_l 26 rfl (by kernel_rfl) (fun K hK => ?_)
    go_wp2_with fail
    refine Calls.mono (LLevel_c C V M _ _ (HM7.out.ext hE12)) ?_
    rintro e w13 ⟨rfl, rfl⟩
    go_wp2
    refine hK _ _ (fun _ h => h) ?_
    clear hK K
    refine pi_t 28 rfl (by kernel_rfl) (by kernel_rfl) (fun _ _ _ _ h => h) (fun K hK => ?_)
    go_big_quiet_op
    refine hK _ ?_
    clear hK K
    refine pi_t 29 rfl (by kernel_rfl) (by kernel_rfl) (fun _ _ _ _ h => h) (fun K hK => ?_)
    go_big_quiet_op
    refine hK _ ?_
    clear hK K
    refine pi_t 30 rfl (by kernel_rfl) (by kernel_rfl) (fun _ _ _ _ h => h) (fun K hK => ?_)
    go_big_quiet_op
    refine hK _ ?_
    clear hK K
    refine pi_l 31 rfl (by kernel_rfl) (fun K hK => ?_)
    go_wp2_with fail
    refine Calls.mono (LCopy_nil _) ?_
    rintro e w14 ⟨rfl, rfl⟩
    go_wp2
    refine hK _ _ (fun _ h => h) ?_
    clear hK K
    refine pi_t 32 rfl (by kernel_rfl) (by kernel_rfl) (fun _ _ _ _ h => h) (fun K hK => ?_)
    go_big_quiet_op
    refine hK _ ?_
    clear hK K
    refine pi_t 33 rfl (by kernel_rfl) (by kernel_rfl) (fun _ _ _ _ h => h) (fun K hK => ?_)
    go_big_quiet_op
    refine hK _ ?_
    clear hK K
    refine pi_t 34 rfl (by kernel_rfl) (by kernel_rfl) (fun _ _ _ _ h => h) (fun K hK => ?_)
    go_big_quiet_op
    refine hK _ ?_
    clear hK K
    refine pi_end (by kernel_rfl) ?_
    go_wp2
    go_ret
    exact ⟨rfl, hEw7.trans' hE12⟩
  · obtain ⟨Z, hZ⟩ : ∃ Z : Int, 1 = Z := ⟨_, rfl⟩
    have hz1 : 0 < Z ∧ Z ≤ 1099511627777 := by omega
    have HZ := Lib.hid hZ
    clear hZ
    go_wp2_with fail
    rw [HZ.out]
    have HZ1 := Lib.hid hz1
    clear hz1
    refine Calls.mono (LUpdate_c C V M _ K Z _ ((HM4.out.ext hx5).ext (hE56.trans' (Ext.alloc' _ _))) (by have := HZ1.out; unfold I64; omega) (by unfold U64; omega)) ?_
    rintro e w7 ⟨rfl, hr7⟩
    have hz : lvE C V (feedV C V fs (zs (lvN C V))) K Z = 0 := lvE_ok (feedV_bnd C V fs (lvN C V)) (by omega) (show (0 : Int) ≤ 1099511627777 by decide) (by have := HZ1.out; omega) (by omega) hkb.2 (fun _ => by have := HZ1.out; omega)
    rw [hz] at hr7 ⊢
    obtain ⟨_, hM7, hm7⟩ := hr7.resolve_right (fun h => h.1 rfl)
    have hlen : (feedV C V fs (zs (lvN C V))).length = lvN C V := by rw [feedV_len, zs_len]
    have hdiff := lvU_ne hok lb1 hlen hkb.1 hkb.2 HZ1.out.1
    have hln2 := lvU_len C V (feedV C V fs (zs (lvN C V))) K Z
    have hl1024 := lvN_le1 hok V
    have HLN := Lib.hid hlen
    have HLN2 := Lib.hid (hln2.trans hlen)
    clear hlen hln2
    generalize lvU C V (feedV C V fs (zs (lvN C V))) K Z = l2 at *
    generalize feedV C V fs (zs (lvN C V)) = l1 at *
    obtain ⟨w6b, hw6b⟩ : ∃ w6b, w6.alloc (.cells #[.int .u64 K, .int .i64 0] 38) = w6b := ⟨_, rfl⟩
    have hx6b : Ext w6 w6b := by rw [← hw6b]; exact Ext.alloc' _ _
    rw [hw6b] at hm7
    have hE5b := hE56.trans' hx6b
    have hEw6 := HE4.out.trans' (hx5.trans' hE5b)
    have hEw7 : Ext w w7 := Below.trans hEw6 (hm7.below (B := w.heap.size) hEw6.size (fun k hk => by rw [hk]; omega))
    have HL7 := Lib.hid (((HL4.out.ext hx5).ext hE5b).mod hm7 (fun k hk _ => by obtain ⟨cur, hc⟩ := ((HM4.out.ext hx5).ext hE5b).isc; exact ⟨cur, by rw [hk]; exact hc⟩) (by show ¬ L.c = M.c; omega))
    have HM7 := Lib.hid hM7
    have hIv7 := (hIv.out.ext hE5b).mod hm7 (fun g off n cap hv => hne g off _ cap hv)
    have HI7 := Lib.hid hIv7
    have hC7 := (hC5.ext hE5b).mod hm7 (by omega)
    have c0 := hC7.c0
    have c1 := hC7.c1
    have c2 := hC7.c2
    have c3 := hC7.c3
    have c4 := hC7.c4
    have cl := hC7.lt
    clear hz hr7 hM7 hm7 hIv7 hC7 hEw6 hE5b hx6b hw6b hE56 hx5 hC5 hne hIv HL4 HM4 HC4 HU4 HE4 mU eU
    go_upto_region 11 with (fail)
    have mM := lvm_Cells C V (some ⟨M.s, 0, none⟩)
    have mG := lvm_Config C V (some ⟨M.s, 0, none⟩)
    have eG := lve_Config C V
    have mV := lvm_Level C V (some ⟨M.s, 0, none⟩)
    have eV := lve_Level C V
    have hC0 := af_drew w7
    have hE0 : Ext w7 w7.drew := Below.drew (Ext.refl w7)
    refine pi_start (fun w' => ∃ x : After w7, w' = x.w) [] (by kernel_rfl) ?_
    refine pi_t 0 rfl (by kernel_rfl) (by kernel_rfl) (fun _ _ _ _ h => h) (fun K hK => ?_)
    go_big_quiet_op
    refine hK _ ?_
    clear hK K
    refine pi_t 1 rfl (by kernel_rfl) (by kernel_rfl) (fun _ _ _ _ h => h) (fun K hK => ?_)
    go_big_quiet_op
    refine hK _ ?_
    clear hK K
    refine pi_t 2 rfl (by kernel_rfl) (by kernel_rfl) (fun _ _ _ _ h => h) (fun K hK => ?_)
    go_big_quiet_op
    refine hK _ ?_
    clear hK K
    refine pi_t 3 rfl (by kernel_rfl) (by kernel_rfl) (fun _ _ _ _ h => h) (fun K hK => ?_)
    go_big_quiet_op
    refine hK _ ?_
    clear hK K
    refine pi_t 4 rfl (by kernel_rfl) (by kernel_rfl) (fun _ _ _ _ h => h) (fun K hK => ?_)
    go_big_quiet_op
    refine hK _ ?_
    clear hK K
    refine pi_t 5 rfl (by kernel_rfl) (by kernel_rfl) (fun _ _ _ _ h => h) (fun K hK => ?_)
    go_big_quiet_op
    refine hK _ ?_
    clear hK K
    refine pi_t 6 rfl (by kernel_rfl) (by kernel_rfl) (fun _ _ _ _ h => h) (fun K hK => ?_)
    go_big_quiet_op
    refine hK _ ?_
    clear hK K
    refine pi_t 8 rfl (by kernel_rfl) (by kernel_rfl) (fun _ _ _ _ h => h) (fun K hK => ?_)
    go_big_quiet_op
    refine hK _ ?_
    clear hK K
    refine pi_l 7 rfl (by kernel_rfl) (fun K hK => ?_)
    go_wp2_with fail
    refine Calls.mono (LCells_c C V L _ _ (HL7.out.ext hE0)) ?_
    rintro e w8 ⟨v2, rfl, ho2, _, hx8⟩
    obtain ⟨pv2, cv2, rfl⟩ := own_sl ho2
    have hI2 := IntsAt.of_row ho2
    have hE8 := hE0.trans' hx8
    go_wp2
    refine hK _ _ (fun _ h => af_step h hx8) ?_
    clear hK K ho2
    refine pi_l 9 rfl (by kernel_rfl) (fun K hK => ?_)
    go_wp2_with fail
    refine Calls.mono (Same_c _ _ l1 l1 _ hI2 (HI7.out.ext hE8) (by rw [HLN.out]; omega) (by rw [HLN.out]; omega)) ?_
    rintro e w9 ⟨rfl, hx9⟩
    rw [decide_eq_true (rfl : l1 = l1)]
    have hE9 := hE8.trans' hx9
    go_wp2
    refine hK _ _ (fun _ h => af_step h hx9) ?_
    clear hK K hI2
    refine pi_t 10 rfl (by kernel_rfl) (by kernel_rfl) (fun _ _ _ _ h => h) (fun K hK => ?_)
    go_big_quiet_op
    refine hK _ ?_
    clear hK K
    refine pi_t 11 rfl (by kernel_rfl) (by kernel_rfl) (fun _ _ _ _ h => h) (fun K hK => ?_)
    go_big_quiet_op
    refine hK _ ?_
    clear hK K
    refine pi_t 12 rfl (by kernel_rfl) (by kernel_rfl) (fun _ _ _ _ h => h) (fun K hK => ?_)
    go_big_quiet_op
    refine hK _ ?_
    clear hK K
    refine pi_t 14 rfl (by kernel_rfl) (by kernel_rfl) (fun _ _ _ _ h => h) (fun K hK => ?_)
    go_big_quiet_op
    refine hK _ ?_
    clear hK K
    refine pi_l 13 rfl (by kernel_rfl) (fun K hK => ?_)
    go_wp2_with fail
    refine Calls.mono (LCells_c C V M _ _ (HM7.out.ext hE9)) ?_
    rintro e w10 ⟨v3, rfl, ho3, _, hx10⟩
    obtain ⟨pv3, cv3, rfl⟩ := own_sl ho3
    have hI3 := IntsAt.of_row ho3
    have hE10 := hE9.trans' hx10
    go_wp2
    refine hK _ _ (fun _ h => af_step h hx10) ?_
    clear hK K ho3
    refine pi_l 15 rfl (by kernel_rfl) (fun K hK => ?_)
    go_wp2_with fail
    refine Calls.mono (Same_c _ _ l2 l1 _ hI3 (HI7.out.ext hE10) (by rw [HLN2.out]; omega) (by rw [HLN.out]; omega)) ?_
    rintro e w11 ⟨rfl, hx11⟩
    rw [decide_eq_false hdiff]
    have hE11 := hE10.trans' hx11
    go_wp2
    refine hK _ _ (fun _ h => af_step h hx11) ?_
    clear hK K hI3
    have hC11 : ∃ x : After w7, w11 = x.w := ⟨⟨_, hE11⟩, rfl⟩
    refine pi_t 16 rfl (by kernel_rfl) (by kernel_rfl) (fun _ _ _ _ h => h) (fun K hK => ?_)
    go_big_quiet_op
    refine hK _ ?_
    clear hK K
    refine pi_t 17 rfl (by kernel_rfl) (by kernel_rfl) (fun _ _ _ _ h => h) (fun K hK => ?_)
    go_big_quiet_op
    refine hK _ ?_
    clear hK K
    refine pi_t 18 rfl (by kernel_rfl) (by kernel_rfl) (fun _ _ _ _ h => h) (fun K hK => ?_)
    go_big_quiet_op
    refine hK _ ?_
    clear hK K
    refine pi_t 19 rfl (by kernel_rfl) (by kernel_rfl) (fun _ _ _ _ h => h) (fun K hK => ?_)
    go_big_quiet_op
    refine hK _ ?_
    clear hK K
    refine pi_c 21 (by assumption) rfl (by kernel_rfl) (by kernel_rfl) (fun _ _ _ _ h => h) (fun K hK => ?_)
    go_big_quiet_op
    refine hK _ ?_
    clear hK K
    refine pi_l 20 rfl (by kernel_rfl) (fun K hK => ?_)
    go_wp2_with fail
    refine Calls.mono (LConfig_c C V M _ _ (HM7.out.ext hE11)) ?_
    rintro e w12 ⟨rfl, hx12⟩
    have hE12 := hE11.trans' hx12
    go_wp2
    refine hK _ _ (fun _ h => af_step h hx12) ?_
    clear hK K
    refine pi_t 22 rfl (by kernel_rfl) (by kernel_rfl) (fun _ _ _ _ h => h) (fun K hK => ?_)
    go_big_quiet_op
    refine hK _ ?_
    clear hK K
    refine pi_t 23 rfl (by kernel_rfl) (by kernel_rfl) (fun _ _ _ _ h => h) (fun K hK => ?_)
    go_big_quiet_op
    refine hK _ ?_
    clear hK K
    refine pi_t 24 rfl (by kernel_rfl) (by kernel_rfl) (fun _ _ _ _ h => h) (fun K hK => ?_)
    go_big_quiet_op
    refine hK _ ?_
    clear hK K
    refine pi_t 25 rfl (by kernel_rfl) (by kernel_rfl) (fun _ _ _ _ h => h) (fun K hK => ?_)
    go_big_quiet_op
    refine hK _ ?_
    clear hK K
    refine pi_t 27 rfl (by kernel_rfl) (by kernel_rfl) (fun _ _ _ _ h => h) (fun K hK => ?_)
    go_big_quiet_op
    refine hK _ ?_
    clear hK K
    refine pi_l 26 rfl (by kernel_rfl) (fun K hK => ?_)
    go_wp2_with fail
    refine Calls.mono (LLevel_c C V M _ _ (HM7.out.ext hE12)) ?_
    rintro e w13 ⟨rfl, rfl⟩
    go_wp2
    refine hK _ _ (fun _ h => h) ?_
    clear hK K
    refine pi_t 28 rfl (by kernel_rfl) (by kernel_rfl) (fun _ _ _ _ h => h) (fun K hK => ?_)
    go_big_quiet_op
    refine hK _ ?_
    clear hK K
    refine pi_t 29 rfl (by kernel_rfl) (by kernel_rfl) (fun _ _ _ _ h => h) (fun K hK => ?_)
    go_big_quiet_op
    refine hK _ ?_
    clear hK K
    refine pi_t 30 rfl (by kernel_rfl) (by kernel_rfl) (fun _ _ _ _ h => h) (fun K hK => ?_)
    go_big_quiet_op
    refine hK _ ?_
    clear hK K
    refine pi_l 31 rfl (by kernel_rfl) (fun K hK => ?_)
    go_wp2_with fail
    refine Calls.mono (LCopy_nil _) ?_
    rintro e w14 ⟨rfl, rfl⟩
    go_wp2
    refine hK _ _ (fun _ h => h) ?_
    clear hK K
    refine pi_t 32 rfl (by kernel_rfl) (by kernel_rfl) (fun _ _ _ _ h => h) (fun K hK => ?_)
    go_big_quiet_op
    refine hK _ ?_
    clear hK K
    refine pi_t 33 rfl (by kernel_rfl) (by kernel_rfl) (fun _ _ _ _ h => h) (fun K hK => ?_)
    go_big_quiet_op
    refine hK _ ?_
    clear hK K
    refine pi_t 34 rfl (by kernel_rfl) (by kernel_rfl) (fun _ _ _ _ h => h) (fun K hK => ?_)
    go_big_quiet_op
    refine hK _ ?_
    clear hK K
    refine pi_end (by kernel_rfl) ?_
    go_wp2
    go_ret
    exact ⟨rfl, hEw7.trans' hE12⟩
  · have f1 : decide (D < -D) = false := by simp; omega
    have f2 : decide (-D < D) = true := by simp; omega
    have f3 : (D < -D) = False := by simp; omega
    have f4 : (-D < D) = True := by simp; omega
    obtain ⟨Z, hZ⟩ : ∃ Z, 1 + D = Z := ⟨_, rfl⟩
    have hz1 : 0 < Z ∧ Z ≤ 1099511627777 := by omega
    have HZ := Lib.hid hZ
    clear hZ
    go_wp2_with fail
    rw [HZ.out]
    clear f1 f2 f3 f4 HZ
    have HZ1 := Lib.hid hz1
    clear hz1
    refine Calls.mono (LUpdate_c C V M _ K Z _ ((HM4.out.ext hx5).ext (hE56.trans' (Ext.alloc' _ _))) (by have := HZ1.out; unfold I64; omega) (by unfold U64; omega)) ?_
    rintro e w7 ⟨rfl, hr7⟩
    have hz : lvE C V (feedV C V fs (zs (lvN C V))) K Z = 0 := lvE_ok (feedV_bnd C V fs (lvN C V)) (by omega) (show (0 : Int) ≤ 1099511627777 by decide) (by have := HZ1.out; omega) (by omega) hkb.2 (fun _ => by have := HZ1.out; omega)
    rw [hz] at hr7 ⊢
    obtain ⟨_, hM7, hm7⟩ := hr7.resolve_right (fun h => h.1 rfl)
    have hlen : (feedV C V fs (zs (lvN C V))).length = lvN C V := by rw [feedV_len, zs_len]
    have hdiff := lvU_ne hok lb1 hlen hkb.1 hkb.2 HZ1.out.1
    have hln2 := lvU_len C V (feedV C V fs (zs (lvN C V))) K Z
    have hl1024 := lvN_le1 hok V
    have HLN := Lib.hid hlen
    have HLN2 := Lib.hid (hln2.trans hlen)
    clear hlen hln2
    generalize lvU C V (feedV C V fs (zs (lvN C V))) K Z = l2 at *
    generalize feedV C V fs (zs (lvN C V)) = l1 at *
    obtain ⟨w6b, hw6b⟩ : ∃ w6b, w6.alloc (.cells #[.int .u64 K, .int .i64 D] 38) = w6b := ⟨_, rfl⟩
    have hx6b : Ext w6 w6b := by rw [← hw6b]; exact Ext.alloc' _ _
    rw [hw6b] at hm7
    have hE5b := hE56.trans' hx6b
    have hEw6 := HE4.out.trans' (hx5.trans' hE5b)
    have hEw7 : Ext w w7 := Below.trans hEw6 (hm7.below (B := w.heap.size) hEw6.size (fun k hk => by rw [hk]; omega))
    have HL7 := Lib.hid (((HL4.out.ext hx5).ext hE5b).mod hm7 (fun k hk _ => by obtain ⟨cur, hc⟩ := ((HM4.out.ext hx5).ext hE5b).isc; exact ⟨cur, by rw [hk]; exact hc⟩) (by show ¬ L.c = M.c; omega))
    have HM7 := Lib.hid hM7
    have hIv7 := (hIv.out.ext hE5b).mod hm7 (fun g off n cap hv => hne g off _ cap hv)
    have HI7 := Lib.hid hIv7
    have hC7 := (hC5.ext hE5b).mod hm7 (by omega)
    have c0 := hC7.c0
    have c1 := hC7.c1
    have c2 := hC7.c2
    have c3 := hC7.c3
    have c4 := hC7.c4
    have cl := hC7.lt
    clear hz hr7 hM7 hm7 hIv7 hC7 hEw6 hE5b hx6b hw6b hE56 hx5 hC5 hne hIv HL4 HM4 HC4 HU4 HE4 mU eU
    go_upto_region 11 with (fail)
    have mM := lvm_Cells C V (some ⟨M.s, 0, none⟩)
    have mG := lvm_Config C V (some ⟨M.s, 0, none⟩)
    have eG := lve_Config C V
    have mV := lvm_Level C V (some ⟨M.s, 0, none⟩)
    have eV := lve_Level C V
    have hC0 := af_drew w7
    have hE0 : Ext w7 w7.drew := Below.drew (Ext.refl w7)
    refine pi_start (fun w' => ∃ x : After w7, w' = x.w) [] (by kernel_rfl) ?_
    refine pi_t 0 rfl (by kernel_rfl) (by kernel_rfl) (fun _ _ _ _ h => h) (fun K hK => ?_)
    go_big_quiet_op
    refine hK _ ?_
    clear hK K
    refine pi_t 1 rfl (by kernel_rfl) (by kernel_rfl) (fun _ _ _ _ h => h) (fun K hK => ?_)
    go_big_quiet_op
    refine hK _ ?_
    clear hK K
    refine pi_t 2 rfl (by kernel_rfl) (by kernel_rfl) (fun _ _ _ _ h => h) (fun K hK => ?_)
    go_big_quiet_op
    refine hK _ ?_
    clear hK K
    refine pi_t 3 rfl (by kernel_rfl) (by kernel_rfl) (fun _ _ _ _ h => h) (fun K hK => ?_)
    go_big_quiet_op
    refine hK _ ?_
    clear hK K
    refine pi_t 4 rfl (by kernel_rfl) (by kernel_rfl) (fun _ _ _ _ h => h) (fun K hK => ?_)
    go_big_quiet_op
    refine hK _ ?_
    clear hK K
    refine pi_t 5 rfl (by kernel_rfl) (by kernel_rfl) (fun _ _ _ _ h => h) (fun K hK => ?_)
    go_big_quiet_op
    refine hK _ ?_
    clear hK K
    refine pi_t 6 rfl (by kernel_rfl) (by kernel_rfl) (fun _ _ _ _ h => h) (fun K hK => ?_)
    go_big_quiet_op
    refine hK _ ?_
    clear hK K
    refine pi_t 8 rfl (by kernel_rfl) (by kernel_rfl) (fun _ _ _ _ h => h) (fun K hK => ?_)
    go_big_quiet_op
    refine hK _ ?_
    clear hK K
    refine pi_l 7 rfl (by kernel_rfl) (fun K hK => ?_)
    go_wp2_with fail
    refine Calls.mono (LCells_c C V L _ _ (HL7.out.ext hE0)) ?_
    rintro e w8 ⟨v2, rfl, ho2, _, hx8⟩
    obtain ⟨pv2, cv2, rfl⟩ := own_sl ho2
    have hI2 := IntsAt.of_row ho2
    have hE8 := hE0.trans' hx8
    go_wp2
    refine hK _ _ (fun _ h => af_step h hx8) ?_
    clear hK K ho2
    refine pi_l 9 rfl (by kernel_rfl) (fun K hK => ?_)
    go_wp2_with fail
    refine Calls.mono (Same_c _ _ l1 l1 _ hI2 (HI7.out.ext hE8) (by rw [HLN.out]; omega) (by rw [HLN.out]; omega)) ?_
    rintro e w9 ⟨rfl, hx9⟩
    rw [decide_eq_true (rfl : l1 = l1)]
    have hE9 := hE8.trans' hx9
    go_wp2
    refine hK _ _ (fun _ h => af_step h hx9) ?_
    clear hK K hI2
    refine pi_t 10 rfl (by kernel_rfl) (by kernel_rfl) (fun _ _ _ _ h => h) (fun K hK => ?_)
    go_big_quiet_op
    refine hK _ ?_
    clear hK K
    refine pi_t 11 rfl (by kernel_rfl) (by kernel_rfl) (fun _ _ _ _ h => h) (fun K hK => ?_)
    go_big_quiet_op
    refine hK _ ?_
    clear hK K
    refine pi_t 12 rfl (by kernel_rfl) (by kernel_rfl) (fun _ _ _ _ h => h) (fun K hK => ?_)
    go_big_quiet_op
    refine hK _ ?_
    clear hK K
    refine pi_t 14 rfl (by kernel_rfl) (by kernel_rfl) (fun _ _ _ _ h => h) (fun K hK => ?_)
    go_big_quiet_op
    refine hK _ ?_
    clear hK K
    refine pi_l 13 rfl (by kernel_rfl) (fun K hK => ?_)
    go_wp2_with fail
    refine Calls.mono (LCells_c C V M _ _ (HM7.out.ext hE9)) ?_
    rintro e w10 ⟨v3, rfl, ho3, _, hx10⟩
    obtain ⟨pv3, cv3, rfl⟩ := own_sl ho3
    have hI3 := IntsAt.of_row ho3
    have hE10 := hE9.trans' hx10
    go_wp2
    refine hK _ _ (fun _ h => af_step h hx10) ?_
    clear hK K ho3
    refine pi_l 15 rfl (by kernel_rfl) (fun K hK => ?_)
    go_wp2_with fail
    refine Calls.mono (Same_c _ _ l2 l1 _ hI3 (HI7.out.ext hE10) (by rw [HLN2.out]; omega) (by rw [HLN.out]; omega)) ?_
    rintro e w11 ⟨rfl, hx11⟩
    rw [decide_eq_false hdiff]
    have hE11 := hE10.trans' hx11
    go_wp2
    refine hK _ _ (fun _ h => af_step h hx11) ?_
    clear hK K hI3
    have hC11 : ∃ x : After w7, w11 = x.w := ⟨⟨_, hE11⟩, rfl⟩
    refine pi_t 16 rfl (by kernel_rfl) (by kernel_rfl) (fun _ _ _ _ h => h) (fun K hK => ?_)
    go_big_quiet_op
    refine hK _ ?_
    clear hK K
    refine pi_t 17 rfl (by kernel_rfl) (by kernel_rfl) (fun _ _ _ _ h => h) (fun K hK => ?_)
    go_big_quiet_op
    refine hK _ ?_
    clear hK K
    refine pi_t 18 rfl (by kernel_rfl) (by kernel_rfl) (fun _ _ _ _ h => h) (fun K hK => ?_)
    go_big_quiet_op
    refine hK _ ?_
    clear hK K
    refine pi_t 19 rfl (by kernel_rfl) (by kernel_rfl) (fun _ _ _ _ h => h) (fun K hK => ?_)
    go_big_quiet_op
    refine hK _ ?_
    clear hK K
    refine pi_c 21 (by assumption) rfl (by kernel_rfl) (by kernel_rfl) (fun _ _ _ _ h => h) (fun K hK => ?_)
    go_big_quiet_op
    refine hK _ ?_
    clear hK K
    refine pi_l 20 rfl (by kernel_rfl) (fun K hK => ?_)
    go_wp2_with fail
    refine Calls.mono (LConfig_c C V M _ _ (HM7.out.ext hE11)) ?_
    rintro e w12 ⟨rfl, hx12⟩
    have hE12 := hE11.trans' hx12
    go_wp2
    refine hK _ _ (fun _ h => af_step h hx12) ?_
    clear hK K
    refine pi_t 22 rfl (by kernel_rfl) (by kernel_rfl) (fun _ _ _ _ h => h) (fun K hK => ?_)
    go_big_quiet_op
    refine hK _ ?_
    clear hK K
    refine pi_t 23 rfl (by kernel_rfl) (by kernel_rfl) (fun _ _ _ _ h => h) (fun K hK => ?_)
    go_big_quiet_op
    refine hK _ ?_
    clear hK K
    refine pi_t 24 rfl (by kernel_rfl) (by kernel_rfl) (fun _ _ _ _ h => h) (fun K hK => ?_)
    go_big_quiet_op
    refine hK _ ?_
    clear hK K
    refine pi_t 25 rfl (by kernel_rfl) (by kernel_rfl) (fun _ _ _ _ h => h) (fun K hK => ?_)
    go_big_quiet_op
    refine hK _ ?_
    clear hK K
    refine pi_t 27 rfl (by kernel_rfl) (by kernel_rfl) (fun _ _ _ _ h => h) (fun K hK => ?_)
    go_big_quiet_op
    refine hK _ ?_
    clear hK K
    refine pi_l 26 rfl (by kernel_rfl) (fun K hK => ?_)
    go_wp2_with fail
    refine Calls.mono (LLevel_c C V M _ _ (HM7.out.ext hE12)) ?_
    rintro e w13 ⟨rfl, rfl⟩
    go_wp2
    refine hK _ _ (fun _ h => h) ?_
    clear hK K
    refine pi_t 28 rfl (by kernel_rfl) (by kernel_rfl) (fun _ _ _ _ h => h) (fun K hK => ?_)
    go_big_quiet_op
    refine hK _ ?_
    clear hK K
    refine pi_t 29 rfl (by kernel_rfl) (by kernel_rfl) (fun _ _ _ _ h => h) (fun K hK => ?_)
    go_big_quiet_op
    refine hK _ ?_
    clear hK K
    refine pi_t 30 rfl (by kernel_rfl) (by kernel_rfl) (fun _ _ _ _ h => h) (fun K hK => ?_)
    go_big_quiet_op
    refine hK _ ?_
    clear hK K
    refine pi_l 31 rfl (by kernel_rfl) (fun K hK => ?_)
    go_wp2_with fail
    refine Calls.mono (LCopy_nil _) ?_
    rintro e w14 ⟨rfl, rfl⟩
    go_wp2
    refine hK _ _ (fun _ h => h) ?_
    clear hK K
    refine pi_t 32 rfl (by kernel_rfl) (by kernel_rfl) (fun _ _ _ _ h => h) (fun K hK => ?_)
    go_big_quiet_op
    refine hK _ ?_
    clear hK K
    refine pi_t 33 rfl (by kernel_rfl) (by kernel_rfl) (fun _ _ _ _ h => h) (fun K hK => ?_)
    go_big_quiet_op
    refine hK _ ?_
    clear hK K
    refine pi_t 34 rfl (by kernel_rfl) (by kernel_rfl) (fun _ _ _ _ h => h) (fun K hK => ?_)
    go_big_quiet_op
    refine hK _ ?_
    clear hK K
    refine pi_end (by kernel_rfl) ?_
    go_wp2
    go_ret
    exact ⟨rfl, hEw7.trans' hE12⟩
end Go.Proofs.Ytpnbgoahjoabkaa

/- LevelApart: a copy is a level of its own: what is done to the one leaves the other. No condition: every input. -/
namespace Go.Proofs.Ytpnbgoahjoabkaa
set_option linter.unusedVariables false
open Go.ChangeShapes Go.WideShapes Go.ChangeAt Go.RowKit

set_option maxRecDepth 100000 in
theorem levelApart_lifted (os : Os) (started : os.Started) (H : Type) (enc : TypeId × Value → H) :
    ReturnsInHanded {} Try.checked os 18 .any (Rows.levelApartSpec.pre6 enc Try.prog Try.f18 Rows.levelApartRow.domain false) (Rows.levelApartSpec.post enc Try.prog Try.f18 false true false false) := by
  refine returnsInHanded_of_change_sized (C := Try.checked) own started (by kernel_rfl) Try.func18
    (ChangeSpec.witness6 (enc := enc) (C := Try.checked) false ⟨#[], #[.agg #[.int .i64 0, .int .i64 0, .int .i64 0, .int .i64 0, .int .u64 0, .int .i64 0, .slice none 0 0], .agg #[.int .u64 0, .int .i64 0]], []⟩ 8 (by kernel_rfl) (by kernel_rfl) (by kernel_rfl) (by kernel_rfl)) ?_
  intro W base args ds gs before hval0 hW hcnd hsz0 _
  have hval : ∀ (j : Nat) t v, Try.f18.params[j]? = some t → args[j]? = some v → Value.okWide Try.prog W .any base t v := hval0
  have hW' := hW
  obtain ⟨p, q, hA0, hV, rfl, hfz, hnd⟩ := hW
  have hA : DataW.TrodAll enc Try.prog W 0 (fun _ => true) true Try.f18.params.toList args.toList ds p := hA0
  have hsz : (DataW.weightsEach Try.prog (Try.f18.params.toList ++ Rows.levelApartSpec.plain.varTypes Try.prog) (ds ++ gs)).all (· ≤ reachBytes) = true := hsz0
  rw [Try.params18] at hA hval hsz
  obtain ⟨v0, vs0, d0, ds0, p0, q0, hargs, rfl, rfl, h0, r0⟩ := trodAll_cons hA
  obtain ⟨v1, vs1, d1, ds1, p1, q1, rfl, rfl, rfl, h1, r1⟩ := trodAll_cons r0
  obtain ⟨rfl, rfl, rfl⟩ := trodAll_nil r1
  obtain rfl : args = #[v0, v1] := by cases args; simp_all
  obtain ⟨rfl, rfl⟩ := trodVars_none hV
  have k0 := h0
  have k1 := h1
  have lt0 : ∀ x ∈ p0, x.block < W.heap.size := by obtain ⟨m, hm⟩ := k0; exact DataW.trod_lt m _ _ _ hm
  have lt1 : ∀ x ∈ p1, x.block < W.heap.size := by obtain ⟨m, hm⟩ := k1; exact DataW.trod_lt m _ _ _ hm
  obtain ⟨x0, lv0, us0, u0, hx0, hlv0, hus0, hat0, rfl, hr0⟩ := play13_of (hval 0 _ v0 rfl rfl) h0
  have hul0 := hr0 _ _ 0 hsz rfl rfl
  obtain ⟨n1, m1, hn1, hm1, rfl⟩ := updarg_of (hval 1 _ v1 rfl rfl) h1
  clear hA0 hval0
  refine (LApartL_c x0 hx0 n1 m1 hn1 hm1 lv0 hlv0 us0 hus0 u0 W hat0 hul0).mono fun e W' ⟨he, bel⟩ => ?_
  subst he
  exact ⟨_, rfl, _, _, _, [], _, [], hW', trodAll_mk1 (shut_bool Try.underlying4 _), (trodAll_cons_mk (Below.trod laidOut (by kernel_rfl) (of_decide_eq_true (by kernel_rfl)) k0 bel lt0) (trodAll_cons_mk (Below.trod laidOut (by kernel_rfl) (of_decide_eq_true (by kernel_rfl)) k1 bel lt1) trodAll_mk0)), rfl, bel.frame _, fun h => by cases h⟩
end Go.Proofs.Ytpnbgoahjoabkaa
