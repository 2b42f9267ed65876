/- WindowMakes: there is a window just of a right config, Linear, and from one to sixteen buckets. No condition: every input. -/
import Derived.Test.YteoblkcbemeamaaGreatL9
import Derived.Test.YteoblkcbemeamaaGreatL10

/- gaugerlaw24.WindowMakes, walked. -/
namespace Go.Proofs.YteoblkcbemeamaaGreat
set_option linter.unusedVariables false
open Go.RowKit
set_option maxRecDepth 20000 in
theorem WNew_raw (x : Cfg) (h : okB x = false) (n : Int) (w : World) :
    Calls Tryz.prog 59 #[.agg #[.int .i64 x.bits, .int .i64 x.rows, .int .i64 x.width, .int .i64 x.mode, .int .u64 x.seed], .int .i64 n] w fun e w' => e = .returned (.tuple #[.pointer none, .int .i64 1]) ∧ Ext w w' := by
  have HO := Lib.hid h
  clear h
  go_enter Tryz.func59, Tryz.ntmps59
  go_wp2_with fail
  refine Calls.mono (Right_no x HO.out _) ?_
  rintro e w1 ⟨rfl, hb1⟩
  have hE1 : Ext w w1 := by (repeat' (first | exact Ext.refl _ | assumption | apply Ext.allocR | apply Ext.drewR | apply Ext.drewNR | (refine Ext.trans' ?_ (by assumption))))
  clear hb1
  go_wp2
  go_ret2
  exact ⟨rfl, hE1⟩
set_option maxRecDepth 20000 in
set_option maxHeartbeats 4000000 in
theorem WMakes_bad (x : Cfg) (hO : okB x = false) (n : Int) (w : World) :
    Calls Tryz.prog 8 #[.agg #[.int .i64 x.bits, .int .i64 x.rows, .int .i64 x.width, .int .i64 x.mode, .int .u64 x.seed], .int .i64 n] w fun e w' => e = .returned (.bool true) ∧ Ext w w' := by
  have HO := Lib.hid hO
  clear hO
  go_enter Tryz.func8, Tryz.ntmps8
  go_wp2_with fail
  refine (shown24_c _).mono ?_
  rintro e w1 ⟨rfl, hx1⟩
  have hE1 : Ext w w1 := by (repeat' (first | exact Ext.refl _ | assumption | apply Ext.allocR | apply Ext.drewR | apply Ext.drewNR | (refine Ext.trans' ?_ (by assumption))))
  have hC := (CfgAt.box (w := w) x 24 rfl).ext hx1
  have c0 := hC.c0
  have c1 := hC.c1
  have c2 := hC.c2
  have c3 := hC.c3
  have c4 := hC.c4
  have cl := hC.lt
  clear hC hx1
  go_wp2_with fail
  refine (RightR_raw x _).mono ?_
  rintro e w2 ⟨rfl, hx2⟩
  rw [HO.out]
  have hE2 : Ext w w2 := by (repeat' (first | exact Ext.refl _ | assumption | apply Ext.allocR | apply Ext.drewR | apply Ext.drewNR | (refine Ext.trans' ?_ (by assumption))))
  have d := (bcell hx2).1
  have d0 := (d _ _ cl).trans c0
  have d1 := (d _ _ cl).trans c1
  have d2 := (d _ _ cl).trans c2
  have d3 := (d _ _ cl).trans c3
  have d4 := (d _ _ cl).trans c4
  have dl : w.heap.size < w2.heap.size := Nat.lt_of_lt_of_le cl hx2.size
  clear d c0 c1 c2 c3 c4 cl hx2 hE1
  go_wp2_with fail
  refine (WNew_raw x HO.out n _).mono ?_
  rintro e w3 ⟨rfl, hx3⟩
  have hE3 : Ext w w3 := by (repeat' (first | exact Ext.refl _ | assumption | apply Ext.allocR | apply Ext.drewR | apply Ext.drewNR | (refine Ext.trans' ?_ (by assumption))))
  have d := (bcell hx3).1
  have e0 := (d _ _ dl).trans d0
  have e1 := (d _ _ dl).trans d1
  have e2 := (d _ _ dl).trans d2
  have e3 := (d _ _ dl).trans d3
  have e4 := (d _ _ dl).trans d4
  have el : w.heap.size < w3.heap.size := Nat.lt_of_lt_of_le dl hx3.size
  clear d d0 d1 d2 d3 d4 dl hx3 hE2
  go_wp2_with fail
  refine (RightR_raw x _).mono ?_
  rintro e w4 ⟨rfl, hx4⟩
  rw [HO.out]
  go_wp2
  go_ret
  exact ⟨rfl, by (repeat' (first | exact Ext.refl _ | assumption | apply Ext.allocR | apply Ext.drewR | apply Ext.drewNR | (refine Ext.trans' ?_ (by assumption))))⟩
set_option maxRecDepth 20000 in
set_option maxHeartbeats 8000000 in
theorem WMakes_ok (x : Cfg) (hx : x.Raw) (hO : okB x = true) (n : Int) (hn : I64 n) (w : World) :
    Calls Tryz.prog 8 #[.agg #[.int .i64 x.bits, .int .i64 x.rows, .int .i64 x.width, .int .i64 x.mode, .int .u64 x.seed], .int .i64 n] w fun e w' => e = .returned (.bool true) ∧ Ext w w' := by
  have hok := okB_ok hO hx.s
  have hok' := cut20_ok hok
  have hbb := cut20_b x
  have hb1 := hok.b1
  have hb2 := hok.b2
  have hO' := okB_true hok'
  have HO' := Lib.hid hO'
  have HO := Lib.hid hO
  clear hO hO'
  go_enter Tryz.func8, Tryz.ntmps8
  go_wp2_with fail
  refine (shown24_c _).mono ?_
  rintro e w1 ⟨rfl, hx1⟩
  have hE1 : Ext w w1 := by (repeat' (first | exact Ext.refl _ | assumption | apply Ext.allocR | apply Ext.drewR | apply Ext.drewNR | (refine Ext.trans' ?_ (by assumption))))
  have hcb := hx1.keep (heap_at w (.cells #[.int .i64 x.bits, .int .i64 x.rows, .int .i64 x.width, .int .i64 x.mode, .int .u64 x.seed] 24) rfl)
  have hC := CfgAt.of hcb
  have c0 := hC.c0
  have c1 := hC.c1
  have c2 := hC.c2
  have c3 := hC.c3
  have c4 := hC.c4
  have cl := hC.lt
  clear hC hx1
  go_wp2_with fail
  refine (RightR_raw x _).mono ?_
  rintro e w2 ⟨rfl, hx2⟩
  rw [HO.out]
  have hE2 : Ext w w2 := by (repeat' (first | exact Ext.refl _ | assumption | apply Ext.allocR | apply Ext.drewR | apply Ext.drewNR | (refine Ext.trans' ?_ (by assumption))))
  have hcb2 := hx2.keep hcb
  have hC := CfgAt.of hcb2
  have hfz := frozen_of hcb2 0
  have d0 := hC.c0
  have dl := hC.lt
  clear c0 c1 c2 c3 c4 cl hx2 hE1 hcb hC
  go_upto_region 4 with (fail)
  obtain ⟨w3, hw3⟩ : ∃ w3, w2.setCell ⟨w.heap.size, 0, none⟩ (.int .i64 (1 + (x.bits - 1) % 20)) = w3 := ⟨_, rfl⟩
  have hE3 : Ext w w3 := by rw [← hw3]; exact hE2.setR (p := ⟨w.heap.size, 0, none⟩) (Nat.le_refl _) _
  have hcb3 : w3.heap[w.heap.size]? = some (.cells #[.int .i64 (cut20 x).bits, .int .i64 (cut20 x).rows, .int .i64 (cut20 x).width, .int .i64 (cut20 x).mode, .int .u64 (cut20 x).seed] 24 (0, 0)) := by rw [← hw3]; exact (setCell_same hcb2 0 _).trans rfl
  rw [hw3]
  have hsz3 := hE3.size
  clear hw3 hcb2 hE2 d0 dl hfz
  have hC := CfgAt.of (C := cut20 x) hcb3
  have c0 := hC.c0
  have c1 := hC.c1
  have c2 := hC.c2
  have c3 := hC.c3
  have c4 := hC.c4
  have cl := hC.lt
  obtain ⟨B, hB⟩ : ∃ B : Nat, (cut20 x).bits = B := ⟨(cut20 x).bits.toNat, by have := hok'.b1; omega⟩
  generalize cut20 x = C at *
  have HBB := Lib.hid hB
  have HCB3 := Lib.hid hcb3
  clear hB hbb hC hcb3 hb1 hb2 hok HO
  by_cases hr : n < 1 ∨ 16 < n
  · have hnw := fun W => WNew_arg C hok' n hr W
    have HNW := Lib.hid hnw
    clear hnw
    go_wp2_with fail
    refine (HNW.out _).mono ?_
    rintro e w4 ⟨rfl, hx4⟩
    have hE4 : Ext w w4 := by (repeat' (first | exact Ext.refl _ | assumption | apply Ext.allocR | apply Ext.drewR | apply Ext.drewNR | (refine Ext.trans' ?_ (by assumption))))
    have hC4 := (CfgAt.of HCB3.out).ext hx4
    have d0 := hC4.c0
    have d1 := hC4.c1
    have d2 := hC4.c2
    have d3 := hC4.c3
    have d4 := hC4.c4
    have dl := hC4.lt
    clear c0 c1 c2 c3 c4 cl hC4
    by_cases hn1 : n < 1
    · have hn1' : decide (n < 1) = true := decide_eq_true hn1
      clear hr
      go_wp2_with fail
      refine (RightR_raw C _).mono ?_
      rintro e w5 ⟨rfl, hx5⟩
      rw [HO'.out]
      go_wp2
      go_ret
      exact ⟨rfl, by (repeat' (first | exact Ext.refl _ | assumption | apply Ext.allocR | apply Ext.drewR | apply Ext.drewNR | (refine Ext.trans' ?_ (by assumption))))⟩
    · have hn1' : decide (n < 1) = false := decide_eq_false hn1
      have hn2 : 16 < n := by omega
      have hn2' : decide (16 < n) = true := decide_eq_true hn2
      have hn3 : 1 ≤ n := by omega
      clear hr hn1
      go_wp2_with fail
      refine (RightR_raw C _).mono ?_
      rintro e w5 ⟨rfl, hx5⟩
      rw [HO'.out]
      go_wp2
      go_ret
      exact ⟨rfl, by (repeat' (first | exact Ext.refl _ | assumption | apply Ext.allocR | apply Ext.drewR | apply Ext.drewNR | (refine Ext.trans' ?_ (by assumption))))⟩
  · obtain ⟨m, rfl⟩ : ∃ m : Nat, n = m := ⟨n.toNat, by omega⟩
    have h1 : 1 ≤ m := by omega
    have h2 : m ≤ 16 := by omega
    have hn1' : decide ((m : Int) < 1) = false := decide_eq_false (by omega)
    have hn2' : decide (16 < (m : Int)) = false := decide_eq_false (by omega)
    have hn3 : 1 ≤ (m : Int) := by omega
    have hn4 : (m : Int) ≤ 16 := by omega
    clear hr
    by_cases hm : C.mode = 1
    · have hnw := fun W => WS_new C hok' hm B HBB.out m h1 h2 W
      have HNW := Lib.hid hnw
      have HM := Lib.hid hm
      have hmb : (C.mode != 1) = false := by simp [hm]
      clear hnw hm
      go_wp2_with fail
      refine (HNW.out _).mono ?_
      rintro e w4 ⟨p, rfl, hS, hx4⟩
      have hE4 : Ext w w4 := by (repeat' (first | exact Ext.refl _ | assumption | apply Ext.allocR | apply Ext.drewR | apply Ext.drewNR | (refine Ext.trans' ?_ (by assumption))))
      have HCB4 := Lib.hid (hx4.keep HCB3.out)
      have hC4 := CfgAt.of HCB4.out
      have HS := Lib.hid hS
      have d0 := hC4.c0
      have d1 := hC4.c1
      have d2 := hC4.c2
      have d3 := hC4.c3
      have d4 := hC4.c4
      have dl := hC4.lt
      clear c0 c1 c2 c3 c4 cl hC4 hS hx4 HCB3 HNW
      go_wp2_with fail
      refine (RightR_raw C _).mono ?_
      rintro e w5 ⟨rfl, hx5⟩
      rw [HO'.out]
      have hE5 : Ext w w5 := by (repeat' (first | exact Ext.refl _ | assumption | apply Ext.allocR | apply Ext.drewR | apply Ext.drewNR | (refine Ext.trans' ?_ (by assumption))))
      have HCB5 := Lib.hid (hx5.keep HCB4.out)
      have hC5 := CfgAt.of HCB5.out
      have HS5 := Lib.hid (HS.out.ext hx5)
      have c3 := hC5.c3
      have cl := hC5.lt
      rw [HM.out] at c3
      clear d0 d1 d2 d3 d4 dl hC5 hx5 HCB4 HS hE4
      go_wp2_with fail
      refine Calls.mono (WS_sum HS5.out) ?_
      rintro e w6 ⟨s, g, L, rfl, hK, _, _, _, hx6⟩
      have hE6 : Ext w w6 := by (repeat' (first | exact Ext.refl _ | assumption | apply Ext.allocR | apply Ext.drewR | apply Ext.drewNR | (refine Ext.trans' ?_ (by assumption))))
      have HK := Lib.hid hK
      have HS6 := Lib.hid (HS5.out.ext hx6)
      have hC6 := CfgAt.of (hx6.keep HCB5.out)
      have c0 := hC6.c0
      have c1 := hC6.c1
      have c2 := hC6.c2
      have c3 := hC6.c3
      have c4 := hC6.c4
      have cl := hC6.lt
      have hzero : (feedK C (List.replicate m ([] : List (Int × Int))).flatten B).getD 0 0 = 0 := by
        have : (List.replicate m ([] : List (Int × Int))).flatten = [] := by simp
        rw [this, feedK_nil]
        exact zs_get0 _ _
      have HZ := Lib.hid hzero
      clear hC6 hK hx6 HCB5 HS5 hE5 hzero
      go_wp2_with fail
      have hC0 := af_drew w6
      refine pi_start (fun w' => ∃ x : After w6, w' = x.w) [] (by kernel_rfl) ?_
      refine pi_t 0 rfl (by kernel_rfl) (by kernel_rfl) (fun _ _ _ _ h => h) (fun K hK => ?_)
      go_big_quiet_op
      refine hK _ ?_
      clear hK K
      refine pi_t 1 rfl (by kernel_rfl) (by kernel_rfl) (fun _ _ _ _ h => h) (fun K hK => ?_)
      go_big_quiet_op
      refine hK _ ?_
      clear hK K
      refine pi_t 2 rfl (by kernel_rfl) (by kernel_rfl) (fun _ _ _ _ h => h) (fun K hK => ?_)
      go_big_quiet_op
      refine hK _ ?_
      clear hK K
      refine pi_t 3 rfl (by kernel_rfl) (by kernel_rfl) (fun _ _ _ _ h => h) (fun K hK => ?_)
      go_big_quiet_op
      refine hK _ ?_
      clear hK K
      refine pi_t 4 rfl (by kernel_rfl) (by kernel_rfl) (fun _ _ _ _ h => h) (fun K hK => ?_)
      go_big_quiet_op
      refine hK _ ?_
      clear hK K
      refine pi_t 5 rfl (by kernel_rfl) (by kernel_rfl) (fun _ _ _ _ h => h) (fun K hK => ?_)
      go_big_quiet_op
      refine hK _ ?_
      clear hK K
      refine pi_t 6 rfl (by kernel_rfl) (by kernel_rfl) (fun _ _ _ _ h => h) (fun K hK => ?_)
      go_big_quiet_op
      refine hK _ ?_
      clear hK K
      refine pi_t 8 rfl (by kernel_rfl) (by kernel_rfl) (fun _ _ _ _ h => h) (fun K hK => ?_)
      go_big_quiet_op
      refine hK _ ?_
      clear hK K
      refine pi_l 7 rfl (by kernel_rfl) (fun K hK => ?_)
      go_wp2_with fail
      refine Calls.mono (WS_buckets (HS6.out.ext (Below.drew (Ext.refl w6)))) ?_
      rintro e w7 ⟨rfl, rfl⟩
      go_wp2
      refine hK _ _ (fun _ h => h) ?_
      clear hK K
      refine pi_t 9 rfl (by kernel_rfl) (by kernel_rfl) (fun _ _ _ _ h => h) (fun K hK => ?_)
      go_big_quiet_op
      refine hK _ ?_
      clear hK K
      refine pi_t 10 rfl (by kernel_rfl) (by kernel_rfl) (fun _ _ _ _ h => h) (fun K hK => ?_)
      go_big_quiet_op
      refine hK _ ?_
      clear hK K
      refine pi_t 11 rfl (by kernel_rfl) (by kernel_rfl) (fun _ _ _ _ h => h) (fun K hK => ?_)
      go_big_quiet_op
      refine hK _ ?_
      clear hK K
      refine pi_t 12 rfl (by kernel_rfl) (by kernel_rfl) (fun _ _ _ _ h => h) (fun K hK => ?_)
      go_big_quiet_op
      refine hK _ ?_
      clear hK K
      refine pi_c 14 (by assumption) rfl (by kernel_rfl) (by kernel_rfl) (fun _ _ _ _ h => h) (fun K hK => ?_)
      go_big_quiet_op
      refine hK _ ?_
      clear hK K
      refine pi_l 13 rfl (by kernel_rfl) (fun K hK => ?_)
      go_wp2_with fail
      refine Calls.mono (SKConfig_c s g C B L _ _ (HK.out.ext (Below.drew (Ext.refl w6)))) ?_
      rintro e w7 ⟨rfl, hx7⟩
      go_wp2
      refine hK _ _ (fun _ h => af_step h hx7) ?_
      clear hK K
      have hE7 : Ext w6 w7 := Ext.trans' (Below.drew (Ext.refl w6)) hx7
      refine pi_t 15 rfl (by kernel_rfl) (by kernel_rfl) (fun _ _ _ _ h => h) (fun K hK => ?_)
      go_big_quiet_op
      refine hK _ ?_
      clear hK K
      refine pi_t 16 rfl (by kernel_rfl) (by kernel_rfl) (fun _ _ _ _ h => h) (fun K hK => ?_)
      go_big_quiet_op
      refine hK _ ?_
      clear hK K
      refine pi_t 17 rfl (by kernel_rfl) (by kernel_rfl) (fun _ _ _ _ h => h) (fun K hK => ?_)
      go_big_quiet_op
      refine hK _ ?_
      clear hK K
      refine pi_t 18 rfl (by kernel_rfl) (by kernel_rfl) (fun _ _ _ _ h => h) (fun K hK => ?_)
      go_big_quiet_op
      refine hK _ ?_
      clear hK K
      refine pi_l 19 rfl (by kernel_rfl) (fun K hK => ?_)
      go_wp2_with fail
      refine Calls.mono (KTotal_c s g C B L _ _ (HK.out.ext hE7)) ?_
      rintro e w8 ⟨rfl, hx8⟩
      rw [HZ.out]
      go_wp2
      refine hK _ _ (fun _ h => af_step h hx8) ?_
      clear hK K
      refine pi_t 20 rfl (by kernel_rfl) (by kernel_rfl) (fun _ _ _ _ h => h) (fun K hK => ?_)
      go_big_quiet_op
      refine hK _ ?_
      clear hK K
      refine pi_t 21 rfl (by kernel_rfl) (by kernel_rfl) (fun _ _ _ _ h => h) (fun K hK => ?_)
      go_big_quiet_op
      refine hK _ ?_
      clear hK K
      refine pi_t 22 rfl (by kernel_rfl) (by kernel_rfl) (fun _ _ _ _ h => h) (fun K hK => ?_)
      go_big_quiet_op
      refine hK _ ?_
      clear hK K
      refine pi_end (by kernel_rfl) ?_
      go_wp2
      go_ret
      exact ⟨rfl, hE6.trans' (hE7.trans' hx8)⟩
    · have hnw := fun W => WNew_mode C hok' hm m hn3 hn4 W
      have HNW := Lib.hid hnw
      have hmb : (C.mode != 1) = true := by simp [hm]
      clear hnw hm
      go_wp2_with fail
      refine (HNW.out _).mono ?_
      rintro e w4 ⟨rfl, hx4⟩
      have hE4 : Ext w w4 := by (repeat' (first | exact Ext.refl _ | assumption | apply Ext.allocR | apply Ext.drewR | apply Ext.drewNR | (refine Ext.trans' ?_ (by assumption))))
      have HCB4 := Lib.hid (hx4.keep HCB3.out)
      have hC4 := CfgAt.of HCB4.out
      have d0 := hC4.c0
      have d1 := hC4.c1
      have d2 := hC4.c2
      have d3 := hC4.c3
      have d4 := hC4.c4
      have dl := hC4.lt
      clear c0 c1 c2 c3 c4 cl hC4 hx4 HCB3 HNW
      go_wp2_with fail
      refine (RightR_raw C _).mono ?_
      rintro e w5 ⟨rfl, hx5⟩
      rw [HO'.out]
      have hE5 : Ext w w5 := by (repeat' (first | exact Ext.refl _ | assumption | apply Ext.allocR | apply Ext.drewR | apply Ext.drewNR | (refine Ext.trans' ?_ (by assumption))))
      have hC5 := CfgAt.of (hx5.keep HCB4.out)
      have c3 := hC5.c3
      have cl := hC5.lt
      clear d0 d1 d2 d3 d4 dl hC5 hx5 HCB4 hE4
      go_wp2
      go_ret
      exact ⟨rfl, hE5⟩
theorem WMakesL_c (x : Cfg) (hx : x.Raw) (n : Int) (hn : I64 n) (w : World) :
    Calls Tryz.prog 8 #[.agg #[.int .i64 x.bits, .int .i64 x.rows, .int .i64 x.width, .int .i64 x.mode, .int .u64 x.seed], .int .i64 n] w fun e w' => e = .returned (.bool true) ∧ Ext w w' := by
  cases hO : okB x with
  | false => exact WMakes_bad x hO n w
  | true => exact WMakes_ok x hx hO n hn w
end Go.Proofs.YteoblkcbemeamaaGreat

/- WindowMakes: there is a window just of a right config, Linear, and from one to sixteen buckets. No condition: every input. -/
namespace Go.Proofs.YteoblkcbemeamaaGreat
set_option linter.unusedVariables false
open Go.ChangeShapes Go.WideShapes Go.ChangeAt Go.RowKit

set_option maxRecDepth 100000 in
theorem windowMakes_lifted (os : Os) (started : os.Started) (H : Type) (enc : TypeId × Value → H) :
    ReturnsInHanded {} Tryz.checked os 8 .any (Rows.windowMakesSpec.pre6 enc Tryz.prog Tryz.f8 Rows.windowMakesRow.domain false) (Rows.windowMakesSpec.post enc Tryz.prog Tryz.f8 false true false false) := by
  refine returnsInHanded_of_change_sized (C := Tryz.checked) own started (by kernel_rfl) Tryz.func8
    (ChangeSpec.witness6 (enc := enc) (C := Tryz.checked) false ⟨#[], #[.agg #[.int .i64 0, .int .i64 0, .int .i64 0, .int .i64 0, .int .u64 0], .int .i64 0], []⟩ 8 (by kernel_rfl) (by kernel_rfl) (by kernel_rfl) (by kernel_rfl)) ?_
  intro W base args ds gs before hval0 hW hcnd hsz0 _
  have hval : ∀ (j : Nat) t v, Tryz.f8.params[j]? = some t → args[j]? = some v → Value.okWide Tryz.prog W .any base t v := hval0
  have hW' := hW
  obtain ⟨p, q, hA0, hV, rfl, hfz, hnd⟩ := hW
  have hA : DataW.TrodAll enc Tryz.prog W 0 (fun _ => true) true Tryz.f8.params.toList args.toList ds p := hA0
  have hsz : (DataW.weightsEach Tryz.prog (Tryz.f8.params.toList ++ Rows.windowMakesSpec.plain.varTypes Tryz.prog) (ds ++ gs)).all (· ≤ reachBytes) = true := hsz0
  rw [Tryz.params8] at hA hval hsz
  obtain ⟨v0, vs0, d0, ds0, p0, q0, hargs, rfl, rfl, h0, r0⟩ := trodAll_cons hA
  obtain ⟨v1, vs1, d1, ds1, p1, q1, rfl, rfl, rfl, h1, r1⟩ := trodAll_cons r0
  obtain ⟨rfl, rfl, rfl⟩ := trodAll_nil r1
  obtain rfl : args = #[v0, v1] := by cases args; simp_all
  obtain ⟨rfl, rfl⟩ := trodVars_none hV
  have k0 := h0
  have k1 := h1
  have lt0 : ∀ x ∈ p0, x.block < W.heap.size := by obtain ⟨m, hm⟩ := k0; exact DataW.trod_lt m _ _ _ hm
  have lt1 : ∀ x ∈ p1, x.block < W.heap.size := by obtain ⟨m, hm⟩ := k1; exact DataW.trod_lt m _ _ _ hm
  obtain ⟨x0, hx0, rfl⟩ := cfgarg_of (hval 0 _ v0 rfl rfl) h0
  obtain ⟨n1, rfl, _, _, wf1⟩ := open_int Tryz.underlying3 (hval 1 _ v1 rfl rfl) h1
  have hn1 := wf_i64 wf1
  clear hA0 hval0
  refine (WMakesL_c x0 hx0 n1 hn1 W).mono fun e W' ⟨he, bel⟩ => ?_
  subst he
  exact ⟨_, rfl, _, _, _, [], _, [], hW', trodAll_mk1 (shut_bool Tryz.underlying4 _), (trodAll_cons_mk (Below.trod laidOut (by kernel_rfl) (of_decide_eq_true (by kernel_rfl)) k0 bel lt0) (trodAll_cons_mk (Below.trod laidOut (by kernel_rfl) (of_decide_eq_true (by kernel_rfl)) k1 bel lt1) trodAll_mk0)), rfl, bel.frame _, fun h => by cases h⟩
end Go.Proofs.YteoblkcbemeamaaGreat
