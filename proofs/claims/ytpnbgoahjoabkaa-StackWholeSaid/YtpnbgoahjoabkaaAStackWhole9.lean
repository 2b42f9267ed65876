/- gaugerlaw15.StackWhole, walked. -/
import Derived.Test.YtpnbgoahjoabkaaAStackWhole8
import Derived.ProofKit
import Derived.OpenShut
import Derived.ChangeOld
import Derived.Below
import Derived.SizedLaws
import Derived.Deep.Slices
import Derived.Deep.Fields

/- gaugerlaw15.StackWhole, walked. -/
namespace Go.Proofs.Ytpnbgoahjoabkaa
set_option linter.unusedVariables false
open Go.RowKit
theorem lvE_ne2 {C : Cfg} {lv : Int} {l : List Int} {key d : Int} (h : key < keys C lv) : lvE C lv l key d ≠ 2 := by
  unfold lvE errX errU
  rw [decide_eq_true h]
  generalize isX C lv = b1
  generalize decide (C.mode = 2) = b2
  generalize decide (d < 0) = b3
  generalize fitB (l.getD key.toNat 0 + d) = b4
  generalize fitB (minL (readL (wN C) l (cols C lv key)) + d) = b5
  generalize allFit (wN C) (cols C lv key) l d (rN C) = b6
  revert b1 b2 b3 b4 b5 b6
  decide
theorem errs_ne2 {C : Cfg} {ls : Nat → List Int} {key d : Int} : ∀ m : Nat, (∀ n, n < m → sh n key < keys C n) → errs C ls key d m ≠ 2
  | 0, _ => by unfold errs; decide
  | m + 1, h => by
    unfold errs fst_
    have ih := errs_ne2 (ls := ls) (d := d) m fun n hn => h n (by omega)
    cases hz : decide (errs C ls key d m = 0) with
    | true => exact lvE_ne2 (h m (by omega))
    | false => exact ih
theorem errK_two {C : Cfg} (hok : C.Ok) {B : Nat} (hB : C.bits = B) {ls : Nat → List Int} {key d : Int} (hk : 0 ≤ key) (h : errK C B ls key d = 2) : keys C 0 ≤ key := by
  rcases Int.lt_or_le key (keys C 0) with h' | h'
  · exfalso
    unfold errK at h
    rw [decide_eq_false (by omega)] at h
    exact errs_ne2 (B + 1) (fun n hn => sh_lt hok (by omega) hk h') h
  · exact h'
theorem lv_one {C : Cfg} (hok : C.Ok) {B : Nat} (hB : C.bits = B) {us : List (Int × Int)} (hl : us.length ≤ 60) {k : Nat} (hk : k ≤ B) : lvE C k (feedK C us k) 0 1 = 0 := by
  have hp := keys_bd C hok 0 (Int.le_refl 0)
  have h := errK_ok hok hB (ls := feedK C us) (key := 0) (d := 1) (fun n _ => feedK_bnd C us n) (by omega) (show (0 : Int) ≤ 1 by decide) (by decide) (by omega) (Int.le_refl 0) (by omega) (fun _ => by decide)
  have := (errK_zero.1 h).2 k hk
  rw [show sh k 0 = 0 from Int.zero_ediv _] at this
  exact this
set_option maxRecDepth 20000 in
set_option maxHeartbeats 16000000 in
theorem WholeL_c (x : Cfg) (hx : x.Raw) (key d : Int) (hkey : U64 key) (hd : I64 d) (us : List (Int × Int)) (hus : UpsOk us) (v : Value) (w : World) (hv : UpsAt w v us) (hul : us.length ≤ 140737488355328) :
    Calls Try.prog 10 #[.agg #[.int .i64 x.bits, .int .i64 x.rows, .int .i64 x.width, .int .i64 x.mode, .int .u64 x.seed, v], .agg #[.int .u64 key, .int .i64 d]] w fun e w' => e = .returned (.bool true) ∧ Ext w w' := by
  obtain ⟨vp, vc, rfl⟩ := hv.sl
  have HV := Lib.hid hv
  clear hv
  go_enter Try.func10, Try.ntmps10
  go_wp2_with fail
  refine (shownK_c _).mono ?_
  rintro e w1 ⟨rfl, hb1⟩
  have hE1 : Ext w w1 := by (repeat' (first | exact Ext.refl _ | assumption | apply Ext.allocR | apply Ext.drewR | apply Ext.drewNR | (refine Ext.trans' ?_ (by assumption))))
  have hP1 := hb1.keep ((heap_old _ _ (by rw [size_alloc]; omega)).trans (heap_at w (.cells #[.int .i64 x.bits, .int .i64 x.rows, .int .i64 x.width, .int .i64 x.mode, .int .u64 x.seed, .slice vp us.length vc] 64) rfl))
  have hU1 := hb1.keep (heap_at (w.alloc (.cells #[.int .i64 x.bits, .int .i64 x.rows, .int .i64 x.width, .int .i64 x.mode, .int .u64 x.seed, .slice vp us.length vc] 64)) (.cells #[.int .u64 key, .int .i64 d] 38) (n := w.heap.size + 1) (by rw [size_alloc]))
  have p0 := (cell_of hP1 0).trans rfl
  have p1 := (cell_of hP1 1).trans rfl
  have p2 := (cell_of hP1 2).trans rfl
  have p3 := (cell_of hP1 3).trans rfl
  have p4 := (cell_of hP1 4).trans rfl
  have p5 := (cell_of hP1 5).trans rfl
  have pl := lt_of hP1
  clear hb1
  go_wp2_with fail
  refine Calls.mono (fed15_c x hx 10 (by decide) (by decide) 0 (by decide) (by decide) us hus _ 0 60 (by decide) (by decide) _ (HV.out.ext hE1) hul) ?_
  rintro e w2 ⟨s, g, L, rfl, hK, hs, hg, hF, hx2⟩
  have hok := kcfg_ok x hx.s (nb := 10) (m := 0) (by decide) (by decide) (by decide)
  generalize hCC : kcfg x 10 0 = C at *
  have HCC := Lib.hid hCC
  have hb1 := hok.b1
  have hb2 := hok.b2
  obtain ⟨B, hB⟩ : ∃ B : Nat, C.bits = B := ⟨C.bits.toNat, by omega⟩
  have hBt : C.bits.toNat = B := by omega
  have hBd : B ≤ 59 := by omega
  rw [hBt] at hK
  have hE2 : Ext w w2 := by (repeat' (first | exact Ext.refl _ | assumption | apply Ext.allocR | apply Ext.drewR | apply Ext.drewNR | (refine Ext.trans' ?_ (by assumption))))
  have hP2 := hx2.keep hP1
  have hU2 := hx2.keep hU1
  have HB := Lib.hid hB
  have HBT := Lib.hid hBt
  clear p0 p1 p2 p3 p4 p5 pl hP1 hU1 hx2 hE1 hs hg hF hB hBt hCC
  go_upto_region 5 with (fail)
  obtain ⟨w3, hw3⟩ : ∃ w3, w2.alloc (.cells #[.int .i64 C.bits, .int .i64 C.rows, .int .i64 C.width, .int .i64 C.mode, .int .u64 C.seed] 24) = w3 := ⟨_, rfl⟩
  have hx3 : Ext w2 w3 := by rw [← hw3]; exact Ext.alloc' _ _
  have hC3 : CfgAt w3 w2.heap.size C := by rw [← hw3]; exact CfgAt.box C _ rfl
  rw [hw3]
  clear hw3
  have hE3 := hE2.trans' hx3
  have hP3 := hx3.keep hP2
  have hU3 := hx3.keep hU2
  have hK3 := hK.ext hx3
  clear hK hP2 hU2 hE2 hx3
  go_wp2_with fail
  refine (KCopy_c s g C B L _ _ hK3).mono ?_
  rintro e w4 ⟨t, gt, LT, rfl, hT, ht, hgt, hLT, hx4⟩
  have hU4 := hx4.keep hU3
  have q0 := (cell_of hU4 0).trans rfl
  have q1 := (cell_of hU4 1).trans rfl
  have ql := lt_of hU4
  have hHx4 := Lib.hid hx4
  clear hx4
  go_wp2_with fail
  refine Calls.mono (KUpdate_c t gt C B LT _ key d _ hT hd hkey) ?_
  rintro e w5 ⟨rfl, hT5, hM5⟩
  have hE35 : Ext w3 w5 := KFresh.ext (w := w3) hLT hHx4.out hM5
  clear q0 q1 ql hU4 hHx4 hM5 hT ht hgt hLT
  have hE5 := hE3.trans' hE35
  have hP5 := hE35.keep hP3
  have hU5 := hE35.keep hU3
  have hK5 := hK3.ext hE35
  have hC5 := hC3.ext hE35
  have h2 : errK C B (feedK C (fus us 0 60)) key d = 2 → keys C 0 ≤ key := errK_two hok HB.out hkey.1
  have hT6 : errK C B (feedK C (fus us 0 60)) key d ≠ 0 → KAt w5 t gt C B LT (feedK C (fus us 0 60)) := fun h => by
    rw [decide_eq_false h] at hT5; exact hT5
  have h1 : ∀ k : Nat, k ≤ B → lvE C k (feedK C (fus us 0 60) k) 0 1 = 0 := fun k hk => lv_one hok HB.out (by have := fus_len us 0 60; omega) hk
  have hLL : ∀ k : Nat, (feedK C (fus us 0 60) k).length ≤ 1000000 := fun k => by rw [feedK_len]; exact lvN_le hok k
  clear hT5 hE35 hP3 hU3 hK3 hC3 hE3
  generalize errK C B (feedK C (fus us 0 60)) key d = E at *
  have H2 := Lib.hid h2
  have HT := Lib.hid hT6
  have H1 := Lib.hid h1
  have HL := Lib.hid hLL
  have HK := Lib.hid hK5
  have HP := Lib.hid hP5
  have HU := Lib.hid hU5
  have HC := Lib.hid hC5
  clear h2 hT6 h1 hLL hK5 hP5 hU5 hC5
  go_wp2
  go_loopw [10] (fun u10 wr => ∃ k : Nat, k ≤ B + 1 ∧ u10 = .int .i64 k ∧ Ext w5 wr) (fun u10 _ => B + 1 - (intOf u10).toNat)
  case atStart => exact ⟨0, Nat.zero_le _, rfl, Ext.refl _⟩
  case round =>
    obtain ⟨k, hk, rfl, hEr⟩ := hrel
    have hCr := HC.out.ext hEr
    have c0 := hCr.c0
    rw [HB.out] at c0
    have cl := hCr.lt
    have hPr := hEr.keep HP.out
    have p0 := (cell_of hPr 0).trans rfl
    have p1 := (cell_of hPr 1).trans rfl
    have p2 := (cell_of hPr 2).trans rfl
    have p3 := (cell_of hPr 3).trans rfl
    have p4 := (cell_of hPr 4).trans rfl
    have p5 := (cell_of hPr 5).trans rfl
    have pl := lt_of hPr
    by_cases hgo : k ≤ B
    · clear hCr hPr
      go_wp2_with fail
      refine Calls.mono (fed15_c x hx 10 (by decide) (by decide) 0 (by decide) (by decide) us hus _ 0 60 (by decide) (by decide) _ (HV.out.ext (hE5.trans' hEr)) hul) ?_
      rintro e w6 ⟨sw, gw, LW, rfl, hW, hsw, hgw, hFW, hx6⟩
      rw [HCC.out, HBT.out] at hW
      rw [HCC.out]
      clear p0 p1 p2 p3 p4 p5 pl c0 cl hsw hgw hFW
      go_upto_region 13 with (fail)
      obtain ⟨w7, hw7⟩ : ∃ w7, w6.alloc (.cells #[.int .i64 C.bits, .int .i64 C.rows, .int .i64 C.width, .int .i64 C.mode, .int .u64 C.seed] 24) = w7 := ⟨_, rfl⟩
      have hx7 : Ext w6 w7 := by rw [← hw7]; exact Ext.alloc' _ _
      rw [hw7]
      clear hw7
      have hE7 : Ext w5 w7 := hEr.trans' (hx6.trans' hx7)
      have hEr7 : Ext wr w7 := hx6.trans' hx7
      have HW := Lib.hid (hW.ext hx7)
      have HK7 := Lib.hid (HK.out.ext hE7)
      clear hx6 hx7 hW
      have hcase : (E = 0 ∧ isX C k = true) ∨ (E ≠ 0 ∧ isX C k = true) ∨ (E = 0 ∧ isX C k = false) ∨ (E ≠ 0 ∧ isX C k = false) := by
        cases isX C k <;> by_cases h : E = 0 <;> simp [h]
      rcases hcase with ⟨he, hX⟩ | ⟨he, hX⟩ | ⟨he, hX⟩ | ⟨he, hX⟩
      · have HX := Lib.hid hX
        clear hX
        subst he
        go_wp2_with fail
        refine (KCells_c s g C B L _ _ (HK7.out.ext ?hx) k hgo).mono ?_
        case hx => (repeat' (first | exact Ext.refl _ | assumption | apply Ext.allocR | apply Ext.drewR | apply Ext.drewNR | (refine Ext.trans' ?_ (by assumption))))
        rintro e wa ⟨va, rfl, hva, _, hxa⟩
        have hEa : Ext w7 wa := by (repeat' (first | exact Ext.refl _ | assumption | apply Ext.allocR | apply Ext.drewR | apply Ext.drewNR | (refine Ext.trans' ?_ (by assumption))))
        have ia := IntsAt.of_row hva
        clear hxa hva
        go_wp2_with fail
        refine (KCells_c sw gw C B LW _ _ (HW.out.ext ?hx) k hgo).mono ?_
        case hx => (repeat' (first | exact Ext.refl _ | assumption | apply Ext.allocR | apply Ext.drewR | apply Ext.drewNR | (refine Ext.trans' ?_ (by assumption))))
        rintro e wb ⟨vb, rfl, hvb, _, hxb⟩
        have hEb : Ext w7 wb := hEa.trans' (by (repeat' (first | exact Ext.refl _ | assumption | apply Ext.allocR | apply Ext.drewR | apply Ext.drewNR | (refine Ext.trans' ?_ (by assumption)))))
        have ib := IntsAt.of_row hvb
        have ia := ia.ext hxb
        clear hxb hvb hEa
        go_wp2_with fail
        refine (Same_c _ _ _ _ _ (ia.ext ?hx) (ib.ext ?hy) (HL.out k) (HL.out k)).mono ?_
        case hx => (repeat' (first | exact Ext.refl _ | assumption | apply Ext.allocR | apply Ext.drewR | apply Ext.drewNR | (refine Ext.trans' ?_ (by assumption))))
        case hy => (repeat' (first | exact Ext.refl _ | assumption | apply Ext.allocR | apply Ext.drewR | apply Ext.drewNR | (refine Ext.trans' ?_ (by assumption))))
        rintro e wd ⟨rfl, hxd⟩
        rw [decide_eq_true rfl]
        have hEd : Ext w7 wd := hEb.trans' (by (repeat' (first | exact Ext.refl _ | assumption | apply Ext.allocR | apply Ext.drewR | apply Ext.drewNR | (refine Ext.trans' ?_ (by assumption)))))
        clear hxd hEb ia ib
        go_wp2_with fail
        refine (KAt_c s g C B L _ _ (HK7.out.ext ?hx) k hgo).mono ?_
        case hx => exact hEd.trans' (by (repeat' (first | exact Ext.refl _ | assumption | apply Ext.allocR | apply Ext.drewR | apply Ext.drewNR | (refine Ext.trans' ?_ (by assumption)))))
        rintro e wi ⟨M, rfl, hM, _, _, hMc, hxi⟩
        have hEi : Ext w7 wi := hEd.trans' (by (repeat' (first | exact Ext.refl _ | assumption | apply Ext.allocR | apply Ext.drewR | apply Ext.drewNR | (refine Ext.trans' ?_ (by assumption)))))
        have hMc7 : w7.heap.size ≤ M.c := Nat.le_trans (hEd.trans' (by (repeat' (first | exact Ext.refl _ | assumption | apply Ext.allocR | apply Ext.drewR | apply Ext.drewNR | (refine Ext.trans' ?_ (by assumption)))))).size hMc
        clear hxi hEd hMc
        rw [lvV_x HX.out]
        have hA := hM.x HX.out
        have HA := Lib.hid hA
        clear hM hA
        go_wp2_with fail
        refine (ELevel_c _ _ _ C _ _ _ _ HA.out).mono ?_
        rintro e wj ⟨rfl, rfl⟩
        go_wp2_with fail
        refine (ECells_c _ _ _ C _ _ _ _ HA.out).mono ?_
        rintro e wk ⟨vk, rfl, hvk, _, hxk⟩
        have hEk : Ext wi wk := by (repeat' (first | exact Ext.refl _ | assumption | apply Ext.allocR | apply Ext.drewR | apply Ext.drewNR | (refine Ext.trans' ?_ (by assumption))))
        have ik := IntsAt.of_row hvk
        clear hxk hvk
        go_wp2_with fail
        refine (KCells_c s g C B L _ _ (HK7.out.ext ?hx) k hgo).mono ?_
        case hx => exact hEi.trans' (hEk.trans' (by (repeat' (first | exact Ext.refl _ | assumption | apply Ext.allocR | apply Ext.drewR | apply Ext.drewNR | (refine Ext.trans' ?_ (by assumption))))))
        rintro e wl ⟨vl, rfl, hvl, _, hxl⟩
        have hEl : Ext wi wl := hEk.trans' (by (repeat' (first | exact Ext.refl _ | assumption | apply Ext.allocR | apply Ext.drewR | apply Ext.drewNR | (refine Ext.trans' ?_ (by assumption)))))
        have il := IntsAt.of_row hvl
        have ik := ik.ext hxl
        clear hxl hvl hEk
        go_wp2_with fail
        refine (Same_c _ _ _ _ _ (ik.ext ?hx) (il.ext ?hy) (HL.out k) (HL.out k)).mono ?_
        case hx => (repeat' (first | exact Ext.refl _ | assumption | apply Ext.allocR | apply Ext.drewR | apply Ext.drewNR | (refine Ext.trans' ?_ (by assumption))))
        case hy => (repeat' (first | exact Ext.refl _ | assumption | apply Ext.allocR | apply Ext.drewR | apply Ext.drewNR | (refine Ext.trans' ?_ (by assumption))))
        rintro e wm ⟨rfl, hxm⟩
        rw [decide_eq_true rfl]
        have hEm : Ext wi wm := hEl.trans' (by (repeat' (first | exact Ext.refl _ | assumption | apply Ext.allocR | apply Ext.drewR | apply Ext.drewNR | (refine Ext.trans' ?_ (by assumption)))))
        clear hxm hEl ik il
        have hz := H1.out k hgo
        rw [lvE_x HX.out] at hz
        have HZ := Lib.hid hz
        clear hz
        go_wp2_with fail
        refine (EUpdate_c _ _ _ C _ _ _ 0 1 _ (HA.out.ext (hEm.trans' (by (repeat' (first | exact Ext.refl _ | assumption | apply Ext.allocR | apply Ext.drewR | apply Ext.drewNR | (refine Ext.trans' ?_ (by assumption))))))) (by unfold I64; decide) (by unfold U64; decide)).mono ?_
        rintro e wn ⟨rfl, hcn⟩
        rw [HZ.out] at hcn ⊢
        have hMn := (hcn.resolve_right (fun h => h.1 rfl)).2.2
        have hEn : Ext w7 wn := Below.trans (hEi.trans' hEm) (hMn.below (B := w7.heap.size) (by have := (hEi.trans' hEm).size; omega) (fun j hj => by subst hj; exact hMc7))
        clear hcn hMn hEm hEi
        go_wp2_with fail
        refine (KCells_c s g C B L _ _ (HK7.out.ext ?hx) k hgo).mono ?_
        case hx => exact hEn.trans' (by (repeat' (first | exact Ext.refl _ | assumption | apply Ext.allocR | apply Ext.drewR | apply Ext.drewNR | (refine Ext.trans' ?_ (by assumption)))))
        rintro e wo ⟨vo, rfl, hvo, _, hxo⟩
        have hEo : Ext w7 wo := hEn.trans' (by (repeat' (first | exact Ext.refl _ | assumption | apply Ext.allocR | apply Ext.drewR | apply Ext.drewNR | (refine Ext.trans' ?_ (by assumption)))))
        have io := IntsAt.of_row hvo
        clear hxo hvo hEn
        go_wp2_with fail
        refine (KCells_c sw gw C B LW _ _ (HW.out.ext ?hx) k hgo).mono ?_
        case hx => exact hEo.trans' (by (repeat' (first | exact Ext.refl _ | assumption | apply Ext.allocR | apply Ext.drewR | apply Ext.drewNR | (refine Ext.trans' ?_ (by assumption)))))
        rintro e wp ⟨vp', rfl, hvp, _, hxp⟩
        have hEp : Ext w7 wp := hEo.trans' (by (repeat' (first | exact Ext.refl _ | assumption | apply Ext.allocR | apply Ext.drewR | apply Ext.drewNR | (refine Ext.trans' ?_ (by assumption)))))
        have ip := IntsAt.of_row hvp
        have io := io.ext hxp
        clear hxp hvp hEo
        go_wp2_with fail
        refine (Same_c _ _ _ _ _ (io.ext ?hx) (ip.ext ?hy) (HL.out k) (HL.out k)).mono ?_
        case hx => (repeat' (first | exact Ext.refl _ | assumption | apply Ext.allocR | apply Ext.drewR | apply Ext.drewNR | (refine Ext.trans' ?_ (by assumption))))
        case hy => (repeat' (first | exact Ext.refl _ | assumption | apply Ext.allocR | apply Ext.drewR | apply Ext.drewNR | (refine Ext.trans' ?_ (by assumption))))
        rintro e wq ⟨rfl, hxq⟩
        rw [decide_eq_true rfl]
        have hEq : Ext w7 wq := hEp.trans' (by (repeat' (first | exact Ext.refl _ | assumption | apply Ext.allocR | apply Ext.drewR | apply Ext.drewNR | (refine Ext.trans' ?_ (by assumption)))))
        clear hxq hEp io ip
        go_wp2
        go_roundw
        case rel => exact ⟨k + 1, by omega, by go_num, hE7.trans' hEq⟩
        case measure => simp [intOf]; omega
      · have HX := Lib.hid hX
        clear hX
        have HT7 := Lib.hid ((HT.out he).ext hE7)
        have heb : (E == 0) = false := by simpa using he
        go_wp2_with fail
        refine (KCells_c s g C B L _ _ (HK7.out.ext ?hx) k hgo).mono ?_
        case hx => (repeat' (first | exact Ext.refl _ | assumption | apply Ext.allocR | apply Ext.drewR | apply Ext.drewNR | (refine Ext.trans' ?_ (by assumption))))
        rintro e wa ⟨va, rfl, hva, _, hxa⟩
        have hEa : Ext w7 wa := by (repeat' (first | exact Ext.refl _ | assumption | apply Ext.allocR | apply Ext.drewR | apply Ext.drewNR | (refine Ext.trans' ?_ (by assumption))))
        have ia := IntsAt.of_row hva
        clear hxa hva
        go_wp2_with fail
        refine (KCells_c sw gw C B LW _ _ (HW.out.ext ?hx) k hgo).mono ?_
        case hx => (repeat' (first | exact Ext.refl _ | assumption | apply Ext.allocR | apply Ext.drewR | apply Ext.drewNR | (refine Ext.trans' ?_ (by assumption))))
        rintro e wb ⟨vb, rfl, hvb, _, hxb⟩
        have hEb : Ext w7 wb := hEa.trans' (by (repeat' (first | exact Ext.refl _ | assumption | apply Ext.allocR | apply Ext.drewR | apply Ext.drewNR | (refine Ext.trans' ?_ (by assumption)))))
        have ib := IntsAt.of_row hvb
        have ia := ia.ext hxb
        clear hxb hvb hEa
        go_wp2_with fail
        refine (Same_c _ _ _ _ _ (ia.ext ?hx) (ib.ext ?hy) (HL.out k) (HL.out k)).mono ?_
        case hx => (repeat' (first | exact Ext.refl _ | assumption | apply Ext.allocR | apply Ext.drewR | apply Ext.drewNR | (refine Ext.trans' ?_ (by assumption))))
        case hy => (repeat' (first | exact Ext.refl _ | assumption | apply Ext.allocR | apply Ext.drewR | apply Ext.drewNR | (refine Ext.trans' ?_ (by assumption))))
        rintro e wd ⟨rfl, hxd⟩
        rw [decide_eq_true rfl]
        have hEd : Ext w7 wd := hEb.trans' (by (repeat' (first | exact Ext.refl _ | assumption | apply Ext.allocR | apply Ext.drewR | apply Ext.drewNR | (refine Ext.trans' ?_ (by assumption)))))
        clear hxd hEb ia ib
        go_wp2_with fail
        refine (KCells_c t gt C B LT _ _ (HT7.out.ext ?hx) k hgo).mono ?_
        case hx => exact hEd.trans' (by (repeat' (first | exact Ext.refl _ | assumption | apply Ext.allocR | apply Ext.drewR | apply Ext.drewNR | (refine Ext.trans' ?_ (by assumption)))))
        rintro e we ⟨ve, rfl, hve, _, hxe⟩
        have hEe : Ext w7 we := hEd.trans' (by (repeat' (first | exact Ext.refl _ | assumption | apply Ext.allocR | apply Ext.drewR | apply Ext.drewNR | (refine Ext.trans' ?_ (by assumption)))))
        have ie := IntsAt.of_row hve
        clear hxe hve hEd
        go_wp2_with fail
        refine (KCells_c sw gw C B LW _ _ (HW.out.ext ?hx) k hgo).mono ?_
        case hx => exact hEe.trans' (by (repeat' (first | exact Ext.refl _ | assumption | apply Ext.allocR | apply Ext.drewR | apply Ext.drewNR | (refine Ext.trans' ?_ (by assumption)))))
        rintro e wf ⟨vf, rfl, hvf, _, hxf⟩
        have hEf : Ext w7 wf := hEe.trans' (by (repeat' (first | exact Ext.refl _ | assumption | apply Ext.allocR | apply Ext.drewR | apply Ext.drewNR | (refine Ext.trans' ?_ (by assumption)))))
        have if_ := IntsAt.of_row hvf
        have ie := ie.ext hxf
        clear hxf hvf hEe
        go_wp2_with fail
        refine (Same_c _ _ _ _ _ (ie.ext ?hx) (if_.ext ?hy) (HL.out k) (HL.out k)).mono ?_
        case hx => (repeat' (first | exact Ext.refl _ | assumption | apply Ext.allocR | apply Ext.drewR | apply Ext.drewNR | (refine Ext.trans' ?_ (by assumption))))
        case hy => (repeat' (first | exact Ext.refl _ | assumption | apply Ext.allocR | apply Ext.drewR | apply Ext.drewNR | (refine Ext.trans' ?_ (by assumption))))
        rintro e wg ⟨rfl, hxg⟩
        rw [decide_eq_true rfl]
        have hEg : Ext w7 wg := hEf.trans' (by (repeat' (first | exact Ext.refl _ | assumption | apply Ext.allocR | apply Ext.drewR | apply Ext.drewNR | (refine Ext.trans' ?_ (by assumption)))))
        clear hxg hEf ie if_
        go_wp2_with fail
        refine (KAt_c s g C B L _ _ (HK7.out.ext ?hx) k hgo).mono ?_
        case hx => exact hEg.trans' (by (repeat' (first | exact Ext.refl _ | assumption | apply Ext.allocR | apply Ext.drewR | apply Ext.drewNR | (refine Ext.trans' ?_ (by assumption)))))
        rintro e wi ⟨M, rfl, hM, _, _, hMc, hxi⟩
        have hEi : Ext w7 wi := hEg.trans' (by (repeat' (first | exact Ext.refl _ | assumption | apply Ext.allocR | apply Ext.drewR | apply Ext.drewNR | (refine Ext.trans' ?_ (by assumption)))))
        have hMc7 : w7.heap.size ≤ M.c := Nat.le_trans (hEg.trans' (by (repeat' (first | exact Ext.refl _ | assumption | apply Ext.allocR | apply Ext.drewR | apply Ext.drewNR | (refine Ext.trans' ?_ (by assumption)))))).size hMc
        clear hxi hEg hMc
        rw [lvV_x HX.out]
        have hA := hM.x HX.out
        have HA := Lib.hid hA
        clear hM hA
        go_wp2_with fail
        refine (ELevel_c _ _ _ C _ _ _ _ HA.out).mono ?_
        rintro e wj ⟨rfl, rfl⟩
        go_wp2_with fail
        refine (ECells_c _ _ _ C _ _ _ _ HA.out).mono ?_
        rintro e wk ⟨vk, rfl, hvk, _, hxk⟩
        have hEk : Ext wi wk := by (repeat' (first | exact Ext.refl _ | assumption | apply Ext.allocR | apply Ext.drewR | apply Ext.drewNR | (refine Ext.trans' ?_ (by assumption))))
        have ik := IntsAt.of_row hvk
        clear hxk hvk
        go_wp2_with fail
        refine (KCells_c s g C B L _ _ (HK7.out.ext ?hx) k hgo).mono ?_
        case hx => exact hEi.trans' (hEk.trans' (by (repeat' (first | exact Ext.refl _ | assumption | apply Ext.allocR | apply Ext.drewR | apply Ext.drewNR | (refine Ext.trans' ?_ (by assumption))))))
        rintro e wl ⟨vl, rfl, hvl, _, hxl⟩
        have hEl : Ext wi wl := hEk.trans' (by (repeat' (first | exact Ext.refl _ | assumption | apply Ext.allocR | apply Ext.drewR | apply Ext.drewNR | (refine Ext.trans' ?_ (by assumption)))))
        have il := IntsAt.of_row hvl
        have ik := ik.ext hxl
        clear hxl hvl hEk
        go_wp2_with fail
        refine (Same_c _ _ _ _ _ (ik.ext ?hx) (il.ext ?hy) (HL.out k) (HL.out k)).mono ?_
        case hx => (repeat' (first | exact Ext.refl _ | assumption | apply Ext.allocR | apply Ext.drewR | apply Ext.drewNR | (refine Ext.trans' ?_ (by assumption))))
        case hy => (repeat' (first | exact Ext.refl _ | assumption | apply Ext.allocR | apply Ext.drewR | apply Ext.drewNR | (refine Ext.trans' ?_ (by assumption))))
        rintro e wm ⟨rfl, hxm⟩
        rw [decide_eq_true rfl]
        have hEm : Ext wi wm := hEl.trans' (by (repeat' (first | exact Ext.refl _ | assumption | apply Ext.allocR | apply Ext.drewR | apply Ext.drewNR | (refine Ext.trans' ?_ (by assumption)))))
        clear hxm hEl ik il
        have hz := H1.out k hgo
        rw [lvE_x HX.out] at hz
        have HZ := Lib.hid hz
        clear hz
        go_wp2_with fail
        refine (EUpdate_c _ _ _ C _ _ _ 0 1 _ (HA.out.ext (hEm.trans' (by (repeat' (first | exact Ext.refl _ | assumption | apply Ext.allocR | apply Ext.drewR | apply Ext.drewNR | (refine Ext.trans' ?_ (by assumption))))))) (by unfold I64; decide) (by unfold U64; decide)).mono ?_
        rintro e wn ⟨rfl, hcn⟩
        rw [HZ.out] at hcn ⊢
        have hMn := (hcn.resolve_right (fun h => h.1 rfl)).2.2
        have hEn : Ext w7 wn := Below.trans (hEi.trans' hEm) (hMn.below (B := w7.heap.size) (by have := (hEi.trans' hEm).size; omega) (fun j hj => by subst hj; exact hMc7))
        clear hcn hMn hEm hEi
        go_wp2_with fail
        refine (KCells_c s g C B L _ _ (HK7.out.ext ?hx) k hgo).mono ?_
        case hx => exact hEn.trans' (by (repeat' (first | exact Ext.refl _ | assumption | apply Ext.allocR | apply Ext.drewR | apply Ext.drewNR | (refine Ext.trans' ?_ (by assumption)))))
        rintro e wo ⟨vo, rfl, hvo, _, hxo⟩
        have hEo : Ext w7 wo := hEn.trans' (by (repeat' (first | exact Ext.refl _ | assumption | apply Ext.allocR | apply Ext.drewR | apply Ext.drewNR | (refine Ext.trans' ?_ (by assumption)))))
        have io := IntsAt.of_row hvo
        clear hxo hvo hEn
        go_wp2_with fail
        refine (KCells_c sw gw C B LW _ _ (HW.out.ext ?hx) k hgo).mono ?_
        case hx => exact hEo.trans' (by (repeat' (first | exact Ext.refl _ | assumption | apply Ext.allocR | apply Ext.drewR | apply Ext.drewNR | (refine Ext.trans' ?_ (by assumption)))))
        rintro e wp ⟨vp', rfl, hvp, _, hxp⟩
        have hEp : Ext w7 wp := hEo.trans' (by (repeat' (first | exact Ext.refl _ | assumption | apply Ext.allocR | apply Ext.drewR | apply Ext.drewNR | (refine Ext.trans' ?_ (by assumption)))))
        have ip := IntsAt.of_row hvp
        have io := io.ext hxp
        clear hxp hvp hEo
        go_wp2_with fail
        refine (Same_c _ _ _ _ _ (io.ext ?hx) (ip.ext ?hy) (HL.out k) (HL.out k)).mono ?_
        case hx => (repeat' (first | exact Ext.refl _ | assumption | apply Ext.allocR | apply Ext.drewR | apply Ext.drewNR | (refine Ext.trans' ?_ (by assumption))))
        case hy => (repeat' (first | exact Ext.refl _ | assumption | apply Ext.allocR | apply Ext.drewR | apply Ext.drewNR | (refine Ext.trans' ?_ (by assumption))))
        rintro e wq ⟨rfl, hxq⟩
        rw [decide_eq_true rfl]
        have hEq : Ext w7 wq := hEp.trans' (by (repeat' (first | exact Ext.refl _ | assumption | apply Ext.allocR | apply Ext.drewR | apply Ext.drewNR | (refine Ext.trans' ?_ (by assumption)))))
        clear hxq hEp io ip
        go_wp2
        go_roundw
        case rel => exact ⟨k + 1, by omega, by go_num, hE7.trans' hEq⟩
        case measure => simp [intOf]; omega
      · have HX := Lib.hid hX
        clear hX
        subst he
        go_wp2_with fail
        refine (KCells_c s g C B L _ _ (HK7.out.ext ?hx) k hgo).mono ?_
        case hx => (repeat' (first | exact Ext.refl _ | assumption | apply Ext.allocR | apply Ext.drewR | apply Ext.drewNR | (refine Ext.trans' ?_ (by assumption))))
        rintro e wa ⟨va, rfl, hva, _, hxa⟩
        have hEa : Ext w7 wa := by (repeat' (first | exact Ext.refl _ | assumption | apply Ext.allocR | apply Ext.drewR | apply Ext.drewNR | (refine Ext.trans' ?_ (by assumption))))
        have ia := IntsAt.of_row hva
        clear hxa hva
        go_wp2_with fail
        refine (KCells_c sw gw C B LW _ _ (HW.out.ext ?hx) k hgo).mono ?_
        case hx => (repeat' (first | exact Ext.refl _ | assumption | apply Ext.allocR | apply Ext.drewR | apply Ext.drewNR | (refine Ext.trans' ?_ (by assumption))))
        rintro e wb ⟨vb, rfl, hvb, _, hxb⟩
        have hEb : Ext w7 wb := hEa.trans' (by (repeat' (first | exact Ext.refl _ | assumption | apply Ext.allocR | apply Ext.drewR | apply Ext.drewNR | (refine Ext.trans' ?_ (by assumption)))))
        have ib := IntsAt.of_row hvb
        have ia := ia.ext hxb
        clear hxb hvb hEa
        go_wp2_with fail
        refine (Same_c _ _ _ _ _ (ia.ext ?hx) (ib.ext ?hy) (HL.out k) (HL.out k)).mono ?_
        case hx => (repeat' (first | exact Ext.refl _ | assumption | apply Ext.allocR | apply Ext.drewR | apply Ext.drewNR | (refine Ext.trans' ?_ (by assumption))))
        case hy => (repeat' (first | exact Ext.refl _ | assumption | apply Ext.allocR | apply Ext.drewR | apply Ext.drewNR | (refine Ext.trans' ?_ (by assumption))))
        rintro e wd ⟨rfl, hxd⟩
        rw [decide_eq_true rfl]
        have hEd : Ext w7 wd := hEb.trans' (by (repeat' (first | exact Ext.refl _ | assumption | apply Ext.allocR | apply Ext.drewR | apply Ext.drewNR | (refine Ext.trans' ?_ (by assumption)))))
        clear hxd hEb ia ib
        go_wp2_with fail
        refine (KAt_c s g C B L _ _ (HK7.out.ext ?hx) k hgo).mono ?_
        case hx => exact hEd.trans' (by (repeat' (first | exact Ext.refl _ | assumption | apply Ext.allocR | apply Ext.drewR | apply Ext.drewNR | (refine Ext.trans' ?_ (by assumption)))))
        rintro e wi ⟨M, rfl, hM, _, _, hMc, hxi⟩
        have hEi : Ext w7 wi := hEd.trans' (by (repeat' (first | exact Ext.refl _ | assumption | apply Ext.allocR | apply Ext.drewR | apply Ext.drewNR | (refine Ext.trans' ?_ (by assumption)))))
        have hMc7 : w7.heap.size ≤ M.c := Nat.le_trans (hEd.trans' (by (repeat' (first | exact Ext.refl _ | assumption | apply Ext.allocR | apply Ext.drewR | apply Ext.drewNR | (refine Ext.trans' ?_ (by assumption)))))).size hMc
        clear hxi hEd hMc
        rw [lvV_s HX.out]
        have hA := hM.sk HX.out
        have HA := Lib.hid hA
        clear hM hA
        go_wp2_with fail
        refine (SLevel_c _ _ _ C _ _ _ _ _ HA.out).mono ?_
        rintro e wj ⟨rfl, rfl⟩
        go_wp2_with fail
        refine (SCells_c _ _ _ C _ _ _ _ _ HA.out).mono ?_
        rintro e wk ⟨vk, rfl, hvk, _, hxk⟩
        have hEk : Ext wi wk := by (repeat' (first | exact Ext.refl _ | assumption | apply Ext.allocR | apply Ext.drewR | apply Ext.drewNR | (refine Ext.trans' ?_ (by assumption))))
        have ik := IntsAt.of_row hvk
        clear hxk hvk
        go_wp2_with fail
        refine (KCells_c s g C B L _ _ (HK7.out.ext ?hx) k hgo).mono ?_
        case hx => exact hEi.trans' (hEk.trans' (by (repeat' (first | exact Ext.refl _ | assumption | apply Ext.allocR | apply Ext.drewR | apply Ext.drewNR | (refine Ext.trans' ?_ (by assumption))))))
        rintro e wl ⟨vl, rfl, hvl, _, hxl⟩
        have hEl : Ext wi wl := hEk.trans' (by (repeat' (first | exact Ext.refl _ | assumption | apply Ext.allocR | apply Ext.drewR | apply Ext.drewNR | (refine Ext.trans' ?_ (by assumption)))))
        have il := IntsAt.of_row hvl
        have ik := ik.ext hxl
        clear hxl hvl hEk
        go_wp2_with fail
        refine (Same_c _ _ _ _ _ (ik.ext ?hx) (il.ext ?hy) (HL.out k) (HL.out k)).mono ?_
        case hx => (repeat' (first | exact Ext.refl _ | assumption | apply Ext.allocR | apply Ext.drewR | apply Ext.drewNR | (refine Ext.trans' ?_ (by assumption))))
        case hy => (repeat' (first | exact Ext.refl _ | assumption | apply Ext.allocR | apply Ext.drewR | apply Ext.drewNR | (refine Ext.trans' ?_ (by assumption))))
        rintro e wm ⟨rfl, hxm⟩
        rw [decide_eq_true rfl]
        have hEm : Ext wi wm := hEl.trans' (by (repeat' (first | exact Ext.refl _ | assumption | apply Ext.allocR | apply Ext.drewR | apply Ext.drewNR | (refine Ext.trans' ?_ (by assumption)))))
        clear hxm hEl ik il
        have hz := H1.out k hgo
        rw [lvE_s HX.out] at hz
        have HZ := Lib.hid hz
        clear hz
        go_wp2_with fail
        refine (Update_c _ _ _ C _ _ _ _ 0 1 _ (HA.out.ext (hEm.trans' (by (repeat' (first | exact Ext.refl _ | assumption | apply Ext.allocR | apply Ext.drewR | apply Ext.drewNR | (refine Ext.trans' ?_ (by assumption))))))) (by unfold I64; decide) (Int.le_refl 0)).mono ?_
        rintro e wn ⟨rfl, hcn⟩
        rw [HZ.out] at hcn ⊢
        have hMn := (hcn.resolve_right (fun h => h.1 rfl)).2.2
        have hEn : Ext w7 wn := Below.trans (hEi.trans' hEm) (hMn.below (B := w7.heap.size) (by have := (hEi.trans' hEm).size; omega) (fun j hj => by subst hj; exact hMc7))
        clear hcn hMn hEm hEi
        go_wp2_with fail
        refine (KCells_c s g C B L _ _ (HK7.out.ext ?hx) k hgo).mono ?_
        case hx => exact hEn.trans' (by (repeat' (first | exact Ext.refl _ | assumption | apply Ext.allocR | apply Ext.drewR | apply Ext.drewNR | (refine Ext.trans' ?_ (by assumption)))))
        rintro e wo ⟨vo, rfl, hvo, _, hxo⟩
        have hEo : Ext w7 wo := hEn.trans' (by (repeat' (first | exact Ext.refl _ | assumption | apply Ext.allocR | apply Ext.drewR | apply Ext.drewNR | (refine Ext.trans' ?_ (by assumption)))))
        have io := IntsAt.of_row hvo
        clear hxo hvo hEn
        go_wp2_with fail
        refine (KCells_c sw gw C B LW _ _ (HW.out.ext ?hx) k hgo).mono ?_
        case hx => exact hEo.trans' (by (repeat' (first | exact Ext.refl _ | assumption | apply Ext.allocR | apply Ext.drewR | apply Ext.drewNR | (refine Ext.trans' ?_ (by assumption)))))
        rintro e wp ⟨vp', rfl, hvp, _, hxp⟩
        have hEp : Ext w7 wp := hEo.trans' (by (repeat' (first | exact Ext.refl _ | assumption | apply Ext.allocR | apply Ext.drewR | apply Ext.drewNR | (refine Ext.trans' ?_ (by assumption)))))
        have ip := IntsAt.of_row hvp
        have io := io.ext hxp
        clear hxp hvp hEo
        go_wp2_with fail
        refine (Same_c _ _ _ _ _ (io.ext ?hx) (ip.ext ?hy) (HL.out k) (HL.out k)).mono ?_
        case hx => (repeat' (first | exact Ext.refl _ | assumption | apply Ext.allocR | apply Ext.drewR | apply Ext.drewNR | (refine Ext.trans' ?_ (by assumption))))
        case hy => (repeat' (first | exact Ext.refl _ | assumption | apply Ext.allocR | apply Ext.drewR | apply Ext.drewNR | (refine Ext.trans' ?_ (by assumption))))
        rintro e wq ⟨rfl, hxq⟩
        rw [decide_eq_true rfl]
        have hEq : Ext w7 wq := hEp.trans' (by (repeat' (first | exact Ext.refl _ | assumption | apply Ext.allocR | apply Ext.drewR | apply Ext.drewNR | (refine Ext.trans' ?_ (by assumption)))))
        clear hxq hEp io ip
        go_wp2
        go_roundw
        case rel => exact ⟨k + 1, by omega, by go_num, hE7.trans' hEq⟩
        case measure => simp [intOf]; omega
      · have HX := Lib.hid hX
        clear hX
        have HT7 := Lib.hid ((HT.out he).ext hE7)
        have heb : (E == 0) = false := by simpa using he
        go_wp2_with fail
        refine (KCells_c s g C B L _ _ (HK7.out.ext ?hx) k hgo).mono ?_
        case hx => (repeat' (first | exact Ext.refl _ | assumption | apply Ext.allocR | apply Ext.drewR | apply Ext.drewNR | (refine Ext.trans' ?_ (by assumption))))
        rintro e wa ⟨va, rfl, hva, _, hxa⟩
        have hEa : Ext w7 wa := by (repeat' (first | exact Ext.refl _ | assumption | apply Ext.allocR | apply Ext.drewR | apply Ext.drewNR | (refine Ext.trans' ?_ (by assumption))))
        have ia := IntsAt.of_row hva
        clear hxa hva
        go_wp2_with fail
        refine (KCells_c sw gw C B LW _ _ (HW.out.ext ?hx) k hgo).mono ?_
        case hx => (repeat' (first | exact Ext.refl _ | assumption | apply Ext.allocR | apply Ext.drewR | apply Ext.drewNR | (refine Ext.trans' ?_ (by assumption))))
        rintro e wb ⟨vb, rfl, hvb, _, hxb⟩
        have hEb : Ext w7 wb := hEa.trans' (by (repeat' (first | exact Ext.refl _ | assumption | apply Ext.allocR | apply Ext.drewR | apply Ext.drewNR | (refine Ext.trans' ?_ (by assumption)))))
        have ib := IntsAt.of_row hvb
        have ia := ia.ext hxb
        clear hxb hvb hEa
        go_wp2_with fail
        refine (Same_c _ _ _ _ _ (ia.ext ?hx) (ib.ext ?hy) (HL.out k) (HL.out k)).mono ?_
        case hx => (repeat' (first | exact Ext.refl _ | assumption | apply Ext.allocR | apply Ext.drewR | apply Ext.drewNR | (refine Ext.trans' ?_ (by assumption))))
        case hy => (repeat' (first | exact Ext.refl _ | assumption | apply Ext.allocR | apply Ext.drewR | apply Ext.drewNR | (refine Ext.trans' ?_ (by assumption))))
        rintro e wd ⟨rfl, hxd⟩
        rw [decide_eq_true rfl]
        have hEd : Ext w7 wd := hEb.trans' (by (repeat' (first | exact Ext.refl _ | assumption | apply Ext.allocR | apply Ext.drewR | apply Ext.drewNR | (refine Ext.trans' ?_ (by assumption)))))
        clear hxd hEb ia ib
        go_wp2_with fail
        refine (KCells_c t gt C B LT _ _ (HT7.out.ext ?hx) k hgo).mono ?_
        case hx => exact hEd.trans' (by (repeat' (first | exact Ext.refl _ | assumption | apply Ext.allocR | apply Ext.drewR | apply Ext.drewNR | (refine Ext.trans' ?_ (by assumption)))))
        rintro e we ⟨ve, rfl, hve, _, hxe⟩
        have hEe : Ext w7 we := hEd.trans' (by (repeat' (first | exact Ext.refl _ | assumption | apply Ext.allocR | apply Ext.drewR | apply Ext.drewNR | (refine Ext.trans' ?_ (by assumption)))))
        have ie := IntsAt.of_row hve
        clear hxe hve hEd
        go_wp2_with fail
        refine (KCells_c sw gw C B LW _ _ (HW.out.ext ?hx) k hgo).mono ?_
        case hx => exact hEe.trans' (by (repeat' (first | exact Ext.refl _ | assumption | apply Ext.allocR | apply Ext.drewR | apply Ext.drewNR | (refine Ext.trans' ?_ (by assumption)))))
        rintro e wf ⟨vf, rfl, hvf, _, hxf⟩
        have hEf : Ext w7 wf := hEe.trans' (by (repeat' (first | exact Ext.refl _ | assumption | apply Ext.allocR | apply Ext.drewR | apply Ext.drewNR | (refine Ext.trans' ?_ (by assumption)))))
        have if_ := IntsAt.of_row hvf
        have ie := ie.ext hxf
        clear hxf hvf hEe
        go_wp2_with fail
        refine (Same_c _ _ _ _ _ (ie.ext ?hx) (if_.ext ?hy) (HL.out k) (HL.out k)).mono ?_
        case hx => (repeat' (first | exact Ext.refl _ | assumption | apply Ext.allocR | apply Ext.drewR | apply Ext.drewNR | (refine Ext.trans' ?_ (by assumption))))
        case hy => (repeat' (first | exact Ext.refl _ | assumption | apply Ext.allocR | apply Ext.drewR | apply Ext.drewNR | (refine Ext.trans' ?_ (by assumption))))
        rintro e wg ⟨rfl, hxg⟩
        rw [decide_eq_true rfl]
        have hEg : Ext w7 wg := hEf.trans' (by (repeat' (first | exact Ext.refl _ | assumption | apply Ext.allocR | apply Ext.drewR | apply Ext.drewNR | (refine Ext.trans' ?_ (by assumption)))))
        clear hxg hEf ie if_
        go_wp2_with fail
        refine (KAt_c s g C B L _ _ (HK7.out.ext ?hx) k hgo).mono ?_
        case hx => exact hEg.trans' (by (repeat' (first | exact Ext.refl _ | assumption | apply Ext.allocR | apply Ext.drewR | apply Ext.drewNR | (refine Ext.trans' ?_ (by assumption)))))
        rintro e wi ⟨M, rfl, hM, _, _, hMc, hxi⟩
        have hEi : Ext w7 wi := hEg.trans' (by (repeat' (first | exact Ext.refl _ | assumption | apply Ext.allocR | apply Ext.drewR | apply Ext.drewNR | (refine Ext.trans' ?_ (by assumption)))))
        have hMc7 : w7.heap.size ≤ M.c := Nat.le_trans (hEg.trans' (by (repeat' (first | exact Ext.refl _ | assumption | apply Ext.allocR | apply Ext.drewR | apply Ext.drewNR | (refine Ext.trans' ?_ (by assumption)))))).size hMc
        clear hxi hEg hMc
        rw [lvV_s HX.out]
        have hA := hM.sk HX.out
        have HA := Lib.hid hA
        clear hM hA
        go_wp2_with fail
        refine (SLevel_c _ _ _ C _ _ _ _ _ HA.out).mono ?_
        rintro e wj ⟨rfl, rfl⟩
        go_wp2_with fail
        refine (SCells_c _ _ _ C _ _ _ _ _ HA.out).mono ?_
        rintro e wk ⟨vk, rfl, hvk, _, hxk⟩
        have hEk : Ext wi wk := by (repeat' (first | exact Ext.refl _ | assumption | apply Ext.allocR | apply Ext.drewR | apply Ext.drewNR | (refine Ext.trans' ?_ (by assumption))))
        have ik := IntsAt.of_row hvk
        clear hxk hvk
        go_wp2_with fail
        refine (KCells_c s g C B L _ _ (HK7.out.ext ?hx) k hgo).mono ?_
        case hx => exact hEi.trans' (hEk.trans' (by (repeat' (first | exact Ext.refl _ | assumption | apply Ext.allocR | apply Ext.drewR | apply Ext.drewNR | (refine Ext.trans' ?_ (by assumption))))))
        rintro e wl ⟨vl, rfl, hvl, _, hxl⟩
        have hEl : Ext wi wl := hEk.trans' (by (repeat' (first | exact Ext.refl _ | assumption | apply Ext.allocR | apply Ext.drewR | apply Ext.drewNR | (refine Ext.trans' ?_ (by assumption)))))
        have il := IntsAt.of_row hvl
        have ik := ik.ext hxl
        clear hxl hvl hEk
        go_wp2_with fail
        refine (Same_c _ _ _ _ _ (ik.ext ?hx) (il.ext ?hy) (HL.out k) (HL.out k)).mono ?_
        case hx => (repeat' (first | exact Ext.refl _ | assumption | apply Ext.allocR | apply Ext.drewR | apply Ext.drewNR | (refine Ext.trans' ?_ (by assumption))))
        case hy => (repeat' (first | exact Ext.refl _ | assumption | apply Ext.allocR | apply Ext.drewR | apply Ext.drewNR | (refine Ext.trans' ?_ (by assumption))))
        rintro e wm ⟨rfl, hxm⟩
        rw [decide_eq_true rfl]
        have hEm : Ext wi wm := hEl.trans' (by (repeat' (first | exact Ext.refl _ | assumption | apply Ext.allocR | apply Ext.drewR | apply Ext.drewNR | (refine Ext.trans' ?_ (by assumption)))))
        clear hxm hEl ik il
        have hz := H1.out k hgo
        rw [lvE_s HX.out] at hz
        have HZ := Lib.hid hz
        clear hz
        go_wp2_with fail
        refine (Update_c _ _ _ C _ _ _ _ 0 1 _ (HA.out.ext (hEm.trans' (by (repeat' (first | exact Ext.refl _ | assumption | apply Ext.allocR | apply Ext.drewR | apply Ext.drewNR | (refine Ext.trans' ?_ (by assumption))))))) (by unfold I64; decide) (Int.le_refl 0)).mono ?_
        rintro e wn ⟨rfl, hcn⟩
        rw [HZ.out] at hcn ⊢
        have hMn := (hcn.resolve_right (fun h => h.1 rfl)).2.2
        have hEn : Ext w7 wn := Below.trans (hEi.trans' hEm) (hMn.below (B := w7.heap.size) (by have := (hEi.trans' hEm).size; omega) (fun j hj => by subst hj; exact hMc7))
        clear hcn hMn hEm hEi
        go_wp2_with fail
        refine (KCells_c s g C B L _ _ (HK7.out.ext ?hx) k hgo).mono ?_
        case hx => exact hEn.trans' (by (repeat' (first | exact Ext.refl _ | assumption | apply Ext.allocR | apply Ext.drewR | apply Ext.drewNR | (refine Ext.trans' ?_ (by assumption)))))
        rintro e wo ⟨vo, rfl, hvo, _, hxo⟩
        have hEo : Ext w7 wo := hEn.trans' (by (repeat' (first | exact Ext.refl _ | assumption | apply Ext.allocR | apply Ext.drewR | apply Ext.drewNR | (refine Ext.trans' ?_ (by assumption)))))
        have io := IntsAt.of_row hvo
        clear hxo hvo hEn
        go_wp2_with fail
        refine (KCells_c sw gw C B LW _ _ (HW.out.ext ?hx) k hgo).mono ?_
        case hx => exact hEo.trans' (by (repeat' (first | exact Ext.refl _ | assumption | apply Ext.allocR | apply Ext.drewR | apply Ext.drewNR | (refine Ext.trans' ?_ (by assumption)))))
        rintro e wp ⟨vp', rfl, hvp, _, hxp⟩
        have hEp : Ext w7 wp := hEo.trans' (by (repeat' (first | exact Ext.refl _ | assumption | apply Ext.allocR | apply Ext.drewR | apply Ext.drewNR | (refine Ext.trans' ?_ (by assumption)))))
        have ip := IntsAt.of_row hvp
        have io := io.ext hxp
        clear hxp hvp hEo
        go_wp2_with fail
        refine (Same_c _ _ _ _ _ (io.ext ?hx) (ip.ext ?hy) (HL.out k) (HL.out k)).mono ?_
        case hx => (repeat' (first | exact Ext.refl _ | assumption | apply Ext.allocR | apply Ext.drewR | apply Ext.drewNR | (refine Ext.trans' ?_ (by assumption))))
        case hy => (repeat' (first | exact Ext.refl _ | assumption | apply Ext.allocR | apply Ext.drewR | apply Ext.drewNR | (refine Ext.trans' ?_ (by assumption))))
        rintro e wq ⟨rfl, hxq⟩
        rw [decide_eq_true rfl]
        have hEq : Ext w7 wq := hEp.trans' (by (repeat' (first | exact Ext.refl _ | assumption | apply Ext.allocR | apply Ext.drewR | apply Ext.drewNR | (refine Ext.trans' ?_ (by assumption)))))
        clear hxq hEp io ip
        go_wp2
        go_roundw
        case rel => exact ⟨k + 1, by omega, by go_num, hE7.trans' hEq⟩
        case measure => simp [intOf]; omega
    · obtain rfl : k = B + 1 := by omega
      have hKr := HK.out.ext hEr
      have hUr := hEr.keep HU.out
      clear p0 p1 p2 p3 p4 p5 pl hPr
      go_wp2_with fail
      refine (KAt_no s g C B L _ _ (hKr.ext ?hx) _ (.inr (by omega))).mono ?_
      case hx => (repeat' (first | exact Ext.refl _ | assumption | apply Ext.allocR | apply Ext.drewR | apply Ext.drewNR | (refine Ext.trans' ?_ (by assumption))))
      rintro e wa ⟨rfl, rfl⟩
      go_wp2_with fail
      refine (KAt_no s g C B L _ _ (hKr.ext ?hx) _ (.inl (by decide))).mono ?_
      case hx => (repeat' (first | exact Ext.refl _ | assumption | apply Ext.allocR | apply Ext.drewR | apply Ext.drewNR | (refine Ext.trans' ?_ (by assumption))))
      rintro e wb ⟨rfl, rfl⟩
      clear c0
      have c0 := hCr.c0
      have c1 := hCr.c1
      have c2 := hCr.c2
      have c3 := hCr.c3
      have c4 := hCr.c4
      have u0 := (cell_of hUr 0).trans rfl
      have ul := lt_of hUr
      have hKey : ∀ W', Calls Try.prog 49 #[.agg #[.int .i64 C.bits, .int .i64 C.rows, .int .i64 C.width, .int .i64 C.mode, .int .u64 C.seed], .int .i64 0] W' fun e w' => e = .returned (.int .u64 (keys C 0)) ∧ Ext W' w' := fun W' => KeysR_c C hok 0 (Int.le_refl 0) (by omega) W'
      clear hCr hKr hUr
      by_cases he2 : E = 2
      · have hk2 := H2.out he2
        have hdk : decide (keys C 0 ≤ key) = true := decide_eq_true hk2
        subst he2
        generalize keys C 0 = N at *
        go_wp2
        refine wp_region_after (by kernel_rfl) (by kernel_rfl) ?_
        repeat (go_big_quiet_step ((go_at_call 49; with_reducible exact quiet_after (hKey _))))
        refine wpQuiet_nil ?_
        rintro _ ⟨xx, rfl⟩
        obtain ⟨wz, hz⟩ := xx
        try dsimp only
        go_wp2
        go_ret
        exact ⟨rfl, hE5.trans' (hEr.trans' (by (repeat' (first | exact Ext.refl _ | assumption | apply Ext.allocR | apply Ext.drewR | apply Ext.drewNR | (refine Ext.trans' ?_ (by assumption))))))⟩
      · have heb : (E == 2) = false := by simpa using he2
        have hec : (E != 2) = true := by simpa using he2
        have hed : (!(E == 2)) = true := by simpa using he2
        have hee : decide (E = 2) = false := by simpa using he2
        have hef : (2 = E) = False := by simp; omega
        go_wp2
        refine wp_region_after (by kernel_rfl) (by kernel_rfl) ?_
        repeat (go_big_quiet_step ((go_at_call 49; with_reducible exact quiet_after (hKey _))))
        refine wpQuiet_nil ?_
        rintro _ ⟨xx, rfl⟩
        obtain ⟨wz, hz⟩ := xx
        try dsimp only
        go_wp2
        go_ret
        exact ⟨rfl, hE5.trans' (hEr.trans' (by (repeat' (first | exact Ext.refl _ | assumption | apply Ext.allocR | apply Ext.drewR | apply Ext.drewNR | (refine Ext.trans' ?_ (by assumption))))))⟩
end Go.Proofs.Ytpnbgoahjoabkaa

/- What the arguments of the statements read as: a config, updates, a play. No condition. -/
namespace Go.Proofs.Ytpnbgoahjoabkaa
set_option linter.unusedVariables false
open Go.ChangeShapes Go.WideShapes Go.ChangeAt Go.RowKit Go.Deep

theorem wf_u64 {x : Int} (h : (Lit.int IntKind.u64 x).wf = true) : U64 x := by
  have := bounds_u64 h
  exact ⟨this.1, by omega⟩
theorem wf_i64 {x : Int} (h : (Lit.int IntKind.i64 x).wf = true) : I64 x := by
  have := bounds_i64 h
  exact ⟨this.1, by omega⟩
section
variable {H : Type} {enc : TypeId × Value → H} {w : World} {base : Nat} {spare : Nat → Bool} {held : Bool}
set_option maxRecDepth 100000 in
/-- Five cells that read as a config. -/
theorem cfg_of {n : Nat} {cs : List Value} {y : DataW H × List MemPlace} (h : DataW.trod enc Try.prog w base spare held n 24 cs = some y) :
    ∃ C : Cfg, C.Raw ∧ cs = [.int .i64 C.bits, .int .i64 C.rows, .int .i64 C.width, .int .i64 C.mode, .int .u64 C.seed] := by
  obtain ⟨xs, n, _, _, hl, hx, hg⟩ := DataW.trod_struct Try.underlying24 h
  have hl' : cs.length = 5 := hl.trans (by kernel_rfl)
  match cs, hl' with
  | [c0, c1, c2, c3, c4], _ =>
    have hx' : xs.length = 5 := hx.trans (by kernel_rfl)
    match xs, hx' with
    | [x0, x1, x2, x3, x4], _ =>
      have e0 : DataW.trod enc Try.prog w base spare held n 3 [c0] = some x0 := hg 0 _ rfl
      have e1 : DataW.trod enc Try.prog w base spare held n 3 [c1] = some x1 := hg 1 _ rfl
      have e2 : DataW.trod enc Try.prog w base spare held n 3 [c2] = some x2 := hg 2 _ rfl
      have e3 : DataW.trod enc Try.prog w base spare held n 3 [c3] = some x3 := hg 3 _ rfl
      have e4 : DataW.trod enc Try.prog w base spare held n 22 [c4] = some x4 := hg 4 _ rfl
      obtain ⟨a0, h0, _, w0⟩ := DataW.trod_int Try.underlying3 e0
      obtain ⟨a1, h1, _, w1⟩ := DataW.trod_int Try.underlying3 e1
      obtain ⟨a2, h2, _, w2⟩ := DataW.trod_int Try.underlying3 e2
      obtain ⟨a3, h3, _, w3⟩ := DataW.trod_int Try.underlying3 e3
      obtain ⟨a4, h4, _, w4⟩ := DataW.trod_int Try.underlying22 e4
      simp only [List.cons.injEq, and_true] at h0 h1 h2 h3 h4
      exact ⟨⟨a0, a1, a2, a3, a4⟩, ⟨wf_i64 w0, wf_i64 w1, wf_i64 w2, wf_i64 w3, wf_u64 w4⟩, by rw [h0, h1, h2, h3, h4]⟩
set_option maxRecDepth 100000 in
/-- Two cells that read as an update. -/
theorem upd_of {n : Nat} {cs : List Value} {y : DataW H × List MemPlace} (h : DataW.trod enc Try.prog w base spare held n 38 cs = some y) :
    ∃ u : Int × Int, (U64 u.1 ∧ I64 u.2) ∧ cs = [.int .u64 u.1, .int .i64 u.2] := by
  obtain ⟨xs, n, _, _, hl, hx, hg⟩ := DataW.trod_struct Try.underlying38 h
  have hl' : cs.length = 2 := hl.trans (by kernel_rfl)
  match cs, hl' with
  | [c0, c1], _ =>
    have hx' : xs.length = 2 := hx.trans (by kernel_rfl)
    match xs, hx' with
    | [x0, x1], _ =>
      have e0 : DataW.trod enc Try.prog w base spare held n 22 [c0] = some x0 := hg 0 _ rfl
      have e1 : DataW.trod enc Try.prog w base spare held n 2 [c1] = some x1 := hg 1 _ rfl
      obtain ⟨a0, h0, _, w0⟩ := DataW.trod_int Try.underlying22 e0
      obtain ⟨a1, h1, _, w1⟩ := DataW.trod_int Try.underlying2 e1
      simp only [List.cons.injEq, and_true] at h0 h1
      exact ⟨(a0, a1), ⟨wf_u64 w0, wf_i64 w1⟩, by rw [h0, h1]⟩
theorem add_plain0 (b off i : Nat) : (Addr.add ⟨b, off, none⟩ i) = ⟨b, off + i, none⟩ := by
  unfold Addr.add
  by_cases h : i = 0
  · subst h; simp
  · simp [h]
theorem choose_list {α : Type} (P : Nat → α → Prop) : ∀ n, (∀ i, i < n → ∃ x, P i x) → ∃ l : List α, l.length = n ∧ ∀ i (h : i < l.length), P i l[i] := by
  intro n
  induction n with
  | zero => intro _; exact ⟨[], rfl, fun i h => by simp at h⟩
  | succ n ih =>
    intro h
    obtain ⟨l, hl, hP⟩ := ih (fun i hi => h i (by omega))
    obtain ⟨x, hx⟩ := h n (by omega)
    refine ⟨l ++ [x], by simp [hl], fun i hi => ?_⟩
    by_cases e : i < l.length
    · rw [List.getElem_append_left e]; exact hP i e
    · have : i = n := by simp at hi; omega
      subst this
      rw [List.getElem_append_right (by omega)]
      simp [hl, hx]
/-- A cell that reads as a slice of updates. -/
theorem ups_of {n : Nat} {v : Value} {y : DataW H × List MemPlace} (h : DataW.trod enc Try.prog w 0 (fun _ => true) held n 25 [v] = some y) :
    ∃ us : List (Int × Int), UpsOk us ∧ UpsAt w v us ∧ (us = [] ∨ ∃ el sp : List (DataW H), y.1 = .slice el sp ∧ el.length = us.length) := by
  rcases open_slice Try.underlying25 h with ⟨hcs, _⟩ | ⟨a, len, cap, m, n', D, Pl, hcs, _, hlc, hcm, hm, hx, hi⟩
  · simp only [List.cons.injEq, and_true] at hcs
    subst hcs
    exact ⟨[], (by intro u hu; cases hu), .inl ⟨⟨_, rfl⟩, rfl⟩, .inl rfl⟩
  · simp only [List.cons.injEq, and_true] at hcs
    subst hcs
    simp only [if_true] at hm
    rw [hm] at hi hx
    clear hm
    have hC : Try.prog.cellsOf 38 = 2 := by kernel_rfl
    rw [hC] at hi
    have key : ∀ i, i < len → ∃ u : Int × Int, (U64 u.1 ∧ I64 u.2) ∧ w.cell? (a.add (i * 2)) = some (.int .u64 u.1) ∧ w.cell? (a.add (i * 2 + 1)) = some (.int .i64 u.2) := by
      intro i hil
      obtain ⟨cs', hc, ht⟩ := hi i (by omega)
      obtain ⟨u, hu, rfl⟩ := upd_of ht
      obtain ⟨_, _, hat⟩ := World.cells?_some hc
      refine ⟨u, hu, ?_, ?_⟩
      · have := hat 0 (by omega); rw [add_add, Nat.add_zero] at this; exact this
      · have := hat 1 (by omega); rw [add_add] at this; exact this
    obtain ⟨us, hul, hus⟩ := choose_list _ len key
    by_cases h0 : cap = 0
    · have hl0 : len = 0 := by omega
      subst hl0 h0
      obtain rfl : us = [] := List.length_eq_zero_iff.1 hul
      exact ⟨[], (by intro u hu; cases hu), .inl ⟨⟨_, rfl⟩, rfl⟩, .inl rfl⟩
    · obtain ⟨cs', hc, ht⟩ := hi 0 (by omega)
      obtain ⟨u, _, rfl⟩ := upd_of ht
      obtain ⟨_, _, hat⟩ := World.cells?_some hc
      have h1 := hat 0 (by omega)
      obtain ⟨b, off, spot⟩ := a
      have hspot : spot = none := by simpa [Addr.add] using World.cell?_spot h1
      subst hspot
      have hb : b < w.heap.size := by
        rcases Nat.lt_or_ge b w.heap.size with h' | h'
        · exact h'
        · simp [World.cell?, Addr.add, Array.getElem?_eq_none h'] at h1
      refine ⟨us, ?_, .inr ⟨b, off, cap, by rw [hul], hb, fun k hk => ?_⟩, .inr ⟨_, _, by rw [hx], by simp [hul]⟩⟩
      · intro u hu
        obtain ⟨i, hi', rfl⟩ := List.getElem_of_mem hu
        exact (hus i hi').1
      · have := (hus k hk).2
        have hg : us.getD k (0, 0) = us[k] := by simp [hk]
        rw [hg]
        rw [add_plain0, add_plain0] at this
        simpa only [Nat.add_assoc] using this
theorem reach_of {ts : List TypeId} {ds : List (DataW H)} {j : Nat} {t : TypeId} {d : DataW H} (hsz : (DataW.weightsEach Try.prog ts ds).all (· ≤ reachBytes) = true) (ht : ts[j]? = some t) (hd : ds[j]? = some d) {n : Nat} (hn : n ∈ d.weights Try.prog t) : n ≤ reachBytes := by
  have := List.all_eq_true.1 hsz _ (DataW.weights_mem_each ht hd n hn)
  simpa using this
end
end Go.Proofs.Ytpnbgoahjoabkaa

/- What a play of the later laws reads as. No condition. -/
namespace Go.Proofs.Ytpnbgoahjoabkaa
set_option linter.unusedVariables false
open Go.ChangeShapes Go.WideShapes Go.ChangeAt Go.RowKit Go.Deep

theorem own : ownKnob Try.prog.godebug = none := by kernel_rfl
theorem laidOut : laidOutB Try.prog = true := by kernel_rfl
section
variable {H : Type} {enc : TypeId × Value → H} {w : World} {held : Bool}
set_option maxRecDepth 100000 in
theorem cfgarg_of {r : Reach} {b0 : Nat} {v : Value} {d : DataW H} {p : List MemPlace} (hv : Value.okWide Try.prog w r b0 24 v) (h : DataW.Trod enc Try.prog w 0 (fun _ => true) held 24 v d p) :
    ∃ (x : Cfg), x.Raw ∧ v = .agg #[.int .i64 x.bits, .int .i64 x.rows, .int .i64 x.width, .int .i64 x.mode, .int .u64 x.seed] := by
  obtain ⟨cs, rfl, hsz⟩ := okWide_struct Try.underlying24 hv
  obtain ⟨fuel, hf⟩ := h
  obtain ⟨l⟩ := cs
  obtain ⟨x, hxr, hc⟩ := cfg_of hf
  have hc' : l = _ := hc
  subst hc'
  exact ⟨x, hxr, rfl⟩
set_option maxRecDepth 100000 in
theorem updarg_of {r : Reach} {b0 : Nat} {v : Value} {d : DataW H} {p : List MemPlace} (hv : Value.okWide Try.prog w r b0 38 v) (h : DataW.Trod enc Try.prog w 0 (fun _ => true) held 38 v d p) :
    ∃ (n m : Int), U64 n ∧ I64 m ∧ v = .agg #[.int .u64 n, .int .i64 m] := by
  obtain ⟨cs, rfl, hsz⟩ := okWide_struct Try.underlying38 hv
  obtain ⟨fuel, hf⟩ := h
  obtain ⟨l⟩ := cs
  obtain ⟨u, hu, hc⟩ := upd_of hf
  have hc' : l = _ := hc
  subst hc'
  exact ⟨u.1, u.2, hu.1, hu.2, rfl⟩
set_option maxRecDepth 100000 in
theorem play15_of {r : Reach} {b0 : Nat} {v : Value} {d : DataW H} {p : List MemPlace} (hv : Value.okWide Try.prog w r b0 64 v) (h : DataW.Trod enc Try.prog w 0 (fun _ => true) held 64 v d p) :
    ∃ (x : Cfg) (us : List (Int × Int)) (u : Value), x.Raw ∧ UpsOk us ∧ UpsAt w u us ∧ v = .agg #[.int .i64 x.bits, .int .i64 x.rows, .int .i64 x.width, .int .i64 x.mode, .int .u64 x.seed, u] ∧
      ∀ (ts : List TypeId) (ds : List (DataW H)) (j : Nat), (DataW.weightsEach Try.prog ts ds).all (· ≤ reachBytes) = true → ts[j]? = some 64 → ds[j]? = some d → us.length ≤ 140737488355328 := by
  obtain ⟨cs, rfl, hsz⟩ := okWide_struct Try.underlying64 hv
  obtain ⟨fuel, hf⟩ := h
  obtain ⟨l⟩ := cs
  obtain ⟨xs, n, _, hd, hl, hx, hg⟩ := DataW.trod_struct Try.underlying64 hf
  have hl' : l.length = 6 := hsz.trans (by kernel_rfl)
  match l, hl' with
  | [c0, c1, c2, c3, c4, c6], _ =>
    have hx' : xs.length = 2 := hx.trans (by kernel_rfl)
    match xs, hx' with
    | [x0, x2], _ =>
      have e0 : DataW.trod enc Try.prog w 0 (fun _ => true) held n 24 [c0, c1, c2, c3, c4] = some x0 := hg 0 _ rfl
      have e2 : DataW.trod enc Try.prog w 0 (fun _ => true) held n 25 [c6] = some x2 := hg 1 _ rfl
      obtain ⟨x, hxr, hc⟩ := cfg_of e0
      obtain ⟨us, hu, hat, hlen⟩ := ups_of e2
      simp only [List.cons.injEq, and_true] at hc
      obtain ⟨rfl, rfl, rfl, rfl, rfl⟩ := hc
      simp only [Prod.mk.injEq] at hd
      refine ⟨x, us, c6, hxr, hu, hat, rfl, fun ts ds j hs ht hj => ?_⟩
      rcases hlen with rfl | ⟨el, sp, hx2, hel⟩
      · simp
      · have hb : Try.prog.bytesOf 38 = 16 := by kernel_rfl
        have := reach_of hs ht hj (n := (el.length + sp.length) * Try.prog.bytesOf 38) (by
          rw [hd.1]
          simp [DataW.weights, DataW.weightsEach, hx2, Try.underlying64, Try.underlying25])
        rw [hb] at this
        simp only [reachBytes] at this
        omega
set_option maxRecDepth 100000 in
theorem cap_of {n : Nat} {v : Value} {y : DataW H × List MemPlace} (h : DataW.trod enc Try.prog w 0 (fun _ => true) held n 25 [v] = some y) : ∀ p n c, v = .slice p n c → n ≤ c := by
  rcases open_slice Try.underlying25 h with ⟨hcs, _⟩ | ⟨a, len, cap, m, n', D, Pl, hcs, _, hlc, _⟩
  · simp only [List.cons.injEq, and_true] at hcs
    rintro p n c rfl
    cases hcs
    exact Nat.le_refl _
  · simp only [List.cons.injEq, and_true] at hcs
    rintro p n c rfl
    cases hcs
    exact hlc
set_option maxRecDepth 100000 in
theorem cap15_of {r : Reach} {b0 : Nat} {v : Value} {d : DataW H} {p : List MemPlace} (hv : Value.okWide Try.prog w r b0 64 v) (h : DataW.Trod enc Try.prog w 0 (fun _ => true) held 64 v d p) :
    ∀ a0 a1 a2 a3 a4 u, v = .agg #[a0, a1, a2, a3, a4, u] → ∀ p n c, u = .slice p n c → n ≤ c := by
  obtain ⟨cs, rfl, hsz⟩ := okWide_struct Try.underlying64 hv
  obtain ⟨fuel, hf⟩ := h
  obtain ⟨l⟩ := cs
  obtain ⟨xs, n, _, hd, hl, hx, hg⟩ := DataW.trod_struct Try.underlying64 hf
  have hl' : l.length = 6 := hsz.trans (by kernel_rfl)
  match l, hl' with
  | [c0, c1, c2, c3, c4, c6], _ =>
    have hx' : xs.length = 2 := hx.trans (by kernel_rfl)
    match xs, hx' with
    | [x0, x2], _ =>
      have e2 : DataW.trod enc Try.prog w 0 (fun _ => true) held n 25 [c6] = some x2 := hg 1 _ rfl
      intro a0 a1 a2 a3 a4 u he
      have he' := Value.agg.inj he
      simp only [Array.mk.injEq, List.cons.injEq, and_true] at he'
      rw [← he'.2.2.2.2.2]
      exact cap_of e2
set_option maxRecDepth 100000 in
theorem play16_of {r : Reach} {b0 : Nat} {v : Value} {d : DataW H} {p : List MemPlace} (hv : Value.okWide Try.prog w r b0 97 v) (h : DataW.Trod enc Try.prog w 0 (fun _ => true) held 97 v d p) :
    ∃ (x : Cfg) (us : List (Int × Int)) (u : Value), x.Raw ∧ UpsOk us ∧ UpsAt w u us ∧ v = .agg #[.int .i64 x.bits, .int .i64 x.rows, .int .i64 x.width, .int .i64 x.mode, .int .u64 x.seed, u] ∧
      ∀ (ts : List TypeId) (ds : List (DataW H)) (j : Nat), (DataW.weightsEach Try.prog ts ds).all (· ≤ reachBytes) = true → ts[j]? = some 97 → ds[j]? = some d → us.length ≤ 140737488355328 := by
  obtain ⟨cs, rfl, hsz⟩ := okWide_struct Try.underlying97 hv
  obtain ⟨fuel, hf⟩ := h
  obtain ⟨l⟩ := cs
  obtain ⟨xs, n, _, hd, hl, hx, hg⟩ := DataW.trod_struct Try.underlying97 hf
  have hl' : l.length = 6 := hsz.trans (by kernel_rfl)
  match l, hl' with
  | [c0, c1, c2, c3, c4, c6], _ =>
    have hx' : xs.length = 2 := hx.trans (by kernel_rfl)
    match xs, hx' with
    | [x0, x2], _ =>
      have e0 : DataW.trod enc Try.prog w 0 (fun _ => true) held n 24 [c0, c1, c2, c3, c4] = some x0 := hg 0 _ rfl
      have e2 : DataW.trod enc Try.prog w 0 (fun _ => true) held n 25 [c6] = some x2 := hg 1 _ rfl
      obtain ⟨x, hxr, hc⟩ := cfg_of e0
      obtain ⟨us, hu, hat, hlen⟩ := ups_of e2
      simp only [List.cons.injEq, and_true] at hc
      obtain ⟨rfl, rfl, rfl, rfl, rfl⟩ := hc
      simp only [Prod.mk.injEq] at hd
      refine ⟨x, us, c6, hxr, hu, hat, rfl, fun ts ds j hs ht hj => ?_⟩
      rcases hlen with rfl | ⟨el, sp, hx2, hel⟩
      · simp
      · have hb : Try.prog.bytesOf 38 = 16 := by kernel_rfl
        have := reach_of hs ht hj (n := (el.length + sp.length) * Try.prog.bytesOf 38) (by
          rw [hd.1]
          simp [DataW.weights, DataW.weightsEach, hx2, Try.underlying97, Try.underlying25])
        rw [hb] at this
        simp only [reachBytes] at this
        omega
set_option maxRecDepth 100000 in
theorem play17_of {r : Reach} {b0 : Nat} {v : Value} {d : DataW H} {p : List MemPlace} (hv : Value.okWide Try.prog w r b0 109 v) (h : DataW.Trod enc Try.prog w 0 (fun _ => true) held 109 v d p) :
    ∃ (x : Cfg) (us : List (Int × Int)) (u : Value), x.Raw ∧ UpsOk us ∧ UpsAt w u us ∧ v = .agg #[.int .i64 x.bits, .int .i64 x.rows, .int .i64 x.width, .int .i64 x.mode, .int .u64 x.seed, u] ∧
      ∀ (ts : List TypeId) (ds : List (DataW H)) (j : Nat), (DataW.weightsEach Try.prog ts ds).all (· ≤ reachBytes) = true → ts[j]? = some 109 → ds[j]? = some d → us.length ≤ 140737488355328 := by
  obtain ⟨cs, rfl, hsz⟩ := okWide_struct Try.underlying109 hv
  obtain ⟨fuel, hf⟩ := h
  obtain ⟨l⟩ := cs
  obtain ⟨xs, n, _, hd, hl, hx, hg⟩ := DataW.trod_struct Try.underlying109 hf
  have hl' : l.length = 6 := hsz.trans (by kernel_rfl)
  match l, hl' with
  | [c0, c1, c2, c3, c4, c6], _ =>
    have hx' : xs.length = 2 := hx.trans (by kernel_rfl)
    match xs, hx' with
    | [x0, x2], _ =>
      have e0 : DataW.trod enc Try.prog w 0 (fun _ => true) held n 24 [c0, c1, c2, c3, c4] = some x0 := hg 0 _ rfl
      have e2 : DataW.trod enc Try.prog w 0 (fun _ => true) held n 25 [c6] = some x2 := hg 1 _ rfl
      obtain ⟨x, hxr, hc⟩ := cfg_of e0
      obtain ⟨us, hu, hat, hlen⟩ := ups_of e2
      simp only [List.cons.injEq, and_true] at hc
      obtain ⟨rfl, rfl, rfl, rfl, rfl⟩ := hc
      simp only [Prod.mk.injEq] at hd
      refine ⟨x, us, c6, hxr, hu, hat, rfl, fun ts ds j hs ht hj => ?_⟩
      rcases hlen with rfl | ⟨el, sp, hx2, hel⟩
      · simp
      · have hb : Try.prog.bytesOf 38 = 16 := by kernel_rfl
        have := reach_of hs ht hj (n := (el.length + sp.length) * Try.prog.bytesOf 38) (by
          rw [hd.1]
          simp [DataW.weights, DataW.weightsEach, hx2, Try.underlying109, Try.underlying25])
        rw [hb] at this
        simp only [reachBytes] at this
        omega
set_option maxRecDepth 100000 in
theorem play13_of {r : Reach} {b0 : Nat} {v : Value} {d : DataW H} {p : List MemPlace} (hv : Value.okWide Try.prog w r b0 118 v) (h : DataW.Trod enc Try.prog w 0 (fun _ => true) held 118 v d p) :
    ∃ (x : Cfg) (lv : Int) (us : List (Int × Int)) (u : Value), x.Raw ∧ I64 lv ∧ UpsOk us ∧ UpsAt w u us ∧ v = .agg #[.int .i64 x.bits, .int .i64 x.rows, .int .i64 x.width, .int .i64 x.mode, .int .u64 x.seed, .int .i64 lv, u] ∧
      ∀ (ts : List TypeId) (ds : List (DataW H)) (j : Nat), (DataW.weightsEach Try.prog ts ds).all (· ≤ reachBytes) = true → ts[j]? = some 118 → ds[j]? = some d → us.length ≤ 140737488355328 := by
  obtain ⟨cs, rfl, hsz⟩ := okWide_struct Try.underlying118 hv
  obtain ⟨fuel, hf⟩ := h
  obtain ⟨l⟩ := cs
  obtain ⟨xs, n, _, hd, hl, hx, hg⟩ := DataW.trod_struct Try.underlying118 hf
  have hl' : l.length = 7 := hsz.trans (by kernel_rfl)
  match l, hl' with
  | [c0, c1, c2, c3, c4, c5, c6], _ =>
    have hx' : xs.length = 3 := hx.trans (by kernel_rfl)
    match xs, hx' with
    | [x0, x1, x2], _ =>
      have e0 : DataW.trod enc Try.prog w 0 (fun _ => true) held n 24 [c0, c1, c2, c3, c4] = some x0 := hg 0 _ rfl
      have e1 : DataW.trod enc Try.prog w 0 (fun _ => true) held n 3 [c5] = some x1 := hg 1 _ rfl
      have e2 : DataW.trod enc Try.prog w 0 (fun _ => true) held n 25 [c6] = some x2 := hg 2 _ rfl
      obtain ⟨x, hxr, hc⟩ := cfg_of e0
      obtain ⟨lv, h1, _, w1⟩ := DataW.trod_int Try.underlying3 e1
      obtain ⟨us, hu, hat, hlen⟩ := ups_of e2
      simp only [List.cons.injEq, and_true] at hc h1
      obtain ⟨rfl, rfl, rfl, rfl, rfl⟩ := hc
      subst h1
      simp only [Prod.mk.injEq] at hd
      refine ⟨x, lv, us, c6, hxr, wf_i64 w1, hu, hat, rfl, fun ts ds j hs ht hj => ?_⟩
      rcases hlen with rfl | ⟨el, sp, hx2, hel⟩
      · simp
      · have hb : Try.prog.bytesOf 38 = 16 := by kernel_rfl
        have := reach_of hs ht hj (n := (el.length + sp.length) * Try.prog.bytesOf 38) (by
          rw [hd.1]
          simp [DataW.weights, DataW.weightsEach, hx2, Try.underlying118, Try.underlying25])
        rw [hb] at this
        simp only [reachBytes] at this
        omega
end
end Go.Proofs.Ytpnbgoahjoabkaa

/- StackWhole: an update that is refused changes nothing at any level; a copy is a stack of its own, and so is a level that is told. No condition: every input. -/
namespace Go.Proofs.Ytpnbgoahjoabkaa
set_option linter.unusedVariables false
open Go.ChangeShapes Go.WideShapes Go.ChangeAt Go.RowKit

set_option maxRecDepth 100000 in
theorem stackWhole_lifted (os : Os) (started : os.Started) (H : Type) (enc : TypeId × Value → H) :
    ReturnsInHanded {} Try.checked os 10 .any (Rows.stackWholeSpec.pre6 enc Try.prog Try.f10 Rows.stackWholeRow.domain false) (Rows.stackWholeSpec.post enc Try.prog Try.f10 false true false false) := by
  refine returnsInHanded_of_change_sized (C := Try.checked) own started (by kernel_rfl) Try.func10
    (ChangeSpec.witness6 (enc := enc) (C := Try.checked) false ⟨#[], #[.agg #[.int .i64 0, .int .i64 0, .int .i64 0, .int .i64 0, .int .u64 0, .slice none 0 0], .agg #[.int .u64 0, .int .i64 0]], []⟩ 8 (by kernel_rfl) (by kernel_rfl) (by kernel_rfl) (by kernel_rfl)) ?_
  intro W base args ds gs before hval0 hW hcnd hsz0 _
  have hval : ∀ (j : Nat) t v, Try.f10.params[j]? = some t → args[j]? = some v → Value.okWide Try.prog W .any base t v := hval0
  have hW' := hW
  obtain ⟨p, q, hA0, hV, rfl, hfz, hnd⟩ := hW
  have hA : DataW.TrodAll enc Try.prog W 0 (fun _ => true) true Try.f10.params.toList args.toList ds p := hA0
  have hsz : (DataW.weightsEach Try.prog (Try.f10.params.toList ++ Rows.stackWholeSpec.plain.varTypes Try.prog) (ds ++ gs)).all (· ≤ reachBytes) = true := hsz0
  rw [Try.params10] at hA hval hsz
  obtain ⟨v0, vs0, d0, ds0, p0, q0, hargs, rfl, rfl, h0, r0⟩ := trodAll_cons hA
  obtain ⟨v1, vs1, d1, ds1, p1, q1, rfl, rfl, rfl, h1, r1⟩ := trodAll_cons r0
  obtain ⟨rfl, rfl, rfl⟩ := trodAll_nil r1
  obtain rfl : args = #[v0, v1] := by cases args; simp_all
  obtain ⟨rfl, rfl⟩ := trodVars_none hV
  have k0 := h0
  have k1 := h1
  have lt0 : ∀ x ∈ p0, x.block < W.heap.size := by obtain ⟨m, hm⟩ := k0; exact DataW.trod_lt m _ _ _ hm
  have lt1 : ∀ x ∈ p1, x.block < W.heap.size := by obtain ⟨m, hm⟩ := k1; exact DataW.trod_lt m _ _ _ hm
  obtain ⟨x0, us0, u0, hx0, hus0, hat0, rfl, hr0⟩ := play15_of (hval 0 _ v0 rfl rfl) h0
  have hul0 := hr0 _ _ 0 hsz rfl rfl
  obtain ⟨n1, m1, hn1, hm1, rfl⟩ := updarg_of (hval 1 _ v1 rfl rfl) h1
  clear hA0 hval0
  refine (WholeL_c x0 hx0 n1 m1 hn1 hm1 us0 hus0 u0 W hat0 hul0).mono fun e W' ⟨he, bel⟩ => ?_
  subst he
  exact ⟨_, rfl, _, _, _, [], _, [], hW', trodAll_mk1 (shut_bool Try.underlying4 _), (trodAll_cons_mk (Below.trod laidOut (by kernel_rfl) (of_decide_eq_true (by kernel_rfl)) k0 bel lt0) (trodAll_cons_mk (Below.trod laidOut (by kernel_rfl) (of_decide_eq_true (by kernel_rfl)) k1 bel lt1) trodAll_mk0)), rfl, bel.frame _, fun h => by cases h⟩
end Go.Proofs.Ytpnbgoahjoabkaa
