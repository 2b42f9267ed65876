/- LevelJoins: merged, two levels are one that was fed all, but in the mode Conservative; subtracted again, the first one. No condition: every input. -/
import Derived.Test.YtpnbgoahjoabkaaL15
import Derived.Test.YtpnbgoahjoabkaaL14
import Derived.Test.YtpnbgoahjoabkaaL10

/- gaugerlaw13.LevelJoins, walked. -/
namespace Go.Proofs.Ytpnbgoahjoabkaa
set_option linter.unusedVariables false
open Go.RowKit
theorem plusL_fit {B : Int} {l m : List Int} (h : Bnd B l) (h2 : Bnd B m) (hB : 0 ≤ B) (hs : B ≤ 4611686018427387903) : allI (plusL l m) := by
  intro x hx
  unfold plusL at hx
  rw [List.mem_map] at hx
  obtain ⟨i, _, rfl⟩ := hx
  have h3 := h.getD hB i
  have h4 := h2.getD hB i
  unfold I64
  constructor <;> omega
theorem Bnd.mono {B B' : Int} {l : List Int} (h : Bnd B l) (hB : B ≤ B') : Bnd B' l := fun x hx => by have := h x hx; omega
theorem LAsSketch_x {C : Cfg} {lv : Int} (h : isX C lv = true) (L : Lev) (w : World) : Calls Try.prog 66 #[.iface (lvT C lv) (.pointer (some ⟨L.s, 0, none⟩))] w fun e w' => e = .returned (.tuple #[.pointer none, .bool false]) ∧ w = w' := by
  rw [← lvV_eq, lvV_x h]; exact AsSketch_x _ _
theorem LAsSketch_s {C : Cfg} {lv : Int} (h : isX C lv = false) (L : Lev) (w : World) : Calls Try.prog 66 #[.iface (lvT C lv) (.pointer (some ⟨L.s, 0, none⟩))] w fun e w' => e = .returned (.tuple #[.pointer (some ⟨L.s, 0, none⟩), .bool true]) ∧ w = w' := by
  rw [← lvV_eq, lvV_s h]; exact AsSketch_s _ _
set_option maxRecDepth 20000 in
set_option maxHeartbeats 8000000 in
theorem LJoinsL_c (x : Cfg) (hx : x.Raw) (part : Int) (hpart : I64 part) (lv : Int) (hlv : I64 lv) (us : List (Int × Int)) (hus : UpsOk us) (v : Value) (w : World) (hv : UpsAt w v us) (hul : us.length ≤ 140737488355328) :
    Calls Try.prog 23 #[.agg #[.int .i64 x.bits, .int .i64 x.rows, .int .i64 x.width, .int .i64 x.mode, .int .u64 x.seed, .int .i64 lv, v], .int .i64 part] w fun e w' => e = .returned (.bool true) ∧ Ext w w' := by
  obtain ⟨vp, vc, rfl⟩ := hv.sl
  have HV := Lib.hid hv
  have h16 := and16 part
  have h1 := Int.emod_nonneg (part % 65536) (show (61 : Int) ≠ 0 by decide)
  have h2 := Int.emod_lt_of_pos (part % 65536) (show (0 : Int) < 61 by decide)
  obtain ⟨k, hk⟩ : ∃ k : Nat, part % 65536 % 61 = k := ⟨(part % 65536 % 61).toNat, by omega⟩
  have HK := Lib.hid hk
  have hk60 : k ≤ 60 := by omega
  clear hv hk h1 h2
  go_enter Try.func23, Try.ntmps23
  go_wp2_with fail
  refine (shown13_c _).mono ?_
  rintro e w1 ⟨rfl, hb1⟩
  have hE1 : Ext w w1 := by (repeat' (first | exact Ext.refl _ | assumption | apply Ext.allocR | apply Ext.drewR | apply Ext.drewNR | (refine Ext.trans' ?_ (by assumption))))
  have hP1 := hb1.keep (heap_at w (.cells #[.int .i64 x.bits, .int .i64 x.rows, .int .i64 x.width, .int .i64 x.mode, .int .u64 x.seed, .int .i64 lv, .slice vp us.length vc] 118) rfl)
  have p0 := (cell_of hP1 0).trans rfl
  have p1 := (cell_of hP1 1).trans rfl
  have p2 := (cell_of hP1 2).trans rfl
  have p3 := (cell_of hP1 3).trans rfl
  have p4 := (cell_of hP1 4).trans rfl
  have p5 := (cell_of hP1 5).trans rfl
  have p6 := (cell_of hP1 6).trans rfl
  have pl := lt_of hP1
  clear hb1
  go_wp2_with fail
  rw [HK.out]
  refine Calls.mono (fed13_c x hx 8 (by decide) (by decide) lv hlv us hus _ 0 k (by omega) hk60 _ (HV.out.ext hE1) hul) ?_
  rintro e w2 ⟨L, rfl, hL, hLs, hLb, hLc, hx2⟩
  have hok := mkC_ok x hx.s (nb := 8) (nw := 9) (by decide) (by decide) (by decide) (by decide)
  have HOK := Lib.hid hok
  generalize hCC : mkC x 8 9 = C at *
  obtain ⟨lb1, lb2⟩ := vlv_bd hok lv
  generalize hVV : vlv C lv = V at *
  have HCC := Lib.hid (And.intro hCC hVV)
  have hE2 : Ext w w2 := by (repeat' (first | exact Ext.refl _ | assumption | apply Ext.allocR | apply Ext.drewR | apply Ext.drewNR | (refine Ext.trans' ?_ (by assumption))))
  have hsw : w.heap.size ≤ L.c := Nat.le_trans hE1.size hLc
  have hL2 := hL.ltc
  have hP2 := hx2.keep hP1
  clear p0 p1 p2 p3 p4 p5 p6 pl hP1 hx2 hE1 hCC hVV
  go_upto_region 4 with (fail)
  obtain ⟨w3, hw3⟩ : ∃ w3, w2.alloc (.cells #[.int .i64 C.bits, .int .i64 C.rows, .int .i64 C.width, .int .i64 C.mode, .int .u64 C.seed] 24) = w3 := ⟨_, rfl⟩
  have hx3 : Ext w2 w3 := by rw [← hw3]; exact Ext.alloc' _ _
  have hC3 : CfgAt w3 w2.heap.size C := by rw [← hw3]; exact CfgAt.box C _ rfl
  rw [hw3]
  clear hw3
  have hE3 := hE2.trans' hx3
  have hP3 := hx3.keep hP2
  have HL3 := Lib.hid (hL.ext hx3)
  have p0 := (cell_of hP3 0).trans rfl
  have p1 := (cell_of hP3 1).trans rfl
  have p2 := (cell_of hP3 2).trans rfl
  have p3 := (cell_of hP3 3).trans rfl
  have p4 := (cell_of hP3 4).trans rfl
  have p5 := (cell_of hP3 5).trans rfl
  have p6 := (cell_of hP3 6).trans rfl
  have pl := lt_of hP3
  clear hL hP2 hE2 hx3 hLs hLb hLc
  go_wp2_with fail
  refine Calls.mono (fed13_c x hx 8 (by decide) (by decide) lv hlv us hus _ k 60 (by omega) (by decide) _ (HV.out.ext hE3) hul) ?_
  rw [HCC.out.1, HCC.out.2]
  rintro e w4 ⟨M, rfl, hM, hMs, hMb, hMc, hx4⟩
  have hE4 := hE3.trans' hx4
  have hP4 := hx4.keep hP3
  have HL4 := Lib.hid (HL3.out.ext hx4)
  have HC4 := Lib.hid (hC3.ext hx4)
  have hLlt := HL3.out.ltc
  have hLM : L.c < M.c := by omega
  have hCl := hC3.lt
  have hCM : w2.heap.size ≠ M.c := by omega
  have hsz34 := hx4.size
  clear p0 p1 p2 p3 p4 p5 p6 pl hP3 hx4 hC3 hE3 HL3
  go_upto_region 5 with (fail)
  obtain ⟨w5, hw5⟩ : ∃ w5, w4.alloc (.cells #[.int .i64 C.bits, .int .i64 C.rows, .int .i64 C.width, .int .i64 C.mode, .int .u64 C.seed] 24) = w5 := ⟨_, rfl⟩
  have hx5 : Ext w4 w5 := by rw [← hw5]; exact Ext.alloc' _ _
  rw [hw5]
  clear hw5
  have hE5 := hE4.trans' hx5
  have hP5 := hx5.keep hP4
  have HL5 := Lib.hid (HL4.out.ext hx5)
  have HM5 := Lib.hid (hM.ext hx5)
  have HC5 := Lib.hid (HC4.out.ext hx5)
  have p0 := (cell_of hP5 0).trans rfl
  have p1 := (cell_of hP5 1).trans rfl
  have p2 := (cell_of hP5 2).trans rfl
  have p3 := (cell_of hP5 3).trans rfl
  have p4 := (cell_of hP5 4).trans rfl
  have p5 := (cell_of hP5 5).trans rfl
  have p6 := (cell_of hP5 6).trans rfl
  have pl := lt_of hP5
  clear hM hP4 hE4 hx5 hMs hMb hMc HL4 HC4
  go_wp2_with fail
  refine Calls.mono (fed13_c x hx 8 (by decide) (by decide) lv hlv us hus _ 0 60 (by omega) (by decide) _ (HV.out.ext hE5) hul) ?_
  rw [HCC.out.1, HCC.out.2]
  rintro e w6 ⟨A, rfl, hA, hAs, hAb, hAc, hx6⟩
  have HMlt := HM5.out.ltc
  have hMA : M.c < A.c := by omega
  have HL6 := Lib.hid (HL5.out.ext hx6)
  have HM6 := Lib.hid (HM5.out.ext hx6)
  have HC6 := Lib.hid (HC5.out.ext hx6)
  have HE6 := Lib.hid (hE5.trans' hx6)
  have hCL : w2.heap.size ≠ L.c := by omega
  clear p0 p1 p2 p3 p4 p5 p6 pl hP5 hE5 hx6 hAs hAb hAc HL5 HM5 HC5
  go_upto_region 6 with (fail)
  obtain ⟨w7, hw7⟩ : ∃ w7, w6.alloc (.cells #[.int .i64 C.bits, .int .i64 C.rows, .int .i64 C.width, .int .i64 C.mode, .int .u64 C.seed] 24) = w7 := ⟨_, rfl⟩
  have hx7 : Ext w6 w7 := by rw [← hw7]; exact Ext.alloc' _ _
  rw [hw7]
  clear hw7
  have HE7 := Lib.hid (HE6.out.trans' hx7)
  have HL7 := Lib.hid (HL6.out.ext hx7)
  have HM7 := Lib.hid (HM6.out.ext hx7)
  have HA7 := Lib.hid (hA.ext hx7)
  have HC7 := Lib.hid (HC6.out.ext hx7)
  have hLM' : L.c ≠ M.c := by omega
  have hLA' : L.c ≠ A.c := by omega
  have f1 := fus_len us 0 k
  have f2 := fus_len us k 60
  have f3 := fus_cat us hk60
  have HL1 := Lib.hid (feedV_fit C V (fus us 0 k) (lvN C V) (by omega))
  have HF3 := Lib.hid (feedV_fit C V (fus us 0 60) (lvN C V) (by have := fus_len us 0 60; omega))
  have hplus := fun hm => feedV_plus C HOK.out V lb1 hm (fus us 0 k) (fus us k 60)
  rw [f3] at hplus
  have HPL := Lib.hid hplus
  have HPI := Lib.hid (show allI (plusL (feedV C V (fus us 0 k) (zs (lvN C V))) (feedV C V (fus us k 60) (zs (lvN C V)))) from plusL_fit ((feedV_bnd C V (fus us 0 k) (lvN C V)).mono (B' := 65970697666560) (by omega)) ((feedV_bnd C V (fus us k 60) (lvN C V)).mono (by omega)) (by decide) (by decide))
  have hlen1 : (feedV C V (fus us 0 k) (zs (lvN C V))).length = lvN C V := by rw [feedV_len, zs_len]
  have hlen2 : (feedV C V (fus us k 60) (zs (lvN C V))).length = lvN C V := by rw [feedV_len, zs_len]
  have hlen3 : (feedV C V (fus us 0 60) (zs (lvN C V))).length = lvN C V := by rw [feedV_len, zs_len]
  have hl1024 := lvN_le1 HOK.out V
  generalize feedV C V (fus us 0 k) (zs (lvN C V)) = la at *
  generalize feedV C V (fus us k 60) (zs (lvN C V)) = lb at *
  generalize feedV C V (fus us 0 60) (zs (lvN C V)) = lc at *
  have hmin : minusL (plusL la lb) lb = la := minus_plus (by omega)
  have HMIN := Lib.hid hmin
  have HLEN := Lib.hid (show la.length ≤ 1000000 ∧ lc.length ≤ 1000000 ∧ (plusL la lb).length ≤ 1000000 by rw [plusL_len]; omega)
  clear f1 f2 f3 hplus hmin hlen1 hlen2 hlen3 hl1024 hx7 hA HL6 HM6 HC6 HE6
  have mL := lvm_Cells C V (some ⟨L.s, 0, none⟩)
  have mA := lvm_Cells C V (some ⟨A.s, 0, none⟩)
  have eC := lve_Cells C V
  go_wp2_with fail
  refine Calls.mono (LCells_c C V L _ w7 HL7.out) ?_
  rintro e w8 ⟨v1, rfl, ho, _, hx8⟩
  obtain ⟨pv, cv, rfl⟩ := own_sl ho
  have HI := Lib.hid (IntsAt.of_row ho)
  have hLc7 := HL7.out.ltc
  have hne := own_ne ho (c := L.c) hLc7
  have HNE := Lib.hid hne
  clear ho
  have hmg := LMerge_c C V L M la lb w8 (HL7.out.ext hx8) (HM7.out.ext hx8)
  replace hmg := hmg.mono (R' := fun e w9 => e = .returned (.int .i64 0) ∧ LvAt w9 L C V (plusL la lb) ∧ Mod (fun k => k = L.c) w8 w9) (fun e w8 hr => by obtain ⟨_, h1, h2, h3⟩ := hr.resolve_right (fun h => h.1 HPI.out); exact ⟨h1, h2, h3⟩)
  rw [lvV_eq, lvV_eq] at hmg
  go_wp2_with fail
  refine Calls.mono hmg ?_
  rintro e w9 ⟨rfl, hL9, hm9⟩
  have hcL : ∃ cur, w8.heap[L.c]? = some (.cells cur 2 (0, 0)) := (HL7.out.ext hx8).isc
  have hM9 : LvAt w9 M C V lb := (HM7.out.ext hx8).mod hm9 (fun k hk _ => by obtain ⟨cur, hc⟩ := hcL; exact ⟨cur, by rw [hk]; exact hc⟩) (by show ¬ M.c = L.c; omega)
  have hA9 : LvAt w9 A C V lc := (HA7.out.ext hx8).mod hm9 (fun k hk _ => by obtain ⟨cur, hc⟩ := hcL; exact ⟨cur, by rw [hk]; exact hc⟩) (by show ¬ A.c = L.c; omega)
  have hI9 : IntsAt w9 _ la := HI.out.mod hm9 (fun g off n cap hv => hne g off _ cap hv)
  have hC9 := (HC7.out.ext hx8).mod hm9 (by omega)
  have hEw8 := HE7.out.trans' hx8
  have hEw9 : Ext w w9 := Below.trans hEw8 (hm9.below (B := w.heap.size) hEw8.size (fun k hk => by rw [hk]; exact hsw))
  clear hmg hm9 hcL hEw8 HC7 HA7 HM7 HL7 HI hne hx8 HE7
  have c3 := hC9.c3
  have cl := hC9.lt
  by_cases hmd : C.mode = 2
  · have hmd' : (C.mode == 2) = true := by simp [hmd]
    have HM' := Lib.hid hmd
    clear hmd
    cases hX : isX C V with
    | true =>
      have HX := Lib.hid hX
      clear hX
      go_wp2_with fail
      refine Calls.mono (LAsSketch_x HX.out L _) ?_
      rintro e wa ⟨rfl, rfl⟩
      have hsb := LSubtract_mode C V L M (plusL la lb) lb w9 hL9 hM9 HM'.out
      rw [lvV_eq, lvV_eq] at hsb
      go_wp2_with fail
      refine Calls.mono hsb ?_
      rintro e wb ⟨rfl, hxb⟩
      clear hsb
      go_wp2_with fail
      refine Calls.mono (LCells_c C V L _ wb (hL9.ext hxb)) ?_
      rintro e wc ⟨v2, rfl, ho2, _, hxc⟩
      obtain ⟨pv2, cv2, rfl⟩ := own_sl ho2
      have HI2 := Lib.hid (IntsAt.of_row ho2)
      clear ho2
      go_wp2_with fail
      refine Calls.mono (LCells_c C V A _ wc ((hA9.ext hxb).ext hxc)) ?_
      rintro e wd ⟨v3, rfl, ho3, _, hxd⟩
      obtain ⟨pv3, cv3, rfl⟩ := own_sl ho3
      have HI3 := Lib.hid (IntsAt.of_row ho3)
      clear ho3
      go_wp2_with fail
      refine Calls.mono (Same_c _ _ (plusL la lb) lc _ (HI2.out.ext hxd) HI3.out HLEN.out.2.2 HLEN.out.2.1) ?_
      rintro e we ⟨rfl, hxe⟩
      rw [decide_eq_true (HPL.out (.inl HX.out))]
      go_wp2
      go_ret
      exact ⟨rfl, hEw9.trans' (hxb.trans' (hxc.trans' (hxd.trans' hxe)))⟩
    | false =>
      have HX := Lib.hid hX
      clear hX
      go_wp2_with fail
      refine Calls.mono (LAsSketch_s HX.out L _) ?_
      rintro e wa ⟨rfl, rfl⟩
      have hsb := LSubtract_mode C V L M (plusL la lb) lb w9 hL9 hM9 HM'.out
      rw [lvV_eq, lvV_eq] at hsb
      go_wp2_with fail
      refine Calls.mono hsb ?_
      rintro e wb ⟨rfl, hxb⟩
      clear hsb
      go_wp2
      go_ret
      exact ⟨rfl, hEw9.trans' hxb⟩
  · have hmd' : (C.mode == 2) = false := by simpa using hmd
    have HM' := Lib.hid hmd
    clear hmd
    go_wp2_with fail
    refine Calls.mono (LCells_c C V L _ w9 hL9) ?_
    rintro e wc ⟨v2, rfl, ho2, _, hxc⟩
    obtain ⟨pv2, cv2, rfl⟩ := own_sl ho2
    have HI2 := Lib.hid (IntsAt.of_row ho2)
    clear ho2
    go_wp2_with fail
    refine Calls.mono (LCells_c C V A _ wc (hA9.ext hxc)) ?_
    rintro e wd ⟨v3, rfl, ho3, _, hxd⟩
    obtain ⟨pv3, cv3, rfl⟩ := own_sl ho3
    have HI3 := Lib.hid (IntsAt.of_row ho3)
    clear ho3
    go_wp2_with fail
    refine Calls.mono (Same_c _ _ (plusL la lb) lc _ (HI2.out.ext hxd) HI3.out HLEN.out.2.2 HLEN.out.2.1) ?_
    rintro e we ⟨rfl, hxe⟩
    rw [decide_eq_true (HPL.out (.inr HM'.out))]
    have hE9e := hxc.trans' (hxd.trans' hxe)
    have hLe := hL9.ext hE9e
    have hMe := hM9.ext hE9e
    have hIe := hI9.ext hE9e
    have hEwe := hEw9.trans' hE9e
    have hLclt := hL9.ltc
    have hsb := LSubtract_c C V L M (plusL la lb) lb we hLe hMe HM'.out
    rw [HMIN.out] at hsb
    replace hsb := hsb.mono (R' := fun e wf => e = .returned (.int .i64 0) ∧ LvAt wf L C V la ∧ Mod (fun k => k = L.c) we wf) (fun e w8 hr => by obtain ⟨_, h1, h2, h3⟩ := hr.resolve_right (fun h => h.1 HL1.out); exact ⟨h1, h2, h3⟩)
    rw [lvV_eq, lvV_eq] at hsb
    clear hL9 hM9 hA9 hI9 hEw9 c3 cl hC9 hLe hMe
    go_wp2_with fail
    refine Calls.mono hsb ?_
    rintro e wf ⟨rfl, hLf, hmf⟩
    have hIf : IntsAt wf _ la := hIe.mod hmf (fun g off n cap hv => HNE.out g off _ cap hv)
    have hEwf : Ext w wf := Below.trans hEwe (hmf.below (B := w.heap.size) hEwe.size (fun k hk => by rw [hk]; exact hsw))
    clear hsb hmf hIe hEwe
    go_wp2_with fail
    refine Calls.mono (LCells_c C V L _ wf hLf) ?_
    rintro e wg ⟨v4, rfl, ho4, _, hxg⟩
    obtain ⟨pv4, cv4, rfl⟩ := own_sl ho4
    have HI4 := Lib.hid (IntsAt.of_row ho4)
    clear ho4
    go_wp2_with fail
    refine Calls.mono (Same_c _ _ la la _ HI4.out (hIf.ext hxg) HLEN.out.1 HLEN.out.1) ?_
    rintro e wh ⟨rfl, hxh⟩
    rw [decide_eq_true (rfl : la = la)]
    go_wp2
    go_ret
    exact ⟨rfl, hEwf.trans' (hxg.trans' hxh)⟩
end Go.Proofs.Ytpnbgoahjoabkaa

/- LevelJoins: merged, two levels are one that was fed all, but in the mode Conservative; subtracted again, the first one. No condition: every input. -/
namespace Go.Proofs.Ytpnbgoahjoabkaa
set_option linter.unusedVariables false
open Go.ChangeShapes Go.WideShapes Go.ChangeAt Go.RowKit

set_option maxRecDepth 100000 in
theorem levelJoins_lifted (os : Os) (started : os.Started) (H : Type) (enc : TypeId × Value → H) :
    ReturnsInHanded {} Try.checked os 23 .any (Rows.levelJoinsSpec.pre6 enc Try.prog Try.f23 Rows.levelJoinsRow.domain false) (Rows.levelJoinsSpec.post enc Try.prog Try.f23 false true false false) := by
  refine returnsInHanded_of_change_sized (C := Try.checked) own started (by kernel_rfl) Try.func23
    (ChangeSpec.witness6 (enc := enc) (C := Try.checked) false ⟨#[], #[.agg #[.int .i64 0, .int .i64 0, .int .i64 0, .int .i64 0, .int .u64 0, .int .i64 0, .slice none 0 0], .int .i64 0], []⟩ 8 (by kernel_rfl) (by kernel_rfl) (by kernel_rfl) (by kernel_rfl)) ?_
  intro W base args ds gs before hval0 hW hcnd hsz0 _
  have hval : ∀ (j : Nat) t v, Try.f23.params[j]? = some t → args[j]? = some v → Value.okWide Try.prog W .any base t v := hval0
  have hW' := hW
  obtain ⟨p, q, hA0, hV, rfl, hfz, hnd⟩ := hW
  have hA : DataW.TrodAll enc Try.prog W 0 (fun _ => true) true Try.f23.params.toList args.toList ds p := hA0
  have hsz : (DataW.weightsEach Try.prog (Try.f23.params.toList ++ Rows.levelJoinsSpec.plain.varTypes Try.prog) (ds ++ gs)).all (· ≤ reachBytes) = true := hsz0
  rw [Try.params23] at hA hval hsz
  obtain ⟨v0, vs0, d0, ds0, p0, q0, hargs, rfl, rfl, h0, r0⟩ := trodAll_cons hA
  obtain ⟨v1, vs1, d1, ds1, p1, q1, rfl, rfl, rfl, h1, r1⟩ := trodAll_cons r0
  obtain ⟨rfl, rfl, rfl⟩ := trodAll_nil r1
  obtain rfl : args = #[v0, v1] := by cases args; simp_all
  obtain ⟨rfl, rfl⟩ := trodVars_none hV
  have k0 := h0
  have k1 := h1
  have lt0 : ∀ x ∈ p0, x.block < W.heap.size := by obtain ⟨m, hm⟩ := k0; exact DataW.trod_lt m _ _ _ hm
  have lt1 : ∀ x ∈ p1, x.block < W.heap.size := by obtain ⟨m, hm⟩ := k1; exact DataW.trod_lt m _ _ _ hm
  obtain ⟨x0, lv0, us0, u0, hx0, hlv0, hus0, hat0, rfl, hr0⟩ := play13_of (hval 0 _ v0 rfl rfl) h0
  have hul0 := hr0 _ _ 0 hsz rfl rfl
  obtain ⟨n1, rfl, _, _, wf1⟩ := open_int Try.underlying3 (hval 1 _ v1 rfl rfl) h1
  have hn1 := wf_i64 wf1
  clear hA0 hval0
  refine (LJoinsL_c x0 hx0 n1 hn1 lv0 hlv0 us0 hus0 u0 W hat0 hul0).mono fun e W' ⟨he, bel⟩ => ?_
  subst he
  exact ⟨_, rfl, _, _, _, [], _, [], hW', trodAll_mk1 (shut_bool Try.underlying4 _), (trodAll_cons_mk (Below.trod laidOut (by kernel_rfl) (of_decide_eq_true (by kernel_rfl)) k0 bel lt0) (trodAll_cons_mk (Below.trod laidOut (by kernel_rfl) (of_decide_eq_true (by kernel_rfl)) k1 bel lt1) trodAll_mk0)), rfl, bel.frame _, fun h => by cases h⟩
end Go.Proofs.Ytpnbgoahjoabkaa
