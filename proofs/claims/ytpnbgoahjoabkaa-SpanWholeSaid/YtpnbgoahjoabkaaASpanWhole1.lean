/- SpanWhole: in every mode all keys have Total, and one key what Point tells. No condition: every input. -/
import Derived.Test.YtpnbgoahjoabkaaL9
import Derived.Test.YtpnbgoahjoabkaaL10

/- gaugerlaw16.SpanWhole, walked. -/
namespace Go.Proofs.Ytpnbgoahjoabkaa
set_option linter.unusedVariables false
open Go.RowKit
set_option maxRecDepth 20000 in
set_option maxHeartbeats 8000000 in
theorem SWholeL_c (x : Cfg) (hx : x.Raw) (ka : Int) (hka : U64 ka) (us : List (Int × Int)) (hus : UpsOk us) (v : Value) (w : World) (hv : UpsAt w v us) (hul : us.length ≤ 140737488355328) :
    Calls Try.prog 20 #[.agg #[.int .i64 x.bits, .int .i64 x.rows, .int .i64 x.width, .int .i64 x.mode, .int .u64 x.seed, v], .int .u64 ka] w fun e w' => e = .returned (.bool true) ∧ Ext w w' := by
  obtain ⟨vp, vc, rfl⟩ := hv.sl
  have HV := Lib.hid hv
  clear hv
  go_enter Try.func20, Try.ntmps20
  go_wp2_with fail
  refine (shown16_c _).mono ?_
  rintro e w1 ⟨rfl, hb1⟩
  have hE1 : Ext w w1 := by (repeat' (first | exact Ext.refl _ | assumption | apply Ext.allocR | apply Ext.drewR | apply Ext.drewNR | (refine Ext.trans' ?_ (by assumption))))
  have hP1 := hb1.keep (heap_at w (.cells #[.int .i64 x.bits, .int .i64 x.rows, .int .i64 x.width, .int .i64 x.mode, .int .u64 x.seed, .slice vp us.length vc] 97) rfl)
  have p0 := (cell_of hP1 0).trans rfl
  have p1 := (cell_of hP1 1).trans rfl
  have p2 := (cell_of hP1 2).trans rfl
  have p3 := (cell_of hP1 3).trans rfl
  have p4 := (cell_of hP1 4).trans rfl
  have p5 := (cell_of hP1 5).trans rfl
  have pl := lt_of hP1
  clear hb1
  go_wp2_with fail
  refine Calls.mono (fed16_c x hx 10 (by decide) (by decide) 0 (by decide) (by decide) ka ka hka hka us hus _ _ (HV.out.ext hE1) hul) ?_
  rintro e w2 ⟨s, g, L, rfl, hK, hs, hg, hF, hx2⟩
  have hok := kcfg_ok x hx.s (nb := 10) (m := 0) (by decide) (by decide) (by decide)
  generalize kcfg x 10 0 = C at *
  have hb1 := hok.b1
  have hb2 := hok.b2
  obtain ⟨B, hB⟩ : ∃ B : Nat, C.bits = B := ⟨C.bits.toNat, by omega⟩
  have hBt : C.bits.toNat = B := by omega
  have hBd : B ≤ 59 := by omega
  rw [hBt] at hK
  have hE2 : Ext w w2 := by (repeat' (first | exact Ext.refl _ | assumption | apply Ext.allocR | apply Ext.drewR | apply Ext.drewNR | (refine Ext.trans' ?_ (by assumption))))
  have hkp := keys0_pow hB
  have hpw := pow_bd B hBd
  have hmod1 := Int.emod_lt_of_pos ka (b := keys C 0) (by omega)
  have hmod3 := Int.emod_nonneg ka (b := keys C 0) (by omega)
  generalize ka % keys C 0 = A at *
  rw [show min A A = A by omega, show max A A = A by omega]
  have hA64 : U64 A := by unfold U64; omega
  have hT := feed_total hok hB hus
  have hU := uniq_fed C B us
  have hR : ∀ W', Ext w2 W' → Calls Try.prog 73 #[.pointer (some ⟨s, 0, none⟩), .int .u64 A, .int .u64 A] W' (fun e w' => e = .returned (.tuple #[.int .i64 (ptK C B us 0 A), .int .i64 0]) ∧ Ext W' w') := fun W' h => by
    have := Range_c s g C B L _ W' (hK.ext h) _ hU (ptK_I64 C B us) A A hA64 hA64
    refine this.mono fun e w' h => ?_
    have := range_ok h (Int.le_refl A) (by omega) (cv_I64 hBd us A A)
    rw [cv_self] at this
    exact this
  have hR2 : ∀ W' K, K = keys C 0 → Ext w2 W' → Calls Try.prog 74 #[.pointer (some ⟨s, 0, none⟩), .int .u64 (K - 1)] W' (fun e w' => e = .returned (.tuple #[.int .i64 (hasK C us 60 B 0), .int .i64 0]) ∧ Ext W' w') := fun W' K e h => by
    subst e
    have := Rank_c s g C B L _ W' (hK.ext h) _ hU (ptK_I64 C B us) (keys C 0 - 1) (by unfold U64; omega)
    refine this.mono fun e w' h => ?_
    have := range_ok h (by omega) (by omega) (cv_I64 hBd us 0 _)
    rw [hkp, cv_all hok hB hus] at this
    exact this
  have hR3 : ∀ W' K, K = keys C 0 → Ext w2 W' → Calls Try.prog 74 #[.pointer (some ⟨s, 0, none⟩), .int .u64 K] W' (fun e w' => e = .returned (.tuple #[.int .i64 0, .int .i64 2]) ∧ Ext W' w') := fun W' K e h => by
    subst e
    have := Rank_c s g C B L _ W' (hK.ext h) _ hU (ptK_I64 C B us) (keys C 0) (by unfold U64; omega)
    exact this.mono fun e w' h => range_out h (by omega) (by omega)
  have hPt : ∀ W', Ext w2 W' → Calls Try.prog 53 #[.pointer (some ⟨s, 0, none⟩), .agg #[.int .i64 0, .int .u64 A]] W' (fun e w' => e = .returned (.tuple #[.int .i64 (ptK C B us 0 A), .int .i64 0]) ∧ Ext W' w') := fun W' h => by
    have := KPoint_c s g C B L _ W' (hK.ext h) 0 (Nat.zero_le _) A hmod3 hmod1
    refine this.mono fun e w' h => ?_
    obtain ⟨z, rfl, hz, hE⟩ := h
    rw [hU 0 A z (Nat.zero_le _) hmod3 hmod1 hz]
    exact ⟨rfl, hE⟩
  have hTt : ∀ W', Ext w2 W' → Calls Try.prog 54 #[.pointer (some ⟨s, 0, none⟩)] W' (fun e w' => e = .returned (.int .i64 (hasK C us 60 B 0)) ∧ Ext W' w') := fun W' h => by
    have := KTotal_c s g C B L _ W' (hK.ext h)
    rw [hT] at this
    exact this
  have hKy : ∀ W' K, K = keys C 0 → Calls Try.prog 49 #[.agg #[.int .i64 C.bits, .int .i64 C.rows, .int .i64 C.width, .int .i64 C.mode, .int .u64 C.seed], .int .i64 0] W' (fun e w' => e = .returned (.int .u64 K) ∧ Ext W' w') := fun W' K e => by subst e; exact KeysR_c C hok 0 (Int.le_refl 0) (by omega) W'
  obtain ⟨KN, hKN⟩ : ∃ KN, KN = keys C 0 := ⟨_, rfl⟩
  have HR := Lib.hid hR
  have HR2 := Lib.hid (fun W' => hR2 W' KN hKN)
  have HR3 := Lib.hid (fun W' => hR3 W' KN hKN)
  have HPT := Lib.hid hPt
  have HTT := Lib.hid hTt
  have HKY := Lib.hid (fun W' => hKy W' KN hKN)
  have hKN1 : 1 ≤ KN := by omega
  have hKN2 : KN ≤ 576460752303423488 := by omega
  generalize ptK C B us 0 A = PT at *
  generalize hasK C us 60 B 0 = T at *
  clear p0 p1 p2 p3 p4 p5 pl hP1 hx2 hE1 hs hg hF hB hBt hK hkp hmod1 hmod3 hR hR2 hR3 hPt hTt hKy hT hU hpw hKN
  go_upto_region 5 with (fail)
  obtain ⟨w3, hw3⟩ : ∃ w3, w2.alloc (.cells #[.int .i64 C.bits, .int .i64 C.rows, .int .i64 C.width, .int .i64 C.mode, .int .u64 C.seed] 24) = w3 := ⟨_, rfl⟩
  have hx3 : Ext w2 w3 := by rw [← hw3]; exact Ext.alloc' _ _
  have hC3 : CfgAt w3 w2.heap.size C := by rw [← hw3]; exact CfgAt.box C _ rfl
  rw [hw3]
  clear hw3
  have HC3 := Lib.hid hC3
  have c0 := hC3.c0
  have c1 := hC3.c1
  have c2 := hC3.c2
  have c3 := hC3.c3
  have c4 := hC3.c4
  have cl := hC3.lt
  clear hC3
  go_wp2_with fail
  refine (HKY.out _).mono ?_
  rintro e w4 ⟨rfl, hE4⟩
  clear c0 c1 c2 c3 c4 cl
  go_wp2_with fail
  refine (HR2.out _ (hx3.trans' hE4)).mono ?_
  rintro e w5 ⟨rfl, hx5⟩
  have hE5 : Ext w3 w5 := hE4.trans' hx5
  clear hx5 hE4 HR2
  go_wp2_with fail
  refine (HR.out _ (hx3.trans' hE5)).mono ?_
  rintro e w6 ⟨rfl, hx6⟩
  have hE6 : Ext w3 w6 := hE5.trans' hx6
  clear hx6 hE5 HR
  go_wp2_with fail
  refine (HPT.out _ (hx3.trans' hE6)).mono ?_
  rintro e w7 ⟨rfl, hx7⟩
  have hE7 : Ext w3 w7 := hE6.trans' hx7
  clear hx7 hE6 HPT
  have hC7 := HC3.out.ext hE7
  have c0 := hC7.c0
  have c1 := hC7.c1
  have c2 := hC7.c2
  have c3 := hC7.c3
  have c4 := hC7.c4
  have cl := hC7.lt
  clear hC7
  go_wp2_with fail
  refine (HKY.out _).mono ?_
  rintro e w8 ⟨rfl, hx8⟩
  have hE8 : Ext w3 w8 := hE7.trans' hx8
  clear hx8 hE7 c0 c1 c2 c3 c4 cl HKY
  go_wp2_with fail
  refine (HR3.out _ (hx3.trans' hE8)).mono ?_
  rintro e w9 ⟨rfl, hx9⟩
  have hE9 : Ext w3 w9 := hE8.trans' hx9
  clear hx9 hE8 HR3
  go_wp2_with fail
  refine (HTT.out _ (hx3.trans' hE9)).mono ?_
  rintro e w10 ⟨rfl, hx10⟩
  go_wp2
  go_ret
  exact ⟨rfl, (hE2.trans' hx3).trans' (hE9.trans' hx10)⟩
end Go.Proofs.Ytpnbgoahjoabkaa

/- SpanWhole: in every mode all keys have Total, and one key what Point tells. No condition: every input. -/
namespace Go.Proofs.Ytpnbgoahjoabkaa
set_option linter.unusedVariables false
open Go.ChangeShapes Go.WideShapes Go.ChangeAt Go.RowKit

set_option maxRecDepth 100000 in
theorem spanWhole_lifted (os : Os) (started : os.Started) (H : Type) (enc : TypeId × Value → H) :
    ReturnsInHanded {} Try.checked os 20 .any (Rows.spanWholeSpec.pre6 enc Try.prog Try.f20 Rows.spanWholeRow.domain false) (Rows.spanWholeSpec.post enc Try.prog Try.f20 false true false false) := by
  refine returnsInHanded_of_change_sized (C := Try.checked) own started (by kernel_rfl) Try.func20
    (ChangeSpec.witness6 (enc := enc) (C := Try.checked) false ⟨#[], #[.agg #[.int .i64 0, .int .i64 0, .int .i64 0, .int .i64 0, .int .u64 0, .slice none 0 0], .int .u64 0], []⟩ 8 (by kernel_rfl) (by kernel_rfl) (by kernel_rfl) (by kernel_rfl)) ?_
  intro W base args ds gs before hval0 hW hcnd hsz0 _
  have hval : ∀ (j : Nat) t v, Try.f20.params[j]? = some t → args[j]? = some v → Value.okWide Try.prog W .any base t v := hval0
  have hW' := hW
  obtain ⟨p, q, hA0, hV, rfl, hfz, hnd⟩ := hW
  have hA : DataW.TrodAll enc Try.prog W 0 (fun _ => true) true Try.f20.params.toList args.toList ds p := hA0
  have hsz : (DataW.weightsEach Try.prog (Try.f20.params.toList ++ Rows.spanWholeSpec.plain.varTypes Try.prog) (ds ++ gs)).all (· ≤ reachBytes) = true := hsz0
  rw [Try.params20] at hA hval hsz
  obtain ⟨v0, vs0, d0, ds0, p0, q0, hargs, rfl, rfl, h0, r0⟩ := trodAll_cons hA
  obtain ⟨v1, vs1, d1, ds1, p1, q1, rfl, rfl, rfl, h1, r1⟩ := trodAll_cons r0
  obtain ⟨rfl, rfl, rfl⟩ := trodAll_nil r1
  obtain rfl : args = #[v0, v1] := by cases args; simp_all
  obtain ⟨rfl, rfl⟩ := trodVars_none hV
  have k0 := h0
  have k1 := h1
  have lt0 : ∀ x ∈ p0, x.block < W.heap.size := by obtain ⟨m, hm⟩ := k0; exact DataW.trod_lt m _ _ _ hm
  have lt1 : ∀ x ∈ p1, x.block < W.heap.size := by obtain ⟨m, hm⟩ := k1; exact DataW.trod_lt m _ _ _ hm
  obtain ⟨x0, us0, u0, hx0, hus0, hat0, rfl, hr0⟩ := play16_of (hval 0 _ v0 rfl rfl) h0
  have hul0 := hr0 _ _ 0 hsz rfl rfl
  obtain ⟨n1, rfl, _, _, wf1⟩ := open_int Try.underlying22 (hval 1 _ v1 rfl rfl) h1
  have hn1 := wf_u64 wf1
  clear hA0 hval0
  refine (SWholeL_c x0 hx0 n1 hn1 us0 hus0 u0 W hat0 hul0).mono fun e W' ⟨he, bel⟩ => ?_
  subst he
  exact ⟨_, rfl, _, _, _, [], _, [], hW', trodAll_mk1 (shut_bool Try.underlying4 _), (trodAll_cons_mk (Below.trod laidOut (by kernel_rfl) (of_decide_eq_true (by kernel_rfl)) k0 bel lt0) (trodAll_cons_mk (Below.trod laidOut (by kernel_rfl) (of_decide_eq_true (by kernel_rfl)) k1 bel lt1) trodAll_mk0)), rfl, bel.frame _, fun h => by cases h⟩
end Go.Proofs.Ytpnbgoahjoabkaa
